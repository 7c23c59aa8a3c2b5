/- Writers and Readers with what is wrong with them; their refusals. -/
import Derived.Test.YtabibfabieghpaaGreatDoorTold
import Derived.Test.YtabibfabieghpaaGreatDoorAwake
namespace Go.Proofs.YtabibfabieghpaaGreatDoor
open Go.RowKit
def wrongV (r : Nat) (e : Int) : Value := if e = 0 then .nilIface else refV r
def wrongH (r : Nat) (e : Int) : Hp := if e = 0 then Hp.emp else Hp.blk r REF #[.int .i64 e]
/-- A Reader: what is left, and the number of what is wrong. -/
def Hp.rdr (b : Nat) (s : ByteArray) (e : Int) : Hp := Hp.ex fun r => Hp.all [Hp.reader b (wrongV r e) s, wrongH r e]
/-- A Writer likewise. -/
def Hp.wtr (b : Nat) (l : List UInt8) (e : Int) : Hp := Hp.ex fun r => Hp.all [Hp.writer b (wrongV r e) l, wrongH r e]
section
variable {E w : World} {L : List Hp} {b : Nat} {s : ByteArray} {l : List UInt8} {e : Int}
theorem wrongV_zero (r : Nat) : wrongV r 0 = .nilIface := if_pos rfl
theorem wrongH_zero (r : Nat) : wrongH r 0 = Hp.emp := if_pos rfl
theorem wrongV_pos (r : Nat) (he : e ≠ 0) : wrongV r e = refV r := if_neg he
theorem wrongH_pos (r : Nat) (he : e ≠ 0) : wrongH r e = Hp.blk r REF #[.int .i64 e] := if_neg he
theorem Own.ofRdr0 (h : Own E w (Hp.rdr b s 0 :: L)) : Own E w (Hp.reader b .nilIface s :: L) := by
  obtain ⟨r, hr⟩ := Own.ex.1 h
  have h2 := Own.star.1 hr
  rw [wrongV_zero, wrongH_zero] at h2
  exact Own.emp.1 h2.f1
theorem Own.toRdr0 (h : Own E w (Hp.reader b .nilIface s :: L)) : Own E w (Hp.rdr b s 0 :: L) := by
  refine Own.ex.2 ⟨0, Own.star.2 ?_⟩
  rw [wrongV_zero, wrongH_zero]
  exact (Own.emp.2 h).f1
theorem Own.ofRdr (he : e ≠ 0) (h : Own E w (Hp.rdr b s e :: L)) : ∃ r, Own E w (Hp.reader b (refV r) s :: Hp.blk r REF #[.int .i64 e] :: L) := by
  obtain ⟨r, hr⟩ := Own.ex.1 h
  have h2 := Own.star.1 hr
  rw [wrongV_pos r he, wrongH_pos r he] at h2
  exact ⟨r, h2⟩
theorem Own.toRdr (he : e ≠ 0) {r : Nat} (h : Own E w (Hp.reader b (refV r) s :: Hp.blk r REF #[.int .i64 e] :: L)) : Own E w (Hp.rdr b s e :: L) := by
  refine Own.ex.2 ⟨r, Own.star.2 ?_⟩
  rw [wrongV_pos r he, wrongH_pos r he]
  exact h
theorem Own.ofWtr (h : Own E w (Hp.wtr b l e :: L)) : ∃ r, Own E w (Hp.writer b (wrongV r e) l :: wrongH r e :: L) := by
  obtain ⟨r, hr⟩ := Own.ex.1 h
  exact ⟨r, Own.star.1 hr⟩
theorem Own.toWtr {r : Nat} (h : Own E w (Hp.writer b (wrongV r e) l :: wrongH r e :: L)) : Own E w (Hp.wtr b l e :: L) := Own.ex.2 ⟨r, Own.star.2 h⟩
theorem Own.ofWtr0 (h : Own E w (Hp.wtr b l 0 :: L)) : Own E w (Hp.writer b .nilIface l :: L) := by
  obtain ⟨r, h2⟩ := h.ofWtr
  rw [wrongV_zero, wrongH_zero] at h2
  exact Own.emp.1 h2.f1
theorem Own.toWtr0 (h : Own E w (Hp.writer b .nilIface l :: L)) : Own E w (Hp.wtr b l 0 :: L) := by
  refine Own.toWtr (r := 0) ?_
  rw [wrongV_zero, wrongH_zero]
  exact (Own.emp.2 h).f1
theorem Own.ofWtrN (he : e ≠ 0) (h : Own E w (Hp.wtr b l e :: L)) : ∃ r, Own E w (Hp.writer b (refV r) l :: Hp.blk r REF #[.int .i64 e] :: L) := by
  obtain ⟨r, h2⟩ := h.ofWtr
  rw [wrongV_pos r he, wrongH_pos r he] at h2
  exact ⟨r, h2⟩
theorem Own.toWtrN (he : e ≠ 0) {r : Nat} (h : Own E w (Hp.writer b (refV r) l :: Hp.blk r REF #[.int .i64 e] :: L)) : Own E w (Hp.wtr b l e :: L) := by
  refine Own.toWtr (r := r) ?_
  rw [wrongV_pos r he, wrongH_pos r he]
  exact h
end
/-- What is wrong first. -/
def orE (e c : Int) : Int := if e = 0 then c else e
section
variable {E : World} {L : List Hp}
theorem rrefuse_any (b : Nat) (s : ByteArray) (c : Int) (w : World) (hc : c ≠ 0) (h : Own E w (Hp.rdr b s 0 :: L)) :
    Calls Tryz.prog 136 #[.pointer (some ⟨b, 0, none⟩), .int .i64 c] w fun e w' => e = .returned (.tuple #[]) ∧ Own E w' (Hp.rdr b s c :: L) := by
  have h0 := h.ofRdr0
  unfold Hp.reader at h0
  have h1 := h0.alloc (.cells #[.int .i64 c] REF)
  have c1 := h1.f1.cell 1
  have f1 := h1.f1.frozen 1
  have h2 : Own E ((w.alloc (.cells #[.int .i64 c] REF)).setCell ⟨b, 1, none⟩ (refV w.heap.size)) (Hp.reader b (refV w.heap.size) s :: Hp.blk w.heap.size REF #[.int .i64 c] :: L) := h1.f1.set 1 _
  have H2 := Lib.hid (Own.toRdr hc h2)
  clear h h0 h1 h2
  go_enter Tryz.func136, Tryz.ntmps136
  go_wp2_with fail
  go_end0
  exact ⟨rfl, H2.out⟩
theorem wrefuse_any (b : Nat) (l : List UInt8) (e c : Int) (w : World) (hc : c ≠ 0) (h : Own E w (Hp.wtr b l e :: L)) :
    Calls Tryz.prog 135 #[.pointer (some ⟨b, 0, none⟩), .int .i64 c] w fun ev w' => ev = .returned (.tuple #[]) ∧ Own E w' (Hp.wtr b l (orE e c) :: L) := by
  by_cases he : e = 0
  · subst he
    rw [show orE 0 c = c from if_pos rfl]
    obtain ⟨v, h0⟩ := h.ofWtr0.ofWriter
    have c0 := h0.cell 1
    have h1 := h0.alloc (.cells #[.int .i64 c] REF)
    have c1 := h1.f1.cell 1
    have f1 := h1.f1.frozen 1
    have h2 : Own E ((w.alloc (.cells #[.int .i64 c] REF)).setCell ⟨b, 1, none⟩ (refV w.heap.size)) (Hp.blk b WT #[v, refV w.heap.size] :: Hp.blk w.heap.size REF #[.int .i64 c] :: Hp.row U8 1 v l.length (l.map V8') :: L) := h1.f1.set 1 _
    have H2 := Lib.hid (Own.toWtrN hc (Own.toWriter h2.f2.f1))
    clear h h0 h1 h2
    go_enter Tryz.func135, Tryz.ntmps135
    go_wp2_with fail
    go_end0
    exact ⟨rfl, H2.out⟩
  · rw [show orE e c = e from if_neg he]
    obtain ⟨r, hr⟩ := h.ofWtrN he
    obtain ⟨v, h0⟩ := hr.ofWriter
    have c0 := h0.cell 1
    have H := Lib.hid h
    clear h hr h0
    go_enter Tryz.func135, Tryz.ntmps135
    go_wp2_with fail
    go_end0
    exact ⟨rfl, H.out⟩
end
end Go.Proofs.YtabibfabieghpaaGreatDoor
