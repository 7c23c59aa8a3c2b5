/- codec.Reader: take, Num (fewer than eight bytes), Text, Done, where nothing is wrong. Reader.Text where it fits; latchkeylaw02.awake. Writers and Readers with what is wrong with them; their refusals. codec.Reader in every state: Num, Text, Raw, Left, Done. codec.Writer in every state: Num, Text, Raw, Done. Lists that the call owns, cut back to their length or not (slices.Clip), or empty at any place. Elements of one cell. No program in sight. Results that lie in owned blocks. No program in sight. More of regions that draw their order: several effectful operations that may come up at one time; a variable that is made. No program in sight. Parts of slices, in one law each: x[i:], x[:i], x[i:m]; no cases on what the slice is. No program in sight. -/
import Derived.Test.YtabibfabieghpaaGreatDoorPkz1
import Derived.Test.YtabibfabieghpaaGreatDoorPkOps
import Derived.Test.YtabibfabieghpaaGreatDoorPkz0
import Derived.Deep.Cut
namespace Go.Proofs.YtabibfabieghpaaGreatDoor
open Go.RowKit
/-- The front and the rest of a text. -/
abbrev frontB (s : ByteArray) (n : Nat) : ByteArray := s.extract 0 n
abbrev restB (s : ByteArray) (n : Nat) : ByteArray := s.extract n s.size
theorem front_data (s : ByteArray) (n : Nat) : (frontB s n).data.toList = s.data.toList.take n := by rw [Lib.extract_data]; simp
theorem rest_data (s : ByteArray) (n : Nat) : (restB s n).data.toList = s.data.toList.drop n := by
  rw [Lib.extract_data, List.take_of_length_le (by
    have : s.data.toList.length = s.size := rfl
    simp [this])]
theorem front_size (s : ByteArray) (n : Nat) (h : n ≤ s.size) : (frontB s n).size = n := by rw [ByteArray.size_extract]; omega
theorem rest_size (s : ByteArray) (n : Nat) : (restB s n).size = s.size - n := by rw [ByteArray.size_extract]; omega
theorem numL_lt (l : List UInt8) : numL l < 256 ^ l.length := by
  have h : ∀ (m : List UInt8) (n q : Nat), n < 256 ^ q → m.foldl (fun n c => n * 256 + c.toNat) n < 256 ^ (q + m.length) := by
    intro m
    induction m with
    | nil => intro n q hn; exact hn
    | cons c m ih =>
      intro n q hn
      have hc := c.toNat_lt
      have h2 := ih (n * 256 + c.toNat) (q + 1) (by rw [Nat.pow_succ]; omega)
      rw [List.length_cons, show q + (m.length + 1) = q + 1 + m.length by omega]
      exact h2
  have h2 := h l 0 0 (by omega)
  rw [Nat.zero_add] at h2
  exact h2
section
variable {E : World} {L : List Hp}
theorem take_any (b : Nat) (W : Value) (s : ByteArray) (n : Nat) (w : World) (hn : n ≤ s.size) (h : Own E w (Hp.reader b W s :: L)) :
    Calls Tryz.prog 138 #[.pointer (some ⟨b, 0, none⟩), .int .i64 n] w fun e w' => e = .returned (.string (frontB s n)) ∧ Own E w' (Hp.reader b W (restB s n) :: L) := by
  unfold Hp.reader at h
  have c0 : w.cell? ⟨b, 0, none⟩ = some (.string s) := h.cell 0
  have f0 := h.frozen 0
  have h2 : Own E (w.setCell ⟨b, 0, none⟩ (.string (restB s n))) (Hp.reader b W (restB s n) :: L) := h.set 0 _
  have H2 := Lib.hid h2
  have hni : (n : Int) ≤ s.size := by omega
  clear h h2
  go_enter Tryz.func138, Tryz.ntmps138
  go_wp2_with fail
  go_ret
  exact ⟨rfl, H2.out⟩
theorem rnum_any (b : Nat) (s : ByteArray) (n : Nat) (w : World) (h1 : 1 ≤ n) (h8 : n < 8) (hn : n ≤ s.size) (h : Own E w (Hp.reader b .nilIface s :: L)) :
    Calls Tryz.prog 121 #[.pointer (some ⟨b, 0, none⟩), .int .i64 n] w fun e w' => e = .returned (.int .i64 (numL (s.data.toList.take n) : Nat)) ∧ Own E w' (Hp.reader b .nilIface (restB s n) :: L) := by
  have c0 : w.cell? ⟨b, 0, none⟩ = some (.string s) := by unfold Hp.reader at h; exact h.cell 0
  have c1 : w.cell? ⟨b, 1, none⟩ = some .nilIface := by unfold Hp.reader at h; exact h.cell 1
  have hf := numL_lt (s.data.toList.take n)
  rw [List.length_take, Nat.min_eq_left (show n ≤ s.data.toList.length from hn)] at hf
  have hf2 : numL (frontB s n).data.toList < 9223372036854775808 := by
    rw [front_data]
    exact Nat.lt_of_lt_of_le hf (Nat.le_trans (Nat.pow_le_pow_right (by omega) (show n ≤ 7 by omega)) (by omega))
  have HF := Lib.hid hf2
  have H := Lib.hid h
  have i1 : ¬ (n : Int) < 1 := by omega
  have i2 : ¬ (8 : Int) < n := by omega
  have i3 : ¬ (s.size : Int) < n := by omega
  have i4 : ¬ (n : Int) = 8 := by omega
  have i5 : ((n : Int) == 8) = false := by rw [beq_eq_false_iff_ne]; exact i4
  have hfs := front_size s n hn
  have HFs := Lib.hid hfs
  have HFd := Lib.hid (front_data s n)
  clear hf hf2 h hfs
  go_enter Tryz.func121, Tryz.ntmps121
  go_wp2_with fail
  refine (take_any b .nilIface s n _ hn H.out).mono ?_
  rintro e w1 ⟨rfl, h2⟩
  go_wp2_with fail
  refine (number_any (frontB s n) _ (by rw [HFs.out]; omega) HF.out h2).mono ?_
  rintro e w2 ⟨rfl, h3⟩
  rw [HFd.out]
  go_wp2_with fail
  go_ret
  exact ⟨rfl, h3⟩
end
end Go.Proofs.YtabibfabieghpaaGreatDoor
namespace Go.Proofs.YtabibfabieghpaaGreatDoor
open Go.RowKit
section
variable {E : World} {L : List Hp}
set_option maxRecDepth 20000 in
theorem rtext_any (b : Nat) (s : ByteArray) (most n : Nat) (w : World) (hm : most ≤ 65535) (ha : ahead most ≤ s.size) (hn : numL (s.data.toList.take (ahead most)) = n) (hnm : n ≤ most) (hfit : ahead most + n ≤ s.size) (hs : s.size ≤ 1000000000000000) (h : Own E w (Hp.reader b .nilIface s :: L)) :
    Calls Tryz.prog 133 #[.pointer (some ⟨b, 0, none⟩), .int .i64 most] w fun e w' => e = .returned (.string (restB (frontB s (ahead most + n)) (ahead most))) ∧ Own E w' (Hp.reader b .nilIface (restB s (ahead most + n)) :: L) := by
  have c0 : w.cell? ⟨b, 0, none⟩ = some (.string s) := by unfold Hp.reader at h; exact h.cell 0
  have c1 : w.cell? ⟨b, 1, none⟩ = some .nilIface := by unfold Hp.reader at h; exact h.cell 1
  have ha2 : 1 ≤ ahead most ∧ ahead most ≤ 2 := by unfold ahead; split <;> omega
  have hf2 : numL (frontB s (ahead most)).data.toList = n := by rw [front_data]; exact hn
  have hfs := front_size s (ahead most) ha
  have hfs2 := front_size s (ahead most + n) hfit
  have H := Lib.hid h
  have HF := Lib.hid hf2
  have HFs := Lib.hid hfs
  have HFs2 := Lib.hid hfs2
  clear h hf2 hfs hfs2 hn
  have i1 : ¬ (most : Int) < 0 := by omega
  have i2 : ¬ (65535 : Int) < most := by omega
  go_enter Tryz.func133, Tryz.ntmps133
  go_wp2_with fail
  refine (length_any most _).mono ?_
  rintro e w1 ⟨rfl, rfl⟩
  generalize hae : ahead most = a at *
  have HAe := Lib.hid hae
  clear hae
  have i3 : ¬ (s.size : Int) < a := by omega
  have i4 : (a : Int) ≤ s.size := by omega
  go_wp2_with fail
  refine (number_any (frontB s a) _ (by rw [HFs.out]; omega) (by rw [HF.out]; omega) H.out).mono ?_
  rintro e w2 ⟨rfl, h2⟩
  rw [HF.out]
  have d0 : w2.cell? ⟨b, 0, none⟩ = some (.string s) := by unfold Hp.reader at h2; exact h2.cell 0
  have H2 := Lib.hid h2
  have i5 : ¬ (most : Int) < n := by omega
  have i6 : ¬ (s.size : Int) - a < n := by omega
  obtain ⟨k, hk⟩ : ∃ k, k = a + n := ⟨_, rfl⟩
  have i7 : (a : Int) + n = (k : Int) := by omega
  rw [← hk] at hfit HFs2
  have i8 : (a : Int) ≤ k := by omega
  have HK := Lib.hid hk
  have hak : a ≤ (frontB s k).size := by rw [HFs2.out]; omega
  have hfk := HFs2.out
  clear h2 c0 c1 hk
  go_wp2_with fail
  refine (take_any b .nilIface s k _ hfit H2.out).mono ?_
  rintro e w3 ⟨rfl, h3⟩
  have H3 := Lib.hid h3
  generalize hfr : frontB s k = fr at *
  have HFr := Lib.hid hfr
  clear h3 hfr
  go_wp2_with fail
  go_ret
  exact ⟨by rw [HAe.out, ← HK.out, HFr.out]; unfold restB; rw [hfk]; rfl, by rw [HAe.out, ← HK.out]; exact H3.out⟩
end
end Go.Proofs.YtabibfabieghpaaGreatDoor
namespace Go.Proofs.YtabibfabieghpaaGreatDoor
open Go.RowKit
def wrongV (r : Nat) (e : Int) : Value := if e = 0 then .nilIface else refV r
def wrongH (r : Nat) (e : Int) : Hp := if e = 0 then Hp.emp else Hp.blk r REF #[.int .i64 e]
/-- A Reader: what is left, and the number of what is wrong. -/
def Hp.rdr (b : Nat) (s : ByteArray) (e : Int) : Hp := Hp.ex fun r => Hp.all [Hp.reader b (wrongV r e) s, wrongH r e]
/-- A Writer likewise. -/
def Hp.wtr (b : Nat) (l : List UInt8) (e : Int) : Hp := Hp.ex fun r => Hp.all [Hp.writer b (wrongV r e) l, wrongH r e]
section
variable {E w : World} {L : List Hp} {b : Nat} {s : ByteArray} {l : List UInt8} {e : Int}
theorem wrongV_zero (r : Nat) : wrongV r 0 = .nilIface := if_pos rfl
theorem wrongH_zero (r : Nat) : wrongH r 0 = Hp.emp := if_pos rfl
theorem wrongV_pos (r : Nat) (he : e ≠ 0) : wrongV r e = refV r := if_neg he
theorem wrongH_pos (r : Nat) (he : e ≠ 0) : wrongH r e = Hp.blk r REF #[.int .i64 e] := if_neg he
theorem Own.ofRdr0 (h : Own E w (Hp.rdr b s 0 :: L)) : Own E w (Hp.reader b .nilIface s :: L) := by
  obtain ⟨r, hr⟩ := Own.ex.1 h
  have h2 := Own.star.1 hr
  rw [wrongV_zero, wrongH_zero] at h2
  exact Own.emp.1 h2.f1
theorem Own.toRdr0 (h : Own E w (Hp.reader b .nilIface s :: L)) : Own E w (Hp.rdr b s 0 :: L) := by
  refine Own.ex.2 ⟨0, Own.star.2 ?_⟩
  rw [wrongV_zero, wrongH_zero]
  exact (Own.emp.2 h).f1
theorem Own.ofRdr (he : e ≠ 0) (h : Own E w (Hp.rdr b s e :: L)) : ∃ r, Own E w (Hp.reader b (refV r) s :: Hp.blk r REF #[.int .i64 e] :: L) := by
  obtain ⟨r, hr⟩ := Own.ex.1 h
  have h2 := Own.star.1 hr
  rw [wrongV_pos r he, wrongH_pos r he] at h2
  exact ⟨r, h2⟩
theorem Own.toRdr (he : e ≠ 0) {r : Nat} (h : Own E w (Hp.reader b (refV r) s :: Hp.blk r REF #[.int .i64 e] :: L)) : Own E w (Hp.rdr b s e :: L) := by
  refine Own.ex.2 ⟨r, Own.star.2 ?_⟩
  rw [wrongV_pos r he, wrongH_pos r he]
  exact h
theorem Own.ofWtr (h : Own E w (Hp.wtr b l e :: L)) : ∃ r, Own E w (Hp.writer b (wrongV r e) l :: wrongH r e :: L) := by
  obtain ⟨r, hr⟩ := Own.ex.1 h
  exact ⟨r, Own.star.1 hr⟩
theorem Own.toWtr {r : Nat} (h : Own E w (Hp.writer b (wrongV r e) l :: wrongH r e :: L)) : Own E w (Hp.wtr b l e :: L) := Own.ex.2 ⟨r, Own.star.2 h⟩
theorem Own.ofWtr0 (h : Own E w (Hp.wtr b l 0 :: L)) : Own E w (Hp.writer b .nilIface l :: L) := by
  obtain ⟨r, h2⟩ := h.ofWtr
  rw [wrongV_zero, wrongH_zero] at h2
  exact Own.emp.1 h2.f1
theorem Own.toWtr0 (h : Own E w (Hp.writer b .nilIface l :: L)) : Own E w (Hp.wtr b l 0 :: L) := by
  refine Own.toWtr (r := 0) ?_
  rw [wrongV_zero, wrongH_zero]
  exact (Own.emp.2 h).f1
theorem Own.ofWtrN (he : e ≠ 0) (h : Own E w (Hp.wtr b l e :: L)) : ∃ r, Own E w (Hp.writer b (refV r) l :: Hp.blk r REF #[.int .i64 e] :: L) := by
  obtain ⟨r, h2⟩ := h.ofWtr
  rw [wrongV_pos r he, wrongH_pos r he] at h2
  exact ⟨r, h2⟩
theorem Own.toWtrN (he : e ≠ 0) {r : Nat} (h : Own E w (Hp.writer b (refV r) l :: Hp.blk r REF #[.int .i64 e] :: L)) : Own E w (Hp.wtr b l e :: L) := by
  refine Own.toWtr (r := r) ?_
  rw [wrongV_pos r he, wrongH_pos r he]
  exact h
end
/-- What is wrong first. -/
def orE (e c : Int) : Int := if e = 0 then c else e
section
variable {E : World} {L : List Hp}
theorem rrefuse_any (b : Nat) (s : ByteArray) (c : Int) (w : World) (hc : c ≠ 0) (h : Own E w (Hp.rdr b s 0 :: L)) :
    Calls Tryz.prog 136 #[.pointer (some ⟨b, 0, none⟩), .int .i64 c] w fun e w' => e = .returned (.tuple #[]) ∧ Own E w' (Hp.rdr b s c :: L) := by
  have h0 := h.ofRdr0
  unfold Hp.reader at h0
  have h1 := h0.alloc (.cells #[.int .i64 c] REF)
  have c1 := h1.f1.cell 1
  have f1 := h1.f1.frozen 1
  have h2 : Own E ((w.alloc (.cells #[.int .i64 c] REF)).setCell ⟨b, 1, none⟩ (refV w.heap.size)) (Hp.reader b (refV w.heap.size) s :: Hp.blk w.heap.size REF #[.int .i64 c] :: L) := h1.f1.set 1 _
  have H2 := Lib.hid (Own.toRdr hc h2)
  clear h h0 h1 h2
  go_enter Tryz.func136, Tryz.ntmps136
  go_wp2_with fail
  go_end0
  exact ⟨rfl, H2.out⟩
theorem wrefuse_any (b : Nat) (l : List UInt8) (e c : Int) (w : World) (hc : c ≠ 0) (h : Own E w (Hp.wtr b l e :: L)) :
    Calls Tryz.prog 135 #[.pointer (some ⟨b, 0, none⟩), .int .i64 c] w fun ev w' => ev = .returned (.tuple #[]) ∧ Own E w' (Hp.wtr b l (orE e c) :: L) := by
  by_cases he : e = 0
  · subst he
    rw [show orE 0 c = c from if_pos rfl]
    obtain ⟨v, h0⟩ := h.ofWtr0.ofWriter
    have c0 := h0.cell 1
    have h1 := h0.alloc (.cells #[.int .i64 c] REF)
    have c1 := h1.f1.cell 1
    have f1 := h1.f1.frozen 1
    have h2 : Own E ((w.alloc (.cells #[.int .i64 c] REF)).setCell ⟨b, 1, none⟩ (refV w.heap.size)) (Hp.blk b WT #[v, refV w.heap.size] :: Hp.blk w.heap.size REF #[.int .i64 c] :: Hp.row U8 1 v l.length (l.map V8') :: L) := h1.f1.set 1 _
    have H2 := Lib.hid (Own.toWtrN hc (Own.toWriter h2.f2.f1))
    clear h h0 h1 h2
    go_enter Tryz.func135, Tryz.ntmps135
    go_wp2_with fail
    go_end0
    exact ⟨rfl, H2.out⟩
  · rw [show orE e c = e from if_neg he]
    obtain ⟨r, hr⟩ := h.ofWtrN he
    obtain ⟨v, h0⟩ := hr.ofWriter
    have c0 := h0.cell 1
    have H := Lib.hid h
    clear h hr h0
    go_enter Tryz.func135, Tryz.ntmps135
    go_wp2_with fail
    go_end0
    exact ⟨rfl, H.out⟩
end
end Go.Proofs.YtabibfabieghpaaGreatDoor
namespace Go.Proofs.YtabibfabieghpaaGreatDoor
open Go.RowKit
/-- Num: the answer, what is left, what is wrong. -/
def rNum (s : ByteArray) (e n : Int) : Int × ByteArray × Int :=
  if e ≠ 0 then (0, s, e)
  else if n < 1 ∨ 8 < n then (0, s, 1)
  else if (s.size : Int) < n then (0, s, 22)
  else if 9223372036854775808 ≤ numL (s.data.toList.take n.toNat) then (0, s, 20)
  else ((numL (s.data.toList.take n.toNat) : Nat), restB s n.toNat, 0)
def rText (s : ByteArray) (e n : Int) : ByteArray × ByteArray × Int :=
  if e ≠ 0 then (⟨#[]⟩, s, e)
  else if n < 0 ∨ 65535 < n then (⟨#[]⟩, s, 1)
  else if s.size < ahead n.toNat then (⟨#[]⟩, s, 22)
  else if n.toNat < numL (s.data.toList.take (ahead n.toNat)) then (⟨#[]⟩, s, 21)
  else if s.size < ahead n.toNat + numL (s.data.toList.take (ahead n.toNat)) then (⟨#[]⟩, s, 22)
  else (restB (frontB s (ahead n.toNat + numL (s.data.toList.take (ahead n.toNat)))) (ahead n.toNat), restB s (ahead n.toNat + numL (s.data.toList.take (ahead n.toNat))), 0)
def rRaw (s : ByteArray) (e n : Int) : ByteArray × ByteArray × Int :=
  if e ≠ 0 then (⟨#[]⟩, s, e)
  else if n < 0 then (⟨#[]⟩, s, 1)
  else if (s.size : Int) < n then (⟨#[]⟩, s, 22)
  else (frontB s n.toNat, restB s n.toNat, 0)
def rDone (s : ByteArray) (e : Int) : Int := if e ≠ 0 then e else if s.size = 0 then 0 else 23
theorem text_some {s : ByteArray} (h : ¬ s.size = 0) : s.toList.isEmpty = false := by
  rw [ByteArray.toList_eq, List.isEmpty_eq_false_iff]
  intro e
  have : s.data.toList.length = s.size := rfl
  rw [e] at this
  simp at this
  omega
theorem numL_cons (c : UInt8) (l : List UInt8) : numL (c :: l) = c.toNat * 256 ^ l.length + numL l := by
  have h : ∀ (m : List UInt8) (n : Nat), m.foldl (fun n c => n * 256 + c.toNat) n = n * 256 ^ m.length + m.foldl (fun n c => n * 256 + c.toNat) 0 := by
    intro m
    induction m with
    | nil => intro n; simp
    | cons d m ih =>
      intro n
      show m.foldl _ (n * 256 + d.toNat) = n * 256 ^ (m.length + 1) + m.foldl _ (0 * 256 + d.toNat)
      rw [ih (n * 256 + d.toNat), ih (0 * 256 + d.toNat), Nat.add_mul, Nat.zero_mul, Nat.zero_add, Nat.pow_succ, Nat.mul_assoc, Nat.mul_comm 256, Nat.add_assoc]
  unfold numL
  rw [List.foldl_cons, h l (0 * 256 + c.toNat), Nat.zero_mul, Nat.zero_add]
theorem numL_big (l : List UInt8) (h : l.length = 8) : 9223372036854775808 ≤ numL l ↔ 127 < (l.getD 0 0).toNat := by
  obtain ⟨c, m, rfl⟩ : ∃ c m, l = c :: m := by cases l with | nil => cases h | cons c m => exact ⟨c, m, rfl⟩
  have hm : m.length = 7 := by simpa using h
  have hb := numL_lt m
  rw [numL_cons, hm] at *
  have e7 : (256 : Nat) ^ 7 = 72057594037927936 := by rfl
  rw [e7] at *
  show _ ↔ 127 < c.toNat
  omega
section
variable {E : World} {L : List Hp}
theorem Own.rdr_text {w : World} {b : Nat} {s : ByteArray} {e : Int} (h : Own E w (Hp.rdr b s e :: L)) : w.cell? ⟨b, 0, none⟩ = some (.string s) := by
  by_cases he : e = 0
  · subst he
    have h2 := h.ofRdr0
    unfold Hp.reader at h2
    exact h2.cell 0
  · obtain ⟨r, h2⟩ := h.ofRdr he
    unfold Hp.reader at h2
    exact h2.cell 0
theorem Own.rdr_wrong {w : World} {b : Nat} {s : ByteArray} {e : Int} (he : e ≠ 0) (h : Own E w (Hp.rdr b s e :: L)) : ∃ r, w.cell? ⟨b, 1, none⟩ = some (refV r) := by
  obtain ⟨r, h2⟩ := h.ofRdr he
  unfold Hp.reader at h2
  exact ⟨r, h2.cell 1⟩
theorem Own.rdr_right {w : World} {b : Nat} {s : ByteArray} (h : Own E w (Hp.rdr b s 0 :: L)) : w.cell? ⟨b, 1, none⟩ = some .nilIface := by
  have h2 := h.ofRdr0
  unfold Hp.reader at h2
  exact h2.cell 1
set_option maxRecDepth 20000 in
set_option maxHeartbeats 2000000 in
theorem rnum_all (b : Nat) (s : ByteArray) (e n : Int) (v : Int) (s' : ByteArray) (e' : Int) (w : World) (hr : rNum s e n = (v, s', e')) (h : Own E w (Hp.rdr b s e :: L)) :
    Calls Tryz.prog 121 #[.pointer (some ⟨b, 0, none⟩), .int .i64 n] w fun ev w' => ev = .returned (.int .i64 v) ∧ Own E w' (Hp.rdr b s' e' :: L) := by
  have c0 := h.rdr_text
  have H := Lib.hid h
  unfold rNum at hr
  by_cases he : e ≠ 0
  · rw [if_pos he] at hr
    cases hr
    obtain ⟨r, c1⟩ := h.rdr_wrong he
    clear h he
    go_enter Tryz.func121, Tryz.ntmps121
    go_wp2_with fail
    go_ret
    exact ⟨rfl, H.out⟩
  rw [if_neg he] at hr
  obtain rfl : e = 0 := Decidable.not_not.1 he
  have c1 := h.rdr_right
  clear h he
  by_cases h1 : n < 1
  · rw [if_pos (.inl h1)] at hr
    cases hr
    go_enter Tryz.func121, Tryz.ntmps121
    go_wp2_with fail
    refine (rrefuse_any b s 1 _ (by decide) H.out).mono ?_
    rintro e w1 ⟨rfl, h2⟩
    go_wp2_with fail
    go_ret
    exact ⟨rfl, h2⟩
  by_cases h8 : 8 < n
  · rw [if_pos (.inr h8)] at hr
    cases hr
    go_enter Tryz.func121, Tryz.ntmps121
    go_wp2_with fail
    refine (rrefuse_any b s 1 _ (by decide) H.out).mono ?_
    rintro e w1 ⟨rfl, h2⟩
    go_wp2_with fail
    go_ret
    exact ⟨rfl, h2⟩
  rw [if_neg (by omega)] at hr
  by_cases hs : (s.size : Int) < n
  · rw [if_pos hs] at hr
    cases hr
    go_enter Tryz.func121, Tryz.ntmps121
    go_wp2_with fail
    refine (rrefuse_any b s 22 _ (by decide) H.out).mono ?_
    rintro e w1 ⟨rfl, h2⟩
    go_wp2_with fail
    go_ret
    exact ⟨rfl, h2⟩
  rw [if_neg hs] at hr
  obtain ⟨k, rfl⟩ : ∃ k : Nat, n = k := ⟨n.toNat, by omega⟩
  rw [Int.toNat_natCast] at hr
  by_cases hk : k < 8
  · have hb := numL_lt (s.data.toList.take k)
    rw [List.length_take, Nat.min_eq_left (show k ≤ s.data.toList.length from by show k ≤ s.size; omega)] at hb
    have hb2 := Nat.lt_of_lt_of_le hb (Nat.pow_le_pow_right (by omega) (show k ≤ 7 by omega))
    rw [if_neg (by omega)] at hr
    cases hr
    refine (rnum_any b s k w (by omega) hk (by omega) H.out.ofRdr0).mono ?_
    rintro e w1 ⟨rfl, h2⟩
    exact ⟨rfl, h2.toRdr0⟩
  obtain rfl : k = 8 := by omega
  have hlen : (s.data.toList.take 8).length = 8 := by
    rw [List.length_take]
    exact Nat.min_eq_left (by show 8 ≤ s.size; omega)
  have hbig := numL_big _ hlen
  have hget : (s.data.toList.take 8).getD 0 0 = s.data.toList.getD 0 0 := by
    rw [List.getD_eq_getElem?_getD, List.getD_eq_getElem?_getD, List.getElem?_take]
    rfl
  rw [hget] at hbig
  have hix := byte_index s 0 0 rfl (by omega)
  obtain ⟨y, hy⟩ : ∃ y, y = (s.data.toList.getD 0 0).toNat := ⟨_, rfl⟩
  rw [← hy] at hbig hix
  clear hy hget hlen h1 h8
  by_cases hn : 127 < y
  · rw [if_pos (hbig.2 hn)] at hr
    cases hr
    have hni : (127 : Int) < y := by omega
    clear hbig hn
    go_enter Tryz.func121, Tryz.ntmps121
    go_wp2_with fail
    refine (rrefuse_any b s 20 _ (by decide) H.out).mono ?_
    rintro e w1 ⟨rfl, h2⟩
    go_wp2_with fail
    go_ret
    exact ⟨rfl, h2⟩
  · have hlt : numL (s.data.toList.take 8) < 9223372036854775808 := by
      refine Nat.lt_of_not_le fun hc => hn (hbig.1 hc)
    rw [if_neg (by omega)] at hr
    cases hr
    have hni : ¬ (127 : Int) < y := by omega
    have HF := Lib.hid (show numL (frontB s 8).data.toList < 9223372036854775808 by rw [front_data]; exact hlt)
    have HFd := Lib.hid (front_data s 8)
    have HFs := Lib.hid (front_size s 8 (by omega))
    have HS := Lib.hid (show 8 ≤ s.size by omega)
    clear hbig hn hlt
    go_enter Tryz.func121, Tryz.ntmps121
    go_wp2_with fail
    refine (take_any b .nilIface s 8 _ HS.out H.out.ofRdr0).mono ?_
    rintro e w1 ⟨rfl, h2⟩
    go_wp2_with fail
    refine (number_any (frontB s 8) _ (by rw [HFs.out]; omega) HF.out h2).mono ?_
    rintro e w2 ⟨rfl, h3⟩
    rw [HFd.out]
    go_wp2_with fail
    go_ret
    exact ⟨rfl, h3.toRdr0⟩
set_option maxRecDepth 20000 in
set_option maxHeartbeats 2000000 in
theorem rtext_all (b : Nat) (s : ByteArray) (e n : Int) (v s' : ByteArray) (e' : Int) (w : World) (hr : rText s e n = (v, s', e')) (hsz : s.size ≤ 1000000000000000) (h : Own E w (Hp.rdr b s e :: L)) :
    Calls Tryz.prog 133 #[.pointer (some ⟨b, 0, none⟩), .int .i64 n] w fun ev w' => ev = .returned (.string v) ∧ Own E w' (Hp.rdr b s' e' :: L) := by
  have c0 := h.rdr_text
  have H := Lib.hid h
  unfold rText at hr
  by_cases he : e ≠ 0
  · rw [if_pos he] at hr
    cases hr
    obtain ⟨r, c1⟩ := h.rdr_wrong he
    clear h he
    go_enter Tryz.func133, Tryz.ntmps133
    go_wp2_with fail
    go_ret
    exact ⟨rfl, H.out⟩
  rw [if_neg he] at hr
  obtain rfl : e = 0 := Decidable.not_not.1 he
  have c1 := h.rdr_right
  clear h he
  by_cases h1 : n < 0
  · rw [if_pos (.inl h1)] at hr
    cases hr
    go_enter Tryz.func133, Tryz.ntmps133
    go_wp2_with fail
    refine (rrefuse_any b s 1 _ (by decide) H.out).mono ?_
    rintro e w1 ⟨rfl, h2⟩
    go_wp2_with fail
    go_ret
    exact ⟨rfl, h2⟩
  by_cases h8 : 65535 < n
  · rw [if_pos (.inr h8)] at hr
    cases hr
    go_enter Tryz.func133, Tryz.ntmps133
    go_wp2_with fail
    refine (rrefuse_any b s 1 _ (by decide) H.out).mono ?_
    rintro e w1 ⟨rfl, h2⟩
    go_wp2_with fail
    go_ret
    exact ⟨rfl, h2⟩
  rw [if_neg (by omega)] at hr
  obtain ⟨most, rfl⟩ : ∃ k : Nat, n = k := ⟨n.toNat, by omega⟩
  rw [Int.toNat_natCast] at hr
  have hm : most ≤ 65535 := by omega
  have HM := Lib.hid hm
  clear hm
  have ha2 : 1 ≤ ahead most ∧ ahead most ≤ 2 := by unfold ahead; split <;> omega
  by_cases hsa : s.size < ahead most
  · rw [if_pos hsa] at hr
    cases hr
    go_enter Tryz.func133, Tryz.ntmps133
    go_wp2_with fail
    refine (length_any most _).mono ?_
    rintro e w1 ⟨rfl, rfl⟩
    generalize ahead most = a at *
    have i3 : (s.size : Int) < a := by omega
    go_wp2_with fail
    refine (rrefuse_any b s 22 _ (by decide) H.out).mono ?_
    rintro e w1 ⟨rfl, h2⟩
    go_wp2_with fail
    go_ret
    exact ⟨rfl, h2⟩
  rw [if_neg hsa] at hr
  obtain ⟨m, hmm⟩ : ∃ m, m = numL (s.data.toList.take (ahead most)) := ⟨_, rfl⟩
  rw [← hmm] at hr
  have hml : m < 65536 := by
    have hb := numL_lt (s.data.toList.take (ahead most))
    rw [List.length_take, Nat.min_eq_left (show ahead most ≤ s.data.toList.length from by show ahead most ≤ s.size; omega)] at hb
    have hb2 := Nat.lt_of_lt_of_le hb (Nat.pow_le_pow_right (by omega) ha2.2)
    omega
  by_cases hgood : ¬ most < m ∧ ¬ s.size < ahead most + m
  · rw [if_neg hgood.1, if_neg hgood.2] at hr
    cases hr
    refine (rtext_any b s most m w HM.out (by omega) hmm.symm (by omega) (by omega) hsz H.out.ofRdr0).mono ?_
    rintro e w1 ⟨rfl, h2⟩
    exact ⟨rfl, h2.toRdr0⟩
  have hf2 : numL (frontB s (ahead most)).data.toList = m := by rw [front_data]; exact hmm.symm
  have hfs := front_size s (ahead most) (by omega)
  have HF := Lib.hid hf2
  have HFs := Lib.hid hfs
  clear hf2 hfs hmm
  by_cases hmost : most < m
  · rw [if_pos hmost] at hr
    cases hr
    clear hgood
    go_enter Tryz.func133, Tryz.ntmps133
    go_wp2_with fail
    refine (length_any most _).mono ?_
    rintro e w1 ⟨rfl, rfl⟩
    generalize ahead most = a at *
    have i3 : ¬ (s.size : Int) < a := by omega
    have i4 : (a : Int) ≤ s.size := by omega
    go_wp2_with fail
    refine (number_any (frontB s a) _ (by rw [HFs.out]; omega) (by rw [HF.out]; omega) H.out).mono ?_
    rintro e w2 ⟨rfl, h2⟩
    rw [HF.out]
    have i5 : (most : Int) < m := by omega
    go_wp2_with fail
    refine (rrefuse_any b s 21 _ (by decide) h2).mono ?_
    rintro e w1 ⟨rfl, h3⟩
    go_wp2_with fail
    go_ret
    exact ⟨rfl, h3⟩
  · rw [if_neg hmost, if_pos (by omega)] at hr
    cases hr
    go_enter Tryz.func133, Tryz.ntmps133
    go_wp2_with fail
    refine (length_any most _).mono ?_
    rintro e w1 ⟨rfl, rfl⟩
    generalize ahead most = a at *
    have i3 : ¬ (s.size : Int) < a := by omega
    have i4 : (a : Int) ≤ s.size := by omega
    have i6 : (s.size : Int) - a < m := by omega
    clear hgood
    go_wp2_with fail
    refine (number_any (frontB s a) _ (by rw [HFs.out]; omega) (by rw [HF.out]; omega) H.out).mono ?_
    rintro e w2 ⟨rfl, h2⟩
    rw [HF.out]
    have i5 : ¬ (most : Int) < m := by omega
    have d0 := h2.rdr_text
    go_wp2_with fail
    refine (rrefuse_any b s 22 _ (by decide) h2).mono ?_
    rintro e w1 ⟨rfl, h3⟩
    go_wp2_with fail
    go_ret
    exact ⟨rfl, h3⟩
theorem rraw_all (b : Nat) (s : ByteArray) (e n : Int) (v s' : ByteArray) (e' : Int) (w : World) (hr : rRaw s e n = (v, s', e')) (h : Own E w (Hp.rdr b s e :: L)) :
    Calls Tryz.prog 131 #[.pointer (some ⟨b, 0, none⟩), .int .i64 n] w fun ev w' => ev = .returned (.string v) ∧ Own E w' (Hp.rdr b s' e' :: L) := by
  have c0 := h.rdr_text
  have H := Lib.hid h
  unfold rRaw at hr
  by_cases he : e ≠ 0
  · rw [if_pos he] at hr
    cases hr
    obtain ⟨r, c1⟩ := h.rdr_wrong he
    clear h he
    go_enter Tryz.func131, Tryz.ntmps131
    go_wp2_with fail
    go_ret
    exact ⟨rfl, H.out⟩
  rw [if_neg he] at hr
  obtain rfl : e = 0 := Decidable.not_not.1 he
  have c1 := h.rdr_right
  clear h he
  by_cases h1 : n < 0
  · rw [if_pos h1] at hr
    cases hr
    go_enter Tryz.func131, Tryz.ntmps131
    go_wp2_with fail
    refine (rrefuse_any b s 1 _ (by decide) H.out).mono ?_
    rintro e w1 ⟨rfl, h2⟩
    go_wp2_with fail
    go_ret
    exact ⟨rfl, h2⟩
  rw [if_neg h1] at hr
  by_cases hs : (s.size : Int) < n
  · rw [if_pos hs] at hr
    cases hr
    go_enter Tryz.func131, Tryz.ntmps131
    go_wp2_with fail
    refine (rrefuse_any b s 22 _ (by decide) H.out).mono ?_
    rintro e w1 ⟨rfl, h2⟩
    go_wp2_with fail
    go_ret
    exact ⟨rfl, h2⟩
  rw [if_neg hs] at hr
  obtain ⟨k, rfl⟩ : ∃ k : Nat, n = k := ⟨n.toNat, by omega⟩
  rw [Int.toNat_natCast] at hr
  cases hr
  go_enter Tryz.func131, Tryz.ntmps131
  go_wp2_with fail
  refine (take_any b .nilIface s k _ (by omega) H.out.ofRdr0).mono ?_
  rintro e w1 ⟨rfl, h2⟩
  go_wp2_with fail
  go_ret
  exact ⟨rfl, h2.toRdr0⟩
theorem rdone_all (b : Nat) (s : ByteArray) (e : Int) (w : World) (hG : Laid0 E L) (h : Own E w (Hp.rdr b s e :: L)) :
    Calls Tryz.prog 119 #[.pointer (some ⟨b, 0, none⟩)] w fun ev w' => ev = .returned (.int .i64 (rDone s e)) ∧ Own E w' (Hp.rdr b s e :: L) := by
  by_cases he : e ≠ 0
  · rw [show rDone s e = e from if_pos he]
    obtain ⟨r, hr⟩ := h.ofRdr he
    have c1 : w.cell? ⟨b, 1, none⟩ = some (refV r) := by
      have h2 := hr
      unfold Hp.reader at h2
      exact h2.cell 1
    have HE := Lib.hid he
    have H := Lib.hid hr
    clear h hr he
    go_enter Tryz.func119, Tryz.ntmps119
    go_wp2_with fail
    refine (told_any r e _ hG.cons H.out.f1).mono ?_
    rintro e w1 ⟨rfl, h2⟩
    go_wp2_with fail
    go_ret
    exact ⟨rfl, h2.f1.toRdr HE.out⟩
  obtain rfl : e = 0 := Decidable.not_not.1 he
  have c0 := h.rdr_text
  have c1 := h.rdr_right
  have H := Lib.hid h
  clear h he
  by_cases hs : s.size = 0
  · rw [show rDone s 0 = 0 by unfold rDone; rw [if_neg (by omega), if_pos hs]]
    have hs0 : s = ⟨#[]⟩ := bytes_ext s [] (List.eq_nil_of_length_eq_zero hs)
    subst hs0
    clear hs
    go_enter Tryz.func119, Tryz.ntmps119
    go_wp2_with fail
    go_ret
    exact ⟨rfl, H.out⟩
  · rw [show rDone s 0 = 23 by unfold rDone; rw [if_neg (by omega), if_neg hs]]
    have hne : s.toList.isEmpty = false := text_some hs
    clear hs
    go_enter Tryz.func119, Tryz.ntmps119
    go_wp2_with fail
    go_ret
    exact ⟨rfl, H.out⟩
end
end Go.Proofs.YtabibfabieghpaaGreatDoor
namespace Go.Proofs.YtabibfabieghpaaGreatDoor
open Go.RowKit
/-- Num: what is laid down, what is wrong. -/
def wNum (l : List UInt8) (e size n : Int) : List UInt8 × Int :=
  if size < 1 ∨ 8 < size then (l, orE e 1)
  else if n < 0 ∨ 256 ^ size.toNat ≤ n.toNat then (l, orE e 20)
  else (l ++ byN size.toNat n.toNat, e)
def wText (l : List UInt8) (e most : Int) (s : ByteArray) : List UInt8 × Int :=
  if most < 0 ∨ 65535 < most then (l, orE e 1)
  else if most < s.size then (l, orE e 21)
  else (l ++ byN (ahead most.toNat) s.size ++ s.data.toList, e)
def wDone (l : List UInt8) (e : Int) : ByteArray × Int := if e ≠ 0 then (⟨#[]⟩, e) else (⟨l.toArray⟩, 0)
theorem pow_bits (k : Nat) : (2 : Int) ^ (8 * k) = ((256 ^ k : Nat) : Int) := by
  rw [show (256 : Nat) = 2 ^ 8 by rfl, ← Nat.pow_mul, Int.natCast_pow]
  rfl
section
variable {E : World} {L : List Hp}
set_option maxRecDepth 20000 in
set_option maxHeartbeats 2000000 in
theorem wnum_all (b : Nat) (l : List UInt8) (e size n : Int) (l' : List UInt8) (e' : Int) (w : World) (hr : wNum l e size n = (l', e')) (hn : n ≤ 9223372036854775807) (hl : l.length + 8 ≤ 140737488355328) (h : Own E w (Hp.wtr b l e :: L)) :
    Calls Tryz.prog 120 #[.pointer (some ⟨b, 0, none⟩), .int .i64 size, .int .i64 n] w fun ev w' => ev = .returned (.tuple #[]) ∧ Own E w' (Hp.wtr b l' e' :: L) := by
  have H := Lib.hid h
  unfold wNum at hr
  by_cases h1 : size < 1
  · rw [if_pos (.inl h1)] at hr
    cases hr
    clear h
    go_enter Tryz.func120, Tryz.ntmps120
    go_wp2_with fail
    refine (wrefuse_any b _ e 1 _ (by decide) H.out).mono ?_
    rintro e w1 ⟨rfl, h2⟩
    go_wp2_with fail
    go_end0
    exact ⟨rfl, h2⟩
  by_cases h8 : 8 < size
  · rw [if_pos (.inr h8)] at hr
    cases hr
    clear h
    go_enter Tryz.func120, Tryz.ntmps120
    go_wp2_with fail
    refine (wrefuse_any b _ e 1 _ (by decide) H.out).mono ?_
    rintro e w1 ⟨rfl, h2⟩
    go_wp2_with fail
    go_end0
    exact ⟨rfl, h2⟩
  rw [if_neg (by omega)] at hr
  by_cases hn0 : n < 0
  · rw [if_pos (.inl hn0)] at hr
    cases hr
    clear h
    go_enter Tryz.func120, Tryz.ntmps120
    go_wp2_with fail
    refine (wrefuse_any b _ e 20 _ (by decide) H.out).mono ?_
    rintro e w1 ⟨rfl, h2⟩
    go_wp2_with fail
    go_end0
    exact ⟨rfl, h2⟩
  obtain ⟨k, rfl⟩ : ∃ k : Nat, size = k := ⟨size.toNat, by omega⟩
  obtain ⟨m, rfl⟩ : ∃ m : Nat, n = m := ⟨n.toNat, by omega⟩
  rw [Int.toNat_natCast, Int.toNat_natCast] at hr
  by_cases hbig : 256 ^ k ≤ m
  · rw [if_pos (.inr hbig)] at hr
    cases hr
    have hk8 : k < 8 := by
      refine Nat.lt_of_not_le fun hc => ?_
      have e8 : k = 8 := by omega
      rw [e8] at hbig
      have : (256 : Nat) ^ 8 = 18446744073709551616 := by rfl
      omega
    have i1 : (k : Int) < 8 := by omega
    have hdi : (m : Int) / 2 ^ (8 * k) = ((m / 256 ^ k : Nat) : Int) := by rw [pow_bits, Int.natCast_ediv]
    obtain ⟨d, hd⟩ : ∃ d, d = m / 256 ^ k := ⟨_, rfl⟩
    have hd0 : 0 < d := by rw [hd]; exact Nat.div_pos hbig (Nat.pow_pos (by omega))
    rw [← hd] at hdi
    have hdi0 : (0 : Int) < d := by omega
    clear h hbig hd
    go_enter Tryz.func120, Tryz.ntmps120
    go_wp2_with fail
    refine (wrefuse_any b _ e 20 _ (by decide) H.out).mono ?_
    rintro e w1 ⟨rfl, h2⟩
    go_wp2_with fail
    go_end0
    exact ⟨rfl, h2⟩
  · rw [if_neg (by omega)] at hr
    cases hr
    obtain ⟨r, h2⟩ := h.ofWtr
    refine (wnum_any b (wrongV r e) l k m w (by omega) (by omega) (by omega) (by omega) hl h2).mono ?_
    rintro ev w1 ⟨rfl, h3⟩
    exact ⟨rfl, h3.toWtr⟩
set_option maxHeartbeats 1000000 in
theorem wtext_all (b : Nat) (l : List UInt8) (e most : Int) (s : ByteArray) (l' : List UInt8) (e' : Int) (w : World) (hr : wText l e most s = (l', e')) (hl : l.length + 70000 ≤ 140737488355328) (h : Own E w (Hp.wtr b l e :: L)) :
    Calls Tryz.prog 132 #[.pointer (some ⟨b, 0, none⟩), .int .i64 most, .string s] w fun ev w' => ev = .returned (.tuple #[]) ∧ Own E w' (Hp.wtr b l' e' :: L) := by
  have H := Lib.hid h
  unfold wText at hr
  by_cases h1 : most < 0
  · rw [if_pos (.inl h1)] at hr
    cases hr
    clear h
    go_enter Tryz.func132, Tryz.ntmps132
    go_wp2_with fail
    refine (wrefuse_any b _ e 1 _ (by decide) H.out).mono ?_
    rintro e w1 ⟨rfl, h2⟩
    go_wp2_with fail
    go_end0
    exact ⟨rfl, h2⟩
  by_cases h8 : 65535 < most
  · rw [if_pos (.inr h8)] at hr
    cases hr
    clear h
    go_enter Tryz.func132, Tryz.ntmps132
    go_wp2_with fail
    refine (wrefuse_any b _ e 1 _ (by decide) H.out).mono ?_
    rintro e w1 ⟨rfl, h2⟩
    go_wp2_with fail
    go_end0
    exact ⟨rfl, h2⟩
  rw [if_neg (by omega)] at hr
  by_cases hs : most < s.size
  · rw [if_pos hs] at hr
    cases hr
    clear h
    go_enter Tryz.func132, Tryz.ntmps132
    go_wp2_with fail
    refine (wrefuse_any b _ e 21 _ (by decide) H.out).mono ?_
    rintro e w1 ⟨rfl, h2⟩
    go_wp2_with fail
    go_end0
    exact ⟨rfl, h2⟩
  rw [if_neg hs] at hr
  cases hr
  obtain ⟨k, rfl⟩ : ∃ k : Nat, most = k := ⟨most.toNat, by omega⟩
  rw [Int.toNat_natCast]
  obtain ⟨r, h2⟩ := h.ofWtr
  refine (wtext_any b (wrongV r e) l k s w (by omega) (by omega) hl h2).mono ?_
  rintro ev w1 ⟨rfl, h3⟩
  exact ⟨rfl, h3.toWtr⟩
theorem wraw_all (b : Nat) (l : List UInt8) (e : Int) (s : ByteArray) (w : World) (hs : l.length + s.size ≤ 140737488355328) (h : Own E w (Hp.wtr b l e :: L)) :
    Calls Tryz.prog 113 #[.pointer (some ⟨b, 0, none⟩), .string s] w fun ev w' => ev = .returned (.tuple #[]) ∧ Own E w' (Hp.wtr b (l ++ s.data.toList) e :: L) := by
  obtain ⟨r, h2⟩ := h.ofWtr
  refine (raw_any b (wrongV r e) l s w hs h2).mono ?_
  rintro ev w1 ⟨rfl, h3⟩
  exact ⟨rfl, h3.toWtr⟩
theorem wdone_all (b : Nat) (l : List UInt8) (e : Int) (v : ByteArray) (f : Int) (w : World) (hr : wDone l e = (v, f)) (hG : Laid0 E L) (h : Own E w (Hp.wtr b l e :: L)) :
    Calls Tryz.prog 114 #[.pointer (some ⟨b, 0, none⟩)] w fun ev w' => ev = .returned (.tuple #[.string v, .int .i64 f]) ∧ Own E w' (Hp.wtr b l e :: L) := by
  unfold wDone at hr
  by_cases he : e ≠ 0
  · rw [if_pos he] at hr
    cases hr
    obtain ⟨r, h2⟩ := h.ofWtrN he
    obtain ⟨v, h3⟩ := h2.ofWriter
    have c1 := h3.cell 1
    have HE := Lib.hid he
    have H3 := Lib.hid h2.f1
    clear h h2 h3 he
    go_enter Tryz.func114, Tryz.ntmps114
    go_wp2_with fail
    refine (told_any r e _ hG.cons H3.out).mono ?_
    rintro ev w1 ⟨rfl, h4⟩
    go_wp2_with fail
    go_ret2
    exact ⟨rfl, h4.f1.toWtrN HE.out⟩
  · rw [if_neg he] at hr
    cases hr
    obtain rfl : e = 0 := Decidable.not_not.1 he
    refine (wdone_any b l w h.ofWtr0).mono ?_
    rintro ev w1 ⟨rfl, h4⟩
    exact ⟨rfl, h4.toWtr0⟩
end
end Go.Proofs.YtabibfabieghpaaGreatDoor
namespace Go.Proofs.YtabibfabieghpaaGreatDoor
open Go.RowKit
/-- v is a slice of elements xs, in a block that is owned whole; an empty one without room may stand anywhere. -/
def Hp.lst (e : TypeId) (v : Value) (xs : List Value) : Hp := fun h => ∃ A c, v = .slice A xs.length c ∧ xs.length ≤ c ∧ c ≤ maxLen ∧
  ((xs = [] ∧ c = 0 ∧ h = Ph.emp) ∨ ∃ g cur, A = some ⟨g, 0, none⟩ ∧ c ≤ cur.size ∧ cur.toList.take xs.length = xs ∧ Hp.mk g e cur h)
section
variable {P : Program} {E w w' : World} {L : List Hp} {e : TypeId} {v : Value} {xs : List Value}
theorem Own.lstForm (h : Own E w (Hp.lst e v xs :: L)) : ∃ A c, v = .slice A xs.length c ∧ xs.length ≤ c ∧ c ≤ maxLen ∧
    ((xs = [] ∧ c = 0 ∧ Own E w L) ∨ ∃ g cur, A = some ⟨g, 0, none⟩ ∧ c ≤ cur.size ∧ cur.toList.take xs.length = xs ∧ Own E w (Hp.mk g e cur :: L)) := by
  have hd := h.drop
  obtain ⟨h1, h2, h3, _, hx, a, b, hab, rfl, ⟨A, c, hv, hc, hm, hA⟩, hL⟩ := h
  refine ⟨A, c, hv, hc, hm, ?_⟩
  rcases hA with ⟨e1, e2, _⟩ | ⟨g, cur, e1, e2, e3, e4⟩
  · exact .inl ⟨e1, e2, hd⟩
  · exact .inr ⟨g, cur, e1, e2, e3, h1, h2, h3, _, hx, a, b, hab, rfl, e4, hL⟩
theorem Own.lstSlice (h : Own E w (Hp.lst e v xs :: L)) : ∃ A c, v = .slice A xs.length c ∧ xs.length ≤ c ∧ c ≤ maxLen := by
  obtain ⟨A, c, h1, h2, h3, _⟩ := h.lstForm
  exact ⟨A, c, h1, h2, h3⟩
theorem Own.emptyLst (h : Own E w L) (e : TypeId) (A : Option Addr) : Own E w (Hp.lst e (.slice A 0 0) [] :: L) :=
  (Own.emp.2 h).imp fun _ hx => ⟨A, 0, rfl, Nat.le_refl _, Nat.zero_le _, .inl ⟨rfl, rfl, hx⟩⟩
theorem Own.rowLst {n : Nat} (h : Own E w (Hp.row e 1 v n xs :: L)) : Own E w (Hp.lst e v xs :: L) := by
  refine h.imp ?_
  rintro x ⟨hl, ⟨rfl, rfl, hx⟩ | ⟨g, cap, cur, rfl, hm, h3, h4, h5, h6⟩⟩
  · have : xs = [] := List.eq_nil_of_length_eq_zero (by simpa using hl)
    subst this
    exact ⟨none, 0, rfl, Nat.le_refl _, Nat.zero_le _, .inl ⟨rfl, rfl, hx⟩⟩
  · have hl' : n = xs.length := by omega
    subst hl'
    exact ⟨_, cap, rfl, h3, h4, .inr ⟨g, cur, rfl, by omega, by simpa using h6, hm⟩⟩
/-- A block is a list of its first elements. -/
theorem Own.mtoLst {g : Nat} {cur : Array Value} (h : Own E w (Hp.mk g e cur :: L)) (c : Nat) (hc : c ≤ cur.size) (hm : c ≤ maxLen) (hx : xs.length ≤ c) (ht : cur.toList.take xs.length = xs) :
    Own E w (Hp.lst e (.slice (some ⟨g, 0, none⟩) xs.length c) xs :: L) :=
  h.imp fun _ hx' => ⟨_, c, rfl, hx, hm, .inr ⟨g, cur, rfl, hc, ht, hx'⟩⟩
theorem Own.lstCell {A : Option Addr} {n c : Nat} (h : Own E w (Hp.lst e (.slice A n c) xs :: L)) (j : Nat) (u : Value) (hj : xs[j]? = some u) :
    ∃ g, A = some ⟨g, 0, none⟩ ∧ w.cell? ⟨g, j, none⟩ = some u ∧ w.frozen? ⟨g, j, none⟩ = false := by
  obtain ⟨A', c', hv, hc, hm, hf⟩ := h.lstForm
  injection hv with e1 e2 e3
  subst e1
  have hlt : j < xs.length := (List.getElem?_eq_some_iff.1 hj).1
  rcases hf with ⟨h1, h2, ho⟩ | ⟨g, cur, h1, h2, h3, ho⟩
  · subst h1; simp at hj
  · refine ⟨g, h1, ?_, ho.mfrozen j (by omega)⟩
    rw [ho.mcell]
    rw [← h3, List.getElem?_take, if_pos hlt] at hj
    simpa using hj
/-- In memory that is lent. -/
theorem lst_rds {α : Type} {f : α → Value} {l : List α} {A : Option Addr} {n c : Nat} {a : Ph} (h : Hp.lst e (.slice A n c) (l.map f) a) : Rds a 1 (fun x => [f x]) A n l ∧ n ≤ c ∧ c ≤ maxLen ∧ n = l.length := by
  obtain ⟨A', c', hv, hc, hm, hf⟩ := h
  injection hv with e1 e2 e3
  subst e1 e2 e3
  rw [List.length_map] at *
  refine ⟨⟨rfl, fun _ => rfl, fun k hk => ?_⟩, hc, hm, rfl⟩
  rcases hf with ⟨h1, h2, ho⟩ | ⟨g, cur, h1, h2, h3, fr, hfr, ho⟩
  · have : l = [] := List.map_eq_nil_iff.1 h1
    subst this; cases hk
  · subst h1 ho
    refine ⟨g, 0, rfl, fun j v hv => ?_⟩
    have hj : j = 0 := by
      have := (List.getElem?_eq_some_iff.1 hv).1
      simpa using this
    subst hj
    have hv' : v = f l[k] := by simpa using hv.symm
    subst hv'
    have h4 : (l.map f)[k]? = some (f l[k]) := by rw [List.getElem?_map, List.getElem?_eq_getElem hk]; rfl
    rw [← h3, List.getElem?_take, if_pos hk] at h4
    simp only [Ph.cell, Ph.one, Nat.zero_add, Nat.mul_one, Nat.add_zero, if_true, Option.isSome_none]
    simpa using h4
/-- append(v, x...), v owned. -/
theorem lst_append {t ty : TypeId} {z : Value} {bytes : Nat} (ht : P.underlying t = some (.slice e)) (hinfo : (P.info? e).map (fun i => (i.zero, i.size, i.bytes)) = some (some z, 1, bytes))
    (hzs : z.cells.size = 1) (h : Own E w (Hp.lst e v xs :: L)) (A : Option Addr) (m c : Nat) (news : List Value) (hl : news.length = m) (hr : RdC w A news) (h1 : ∀ u ∈ news, u.oneCell' = true)
    (h63 : xs.length + m ≤ maxLen) (hbytes : (xs.length + m) * bytes ≤ 140737488355328) :
    ∃ v' w', (Builtin.append_ #[t, t] ty #[v, .slice A m c]).run P w = .ok v' w' ∧ Own E w' (Hp.lst e v' (xs ++ news) :: L) := by
  obtain ⟨i, hi, hzz⟩ := Option.map_eq_some_iff.1 hinfo
  simp only [Prod.mk.injEq] at hzz
  obtain ⟨hz, hsize, hby⟩ := hzz
  obtain ⟨A0, c0, rfl, hc, hm, hf⟩ := h.lstForm
  by_cases hm0 : m = 0
  · subst hm0
    have hn0 : news = [] := List.eq_nil_of_length_eq_zero hl
    subst hn0
    refine ⟨.slice A0 xs.length c0, w, ?_, by rw [List.append_nil]; exact h⟩
    cases A with
    | none => cases A0 <;> simp [Builtin.append_, run_underlying ht, sizeOf, typeInfo, hi, Builtin.lenOf, Builtin.firstCells, hc, storeCells]
    | some ad =>
      have hfc := run_firstCells_some (P := P) w i.size 0 ad 0 c [] (by simp) (by simp)
      cases A0 <;> simp [Builtin.append_, run_underlying ht, sizeOf, typeInfo, hi, Builtin.lenOf, hc, storeCells, hfc]
  · obtain ⟨ad, rfl, hcells⟩ : ∃ ad, A = some ad ∧ ∀ j u, news[j]? = some u → w.cell? (ad.add j) = some u :=
      hr (by intro e; subst e; simp at hl; omega)
    have hl' : news.length = m * i.size := by rw [hsize]; omega
    have hsmall : xs.length + m ≤ 9223372036854775807 := by simp only [maxLen] at h63; omega
    -- a new block
    have grown : ∀ A1 : Addr, A0 = some A1 → (∀ j u, xs[j]? = some u → w.cell? (A1.add j) = some u) → c0 < xs.length + m → Own E w L →
        ∃ v' w', (Builtin.append_ #[t, t] ty #[.slice A0 xs.length c0, .slice (some ad) m c]).run P w = .ok v' w' ∧ Own E w' (Hp.lst e v' (xs ++ news) :: L) := by
      rintro A1 rfl holds hlt ho
      have hrun := run_append_grow (P := P) w t ty e i z ht hi hz A1 xs.length c0 xs (by rw [hsize]; omega) holds ad m c news hl' hcells hlt (by omega) (growslice_fits (by omega) (by rw [hby]; exact hbytes))
      have hge := grownCap_ge w (xs.length + m) c0 e
      have hcm2 : grownCap w (xs.length + m) c0 e ≤ maxLen := grownCap_le_maxLen w (xs.length + m) c0 e h63
      have hlen : xs.length + m = (xs ++ news).length := by rw [List.length_append, hl]
      refine ⟨_, _, hrun, ?_⟩
      rw [hlen] at hge hcm2 ⊢
      refine Own.mtoLst ((ho.drew.alloc _).toMk) _ ?_ hcm2 hge ?_
      · simp only [Array.size_append, List.size_toArray, size_zeroCells, hzs, hl, List.length_append] at hge ⊢
        omega
      · rw [Array.toList_append]
        have e8 : (xs.toArray ++ news.toArray).toList = xs ++ news := by simp
        rw [e8]
        exact List.take_left
    rcases hf with ⟨rfl, rfl, ho⟩ | ⟨g, cur, rfl, hcs, htake, ho⟩
    · cases A0 with
      | none =>
        obtain ⟨v', w1, hrun, h2, -⟩ := sl_append (P := P) (ty := ty) ht hinfo hzs (by omega) (ho.nilRow e 1) (some ad) m c news (by omega) (fun _ => ⟨ad, rfl, hcells⟩) h1 (by simpa using h63) (by simpa using hbytes)
        exact ⟨v', w1, hrun, by simpa using h2.rowLst⟩
      | some A1 => exact grown A1 rfl (by simp) (by simp; omega) ho
    · by_cases hroom : xs.length + m ≤ c0
      · have hfit : xs.length * i.size + news.length ≤ cur.size := by rw [hsize]; omega
        have hrun := run_append_roomM (P := P) (ty := ty) (sLen := xs.length) (sCap := c0) ht hi ho ad m c news hl' hcells h1 hroom hfit
        have hlen : xs.length + m = (xs ++ news).length := by rw [List.length_append, hl]
        refine ⟨_, _, hrun, ?_⟩
        rw [hlen] at hroom ⊢
        refine Own.mtoLst (ho.msetCells news (xs.length * i.size)) c0 (by rw [putArr_size]; exact hcs) hm hroom ?_
        have e8 := putArr_splice cur.toList news (xs.length * i.size) (by simpa using hfit)
        have e9 : cur.toList.toArray = cur := by simp
        rw [e9] at e8
        rw [e8]
        unfold splice
        rw [hsize, Nat.mul_one, htake, ← List.append_assoc, List.toList_toArray]
        exact List.take_left
      · refine grown ⟨g, 0, none⟩ rfl (fun j u hu => ?_) (by omega) ho.drop
        obtain ⟨g', hA, hc', _⟩ := h.lstCell j u hu
        injection hA with hA
        injection hA with hA
        subst hA
        rw [add_eq, Nat.zero_add]; exact hc'
end
/-- A part of a list in memory. -/
theorem Rds.part {α : Type} {S : Ph} {f : α → Value} {b off : Nat} {n : Nat} {xs : List α} (h : Rds S 1 (fun x => [f x]) (some ⟨b, off, none⟩) n xs) (i k : Nat) (hk : i + k ≤ n) :
    Rds S 1 (fun x => [f x]) (some ⟨b, off + i, none⟩) k ((xs.drop i).take k) := by
  refine ⟨by have := h.1; simp; omega, fun _ => rfl, fun j hj => ⟨b, off + i, rfl, fun q v hv => ?_⟩⟩
  have hj2 : j < k := by simp at hj; omega
  have hl : i + j < xs.length := by have := h.1; omega
  obtain ⟨b', off', e, hc⟩ := h.2.2 (i + j) hl
  injection e with e
  injection e with e1 e2
  subst e1 e2
  have := hc q v (by simpa using hv)
  rw [show off + i + j * 1 + q = off + (i + j) * 1 + q by omega]
  exact this
end Go.Proofs.YtabibfabieghpaaGreatDoor
namespace Go.Proofs.YtabibfabieghpaaGreatDoor
open Go.RowKit
section
variable {P : Program} {E w : World} {L : List Hp} {fn : Func} {tmps : Array Value} {t ty : TypeId} {vs us : List Value} {d0 : TypeDesc} {p q p2 q2 : Tmp} {g g2 : Nat}
theorem run_load_blk (h : Own E w (Hp.blk g t vs.toArray :: L)) (hu : P.underlying ty = some d0) (hd0 : d0.isRow = true) (hi : (P.info? ty).map (·.size) = some vs.length) :
    (loadVar ty ⟨g, 0, none⟩).run P w = .ok (.agg vs.toArray) w :=
  run_loadVar_mid (P := P) w g 0 ty vs d0 (h.range 0 vs (fun j u hu => by simpa using hu)) hu hd0 hi
theorem run_as (w : World) : (asAddr (.pointer (some ⟨g, 0, none⟩))).run P w = .ok ⟨g, 0, none⟩ w := rfl
theorem getD_of {x : Value} (h : tmps.getD p undef = x) : tmps[p]?.getD undef = x := by simpa [Array.getD_eq_getD_getElem?] using h
theorem results_ct (hr : fn.results = #[.cell p ty, .tmp q]) (hp : tmps.getD p undef = .pointer (some ⟨g, 0, none⟩)) (h : Own E w (Hp.blk g t vs.toArray :: L)) (hu : P.underlying ty = some d0) (hd0 : d0.isRow = true) (hi : (P.info? ty).map (·.size) = some vs.length) :
    (results fn tmps).run P w = .ok (.tuple #[.agg vs.toArray, tmps.getD q undef]) w := by
  simp [results, hr, getD_of hp, run_as, run_load_blk h hu hd0 hi]
end
end Go.Proofs.YtabibfabieghpaaGreatDoor
namespace Go.Proofs.YtabibfabieghpaaGreatDoor
open Go.RowKit
section
variable {P : Program} {ops : Array Oper} {Q : Exit → Act → World → Prop} {md : Region.Mode} {S : World → Prop} {ls : List Nat}
/-- Several may come up: each keeps S. -/
theorem wpAnyG_two {i j fuel : Nat} {oi oj : Oper} {listed : Array Bool} {a : Act} {w : World} (hr : Region.ready md ops listed = [i, j]) (ei : ops[i]? = some oi) (ej : ops[j]? = some oj)
    (hi : ∀ K : Act → World → Prop, Shut (∀ a' w', S w' → (S w' → wpAnyG P md ops Q ls S fuel (listed.setIfInBounds i true) a' w') → K a' w') →
      if Region.wanted oi (yielded ops a.tmps) = true then oi.wp P a w K Q else K (a.put oi.dst undef) w)
    (hj : ∀ K : Act → World → Prop, Shut (∀ a' w', S w' → (S w' → wpAnyG P md ops Q ls S fuel (listed.setIfInBounds j true) a' w') → K a' w') →
      if Region.wanted oj (yielded ops a.tmps) = true then oj.wp P a w K Q else K (a.put oj.dst undef) w) : wpAnyG P md ops Q ls S (fuel + 1) listed a w := by
  refine ⟨fun h0 => (by rw [hr] at h0; cases h0), fun x hx => ?_⟩
  rw [hr] at hx
  rcases (show x = i ∨ x = j by simpa using hx) with rfl | rfl
  · exact wpOp_step ei fun K hK => hi K fun a' w' hS hW => hK a' w' ⟨fun _ _ => hS, hW hS⟩
  · exact wpOp_step ej fun K hK => hj K fun a' w' hS hW => hK a' w' ⟨fun _ _ => hS, hW hS⟩
/-- A variable is made. -/
theorem wp_alloc_own {E : World} {L : List Hp} {T : TypeId} {cs : Array Value} {o : Oper} {a : Act} {w : World} {K : Act → World → Prop} (h : Own E w L)
    (hrun : (execOp a.eval o).run P w = .ok (.value (.pointer (some ⟨w.heap.size, 0, none⟩))) (w.alloc (.cells cs T)))
    (hK : ∀ g w', Own E w' (Hp.blk g T cs :: L) → K (a.put o.dst (.pointer (some ⟨g, 0, none⟩))) w') : o.wp P a w K Q := by
  unfold Oper.wp
  rw [hrun]
  exact hK _ _ (h.alloc _)
end
end Go.Proofs.YtabibfabieghpaaGreatDoor
namespace Go.Proofs.YtabibfabieghpaaGreatDoor
open Go.RowKit
/-- Where x[i:] lies. -/
def tailAt (A : Option Addr) (c i size : Nat) : Option Addr := if c = i then A else A.map (·.add (i * size))
section
variable {P : Program} {w : World} {o : Oper} {a : Act} {t elem : TypeId} {x y z : Operand} {A : Option Addr} {n c i m size : Nat}
theorem run_sliceBound_in (y i : Nat) (code : BoundsCode) (h : i ≤ y) : (Instr.sliceBound (.int .i64 (i : Nat)) y code).run P w = .ok i w := by
  have h2 : (0 : Int) ≤ (i : Int) ∧ (i : Int) ≤ (y : Int) := by omega
  simp [Instr.sliceBound, asIntOf, h, go_sem]
theorem run_slice_low (hu : P.underlying t = some (.slice elem)) (hs : (P.info? elem).map (·.size) = some size) (h1 : i ≤ n) :
    (Instr.sliceAt t (.slice A n c) (some (.int .i64 (i : Nat))) none none).run P w = .ok (.slice (tailAt A c i size) (n - i) (c - i)) w := by
  cases hq : P.info? elem with
  | none => rw [hq] at hs; cases hs
  | some f =>
    rw [hq] at hs
    injection hs with hs
    subst hs
    simp [Instr.sliceAt, Instr.slice, Instr.sliceBounds, run_underlying hu, sizeOf, typeInfo, hq, run_sliceBound_in _ _ _ h1, tailAt, go_sem]
end
/-- What x[i:] reads as. -/
theorem Rds.tail {α : Type} {S : Ph} {size : Nat} {en : α → List Value} {A : Option Addr} {n c : Nat} {xs : List α} (h : Rds S size en A n xs) (hc : n ≤ c) (i : Nat) (hi : i ≤ n) :
    Rds S size en (tailAt A c i size) (n - i) (xs.drop i) := by
  have hl := h.1
  refine ⟨by rw [List.length_drop, hl], h.2.1, fun k hk => ?_⟩
  rw [List.length_drop] at hk
  obtain ⟨b, off, hA, hc2⟩ := h.2.2 (i + k) (by omega)
  subst hA
  have hne : ¬ c = i := by omega
  refine ⟨b, off + i * size, by unfold tailAt; rw [if_neg hne]; exact congrArg some (add_eq b off _), fun j v hv => ?_⟩
  rw [List.getElem_drop] at hv
  have := hc2 j v hv
  rw [Nat.add_mul] at this
  rw [show off + i * size + k * size + j = off + (i * size + k * size) + j by omega]
  exact this
end Go.Proofs.YtabibfabieghpaaGreatDoor
