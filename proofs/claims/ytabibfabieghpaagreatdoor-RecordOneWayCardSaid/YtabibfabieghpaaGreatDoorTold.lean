/- What told answers of a refusal, over owned memory; the laid variable's cell in a frame. -/
import Derived.Test.YtabibfabieghpaaGreatDoorAsErr
namespace Go.Proofs.YtabibfabieghpaaGreatDoor
open Go.RowKit
/-- The laid variable's cell reads as it was laid. -/
def Laid0 (E : World) (L : List Hp) : Prop := ∀ w, Own E w L → w.cell? ⟨1, 0, none⟩ = some errT
theorem Laid0.cons {E : World} {L : List Hp} {A : Hp} (h : Laid0 E L) : Laid0 E (A :: L) := fun _ hw => h _ hw.drop
theorem Laid0.start {W : World} (h : laidMetH Tryz.prog laidE W) : Laid0 W [Hp.ro (Ph.of W)] := fun _ hw => hw.old (handle_of_laid h)
abbrev REF : TypeId := 194
abbrev PREF : TypeId := 190
/-- What a Writer or a Reader keeps of what is wrong. -/
abbrev refV (r : Nat) : Value := .iface PREF (.pointer (some ⟨r, 0, none⟩))
section
variable {E : World} {L : List Hp}
set_option maxRecDepth 20000 in
set_option maxHeartbeats 2000000 in
theorem told_any (r : Nat) (e : Int) (w : World) (hG : Laid0 E L) (h : Own E w (Hp.blk r REF #[.int .i64 e] :: L)) :
    Calls Tryz.prog 130 #[refV r] w fun ev w' => ev = .returned (.int .i64 e) ∧ Own E w' (Hp.blk r REF #[.int .i64 e] :: L) := by
  have h1 : Own E (w.alloc (.cells #[.pointer none] PREF)) (Hp.blk w.heap.size PREF #[.pointer none] :: Hp.blk r REF #[.int .i64 e] :: L) := h.alloc _
  have hg := hG _ h1.drop.drop
  have ht := h1.cell 0
  have hf := h1.frozen 0
  obtain ⟨t, et⟩ : ∃ t, t = w.heap.size := ⟨_, rfl⟩
  rw [← et] at h1 ht hf
  have hrun := as_hit ⟨r, 0, none⟩ ⟨t, 0, none⟩ (.pointer none) _ hg ht hf
  have h2 := ((((h1.alloc (.cells #[.pointer (some ⟨t, 0, none⟩)] 192)).drop.alloc (.cells #[.pointer (some ⟨4, 192, none⟩), .pointer (some ⟨(w.alloc (.cells #[.pointer none] PREF)).heap.size, 0, none⟩), .int .u64 150] 209)).drop.alloc (.cells #[.pointer (some ⟨4, 192, none⟩), .pointer (some ⟨(w.alloc (.cells #[.pointer none] PREF)).heap.size, 0, none⟩), .int .u64 150] 209)).drop.alloc (.cells #[.pointer (some ⟨r, 0, none⟩)] PREF)).drop.set 0 (.pointer (some ⟨r, 0, none⟩))
  clear hg ht hf h1
  go_enter Tryz.func130, Tryz.ntmps130
  go_wp2_with fail
  rw [← et]
  refine hrun.mono ?_
  rintro e2 w2 ⟨rfl, hw2⟩
  rw [← hw2] at h2
  clear hw2 hrun et
  have c0 := h2.cell 0
  have d0 := h2.drop.cell 0
  have H2 := Lib.hid h2
  clear h2 h
  go_wp2_with fail
  go_ret
  exact ⟨rfl, H2.out.drop⟩
end
end Go.Proofs.YtabibfabieghpaaGreatDoor
