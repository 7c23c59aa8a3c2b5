/- strings.Cut at a nought behind a name. -/
import Derived.Test.YtabibfabieghpaaGreatDoorOfFam
import Derived.Test.YtabibfabieghpaaGreatDoorShelf3
import Derived.Test.YtabibfabieghpaaGreatDoorTail
namespace Go.Proofs.YtabibfabieghpaaGreatDoor
open Go.RowKit
theorem index_nought (l t : List UInt8) (h : ∀ x ∈ l, x ≠ 0) : Lib.indexByte (l ++ 0 :: t) 0 = l.length := by
  induction l with
  | nil => simp [Lib.indexByte]
  | cons x r ih =>
    have h1 := h x (by simp)
    have h2 := ih fun y hy => h y (by simp [hy])
    show Lib.indexByte (x :: (r ++ 0 :: t)) 0 = _
    unfold Lib.indexByte
    rw [if_neg (by simpa using h1), h2]
    first | (simp; done) | (simp; omega)
section
variable {E : World} {L : List Hp}
set_option maxHeartbeats 1000000 in
theorem cut0_any (su r s : ByteArray) (w : World) (hi : Lib.indexByte s.data.toList 0 = su.size) (hs : su.size + 1 ≤ s.size) (hs2 : s.size ≤ 1000000) (e1 : s.extract 0 su.size = su) (e2 : s.extract (su.size + 1) s.size = r) (h : Own E w L) :
    Calls Tryz.prog 88 #[.string s, .string ⟨#[0]⟩] w fun e w' => e = .returned (.tuple #[.string su, .string r, .bool true]) ∧ Own E w' L := by
  have K := fun w => Tryz.stringslite_Index_one s 0 w
  rw [hi] at K
  have H := Lib.hid h.drew
  have i0 : (0 : Int) ≤ (su.size : Int) := by omega
  have i1 : wrap64 ((su.size : Int) + 1) = ((su.size + 1 : Nat) : Int) := by unfold wrap64; omega
  have i3 : IntKind.i64.wrap ((su.size : Int) + 1) = ((su.size + 1 : Nat) : Int) := by rw [IntKind.wrap_i64]; omega
  have i2 : (su.size : Int) ≤ (s.size : Int) := by omega
  clear hi h
  have K2 : Calls Tryz.prog 126 #[.string s, .string ⟨#[0]⟩] w fun e w' => e = .returned (.tuple #[.string su, .string r, .bool true]) ∧ Own E w' L := by
    go_enter Tryz.func126, Tryz.ntmps126
    go_wp2_with (refine (K _).mono ?_; rintro e w2 ⟨rfl, rfl⟩)
    have h := H.out
    refine wp_region_text [] (fun _ => True) (by kernel_rfl) ?_ (fun hS => ?_)
    · trivial
    refine wpAnyG_pure (i := 0) (oi := ⟨some 13, _, _, _, _, _⟩) (v := ?_) rfl (by kernel_rfl) (by kernel_rfl) (by kernel_rfl) (by rfl) (fun _ _ _ h => h) (by rfl) ?_ ?_
    rotate_left
    · intro w
      go_simp
      first | done | with_reducible rfl
    try simp only [Act.put, List.setIfInBounds_toArray, List.set_cons_zero, List.set_cons_succ]
    refine wpAnyG_pure (i := 1) (oi := ⟨some 14, _, _, _, _, _⟩) (v := ?_) rfl (by kernel_rfl) (by kernel_rfl) (by kernel_rfl) (by rfl) (fun _ _ _ h => h) (by rfl) ?_ ?_
    rotate_left
    · intro w
      go_simp
      first | done | with_reducible rfl
    try simp only [Act.put, List.setIfInBounds_toArray, List.set_cons_zero, List.set_cons_succ]
    refine wpAnyG_pure (i := 2) (oi := ⟨some 15, _, _, _, _, _⟩) (v := (.string su)) rfl (by kernel_rfl) (by kernel_rfl) (by kernel_rfl) (by rfl) (fun _ _ _ h => h) (by rfl) ?_ ?_
    · intro w
      go_simp
    try simp only [Act.put, List.setIfInBounds_toArray, List.set_cons_zero, List.set_cons_succ]
    refine wpAnyG_pure (i := 3) (oi := ⟨some 16, _, _, _, _, _⟩) (v := ?_) rfl (by kernel_rfl) (by kernel_rfl) (by kernel_rfl) (by rfl) (fun _ _ _ h => h) (by rfl) ?_ ?_
    rotate_left
    · intro w
      go_simp
      first | done | with_reducible rfl
    try simp only [Act.put, List.setIfInBounds_toArray, List.set_cons_zero, List.set_cons_succ]
    refine wpAnyG_pure (i := 4) (oi := ⟨some 17, _, _, _, _, _⟩) (v := ?_) rfl (by kernel_rfl) (by kernel_rfl) (by kernel_rfl) (by rfl) (fun _ _ _ h => h) (by rfl) ?_ ?_
    rotate_left
    · intro w
      go_simp
      first | done | with_reducible rfl
    try simp only [Act.put, List.setIfInBounds_toArray, List.set_cons_zero, List.set_cons_succ]
    refine wpAnyG_pure (i := 5) (oi := ⟨some 18, _, _, _, _, _⟩) (v := ?_) rfl (by kernel_rfl) (by kernel_rfl) (by kernel_rfl) (by rfl) (fun _ _ _ h => h) (by rfl) ?_ ?_
    rotate_left
    · intro w
      go_simp
      first | done | with_reducible rfl
    try simp only [Act.put, List.setIfInBounds_toArray, List.set_cons_zero, List.set_cons_succ]
    refine wpAnyG_pure (i := 6) (oi := ⟨some 19, _, _, _, _, _⟩) (v := ?_) rfl (by kernel_rfl) (by kernel_rfl) (by kernel_rfl) (by rfl) (fun _ _ _ h => h) (by rfl) ?_ ?_
    rotate_left
    · intro w
      go_simp
      first | done | with_reducible rfl
    try simp only [Act.put, List.setIfInBounds_toArray, List.set_cons_zero, List.set_cons_succ]
    refine wpAnyG_pure (i := 7) (oi := ⟨some 20, _, _, _, _, _⟩) (v := ?_) rfl (by kernel_rfl) (by kernel_rfl) (by kernel_rfl) (by rfl) (fun _ _ _ h => h) (by rfl) ?_ ?_
    rotate_left
    · intro w
      go_simp
      first | done | with_reducible rfl
    try simp only [Act.put, List.setIfInBounds_toArray, List.set_cons_zero, List.set_cons_succ]
    refine wpAnyG_pure (i := 8) (oi := ⟨some 21, _, _, _, _, _⟩) (v := (.string r)) rfl (by kernel_rfl) (by kernel_rfl) (by kernel_rfl) (by rfl) (fun _ _ _ h => h) (by rfl) ?_ ?_
    · intro w
      have i4 := i3; simp only [i4] at *; go_simp; intro hx; exact absurd (hx (by omega)) (by omega)
    try simp only [Act.put, List.setIfInBounds_toArray, List.set_cons_zero, List.set_cons_succ]
    refine wpAnyG_pure (i := 9) (oi := ⟨some 4, _, _, _, _, _⟩) (v := ?_) rfl (by kernel_rfl) (by kernel_rfl) (by kernel_rfl) (by rfl) (fun _ _ _ h => h) (by rfl) ?_ ?_
    rotate_left
    · intro w
      go_simp
      first | done | with_reducible rfl
    try simp only [Act.put, List.setIfInBounds_toArray, List.set_cons_zero, List.set_cons_succ]
    refine wpAnyG_pure (i := 10) (oi := ⟨some 5, _, _, _, _, _⟩) (v := ?_) rfl (by kernel_rfl) (by kernel_rfl) (by kernel_rfl) (by rfl) (fun _ _ _ h => h) (by rfl) ?_ ?_
    rotate_left
    · intro w
      go_simp
      first | done | with_reducible rfl
    try simp only [Act.put, List.setIfInBounds_toArray, List.set_cons_zero, List.set_cons_succ]
    refine wpAnyG_pure (i := 11) (oi := ⟨some 6, _, _, _, _, _⟩) (v := ?_) rfl (by kernel_rfl) (by kernel_rfl) (by kernel_rfl) (by rfl) (fun _ _ _ h => h) (by rfl) ?_ ?_
    rotate_left
    · intro w
      go_simp
      first | done | with_reducible rfl
    try simp only [Act.put, List.setIfInBounds_toArray, List.set_cons_zero, List.set_cons_succ]
    refine wpAnyG_done (by kernel_rfl) ?_ _
    refine NoPanic.normal ?_
    go_wp2_with fail
    go_ret3
    exact ⟨rfl, h⟩
  clear K H i0 i1 i2 i3 e1 e2
  go_enter Tryz.func88, Tryz.ntmps88
  go_wp2_with (refine K2.mono ?_; clear K2; rintro e w2 ⟨rfl, h⟩)
  go_ret3
  exact ⟨rfl, h⟩
end
end Go.Proofs.YtabibfabieghpaaGreatDoor
