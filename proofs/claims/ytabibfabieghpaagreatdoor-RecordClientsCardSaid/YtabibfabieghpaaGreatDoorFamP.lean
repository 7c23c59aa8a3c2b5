/- The family's fields; record.PrintFamily (printed by gen_famp.py). -/
import Derived.Test.YtabibfabieghpaaGreatDoorFam
import Derived.Test.YtabibfabieghpaaGreatDoorPrTok
namespace Go.Proofs.YtabibfabieghpaaGreatDoor
open Go.RowKit
def famFs (tb fb : Nat) : List (Fk × Addr) := [(.text, ⟨tb, 1, none⟩), (.text, ⟨tb, 2, none⟩), (.text, ⟨fb, 0, none⟩), (.num 6, ⟨tb, 4, none⟩), (.num 6, ⟨tb, 5, none⟩), (.num 6, ⟨tb, 6, none⟩), (.num 6, ⟨tb, 7, none⟩), (.num 6, ⟨tb, 8, none⟩), (.num 4, ⟨tb, 9, none⟩), (.num 8, ⟨tb, 10, none⟩), (.num 1, ⟨tb, 11, none⟩), (.num 6, ⟨tb, 12, none⟩), (.num 8, ⟨tb, 13, none⟩)]
section
variable {E : World} {L : List Hp}
set_option maxRecDepth 20000 in
set_option maxHeartbeats 4000000 in
theorem familyfields_any (tb fb : Nat) (w : World) (h : Own E w L) :
    Calls Tryz.prog 83 #[.pointer (some ⟨tb, 0, none⟩), .pointer (some ⟨fb, 0, none⟩)] w fun e w' => ∃ b, e = .returned (.slice (some ⟨b, 0, none⟩) 13 13) ∧ Own E w' (Hp.blk b FT ((famFs tb fb).flatMap enF).toArray :: L) := by
  go_enter Tryz.func83, Tryz.ntmps83
  go_wp2_with fail
  refine wp_region_text [] (fun w => Own E w L) (by kernel_rfl) ?_ (fun hS => ?_)
  · exact h.drew
  refine wpAnyG_pure (i := 0) (oi := ⟨some 5, _, _, _, _, _⟩) (v := ?_) rfl (by kernel_rfl) (by kernel_rfl) (by kernel_rfl) (by rfl) (fun _ _ _ h => h) (by rfl) ?_ ?_
  rotate_left
  · intro w
    go_simp
    first | done | with_reducible rfl
  try simp only [Act.put, List.setIfInBounds_toArray, List.set_cons_zero, List.set_cons_succ]
  refine wpAnyG_pure (i := 1) (oi := ⟨some 6, _, _, _, _, _⟩) (v := ?_) rfl (by kernel_rfl) (by kernel_rfl) (by kernel_rfl) (by rfl) (fun _ _ _ h => h) (by rfl) ?_ ?_
  rotate_left
  · intro w
    go_simp
    first | done | with_reducible rfl
  try simp only [Act.put, List.setIfInBounds_toArray, List.set_cons_zero, List.set_cons_succ]
  refine wpAnyG_pure (i := 2) (oi := ⟨some 7, _, _, _, _, _⟩) (v := ?_) rfl (by kernel_rfl) (by kernel_rfl) (by kernel_rfl) (by rfl) (fun _ _ _ h => h) (by rfl) ?_ ?_
  rotate_left
  · intro w
    go_simp
    first | done | with_reducible rfl
  try simp only [Act.put, List.setIfInBounds_toArray, List.set_cons_zero, List.set_cons_succ]
  refine wpAnyG_pure (i := 4) (oi := ⟨some 9, _, _, _, _, _⟩) (v := ?_) rfl (by kernel_rfl) (by kernel_rfl) (by kernel_rfl) (by rfl) (fun _ _ _ h => h) (by rfl) ?_ ?_
  rotate_left
  · intro w
    go_simp
    first | done | with_reducible rfl
  try simp only [Act.put, List.setIfInBounds_toArray, List.set_cons_zero, List.set_cons_succ]
  refine wpAnyG_pure (i := 5) (oi := ⟨some 10, _, _, _, _, _⟩) (v := ?_) rfl (by kernel_rfl) (by kernel_rfl) (by kernel_rfl) (by rfl) (fun _ _ _ h => h) (by rfl) ?_ ?_
  rotate_left
  · intro w
    go_simp
    first | done | with_reducible rfl
  try simp only [Act.put, List.setIfInBounds_toArray, List.set_cons_zero, List.set_cons_succ]
  refine wpAnyG_pure (i := 6) (oi := ⟨some 11, _, _, _, _, _⟩) (v := ?_) rfl (by kernel_rfl) (by kernel_rfl) (by kernel_rfl) (by rfl) (fun _ _ _ h => h) (by rfl) ?_ ?_
  rotate_left
  · intro w
    go_simp
    first | done | with_reducible rfl
  try simp only [Act.put, List.setIfInBounds_toArray, List.set_cons_zero, List.set_cons_succ]
  refine wpAnyG_pure (i := 8) (oi := ⟨some 13, _, _, _, _, _⟩) (v := ?_) rfl (by kernel_rfl) (by kernel_rfl) (by kernel_rfl) (by rfl) (fun _ _ _ h => h) (by rfl) ?_ ?_
  rotate_left
  · intro w
    go_simp
    first | done | with_reducible rfl
  try simp only [Act.put, List.setIfInBounds_toArray, List.set_cons_zero, List.set_cons_succ]
  refine wpAnyG_pure (i := 10) (oi := ⟨some 15, _, _, _, _, _⟩) (v := ?_) rfl (by kernel_rfl) (by kernel_rfl) (by kernel_rfl) (by rfl) (fun _ _ _ h => h) (by rfl) ?_ ?_
  rotate_left
  · intro w
    go_simp
    first | done | with_reducible rfl
  try simp only [Act.put, List.setIfInBounds_toArray, List.set_cons_zero, List.set_cons_succ]
  refine wpAnyG_pure (i := 11) (oi := ⟨some 16, _, _, _, _, _⟩) (v := ?_) rfl (by kernel_rfl) (by kernel_rfl) (by kernel_rfl) (by rfl) (fun _ _ _ h => h) (by rfl) ?_ ?_
  rotate_left
  · intro w
    go_simp
    first | done | with_reducible rfl
  try simp only [Act.put, List.setIfInBounds_toArray, List.set_cons_zero, List.set_cons_succ]
  refine wpAnyG_pure (i := 12) (oi := ⟨some 17, _, _, _, _, _⟩) (v := ?_) rfl (by kernel_rfl) (by kernel_rfl) (by kernel_rfl) (by rfl) (fun _ _ _ h => h) (by rfl) ?_ ?_
  rotate_left
  · intro w
    go_simp
    first | done | with_reducible rfl
  try simp only [Act.put, List.setIfInBounds_toArray, List.set_cons_zero, List.set_cons_succ]
  refine wpAnyG_pure (i := 14) (oi := ⟨some 19, _, _, _, _, _⟩) (v := ?_) rfl (by kernel_rfl) (by kernel_rfl) (by kernel_rfl) (by rfl) (fun _ _ _ h => h) (by rfl) ?_ ?_
  rotate_left
  · intro w
    go_simp
    first | done | with_reducible rfl
  try simp only [Act.put, List.setIfInBounds_toArray, List.set_cons_zero, List.set_cons_succ]
  refine wpAnyG_pure (i := 15) (oi := ⟨some 20, _, _, _, _, _⟩) (v := ?_) rfl (by kernel_rfl) (by kernel_rfl) (by kernel_rfl) (by rfl) (fun _ _ _ h => h) (by rfl) ?_ ?_
  rotate_left
  · intro w
    go_simp
    first | done | with_reducible rfl
  try simp only [Act.put, List.setIfInBounds_toArray, List.set_cons_zero, List.set_cons_succ]
  refine wpAnyG_pure (i := 16) (oi := ⟨some 21, _, _, _, _, _⟩) (v := ?_) rfl (by kernel_rfl) (by kernel_rfl) (by kernel_rfl) (by rfl) (fun _ _ _ h => h) (by rfl) ?_ ?_
  rotate_left
  · intro w
    go_simp
    first | done | with_reducible rfl
  try simp only [Act.put, List.setIfInBounds_toArray, List.set_cons_zero, List.set_cons_succ]
  refine wpAnyG_pure (i := 18) (oi := ⟨some 23, _, _, _, _, _⟩) (v := ?_) rfl (by kernel_rfl) (by kernel_rfl) (by kernel_rfl) (by rfl) (fun _ _ _ h => h) (by rfl) ?_ ?_
  rotate_left
  · intro w
    go_simp
    first | done | with_reducible rfl
  try simp only [Act.put, List.setIfInBounds_toArray, List.set_cons_zero, List.set_cons_succ]
  refine wpAnyG_pure (i := 19) (oi := ⟨some 24, _, _, _, _, _⟩) (v := ?_) rfl (by kernel_rfl) (by kernel_rfl) (by kernel_rfl) (by rfl) (fun _ _ _ h => h) (by rfl) ?_ ?_
  rotate_left
  · intro w
    go_simp
    first | done | with_reducible rfl
  try simp only [Act.put, List.setIfInBounds_toArray, List.set_cons_zero, List.set_cons_succ]
  refine wpAnyG_pure (i := 20) (oi := ⟨some 25, _, _, _, _, _⟩) (v := ?_) rfl (by kernel_rfl) (by kernel_rfl) (by kernel_rfl) (by rfl) (fun _ _ _ h => h) (by rfl) ?_ ?_
  rotate_left
  · intro w
    go_simp
    first | done | with_reducible rfl
  try simp only [Act.put, List.setIfInBounds_toArray, List.set_cons_zero, List.set_cons_succ]
  refine wpAnyG_pure (i := 22) (oi := ⟨some 27, _, _, _, _, _⟩) (v := ?_) rfl (by kernel_rfl) (by kernel_rfl) (by kernel_rfl) (by rfl) (fun _ _ _ h => h) (by rfl) ?_ ?_
  rotate_left
  · intro w
    go_simp
    first | done | with_reducible rfl
  try simp only [Act.put, List.setIfInBounds_toArray, List.set_cons_zero, List.set_cons_succ]
  refine wpAnyG_pure (i := 23) (oi := ⟨some 28, _, _, _, _, _⟩) (v := ?_) rfl (by kernel_rfl) (by kernel_rfl) (by kernel_rfl) (by rfl) (fun _ _ _ h => h) (by rfl) ?_ ?_
  rotate_left
  · intro w
    go_simp
    first | done | with_reducible rfl
  try simp only [Act.put, List.setIfInBounds_toArray, List.set_cons_zero, List.set_cons_succ]
  refine wpAnyG_pure (i := 24) (oi := ⟨some 29, _, _, _, _, _⟩) (v := ?_) rfl (by kernel_rfl) (by kernel_rfl) (by kernel_rfl) (by rfl) (fun _ _ _ h => h) (by rfl) ?_ ?_
  rotate_left
  · intro w
    go_simp
    first | done | with_reducible rfl
  try simp only [Act.put, List.setIfInBounds_toArray, List.set_cons_zero, List.set_cons_succ]
  refine wpAnyG_pure (i := 26) (oi := ⟨some 31, _, _, _, _, _⟩) (v := ?_) rfl (by kernel_rfl) (by kernel_rfl) (by kernel_rfl) (by rfl) (fun _ _ _ h => h) (by rfl) ?_ ?_
  rotate_left
  · intro w
    go_simp
    first | done | with_reducible rfl
  try simp only [Act.put, List.setIfInBounds_toArray, List.set_cons_zero, List.set_cons_succ]
  refine wpAnyG_pure (i := 27) (oi := ⟨some 32, _, _, _, _, _⟩) (v := ?_) rfl (by kernel_rfl) (by kernel_rfl) (by kernel_rfl) (by rfl) (fun _ _ _ h => h) (by rfl) ?_ ?_
  rotate_left
  · intro w
    go_simp
    first | done | with_reducible rfl
  try simp only [Act.put, List.setIfInBounds_toArray, List.set_cons_zero, List.set_cons_succ]
  refine wpAnyG_pure (i := 28) (oi := ⟨some 33, _, _, _, _, _⟩) (v := ?_) rfl (by kernel_rfl) (by kernel_rfl) (by kernel_rfl) (by rfl) (fun _ _ _ h => h) (by rfl) ?_ ?_
  rotate_left
  · intro w
    go_simp
    first | done | with_reducible rfl
  try simp only [Act.put, List.setIfInBounds_toArray, List.set_cons_zero, List.set_cons_succ]
  refine wpAnyG_pure (i := 30) (oi := ⟨some 35, _, _, _, _, _⟩) (v := ?_) rfl (by kernel_rfl) (by kernel_rfl) (by kernel_rfl) (by rfl) (fun _ _ _ h => h) (by rfl) ?_ ?_
  rotate_left
  · intro w
    go_simp
    first | done | with_reducible rfl
  try simp only [Act.put, List.setIfInBounds_toArray, List.set_cons_zero, List.set_cons_succ]
  refine wpAnyG_pure (i := 31) (oi := ⟨some 36, _, _, _, _, _⟩) (v := ?_) rfl (by kernel_rfl) (by kernel_rfl) (by kernel_rfl) (by rfl) (fun _ _ _ h => h) (by rfl) ?_ ?_
  rotate_left
  · intro w
    go_simp
    first | done | with_reducible rfl
  try simp only [Act.put, List.setIfInBounds_toArray, List.set_cons_zero, List.set_cons_succ]
  refine wpAnyG_pure (i := 32) (oi := ⟨some 37, _, _, _, _, _⟩) (v := ?_) rfl (by kernel_rfl) (by kernel_rfl) (by kernel_rfl) (by rfl) (fun _ _ _ h => h) (by rfl) ?_ ?_
  rotate_left
  · intro w
    go_simp
    first | done | with_reducible rfl
  try simp only [Act.put, List.setIfInBounds_toArray, List.set_cons_zero, List.set_cons_succ]
  refine wpAnyG_pure (i := 34) (oi := ⟨some 39, _, _, _, _, _⟩) (v := ?_) rfl (by kernel_rfl) (by kernel_rfl) (by kernel_rfl) (by rfl) (fun _ _ _ h => h) (by rfl) ?_ ?_
  rotate_left
  · intro w
    go_simp
    first | done | with_reducible rfl
  try simp only [Act.put, List.setIfInBounds_toArray, List.set_cons_zero, List.set_cons_succ]
  refine wpAnyG_pure (i := 35) (oi := ⟨some 40, _, _, _, _, _⟩) (v := ?_) rfl (by kernel_rfl) (by kernel_rfl) (by kernel_rfl) (by rfl) (fun _ _ _ h => h) (by rfl) ?_ ?_
  rotate_left
  · intro w
    go_simp
    first | done | with_reducible rfl
  try simp only [Act.put, List.setIfInBounds_toArray, List.set_cons_zero, List.set_cons_succ]
  refine wpAnyG_pure (i := 36) (oi := ⟨some 41, _, _, _, _, _⟩) (v := ?_) rfl (by kernel_rfl) (by kernel_rfl) (by kernel_rfl) (by rfl) (fun _ _ _ h => h) (by rfl) ?_ ?_
  rotate_left
  · intro w
    go_simp
    first | done | with_reducible rfl
  try simp only [Act.put, List.setIfInBounds_toArray, List.set_cons_zero, List.set_cons_succ]
  refine wpAnyG_pure (i := 38) (oi := ⟨some 43, _, _, _, _, _⟩) (v := ?_) rfl (by kernel_rfl) (by kernel_rfl) (by kernel_rfl) (by rfl) (fun _ _ _ h => h) (by rfl) ?_ ?_
  rotate_left
  · intro w
    go_simp
    first | done | with_reducible rfl
  try simp only [Act.put, List.setIfInBounds_toArray, List.set_cons_zero, List.set_cons_succ]
  refine wpAnyG_pure (i := 39) (oi := ⟨some 44, _, _, _, _, _⟩) (v := ?_) rfl (by kernel_rfl) (by kernel_rfl) (by kernel_rfl) (by rfl) (fun _ _ _ h => h) (by rfl) ?_ ?_
  rotate_left
  · intro w
    go_simp
    first | done | with_reducible rfl
  try simp only [Act.put, List.setIfInBounds_toArray, List.set_cons_zero, List.set_cons_succ]
  refine wpAnyG_pure (i := 40) (oi := ⟨some 45, _, _, _, _, _⟩) (v := ?_) rfl (by kernel_rfl) (by kernel_rfl) (by kernel_rfl) (by rfl) (fun _ _ _ h => h) (by rfl) ?_ ?_
  rotate_left
  · intro w
    go_simp
    first | done | with_reducible rfl
  try simp only [Act.put, List.setIfInBounds_toArray, List.set_cons_zero, List.set_cons_succ]
  refine wpAnyG_pure (i := 42) (oi := ⟨some 47, _, _, _, _, _⟩) (v := ?_) rfl (by kernel_rfl) (by kernel_rfl) (by kernel_rfl) (by rfl) (fun _ _ _ h => h) (by rfl) ?_ ?_
  rotate_left
  · intro w
    go_simp
    first | done | with_reducible rfl
  try simp only [Act.put, List.setIfInBounds_toArray, List.set_cons_zero, List.set_cons_succ]
  refine wpAnyG_pure (i := 43) (oi := ⟨some 48, _, _, _, _, _⟩) (v := ?_) rfl (by kernel_rfl) (by kernel_rfl) (by kernel_rfl) (by rfl) (fun _ _ _ h => h) (by rfl) ?_ ?_
  rotate_left
  · intro w
    go_simp
    first | done | with_reducible rfl
  try simp only [Act.put, List.setIfInBounds_toArray, List.set_cons_zero, List.set_cons_succ]
  refine wpAnyG_pure (i := 44) (oi := ⟨some 49, _, _, _, _, _⟩) (v := ?_) rfl (by kernel_rfl) (by kernel_rfl) (by kernel_rfl) (by rfl) (fun _ _ _ h => h) (by rfl) ?_ ?_
  rotate_left
  · intro w
    go_simp
    first | done | with_reducible rfl
  try simp only [Act.put, List.setIfInBounds_toArray, List.set_cons_zero, List.set_cons_succ]
  refine wpAnyG_pure (i := 46) (oi := ⟨some 51, _, _, _, _, _⟩) (v := ?_) rfl (by kernel_rfl) (by kernel_rfl) (by kernel_rfl) (by rfl) (fun _ _ _ h => h) (by rfl) ?_ ?_
  rotate_left
  · intro w
    go_simp
    first | done | with_reducible rfl
  try simp only [Act.put, List.setIfInBounds_toArray, List.set_cons_zero, List.set_cons_succ]
  refine wpAnyG_pure (i := 47) (oi := ⟨some 52, _, _, _, _, _⟩) (v := ?_) rfl (by kernel_rfl) (by kernel_rfl) (by kernel_rfl) (by rfl) (fun _ _ _ h => h) (by rfl) ?_ ?_
  rotate_left
  · intro w
    go_simp
    first | done | with_reducible rfl
  try simp only [Act.put, List.setIfInBounds_toArray, List.set_cons_zero, List.set_cons_succ]
  refine wpAnyG_pure (i := 48) (oi := ⟨some 53, _, _, _, _, _⟩) (v := ?_) rfl (by kernel_rfl) (by kernel_rfl) (by kernel_rfl) (by rfl) (fun _ _ _ h => h) (by rfl) ?_ ?_
  rotate_left
  · intro w
    go_simp
    first | done | with_reducible rfl
  try simp only [Act.put, List.setIfInBounds_toArray, List.set_cons_zero, List.set_cons_succ]
  refine wpAnyG_keep (i := 3) (oi := ⟨some 8, _, _, _, _, _⟩) (by kernel_rfl) rfl (fun K hK => ?_)
  rw [if_pos (by rfl)]
  go_simp
  refine (ftext_any ⟨tb, 1, none⟩ _ hS).mono ?_
  clear hS
  rintro e w2 ⟨rfl, h⟩
  refine hK.out _ _ ?_ (fun hS => ?_)
  · exact h
  clear hK K
  try simp only [Act.put, List.setIfInBounds_toArray, List.set_cons_zero, List.set_cons_succ]
  refine wpAnyG_keep (i := 7) (oi := ⟨some 12, _, _, _, _, _⟩) (by kernel_rfl) rfl (fun K hK => ?_)
  rw [if_pos (by rfl)]
  go_simp
  refine (ftext_any ⟨tb, 2, none⟩ _ hS).mono ?_
  clear hS
  rintro e w2 ⟨rfl, h⟩
  refine hK.out _ _ ?_ (fun hS => ?_)
  · exact h
  clear hK K
  try simp only [Act.put, List.setIfInBounds_toArray, List.set_cons_zero, List.set_cons_succ]
  refine wpAnyG_keep (i := 9) (oi := ⟨some 14, _, _, _, _, _⟩) (by kernel_rfl) rfl (fun K hK => ?_)
  rw [if_pos (by rfl)]
  go_simp
  refine (ftext_any ⟨fb, 0, none⟩ _ hS).mono ?_
  clear hS
  rintro e w2 ⟨rfl, h⟩
  refine hK.out _ _ ?_ (fun hS => ?_)
  · exact h
  clear hK K
  try simp only [Act.put, List.setIfInBounds_toArray, List.set_cons_zero, List.set_cons_succ]
  refine wpAnyG_keep (i := 13) (oi := ⟨some 18, _, _, _, _, _⟩) (by kernel_rfl) rfl (fun K hK => ?_)
  rw [if_pos (by rfl)]
  go_simp
  refine (fnum_any 6 ⟨tb, 4, none⟩ _ hS).mono ?_
  clear hS
  rintro e w2 ⟨rfl, h⟩
  refine hK.out _ _ ?_ (fun hS => ?_)
  · exact h
  clear hK K
  try simp only [Act.put, List.setIfInBounds_toArray, List.set_cons_zero, List.set_cons_succ]
  refine wpAnyG_keep (i := 17) (oi := ⟨some 22, _, _, _, _, _⟩) (by kernel_rfl) rfl (fun K hK => ?_)
  rw [if_pos (by rfl)]
  go_simp
  refine (fnum_any 6 ⟨tb, 5, none⟩ _ hS).mono ?_
  clear hS
  rintro e w2 ⟨rfl, h⟩
  refine hK.out _ _ ?_ (fun hS => ?_)
  · exact h
  clear hK K
  try simp only [Act.put, List.setIfInBounds_toArray, List.set_cons_zero, List.set_cons_succ]
  refine wpAnyG_keep (i := 21) (oi := ⟨some 26, _, _, _, _, _⟩) (by kernel_rfl) rfl (fun K hK => ?_)
  rw [if_pos (by rfl)]
  go_simp
  refine (fnum_any 6 ⟨tb, 6, none⟩ _ hS).mono ?_
  clear hS
  rintro e w2 ⟨rfl, h⟩
  refine hK.out _ _ ?_ (fun hS => ?_)
  · exact h
  clear hK K
  try simp only [Act.put, List.setIfInBounds_toArray, List.set_cons_zero, List.set_cons_succ]
  refine wpAnyG_keep (i := 25) (oi := ⟨some 30, _, _, _, _, _⟩) (by kernel_rfl) rfl (fun K hK => ?_)
  rw [if_pos (by rfl)]
  go_simp
  refine (fnum_any 6 ⟨tb, 7, none⟩ _ hS).mono ?_
  clear hS
  rintro e w2 ⟨rfl, h⟩
  refine hK.out _ _ ?_ (fun hS => ?_)
  · exact h
  clear hK K
  try simp only [Act.put, List.setIfInBounds_toArray, List.set_cons_zero, List.set_cons_succ]
  refine wpAnyG_keep (i := 29) (oi := ⟨some 34, _, _, _, _, _⟩) (by kernel_rfl) rfl (fun K hK => ?_)
  rw [if_pos (by rfl)]
  go_simp
  refine (fnum_any 6 ⟨tb, 8, none⟩ _ hS).mono ?_
  clear hS
  rintro e w2 ⟨rfl, h⟩
  refine hK.out _ _ ?_ (fun hS => ?_)
  · exact h
  clear hK K
  try simp only [Act.put, List.setIfInBounds_toArray, List.set_cons_zero, List.set_cons_succ]
  refine wpAnyG_keep (i := 33) (oi := ⟨some 38, _, _, _, _, _⟩) (by kernel_rfl) rfl (fun K hK => ?_)
  rw [if_pos (by rfl)]
  go_simp
  refine (fnum_any 4 ⟨tb, 9, none⟩ _ hS).mono ?_
  clear hS
  rintro e w2 ⟨rfl, h⟩
  refine hK.out _ _ ?_ (fun hS => ?_)
  · exact h
  clear hK K
  try simp only [Act.put, List.setIfInBounds_toArray, List.set_cons_zero, List.set_cons_succ]
  refine wpAnyG_keep (i := 37) (oi := ⟨some 42, _, _, _, _, _⟩) (by kernel_rfl) rfl (fun K hK => ?_)
  rw [if_pos (by rfl)]
  go_simp
  refine (fnum_any 8 ⟨tb, 10, none⟩ _ hS).mono ?_
  clear hS
  rintro e w2 ⟨rfl, h⟩
  refine hK.out _ _ ?_ (fun hS => ?_)
  · exact h
  clear hK K
  try simp only [Act.put, List.setIfInBounds_toArray, List.set_cons_zero, List.set_cons_succ]
  refine wpAnyG_keep (i := 41) (oi := ⟨some 46, _, _, _, _, _⟩) (by kernel_rfl) rfl (fun K hK => ?_)
  rw [if_pos (by rfl)]
  go_simp
  refine (fnum_any 1 ⟨tb, 11, none⟩ _ hS).mono ?_
  clear hS
  rintro e w2 ⟨rfl, h⟩
  refine hK.out _ _ ?_ (fun hS => ?_)
  · exact h
  clear hK K
  try simp only [Act.put, List.setIfInBounds_toArray, List.set_cons_zero, List.set_cons_succ]
  refine wpAnyG_keep (i := 45) (oi := ⟨some 50, _, _, _, _, _⟩) (by kernel_rfl) rfl (fun K hK => ?_)
  rw [if_pos (by rfl)]
  go_simp
  refine (fnum_any 6 ⟨tb, 12, none⟩ _ hS).mono ?_
  clear hS
  rintro e w2 ⟨rfl, h⟩
  refine hK.out _ _ ?_ (fun hS => ?_)
  · exact h
  clear hK K
  try simp only [Act.put, List.setIfInBounds_toArray, List.set_cons_zero, List.set_cons_succ]
  refine wpAnyG_keep (i := 49) (oi := ⟨some 54, _, _, _, _, _⟩) (by kernel_rfl) rfl (fun K hK => ?_)
  rw [if_pos (by rfl)]
  go_simp
  refine (fnum_any 8 ⟨tb, 13, none⟩ _ hS).mono ?_
  clear hS
  rintro e w2 ⟨rfl, h⟩
  refine hK.out _ _ ?_ (fun hS => ?_)
  · exact h
  clear hK K
  try simp only [Act.put, List.setIfInBounds_toArray, List.set_cons_zero, List.set_cons_succ]
  refine wpAnyG_break (i := 50) (oi := ⟨some 55, _, _, _, _, _⟩) (by kernel_rfl) rfl (by kernel_rfl) (fun K hK => ?_)
  rw [if_pos (by rfl)]
  refine wp_fields (famFs tb fb) rfl rfl (by omega) (by omega) (by first | kernel_rfl | (simp [famFs]; done) | (simp [famFs]; rfl)) ?_
  have h := hS.alloc (.cells ((famFs tb fb).flatMap enF).toArray FT)
  refine hK.out _ _ ?_
  clear hK K
  try simp only [Act.put, List.setIfInBounds_toArray, List.set_cons_zero, List.set_cons_succ]
  refine wpAnyG_pure (i := 51) (oi := ⟨some 4, _, _, _, _, _⟩) (v := ?_) rfl (by kernel_rfl) (by kernel_rfl) (by kernel_rfl) (by rfl) (fun _ _ _ h => h) (by rfl) ?_ ?_
  rotate_left
  · intro w
    go_simp
    first | done | with_reducible rfl
  try simp only [Act.put, List.setIfInBounds_toArray, List.set_cons_zero, List.set_cons_succ]
  refine wpAnyG_done (by kernel_rfl) ?_ _
  refine NoPanic.normal ?_
  go_wp2_with fail
  go_ret
  exact ⟨_, rfl, h⟩
end
def famK (id : Int) : ByteArray := ⟨(102 :: byN 8 id.toNat).toArray⟩
def famV (cl su sT : ByteArray) (cr us ii ab gr ge tk st en co : Int) : ByteArray := ⟨((byN 1 cl.size ++ cl.data.toList) ++ (byN 1 su.size ++ su.data.toList) ++ (byN 1 sT.size ++ sT.data.toList) ++ byN 6 cr.toNat ++ byN 6 us.toNat ++ byN 6 ii.toNat ++ byN 6 ab.toNat ++ byN 6 gr.toNat ++ byN 4 ge.toNat ++ byN 8 tk.toNat ++ byN 1 st.toNat ++ byN 6 en.toNat ++ byN 8 co.toNat).toArray⟩
def famR (id : Int) (cl su : ByteArray) (xs : List ByteArray) (cr us ii ab gr ge tk st en co : Int) : ByteArray × ByteArray × Int := if famMay id cl su xs cr us ii ab gr ge tk st en co then (famK id, famV cl su (scTxt xs) cr us ii ab gr ge tk st en co, 0) else (noB, noB, 140)
def famFl (tb fb : Nat) (cl su sT : ByteArray) (cr us ii ab gr ge tk st en co : Int) : List Fld := [(.text, ⟨tb, 1, none⟩, .s cl), (.text, ⟨tb, 2, none⟩, .s su), (.text, ⟨fb, 0, none⟩, .s sT), (.num 6, ⟨tb, 4, none⟩, .n cr), (.num 6, ⟨tb, 5, none⟩, .n us), (.num 6, ⟨tb, 6, none⟩, .n ii), (.num 6, ⟨tb, 7, none⟩, .n ab), (.num 6, ⟨tb, 8, none⟩, .n gr), (.num 4, ⟨tb, 9, none⟩, .n ge), (.num 8, ⟨tb, 10, none⟩, .n tk), (.num 1, ⟨tb, 11, none⟩, .n st), (.num 6, ⟨tb, 12, none⟩, .n en), (.num 8, ⟨tb, 13, none⟩, .n co)]
theorem scTxt_size {xs : List ByteArray} (h : scErr xs = 0) : (scTxt xs).size ≤ 60 := by
  unfold scTxt
  rw [if_pos h, fl_size]
  unfold scErr at h
  split at h
  · split at h
    · omega
    · cases h
  · cases h
theorem fam_range {id : Int} {cl su : ByteArray} {xs : List ByteArray} {cr us ii ab gr ge tk st en co : Int} (h : famMay id cl su xs cr us ii ab gr ge tk st en co) : cl.size ≤ 16 ∧ su.size ≤ 16 ∧ (scTxt xs).size ≤ 60 ∧ (1 ≤ id ∧ id ≤ 4611686018427387904) ∧ (0 ≤ cr ∧ cr ≤ 1099511627776) ∧ (0 ≤ us ∧ us ≤ 1099511627776) ∧ (0 ≤ ii ∧ ii ≤ 1099511627776) ∧ (0 ≤ ab ∧ ab ≤ 1099511627776) ∧ (0 ≤ gr ∧ gr ≤ 1099511627776) ∧ (0 ≤ ge ∧ ge ≤ 1073741824) ∧ (0 ≤ tk ∧ tk ≤ 4611686018427387904) ∧ (0 ≤ st ∧ st ≤ 4) ∧ (0 ≤ en ∧ en ≤ 1099511627776) ∧ (0 ≤ co ∧ co ≤ 4611686018427387904) := by
  obtain ⟨c1, c2, c3, c4, c5, c6, c7, c8, c9, ca, cb, cc, cd, ce⟩ := h
  refine ⟨nm_size c2, nm_size c3, scTxt_size c4, ?_⟩
  omega
def FamIn (id : Int) (cl su sT : ByteArray) (cr us ii ab gr ge tk st en co : Int) : Prop := cl.size ≤ 16 ∧ su.size ≤ 16 ∧ sT.size ≤ 60 ∧ (1 ≤ id ∧ id ≤ 4611686018427387904) ∧ (0 ≤ cr ∧ cr ≤ 1099511627776) ∧ (0 ≤ us ∧ us ≤ 1099511627776) ∧ (0 ≤ ii ∧ ii ≤ 1099511627776) ∧ (0 ≤ ab ∧ ab ≤ 1099511627776) ∧ (0 ≤ gr ∧ gr ≤ 1099511627776) ∧ (0 ≤ ge ∧ ge ≤ 1073741824) ∧ (0 ≤ tk ∧ tk ≤ 4611686018427387904) ∧ (0 ≤ st ∧ st ≤ 4) ∧ (0 ≤ en ∧ en ≤ 1099511627776) ∧ (0 ≤ co ∧ co ≤ 4611686018427387904)
theorem fam_fits (tb fb : Nat) {id : Int} {cl su sT : ByteArray} {cr us ii ab gr ge tk st en co : Int} (h : FamIn id cl su sT cr us ii ab gr ge tk st en co) : ∀ x ∈ (famFl tb fb cl su sT cr us ii ab gr ge tk st en co).map Fld.kv, fits1 x := by
  obtain ⟨r1, r2, r3, r0, c0, c1, c2, c3, c4, c5, c6, c7, c8, c9⟩ := h
  intro x hx
  simp only [famFl, List.map_cons, List.map_nil, List.mem_cons, List.not_mem_nil, or_false] at hx
  rcases hx with rfl | rfl | rfl | rfl | rfl | rfl | rfl | rfl | rfl | rfl | rfl | rfl | rfl
  · show cl.size ≤ 255
    omega
  · show su.size ≤ 255
    omega
  · show sT.size ≤ 255
    omega
  · exact ⟨by decide, by decide, by show (0 : Int) ≤ cr; omega, by show cr < (256 : Int) ^ 6; omega, by show cr ≤ (9223372036854775807 : Int); omega⟩
  · exact ⟨by decide, by decide, by show (0 : Int) ≤ us; omega, by show us < (256 : Int) ^ 6; omega, by show us ≤ (9223372036854775807 : Int); omega⟩
  · exact ⟨by decide, by decide, by show (0 : Int) ≤ ii; omega, by show ii < (256 : Int) ^ 6; omega, by show ii ≤ (9223372036854775807 : Int); omega⟩
  · exact ⟨by decide, by decide, by show (0 : Int) ≤ ab; omega, by show ab < (256 : Int) ^ 6; omega, by show ab ≤ (9223372036854775807 : Int); omega⟩
  · exact ⟨by decide, by decide, by show (0 : Int) ≤ gr; omega, by show gr < (256 : Int) ^ 6; omega, by show gr ≤ (9223372036854775807 : Int); omega⟩
  · exact ⟨by decide, by decide, by show (0 : Int) ≤ ge; omega, by show ge < (256 : Int) ^ 4; omega, by show ge ≤ (9223372036854775807 : Int); omega⟩
  · exact ⟨by decide, by decide, by show (0 : Int) ≤ tk; omega, by show tk < (256 : Int) ^ 8; omega, by show tk ≤ (9223372036854775807 : Int); omega⟩
  · exact ⟨by decide, by decide, by show (0 : Int) ≤ st; omega, by show st < (256 : Int) ^ 1; omega, by show st ≤ (9223372036854775807 : Int); omega⟩
  · exact ⟨by decide, by decide, by show (0 : Int) ≤ en; omega, by show en < (256 : Int) ^ 6; omega, by show en ≤ (9223372036854775807 : Int); omega⟩
  · exact ⟨by decide, by decide, by show (0 : Int) ≤ co; omega, by show co < (256 : Int) ^ 8; omega, by show co ≤ (9223372036854775807 : Int); omega⟩
theorem fam_printed (tb fb : Nat) {id : Int} {cl su sT : ByteArray} {cr us ii ab gr ge tk st en co : Int} (h : FamIn id cl su sT cr us ii ab gr ge tk st en co) : printedV ((famFl tb fb cl su sT cr us ii ab gr ge tk st en co).map Fld.kv) = famV cl su sT cr us ii ab gr ge tk st en co := by
  rw [printed_fits (fam_fits tb fb h)]
  refine bytes_ext _ _ ?_
  show (((byN 1 cl.size ++ cl.data.toList) ++ ((byN 1 su.size ++ su.data.toList) ++ ((byN 1 sT.size ++ sT.data.toList) ++ (byN 6 cr.toNat ++ (byN 6 us.toNat ++ (byN 6 ii.toNat ++ (byN 6 ab.toNat ++ (byN 6 gr.toNat ++ (byN 4 ge.toNat ++ (byN 8 tk.toNat ++ (byN 1 st.toNat ++ (byN 6 en.toNat ++ (byN 8 co.toNat ++ [])))))))))))))).toArray.toList = _
  simp
theorem fam_ok (tb fb : Nat) {T : Ph} {id : Int} {cl su sT : ByteArray} {cr us ii ab gr ge tk st en co : Int} {A : Option Addr} {n c : Nat} (h : FamIn id cl su sT cr us ii ab gr ge tk st en co) (ht : ∀ i v, (famC id cl su A n c cr us ii ab gr ge tk st en co)[i]? = some v → T.cell ⟨tb, i, none⟩ = some v) (hf : T.cell ⟨fb, 0, none⟩ = some (.string sT)) : ∀ x ∈ famFl tb fb cl su sT cr us ii ab gr ge tk st en co, FldOk T x := by
  obtain ⟨r1, r2, r3, r0, c0, c1, c2, c3, c4, c5, c6, c7, c8, c9⟩ := h
  intro x hx
  simp only [famFl, List.mem_cons, List.not_mem_nil, or_false] at hx
  rcases hx with rfl | rfl | rfl | rfl | rfl | rfl | rfl | rfl | rfl | rfl | rfl | rfl | rfl
  · exact ⟨trivial, ht 1 _ rfl, by show (0 : Int) ≤ _; omega, by show cl.size ≤ _; omega⟩
  · exact ⟨trivial, ht 2 _ rfl, by show (0 : Int) ≤ _; omega, by show su.size ≤ _; omega⟩
  · exact ⟨trivial, hf, by show (0 : Int) ≤ _; omega, by show sT.size ≤ _; omega⟩
  · exact ⟨trivial, ht 4 _ rfl, by show cr ≤ (9223372036854775807 : Int); omega, by show (0 : Nat) ≤ _; omega⟩
  · exact ⟨trivial, ht 5 _ rfl, by show us ≤ (9223372036854775807 : Int); omega, by show (0 : Nat) ≤ _; omega⟩
  · exact ⟨trivial, ht 6 _ rfl, by show ii ≤ (9223372036854775807 : Int); omega, by show (0 : Nat) ≤ _; omega⟩
  · exact ⟨trivial, ht 7 _ rfl, by show ab ≤ (9223372036854775807 : Int); omega, by show (0 : Nat) ≤ _; omega⟩
  · exact ⟨trivial, ht 8 _ rfl, by show gr ≤ (9223372036854775807 : Int); omega, by show (0 : Nat) ≤ _; omega⟩
  · exact ⟨trivial, ht 9 _ rfl, by show ge ≤ (9223372036854775807 : Int); omega, by show (0 : Nat) ≤ _; omega⟩
  · exact ⟨trivial, ht 10 _ rfl, by show tk ≤ (9223372036854775807 : Int); omega, by show (0 : Nat) ≤ _; omega⟩
  · exact ⟨trivial, ht 11 _ rfl, by show st ≤ (9223372036854775807 : Int); omega, by show (0 : Nat) ≤ _; omega⟩
  · exact ⟨trivial, ht 12 _ rfl, by show en ≤ (9223372036854775807 : Int); omega, by show (0 : Nat) ≤ _; omega⟩
  · exact ⟨trivial, ht 13 _ rfl, by show co ≤ (9223372036854775807 : Int); omega, by show (0 : Nat) ≤ _; omega⟩
section
variable {E : World} {S : Ph} {L : List Hp}
set_option maxRecDepth 20000 in
set_option maxHeartbeats 8000000 in
theorem printfam_any (id : Int) (cl su : ByteArray) (A : Option Addr) (n c : Nat) (cr us ii ab gr ge tk st en co : Int) (xs : List ByteArray) (w : World) (hr : Rds S 1 enStr A n xs) (hnc : n ≤ c) (hn43 : n ≤ 8796093022208) (hG : Laid0 E (Hp.ro S :: L)) (h : Own E w (Hp.ro S :: L)) :
    Calls Tryz.prog 28 #[.agg (famC id cl su A n c cr us ii ab gr ge tk st en co).toArray] w fun ev w' => ev = .returned (itemV (famR id cl su xs cr us ii ab gr ge tk st en co)) ∧ Own E w' (Hp.ro S :: L) := by
  have h1 := h.alloc (.cells (famC id cl su A n c cr us ii ab gr ge tk st en co).toArray FMT)
  have h2 := h1.alloc (.cells #[.string ⟨#[]⟩, .string ⟨#[]⟩] ITT)
  rw [alloc_size] at h2
  have H3 := Lib.hid h2
  obtain ⟨dd, hd, hrow⟩ := itt_u
  by_cases hm : famMay id cl su xs cr us ii ab gr ge tk st en co
  · have hrg : FamIn id cl su (scTxt xs) cr us ii ab gr ge tk st en co := fam_range hm
    have hsc : scErr xs = 0 := hm.2.2.2.1
    have HR : Hid (famR id cl su xs cr us ii ab gr ge tk st en co = (famK id, famV cl su (scTxt xs) cr us ii ab gr ge tk st en co, 0)) := Lib.hid (if_pos hm)
    have KM : Hid (∀ w3 : World, Own E w3 (Hp.blk (w.heap.size + 1) ITT #[.string ⟨#[]⟩, .string ⟨#[]⟩] :: Hp.blk w.heap.size FMT (famC id cl su A n c cr us ii ab gr ge tk st en co).toArray :: Hp.ro S :: L) → Calls Tryz.prog 81 #[.agg (famC id cl su A n c cr us ii ab gr ge tk st en co).toArray] w3 fun ev w' => ev = .returned (.bool true) ∧ w'.cell? ⟨w.heap.size, 3, none⟩ = some (.slice A n c) ∧ Own E w' (Hp.blk (w.heap.size + 1) ITT #[.string ⟨#[]⟩, .string ⟨#[]⟩] :: Hp.blk w.heap.size FMT (famC id cl su A n c cr us ii ab gr ge tk st en co).toArray :: Hp.ro S :: L)) := Lib.hid fun w3 h3 => (familymay_any id cl su A n c cr us ii ab gr ge tk st en co xs w3 hr hnc hn43 (show Own E w3 (Hp.ro S :: Hp.blk (w.heap.size + 1) ITT #[.string ⟨#[]⟩, .string ⟨#[]⟩] :: Hp.blk w.heap.size FMT (famC id cl su A n c cr us ii ab gr ge tk st en co).toArray :: L) from h3.f2)).mono fun ev w' he => ⟨by rw [he.1, decide_eq_true hm], by rw [he.2.f2.cell 3]; rfl, he.2.f2.f2⟩
    have KS : Hid (∀ w3 : World, Own E w3 (Hp.blk (w.heap.size + 1) ITT #[.string ⟨#[]⟩, .string ⟨#[]⟩] :: Hp.blk w.heap.size FMT (famC id cl su A n c cr us ii ab gr ge tk st en co).toArray :: Hp.ro S :: L) → Calls Tryz.prog 82 #[.slice A n c] w3 fun ev w' => ev = .returned (.tuple #[.string (scTxt xs), .bool true]) ∧ Own E w' (Hp.blk (w.heap.size + 1) ITT #[.string ⟨#[]⟩, .string ⟨#[]⟩] :: Hp.blk w.heap.size FMT (famC id cl su A n c cr us ii ab gr ge tk st en co).toArray :: Hp.ro S :: L)) := Lib.hid fun w3 h3 => (scoped_any A n c xs w3 hr hnc hn43 (show Own E w3 (Hp.ro S :: Hp.blk (w.heap.size + 1) ITT #[.string ⟨#[]⟩, .string ⟨#[]⟩] :: Hp.blk w.heap.size FMT (famC id cl su A n c cr us ii ab gr ge tk st en co).toArray :: L) from h3.f2)).mono fun ev w' he => ⟨by rw [he.1, decide_eq_true hsc], he.2.f2.f2⟩
    have HNUM : Hid (∀ (fb : Nat) (w3 : World), Own E w3 (Hp.blk fb 9 #[.string (scTxt xs)] :: Hp.blk (w.heap.size + 1) ITT #[.string ⟨#[]⟩, .string ⟨#[]⟩] :: Hp.blk w.heap.size FMT (famC id cl su A n c cr us ii ab gr ge tk st en co).toArray :: Hp.ro S :: L) → Calls Tryz.prog 60 #[.string ⟨#[102]⟩, .int .i64 8, .int .i64 id] w3 fun ev w' => ev = .returned (.string (famK id)) ∧ Own E w' (Hp.blk fb 9 #[.string (scTxt xs)] :: Hp.blk (w.heap.size + 1) ITT #[.string ⟨#[]⟩, .string ⟨#[]⟩] :: Hp.blk w.heap.size FMT (famC id cl su A n c cr us ii ab gr ge tk st en co).toArray :: Hp.ro S :: L)) := Lib.hid fun fb w3 h3 => by
      have c1 := hrg.2.2.2.1
      have hnum := numbered_any (E := E) ⟨#[102]⟩ 8 id w3 (by decide) (by omega) hG.cons.cons.cons h3
      rw [key_num 102 8 id (by omega) (by omega) (by omega) (by omega) (by omega)] at hnum
      exact hnum
    have HP : Hid (∀ (bb fb : Nat) (w3 : World), Own E w3 (Hp.blk bb FT ((famFs w.heap.size fb).flatMap enF).toArray :: Hp.blk fb 9 #[.string (scTxt xs)] :: Hp.blk (w.heap.size + 1) ITT #[.string ⟨#[]⟩, .string ⟨#[]⟩] :: Hp.blk w.heap.size FMT (famC id cl su A n c cr us ii ab gr ge tk st en co).toArray :: Hp.ro S :: L) →
        Calls Tryz.prog 61 #[.slice (some ⟨bb, 0, none⟩) 13 13] w3 fun ev w' => ev = .returned (.string (famV cl su (scTxt xs) cr us ii ab gr ge tk st en co)) ∧ Own E w' (Hp.blk (w.heap.size + 1) ITT #[.string ⟨#[]⟩, .string ⟨#[]⟩] :: Hp.ro S :: L)) := Lib.hid fun bb fb w3 h3 => by
      have h4 : Own E w3 (Hp.ro (Ph.one fb (.cells #[.string (scTxt xs)] 9 (0, 0))) :: Hp.ro (Ph.one w.heap.size (.cells (famC id cl su A n c cr us ii ab gr ge tk st en co).toArray FMT (0, 0))) :: Hp.blk bb FT ((famFl w.heap.size fb cl su (scTxt xs) cr us ii ab gr ge tk st en co).flatMap enFld).toArray :: Hp.blk (w.heap.size + 1) ITT #[.string ⟨#[]⟩, .string ⟨#[]⟩] :: Hp.ro S :: L) := h3.f3.f2
      obtain ⟨m1, d1⟩ := h4.merge
      refine (printed_blk bb 13 (famFl w.heap.size fb cl su (scTxt xs) cr us ii ab gr ge tk st en co) w3 rfl (by omega) (fam_ok _ _ hrg (fun i v hv => kept_cell d1 (by rw [one_cell, List.getElem?_toArray]; exact hv)) (left_cell (one_cell _ _ _ 0))) hG.cons m1.f1).mono ?_
      rw [fam_printed _ _ hrg]
      rintro ev w' ⟨rfl, h⟩
      exact ⟨rfl, h.drop⟩
    clear h h1 h2 hG hm hrg hsc hr
    generalize famK id = x1 at *
    generalize famV cl su (scTxt xs) cr us ii ab gr ge tk st en co = x2 at *
    generalize scTxt xs = sT at *
    unfold famC at *
    go_enter Tryz.func28, Tryz.ntmps28
    go_wp2_with (first
      | (with_reducible refine (KM.out _ H3.out).mono ?_; clear H3; rintro ev w2 ⟨rfl, hc3, h⟩; have H3 := Lib.hid h; clear h)
      | (with_reducible refine (KS.out _ H3.out).mono ?_; clear H3; rintro ev w2 ⟨rfl, h⟩; have hc0 := (h.alloc (.cells #[.string sT] 9)).f2.cell 0; have H3 := Lib.hid (h.alloc (.cells #[.string sT] 9)); clear h; simp only [List.getElem?_toArray, List.getElem?_cons_zero] at hc0)
      | (with_reducible refine (HNUM.out _ _ H3.out).mono ?_; clear HNUM H3; rintro ev w2 ⟨rfl, h⟩; have H3 := Lib.hid h; clear h)
      | (with_reducible refine (familyfields_any _ _ _ H3.out).mono ?_; clear H3; rintro ev w2 ⟨bb, rfl, h⟩; have H3 := Lib.hid h; clear h)
      | (with_reducible refine (HP.out _ _ _ H3.out).mono ?_; clear H3 HP; rintro ev w2 ⟨rfl, h⟩; have H3 := Lib.hid h; clear h)
      | (with_reducible refine at_slot (k := none) ?_; refine wpList_store_whole (o := ⟨none, _, _, _, _, _⟩) (cs := [.string ⟨#[]⟩, .string ⟨#[]⟩]) (vs := [.string x1, .string x2]) H3.out rfl (pair_one x1 x2) (by kernel_rfl) rfl rfl rfl rfl ?_; clear H3; intro w7 h; have H9 := Lib.hid h; clear h))
    refine bodyPost_ret (results_ct rfl rfl H9.out hd hrow (by kernel_rfl)) rfl ?_
    exact ⟨by rw [HR.out]; rfl, H9.out.drop⟩
  · have HR : Hid (famR id cl su xs cr us ii ab gr ge tk st en co = (noB, noB, 140)) := Lib.hid (if_neg hm)
    have KM : Hid (∀ w3 : World, Own E w3 (Hp.blk (w.heap.size + 1) ITT #[.string ⟨#[]⟩, .string ⟨#[]⟩] :: Hp.blk w.heap.size FMT (famC id cl su A n c cr us ii ab gr ge tk st en co).toArray :: Hp.ro S :: L) → Calls Tryz.prog 81 #[.agg (famC id cl su A n c cr us ii ab gr ge tk st en co).toArray] w3 fun ev w' => ev = .returned (.bool false) ∧ Own E w' (Hp.blk (w.heap.size + 1) ITT #[.string ⟨#[]⟩, .string ⟨#[]⟩] :: Hp.blk w.heap.size FMT (famC id cl su A n c cr us ii ab gr ge tk st en co).toArray :: Hp.ro S :: L)) := Lib.hid fun w3 h3 => (familymay_any id cl su A n c cr us ii ab gr ge tk st en co xs w3 hr hnc hn43 (show Own E w3 (Hp.ro S :: Hp.blk (w.heap.size + 1) ITT #[.string ⟨#[]⟩, .string ⟨#[]⟩] :: Hp.blk w.heap.size FMT (famC id cl su A n c cr us ii ab gr ge tk st en co).toArray :: L) from h3.f2)).mono fun ev w' he => ⟨by rw [he.1, decide_eq_false hm], he.2.f2.f2⟩
    clear h h1 h2 hG hm hr
    unfold famC at *
    go_enter Tryz.func28, Tryz.ntmps28
    go_wp2_with (first
      | (with_reducible refine (KM.out _ H3.out).mono ?_; clear H3; rintro ev w2 ⟨rfl, h⟩; have H3 := Lib.hid h; clear h)
      | (with_reducible refine at_slot (k := none) ?_; refine wpList_store_whole (o := ⟨none, _, _, _, _, _⟩) (cs := [.string ⟨#[]⟩, .string ⟨#[]⟩]) (vs := [.string ⟨#[]⟩, .string ⟨#[]⟩]) H3.out rfl (pair_one ⟨#[]⟩ ⟨#[]⟩) (by kernel_rfl) rfl rfl rfl rfl ?_; clear H3; intro w7 h; have H8 := Lib.hid h; clear h))
    refine bodyPost_ret (results_ct rfl rfl H8.out hd hrow (by kernel_rfl)) rfl ?_
    exact ⟨by rw [HR.out]; rfl, H8.out.drop.drop⟩
end
end Go.Proofs.YtabibfabieghpaaGreatDoor
