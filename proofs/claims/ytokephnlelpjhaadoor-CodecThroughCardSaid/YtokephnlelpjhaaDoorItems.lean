/- Items: their size, number, most; written, read, read and written again; what a row of them weighs. -/
import Derived.Test.YtokephnlelpjhaaDoorThruLaw
import Derived.Test.YtokephnlelpjhaaDoorAwake2
namespace Go.Proofs.YtokephnlelpjhaaDoor
open Go.RowKit
abbrev ITT : TypeId := 57
abbrev enIt (x : It) : List Value := [.int .i64 x.kind, .int .i64 x.size, .int .i64 x.n, .int .i64 x.most, .string x.s]
abbrev itV (x : It) : Value := .agg #[.int .i64 x.kind, .int .i64 x.size, .int .i64 x.n, .int .i64 x.most, .string x.s]
def i64R (z : Int) : Prop := -9223372036854775808 ≤ z ∧ z ≤ 9223372036854775807
structure ItOk (x : It) : Prop where
  kind : i64R x.kind
  size : i64R x.size
  n : i64R x.n
  most : i64R x.most
section
variable {E : World} {L : List Hp}
theorem isize_any (x : It) (w : World) (hx : ItOk x) (h : Own E w L) :
    Calls Tryd.prog 69 #[itV x] w fun e w' => e = .returned (.int .i64 (iSize x : Nat)) ∧ Own E w' L := by
  have h1 := h.alloc (.cells (enIt x).toArray ITT)
  have H1 := Lib.hid h1.drop
  have hp := pickN_lt x.size 8 (by omega)
  obtain ⟨q, hq⟩ : ∃ q, q = pickN x.size 8 := ⟨_, rfl⟩
  have hs : iSize x = 1 + q := by unfold iSize; rw [hq]
  rw [← hq] at hp
  have HQ := Lib.hid hq
  rw [hs]
  clear h h1 hq hs
  go_enter Tryd.func69, Tryd.ntmps69
  go_wp2_with fail
  refine (pick_any x.size 8 _ hx.size (by omega) (by omega)).mono ?_
  rintro e w1 ⟨rfl, rfl⟩
  rw [← HQ.out]
  go_wp2_with fail
  go_ret
  exact ⟨by go_num, H1.out⟩
set_option maxRecDepth 20000 in
theorem inum_any (x : It) (w : World) (hx : ItOk x) (h : Own E w L) :
    Calls Tryd.prog 70 #[itV x] w fun e w' => e = .returned (.int .i64 (iNum x : Nat)) ∧ Own E w' L := by
  have h1 : Own E (w.alloc (.cells (enIt x).toArray ITT)) (Hp.blk w.heap.size ITT (enIt x).toArray :: L) := h.alloc _
  obtain ⟨g, hg⟩ : ∃ g, g = w.heap.size := ⟨_, rfl⟩
  rw [← hg] at h1
  have H1 := Lib.hid h1
  obtain ⟨a, ha⟩ : ∃ a, a = absN x.n := ⟨_, rfl⟩
  have hb := hx.n
  unfold i64R at hb
  obtain ⟨k, hk⟩ : ∃ k, k = iSize x := ⟨_, rfl⟩
  have hk8 := iSize_ok x
  obtain ⟨z, hz⟩ : ∃ z, z = iNum x := ⟨_, rfl⟩
  have hzz : z = if k < 8 then a % 256 ^ k else a := by rw [hz, hk, ha]; rfl
  rw [← hz]
  rw [← hk] at hk8
  have HK := Lib.hid hk
  clear hz hk h h1
  obtain ⟨M, hM⟩ : ∃ M, M = 256 ^ k := ⟨_, rfl⟩
  have hM0 : 0 < M := by rw [hM]; exact Nat.pow_pos (by omega)
  have hwM : k < 8 → wrap64 (2 ^ (8 * k)) = (M : Int) := fun h8 => by
    have e1 : ((2 : Int) ^ (8 * k)) = (M : Int) := by
      rw [hM, show (256 : Nat) = 2 ^ 8 by rfl, ← Nat.pow_mul, Int.natCast_pow]
      rfl
    have hb : M ≤ 256 ^ 7 := by rw [hM]; exact Nat.pow_le_pow_right (by omega) (by omega)
    rw [e1]
    exact IntWalk.wrap64_in (M : Int) ⟨by omega, by omega⟩
  rw [← hM] at hzz
  have HM := Lib.hid hwM
  clear hM hwM
  have hMne : ((M : Int) == 0) = false := by rw [beq_eq_false_iff_ne]; omega
  by_cases hn : x.n < 0
  · have hai : (a : Int) = -(x.n + 1) := by rw [ha]; unfold absN; rw [if_pos hn]; omega
    have HA := Lib.hid hai
    clear ha hai
    go_enter Tryd.func70, Tryd.ntmps70
    go_wp2_with fail
    rw [← hg]
    refine (isize_any x _ hx H1.out).mono ?_
    rintro e w1 ⟨rfl, h2⟩
    rw [← HK.out]
    clear hg
    have hrange : w1.rangeAt g 0 (enIt x) := h2.range 0 (enIt x) (fun j u hu => by simpa using hu)
    have H2 := Lib.hid h2
    by_cases h8 : k < 8
    · have h8i : (k : Int) < 8 := by omega
      have hwM := HM.out h8
      rw [if_pos h8] at hzz
      have HZ := Lib.hid hzz
      clear h2 hzz
      go_wp2_with (with_reducible refine at_slot (k := some 15) ?_; refine wpList_load_mid (op := ⟨some 15, _, _, _, _, _⟩) rfl ITT _ rfl g 0 rfl (enIt x) _ hrange Tryd.underlying57 rfl (by kernel_rfl) ?_; clear hrange)
      refine (isize_any x _ hx H2.out).mono ?_
      rintro e w2 ⟨rfl, h3⟩
      rw [← HK.out]
      have H3 := Lib.hid h3.drop
      clear h3
      go_wp2_with fail
      go_ret
      exact ⟨ret_i64 (by rw [← Int.neg_tmod, Int.tmod_eq_emod_of_nonneg (by omega), ← HA.out, HZ.out]; rfl), H3.out⟩
    · have h8i : ¬ (k : Int) < 8 := by omega
      rw [if_neg h8] at hzz
      have HZ := Lib.hid hzz
      have H3 := Lib.hid h2.drop
      clear h2 hzz hrange
      go_wp2_with fail
      go_ret
      exact ⟨ret_i64 (by rw [← HA.out, HZ.out]), H3.out⟩
  · have hai : (a : Int) = x.n := by rw [ha]; unfold absN; rw [if_neg hn]; omega
    have HA := Lib.hid hai
    clear ha hai
    go_enter Tryd.func70, Tryd.ntmps70
    go_wp2_with fail
    rw [← hg]
    refine (isize_any x _ hx H1.out).mono ?_
    rintro e w1 ⟨rfl, h2⟩
    rw [← HK.out]
    clear hg
    have hrange : w1.rangeAt g 0 (enIt x) := h2.range 0 (enIt x) (fun j u hu => by simpa using hu)
    have H2 := Lib.hid h2
    by_cases h8 : k < 8
    · have h8i : (k : Int) < 8 := by omega
      have hwM := HM.out h8
      rw [if_pos h8] at hzz
      have HZ := Lib.hid hzz
      clear h2 hzz
      go_wp2_with (with_reducible refine at_slot (k := some 15) ?_; refine wpList_load_mid (op := ⟨some 15, _, _, _, _, _⟩) rfl ITT _ rfl g 0 rfl (enIt x) _ hrange Tryd.underlying57 rfl (by kernel_rfl) ?_; clear hrange)
      refine (isize_any x _ hx H2.out).mono ?_
      rintro e w2 ⟨rfl, h3⟩
      rw [← HK.out]
      have H3 := Lib.hid h3.drop
      clear h3
      go_wp2_with fail
      go_ret
      exact ⟨ret_i64 (by rw [← HA.out, HZ.out]; rfl), H3.out⟩
    · have h8i : ¬ (k : Int) < 8 := by omega
      rw [if_neg h8] at hzz
      have HZ := Lib.hid hzz
      have H3 := Lib.hid h2.drop
      clear h2 hzz hrange
      go_wp2_with fail
      go_ret
      exact ⟨ret_i64 (by rw [← HA.out, HZ.out]), H3.out⟩
set_option maxRecDepth 20000 in
theorem imost_any (x : It) (w : World) (hx : ItOk x) (h : Own E w L) :
    Calls Tryd.prog 71 #[itV x] w fun e w' => e = .returned (.int .i64 (iMost x : Nat)) ∧ Own E w' L := by
  have h1 : Own E (w.alloc (.cells (enIt x).toArray ITT)) (Hp.blk w.heap.size ITT (enIt x).toArray :: L) := h.alloc _
  have hp := pickN_lt x.most 65536 (by omega)
  obtain ⟨q, hq⟩ : ∃ q, q = pickN x.most 65536 := ⟨_, rfl⟩
  obtain ⟨m, hm⟩ : ∃ m, m = min x.s.size 65535 := ⟨_, rfl⟩
  have hs : iMost x = max q m := by unfold iMost; rw [hq, hm]
  have HM : Hid ((max (q : Int) (min (x.s.size : Int) 65535)) = ((max q m : Nat) : Int)) := Lib.hid (by omega)
  rw [← hq] at hp
  have HQ := Lib.hid hq
  rw [hs]
  obtain ⟨g, hg⟩ : ∃ g, g = w.heap.size := ⟨_, rfl⟩
  have hc3 : (w.alloc (.cells (enIt x).toArray ITT)).cell? ⟨w.heap.size, 3, none⟩ = some (.int .i64 x.most) := h1.cell 3
  have hc4 : (w.alloc (.cells (enIt x).toArray ITT)).cell? ⟨w.heap.size, 4, none⟩ = some (.string x.s) := h1.cell 4
  rw [← hg] at h1 hc3 hc4
  obtain ⟨w1, hw1⟩ : ∃ v, v = w.alloc (.cells (enIt x).toArray ITT) := ⟨_, rfl⟩
  rw [← hw1] at h1 hc3 hc4
  have H1 := Lib.hid h1.drop
  clear h h1 hq hs hm
  go_enter Tryd.func71, Tryd.ntmps71
  go_wp2_with fail
  rw [← hg, ← hw1]
  clear hg hw1
  refine wp_region_text [1, 4] (fun w' => w'.cell? ⟨g, 3, none⟩ = some (.int .i64 x.most) ∧ w'.cell? ⟨g, 4, none⟩ = some (.string x.s)) (by kernel_rfl) ?_ (fun hS => ?_)
  · exact ⟨hc3, hc4⟩
  refine wpAnyG_pure (i := 0) (oi := ⟨some 3, _, _, _, _, _⟩) (v := ?_) rfl (by kernel_rfl) (by kernel_rfl) (by kernel_rfl) (by rfl) (fun _ _ _ h => h) (by rfl) ?_ ?_
  rotate_left
  · intro w
    go_simp
    first | done | with_reducible rfl
  try simp only [Act.put, List.setIfInBounds_toArray, List.set_cons_zero, List.set_cons_succ]
  refine wpAnyG_load (i := 1) (oi := ⟨some 4, _, _, _, _, _⟩) (v := ?_) rfl (by kernel_rfl) (by kernel_rfl) (by kernel_rfl) (by rfl) (fun _ _ _ h => h) (by rfl) ?_ (by assumption) ?_
  rotate_left
  · intro w hS
    try dsimp only at hS
    go_simp
    first | done | with_reducible rfl
  try simp only [Act.put, List.setIfInBounds_toArray, List.set_cons_zero, List.set_cons_succ]
  refine wpAnyG_pure (i := 3) (oi := ⟨some 6, _, _, _, _, _⟩) (v := ?_) rfl (by kernel_rfl) (by kernel_rfl) (by kernel_rfl) (by rfl) (fun _ _ _ h => h) (by rfl) ?_ ?_
  rotate_left
  · intro w
    go_simp
    first | done | with_reducible rfl
  try simp only [Act.put, List.setIfInBounds_toArray, List.set_cons_zero, List.set_cons_succ]
  refine wpAnyG_load (i := 4) (oi := ⟨some 7, _, _, _, _, _⟩) (v := ?_) rfl (by kernel_rfl) (by kernel_rfl) (by kernel_rfl) (by rfl) (fun _ _ _ h => h) (by rfl) ?_ (by assumption) ?_
  rotate_left
  · intro w hS
    try dsimp only at hS
    go_simp
    first | done | with_reducible rfl
  try simp only [Act.put, List.setIfInBounds_toArray, List.set_cons_zero, List.set_cons_succ]
  refine wpAnyG_pure (i := 5) (oi := ⟨some 8, _, _, _, _, _⟩) (v := ?_) rfl (by kernel_rfl) (by kernel_rfl) (by kernel_rfl) (by rfl) (fun _ _ _ h => h) (by rfl) ?_ ?_
  rotate_left
  · intro w
    go_simp
    first | done | with_reducible rfl
  try simp only [Act.put, List.setIfInBounds_toArray, List.set_cons_zero, List.set_cons_succ]
  refine wpAnyG_pure (i := 6) (oi := ⟨some 9, _, _, _, _, _⟩) (v := ?_) rfl (by kernel_rfl) (by kernel_rfl) (by kernel_rfl) (by rfl) (fun _ _ _ h => h) (by rfl) ?_ ?_
  rotate_left
  · intro w
    go_simp
    first | done | with_reducible rfl
  try simp only [Act.put, List.setIfInBounds_toArray, List.set_cons_zero, List.set_cons_succ]
  refine wpAnyG_keep (i := 2) (oi := ⟨some 5, _, _, _, _, _⟩) (by kernel_rfl) rfl (fun K hK => ?_)
  rw [if_pos (by rfl)]
  go_simp
  refine (pick_any x.most 65536 _ hx.most (by omega) (by omega)).mono ?_
  rintro e w3 ⟨rfl, rfl⟩
  rw [← HQ.out]
  refine hK.out _ _ ?_ (fun hS => ?_)
  · exact ⟨hc3, hc4⟩
  clear hK K
  try simp only [Act.put, List.setIfInBounds_toArray, List.set_cons_zero, List.set_cons_succ]
  refine wpAnyG_pure (i := 7) (oi := ⟨some 10, _, _, _, _, _⟩) (v := ?_) rfl (by kernel_rfl) (by kernel_rfl) (by kernel_rfl) (by rfl) (fun _ _ _ h => h) (by rfl) ?_ ?_
  rotate_left
  · intro w
    go_simp
    first | done | with_reducible rfl
  try simp only [Act.put, List.setIfInBounds_toArray, List.set_cons_zero, List.set_cons_succ]
  refine wpAnyG_pure (i := 8) (oi := ⟨some 2, _, _, _, _, _⟩) (v := ?_) rfl (by kernel_rfl) (by kernel_rfl) (by kernel_rfl) (by rfl) (fun _ _ _ h => h) (by rfl) ?_ ?_
  rotate_left
  · intro w
    go_simp
    first | done | with_reducible rfl
  try simp only [Act.put, List.setIfInBounds_toArray, List.set_cons_zero, List.set_cons_succ]
  refine wpAnyG_done (by kernel_rfl) ?_ _
  refine NoPanic.normal ?_
  go_wp2_with fail
  all_goals
    go_ret
    exact ⟨ret_i64 (by have := HM.out; omega), H1.out.drew⟩
end
end Go.Proofs.YtokephnlelpjhaaDoor
