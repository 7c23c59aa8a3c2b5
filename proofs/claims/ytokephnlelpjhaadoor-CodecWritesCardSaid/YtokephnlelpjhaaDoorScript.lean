/- A script of steps as it lies in memory; its size. -/
import Derived.Test.YtokephnlelpjhaaDoorNest
import Derived.Test.YtokephnlelpjhaaDoorAdd
namespace Go.Proofs.YtokephnlelpjhaaDoor
open Go.RowKit
abbrev OPT : TypeId := 33
structure Step where
  kind : Int
  on : Int
  size : Int
  n : Int
  s : ByteArray
  A : Option Addr
  len : Nat
  cap : Nat
  l : List Int
abbrev enStep (x : Step) : List Value := [.int .i64 x.kind, .int .i64 x.on, .int .i64 x.size, .int .i64 x.n, .string x.s, .slice x.A x.len x.cap]
abbrev enI (z : Int) : List Value := [.int .i64 z]
def i64B (z : Int) : Prop := -9223372036854775808 ≤ z ∧ z ≤ 9223372036854775807
/-- What is known of a step that came in with the memory part S. -/
structure StepOk (S : Ph) (x : Step) : Prop where
  on : i64B x.on
  size : i64B x.size
  n : i64B x.n
  len : x.len ≤ x.cap
  cap : x.cap ≤ maxLen
  rds : Rds S 1 enI x.A x.len x.l
  el : ∀ z ∈ x.l, i64B z
def stepCost (x : Step) : Nat := 100 + x.s.size + 8 * min x.len 2147483647
def cost : List Step → Nat
  | [] => 0
  | x :: l => stepCost x + cost l
theorem cost_app (a b : List Step) : cost (a ++ b) = cost a + cost b := by
  induction a with
  | nil => simp [cost]
  | cons x l ih => simp only [List.cons_append, cost, ih]; omega
theorem cost_snoc (xs : List Step) (k : Nat) (x : Step) (h : xs[k]? = some x) : cost (xs.take (k + 1)) = cost (xs.take k) + stepCost x := by
  rw [List.take_add_one, h, cost_app]
  simp [cost]
theorem cost_le (xs : List Step) (k : Nat) : cost (xs.take k) ≤ cost xs := by
  have h := cost_app (xs.take k) (xs.drop k)
  rw [List.take_append_drop] at h
  omega
theorem cost_len (xs : List Step) : 100 * xs.length ≤ cost xs := by
  induction xs with
  | nil => simp
  | cons m l ih => simp only [List.length_cons, cost, stepCost]; omega
theorem cost_mem (xs : List Step) : ∀ x ∈ xs, stepCost x ≤ cost xs := by
  induction xs with
  | nil => simp
  | cons m l ih =>
    intro x hx
    rcases List.mem_cons.1 hx with rfl | hx
    · simp only [cost]; omega
    · have := ih x hx; simp only [cost]; omega
set_option maxRecDepth 20000 in
set_option maxHeartbeats 2000000 in
theorem size_any {E : World} {S : Ph} {L : List Hp} (A : Option Addr) (n c : Nat) (xs : List Step) (w : World) (hn : n ≤ maxLen) (hr : Rds S 6 enStep A n xs) (hz : ∀ x ∈ xs, x.s.size ≤ 100000000000000000) (h : Own E w (Hp.ro S :: L)) :
    Calls Tryd.prog 8 #[.slice A n c] w fun e w' => Own E w' (Hp.ro S :: L) ∧ ∃ z : Nat, z ≤ 2147483648 ∧ (z ≤ 2147483647 → cost xs ≤ z) ∧ e = .returned (.int .i64 z) := by
  unfold maxLen at hn
  go_enter Tryd.func8, Tryd.ntmps8
  go_wp2_with fail
  go_loopw [3, 4] (fun m i wr => ∃ k j : Nat, k ≤ n ∧ i = .int .i64 k ∧ m = .int .i64 j ∧ j ≤ 2147483648 ∧ (j ≤ 2147483647 → cost (xs.take k) ≤ j) ∧ Own E wr (Hp.ro S :: L)) (fun _ i _ => n - (intOf i).toNat)
  case atStart => exact ⟨0, 0, by omega, rfl, rfl, by omega, by simp [cost], h⟩
  case round =>
    obtain ⟨k, j, hkn, rfl, rfl, hj2, hj, hw⟩ := hrel
    have HWR := Lib.hid hw
    by_cases hlt : k < n
    · by_cases hm : j ≤ 2147483647
      · obtain ⟨x, g, off, hx, rfl, hc⟩ := hr.get hlt
        have ek := cost_snoc xs k x hx
        have hxs := hz x (List.mem_of_getElem? hx)
        have hj' := hj hm
        have HC : Hid (∀ w', Own E w' (Hp.ro S :: L) → w'.cell? ⟨g, off + k * 6 + 4, none⟩ = some (.string x.s) ∧ w'.cell? ⟨g, off + k * 6 + 5, none⟩ = some (.slice x.A x.len x.cap)) :=
          Lib.hid fun w' hw' => ⟨hw'.rd (hc 4 _ rfl), hw'.rd (hc 5 _ rfl)⟩
        obtain ⟨m, hmd⟩ : ∃ m, m = min x.len 2147483647 := ⟨_, rfl⟩
        have hmi : (if (2147483647 : Int) < (x.len : Int) then 2147483647 else (x.len : Int)) = (m : Int) := by split <;> omega
        have hm80 : m ≤ 2147483647 := by omega
        have hmul : IntKind.i64.wrap (8 * if (2147483647 : Int) < (x.len : Int) then 2147483647 else (x.len : Int)) = ((8 * m : Nat) : Int) := by
          rw [hmi, IntWalk.i64_in _ (by omega)]
          omega
        clear hmi
        obtain ⟨a, ha⟩ : ∃ a, a = addN j 100 := ⟨_, rfl⟩
        obtain ⟨b, hb⟩ : ∃ b, b = addN x.s.size (8 * m) := ⟨_, rfl⟩
        have a1 : a ≤ 2147483648 := by rw [ha]; exact addN_top _ _
        have b1 : b ≤ 2147483648 := by rw [hb]; exact addN_top _ _
        have hfin : addN a b ≤ 2147483647 → cost (xs.take (k + 1)) ≤ addN a b := fun hh => by
          have q1 := addN_le a b hh
          have q2 := addN_small a b q1
          have q3 := addN_le j 100 (by omega)
          have q4 := addN_small j 100 q3
          have q5 := addN_le x.s.size (8 * m) (by omega)
          have q6 := addN_small x.s.size (8 * m) q5
          rw [ek, stepCost, ← hmd]
          omega
        have HF := Lib.hid hfin
        have HA := Lib.hid ha
        have HB := Lib.hid hb
        have hji : (j : Int) ≤ 2147483647 := by omega
        have hki : (k : Int) < n := by omega
        clear ek hx hr hz hj hj' hfin ha hb hmd hc
        go_wp2_with fail
        refine wp_region_text [6, 12] (fun w' => w'.cell? ⟨g, off + k * 6 + 4, none⟩ = some (.string x.s) ∧ w'.cell? ⟨g, off + k * 6 + 5, none⟩ = some (.slice x.A x.len x.cap)) (by kernel_rfl) ?_ (fun hS => ?_)
        · exact HC.out _ hw
        refine wpAnyG_pure (i := 0) (oi := ⟨some 15, _, _, _, _, _⟩) (v := ?_) rfl (by kernel_rfl) (by kernel_rfl) (by kernel_rfl) (by rfl) (fun _ _ _ h => h) (by rfl) ?_ ?_
        rotate_left
        · intro w
          go_simp
          first | done | with_reducible rfl
        try simp only [Act.put, List.setIfInBounds_toArray, List.set_cons_zero, List.set_cons_succ]
        refine wpAnyG_pure (i := 2) (oi := ⟨some 17, _, _, _, _, _⟩) (v := ?_) rfl (by kernel_rfl) (by kernel_rfl) (by kernel_rfl) (by rfl) (fun _ _ _ h => h) (by rfl) ?_ ?_
        rotate_left
        · intro w
          go_simp
          first | done | with_reducible rfl
        try simp only [Act.put, List.setIfInBounds_toArray, List.set_cons_zero, List.set_cons_succ]
        refine wpAnyG_pure (i := 3) (oi := ⟨some 18, _, _, _, _, _⟩) (v := ?_) rfl (by kernel_rfl) (by kernel_rfl) (by kernel_rfl) (by rfl) (fun _ _ _ h => h) (by rfl) ?_ ?_
        rotate_left
        · intro w
          go_simp
          first | done | with_reducible rfl
        try simp only [Act.put, List.setIfInBounds_toArray, List.set_cons_zero, List.set_cons_succ]
        refine wpAnyG_pure (i := 4) (oi := ⟨some 19, _, _, _, _, _⟩) (v := ?_) rfl (by kernel_rfl) (by kernel_rfl) (by kernel_rfl) (by rfl) (fun _ _ _ h => h) (by rfl) ?_ ?_
        rotate_left
        · intro w
          go_simp
          first | done | with_reducible rfl
        try simp only [Act.put, List.setIfInBounds_toArray, List.set_cons_zero, List.set_cons_succ]
        refine wpAnyG_pure (i := 5) (oi := ⟨some 20, _, _, _, _, _⟩) (v := ?_) rfl (by kernel_rfl) (by kernel_rfl) (by kernel_rfl) (by rfl) (fun _ _ _ h => h) (by rfl) ?_ ?_
        rotate_left
        · intro w
          go_simp
          first | done | with_reducible rfl
        try simp only [Act.put, List.setIfInBounds_toArray, List.set_cons_zero, List.set_cons_succ]
        refine wpAnyG_load (i := 6) (oi := ⟨some 21, _, _, _, _, _⟩) (v := ?_) rfl (by kernel_rfl) (by kernel_rfl) (by kernel_rfl) (by rfl) (fun _ _ _ h => h) (by rfl) ?_ (by assumption) ?_
        rotate_left
        · intro w hS
          try dsimp only at hS
          go_simp
          first | done | with_reducible rfl
        try simp only [Act.put, List.setIfInBounds_toArray, List.set_cons_zero, List.set_cons_succ]
        refine wpAnyG_pure (i := 7) (oi := ⟨some 22, _, _, _, _, _⟩) (v := ?_) rfl (by kernel_rfl) (by kernel_rfl) (by kernel_rfl) (by rfl) (fun _ _ _ h => h) (by rfl) ?_ ?_
        rotate_left
        · intro w
          go_simp
          first | done | with_reducible rfl
        try simp only [Act.put, List.setIfInBounds_toArray, List.set_cons_zero, List.set_cons_succ]
        refine wpAnyG_pure (i := 8) (oi := ⟨some 23, _, _, _, _, _⟩) (v := ?_) rfl (by kernel_rfl) (by kernel_rfl) (by kernel_rfl) (by rfl) (fun _ _ _ h => h) (by rfl) ?_ ?_
        rotate_left
        · intro w
          go_simp
          first | done | with_reducible rfl
        try simp only [Act.put, List.setIfInBounds_toArray, List.set_cons_zero, List.set_cons_succ]
        refine wpAnyG_pure (i := 9) (oi := ⟨some 24, _, _, _, _, _⟩) (v := ?_) rfl (by kernel_rfl) (by kernel_rfl) (by kernel_rfl) (by rfl) (fun _ _ _ h => h) (by rfl) ?_ ?_
        rotate_left
        · intro w
          go_simp
          first | done | with_reducible rfl
        try simp only [Act.put, List.setIfInBounds_toArray, List.set_cons_zero, List.set_cons_succ]
        refine wpAnyG_pure (i := 10) (oi := ⟨some 25, _, _, _, _, _⟩) (v := ?_) rfl (by kernel_rfl) (by kernel_rfl) (by kernel_rfl) (by rfl) (fun _ _ _ h => h) (by rfl) ?_ ?_
        rotate_left
        · intro w
          go_simp
          first | done | with_reducible rfl
        try simp only [Act.put, List.setIfInBounds_toArray, List.set_cons_zero, List.set_cons_succ]
        refine wpAnyG_pure (i := 11) (oi := ⟨some 26, _, _, _, _, _⟩) (v := ?_) rfl (by kernel_rfl) (by kernel_rfl) (by kernel_rfl) (by rfl) (fun _ _ _ h => h) (by rfl) ?_ ?_
        rotate_left
        · intro w
          go_simp
          first | done | with_reducible rfl
        try simp only [Act.put, List.setIfInBounds_toArray, List.set_cons_zero, List.set_cons_succ]
        refine wpAnyG_load (i := 12) (oi := ⟨some 27, _, _, _, _, _⟩) (v := ?_) rfl (by kernel_rfl) (by kernel_rfl) (by kernel_rfl) (by rfl) (fun _ _ _ h => h) (by rfl) ?_ (by assumption) ?_
        rotate_left
        · intro w hS
          try dsimp only at hS
          go_simp
          first | done | with_reducible rfl
        try simp only [Act.put, List.setIfInBounds_toArray, List.set_cons_zero, List.set_cons_succ]
        refine wpAnyG_pure (i := 13) (oi := ⟨some 28, _, _, _, _, _⟩) (v := ?_) rfl (by kernel_rfl) (by kernel_rfl) (by kernel_rfl) (by rfl) (fun _ _ _ h => h) (by rfl) ?_ ?_
        rotate_left
        · intro w
          go_simp
          first | done | with_reducible rfl
        try simp only [Act.put, List.setIfInBounds_toArray, List.set_cons_zero, List.set_cons_succ]
        refine wpAnyG_pure (i := 14) (oi := ⟨some 29, _, _, _, _, _⟩) (v := ?_) rfl (by kernel_rfl) (by kernel_rfl) (by kernel_rfl) (by rfl) (fun _ _ _ h => h) (by rfl) ?_ ?_
        rotate_left
        · intro w
          go_simp
          first | done | with_reducible rfl
        try simp only [Act.put, List.setIfInBounds_toArray, List.set_cons_zero, List.set_cons_succ]
        refine wpAnyG_pure (i := 15) (oi := ⟨some 30, _, _, _, _, _⟩) (v := ?_) rfl (by kernel_rfl) (by kernel_rfl) (by kernel_rfl) (by rfl) (fun _ _ _ h => h) (by rfl) ?_ ?_
        rotate_left
        · intro w
          go_simp
          first | done | with_reducible rfl
        try simp only [Act.put, List.setIfInBounds_toArray, List.set_cons_zero, List.set_cons_succ]
        refine wpAnyG_keep (i := 1) (oi := ⟨some 16, _, _, _, _, _⟩) (by kernel_rfl) rfl (fun K hK => ?_)
        rw [if_pos (by rfl)]
        go_simp
        refine (add_any j 100 _ (by omega) (by omega)).mono ?_
        rintro e w1 ⟨rfl, rfl⟩
        rw [← HA.out]
        refine hK.out _ _ ?_ (fun hS => ?_)
        · exact HC.out _ hw
        clear hK K
        try simp only [Act.put, List.setIfInBounds_toArray, List.set_cons_zero, List.set_cons_succ]
        refine wpAnyG_keep (i := 16) (oi := ⟨some 31, _, _, _, _, _⟩) (by kernel_rfl) rfl (fun K hK => ?_)
        rw [if_pos (by rfl)]
        go_simp
        rw [show (8 : Int) * (m : Int) = ((8 * m : Nat) : Int) by omega]
        refine (add_any x.s.size (8 * m) _ (by omega) (by omega)).mono ?_
        rintro e w1 ⟨rfl, rfl⟩
        rw [← HB.out]
        refine hK.out _ _ ?_ (fun hS => ?_)
        · exact HC.out _ hw
        clear hK K
        try simp only [Act.put, List.setIfInBounds_toArray, List.set_cons_zero, List.set_cons_succ]
        refine wpAnyG_keep (i := 17) (oi := ⟨some 32, _, _, _, _, _⟩) (by kernel_rfl) rfl (fun K hK => ?_)
        rw [if_pos (by rfl)]
        go_simp
        refine (add_any a b _ (by omega) (by omega)).mono ?_
        rintro e w1 ⟨rfl, rfl⟩
        refine hK.out _ _ ?_ (fun hS => ?_)
        · exact HC.out _ hw
        clear hK K
        try simp only [Act.put, List.setIfInBounds_toArray, List.set_cons_zero, List.set_cons_succ]
        refine wpAnyG_pure (i := 18) (oi := ⟨some 3, _, _, _, _, _⟩) (v := ?_) rfl (by kernel_rfl) (by kernel_rfl) (by kernel_rfl) (by rfl) (fun _ _ _ h => h) (by rfl) ?_ ?_
        rotate_left
        · intro w
          go_simp
          first | done | with_reducible rfl
        try simp only [Act.put, List.setIfInBounds_toArray, List.set_cons_zero, List.set_cons_succ]
        refine wpAnyG_done (by kernel_rfl) ?_ _
        refine NoPanic.normal ?_
        go_wp2_with fail
        go_roundw
        case rel => exact ⟨k + 1, addN a b, by omega, by go_num, rfl, addN_top _ _, HF.out, HWR.out.drew⟩
        case measure => simp [intOf]; omega
      · have hm' : ¬ (j : Int) ≤ 2147483647 := by omega
        have hki : (k : Int) < n := by omega
        have HJ := Lib.hid (show j ≤ 2147483648 ∧ (j ≤ 2147483647 → cost xs ≤ j) from ⟨hj2, fun hc => absurd hc hm⟩)
        clear hr hz hj hw
        go_wp2_with fail
        go_ret
        exact ⟨HWR.out, j, HJ.out.1, HJ.out.2, rfl⟩
    · obtain rfl : k = n := by omega
      have e0 : xs.take k = xs := List.take_of_length_le (by have := hr.1; omega)
      rw [e0] at hj
      have HJ := Lib.hid hj
      clear hr hz hj e0 hw
      go_wp2_with fail
      go_ret
      exact ⟨HWR.out, j, hj2, HJ.out, rfl⟩
end Go.Proofs.YtokephnlelpjhaaDoor
