/- latchkeyref10.rises, Find. -/
import Derived.Test.YtbclmmneiphcaaaGreatDoorWhole
namespace Go.Proofs.YtbclmmneiphcaaaGreatDoor
open Go.RowKit
theorem find_le (n : Nd) (key : ByteArray) : (n.find key).1 ≤ n.ks.length := by
  have h := plN_le n.ks key
  unfold Nd.find
  split
  · split
    · exact h
    · show plN n.ks key + _ ≤ _
      split
      · rename_i ha
        unfold isAt at ha
        cases e : n.ks[plN n.ks key]? with
        | none => rw [e] at ha; cases ha
        | some x => have := (List.getElem?_eq_some_iff.1 e).1; omega
      · omega
  · exact Nat.zero_le _
theorem find_below {n : Nd} {key : ByteArray} (hr : risesB n.ks = true) {k : Nat} (hk : k < (n.find key).1) : ∃ x, n.ks[k]? = some x ∧ (slt x key = true ∨ (n.leaf = false ∧ x = key)) := by
  have hl : k < n.ks.length := Nat.lt_of_lt_of_le hk (find_le n key)
  refine ⟨n.ks[k], List.getElem?_eq_getElem hl, ?_⟩
  rcases Nat.lt_or_ge k (plN n.ks key) with h1 | h1
  · exact .inl (plN_lt h1 (List.getElem?_eq_getElem hl))
  · unfold Nd.find at hk
    rw [if_pos hr] at hk
    by_cases hlf : n.leaf = true
    · rw [if_pos hlf] at hk; dsimp only at hk; omega
    · rw [if_neg hlf] at hk
      dsimp only at hk
      split at hk
      · rename_i ha
        obtain rfl : k = plN n.ks key := by omega
        exact .inr ⟨by simpa using hlf, (isAt_some (List.getElem?_eq_getElem hl)).1 ha⟩
      · omega
theorem find_at {n : Nd} {key x : ByteArray} (hr : risesB n.ks = true) (hx : n.ks[(n.find key).1]? = some x) : slt x key = false ∧ (n.leaf = true ∨ x ≠ key) := by
  by_cases hlf : n.leaf = true
  · unfold Nd.find at hx
    rw [if_pos hr, if_pos hlf] at hx
    exact ⟨plN_at hx, .inl hlf⟩
  · unfold Nd.find at hx
    rw [if_pos hr, if_neg hlf] at hx
    dsimp only at hx
    split at hx
    · rename_i ha
      cases e : n.ks[plN n.ks key]? with
      | none => rw [isAt_none e] at ha; cases ha
      | some y =>
        have hy := (isAt_some e).1 ha
        subst hy
        have hlt := rises_lt hr 0 _ _ _ e hx
        exact ⟨slt_asymm hlt, .inr fun e2 => by subst e2; rw [slt_irrefl] at hlt; cases hlt⟩
    · rename_i ha
      rw [Nat.add_zero] at hx
      exact ⟨plN_at hx, .inr fun e2 => ha ((isAt_some hx).2 e2)⟩
theorem find_two {n : Nd} {key : ByteArray} (hr : risesB n.ks = true) : (n.find key).2 = (n.leaf && isAt n.ks (n.find key).1 key) := by
  by_cases hlf : n.leaf = true
  · unfold Nd.find
    rw [if_pos hr, if_pos hlf, hlf]; rfl
  · unfold Nd.find
    rw [if_pos hr, if_neg hlf]
    have : n.leaf = false := by simpa using hlf
    rw [this]; rfl
section
variable {E : World} {S : Ph} {L : List Hp}
set_option maxRecDepth 100000 in
set_option maxHeartbeats 1000000 in
theorem xrises_any (A : Option Addr) (n c : Nat) (xs : List ByteArray) (w : World) (hn : n ≤ 1125899906842624) (hr : Rds S 1 enStr A n xs) (h : Own E w (Hp.ro S :: L)) :
    Calls Tryz.prog 83 #[.slice A n c] w fun e w' => e = .returned (.bool (risesB xs)) ∧ Own E w' (Hp.ro S :: L) := by
  go_enter Tryz.func83, Tryz.ntmps83
  go_wp2_with fail
  go_loopw [3] (fun i wr => ∃ k : Nat, (k = 0 ∨ k < n) ∧ i = .int .i64 ((k : Int) + 1) ∧ (∀ i a b, i + 1 < k + 1 → xs[i]? = some a → xs[i + 1]? = some b → slt a b = true) ∧ Own E wr (Hp.ro S :: L)) (fun i _ => n + 1 - (intOf i).toNat)
  case atStart => exact ⟨0, by omega, rfl, fun i _ _ hi => absurd hi (by omega), h⟩
  case round =>
    obtain ⟨k, hk, rfl, hp, hw⟩ := hrel
    clear h
    have HP := Lib.hid hp
    clear hp
    by_cases hlt : k + 1 < n
    · obtain ⟨y, g, off, hy, rfl, hcy⟩ := hr.get1 hlt
      obtain ⟨x, g', off', hx, e1, hcx⟩ := hr.get1 (show k < n by omega)
      injection e1 with e1
      injection e1 with e1 e2
      subst e1 e2
      have d1 := hw.drew.rd (hcy _ rfl)
      have d2 := hw.drew.rd (hcx _ rfl)
      have HX := Lib.hid hx
      have HY := Lib.hid hy
      have HW := Lib.hid hw.drew
      clear hcx hcy hx hy hw hk
      have j1 : IntKind.i64.wrap ((k : Int) + 1 - 1) = (k : Int) := by rw [show (k : Int) + 1 - 1 = k by omega]; exact IntWalk.i64_in _ (by omega)
      have j1b : IntKind.i64.wrap (k : Int) = (k : Int) := IntWalk.i64_in _ (by omega)
      have j2 : (0 : Int) ≤ (k : Int) + 1 := by omega
      have j3 : (k : Int) + 1 < (n : Int) := by omega
      have j4 : (0 : Int) ≤ (k : Int) := by omega
      have j5 : (k : Int) < (n : Int) := by omega
      have j6 : ((k : Int) + 1).toNat = k + 1 := by omega
      rcases slt_tri x y with ⟨q1, q2, q3, q4, q5, q6, q7⟩ | ⟨q1, q2, q3, q4, q5, q6, q7⟩ | ⟨q1, q2, q3, q4, q5, q6, q7⟩
      · have HR := Lib.hid (rises_step HP.out HX.out HY.out q1)
        clear q1 q2 q3 q4 q6
        go_wp2_with fail
        refine wp_region_text [3, 8] (fun w' => w'.cell? ⟨g, off + (k + 1), none⟩ = some (.string y) ∧ w'.cell? ⟨g, off + k, none⟩ = some (.string x)) (by kernel_rfl) ?_ (fun hS => ?_)
        · exact ⟨d1, d2⟩
        refine wpAnyG_pure (i := 0) (oi := ⟨some 10, _, _, _, _, _⟩) (v := ?_) rfl (by kernel_rfl) (by kernel_rfl) (by kernel_rfl) (by rfl) (fun _ _ _ h => h) (by rfl) ?_ ?_
        rotate_left
        · intro w
          go_simp
          first | done | with_reducible rfl
        try simp only [Act.put, List.setIfInBounds_toArray, List.set_cons_zero, List.set_cons_succ]
        refine wpAnyG_pure (i := 1) (oi := ⟨some 11, _, _, _, _, _⟩) (v := ?_) rfl (by kernel_rfl) (by kernel_rfl) (by kernel_rfl) (by rfl) (fun _ _ _ h => h) (by rfl) ?_ ?_
        rotate_left
        · intro w
          go_simp
          first | done | with_reducible rfl
        try simp only [Act.put, List.setIfInBounds_toArray, List.set_cons_zero, List.set_cons_succ]
        refine wpAnyG_pure (i := 2) (oi := ⟨some 12, _, _, _, _, _⟩) (v := ?_) rfl (by kernel_rfl) (by kernel_rfl) (by kernel_rfl) (by rfl) (fun _ _ _ h => h) (by rfl) ?_ ?_
        rotate_left
        · intro w
          go_simp
          first | done | with_reducible rfl
        try simp only [Act.put, List.setIfInBounds_toArray, List.set_cons_zero, List.set_cons_succ]
        refine wpAnyG_load (i := 3) (oi := ⟨some 13, _, _, _, _, _⟩) (v := ?_) rfl (by kernel_rfl) (by kernel_rfl) (by kernel_rfl) (by rfl) (fun _ _ _ h => h) (by rfl) ?_ (by assumption) ?_
        rotate_left
        · intro w hS
          try dsimp only at hS
          go_simp
          first | done | with_reducible rfl
        try simp only [Act.put, List.setIfInBounds_toArray, List.set_cons_zero, List.set_cons_succ]
        refine wpAnyG_pure (i := 4) (oi := ⟨some 14, _, _, _, _, _⟩) (v := ?_) rfl (by kernel_rfl) (by kernel_rfl) (by kernel_rfl) (by rfl) (fun _ _ _ h => h) (by rfl) ?_ ?_
        rotate_left
        · intro w
          go_simp
          first | done | with_reducible rfl
        try simp only [Act.put, List.setIfInBounds_toArray, List.set_cons_zero, List.set_cons_succ]
        refine wpAnyG_pure (i := 5) (oi := ⟨some 15, _, _, _, _, _⟩) (v := ?_) rfl (by kernel_rfl) (by kernel_rfl) (by kernel_rfl) (by rfl) (fun _ _ _ h => h) (by rfl) ?_ ?_
        rotate_left
        · intro w
          go_simp
          first | done | with_reducible rfl
        try simp only [Act.put, List.setIfInBounds_toArray, List.set_cons_zero, List.set_cons_succ]
        refine wpAnyG_pure (i := 6) (oi := ⟨some 16, _, _, _, _, _⟩) (v := ?_) rfl (by kernel_rfl) (by kernel_rfl) (by kernel_rfl) (by rfl) (fun _ _ _ h => h) (by rfl) ?_ ?_
        rotate_left
        · intro w
          go_simp
          first | done | with_reducible rfl
        try simp only [Act.put, List.setIfInBounds_toArray, List.set_cons_zero, List.set_cons_succ]
        refine wpAnyG_pure (i := 7) (oi := ⟨some 17, _, _, _, _, _⟩) (v := ?_) rfl (by kernel_rfl) (by kernel_rfl) (by kernel_rfl) (by rfl) (fun _ _ _ h => h) (by rfl) ?_ ?_
        rotate_left
        · intro w
          go_simp
          first | done | with_reducible rfl
        try simp only [Act.put, List.setIfInBounds_toArray, List.set_cons_zero, List.set_cons_succ]
        refine wpAnyG_load (i := 8) (oi := ⟨some 18, _, _, _, _, _⟩) (v := ?_) rfl (by kernel_rfl) (by kernel_rfl) (by kernel_rfl) (by rfl) (fun _ _ _ h => h) (by rfl) ?_ (by assumption) ?_
        rotate_left
        · intro w hS
          try dsimp only at hS
          go_simp
          first | done | with_reducible rfl
        try simp only [Act.put, List.setIfInBounds_toArray, List.set_cons_zero, List.set_cons_succ]
        refine wpAnyG_pure (i := 9) (oi := ⟨some 19, _, _, _, _, _⟩) (v := ?_) rfl (by kernel_rfl) (by kernel_rfl) (by kernel_rfl) (by rfl) (fun _ _ _ h => h) (by rfl) ?_ ?_
        rotate_left
        · intro w
          go_simp
          first | done | with_reducible rfl
        try simp only [Act.put, List.setIfInBounds_toArray, List.set_cons_zero, List.set_cons_succ]
        refine wpAnyG_done (by kernel_rfl) ?_ _
        refine NoPanic.normal ?_
        go_wp2_with fail
        go_roundw
        case rel => exact ⟨k + 1, by omega, by go_num, HR.out, HW.out⟩
        case measure => simp [intOf]; omega
      all_goals
        have HR := Lib.hid (rises_not HX.out HY.out q1)
        clear q1 q2 q3 q4 q6
        go_wp2_with fail
        refine wp_region_text [3, 8] (fun w' => w'.cell? ⟨g, off + (k + 1), none⟩ = some (.string y) ∧ w'.cell? ⟨g, off + k, none⟩ = some (.string x)) (by kernel_rfl) ?_ (fun hS => ?_)
        · exact ⟨d1, d2⟩
        refine wpAnyG_pure (i := 0) (oi := ⟨some 10, _, _, _, _, _⟩) (v := ?_) rfl (by kernel_rfl) (by kernel_rfl) (by kernel_rfl) (by rfl) (fun _ _ _ h => h) (by rfl) ?_ ?_
        rotate_left
        · intro w
          go_simp
          first | done | with_reducible rfl
        try simp only [Act.put, List.setIfInBounds_toArray, List.set_cons_zero, List.set_cons_succ]
        refine wpAnyG_pure (i := 1) (oi := ⟨some 11, _, _, _, _, _⟩) (v := ?_) rfl (by kernel_rfl) (by kernel_rfl) (by kernel_rfl) (by rfl) (fun _ _ _ h => h) (by rfl) ?_ ?_
        rotate_left
        · intro w
          go_simp
          first | done | with_reducible rfl
        try simp only [Act.put, List.setIfInBounds_toArray, List.set_cons_zero, List.set_cons_succ]
        refine wpAnyG_pure (i := 2) (oi := ⟨some 12, _, _, _, _, _⟩) (v := ?_) rfl (by kernel_rfl) (by kernel_rfl) (by kernel_rfl) (by rfl) (fun _ _ _ h => h) (by rfl) ?_ ?_
        rotate_left
        · intro w
          go_simp
          first | done | with_reducible rfl
        try simp only [Act.put, List.setIfInBounds_toArray, List.set_cons_zero, List.set_cons_succ]
        refine wpAnyG_load (i := 3) (oi := ⟨some 13, _, _, _, _, _⟩) (v := ?_) rfl (by kernel_rfl) (by kernel_rfl) (by kernel_rfl) (by rfl) (fun _ _ _ h => h) (by rfl) ?_ (by assumption) ?_
        rotate_left
        · intro w hS
          try dsimp only at hS
          go_simp
          first | done | with_reducible rfl
        try simp only [Act.put, List.setIfInBounds_toArray, List.set_cons_zero, List.set_cons_succ]
        refine wpAnyG_pure (i := 4) (oi := ⟨some 14, _, _, _, _, _⟩) (v := ?_) rfl (by kernel_rfl) (by kernel_rfl) (by kernel_rfl) (by rfl) (fun _ _ _ h => h) (by rfl) ?_ ?_
        rotate_left
        · intro w
          go_simp
          first | done | with_reducible rfl
        try simp only [Act.put, List.setIfInBounds_toArray, List.set_cons_zero, List.set_cons_succ]
        refine wpAnyG_pure (i := 5) (oi := ⟨some 15, _, _, _, _, _⟩) (v := ?_) rfl (by kernel_rfl) (by kernel_rfl) (by kernel_rfl) (by rfl) (fun _ _ _ h => h) (by rfl) ?_ ?_
        rotate_left
        · intro w
          go_simp
          first | done | with_reducible rfl
        try simp only [Act.put, List.setIfInBounds_toArray, List.set_cons_zero, List.set_cons_succ]
        refine wpAnyG_pure (i := 6) (oi := ⟨some 16, _, _, _, _, _⟩) (v := ?_) rfl (by kernel_rfl) (by kernel_rfl) (by kernel_rfl) (by rfl) (fun _ _ _ h => h) (by rfl) ?_ ?_
        rotate_left
        · intro w
          go_simp
          first | done | with_reducible rfl
        try simp only [Act.put, List.setIfInBounds_toArray, List.set_cons_zero, List.set_cons_succ]
        refine wpAnyG_pure (i := 7) (oi := ⟨some 17, _, _, _, _, _⟩) (v := ?_) rfl (by kernel_rfl) (by kernel_rfl) (by kernel_rfl) (by rfl) (fun _ _ _ h => h) (by rfl) ?_ ?_
        rotate_left
        · intro w
          go_simp
          first | done | with_reducible rfl
        try simp only [Act.put, List.setIfInBounds_toArray, List.set_cons_zero, List.set_cons_succ]
        refine wpAnyG_load (i := 8) (oi := ⟨some 18, _, _, _, _, _⟩) (v := ?_) rfl (by kernel_rfl) (by kernel_rfl) (by kernel_rfl) (by rfl) (fun _ _ _ h => h) (by rfl) ?_ (by assumption) ?_
        rotate_left
        · intro w hS
          try dsimp only at hS
          go_simp
          first | done | with_reducible rfl
        try simp only [Act.put, List.setIfInBounds_toArray, List.set_cons_zero, List.set_cons_succ]
        refine wpAnyG_pure (i := 9) (oi := ⟨some 19, _, _, _, _, _⟩) (v := ?_) rfl (by kernel_rfl) (by kernel_rfl) (by kernel_rfl) (by rfl) (fun _ _ _ h => h) (by rfl) ?_ ?_
        rotate_left
        · intro w
          go_simp
          first | done | with_reducible rfl
        try simp only [Act.put, List.setIfInBounds_toArray, List.set_cons_zero, List.set_cons_succ]
        refine wpAnyG_done (by kernel_rfl) ?_ _
        refine NoPanic.normal ?_
        go_wp2_with fail
        go_ret
        rw [HR.out]
        exact ⟨rfl, HW.out⟩
    · have e0 : risesB xs = true := (risesB_iff xs).2 fun i a b ha hb => HP.out i a b (by have := (List.getElem?_eq_some_iff.1 hb).1; have := hr.1; omega) ha hb
      have hlti : ¬ (k : Int) + 1 < n := by omega
      have E0 := Lib.hid e0
      have HW := Lib.hid hw
      clear e0 hw hk
      go_wp2_with fail
      go_ret
      rw [E0.out]
      exact ⟨rfl, HW.out⟩
end
end Go.Proofs.YtbclmmneiphcaaaGreatDoor
