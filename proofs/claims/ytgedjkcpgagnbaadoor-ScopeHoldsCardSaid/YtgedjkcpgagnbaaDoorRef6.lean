/- The reference's has, rises, text, fits, Right, Print. -/
import Derived.Test.YtgedjkcpgagnbaaDoorScLaw
namespace Go.Proofs.YtgedjkcpgagnbaaDoor
open Go.RowKit
theorem beq_str6 (a b : ByteArray) : (a.toList == b.toList) = decide (a = b) := by
  rw [ByteArray.toList_eq, ByteArray.toList_eq, Bool.eq_iff_iff, beq_iff_eq, decide_eq_true_eq]
  exact ⟨fun e => str_eq_of e, fun e => by rw [e]⟩
theorem run_leq_str (T : TypeId) (a b : ByteArray) (w : World) : (binOp .leq T (.string a) (.string b)).run Tryd.prog w = .ok (.bool (!slt b a)) w := by
  simp [binOp, Op.stringOp, slt_walk, go_sem]
  rcases slt_tri a b with ⟨h1, h2, -, -, -, h3, -⟩ | ⟨h1, h2, -, -, -, h3, -⟩ | ⟨h1, h2, -, -, -, h3, -⟩ <;> rw [h1, h2, h3] <;> rfl
theorem run_gtr_str (T : TypeId) (a b : ByteArray) (w : World) : (binOp .gtr T (.string a) (.string b)).run Tryd.prog w = .ok (.bool (slt b a)) w := by
  simp [binOp, Op.stringOp, slt_walk, go_sem]
  rcases slt_tri a b with ⟨h1, h2, -, -, -, h3, -⟩ | ⟨h1, h2, -, -, -, h3, -⟩ | ⟨h1, h2, -, -, -, h3, -⟩ <;> rw [h1, h2, h3] <;> rfl
/-- Does a text stand in a list? -/
def hasB (s : ByteArray) (xs : List ByteArray) : Bool := xs.any fun x => decide (x = s)
theorem hasB_iff (s : ByteArray) (xs : List ByteArray) : hasB s xs = true ↔ s ∈ xs := by unfold hasB; simp
theorem hasB_false (s : ByteArray) (xs : List ByteArray) : hasB s xs = false ↔ s ∉ xs := by rw [← hasB_iff]; cases hasB s xs <;> simp
theorem join_snoc : ∀ (xs : List ByteArray) (x : ByteArray), joinL (xs ++ [x]) = if xs = [] then x.data.toList else joinL xs ++ 32 :: x.data.toList
  | [], x => by simp [joinL]
  | y :: r, x => by
    rw [if_neg (by simp)]
    show y.data.toList ++ (r ++ [x]).flatMap _ = (y.data.toList ++ r.flatMap _) ++ _
    rw [List.flatMap_append, List.append_assoc]
    simp
theorem mk_size (l : List UInt8) : (⟨l.toArray⟩ : ByteArray).size = l.length := by show l.toArray.size = _; simp
theorem mk_app (l m : List UInt8) : (⟨l.toArray⟩ : ByteArray) ++ ⟨m.toArray⟩ = ⟨(l ++ m).toArray⟩ := by
  apply str_eq_of
  simp
theorem mk_self (s : ByteArray) : (⟨s.data.toList.toArray⟩ : ByteArray) = s := str_eq_of (by simp)
section
variable {E : World} {S : Ph} {L : List Hp}
set_option maxRecDepth 20000 in
set_option maxHeartbeats 4000000 in
theorem xhas_any (A : Option Addr) (n c : Nat) (xs : List ByteArray) (s : ByteArray) (w : World) (hr : Rds S 1 enStr A n xs) (hn43 : n ≤ 8796093022208) (h : Own E w (Hp.ro S :: L)) :
    Calls Tryd.prog 48 #[.slice A n c, .string s] w fun e w' => e = .returned (.bool (hasB s xs)) ∧ Own E w' (Hp.ro S :: L) := by
  have HN43 := Lib.hid hn43
  have HLEN := Lib.hid hr.1
  clear hn43
  go_enter Tryd.func48, Tryd.ntmps48
  go_wp2_with fail
  go_loopw [5] (fun i wr => ∃ k : Nat, k ≤ n ∧ i = .int .i64 k ∧ (∀ i, i < k → xs[i]? ≠ some s) ∧ Own E wr (Hp.ro S :: L)) (fun i _ => n - (intOf i).toNat)
  case atStart => exact ⟨0, by omega, rfl, fun _ h => absurd h (by omega), h⟩
  case round =>
    obtain ⟨k, hk, rfl, hp, hw⟩ := hrel
    clear h
    by_cases hlt : k < n
    · obtain ⟨x, b, off, hx, rfl, hc⟩ := hr.get1 hlt
      have hcx := hw.rd (hc _ rfl)
      have HX := Lib.hid hx
      have HP := Lib.hid hp
      have HK := Lib.hid hlt
      have i1 : (k : Int) < n := by omega
      have i5 : wrap64 ((k : Int) + 1) = ((k + 1 : Nat) : Int) := by have := HN43.out; unfold wrap64; omega
      clear hr hx hc hp hk hlt
      have H := Lib.hid hw
      clear hw
      by_cases he : x = s
      · have e5 : (x.toList == s.toList) = true := by rw [beq_str6]; exact decide_eq_true he
        have HE := Lib.hid he
        clear he
        go_wp2_with fail
        go_ret
        exact ⟨by rw [(hasB_iff s xs).2 (by rw [← HE.out]; exact List.mem_of_getElem? HX.out)]; rfl, H.out⟩
      · have e5 : (x.toList == s.toList) = false := by rw [beq_str6]; exact decide_eq_false he
        have HE := Lib.hid he
        clear he
        go_wp2_with fail
        go_roundw
        case rel =>
          refine ⟨k + 1, by have := HK.out; omega, by rw [i5], fun i hi => ?_, H.out⟩
          by_cases hi2 : i < k
          · exact HP.out i hi2
          · obtain rfl : i = k := by omega
            rw [HX.out]
            exact fun e => HE.out (Option.some.inj e)
        case measure =>
          have := HK.out
          rw [i5]
          simp only [intOf]
          omega
    · obtain rfl : k = n := by omega
      have hnot : ¬ s ∈ xs := fun hm => by
        obtain ⟨i, hi⟩ := List.getElem?_of_mem hm
        exact hp i (by rw [← HLEN.out]; exact (List.getElem?_eq_some_iff.1 hi).1) hi
      have i1 : ¬ (k : Int) < (k : Int) := by omega
      have HE := Lib.hid hnot
      have H := Lib.hid hw
      clear hw hnot hp
      go_wp2_with fail
      go_ret
      exact ⟨by rw [(hasB_false s xs).2 HE.out]; rfl, H.out⟩
set_option maxRecDepth 20000 in
set_option maxHeartbeats 4000000 in
theorem xrises_any (A : Option Addr) (n c : Nat) (xs : List ByteArray) (w : World) (hr : Rds S 1 enStr A n xs) (hsz : ∀ x ∈ xs, x.size ≤ 1000000000000000000) (hn43 : n ≤ 8796093022208) (h : Own E w (Hp.ro S :: L)) :
    Calls Tryd.prog 50 #[.slice A n c] w fun e w' => e = .returned (.bool (scOk xs)) ∧ Own E w' (Hp.ro S :: L) := by
  have HN43 := Lib.hid hn43
  have HLEN := Lib.hid hr.1
  clear hn43
  go_enter Tryd.func50, Tryd.ntmps50
  go_wp2_with fail
  go_loopw [3] (fun i wr => ∃ k : Nat, k ≤ n ∧ i = .int .i64 k ∧ (∀ i a, i < k → xs[i]? = some a → nameB a = true) ∧ (∀ i a b, i + 1 < k → xs[i]? = some a → xs[i + 1]? = some b → slt a b = true) ∧ Own E wr (Hp.ro S :: L)) (fun i _ => n - (intOf i).toNat)
  case atStart => exact ⟨0, by omega, rfl, fun _ _ h => absurd h (by omega), fun _ _ _ h => absurd h (by omega), h⟩
  case round =>
    obtain ⟨k, hk, rfl, hnm, hri, hw⟩ := hrel
    clear h
    by_cases hlt : k < n
    · obtain ⟨x, b, off, hx, rfl, hc⟩ := hr.get1 hlt
      have HCX := Lib.hid (hc _ rfl)
      have hcx := hw.rd HCX.out
      have HNM := Lib.hid hnm
      have HRI := Lib.hid hri
      have hxs := hsz x (List.mem_of_getElem? hx)
      have KN := fun w => xname_any x w hxs
      have HX := Lib.hid hx
      have HK2 := Lib.hid hlt
      have i1 : (k : Int) < n := by omega
      have i5 := Lib.hid (show wrap64 ((k : Int) + 1) = ((k + 1 : Nat) : Int) by have := HN43.out; unfold wrap64; omega)
      cases e : nameB x with
      | false =>
        rw [e] at KN
        have HE := Lib.hid e
        clear hr hx hc hk hlt hnm hri hsz e hxs
        go_wp2_with (refine (KN _).mono ?_; rintro e wr2 ⟨rfl, rfl⟩)
        have h := hw.drew
        refine wp_region_text [] (fun _ => True) (by kernel_rfl) ?_ (fun hS => ?_)
        · trivial
        refine wpAnyG_pure (i := 0) (oi := ⟨some 16, _, _, _, _, _⟩) (v := ?_) rfl (by kernel_rfl) (by kernel_rfl) (by kernel_rfl) (by rfl) (fun _ _ _ h => h) (by rfl) ?_ ?_
        rotate_left
        · intro w
          go_simp
          first | done | with_reducible rfl
        try simp only [Act.put, List.setIfInBounds_toArray, List.set_cons_zero, List.set_cons_succ]
        refine wpAnyG_pure (i := 1) (oi := ⟨some 17, _, _, _, _, _⟩) (v := ?_) rfl (by kernel_rfl) (by kernel_rfl) (by kernel_rfl) (by rfl) (fun _ _ _ h => h) (by rfl) ?_ ?_
        rotate_left
        · intro w
          go_simp
          first | done | with_reducible rfl
        try simp only [Act.put, List.setIfInBounds_toArray, List.set_cons_zero, List.set_cons_succ]
        refine wpAnyG_pure (i := 2) (oi := ⟨some 18, _, _, _, _, _⟩) (v := ?_) rfl (by kernel_rfl) (by kernel_rfl) (by kernel_rfl) (by rfl) (fun _ _ _ h => h) (by rfl) ?_ ?_
        rotate_left
        · intro w
          go_simp
          first | done | with_reducible rfl
        try simp only [Act.put, List.setIfInBounds_toArray, List.set_cons_zero, List.set_cons_succ]
        refine wpAnyG_skip (i := 3) (oi := ⟨some 19, _, _, _, _, _⟩) rfl (by kernel_rfl) (by kernel_rfl) (by kernel_rfl) (by rfl) (fun _ _ _ h => h) (by rfl) ?_
        try simp only [Act.put, List.setIfInBounds_toArray, List.set_cons_zero, List.set_cons_succ]
        refine wpAnyG_skip (i := 4) (oi := ⟨some 20, _, _, _, _, _⟩) rfl (by kernel_rfl) (by kernel_rfl) (by kernel_rfl) (by rfl) (fun _ _ _ h => h) (by rfl) ?_
        try simp only [Act.put, List.setIfInBounds_toArray, List.set_cons_zero, List.set_cons_succ]
        refine wpAnyG_skip (i := 5) (oi := ⟨some 21, _, _, _, _, _⟩) rfl (by kernel_rfl) (by kernel_rfl) (by kernel_rfl) (by rfl) (fun _ _ _ h => h) (by rfl) ?_
        try simp only [Act.put, List.setIfInBounds_toArray, List.set_cons_zero, List.set_cons_succ]
        refine wpAnyG_skip (i := 6) (oi := ⟨some 22, _, _, _, _, _⟩) rfl (by kernel_rfl) (by kernel_rfl) (by kernel_rfl) (by rfl) (fun _ _ _ h => h) (by rfl) ?_
        try simp only [Act.put, List.setIfInBounds_toArray, List.set_cons_zero, List.set_cons_succ]
        refine wpAnyG_skip (i := 7) (oi := ⟨some 23, _, _, _, _, _⟩) rfl (by kernel_rfl) (by kernel_rfl) (by kernel_rfl) (by rfl) (fun _ _ _ h => h) (by rfl) ?_
        try simp only [Act.put, List.setIfInBounds_toArray, List.set_cons_zero, List.set_cons_succ]
        refine wpAnyG_skip (i := 8) (oi := ⟨some 24, _, _, _, _, _⟩) rfl (by kernel_rfl) (by kernel_rfl) (by kernel_rfl) (by rfl) (fun _ _ _ h => h) (by rfl) ?_
        try simp only [Act.put, List.setIfInBounds_toArray, List.set_cons_zero, List.set_cons_succ]
        refine wpAnyG_skip (i := 9) (oi := ⟨some 25, _, _, _, _, _⟩) rfl (by kernel_rfl) (by kernel_rfl) (by kernel_rfl) (by rfl) (fun _ _ _ h => h) (by rfl) ?_
        try simp only [Act.put, List.setIfInBounds_toArray, List.set_cons_zero, List.set_cons_succ]
        refine wpAnyG_skip (i := 10) (oi := ⟨some 26, _, _, _, _, _⟩) rfl (by kernel_rfl) (by kernel_rfl) (by kernel_rfl) (by rfl) (fun _ _ _ h => h) (by rfl) ?_
        try simp only [Act.put, List.setIfInBounds_toArray, List.set_cons_zero, List.set_cons_succ]
        refine wpAnyG_skip (i := 11) (oi := ⟨some 27, _, _, _, _, _⟩) rfl (by kernel_rfl) (by kernel_rfl) (by kernel_rfl) (by rfl) (fun _ _ _ h => h) (by rfl) ?_
        try simp only [Act.put, List.setIfInBounds_toArray, List.set_cons_zero, List.set_cons_succ]
        refine wpAnyG_skip (i := 12) (oi := ⟨some 28, _, _, _, _, _⟩) rfl (by kernel_rfl) (by kernel_rfl) (by kernel_rfl) (by rfl) (fun _ _ _ h => h) (by rfl) ?_
        try simp only [Act.put, List.setIfInBounds_toArray, List.set_cons_zero, List.set_cons_succ]
        refine wpAnyG_skip (i := 13) (oi := ⟨some 29, _, _, _, _, _⟩) rfl (by kernel_rfl) (by kernel_rfl) (by kernel_rfl) (by rfl) (fun _ _ _ h => h) (by rfl) ?_
        try simp only [Act.put, List.setIfInBounds_toArray, List.set_cons_zero, List.set_cons_succ]
        refine wpAnyG_skip (i := 14) (oi := ⟨some 30, _, _, _, _, _⟩) rfl (by kernel_rfl) (by kernel_rfl) (by kernel_rfl) (by rfl) (fun _ _ _ h => h) (by rfl) ?_
        try simp only [Act.put, List.setIfInBounds_toArray, List.set_cons_zero, List.set_cons_succ]
        refine wpAnyG_skip (i := 15) (oi := ⟨some 31, _, _, _, _, _⟩) rfl (by kernel_rfl) (by kernel_rfl) (by kernel_rfl) (by rfl) (fun _ _ _ h => h) (by rfl) ?_
        try simp only [Act.put, List.setIfInBounds_toArray, List.set_cons_zero, List.set_cons_succ]
        refine wpAnyG_skip (i := 16) (oi := ⟨some 32, _, _, _, _, _⟩) rfl (by kernel_rfl) (by kernel_rfl) (by kernel_rfl) (by rfl) (fun _ _ _ h => h) (by rfl) ?_
        try simp only [Act.put, List.setIfInBounds_toArray, List.set_cons_zero, List.set_cons_succ]
        refine wpAnyG_pure (i := 17) (oi := ⟨some 33, _, _, _, _, _⟩) (v := ?_) rfl (by kernel_rfl) (by kernel_rfl) (by kernel_rfl) (by rfl) (fun _ _ _ h => h) (by rfl) ?_ ?_
        rotate_left
        · intro w
          go_simp
          first | done | with_reducible rfl
        try simp only [Act.put, List.setIfInBounds_toArray, List.set_cons_zero, List.set_cons_succ]
        refine wpAnyG_done (by kernel_rfl) ?_ _
        refine NoPanic.normal ?_
        go_wp2_with fail
        go_ret
        have e6 : scOk xs = false := by
          cases e7 : scOk xs with
          | false => rfl
          | true =>
            unfold scOk at e7
            rw [Bool.and_eq_true] at e7
            have := List.all_eq_true.1 e7.1 x (List.mem_of_getElem? HX.out)
            rw [HE.out] at this
            cases this
        exact ⟨by rw [e6]; rfl, h⟩
      | true =>
        rw [e] at KN
        have HE := Lib.hid e
        cases k with
        | zero =>
          have hcx : wr.cell? ⟨b, off, none⟩ = some (.string x) := hcx
          have j1 : (0 : Int) < n := by omega
          clear hr hx hc hk hlt hnm hri hsz e hxs i1
          go_wp2_with (refine (KN _).mono ?_; rintro e wr2 ⟨rfl, rfl⟩)
          have h := hw.drew
          clear hw
          refine wp_region_text [] (fun _ => True) (by kernel_rfl) ?_ (fun hS => ?_)
          · trivial
          refine wpAnyG_pure (i := 0) (oi := ⟨some 16, _, _, _, _, _⟩) (v := ?_) rfl (by kernel_rfl) (by kernel_rfl) (by kernel_rfl) (by rfl) (fun _ _ _ h => h) (by rfl) ?_ ?_
          rotate_left
          · intro w
            go_simp
            first | done | with_reducible rfl
          try simp only [Act.put, List.setIfInBounds_toArray, List.set_cons_zero, List.set_cons_succ]
          refine wpAnyG_pure (i := 1) (oi := ⟨some 17, _, _, _, _, _⟩) (v := ?_) rfl (by kernel_rfl) (by kernel_rfl) (by kernel_rfl) (by rfl) (fun _ _ _ h => h) (by rfl) ?_ ?_
          rotate_left
          · intro w
            go_simp
            first | done | with_reducible rfl
          try simp only [Act.put, List.setIfInBounds_toArray, List.set_cons_zero, List.set_cons_succ]
          refine wpAnyG_pure (i := 2) (oi := ⟨some 18, _, _, _, _, _⟩) (v := ?_) rfl (by kernel_rfl) (by kernel_rfl) (by kernel_rfl) (by rfl) (fun _ _ _ h => h) (by rfl) ?_ ?_
          rotate_left
          · intro w
            go_simp
            first | done | with_reducible rfl
          try simp only [Act.put, List.setIfInBounds_toArray, List.set_cons_zero, List.set_cons_succ]
          refine wpAnyG_pure (i := 3) (oi := ⟨some 19, _, _, _, _, _⟩) (v := ?_) rfl (by kernel_rfl) (by kernel_rfl) (by kernel_rfl) (by rfl) (fun _ _ _ h => h) (by rfl) ?_ ?_
          rotate_left
          · intro w
            go_simp
            first | done | with_reducible rfl
          try simp only [Act.put, List.setIfInBounds_toArray, List.set_cons_zero, List.set_cons_succ]
          refine wpAnyG_pure (i := 4) (oi := ⟨some 20, _, _, _, _, _⟩) (v := ?_) rfl (by kernel_rfl) (by kernel_rfl) (by kernel_rfl) (by rfl) (fun _ _ _ h => h) (by rfl) ?_ ?_
          rotate_left
          · intro w
            go_simp
            first | done | with_reducible rfl
          try simp only [Act.put, List.setIfInBounds_toArray, List.set_cons_zero, List.set_cons_succ]
          refine wpAnyG_pure (i := 5) (oi := ⟨some 21, _, _, _, _, _⟩) (v := ?_) rfl (by kernel_rfl) (by kernel_rfl) (by kernel_rfl) (by rfl) (fun _ _ _ h => h) (by rfl) ?_ ?_
          rotate_left
          · intro w
            go_simp
            first | done | with_reducible rfl
          try simp only [Act.put, List.setIfInBounds_toArray, List.set_cons_zero, List.set_cons_succ]
          refine wpAnyG_skip (i := 6) (oi := ⟨some 22, _, _, _, _, _⟩) rfl (by kernel_rfl) (by kernel_rfl) (by kernel_rfl) (by rfl) (fun _ _ _ h => h) (by rfl) ?_
          try simp only [Act.put, List.setIfInBounds_toArray, List.set_cons_zero, List.set_cons_succ]
          refine wpAnyG_skip (i := 7) (oi := ⟨some 23, _, _, _, _, _⟩) rfl (by kernel_rfl) (by kernel_rfl) (by kernel_rfl) (by rfl) (fun _ _ _ h => h) (by rfl) ?_
          try simp only [Act.put, List.setIfInBounds_toArray, List.set_cons_zero, List.set_cons_succ]
          refine wpAnyG_skip (i := 8) (oi := ⟨some 24, _, _, _, _, _⟩) rfl (by kernel_rfl) (by kernel_rfl) (by kernel_rfl) (by rfl) (fun _ _ _ h => h) (by rfl) ?_
          try simp only [Act.put, List.setIfInBounds_toArray, List.set_cons_zero, List.set_cons_succ]
          refine wpAnyG_skip (i := 9) (oi := ⟨some 25, _, _, _, _, _⟩) rfl (by kernel_rfl) (by kernel_rfl) (by kernel_rfl) (by rfl) (fun _ _ _ h => h) (by rfl) ?_
          try simp only [Act.put, List.setIfInBounds_toArray, List.set_cons_zero, List.set_cons_succ]
          refine wpAnyG_skip (i := 10) (oi := ⟨some 26, _, _, _, _, _⟩) rfl (by kernel_rfl) (by kernel_rfl) (by kernel_rfl) (by rfl) (fun _ _ _ h => h) (by rfl) ?_
          try simp only [Act.put, List.setIfInBounds_toArray, List.set_cons_zero, List.set_cons_succ]
          refine wpAnyG_skip (i := 11) (oi := ⟨some 27, _, _, _, _, _⟩) rfl (by kernel_rfl) (by kernel_rfl) (by kernel_rfl) (by rfl) (fun _ _ _ h => h) (by rfl) ?_
          try simp only [Act.put, List.setIfInBounds_toArray, List.set_cons_zero, List.set_cons_succ]
          refine wpAnyG_skip (i := 12) (oi := ⟨some 28, _, _, _, _, _⟩) rfl (by kernel_rfl) (by kernel_rfl) (by kernel_rfl) (by rfl) (fun _ _ _ h => h) (by rfl) ?_
          try simp only [Act.put, List.setIfInBounds_toArray, List.set_cons_zero, List.set_cons_succ]
          refine wpAnyG_skip (i := 13) (oi := ⟨some 29, _, _, _, _, _⟩) rfl (by kernel_rfl) (by kernel_rfl) (by kernel_rfl) (by rfl) (fun _ _ _ h => h) (by rfl) ?_
          try simp only [Act.put, List.setIfInBounds_toArray, List.set_cons_zero, List.set_cons_succ]
          refine wpAnyG_skip (i := 14) (oi := ⟨some 30, _, _, _, _, _⟩) rfl (by kernel_rfl) (by kernel_rfl) (by kernel_rfl) (by rfl) (fun _ _ _ h => h) (by rfl) ?_
          try simp only [Act.put, List.setIfInBounds_toArray, List.set_cons_zero, List.set_cons_succ]
          refine wpAnyG_skip (i := 15) (oi := ⟨some 31, _, _, _, _, _⟩) rfl (by kernel_rfl) (by kernel_rfl) (by kernel_rfl) (by rfl) (fun _ _ _ h => h) (by rfl) ?_
          try simp only [Act.put, List.setIfInBounds_toArray, List.set_cons_zero, List.set_cons_succ]
          refine wpAnyG_pure (i := 16) (oi := ⟨some 32, _, _, _, _, _⟩) (v := ?_) rfl (by kernel_rfl) (by kernel_rfl) (by kernel_rfl) (by rfl) (fun _ _ _ h => h) (by rfl) ?_ ?_
          rotate_left
          · intro w
            go_simp
            first | done | with_reducible rfl
          try simp only [Act.put, List.setIfInBounds_toArray, List.set_cons_zero, List.set_cons_succ]
          refine wpAnyG_pure (i := 17) (oi := ⟨some 33, _, _, _, _, _⟩) (v := ?_) rfl (by kernel_rfl) (by kernel_rfl) (by kernel_rfl) (by rfl) (fun _ _ _ h => h) (by rfl) ?_ ?_
          rotate_left
          · intro w
            go_simp
            first | done | with_reducible rfl
          try simp only [Act.put, List.setIfInBounds_toArray, List.set_cons_zero, List.set_cons_succ]
          refine wpAnyG_done (by kernel_rfl) ?_ _
          refine NoPanic.normal ?_
          have HF := Lib.hid h
          clear h
          go_wp2_with fail
          go_roundw
          case rel =>
            refine ⟨1, by omega, by first | rfl | go_num, fun i a hi ha => ?_, fun _ _ _ h => absurd h (by omega), HF.out⟩
            obtain rfl : i = 0 := by omega
            rw [HX.out] at ha
            injection ha with ha
            rw [← ha]; exact HE.out
          case measure => simp [intOf]; omega
        | succ k =>
          obtain ⟨y, b', off', hy, e9, hc'⟩ := hr.get1 (k := k) (by omega)
          injection e9 with e9
          injection e9 with e1 e2
          subst e1 e2
          have hd : ∀ w', Own E w' (Hp.ro S :: L) → w'.cell? ⟨b, off + k, none⟩ = some (.string y) ∧ w'.cell? ⟨b, off + (k + 1), none⟩ = some (.string x) := fun w' h => ⟨h.rd (hc' _ rfl), h.rd HCX.out⟩
          have HD := Lib.hid hd
          have HY := Lib.hid hy
          have i5 := Lib.hid (show wrap64 ((k : Int) + 1 + 1) = ((k + 2 : Nat) : Int) by have := HN43.out; unfold wrap64; omega)
          have j1 : (0 : Int) < (k : Int) + 1 := by omega
          have j2 : wrap64 (k : Int) = (k : Int) := by have := HN43.out; unfold wrap64; omega
          have j7 : IntKind.i64.wrap (k : Int) = (k : Int) := by have := HN43.out; rw [IntKind.wrap_i64]; omega
          have j3 : (k : Int) + 1 < n := by omega
          have j8 : (0 : Int) ≤ (k : Int) + 1 := by omega
          have j9 : (0 : Int) ≤ (k : Int) := by omega
          have j4 : (k : Int) < n := by omega
          clear hr hx hc hk hlt hnm hri hsz e hxs hd i1 hy hc'
          cases e2 : slt y x with
          | true =>
            have HE2 := Lib.hid e2
            have hl := fun w => run_leq_str ST x y w
            simp only [e2, Bool.not_true] at hl
            clear e2
            go_wp2_with (refine (KN _).mono ?_; rintro e wr2 ⟨rfl, rfl⟩)
            have h := hw.drew
            clear hw
            refine wp_region_text [9, 14] (fun w' => w'.cell? ⟨b, off + k, none⟩ = some (.string y) ∧ w'.cell? ⟨b, off + (k + 1), none⟩ = some (.string x)) (by kernel_rfl) ?_ (fun hS => ?_)
            · exact HD.out _ h
            refine wpAnyG_pure (i := 0) (oi := ⟨some 16, _, _, _, _, _⟩) (v := ?_) rfl (by kernel_rfl) (by kernel_rfl) (by kernel_rfl) (by rfl) (fun _ _ _ h => h) (by rfl) ?_ ?_
            rotate_left
            · intro w
              go_simp
              first | done | with_reducible rfl
            try simp only [Act.put, List.setIfInBounds_toArray, List.set_cons_zero, List.set_cons_succ]
            refine wpAnyG_pure (i := 1) (oi := ⟨some 17, _, _, _, _, _⟩) (v := ?_) rfl (by kernel_rfl) (by kernel_rfl) (by kernel_rfl) (by rfl) (fun _ _ _ h => h) (by rfl) ?_ ?_
            rotate_left
            · intro w
              go_simp
              first | done | with_reducible rfl
            try simp only [Act.put, List.setIfInBounds_toArray, List.set_cons_zero, List.set_cons_succ]
            refine wpAnyG_pure (i := 2) (oi := ⟨some 18, _, _, _, _, _⟩) (v := ?_) rfl (by kernel_rfl) (by kernel_rfl) (by kernel_rfl) (by rfl) (fun _ _ _ h => h) (by rfl) ?_ ?_
            rotate_left
            · intro w
              go_simp
              first | done | with_reducible rfl
            try simp only [Act.put, List.setIfInBounds_toArray, List.set_cons_zero, List.set_cons_succ]
            refine wpAnyG_pure (i := 3) (oi := ⟨some 19, _, _, _, _, _⟩) (v := ?_) rfl (by kernel_rfl) (by kernel_rfl) (by kernel_rfl) (by rfl) (fun _ _ _ h => h) (by rfl) ?_ ?_
            rotate_left
            · intro w
              go_simp
              first | done | with_reducible rfl
            try simp only [Act.put, List.setIfInBounds_toArray, List.set_cons_zero, List.set_cons_succ]
            refine wpAnyG_pure (i := 4) (oi := ⟨some 20, _, _, _, _, _⟩) (v := (.bool true)) rfl (by kernel_rfl) (by kernel_rfl) (by kernel_rfl) (by rfl) (fun _ _ _ h => h) (by rfl) ?_ ?_
            · intro w
              go_simp; first | done | omega | (simp; omega)
            try simp only [Act.put, List.setIfInBounds_toArray, List.set_cons_zero, List.set_cons_succ]
            refine wpAnyG_pure (i := 5) (oi := ⟨some 21, _, _, _, _, _⟩) (v := ?_) rfl (by kernel_rfl) (by kernel_rfl) (by kernel_rfl) (by rfl) (fun _ _ _ h => h) (by rfl) ?_ ?_
            rotate_left
            · intro w
              go_simp
              first | done | with_reducible rfl
            try simp only [Act.put, List.setIfInBounds_toArray, List.set_cons_zero, List.set_cons_succ]
            refine wpAnyG_pure (i := 6) (oi := ⟨some 22, _, _, _, _, _⟩) (v := ?_) rfl (by kernel_rfl) (by kernel_rfl) (by kernel_rfl) (by rfl) (fun _ _ _ h => h) (by rfl) ?_ ?_
            rotate_left
            · intro w
              go_simp
              first | done | with_reducible rfl
            try simp only [Act.put, List.setIfInBounds_toArray, List.set_cons_zero, List.set_cons_succ]
            refine wpAnyG_pure (i := 7) (oi := ⟨some 23, _, _, _, _, _⟩) (v := ?_) rfl (by kernel_rfl) (by kernel_rfl) (by kernel_rfl) (by rfl) (fun _ _ _ h => h) (by rfl) ?_ ?_
            rotate_left
            · intro w
              go_simp
              first | done | with_reducible rfl
            try simp only [Act.put, List.setIfInBounds_toArray, List.set_cons_zero, List.set_cons_succ]
            refine wpAnyG_pure (i := 8) (oi := ⟨some 24, _, _, _, _, _⟩) (v := (.pointer (some ⟨b, off + (k + 1), none⟩))) rfl (by kernel_rfl) (by kernel_rfl) (by kernel_rfl) (by rfl) (fun _ _ _ h => h) (by rfl) ?_ ?_
            · intro w
              go_simp; first | done | omega | (rw [if_pos (by omega)]) | (simp; omega) | (intros; omega)
            try simp only [Act.put, List.setIfInBounds_toArray, List.set_cons_zero, List.set_cons_succ]
            refine wpAnyG_load (i := 9) (oi := ⟨some 25, _, _, _, _, _⟩) (v := ?_) rfl (by kernel_rfl) (by kernel_rfl) (by kernel_rfl) (by rfl) (fun _ _ _ h => h) (by rfl) ?_ (by assumption) ?_
            rotate_left
            · intro w hS
              try dsimp only at hS
              go_simp
              first | done | with_reducible rfl
            try simp only [Act.put, List.setIfInBounds_toArray, List.set_cons_zero, List.set_cons_succ]
            refine wpAnyG_pure (i := 10) (oi := ⟨some 26, _, _, _, _, _⟩) (v := ?_) rfl (by kernel_rfl) (by kernel_rfl) (by kernel_rfl) (by rfl) (fun _ _ _ h => h) (by rfl) ?_ ?_
            rotate_left
            · intro w
              go_simp
              first | done | with_reducible rfl
            try simp only [Act.put, List.setIfInBounds_toArray, List.set_cons_zero, List.set_cons_succ]
            refine wpAnyG_pure (i := 11) (oi := ⟨some 27, _, _, _, _, _⟩) (v := ?_) rfl (by kernel_rfl) (by kernel_rfl) (by kernel_rfl) (by rfl) (fun _ _ _ h => h) (by rfl) ?_ ?_
            rotate_left
            · intro w
              go_simp
              first | done | with_reducible rfl
            try simp only [Act.put, List.setIfInBounds_toArray, List.set_cons_zero, List.set_cons_succ]
            refine wpAnyG_pure (i := 12) (oi := ⟨some 28, _, _, _, _, _⟩) (v := (.int .i64 k)) rfl (by kernel_rfl) (by kernel_rfl) (by kernel_rfl) (by rfl) (fun _ _ _ h => h) (by rfl) ?_ ?_
            · intro w
              go_simp; first | done | exact j7 | omega | simp [j7]
            try simp only [Act.put, List.setIfInBounds_toArray, List.set_cons_zero, List.set_cons_succ]
            refine wpAnyG_pure (i := 13) (oi := ⟨some 29, _, _, _, _, _⟩) (v := (.pointer (some ⟨b, off + k, none⟩))) rfl (by kernel_rfl) (by kernel_rfl) (by kernel_rfl) (by rfl) (fun _ _ _ h => h) (by rfl) ?_ ?_
            · intro w
              go_simp; first | done | omega | (simp; omega) | (intros; omega)
            try simp only [Act.put, List.setIfInBounds_toArray, List.set_cons_zero, List.set_cons_succ]
            refine wpAnyG_load (i := 14) (oi := ⟨some 30, _, _, _, _, _⟩) (v := ?_) rfl (by kernel_rfl) (by kernel_rfl) (by kernel_rfl) (by rfl) (fun _ _ _ h => h) (by rfl) ?_ (by assumption) ?_
            rotate_left
            · intro w hS
              try dsimp only at hS
              go_simp
              first | done | with_reducible rfl
            try simp only [Act.put, List.setIfInBounds_toArray, List.set_cons_zero, List.set_cons_succ]
            refine wpAnyG_pure (i := 15) (oi := ⟨some 31, _, _, _, _, _⟩) (v := (.bool false)) rfl (by kernel_rfl) (by kernel_rfl) (by kernel_rfl) (by rfl) (fun _ _ _ h => h) (by rfl) ?_ ?_
            · intro w
              go_simp; first | done | (rw [hl]; rfl) | simp [hl]
            try simp only [Act.put, List.setIfInBounds_toArray, List.set_cons_zero, List.set_cons_succ]
            refine wpAnyG_pure (i := 16) (oi := ⟨some 32, _, _, _, _, _⟩) (v := ?_) rfl (by kernel_rfl) (by kernel_rfl) (by kernel_rfl) (by rfl) (fun _ _ _ h => h) (by rfl) ?_ ?_
            rotate_left
            · intro w
              go_simp
              first | done | with_reducible rfl
            try simp only [Act.put, List.setIfInBounds_toArray, List.set_cons_zero, List.set_cons_succ]
            refine wpAnyG_pure (i := 17) (oi := ⟨some 33, _, _, _, _, _⟩) (v := ?_) rfl (by kernel_rfl) (by kernel_rfl) (by kernel_rfl) (by rfl) (fun _ _ _ h => h) (by rfl) ?_ ?_
            rotate_left
            · intro w
              go_simp
              first | done | with_reducible rfl
            try simp only [Act.put, List.setIfInBounds_toArray, List.set_cons_zero, List.set_cons_succ]
            refine wpAnyG_done (by kernel_rfl) ?_ _
            refine NoPanic.normal ?_
            have HF := Lib.hid h
            clear h
            go_wp2_with fail
            go_roundw
            case rel =>
              refine ⟨k + 2, by have := HK2.out; omega, ?_, fun i a hi ha => ?_, rises_step HRI.out HY.out HX.out HE2.out, HF.out⟩
              · first | rfl | exact congrArg (Value.int .i64) i5.out | (rw [← i5.out]; simp)
              · by_cases hi2 : i < k + 1
                · exact HNM.out i a hi2 ha
                · obtain rfl : i = k + 1 := by omega
                  rw [HX.out] at ha
                  injection ha with ha
                  rw [← ha]; exact HE.out
            case measure =>
              have := HK2.out
              have e8 := i5.out
              first
                | (rw [e8]; simp only [intOf]; omega)
                | (simp only [intOf] at *; omega)
                | (simp [intOf] at *; omega)
          | false =>
            have HE2 := Lib.hid e2
            have hl := fun w => run_leq_str ST x y w
            simp only [e2, Bool.not_false] at hl
            clear e2
            go_wp2_with (refine (KN _).mono ?_; rintro e wr2 ⟨rfl, rfl⟩)
            have h := hw.drew
            clear hw
            refine wp_region_text [9, 14] (fun w' => w'.cell? ⟨b, off + k, none⟩ = some (.string y) ∧ w'.cell? ⟨b, off + (k + 1), none⟩ = some (.string x)) (by kernel_rfl) ?_ (fun hS => ?_)
            · exact HD.out _ h
            refine wpAnyG_pure (i := 0) (oi := ⟨some 16, _, _, _, _, _⟩) (v := ?_) rfl (by kernel_rfl) (by kernel_rfl) (by kernel_rfl) (by rfl) (fun _ _ _ h => h) (by rfl) ?_ ?_
            rotate_left
            · intro w
              go_simp
              first | done | with_reducible rfl
            try simp only [Act.put, List.setIfInBounds_toArray, List.set_cons_zero, List.set_cons_succ]
            refine wpAnyG_pure (i := 1) (oi := ⟨some 17, _, _, _, _, _⟩) (v := ?_) rfl (by kernel_rfl) (by kernel_rfl) (by kernel_rfl) (by rfl) (fun _ _ _ h => h) (by rfl) ?_ ?_
            rotate_left
            · intro w
              go_simp
              first | done | with_reducible rfl
            try simp only [Act.put, List.setIfInBounds_toArray, List.set_cons_zero, List.set_cons_succ]
            refine wpAnyG_pure (i := 2) (oi := ⟨some 18, _, _, _, _, _⟩) (v := ?_) rfl (by kernel_rfl) (by kernel_rfl) (by kernel_rfl) (by rfl) (fun _ _ _ h => h) (by rfl) ?_ ?_
            rotate_left
            · intro w
              go_simp
              first | done | with_reducible rfl
            try simp only [Act.put, List.setIfInBounds_toArray, List.set_cons_zero, List.set_cons_succ]
            refine wpAnyG_pure (i := 3) (oi := ⟨some 19, _, _, _, _, _⟩) (v := ?_) rfl (by kernel_rfl) (by kernel_rfl) (by kernel_rfl) (by rfl) (fun _ _ _ h => h) (by rfl) ?_ ?_
            rotate_left
            · intro w
              go_simp
              first | done | with_reducible rfl
            try simp only [Act.put, List.setIfInBounds_toArray, List.set_cons_zero, List.set_cons_succ]
            refine wpAnyG_pure (i := 4) (oi := ⟨some 20, _, _, _, _, _⟩) (v := (.bool true)) rfl (by kernel_rfl) (by kernel_rfl) (by kernel_rfl) (by rfl) (fun _ _ _ h => h) (by rfl) ?_ ?_
            · intro w
              go_simp; first | done | omega | (simp; omega)
            try simp only [Act.put, List.setIfInBounds_toArray, List.set_cons_zero, List.set_cons_succ]
            refine wpAnyG_pure (i := 5) (oi := ⟨some 21, _, _, _, _, _⟩) (v := ?_) rfl (by kernel_rfl) (by kernel_rfl) (by kernel_rfl) (by rfl) (fun _ _ _ h => h) (by rfl) ?_ ?_
            rotate_left
            · intro w
              go_simp
              first | done | with_reducible rfl
            try simp only [Act.put, List.setIfInBounds_toArray, List.set_cons_zero, List.set_cons_succ]
            refine wpAnyG_pure (i := 6) (oi := ⟨some 22, _, _, _, _, _⟩) (v := ?_) rfl (by kernel_rfl) (by kernel_rfl) (by kernel_rfl) (by rfl) (fun _ _ _ h => h) (by rfl) ?_ ?_
            rotate_left
            · intro w
              go_simp
              first | done | with_reducible rfl
            try simp only [Act.put, List.setIfInBounds_toArray, List.set_cons_zero, List.set_cons_succ]
            refine wpAnyG_pure (i := 7) (oi := ⟨some 23, _, _, _, _, _⟩) (v := ?_) rfl (by kernel_rfl) (by kernel_rfl) (by kernel_rfl) (by rfl) (fun _ _ _ h => h) (by rfl) ?_ ?_
            rotate_left
            · intro w
              go_simp
              first | done | with_reducible rfl
            try simp only [Act.put, List.setIfInBounds_toArray, List.set_cons_zero, List.set_cons_succ]
            refine wpAnyG_pure (i := 8) (oi := ⟨some 24, _, _, _, _, _⟩) (v := (.pointer (some ⟨b, off + (k + 1), none⟩))) rfl (by kernel_rfl) (by kernel_rfl) (by kernel_rfl) (by rfl) (fun _ _ _ h => h) (by rfl) ?_ ?_
            · intro w
              go_simp; first | done | omega | (rw [if_pos (by omega)]) | (simp; omega) | (intros; omega)
            try simp only [Act.put, List.setIfInBounds_toArray, List.set_cons_zero, List.set_cons_succ]
            refine wpAnyG_load (i := 9) (oi := ⟨some 25, _, _, _, _, _⟩) (v := ?_) rfl (by kernel_rfl) (by kernel_rfl) (by kernel_rfl) (by rfl) (fun _ _ _ h => h) (by rfl) ?_ (by assumption) ?_
            rotate_left
            · intro w hS
              try dsimp only at hS
              go_simp
              first | done | with_reducible rfl
            try simp only [Act.put, List.setIfInBounds_toArray, List.set_cons_zero, List.set_cons_succ]
            refine wpAnyG_pure (i := 10) (oi := ⟨some 26, _, _, _, _, _⟩) (v := ?_) rfl (by kernel_rfl) (by kernel_rfl) (by kernel_rfl) (by rfl) (fun _ _ _ h => h) (by rfl) ?_ ?_
            rotate_left
            · intro w
              go_simp
              first | done | with_reducible rfl
            try simp only [Act.put, List.setIfInBounds_toArray, List.set_cons_zero, List.set_cons_succ]
            refine wpAnyG_pure (i := 11) (oi := ⟨some 27, _, _, _, _, _⟩) (v := ?_) rfl (by kernel_rfl) (by kernel_rfl) (by kernel_rfl) (by rfl) (fun _ _ _ h => h) (by rfl) ?_ ?_
            rotate_left
            · intro w
              go_simp
              first | done | with_reducible rfl
            try simp only [Act.put, List.setIfInBounds_toArray, List.set_cons_zero, List.set_cons_succ]
            refine wpAnyG_pure (i := 12) (oi := ⟨some 28, _, _, _, _, _⟩) (v := (.int .i64 k)) rfl (by kernel_rfl) (by kernel_rfl) (by kernel_rfl) (by rfl) (fun _ _ _ h => h) (by rfl) ?_ ?_
            · intro w
              go_simp; first | done | exact j7 | omega | simp [j7]
            try simp only [Act.put, List.setIfInBounds_toArray, List.set_cons_zero, List.set_cons_succ]
            refine wpAnyG_pure (i := 13) (oi := ⟨some 29, _, _, _, _, _⟩) (v := (.pointer (some ⟨b, off + k, none⟩))) rfl (by kernel_rfl) (by kernel_rfl) (by kernel_rfl) (by rfl) (fun _ _ _ h => h) (by rfl) ?_ ?_
            · intro w
              go_simp; first | done | omega | (simp; omega) | (intros; omega)
            try simp only [Act.put, List.setIfInBounds_toArray, List.set_cons_zero, List.set_cons_succ]
            refine wpAnyG_load (i := 14) (oi := ⟨some 30, _, _, _, _, _⟩) (v := ?_) rfl (by kernel_rfl) (by kernel_rfl) (by kernel_rfl) (by rfl) (fun _ _ _ h => h) (by rfl) ?_ (by assumption) ?_
            rotate_left
            · intro w hS
              try dsimp only at hS
              go_simp
              first | done | with_reducible rfl
            try simp only [Act.put, List.setIfInBounds_toArray, List.set_cons_zero, List.set_cons_succ]
            refine wpAnyG_pure (i := 15) (oi := ⟨some 31, _, _, _, _, _⟩) (v := (.bool true)) rfl (by kernel_rfl) (by kernel_rfl) (by kernel_rfl) (by rfl) (fun _ _ _ h => h) (by rfl) ?_ ?_
            · intro w
              go_simp; first | done | (rw [hl]; rfl) | simp [hl]
            try simp only [Act.put, List.setIfInBounds_toArray, List.set_cons_zero, List.set_cons_succ]
            refine wpAnyG_pure (i := 16) (oi := ⟨some 32, _, _, _, _, _⟩) (v := ?_) rfl (by kernel_rfl) (by kernel_rfl) (by kernel_rfl) (by rfl) (fun _ _ _ h => h) (by rfl) ?_ ?_
            rotate_left
            · intro w
              go_simp
              first | done | with_reducible rfl
            try simp only [Act.put, List.setIfInBounds_toArray, List.set_cons_zero, List.set_cons_succ]
            refine wpAnyG_pure (i := 17) (oi := ⟨some 33, _, _, _, _, _⟩) (v := ?_) rfl (by kernel_rfl) (by kernel_rfl) (by kernel_rfl) (by rfl) (fun _ _ _ h => h) (by rfl) ?_ ?_
            rotate_left
            · intro w
              go_simp
              first | done | with_reducible rfl
            try simp only [Act.put, List.setIfInBounds_toArray, List.set_cons_zero, List.set_cons_succ]
            refine wpAnyG_done (by kernel_rfl) ?_ _
            refine NoPanic.normal ?_
            go_wp2_with fail
            go_ret
            have e6 : scOk xs = false := by unfold scOk; rw [rises_not HY.out HX.out HE2.out, Bool.and_false]
            exact ⟨by rw [e6]; rfl, h⟩
    · obtain rfl : k = n := by omega
      have i1 : ¬ (k : Int) < (k : Int) := by omega
      have e6 : scOk xs = true := by
        unfold scOk
        rw [names_all HLEN.out.symm hnm, Bool.true_and]
        exact (risesB_iff xs).2 fun i a b ha hb => hri i a b (by rw [← HLEN.out]; exact (List.getElem?_eq_some_iff.1 hb).1) ha hb
      have HE := Lib.hid e6
      have H := Lib.hid hw
      clear hw e6 hnm hri
      go_wp2_with fail
      go_ret
      exact ⟨by rw [HE.out]; rfl, H.out⟩
set_option maxRecDepth 20000 in
set_option maxHeartbeats 4000000 in
theorem xtext_any (A : Option Addr) (n c : Nat) (xs : List ByteArray) (w : World) (hr : Rds S 1 enStr A n xs) (h16 : ∀ x ∈ xs, x.size ≤ 16) (hn : n ≤ 8) (h : Own E w (Hp.ro S :: L)) :
    Calls Tryd.prog 49 #[.slice A n c] w fun e w' => e = .returned (.string ⟨(joinL xs).toArray⟩) ∧ Own E w' (Hp.ro S :: L) := by
  have HLEN := Lib.hid hr.1
  have hjs : ∀ k, (joinL (xs.take k)).length ≤ 1000 := fun k => by
    have h1 := join_len (xs.take k)
    have h2 := bytesL_le (l := xs.take k) fun s hs => h16 s (List.mem_of_mem_take hs)
    have h4 : (xs.take k).length ≤ xs.length := by rw [List.length_take]; omega
    have := hr.1
    split at h1 <;> omega
  have HJ := Lib.hid hjs
  clear hjs
  go_enter Tryd.func49, Tryd.ntmps49
  go_wp2_with fail
  go_loopw [3, 4] (fun s i wr => ∃ k : Nat, k ≤ n ∧ i = .int .i64 k ∧ s = .string ⟨(joinL (xs.take k)).toArray⟩ ∧ Own E wr (Hp.ro S :: L)) (fun _ i _ => n - (intOf i).toNat)
  case atStart => exact ⟨0, by omega, rfl, rfl, h⟩
  case round =>
    obtain ⟨k, hk, rfl, rfl, hw⟩ := hrel
    clear h
    by_cases hlt : k < n
    · obtain ⟨x, b, off, hx, rfl, hc⟩ := hr.get1 hlt
      have hcx := hw.rd (hc _ rfl)
      have hx16 := h16 x (List.mem_of_getElem? hx)
      have ht : xs.take (k + 1) = xs.take k ++ [x] := by rw [List.take_add_one, hx]; rfl
      have hsn : joinL (xs.take (k + 1)) = if k = 0 then x.data.toList else joinL (xs.take k) ++ 32 :: x.data.toList := by
        rw [ht, join_snoc]
        by_cases e : k = 0
        · subst e; simp
        · rw [if_neg e, if_neg]
          intro e2
          have := congrArg List.length e2
          rw [List.length_take, HLEN.out] at this
          simp only [List.length_nil] at this
          omega
      have hj := HJ.out k
      have i1 : (k : Int) < n := by omega
      have i5 : wrap64 ((k : Int) + 1) = ((k + 1 : Nat) : Int) := by unfold wrap64; omega
      have q0 : (⟨(joinL (xs.take k)).toArray⟩ : ByteArray).size ≤ 1000 := by rw [mk_size]; exact hj
      cases k with
      | zero =>
        have hcx : wr.cell? ⟨b, off, none⟩ = some (.string x) := hcx
        rw [if_pos rfl] at hsn
        have HS := Lib.hid (show ((⟨(joinL (xs.take 0)).toArray⟩ : ByteArray) ++ x) = ⟨(joinL (xs.take (0 + 1))).toArray⟩ by
          rw [hsn]
          apply str_eq_of
          simp [joinL])
        have j1 : (0 : Int) < n := by omega
        generalize (⟨(joinL (xs.take 0)).toArray⟩ : ByteArray) = J at *
        have q1 : ¬ 9223372036854775807 < J.size + x.size := by omega
        clear hr hx hc hsn hj q0 hx16 hk hlt i1 ht
        have H := Lib.hid hw
        clear hw
        go_wp2_with fail
        go_roundw
        case rel => exact ⟨1, by omega, by first | rfl | go_num, congrArg Value.string HS.out, H.out⟩
        case measure => simp [intOf]; omega
      | succ k =>
        rw [if_neg (by omega)] at hsn
        have HS := Lib.hid (show ((⟨(joinL (xs.take (k + 1))).toArray⟩ : ByteArray) ++ ⟨#[32]⟩ ++ x) = ⟨(joinL (xs.take (k + 1 + 1))).toArray⟩ by
          rw [hsn]
          apply str_eq_of
          simp)
        generalize (⟨(joinL (xs.take (k + 1))).toArray⟩ : ByteArray) = J at *
        have j1 : (0 : Int) < ((k + 1 : Nat) : Int) := by omega
        have q1 : ¬ 9223372036854775807 < J.size + 1 := by omega
        have q3 : (J ++ ⟨#[32]⟩ : ByteArray).size = J.size + 1 := by rw [ByteArray.size_append]; rfl
        have q2 : ¬ 9223372036854775807 < (J ++ ⟨#[32]⟩ : ByteArray).size + x.size := by omega
        have HK := Lib.hid hlt
        clear hr hx hc hsn hj hx16 hk hlt ht
        have H := Lib.hid hw
        clear hw
        go_wp2_with fail
        go_roundw
        case rel => exact ⟨k + 2, by have := HK.out; omega, by first | rfl | exact congrArg (Value.int .i64) i5 | (rw [← i5]; simp), congrArg Value.string HS.out, H.out⟩
        case measure =>
          have e8 := HK.out
          first
            | (rw [i5]; simp only [intOf]; omega)
            | (simp [intOf]; omega)
    · obtain rfl : k = n := by omega
      have e9 : xs.take k = xs := List.take_of_length_le (by rw [HLEN.out]; omega)
      rw [e9]
      have i1 : ¬ (k : Int) < (k : Int) := by omega
      have H := Lib.hid hw
      clear hw
      go_wp2_with fail
      go_ret
      exact ⟨rfl, H.out⟩
theorem xfits_any (A : Option Addr) (n c : Nat) (xs : List ByteArray) (w : World) (hr : Rds S 1 enStr A n xs) (h16 : ∀ x ∈ xs, x.size ≤ 16) (h : Own E w (Hp.ro S :: L)) :
    Calls Tryd.prog 31 #[.slice A n c] w fun e w' => e = .returned (.bool (fitL xs)) ∧ Own E w' (Hp.ro S :: L) := by
  have hl := hr.1
  by_cases hn : n ≤ 8
  · have K := fun w h => xtext_any (E := E) (L := L) A n c xs w hr h16 hn h
    have e0 : fitL xs = decide ((joinL xs).length ≤ 60) := by
      rw [Bool.eq_iff_iff, fit_iff, decide_eq_true_eq]
      omega
    have e1 := mk_size (joinL xs)
    have HE := Lib.hid (e0.trans (by rw [← e1]))
    generalize (⟨(joinL xs).toArray⟩ : ByteArray) = t at *
    have i1 : ¬ (8 : Int) < n := by omega
    have H := Lib.hid h
    clear h hr h16 hl hn e0 e1
    go_enter Tryd.func31, Tryd.ntmps31
    go_wp2_with (refine (K _ H.out).mono ?_; clear H K; rintro e w2 ⟨rfl, h⟩; have H2 := Lib.hid h; clear h)
    go_ret
    refine ⟨?_, H2.out⟩
    rw [HE.out]
    refine congrArg (fun b => Ending.returned (.bool b)) ?_
    show decide ((t.size : Int) ≤ 60) = decide (t.size ≤ 60)
    rw [decide_eq_decide]
    omega
  · have e0 : fitL xs = false := by unfold fitL; rw [decide_eq_false (by omega), Bool.false_and]
    have i1 : (8 : Int) < n := by omega
    have H := Lib.hid h
    have HE := Lib.hid e0
    clear h hr h16 hl hn e0
    go_enter Tryd.func31, Tryd.ntmps31
    go_wp2_with fail
    go_ret
    exact ⟨by rw [HE.out]; rfl, H.out⟩
theorem scErr_ok (xs : List ByteArray) : scErr xs = if scOk xs = true then (if fitL xs = true then 0 else 61) else 60 := by
  unfold scErr
  split
  · by_cases hf : fitL xs = true
    · rw [if_pos hf, if_pos ((fit_iff xs).1 hf)]
    · rw [if_neg hf, if_neg (fun h => hf ((fit_iff xs).2 h))]
  · rfl
theorem ok16 {xs : List ByteArray} (h : scOk xs = true) : ∀ x ∈ xs, x.size ≤ 16 := fun x hx => by
  unfold scOk at h
  rw [Bool.and_eq_true] at h
  exact nm_size (List.all_eq_true.1 h.1 x hx)
theorem xright_any (A : Option Addr) (n c : Nat) (xs : List ByteArray) (w : World) (hr : Rds S 1 enStr A n xs) (hsz : ∀ x ∈ xs, x.size ≤ 1000000000000000000) (hn43 : n ≤ 8796093022208) (h : Own E w (Hp.ro S :: L)) :
    Calls Tryd.prog 34 #[.slice A n c] w fun e w' => e = .returned (.bool (decide (scErr xs = 0))) ∧ Own E w' (Hp.ro S :: L) := by
  have K := fun w h => xrises_any (E := E) (L := L) A n c xs w hr hsz hn43 h
  have H := Lib.hid h
  cases hok : scOk xs with
  | false =>
    rw [hok] at K
    have HE := Lib.hid (show scErr xs = 60 by rw [scErr_ok, hok]; rfl)
    clear h hr hsz hn43
    go_enter Tryd.func34, Tryd.ntmps34
    go_wp2_with (refine (K _ H.out).mono ?_; clear H K; rintro e w2 ⟨rfl, h⟩; have H2 := Lib.hid h; clear h)
    go_ret
    exact ⟨by rw [HE.out]; rfl, H2.out⟩
  | true =>
    rw [hok] at K
    have HF := fun w h => xfits_any (E := E) (L := L) A n c xs w hr (ok16 hok) h
    have HE := Lib.hid (show decide (scErr xs = 0) = fitL xs by rw [scErr_ok, if_pos hok]; cases fitL xs <;> rfl)
    clear h hr hsz hn43
    go_enter Tryd.func34, Tryd.ntmps34
    go_wp2_with (first | (refine (K _ H.out).mono ?_; clear H K; rintro e w2 ⟨rfl, h⟩; have H2 := Lib.hid h; clear h) | (refine (HF _ H2.out).mono ?_; clear HF H2; rintro e w2 ⟨rfl, h⟩; have H3 := Lib.hid h; clear h))
    go_ret
    exact ⟨by rw [HE.out]; rfl, H3.out⟩
theorem xprint_any (A : Option Addr) (n c : Nat) (xs : List ByteArray) (w : World) (hr : Rds S 1 enStr A n xs) (hsz : ∀ x ∈ xs, x.size ≤ 1000000000000000000) (hn43 : n ≤ 8796093022208) (h : Own E w (Hp.ro S :: L)) :
    Calls Tryd.prog 33 #[.slice A n c] w fun e w' => e = .returned (.tuple #[.string (scTxt xs), .int .i64 (scErr xs)]) ∧ Own E w' (Hp.ro S :: L) := by
  have K := fun w h => xrises_any (E := E) (L := L) A n c xs w hr hsz hn43 h
  have H := Lib.hid h
  cases hok : scOk xs with
  | false =>
    rw [hok] at K
    have HE := Lib.hid (show scErr xs = 60 by rw [scErr_ok, hok]; rfl)
    clear h hr hsz hn43
    go_enter Tryd.func33, Tryd.ntmps33
    go_wp2_with (refine (K _ H.out).mono ?_; clear H K; rintro e w2 ⟨rfl, h⟩; have H2 := Lib.hid h; clear h)
    go_ret2
    rw [HE.out, scTxt_60 HE.out]
    exact ⟨rfl, H2.out⟩
  | true =>
    rw [hok] at K
    have HF := fun w h => xfits_any (E := E) (L := L) A n c xs w hr (ok16 hok) h
    cases hf : fitL xs with
    | false =>
      rw [hf] at HF
      have HE := Lib.hid (show scErr xs = 61 by rw [scErr_ok, if_pos hok, hf]; rfl)
      clear h hr hsz hn43
      go_enter Tryd.func33, Tryd.ntmps33
      go_wp2_with (first | (refine (K _ H.out).mono ?_; clear H K; rintro e w2 ⟨rfl, h⟩; have H2 := Lib.hid h; clear h) | (refine (HF _ H2.out).mono ?_; clear HF H2; rintro e w2 ⟨rfl, h⟩; have H3 := Lib.hid h; clear h))
      go_ret2
      rw [HE.out, scTxt_61 HE.out]
      exact ⟨rfl, H3.out⟩
    | true =>
      rw [hf] at HF
      have he : scErr xs = 0 := by rw [scErr_ok, if_pos hok, hf]; rfl
      have KT := fun w h => xtext_any (E := E) (L := L) A n c xs w hr (ok16 hok) (by have := ((fit_iff xs).1 hf).1; have := hr.1; omega) h
      have HE := Lib.hid he
      have HT := Lib.hid (show scTxt xs = ⟨(joinL xs).toArray⟩ by unfold scTxt; rw [if_pos he])
      clear h hr hsz hn43 he
      go_enter Tryd.func33, Tryd.ntmps33
      go_wp2_with (first | (refine (K _ H.out).mono ?_; clear H K; rintro e w2 ⟨rfl, h⟩; have H2 := Lib.hid h; clear h) | (refine (HF _ H2.out).mono ?_; clear HF H2; rintro e w2 ⟨rfl, h⟩; have H3 := Lib.hid h; clear h) | (refine (KT _ H3.out).mono ?_; clear KT H3; rintro e w2 ⟨rfl, h⟩; have H4 := Lib.hid h; clear h))
      go_ret2
      rw [HE.out, HT.out]
      exact ⟨rfl, H4.out⟩
end
end Go.Proofs.YtgedjkcpgagnbaaDoor
