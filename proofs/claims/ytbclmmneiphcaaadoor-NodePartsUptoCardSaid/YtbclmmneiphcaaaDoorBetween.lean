/- node.Between, the reference's Between: the shortest beginning of b that is above a. -/
import Derived.Test.YtbclmmneiphcaaaDoorRises
namespace Go.Proofs.YtbclmmneiphcaaaDoor
open Go.RowKit
/-- How many bytes two texts begin with together. -/
def cpl : List UInt8 → List UInt8 → Nat
  | a :: x, b :: y => if a = b then cpl x y + 1 else 0
  | _, _ => 0
theorem cpl_take : ∀ (a b : List UInt8) (i : Nat), i ≤ cpl a b → a.take i = b.take i ∧ i ≤ a.length ∧ i ≤ b.length
  | [], b, i, h => by have : i = 0 := by simpa [cpl] using h
                      subst this; simp
  | _ :: _, [], i, h => by have : i = 0 := by simpa [cpl] using h
                           subst this; simp
  | a :: x, b :: y, i, h => by
    unfold cpl at h
    by_cases e : a = b
    · rw [if_pos e] at h
      subst e
      cases i with
      | zero => simp
      | succ i =>
        obtain ⟨h1, h2, h3⟩ := cpl_take x y i (by omega)
        simp [h1, h2, h3]
    · rw [if_neg e] at h
      have : i = 0 := by omega
      subst this; simp
theorem cpl_get {a b : List UInt8} {i : Nat} (h : i < cpl a b) : ∃ c, a[i]? = some c ∧ b[i]? = some c := by
  obtain ⟨h1, h2, h3⟩ := cpl_take a b (i + 1) h
  have e := congrArg (·[i]?) h1
  simp only [List.getElem?_take, show i < i + 1 by omega, if_true] at e
  exact ⟨a[i], List.getElem?_eq_getElem _, by rw [← e]; exact List.getElem?_eq_getElem _⟩
theorem cpl_end : ∀ (a b : List UInt8), Op.bytesLess a b = true → cpl a b < b.length ∧ (cpl a b = a.length ∨ ∃ c d, a[cpl a b]? = some c ∧ b[cpl a b]? = some d ∧ c ≠ d)
  | _, [], h => by simp [Op.bytesLess] at h
  | [], _ :: _, _ => by simp [cpl]
  | a :: x, b :: y, h => by
    unfold cpl
    by_cases e : a = b
    · subst e
      rw [if_pos rfl]
      have h2 : Op.bytesLess x y = true := by
        simp only [Op.bytesLess, Bool.or_eq_true, decide_eq_true_eq, Bool.and_eq_true, beq_iff_eq, true_and] at h
        rcases h with h | h
        · exact absurd h (by have := @UInt8.lt_iff_toNat_lt a a; rw [this]; omega)
        · exact h
      obtain ⟨h3, h4⟩ := cpl_end x y h2
      exact ⟨by simpa using h3, by simpa using h4⟩
    · rw [if_neg e]
      exact ⟨by simp, .inr ⟨a, b, rfl, rfl, e⟩⟩
theorem less_pre : ∀ (a : List UInt8) (i : Nat), Op.bytesLess a (a.take i) = false
  | [], i => by simp [Op.bytesLess]
  | a :: x, 0 => by simp [Op.bytesLess]
  | a :: x, i + 1 => by simp [Op.bytesLess, less_pre x i]
theorem cpl_low {a b : List UInt8} {i : Nat} (h : i ≤ cpl a b) : Op.bytesLess a (b.take i) = false := by
  rw [← (cpl_take a b i h).1]; exact less_pre a i
theorem cpl_high : ∀ (a b : List UInt8), Op.bytesLess a b = true → Op.bytesLess a (b.take (cpl a b + 1)) = true
  | _, [], h => by simp [Op.bytesLess] at h
  | [], _ :: _, _ => by simp [cpl, Op.bytesLess]
  | a :: x, b :: y, h => by
    simp only [Op.bytesLess, Bool.or_eq_true, decide_eq_true_eq, Bool.and_eq_true, beq_iff_eq] at h
    unfold cpl
    by_cases e : a = b
    · subst e
      rw [if_pos rfl]
      have h2 : Op.bytesLess x y = true := by
        rcases h with h | h
        · exact absurd h (by have := @UInt8.lt_iff_toNat_lt a a; rw [this]; omega)
        · exact h.2
      simp [Op.bytesLess, cpl_high x y h2]
    · rw [if_neg e]
      rcases h with h | h
      · simp [Op.bytesLess, h]
      · exact absurd h.1 e
/-- Between. -/
def betweenV (a b : ByteArray) : ByteArray := if slt a b then b.extract 0 (cpl a.data.toList b.data.toList + 1) else b
theorem extract_front (T : ByteArray) (b : Nat) : (T.extract 0 b).data.toList = T.data.toList.take b := by rw [Lib.extract_data]; simp
section
variable {E : World} {L : List Hp}
set_option maxHeartbeats 1000000 in
theorem between_any (a b : ByteArray) (w : World) (hb : b.size ≤ 1152921504606846976) (h : Own E w L) :
    Calls Tryd.prog 15 #[.string a, .string b] w fun e w' => e = .returned (.string (betweenV a b)) ∧ Own E w' L := by
  by_cases hlt : slt a b = true
  · have e0 : betweenV a b = b.extract 0 (cpl a.data.toList b.data.toList + 1) := if_pos hlt
    rw [e0]
    have hq : Op.bytesLess a.toList b.toList = true := by rw [slt_walk]; exact hlt
    obtain ⟨hm1, hm2⟩ := cpl_end a.data.toList b.data.toList hlt
    have hcg : ∀ i, i < cpl a.data.toList b.data.toList → ∃ c, a.data.toList[i]? = some c ∧ b.data.toList[i]? = some c := fun i hi => cpl_get hi
    have hcl : ∀ i, i < cpl a.data.toList b.data.toList → i < a.size ∧ i < b.size := fun i hi => by
      obtain ⟨_, h2, h3⟩ := cpl_take a.data.toList b.data.toList (i + 1) hi
      exact ⟨h2, h3⟩
    obtain ⟨m, hm⟩ : ∃ m, m = cpl a.data.toList b.data.toList := ⟨_, rfl⟩
    rw [← hm] at hm1 hm2 hcg hcl ⊢
    have hm1' : m < b.size := hm1
    have hma : m ≤ a.size := by
      rcases hm2 with h | ⟨c, _, h, _⟩
      · show m ≤ a.data.toList.length; omega
      · exact Nat.le_of_lt (List.getElem?_eq_some_iff.1 h).1
    have HM2 := Lib.hid hm2
    have HCG := Lib.hid hcg
    have HCL := Lib.hid hcl
    have HA := Lib.hid hma
    clear hm hm2 hcg hcl hm1 e0 hlt
    go_enter Tryd.func15, Tryd.ntmps15
    go_wp2_with fail
    go_loopw [5] (fun i wr => ∃ k : Nat, k ≤ m ∧ i = .int .i64 k ∧ Own E wr L) (fun i _ => m - (intOf i).toNat)
    case atStart => exact ⟨0, by omega, rfl, h⟩
    case round =>
      obtain ⟨k, hk, rfl, hw⟩ := hrel
      clear h
      have HW := Lib.hid hw.drew
      clear hw
      by_cases hkm : k < m
      · obtain ⟨c, h1, h2⟩ := HCG.out k hkm
        obtain ⟨h3, h4⟩ := HCL.out k hkm
        have x1 := byte_index a k k rfl h3
        have x2 := byte_index b k k rfl h4
        rw [List.getD_eq_getElem?_getD, h1] at x1
        rw [List.getD_eq_getElem?_getD, h2] at x2
        simp only [Option.getD_some] at x1 x2
        have h3i : (k : Int) < a.size := by omega
        clear h1 h2
        go_wp2_with fail
        refine wp_region_text [] (fun _ => True) (by kernel_rfl) ?_ (fun hS => ?_)
        · trivial
        refine wpAnyG_pure (i := 0) (oi := ⟨some 10, _, _, _, _, _⟩) (v := ?_) rfl (by kernel_rfl) (by kernel_rfl) (by kernel_rfl) (by rfl) (fun _ _ _ h => h) (by rfl) ?_ ?_
        rotate_left
        · intro w
          go_simp
          first | done | with_reducible rfl
        try simp only [Act.put, List.setIfInBounds_toArray, List.set_cons_zero, List.set_cons_succ]
        refine wpAnyG_pure (i := 1) (oi := ⟨some 11, _, _, _, _, _⟩) (v := ?_) rfl (by kernel_rfl) (by kernel_rfl) (by kernel_rfl) (by rfl) (fun _ _ _ h => h) (by rfl) ?_ ?_
        rotate_left
        · intro w
          go_simp
          first | done | with_reducible rfl
        try simp only [Act.put, List.setIfInBounds_toArray, List.set_cons_zero, List.set_cons_succ]
        refine wpAnyG_pure (i := 2) (oi := ⟨some 12, _, _, _, _, _⟩) (v := ?_) rfl (by kernel_rfl) (by kernel_rfl) (by kernel_rfl) (by rfl) (fun _ _ _ h => h) (by rfl) ?_ ?_
        rotate_left
        · intro w
          go_simp
          first | done | with_reducible rfl
        try simp only [Act.put, List.setIfInBounds_toArray, List.set_cons_zero, List.set_cons_succ]
        refine wpAnyG_pure (i := 3) (oi := ⟨some 13, _, _, _, _, _⟩) (v := ?_) rfl (by kernel_rfl) (by kernel_rfl) (by kernel_rfl) (by rfl) (fun _ _ _ h => h) (by rfl) ?_ ?_
        rotate_left
        · intro w
          go_simp
          first | done | with_reducible rfl
        try simp only [Act.put, List.setIfInBounds_toArray, List.set_cons_zero, List.set_cons_succ]
        refine wpAnyG_pure (i := 4) (oi := ⟨some 14, _, _, _, _, _⟩) (v := ?_) rfl (by kernel_rfl) (by kernel_rfl) (by kernel_rfl) (by rfl) (fun _ _ _ h => h) (by rfl) ?_ ?_
        rotate_left
        · intro w
          go_simp
          first | done | with_reducible rfl
        try simp only [Act.put, List.setIfInBounds_toArray, List.set_cons_zero, List.set_cons_succ]
        refine wpAnyG_pure (i := 5) (oi := ⟨some 15, _, _, _, _, _⟩) (v := ?_) rfl (by kernel_rfl) (by kernel_rfl) (by kernel_rfl) (by rfl) (fun _ _ _ h => h) (by rfl) ?_ ?_
        rotate_left
        · intro w
          go_simp
          first | done | with_reducible rfl
        try simp only [Act.put, List.setIfInBounds_toArray, List.set_cons_zero, List.set_cons_succ]
        refine wpAnyG_pure (i := 6) (oi := ⟨some 16, _, _, _, _, _⟩) (v := ?_) rfl (by kernel_rfl) (by kernel_rfl) (by kernel_rfl) (by rfl) (fun _ _ _ h => h) (by rfl) ?_ ?_
        rotate_left
        · intro w
          go_simp
          first | done | with_reducible rfl
        try simp only [Act.put, List.setIfInBounds_toArray, List.set_cons_zero, List.set_cons_succ]
        refine wpAnyG_pure (i := 7) (oi := ⟨some 17, _, _, _, _, _⟩) (v := ?_) rfl (by kernel_rfl) (by kernel_rfl) (by kernel_rfl) (by rfl) (fun _ _ _ h => h) (by rfl) ?_ ?_
        rotate_left
        · intro w
          go_simp
          first | done | with_reducible rfl
        try simp only [Act.put, List.setIfInBounds_toArray, List.set_cons_zero, List.set_cons_succ]
        refine wpAnyG_pure (i := 8) (oi := ⟨some 18, _, _, _, _, _⟩) (v := ?_) rfl (by kernel_rfl) (by kernel_rfl) (by kernel_rfl) (by rfl) (fun _ _ _ h => h) (by rfl) ?_ ?_
        rotate_left
        · intro w
          go_simp
          first | done | with_reducible rfl
        try simp only [Act.put, List.setIfInBounds_toArray, List.set_cons_zero, List.set_cons_succ]
        refine wpAnyG_pure (i := 9) (oi := ⟨some 19, _, _, _, _, _⟩) (v := ?_) rfl (by kernel_rfl) (by kernel_rfl) (by kernel_rfl) (by rfl) (fun _ _ _ h => h) (by rfl) ?_ ?_
        rotate_left
        · intro w
          go_simp
          first | done | with_reducible rfl
        try simp only [Act.put, List.setIfInBounds_toArray, List.set_cons_zero, List.set_cons_succ]
        refine wpAnyG_pure (i := 10) (oi := ⟨some 20, _, _, _, _, _⟩) (v := ?_) rfl (by kernel_rfl) (by kernel_rfl) (by kernel_rfl) (by rfl) (fun _ _ _ h => h) (by rfl) ?_ ?_
        rotate_left
        · intro w
          go_simp
          first | done | with_reducible rfl
        try simp only [Act.put, List.setIfInBounds_toArray, List.set_cons_zero, List.set_cons_succ]
        refine wpAnyG_pure (i := 11) (oi := ⟨some 21, _, _, _, _, _⟩) (v := ?_) rfl (by kernel_rfl) (by kernel_rfl) (by kernel_rfl) (by rfl) (fun _ _ _ h => h) (by rfl) ?_ ?_
        rotate_left
        · intro w
          go_simp
          first | done | with_reducible rfl
        try simp only [Act.put, List.setIfInBounds_toArray, List.set_cons_zero, List.set_cons_succ]
        refine wpAnyG_pure (i := 12) (oi := ⟨some 22, _, _, _, _, _⟩) (v := ?_) rfl (by kernel_rfl) (by kernel_rfl) (by kernel_rfl) (by rfl) (fun _ _ _ h => h) (by rfl) ?_ ?_
        rotate_left
        · intro w
          go_simp
          first | done | with_reducible rfl
        try simp only [Act.put, List.setIfInBounds_toArray, List.set_cons_zero, List.set_cons_succ]
        refine wpAnyG_done (by kernel_rfl) ?_ _
        refine NoPanic.normal ?_
        go_wp2_with fail
        go_roundw
        case rel => exact ⟨k + 1, by omega, by go_num, HW.out⟩
        case measure => simp [intOf]; omega
      · obtain rfl : k = m := by omega
        have j1 : (0 : Int) ≤ (k : Int) + 1 := by omega
        have j2 : (k : Int) + 1 ≤ b.size := by omega
        have j3 : ((k : Int) + 1).toNat = k + 1 := by omega
        clear hkm
        by_cases hka : k = a.size
        · subst hka
          go_wp2_with fail
          refine wp_region_text [] (fun _ => True) (by kernel_rfl) ?_ (fun hS => ?_)
          · trivial
          refine wpAnyG_pure (i := 0) (oi := ⟨some 10, _, _, _, _, _⟩) (v := ?_) rfl (by kernel_rfl) (by kernel_rfl) (by kernel_rfl) (by rfl) (fun _ _ _ h => h) (by rfl) ?_ ?_
          rotate_left
          · intro w
            go_simp
            first | done | with_reducible rfl
          try simp only [Act.put, List.setIfInBounds_toArray, List.set_cons_zero, List.set_cons_succ]
          refine wpAnyG_pure (i := 1) (oi := ⟨some 11, _, _, _, _, _⟩) (v := ?_) rfl (by kernel_rfl) (by kernel_rfl) (by kernel_rfl) (by rfl) (fun _ _ _ h => h) (by rfl) ?_ ?_
          rotate_left
          · intro w
            go_simp
            first | done | with_reducible rfl
          try simp only [Act.put, List.setIfInBounds_toArray, List.set_cons_zero, List.set_cons_succ]
          refine wpAnyG_pure (i := 2) (oi := ⟨some 12, _, _, _, _, _⟩) (v := ?_) rfl (by kernel_rfl) (by kernel_rfl) (by kernel_rfl) (by rfl) (fun _ _ _ h => h) (by rfl) ?_ ?_
          rotate_left
          · intro w
            go_simp
            first | done | with_reducible rfl
          try simp only [Act.put, List.setIfInBounds_toArray, List.set_cons_zero, List.set_cons_succ]
          refine wpAnyG_pure (i := 3) (oi := ⟨some 13, _, _, _, _, _⟩) (v := ?_) rfl (by kernel_rfl) (by kernel_rfl) (by kernel_rfl) (by rfl) (fun _ _ _ h => h) (by rfl) ?_ ?_
          rotate_left
          · intro w
            go_simp
            first | done | with_reducible rfl
          try simp only [Act.put, List.setIfInBounds_toArray, List.set_cons_zero, List.set_cons_succ]
          refine wpAnyG_pure (i := 4) (oi := ⟨some 14, _, _, _, _, _⟩) (v := ?_) rfl (by kernel_rfl) (by kernel_rfl) (by kernel_rfl) (by rfl) (fun _ _ _ h => h) (by rfl) ?_ ?_
          rotate_left
          · intro w
            go_simp
            first | done | with_reducible rfl
          try simp only [Act.put, List.setIfInBounds_toArray, List.set_cons_zero, List.set_cons_succ]
          refine wpAnyG_skip (i := 5) (oi := ⟨some 15, _, _, _, _, _⟩) rfl (by kernel_rfl) (by kernel_rfl) (by kernel_rfl) (by rfl) (fun _ _ _ h => h) (by rfl) ?_
          try simp only [Act.put, List.setIfInBounds_toArray, List.set_cons_zero, List.set_cons_succ]
          refine wpAnyG_skip (i := 6) (oi := ⟨some 16, _, _, _, _, _⟩) rfl (by kernel_rfl) (by kernel_rfl) (by kernel_rfl) (by rfl) (fun _ _ _ h => h) (by rfl) ?_
          try simp only [Act.put, List.setIfInBounds_toArray, List.set_cons_zero, List.set_cons_succ]
          refine wpAnyG_skip (i := 7) (oi := ⟨some 17, _, _, _, _, _⟩) rfl (by kernel_rfl) (by kernel_rfl) (by kernel_rfl) (by rfl) (fun _ _ _ h => h) (by rfl) ?_
          try simp only [Act.put, List.setIfInBounds_toArray, List.set_cons_zero, List.set_cons_succ]
          refine wpAnyG_skip (i := 8) (oi := ⟨some 18, _, _, _, _, _⟩) rfl (by kernel_rfl) (by kernel_rfl) (by kernel_rfl) (by rfl) (fun _ _ _ h => h) (by rfl) ?_
          try simp only [Act.put, List.setIfInBounds_toArray, List.set_cons_zero, List.set_cons_succ]
          refine wpAnyG_skip (i := 9) (oi := ⟨some 19, _, _, _, _, _⟩) rfl (by kernel_rfl) (by kernel_rfl) (by kernel_rfl) (by rfl) (fun _ _ _ h => h) (by rfl) ?_
          try simp only [Act.put, List.setIfInBounds_toArray, List.set_cons_zero, List.set_cons_succ]
          refine wpAnyG_skip (i := 10) (oi := ⟨some 20, _, _, _, _, _⟩) rfl (by kernel_rfl) (by kernel_rfl) (by kernel_rfl) (by rfl) (fun _ _ _ h => h) (by rfl) ?_
          try simp only [Act.put, List.setIfInBounds_toArray, List.set_cons_zero, List.set_cons_succ]
          refine wpAnyG_skip (i := 11) (oi := ⟨some 21, _, _, _, _, _⟩) rfl (by kernel_rfl) (by kernel_rfl) (by kernel_rfl) (by rfl) (fun _ _ _ h => h) (by rfl) ?_
          try simp only [Act.put, List.setIfInBounds_toArray, List.set_cons_zero, List.set_cons_succ]
          refine wpAnyG_pure (i := 12) (oi := ⟨some 22, _, _, _, _, _⟩) (v := ?_) rfl (by kernel_rfl) (by kernel_rfl) (by kernel_rfl) (by rfl) (fun _ _ _ h => h) (by rfl) ?_ ?_
          rotate_left
          · intro w
            go_simp
            first | done | with_reducible rfl
          try simp only [Act.put, List.setIfInBounds_toArray, List.set_cons_zero, List.set_cons_succ]
          refine wpAnyG_done (by kernel_rfl) ?_ _
          refine NoPanic.normal ?_
          go_wp2_with fail
          go_ret
          exact ⟨rfl, HW.out⟩
        · have hka2 : k < a.size := by have := HA.out; omega
          have j4 : (k : Int) < a.size := by omega
          obtain ⟨c, d, h1, h2, hcd⟩ : ∃ c d, a.data.toList[k]? = some c ∧ b.data.toList[k]? = some d ∧ c ≠ d := by
            rcases HM2.out with h | h
            · exact absurd (show k = a.size from h) hka
            · exact h
          have x1 := byte_index a k k rfl hka2
          have x2 := byte_index b k k rfl hm1'
          rw [List.getD_eq_getElem?_getD, h1] at x1
          rw [List.getD_eq_getElem?_getD, h2] at x2
          simp only [Option.getD_some] at x1 x2
          have hcd2 : ((c.toNat : Int) == (d.toNat : Int)) = false := by
            rw [beq_eq_false_iff_ne]
            intro e
            exact hcd (UInt8.toNat_inj.1 (by omega))
          have hcd3 : (c.toNat == d.toNat) = false := by
            rw [beq_eq_false_iff_ne]
            intro e
            exact hcd (UInt8.toNat_inj.1 e)
          clear h1 h2 hka hcd
          go_wp2_with fail
          refine wp_region_text [] (fun _ => True) (by kernel_rfl) ?_ (fun hS => ?_)
          · trivial
          refine wpAnyG_pure (i := 0) (oi := ⟨some 10, _, _, _, _, _⟩) (v := ?_) rfl (by kernel_rfl) (by kernel_rfl) (by kernel_rfl) (by rfl) (fun _ _ _ h => h) (by rfl) ?_ ?_
          rotate_left
          · intro w
            go_simp
            first | done | with_reducible rfl
          try simp only [Act.put, List.setIfInBounds_toArray, List.set_cons_zero, List.set_cons_succ]
          refine wpAnyG_pure (i := 1) (oi := ⟨some 11, _, _, _, _, _⟩) (v := ?_) rfl (by kernel_rfl) (by kernel_rfl) (by kernel_rfl) (by rfl) (fun _ _ _ h => h) (by rfl) ?_ ?_
          rotate_left
          · intro w
            go_simp
            first | done | with_reducible rfl
          try simp only [Act.put, List.setIfInBounds_toArray, List.set_cons_zero, List.set_cons_succ]
          refine wpAnyG_pure (i := 2) (oi := ⟨some 12, _, _, _, _, _⟩) (v := ?_) rfl (by kernel_rfl) (by kernel_rfl) (by kernel_rfl) (by rfl) (fun _ _ _ h => h) (by rfl) ?_ ?_
          rotate_left
          · intro w
            go_simp
            first | done | with_reducible rfl
          try simp only [Act.put, List.setIfInBounds_toArray, List.set_cons_zero, List.set_cons_succ]
          refine wpAnyG_pure (i := 3) (oi := ⟨some 13, _, _, _, _, _⟩) (v := ?_) rfl (by kernel_rfl) (by kernel_rfl) (by kernel_rfl) (by rfl) (fun _ _ _ h => h) (by rfl) ?_ ?_
          rotate_left
          · intro w
            go_simp
            first | done | with_reducible rfl
          try simp only [Act.put, List.setIfInBounds_toArray, List.set_cons_zero, List.set_cons_succ]
          refine wpAnyG_pure (i := 4) (oi := ⟨some 14, _, _, _, _, _⟩) (v := ?_) rfl (by kernel_rfl) (by kernel_rfl) (by kernel_rfl) (by rfl) (fun _ _ _ h => h) (by rfl) ?_ ?_
          rotate_left
          · intro w
            go_simp
            first | done | with_reducible rfl
          try simp only [Act.put, List.setIfInBounds_toArray, List.set_cons_zero, List.set_cons_succ]
          refine wpAnyG_pure (i := 5) (oi := ⟨some 15, _, _, _, _, _⟩) (v := ?_) rfl (by kernel_rfl) (by kernel_rfl) (by kernel_rfl) (by rfl) (fun _ _ _ h => h) (by rfl) ?_ ?_
          rotate_left
          · intro w
            go_simp
            first | done | with_reducible rfl
          try simp only [Act.put, List.setIfInBounds_toArray, List.set_cons_zero, List.set_cons_succ]
          refine wpAnyG_pure (i := 6) (oi := ⟨some 16, _, _, _, _, _⟩) (v := ?_) rfl (by kernel_rfl) (by kernel_rfl) (by kernel_rfl) (by rfl) (fun _ _ _ h => h) (by rfl) ?_ ?_
          rotate_left
          · intro w
            go_simp
            first | done | with_reducible rfl
          try simp only [Act.put, List.setIfInBounds_toArray, List.set_cons_zero, List.set_cons_succ]
          refine wpAnyG_pure (i := 7) (oi := ⟨some 17, _, _, _, _, _⟩) (v := ?_) rfl (by kernel_rfl) (by kernel_rfl) (by kernel_rfl) (by rfl) (fun _ _ _ h => h) (by rfl) ?_ ?_
          rotate_left
          · intro w
            go_simp
            first | done | with_reducible rfl
          try simp only [Act.put, List.setIfInBounds_toArray, List.set_cons_zero, List.set_cons_succ]
          refine wpAnyG_pure (i := 8) (oi := ⟨some 18, _, _, _, _, _⟩) (v := ?_) rfl (by kernel_rfl) (by kernel_rfl) (by kernel_rfl) (by rfl) (fun _ _ _ h => h) (by rfl) ?_ ?_
          rotate_left
          · intro w
            go_simp
            first | done | with_reducible rfl
          try simp only [Act.put, List.setIfInBounds_toArray, List.set_cons_zero, List.set_cons_succ]
          refine wpAnyG_pure (i := 9) (oi := ⟨some 19, _, _, _, _, _⟩) (v := ?_) rfl (by kernel_rfl) (by kernel_rfl) (by kernel_rfl) (by rfl) (fun _ _ _ h => h) (by rfl) ?_ ?_
          rotate_left
          · intro w
            go_simp
            first | done | with_reducible rfl
          try simp only [Act.put, List.setIfInBounds_toArray, List.set_cons_zero, List.set_cons_succ]
          refine wpAnyG_pure (i := 10) (oi := ⟨some 20, _, _, _, _, _⟩) (v := ?_) rfl (by kernel_rfl) (by kernel_rfl) (by kernel_rfl) (by rfl) (fun _ _ _ h => h) (by rfl) ?_ ?_
          rotate_left
          · intro w
            go_simp
            first | done | with_reducible rfl
          try simp only [Act.put, List.setIfInBounds_toArray, List.set_cons_zero, List.set_cons_succ]
          refine wpAnyG_pure (i := 11) (oi := ⟨some 21, _, _, _, _, _⟩) (v := ?_) rfl (by kernel_rfl) (by kernel_rfl) (by kernel_rfl) (by rfl) (fun _ _ _ h => h) (by rfl) ?_ ?_
          rotate_left
          · intro w
            go_simp
            first | done | with_reducible rfl
          try simp only [Act.put, List.setIfInBounds_toArray, List.set_cons_zero, List.set_cons_succ]
          refine wpAnyG_pure (i := 12) (oi := ⟨some 22, _, _, _, _, _⟩) (v := ?_) rfl (by kernel_rfl) (by kernel_rfl) (by kernel_rfl) (by rfl) (fun _ _ _ h => h) (by rfl) ?_ ?_
          rotate_left
          · intro w
            go_simp
            first | done | with_reducible rfl
          try simp only [Act.put, List.setIfInBounds_toArray, List.set_cons_zero, List.set_cons_succ]
          refine wpAnyG_done (by kernel_rfl) ?_ _
          refine NoPanic.normal ?_
          go_wp2_with fail
          go_ret
          exact ⟨rfl, HW.out⟩
  · have e0 : betweenV a b = b := if_neg hlt
    rw [e0]
    have hq : Op.bytesLess a.toList b.toList = false := by rw [slt_walk]; simpa using hlt
    clear e0 hlt
    go_enter Tryd.func15, Tryd.ntmps15
    go_wp2_with fail
    go_ret
    exact ⟨rfl, h⟩
set_option maxHeartbeats 1000000 in
theorem xbetween_any (a b : ByteArray) (w : World) (hb : b.size ≤ 1152921504606846976) (h : Own E w L) :
    Calls Tryd.prog 16 #[.string a, .string b] w fun e w' => e = .returned (.string (betweenV a b)) ∧ Own E w' L := by
  by_cases hlt : slt a b = true
  · have e0 : betweenV a b = b.extract 0 (cpl a.data.toList b.data.toList + 1) := if_pos hlt
    rw [e0]
    have hq : Op.bytesLess a.toList b.toList = true := by rw [slt_walk]; exact hlt
    obtain ⟨hm1, -⟩ := cpl_end a.data.toList b.data.toList hlt
    have hlow : ∀ i, i < cpl a.data.toList b.data.toList → slt a (b.extract 0 (i + 1)) = false := fun i hi => by unfold slt; rw [extract_front]; exact cpl_low hi
    have hhigh : slt a (b.extract 0 (cpl a.data.toList b.data.toList + 1)) = true := by unfold slt; rw [extract_front]; exact cpl_high _ _ hlt
    obtain ⟨m, hm⟩ : ∃ m, m = cpl a.data.toList b.data.toList := ⟨_, rfl⟩
    rw [← hm] at hm1 hlow hhigh ⊢
    have hm1' : m < b.size := hm1
    have HL := Lib.hid hlow
    have HH := Lib.hid hhigh
    clear hm hlow hhigh hm1 e0 hlt
    go_enter Tryd.func16, Tryd.ntmps16
    go_wp2_with fail
    go_loopw [5] (fun i wr => ∃ k : Nat, k ≤ m ∧ i = .int .i64 k ∧ Own E wr L) (fun i _ => m - (intOf i).toNat)
    case atStart => exact ⟨0, by omega, rfl, h⟩
    case round =>
      obtain ⟨k, hk, rfl, hw⟩ := hrel
      clear h
      have HW := Lib.hid hw
      clear hw
      have j0 : (k : Int) < b.size := by omega
      have j1 : (0 : Int) ≤ (k : Int) + 1 := by omega
      have j2 : (k : Int) + 1 ≤ b.size := by omega
      have j3 : ((k : Int) + 1).toNat = k + 1 := by omega
      by_cases hkm : k < m
      · have q := HL.out k hkm
        obtain ⟨T, hT⟩ : ∃ T, T = b.extract 0 (k + 1) := ⟨_, rfl⟩
        have hor : (Op.bytesLess T.toList a.toList || (T.toList == a.toList)) = true := by
          rw [← hT] at q
          rcases slt_tri a T with ⟨p, -⟩ | ⟨-, -, -, -, p1, -, p2⟩ | ⟨-, -, -, -, p1, -⟩
          · rw [q] at p; cases p
          · rw [p1, p2]; rfl
          · rw [p1]; rfl
        rw [hT] at hor
        clear q hT
        go_wp2_with fail
        go_roundw
        case rel => exact ⟨k + 1, by omega, by go_num, HW.out⟩
        case measure => simp [intOf]; omega
      · obtain rfl : k = m := by omega
        have q := HH.out
        obtain ⟨T, hT⟩ : ∃ T, T = b.extract 0 (k + 1) := ⟨_, rfl⟩
        have hor : (Op.bytesLess T.toList a.toList || (T.toList == a.toList)) = false := by
          rw [← hT] at q
          rcases slt_tri a T with ⟨-, -, -, -, p1, -, p2⟩ | ⟨p, -⟩ | ⟨p, -⟩
          · rw [p1, p2]; rfl
          · rw [q] at p; cases p
          · rw [q] at p; cases p
        rw [hT] at hor
        clear q hkm hT
        go_wp2_with fail
        go_ret
        exact ⟨rfl, HW.out⟩
  · have e0 : betweenV a b = b := if_neg hlt
    rw [e0]
    have hq : Op.bytesLess a.toList b.toList = false := by rw [slt_walk]; simpa using hlt
    clear e0 hlt
    go_enter Tryd.func16, Tryd.ntmps16
    go_wp2_with fail
    go_loopw [5] (fun i wr => i = .int .i64 0 ∧ Own E wr L) (fun i _ => 0)
    case atStart => exact ⟨rfl, h⟩
    case round =>
      obtain ⟨rfl, hw⟩ := hrel
      clear h
      by_cases h0 : (0 : Int) < b.size
      · go_wp2_with fail
        go_ret
        exact ⟨rfl, hw⟩
      · go_wp2_with fail
        go_ret
        exact ⟨rfl, hw⟩
end
end Go.Proofs.YtbclmmneiphcaaaDoor
