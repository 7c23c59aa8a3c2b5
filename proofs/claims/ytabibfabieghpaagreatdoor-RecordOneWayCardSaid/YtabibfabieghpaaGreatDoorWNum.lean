/- codec.Writer.Num, where the number fits. -/
import Derived.Test.YtabibfabieghpaaGreatDoorWriter
namespace Go.Proofs.YtabibfabieghpaaGreatDoor
open Go.RowKit
/-- A number by so many bytes, the highest first. -/
def byN : Nat → Nat → List UInt8
  | 0, _ => []
  | k + 1, n => UInt8.ofNat (n / 256 ^ k) :: byN k n
theorem byN_len (k n : Nat) : (byN k n).length = k := by
  induction k with
  | zero => rfl
  | succ k ih => simp [byN, ih]
section
variable {E : World} {L : List Hp}
set_option maxRecDepth 20000 in
set_option maxHeartbeats 2000000 in
theorem wnum_any (b : Nat) (W : Value) (l : List UInt8) (size n : Nat) (w : World) (h1s : 1 ≤ size) (h8s : size ≤ 8) (hn : n < 256 ^ size) (hn2 : n < 9223372036854775808) (hl : l.length + 8 ≤ 140737488355328) (h : Own E w (Hp.writer b W l :: L)) :
    Calls Tryz.prog 120 #[.pointer (some ⟨b, 0, none⟩), .int .i64 size, .int .i64 n] w fun e w' => e = .returned (.tuple #[]) ∧ Own E w' (Hp.writer b W (l ++ byN size n) :: L) := by
  have s1 : ¬ (size : Int) < 1 := by omega
  have s2 : ¬ (8 : Int) < size := by omega
  have n0 : ¬ (n : Int) < 0 := by omega
  have HN2 := Lib.hid hn2
  have HL := Lib.hid hl
  have H := Lib.hid h
  have hpow : (256 : Nat) ^ size = 2 ^ (8 * size) := by rw [show (256 : Nat) = 2 ^ 8 by rfl, ← Nat.pow_mul]
  have hdiv : n / 2 ^ (8 * size) = 0 := Nat.div_eq_of_lt (by rw [← hpow]; exact hn)
  have HD := Lib.hid hdiv
  clear hn hn2 hl h hpow hdiv
  have hdi : (n : Int) / 2 ^ (8 * size) = 0 := by
    have e1 : (n : Int) / 2 ^ (8 * size) = ((n / 2 ^ (8 * size) : Nat) : Int) := by rw [Int.natCast_ediv, Int.natCast_pow]; rfl
    rw [e1, HD.out]; rfl
  by_cases h8 : size < 8
  · have s3 : (size : Int) < 8 := by omega
    go_enter Tryz.func120, Tryz.ntmps120
    go_wp2_with fail
    go_loopw [6] (fun i wr => ∃ (k : Nat) (o : List UInt8), k ≤ size ∧ i = .int .i64 ((k : Int) - 1) ∧ o ++ byN k n = byN size n ∧ Own E wr (Hp.writer b W (l ++ o) :: L)) (fun i _ => (intOf i + 1).toNat)
    case atStart => exact ⟨size, [], by omega, rfl, rfl, by rw [List.append_nil]; exact H.out⟩
    case round =>
      obtain ⟨k, o, hk, rfl, ho, hw⟩ := hrel
      by_cases hk0 : 0 < k
      · obtain ⟨p, rfl⟩ : ∃ p, k = p + 1 := ⟨k - 1, by omega⟩
        have hpi : ((p + 1 : Nat) : Int) - 1 = (p : Int) := by omega
        rw [hpi]
        obtain ⟨v, h1⟩ := hw.ofWriter
        obtain ⟨A, c, rfl⟩ := h1.f1.rowSlice
        obtain ⟨m, hm⟩ : ∃ m, m = (l ++ o).length := ⟨_, rfl⟩
        have hmb : m + 1 ≤ 140737488355328 := by
          have e := congrArg List.length ho
          rw [List.length_append, byN_len, byN_len] at e
          have := HL.out
          rw [hm, List.length_append]; omega
        rw [← hm] at h1
        obtain ⟨y, hy⟩ : ∃ y, y = UInt8.ofNat (n / 256 ^ p) := ⟨_, rfl⟩
        have hpow : (256 : Nat) ^ p = 2 ^ (8 * p) := by rw [show (256 : Nat) = 2 ^ 8 by rfl, ← Nat.pow_mul]
        have hV : (n : Int) / 2 ^ (8 * p) % 256 = (y.toNat : Int) := by
          have e1 : (n : Int) / 2 ^ (8 * p) = ((n / 2 ^ (8 * p) : Nat) : Int) := by rw [Int.natCast_ediv, Int.natCast_pow]; rfl
          have e2 : y.toNat = n / 2 ^ (8 * p) % 2 ^ 8 := by rw [hy, hpow]; exact UInt8.toNat_ofNat'
          rw [e1, e2]
          omega
        have ho2 : (o ++ [y]) ++ byN p n = byN size n := by
          rw [← ho, hy]
          simp [byN]
        have c0 : wr.cell? ⟨b, 0, none⟩ = some (.slice A m c) := h1.cell 0
        obtain ⟨v', w5, hap, h2⟩ := add_u8 (y.toNat : Int) y rfl hmb h1.f1.drew
        have hap2 : (Builtin.append_ #[BT, BT] BT #[.slice A m c, .slice (some ⟨wr.heap.size, 0, none⟩) 1 1]).run Tryz.prog (wr.alloc (.cells #[.int .u8 (y.toNat : Int)] U8)).drew = .ok v' w5 := hap
        obtain ⟨A', c', rfl⟩ := h2.rowSlice
        have cA : (wr.alloc (.cells #[.int .u8 (y.toNat : Int)] U8)).drew.cell? ⟨b, 0, none⟩ = some (.slice A m c) := (h1.alloc (.cells #[.int .u8 (y.toNat : Int)] U8)).f1.cell 0
        have d0 : w5.cell? ⟨b, 0, none⟩ = some (.slice A m c) := h2.f1.cell 0
        have f0 := h2.f1.frozen 0
        have h3 : Own E (w5.setCell ⟨b, 0, none⟩ (.slice A' (m + 1) c')) (Hp.writer b W (l ++ (o ++ [y])) :: L) := by
          refine Own.toWriter (v := .slice A' (m + 1) c') ?_
          have e : (l ++ (o ++ [y])).length = m + 1 := by rw [← List.append_assoc, List.length_append, ← hm]; rfl
          rw [e, ← List.append_assoc]
          exact h2.f1.set 0 _
        have H3 := Lib.hid h3
        have HO2 := Lib.hid ho2
        have p8 : (p : Int) ≤ 7 := by omega
        have hwr : IntKind.u8.wrap ((n : Int) / 2 ^ (8 * p)) = (y.toNat : Int) := by rw [IntKind.wrap_u8]; exact hV
        have ht8 : (8 * (p : Int)).toNat = 8 * p := by omega
        have hw8 : IntKind.i64.wrap (8 * (p : Int)) = 8 * (p : Int) := IntWalk.i64_in _ (by omega)
        have p0 : (0 : Int) ≤ p := by omega
        clear hap h1 h2 h3 ho ho2 hw hV hy hpow hpi hm
        go_wp2_with fail
        refine wp_region_text [4] (fun w' => w'.cell? ⟨b, 0, none⟩ = some (.slice A m c)) (by kernel_rfl) ?_ (fun hS => ?_)
        · exact c0
        refine wpAnyG_pure (i := 0) (oi := ⟨some 13, _, _, _, _, _⟩) (v := ?_) rfl (by kernel_rfl) (by kernel_rfl) (by kernel_rfl) (by rfl) (fun _ _ _ h => h) (by rfl) ?_ ?_
        rotate_left
        · intro w
          go_simp
          first | done | with_reducible rfl
        try simp only [Act.put, List.setIfInBounds_toArray, List.set_cons_zero, List.set_cons_succ]
        refine wpAnyG_pure (i := 1) (oi := ⟨some 14, _, _, _, _, _⟩) (v := ?_) rfl (by kernel_rfl) (by kernel_rfl) (by kernel_rfl) (by rfl) (fun _ _ _ h => h) (by rfl) ?_ ?_
        rotate_left
        · intro w
          go_simp
          first | done | with_reducible rfl
        try simp only [Act.put, List.setIfInBounds_toArray, List.set_cons_zero, List.set_cons_succ]
        refine wpAnyG_pure (i := 2) (oi := ⟨some 15, _, _, _, _, _⟩) (v := ?_) rfl (by kernel_rfl) (by kernel_rfl) (by kernel_rfl) (by rfl) (fun _ _ _ h => h) (by rfl) ?_ ?_
        rotate_left
        · intro w
          go_simp
          first | done | with_reducible rfl
        try simp only [Act.put, List.setIfInBounds_toArray, List.set_cons_zero, List.set_cons_succ]
        refine wpAnyG_pure (i := 3) (oi := ⟨some 16, _, _, _, _, _⟩) (v := ?_) rfl (by kernel_rfl) (by kernel_rfl) (by kernel_rfl) (by rfl) (fun _ _ _ h => h) (by rfl) ?_ ?_
        rotate_left
        · intro w
          go_simp
          first | done | with_reducible rfl
        try simp only [Act.put, List.setIfInBounds_toArray, List.set_cons_zero, List.set_cons_succ]
        refine wpAnyG_load (i := 4) (oi := ⟨some 17, _, _, _, _, _⟩) (v := ?_) rfl (by kernel_rfl) (by kernel_rfl) (by kernel_rfl) (by rfl) (fun _ _ _ h => h) (by rfl) ?_ (by assumption) ?_
        rotate_left
        · intro w hS
          try dsimp only at hS
          go_simp
          first | done | with_reducible rfl
        try simp only [Act.put, List.setIfInBounds_toArray, List.set_cons_zero, List.set_cons_succ]
        refine wpAnyG_pure (i := 5) (oi := ⟨some 18, _, _, _, _, _⟩) (v := ?_) rfl (by kernel_rfl) (by kernel_rfl) (by kernel_rfl) (by rfl) (fun _ _ _ h => h) (by rfl) ?_ ?_
        rotate_left
        · intro w
          go_simp
          first | done | with_reducible rfl
        try simp only [Act.put, List.setIfInBounds_toArray, List.set_cons_zero, List.set_cons_succ]
        refine wpAnyG_pure (i := 6) (oi := ⟨some 19, _, _, _, _, _⟩) (v := ?_) rfl (by kernel_rfl) (by kernel_rfl) (by kernel_rfl) (by rfl) (fun _ _ _ h => h) (by rfl) ?_ ?_
        rotate_left
        · intro w
          go_simp
          first | done | with_reducible rfl
        try simp only [Act.put, List.setIfInBounds_toArray, List.set_cons_zero, List.set_cons_succ]
        refine wpAnyG_pure (i := 7) (oi := ⟨some 20, _, _, _, _, _⟩) (v := ?_) rfl (by kernel_rfl) (by kernel_rfl) (by kernel_rfl) (by rfl) (fun _ _ _ h => h) (by rfl) ?_ ?_
        rotate_left
        · intro w
          go_simp
          first | done | with_reducible rfl
        try simp only [Act.put, List.setIfInBounds_toArray, List.set_cons_zero, List.set_cons_succ]
        refine wpAnyG_pure (i := 8) (oi := ⟨some 21, _, _, _, _, _⟩) (v := ?_) rfl (by kernel_rfl) (by kernel_rfl) (by kernel_rfl) (by rfl) (fun _ _ _ h => h) (by rfl) ?_ ?_
        rotate_left
        · intro w
          go_simp
          first | done | with_reducible rfl
        try simp only [Act.put, List.setIfInBounds_toArray, List.set_cons_zero, List.set_cons_succ]
        refine wpAnyG_pure (i := 9) (oi := ⟨some 22, _, _, _, _, _⟩) (v := ?_) rfl (by kernel_rfl) (by kernel_rfl) (by kernel_rfl) (by rfl) (fun _ _ _ h => h) (by rfl) ?_ ?_
        rotate_left
        · intro w
          go_simp
          first | done | with_reducible rfl
        try simp only [Act.put, List.setIfInBounds_toArray, List.set_cons_zero, List.set_cons_succ]
        refine wpAnyG_keep (i := 10) (oi := ⟨some 23, _, _, _, _, _⟩) (by kernel_rfl) rfl (fun K hK => ?_)
        rw [if_pos (by rfl)]
        go_simp
        refine hK.out _ _ ?_ (fun hS => ?_)
        · exact cA
        clear hK K
        try simp only [Act.put, List.setIfInBounds_toArray, List.set_cons_zero, List.set_cons_succ]
        refine wpAnyG_keep (i := 11) (oi := ⟨some 24, _, _, _, _, _⟩) (by kernel_rfl) rfl (fun K hK => ?_)
        rw [if_pos (by rfl)]
        refine wp_append_run hap2 rfl rfl rfl ?_
        refine hK.out _ _ ?_ (fun hS => ?_)
        · exact d0
        clear hK K
        try simp only [Act.put, List.setIfInBounds_toArray, List.set_cons_zero, List.set_cons_succ]
        refine wpAnyG_pure (i := 12) (oi := ⟨some 25, _, _, _, _, _⟩) (v := ?_) rfl (by kernel_rfl) (by kernel_rfl) (by kernel_rfl) (by rfl) (fun _ _ _ h => h) (by rfl) ?_ ?_
        rotate_left
        · intro w
          go_simp
          first | done | with_reducible rfl
        try simp only [Act.put, List.setIfInBounds_toArray, List.set_cons_zero, List.set_cons_succ]
        refine wpAnyG_pure (i := 13) (oi := ⟨some 26, _, _, _, _, _⟩) (v := ?_) rfl (by kernel_rfl) (by kernel_rfl) (by kernel_rfl) (by rfl) (fun _ _ _ h => h) (by rfl) ?_ ?_
        rotate_left
        · intro w
          go_simp
          first | done | with_reducible rfl
        try simp only [Act.put, List.setIfInBounds_toArray, List.set_cons_zero, List.set_cons_succ]
        refine wpAnyG_break (i := 14) (oi := ⟨none, _, _, _, _, _⟩) (by kernel_rfl) rfl (by kernel_rfl) (fun K hK => ?_)
        rw [if_pos (by rfl)]
        go_simp
        refine hK.out _ _ ?_
        clear hK K
        try simp only [Act.put]
        refine wpAnyG_done (by kernel_rfl) ?_ _
        refine NoPanic.normal ?_
        clear hw8 hwr ht8
        go_wp2_with fail
        go_roundw
        case rel => exact ⟨p, o ++ [y], by omega, by go_num, HO2.out, H3.out⟩
        case measure => simp [intOf]; try omega
      · obtain rfl : k = 0 := by omega
        have hoe : o = byN size n := by rw [← ho]; simp [byN]
        subst hoe
        have HW := Lib.hid hw
        clear hw ho
        go_wp2_with fail
        go_end0
        exact ⟨rfl, HW.out⟩
  · have s3 : ¬ (size : Int) < 8 := by omega
    clear hdi
    go_enter Tryz.func120, Tryz.ntmps120
    go_wp2_with fail
    go_loopw [6] (fun i wr => ∃ (k : Nat) (o : List UInt8), k ≤ size ∧ i = .int .i64 ((k : Int) - 1) ∧ o ++ byN k n = byN size n ∧ Own E wr (Hp.writer b W (l ++ o) :: L)) (fun i _ => (intOf i + 1).toNat)
    case atStart => exact ⟨size, [], by omega, rfl, rfl, by rw [List.append_nil]; exact H.out⟩
    case round =>
      obtain ⟨k, o, hk, rfl, ho, hw⟩ := hrel
      by_cases hk0 : 0 < k
      · obtain ⟨p, rfl⟩ : ∃ p, k = p + 1 := ⟨k - 1, by omega⟩
        have hpi : ((p + 1 : Nat) : Int) - 1 = (p : Int) := by omega
        rw [hpi]
        obtain ⟨v, h1⟩ := hw.ofWriter
        obtain ⟨A, c, rfl⟩ := h1.f1.rowSlice
        obtain ⟨m, hm⟩ : ∃ m, m = (l ++ o).length := ⟨_, rfl⟩
        have hmb : m + 1 ≤ 140737488355328 := by
          have e := congrArg List.length ho
          rw [List.length_append, byN_len, byN_len] at e
          have := HL.out
          rw [hm, List.length_append]; omega
        rw [← hm] at h1
        obtain ⟨y, hy⟩ : ∃ y, y = UInt8.ofNat (n / 256 ^ p) := ⟨_, rfl⟩
        have hpow : (256 : Nat) ^ p = 2 ^ (8 * p) := by rw [show (256 : Nat) = 2 ^ 8 by rfl, ← Nat.pow_mul]
        have hV : (n : Int) / 2 ^ (8 * p) % 256 = (y.toNat : Int) := by
          have e1 : (n : Int) / 2 ^ (8 * p) = ((n / 2 ^ (8 * p) : Nat) : Int) := by rw [Int.natCast_ediv, Int.natCast_pow]; rfl
          have e2 : y.toNat = n / 2 ^ (8 * p) % 2 ^ 8 := by rw [hy, hpow]; exact UInt8.toNat_ofNat'
          rw [e1, e2]
          omega
        have ho2 : (o ++ [y]) ++ byN p n = byN size n := by
          rw [← ho, hy]
          simp [byN]
        have c0 : wr.cell? ⟨b, 0, none⟩ = some (.slice A m c) := h1.cell 0
        obtain ⟨v', w5, hap, h2⟩ := add_u8 (y.toNat : Int) y rfl hmb h1.f1.drew
        have hap2 : (Builtin.append_ #[BT, BT] BT #[.slice A m c, .slice (some ⟨wr.heap.size, 0, none⟩) 1 1]).run Tryz.prog (wr.alloc (.cells #[.int .u8 (y.toNat : Int)] U8)).drew = .ok v' w5 := hap
        obtain ⟨A', c', rfl⟩ := h2.rowSlice
        have cA : (wr.alloc (.cells #[.int .u8 (y.toNat : Int)] U8)).drew.cell? ⟨b, 0, none⟩ = some (.slice A m c) := (h1.alloc (.cells #[.int .u8 (y.toNat : Int)] U8)).f1.cell 0
        have d0 : w5.cell? ⟨b, 0, none⟩ = some (.slice A m c) := h2.f1.cell 0
        have f0 := h2.f1.frozen 0
        have h3 : Own E (w5.setCell ⟨b, 0, none⟩ (.slice A' (m + 1) c')) (Hp.writer b W (l ++ (o ++ [y])) :: L) := by
          refine Own.toWriter (v := .slice A' (m + 1) c') ?_
          have e : (l ++ (o ++ [y])).length = m + 1 := by rw [← List.append_assoc, List.length_append, ← hm]; rfl
          rw [e, ← List.append_assoc]
          exact h2.f1.set 0 _
        have H3 := Lib.hid h3
        have HO2 := Lib.hid ho2
        have p8 : (p : Int) ≤ 7 := by omega
        have hwr : IntKind.u8.wrap ((n : Int) / 2 ^ (8 * p)) = (y.toNat : Int) := by rw [IntKind.wrap_u8]; exact hV
        have ht8 : (8 * (p : Int)).toNat = 8 * p := by omega
        have hw8 : IntKind.i64.wrap (8 * (p : Int)) = 8 * (p : Int) := IntWalk.i64_in _ (by omega)
        have p0 : (0 : Int) ≤ p := by omega
        clear hap h1 h2 h3 ho ho2 hw hV hy hpow hpi hm
        go_wp2_with fail
        refine wp_region_text [4] (fun w' => w'.cell? ⟨b, 0, none⟩ = some (.slice A m c)) (by kernel_rfl) ?_ (fun hS => ?_)
        · exact c0
        refine wpAnyG_pure (i := 0) (oi := ⟨some 13, _, _, _, _, _⟩) (v := ?_) rfl (by kernel_rfl) (by kernel_rfl) (by kernel_rfl) (by rfl) (fun _ _ _ h => h) (by rfl) ?_ ?_
        rotate_left
        · intro w
          go_simp
          first | done | with_reducible rfl
        try simp only [Act.put, List.setIfInBounds_toArray, List.set_cons_zero, List.set_cons_succ]
        refine wpAnyG_pure (i := 1) (oi := ⟨some 14, _, _, _, _, _⟩) (v := ?_) rfl (by kernel_rfl) (by kernel_rfl) (by kernel_rfl) (by rfl) (fun _ _ _ h => h) (by rfl) ?_ ?_
        rotate_left
        · intro w
          go_simp
          first | done | with_reducible rfl
        try simp only [Act.put, List.setIfInBounds_toArray, List.set_cons_zero, List.set_cons_succ]
        refine wpAnyG_pure (i := 2) (oi := ⟨some 15, _, _, _, _, _⟩) (v := ?_) rfl (by kernel_rfl) (by kernel_rfl) (by kernel_rfl) (by rfl) (fun _ _ _ h => h) (by rfl) ?_ ?_
        rotate_left
        · intro w
          go_simp
          first | done | with_reducible rfl
        try simp only [Act.put, List.setIfInBounds_toArray, List.set_cons_zero, List.set_cons_succ]
        refine wpAnyG_pure (i := 3) (oi := ⟨some 16, _, _, _, _, _⟩) (v := ?_) rfl (by kernel_rfl) (by kernel_rfl) (by kernel_rfl) (by rfl) (fun _ _ _ h => h) (by rfl) ?_ ?_
        rotate_left
        · intro w
          go_simp
          first | done | with_reducible rfl
        try simp only [Act.put, List.setIfInBounds_toArray, List.set_cons_zero, List.set_cons_succ]
        refine wpAnyG_load (i := 4) (oi := ⟨some 17, _, _, _, _, _⟩) (v := ?_) rfl (by kernel_rfl) (by kernel_rfl) (by kernel_rfl) (by rfl) (fun _ _ _ h => h) (by rfl) ?_ (by assumption) ?_
        rotate_left
        · intro w hS
          try dsimp only at hS
          go_simp
          first | done | with_reducible rfl
        try simp only [Act.put, List.setIfInBounds_toArray, List.set_cons_zero, List.set_cons_succ]
        refine wpAnyG_pure (i := 5) (oi := ⟨some 18, _, _, _, _, _⟩) (v := ?_) rfl (by kernel_rfl) (by kernel_rfl) (by kernel_rfl) (by rfl) (fun _ _ _ h => h) (by rfl) ?_ ?_
        rotate_left
        · intro w
          go_simp
          first | done | with_reducible rfl
        try simp only [Act.put, List.setIfInBounds_toArray, List.set_cons_zero, List.set_cons_succ]
        refine wpAnyG_pure (i := 6) (oi := ⟨some 19, _, _, _, _, _⟩) (v := ?_) rfl (by kernel_rfl) (by kernel_rfl) (by kernel_rfl) (by rfl) (fun _ _ _ h => h) (by rfl) ?_ ?_
        rotate_left
        · intro w
          go_simp
          first | done | with_reducible rfl
        try simp only [Act.put, List.setIfInBounds_toArray, List.set_cons_zero, List.set_cons_succ]
        refine wpAnyG_pure (i := 7) (oi := ⟨some 20, _, _, _, _, _⟩) (v := ?_) rfl (by kernel_rfl) (by kernel_rfl) (by kernel_rfl) (by rfl) (fun _ _ _ h => h) (by rfl) ?_ ?_
        rotate_left
        · intro w
          go_simp
          first | done | with_reducible rfl
        try simp only [Act.put, List.setIfInBounds_toArray, List.set_cons_zero, List.set_cons_succ]
        refine wpAnyG_pure (i := 8) (oi := ⟨some 21, _, _, _, _, _⟩) (v := ?_) rfl (by kernel_rfl) (by kernel_rfl) (by kernel_rfl) (by rfl) (fun _ _ _ h => h) (by rfl) ?_ ?_
        rotate_left
        · intro w
          go_simp
          first | done | with_reducible rfl
        try simp only [Act.put, List.setIfInBounds_toArray, List.set_cons_zero, List.set_cons_succ]
        refine wpAnyG_pure (i := 9) (oi := ⟨some 22, _, _, _, _, _⟩) (v := ?_) rfl (by kernel_rfl) (by kernel_rfl) (by kernel_rfl) (by rfl) (fun _ _ _ h => h) (by rfl) ?_ ?_
        rotate_left
        · intro w
          go_simp
          first | done | with_reducible rfl
        try simp only [Act.put, List.setIfInBounds_toArray, List.set_cons_zero, List.set_cons_succ]
        refine wpAnyG_keep (i := 10) (oi := ⟨some 23, _, _, _, _, _⟩) (by kernel_rfl) rfl (fun K hK => ?_)
        rw [if_pos (by rfl)]
        go_simp
        refine hK.out _ _ ?_ (fun hS => ?_)
        · exact cA
        clear hK K
        try simp only [Act.put, List.setIfInBounds_toArray, List.set_cons_zero, List.set_cons_succ]
        refine wpAnyG_keep (i := 11) (oi := ⟨some 24, _, _, _, _, _⟩) (by kernel_rfl) rfl (fun K hK => ?_)
        rw [if_pos (by rfl)]
        refine wp_append_run hap2 rfl rfl rfl ?_
        refine hK.out _ _ ?_ (fun hS => ?_)
        · exact d0
        clear hK K
        try simp only [Act.put, List.setIfInBounds_toArray, List.set_cons_zero, List.set_cons_succ]
        refine wpAnyG_pure (i := 12) (oi := ⟨some 25, _, _, _, _, _⟩) (v := ?_) rfl (by kernel_rfl) (by kernel_rfl) (by kernel_rfl) (by rfl) (fun _ _ _ h => h) (by rfl) ?_ ?_
        rotate_left
        · intro w
          go_simp
          first | done | with_reducible rfl
        try simp only [Act.put, List.setIfInBounds_toArray, List.set_cons_zero, List.set_cons_succ]
        refine wpAnyG_pure (i := 13) (oi := ⟨some 26, _, _, _, _, _⟩) (v := ?_) rfl (by kernel_rfl) (by kernel_rfl) (by kernel_rfl) (by rfl) (fun _ _ _ h => h) (by rfl) ?_ ?_
        rotate_left
        · intro w
          go_simp
          first | done | with_reducible rfl
        try simp only [Act.put, List.setIfInBounds_toArray, List.set_cons_zero, List.set_cons_succ]
        refine wpAnyG_break (i := 14) (oi := ⟨none, _, _, _, _, _⟩) (by kernel_rfl) rfl (by kernel_rfl) (fun K hK => ?_)
        rw [if_pos (by rfl)]
        go_simp
        refine hK.out _ _ ?_
        clear hK K
        try simp only [Act.put]
        refine wpAnyG_done (by kernel_rfl) ?_ _
        refine NoPanic.normal ?_
        clear hw8 hwr ht8
        go_wp2_with fail
        go_roundw
        case rel => exact ⟨p, o ++ [y], by omega, by go_num, HO2.out, H3.out⟩
        case measure => simp [intOf]; try omega
      · obtain rfl : k = 0 := by omega
        have hoe : o = byN size n := by rw [← ho]; simp [byN]
        subst hoe
        have HW := Lib.hid hw
        clear hw ho
        go_wp2_with fail
        go_end0
        exact ⟨rfl, HW.out⟩
end
end Go.Proofs.YtabibfabieghpaaGreatDoor
