/- latchkeyref01.turn at the counts that occur. -/
import Derived.Test.YtilcilbmbhbakaaDoorWord64
import Derived.Test.YtilcilbmbhbakaaDoorTurn
import Derived.Deep.QuietTactic
import Derived.BigQuiet
namespace Go.Proofs.YtilcilbmbhbakaaDoor
open Go.RowKit
theorem refrot_key (x : BitVec 32) (n : Nat) (A B : Int) (h2 : 2 ≤ n) (h32 : n < 32) (hA : A = ((2 ^ n : Nat) : Int)) (hB : B = ((2 ^ (32 - n) : Nat) : Int)) :
    bits .and .i64 (bits .or .i64 (tn x / A) (tn x * B)) 4294967295 = tn (rotr x n) := by
  have hx := x.isLt
  have e1 : tn x / A = ((x.toNat / 2 ^ n : Nat) : Int) := by rw [hA]; simp [tn]
  have e2 : tn x * B = ((x.toNat * 2 ^ (32 - n) : Nat) : Int) := by rw [hB]; simp [tn]
  have hp : 2 ^ (32 - n) ≤ 2 ^ 30 := Nat.pow_le_pow_right (by omega) (by omega)
  have hb : x.toNat * 2 ^ (32 - n) < 4611686018427387904 := by
    have := Nat.mul_lt_mul_of_lt_of_le hx hp (by omega)
    omega
  have ha : x.toNat / 2 ^ n < 4294967296 := Nat.lt_of_le_of_lt (Nat.div_le_self _ _) hx
  have hor : x.toNat / 2 ^ n ||| x.toNat * 2 ^ (32 - n) < 2 ^ 62 := Nat.or_lt_two_pow (by omega) (by omega)
  have e3 : (4294967295 : Int) = ((4294967295 : Nat) : Int) := rfl
  rw [e1, e2, i64_or_nat _ _ (by omega) (by omega), e3, i64_and_nat _ _ (by omega) (by omega)]
  unfold tn rotr
  have e4 : (4294967295 : Nat) = 2 ^ 32 - 1 := rfl
  rw [e4, Nat.and_two_pow_sub_one_eq_mod, Nat.or_mod_two_pow, BitVec.toNat_or, BitVec.toNat_shiftLeft, BitVec.toNat_ushiftRight, Nat.shiftLeft_eq, Nat.shiftRight_eq_div_pow, Nat.mod_eq_of_lt (a := x.toNat / 2 ^ n) (by omega), Nat.or_comm]
namespace RTurn
theorem at2 (x : BitVec 32) (w : World) : Calls Tryd.prog 67 #[V64 x, .int .i64 2] w fun e w' => e = .returned (V64 (rotr x 2)) ∧ ∃ q, w' = w.drewN q := by
  have k2 := refrot_key x 2 4 1073741824 (by omega) (by omega) rfl rfl
  have hb := tn_bd x
  obtain ⟨hb0, hb1⟩ := hb
  go_enter Tryd.func67, Tryd.ntmps67
  go_wp2_with fail
  go_quiet (fail)
  go_wp2_with fail
  go_ret
  exact ⟨rfl, _, rfl⟩
theorem at6 (x : BitVec 32) (w : World) : Calls Tryd.prog 67 #[V64 x, .int .i64 6] w fun e w' => e = .returned (V64 (rotr x 6)) ∧ ∃ q, w' = w.drewN q := by
  have k2 := refrot_key x 6 64 67108864 (by omega) (by omega) rfl rfl
  have hb := tn_bd x
  obtain ⟨hb0, hb1⟩ := hb
  go_enter Tryd.func67, Tryd.ntmps67
  go_wp2_with fail
  go_quiet (fail)
  go_wp2_with fail
  go_ret
  exact ⟨rfl, _, rfl⟩
theorem at7 (x : BitVec 32) (w : World) : Calls Tryd.prog 67 #[V64 x, .int .i64 7] w fun e w' => e = .returned (V64 (rotr x 7)) ∧ ∃ q, w' = w.drewN q := by
  have k2 := refrot_key x 7 128 33554432 (by omega) (by omega) rfl rfl
  have hb := tn_bd x
  obtain ⟨hb0, hb1⟩ := hb
  go_enter Tryd.func67, Tryd.ntmps67
  go_wp2_with fail
  go_quiet (fail)
  go_wp2_with fail
  go_ret
  exact ⟨rfl, _, rfl⟩
theorem at11 (x : BitVec 32) (w : World) : Calls Tryd.prog 67 #[V64 x, .int .i64 11] w fun e w' => e = .returned (V64 (rotr x 11)) ∧ ∃ q, w' = w.drewN q := by
  have k2 := refrot_key x 11 2048 2097152 (by omega) (by omega) rfl rfl
  have hb := tn_bd x
  obtain ⟨hb0, hb1⟩ := hb
  go_enter Tryd.func67, Tryd.ntmps67
  go_wp2_with fail
  go_quiet (fail)
  go_wp2_with fail
  go_ret
  exact ⟨rfl, _, rfl⟩
theorem at13 (x : BitVec 32) (w : World) : Calls Tryd.prog 67 #[V64 x, .int .i64 13] w fun e w' => e = .returned (V64 (rotr x 13)) ∧ ∃ q, w' = w.drewN q := by
  have k2 := refrot_key x 13 8192 524288 (by omega) (by omega) rfl rfl
  have hb := tn_bd x
  obtain ⟨hb0, hb1⟩ := hb
  go_enter Tryd.func67, Tryd.ntmps67
  go_wp2_with fail
  go_quiet (fail)
  go_wp2_with fail
  go_ret
  exact ⟨rfl, _, rfl⟩
theorem at17 (x : BitVec 32) (w : World) : Calls Tryd.prog 67 #[V64 x, .int .i64 17] w fun e w' => e = .returned (V64 (rotr x 17)) ∧ ∃ q, w' = w.drewN q := by
  have k2 := refrot_key x 17 131072 32768 (by omega) (by omega) rfl rfl
  have hb := tn_bd x
  obtain ⟨hb0, hb1⟩ := hb
  go_enter Tryd.func67, Tryd.ntmps67
  go_wp2_with fail
  go_quiet (fail)
  go_wp2_with fail
  go_ret
  exact ⟨rfl, _, rfl⟩
theorem at18 (x : BitVec 32) (w : World) : Calls Tryd.prog 67 #[V64 x, .int .i64 18] w fun e w' => e = .returned (V64 (rotr x 18)) ∧ ∃ q, w' = w.drewN q := by
  have k2 := refrot_key x 18 262144 16384 (by omega) (by omega) rfl rfl
  have hb := tn_bd x
  obtain ⟨hb0, hb1⟩ := hb
  go_enter Tryd.func67, Tryd.ntmps67
  go_wp2_with fail
  go_quiet (fail)
  go_wp2_with fail
  go_ret
  exact ⟨rfl, _, rfl⟩
theorem at19 (x : BitVec 32) (w : World) : Calls Tryd.prog 67 #[V64 x, .int .i64 19] w fun e w' => e = .returned (V64 (rotr x 19)) ∧ ∃ q, w' = w.drewN q := by
  have k2 := refrot_key x 19 524288 8192 (by omega) (by omega) rfl rfl
  have hb := tn_bd x
  obtain ⟨hb0, hb1⟩ := hb
  go_enter Tryd.func67, Tryd.ntmps67
  go_wp2_with fail
  go_quiet (fail)
  go_wp2_with fail
  go_ret
  exact ⟨rfl, _, rfl⟩
theorem at22 (x : BitVec 32) (w : World) : Calls Tryd.prog 67 #[V64 x, .int .i64 22] w fun e w' => e = .returned (V64 (rotr x 22)) ∧ ∃ q, w' = w.drewN q := by
  have k2 := refrot_key x 22 4194304 1024 (by omega) (by omega) rfl rfl
  have hb := tn_bd x
  obtain ⟨hb0, hb1⟩ := hb
  go_enter Tryd.func67, Tryd.ntmps67
  go_wp2_with fail
  go_quiet (fail)
  go_wp2_with fail
  go_ret
  exact ⟨rfl, _, rfl⟩
theorem at25 (x : BitVec 32) (w : World) : Calls Tryd.prog 67 #[V64 x, .int .i64 25] w fun e w' => e = .returned (V64 (rotr x 25)) ∧ ∃ q, w' = w.drewN q := by
  have k2 := refrot_key x 25 33554432 128 (by omega) (by omega) rfl rfl
  have hb := tn_bd x
  obtain ⟨hb0, hb1⟩ := hb
  go_enter Tryd.func67, Tryd.ntmps67
  go_wp2_with fail
  go_quiet (fail)
  go_wp2_with fail
  go_ret
  exact ⟨rfl, _, rfl⟩
end RTurn
end Go.Proofs.YtilcilbmbhbakaaDoor
