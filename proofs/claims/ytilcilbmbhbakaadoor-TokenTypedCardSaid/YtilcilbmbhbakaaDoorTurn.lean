/- hash.turn at the counts that occur. -/
import Derived.Test.YtilcilbmbhbakaaDoorWord
namespace Go.Proofs.YtilcilbmbhbakaaDoor
open Go.RowKit
def rotr (x : BitVec 32) (n : Nat) : BitVec 32 := x <<< (32 - n) ||| x >>> n
theorem rot_key (x : BitVec 32) (n : Nat) (A B : Int) (hA : A = ((2 ^ (32 - n) : Nat) : Int)) (hB : B = ((2 ^ n : Nat) : Int)) :
    bits .or .u32 ((x.toNat : Int) * A % 4294967296) ((x.toNat : Int) / B) = ((rotr x n).toNat : Int) := by
  have hx := x.isLt
  have e1 : ((x.toNat : Int) * A % 4294967296) = ((x.toNat * 2 ^ (32 - n) % 4294967296 : Nat) : Int) := by rw [hA]; simp
  have e2 : ((x.toNat : Int) / B) = ((x.toNat / 2 ^ n : Nat) : Int) := by rw [hB]; simp
  have h2 : x.toNat / 2 ^ n < 4294967296 := Nat.lt_of_le_of_lt (Nat.div_le_self _ _) hx
  rw [e1, e2, u32_or_nat _ _ (Nat.mod_lt _ (by omega)) h2]
  unfold rotr
  simp [BitVec.toNat_or, BitVec.toNat_shiftLeft, BitVec.toNat_ushiftRight, Nat.shiftLeft_eq, Nat.shiftRight_eq_div_pow]
namespace Turn
theorem at2 (x : BitVec 32) (w : World) : Calls Tryd.prog 70 #[V32 x, .int .i64 2] w fun e w' => e = .returned (V32 (rotr x 2)) ∧ w = w' := by
  show Calls Tryd.prog _ #[.int .u32 (x.toNat : Int), _] w _
  have hx := x.isLt
  have k1 : bits BinOp.and IntKind.u64 (IntKind.u64.wrap (-2)) 31 = 30 := by decide +kernel
  have k2 := rot_key x 2 1073741824 4 rfl rfl
  go_enter Tryd.func70, Tryd.ntmps70
  go_wp2
  go_ret
  exact ⟨rfl, rfl⟩
theorem at6 (x : BitVec 32) (w : World) : Calls Tryd.prog 70 #[V32 x, .int .i64 6] w fun e w' => e = .returned (V32 (rotr x 6)) ∧ w = w' := by
  show Calls Tryd.prog _ #[.int .u32 (x.toNat : Int), _] w _
  have hx := x.isLt
  have k1 : bits BinOp.and IntKind.u64 (IntKind.u64.wrap (-6)) 31 = 26 := by decide +kernel
  have k2 := rot_key x 6 67108864 64 rfl rfl
  go_enter Tryd.func70, Tryd.ntmps70
  go_wp2
  go_ret
  exact ⟨rfl, rfl⟩
theorem at7 (x : BitVec 32) (w : World) : Calls Tryd.prog 70 #[V32 x, .int .i64 7] w fun e w' => e = .returned (V32 (rotr x 7)) ∧ w = w' := by
  show Calls Tryd.prog _ #[.int .u32 (x.toNat : Int), _] w _
  have hx := x.isLt
  have k1 : bits BinOp.and IntKind.u64 (IntKind.u64.wrap (-7)) 31 = 25 := by decide +kernel
  have k2 := rot_key x 7 33554432 128 rfl rfl
  go_enter Tryd.func70, Tryd.ntmps70
  go_wp2
  go_ret
  exact ⟨rfl, rfl⟩
theorem at11 (x : BitVec 32) (w : World) : Calls Tryd.prog 70 #[V32 x, .int .i64 11] w fun e w' => e = .returned (V32 (rotr x 11)) ∧ w = w' := by
  show Calls Tryd.prog _ #[.int .u32 (x.toNat : Int), _] w _
  have hx := x.isLt
  have k1 : bits BinOp.and IntKind.u64 (IntKind.u64.wrap (-11)) 31 = 21 := by decide +kernel
  have k2 := rot_key x 11 2097152 2048 rfl rfl
  go_enter Tryd.func70, Tryd.ntmps70
  go_wp2
  go_ret
  exact ⟨rfl, rfl⟩
theorem at13 (x : BitVec 32) (w : World) : Calls Tryd.prog 70 #[V32 x, .int .i64 13] w fun e w' => e = .returned (V32 (rotr x 13)) ∧ w = w' := by
  show Calls Tryd.prog _ #[.int .u32 (x.toNat : Int), _] w _
  have hx := x.isLt
  have k1 : bits BinOp.and IntKind.u64 (IntKind.u64.wrap (-13)) 31 = 19 := by decide +kernel
  have k2 := rot_key x 13 524288 8192 rfl rfl
  go_enter Tryd.func70, Tryd.ntmps70
  go_wp2
  go_ret
  exact ⟨rfl, rfl⟩
theorem at17 (x : BitVec 32) (w : World) : Calls Tryd.prog 70 #[V32 x, .int .i64 17] w fun e w' => e = .returned (V32 (rotr x 17)) ∧ w = w' := by
  show Calls Tryd.prog _ #[.int .u32 (x.toNat : Int), _] w _
  have hx := x.isLt
  have k1 : bits BinOp.and IntKind.u64 (IntKind.u64.wrap (-17)) 31 = 15 := by decide +kernel
  have k2 := rot_key x 17 32768 131072 rfl rfl
  go_enter Tryd.func70, Tryd.ntmps70
  go_wp2
  go_ret
  exact ⟨rfl, rfl⟩
theorem at18 (x : BitVec 32) (w : World) : Calls Tryd.prog 70 #[V32 x, .int .i64 18] w fun e w' => e = .returned (V32 (rotr x 18)) ∧ w = w' := by
  show Calls Tryd.prog _ #[.int .u32 (x.toNat : Int), _] w _
  have hx := x.isLt
  have k1 : bits BinOp.and IntKind.u64 (IntKind.u64.wrap (-18)) 31 = 14 := by decide +kernel
  have k2 := rot_key x 18 16384 262144 rfl rfl
  go_enter Tryd.func70, Tryd.ntmps70
  go_wp2
  go_ret
  exact ⟨rfl, rfl⟩
theorem at19 (x : BitVec 32) (w : World) : Calls Tryd.prog 70 #[V32 x, .int .i64 19] w fun e w' => e = .returned (V32 (rotr x 19)) ∧ w = w' := by
  show Calls Tryd.prog _ #[.int .u32 (x.toNat : Int), _] w _
  have hx := x.isLt
  have k1 : bits BinOp.and IntKind.u64 (IntKind.u64.wrap (-19)) 31 = 13 := by decide +kernel
  have k2 := rot_key x 19 8192 524288 rfl rfl
  go_enter Tryd.func70, Tryd.ntmps70
  go_wp2
  go_ret
  exact ⟨rfl, rfl⟩
theorem at22 (x : BitVec 32) (w : World) : Calls Tryd.prog 70 #[V32 x, .int .i64 22] w fun e w' => e = .returned (V32 (rotr x 22)) ∧ w = w' := by
  show Calls Tryd.prog _ #[.int .u32 (x.toNat : Int), _] w _
  have hx := x.isLt
  have k1 : bits BinOp.and IntKind.u64 (IntKind.u64.wrap (-22)) 31 = 10 := by decide +kernel
  have k2 := rot_key x 22 1024 4194304 rfl rfl
  go_enter Tryd.func70, Tryd.ntmps70
  go_wp2
  go_ret
  exact ⟨rfl, rfl⟩
theorem at25 (x : BitVec 32) (w : World) : Calls Tryd.prog 70 #[V32 x, .int .i64 25] w fun e w' => e = .returned (V32 (rotr x 25)) ∧ w = w' := by
  show Calls Tryd.prog _ #[.int .u32 (x.toNat : Int), _] w _
  have hx := x.isLt
  have k1 : bits BinOp.and IntKind.u64 (IntKind.u64.wrap (-25)) 31 = 7 := by decide +kernel
  have k2 := rot_key x 25 128 33554432 rfl rfl
  go_enter Tryd.func70, Tryd.ntmps70
  go_wp2
  go_ret
  exact ⟨rfl, rfl⟩
end Turn
end Go.Proofs.YtilcilbmbhbakaaDoor
