/- Words of 32 bits within ints of 64. -/
import Derived.Test.YtilcilbmbhbakaaDoorWord
import Derived.Laws.BitsAllLaws
import Derived.Laws.BitsLemmas
namespace Go.Proofs.YtilcilbmbhbakaaDoor
open Go.RowKit
theorem i64_xor_nat (a b : Nat) (ha : a < 9223372036854775808) (hb : b < 9223372036854775808) : bits .xor .i64 (a : Int) (b : Int) = ((a ^^^ b : Nat) : Int) := by
  have hx : a ^^^ b < 2 ^ 63 := Nat.xor_lt_two_pow (by omega) (by omega)
  show IntKind.i64.wrap ((BitVec.ofInt 64 (a : Int) ^^^ BitVec.ofInt 64 (b : Int)).toNat : Int) = _
  rw [BitVec.toNat_xor, ofInt_i64 a ha, ofInt_i64 b hb, IntKind.wrap_i64]
  omega
abbrev V64 (x : BitVec 32) : Value := .int .i64 (tn x)
section
variable (x y : BitVec 32) (c : UInt8)
theorem wb_xor : bits .xor .i64 (tn x) (tn y) = tn (x ^^^ y) := by
  have := x.isLt
  have := y.isLt
  unfold tn; rw [i64_xor_nat _ _ (by omega) (by omega), BitVec.toNat_xor]
theorem wb_and : bits .and .i64 (tn x) (tn y) = tn (x &&& y) := by
  have := x.isLt
  have := y.isLt
  unfold tn; rw [i64_and_nat _ _ (by omega) (by omega), BitVec.toNat_and]
theorem wb_or : bits .or .i64 (tn x) (tn y) = tn (x ||| y) := by
  have := x.isLt
  have := y.isLt
  unfold tn; rw [i64_or_nat _ _ (by omega) (by omega), BitVec.toNat_or]
theorem wb_xor8 : bits .xor .i64 (tn x) (c.toNat : Int) = tn (x ^^^ c.toBitVec.setWidth 32) := by
  have hc := c.toNat_lt
  have := x.isLt
  unfold tn
  rw [i64_xor_nat _ _ (by omega) (by omega), BitVec.toNat_xor]
  have e : (c.toBitVec.setWidth 32).toNat = c.toNat := by simp
  rw [e]
theorem tn_mod2 : ((tn x % (2 : Int) == 1) = true ↔ x &&& 1#32 = 1#32) := by
  unfold tn
  rw [beq_iff_eq]
  have e : (x &&& 1#32).toNat = x.toNat % 2 := by rw [BitVec.toNat_and]; exact Nat.and_one_is_mod _
  constructor
  · intro h
    refine BitVec.eq_of_toNat_eq ?_
    rw [e]
    have : (1#32).toNat = 1 := rfl
    omega
  · intro h
    have h2 := congrArg BitVec.toNat h
    rw [e] at h2
    have : (1#32).toNat = 1 := rfl
    omega
theorem tn_half : tn x / (2 : Int) = tn (x >>> 1) := vb_shr x 1 2 rfl
theorem wrap_byte : wrap64 (c.toNat : Int) = (c.toNat : Int) := by
  have := c.toNat_lt
  unfold wrap64
  omega
theorem tn_inj {x y : BitVec 32} (h : tn x = tn y) : x = y := BitVec.eq_of_toNat_eq (by unfold tn at h; omega)
end
end Go.Proofs.YtilcilbmbhbakaaDoor
