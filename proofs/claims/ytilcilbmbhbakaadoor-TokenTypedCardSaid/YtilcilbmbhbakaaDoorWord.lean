/- Words of 32 bits, bytes: what Go's operations on them come to, as BitVec. -/
import Derived.Test.YtilcilbmbhbakaaDoorRows
import Derived.Test.YtilcilbmbhbakaaDoorSl
import Derived.Test.YtilcilbmbhbakaaDoorStr
import Derived.WalkSpells
import Derived.WalkLawsBesides
import Derived.Laws.BitsAllLaws
namespace Go.Proofs.YtilcilbmbhbakaaDoor
open Go.RowKit
/-- A word as a number: closed to simp. -/
def tn (x : BitVec 32) : Int := x.toNat
theorem tn_bd (x : BitVec 32) : 0 ≤ tn x ∧ tn x < 4294967296 := by have := x.isLt; unfold tn; omega
abbrev V32 (x : BitVec 32) : Value := .int .u32 (tn x)
abbrev V8 (x : UInt8) : Value := .int .u8 x.toNat
abbrev U32 : TypeId := 65
section
variable (x y : BitVec 32) (c : UInt8)
theorem vb_xor : bits .xor .u32 (tn x) (tn y) = tn (x ^^^ y) := by unfold tn; rw [u32_xor_nat _ _ x.isLt y.isLt, BitVec.toNat_xor]
theorem vb_and : bits .and .u32 (tn x) (tn y) = tn (x &&& y) := by unfold tn; rw [u32_and_nat _ _ x.isLt y.isLt, BitVec.toNat_and]
theorem vb_or : bits .or .u32 (tn x) (tn y) = tn (x ||| y) := by unfold tn; rw [u32_or_nat _ _ x.isLt y.isLt, BitVec.toNat_or]
theorem vb_or8 : bits .or .u32 (tn x) (c.toNat : Int) = tn (x ||| c.toBitVec.setWidth 32) := by
  have hc := c.toNat_lt
  unfold tn
  rw [u32_or_nat _ _ x.isLt (by omega), BitVec.toNat_or]
  have e : (c.toBitVec.setWidth 32).toNat = c.toNat := by simp
  rw [e]
theorem vb_xor8 : bits .xor .u32 (tn x) (c.toNat : Int) = tn (x ^^^ c.toBitVec.setWidth 32) := by
  have hc := c.toNat_lt
  unfold tn
  rw [u32_xor_nat _ _ x.isLt (by omega), BitVec.toNat_xor]
  have e : (c.toBitVec.setWidth 32).toNat = c.toNat := by simp
  rw [e]
theorem vb_add : IntKind.u32.wrap (tn x + tn y) = tn (x + y) := by
  unfold tn
  rw [IntKind.wrap_u32']
  simp
theorem vb_not : bits .xor .u32 (4294967295 : Int) (tn x) = tn (~~~x) := by
  unfold tn
  have e : (4294967295 : Int) = ((4294967295 : Nat) : Int) := rfl
  rw [e, u32_xor_nat _ _ (by omega) x.isLt]
  have h2 : (BitVec.allOnes 32 ^^^ x) = ~~~x := by rw [BitVec.allOnes_xor]
  have h3 := congrArg BitVec.toNat h2
  simp at h3
  simp
  omega
theorem vb_not' : bits .xor .u32 IntKind.u32.max (tn x) = tn (~~~x) := vb_not x
theorem vb_shl (n : Nat) (A : Int) (hA : A = ((2 ^ n : Nat) : Int)) : tn x * A % (4294967296 : Int) = tn (x <<< n) := by
  unfold tn
  rw [hA]
  simp [BitVec.toNat_shiftLeft, Nat.shiftLeft_eq]
theorem vb_shr (n : Nat) (A : Int) (hA : A = ((2 ^ n : Nat) : Int)) : tn x / A = tn (x >>> n) := by
  unfold tn
  rw [hA]
  simp [BitVec.toNat_ushiftRight, Nat.shiftRight_eq_div_pow]
theorem vb_of8 : (c.toNat : Int) % (4294967296 : Int) = tn (c.toBitVec.setWidth 32) := by
  have hc := c.toNat_lt
  unfold tn
  simp
  omega
theorem vb_shl8 : tn x * (256 : Int) % (4294967296 : Int) = tn (x <<< 8) := vb_shl x 8 256 rfl
theorem vb_shr3 : tn x / (8 : Int) = tn (x >>> 3) := vb_shr x 3 8 rfl
theorem vb_shr10 : tn x / (1024 : Int) = tn (x >>> 10) := vb_shr x 10 1024 rfl
theorem vb_shr8 : tn x / (256 : Int) = tn (x >>> 8) := vb_shr x 8 256 rfl
theorem vb_shr16 : tn x / (65536 : Int) = tn (x >>> 16) := vb_shr x 16 65536 rfl
theorem vb_shr24 : tn x / (16777216 : Int) = tn (x >>> 24) := vb_shr x 24 16777216 rfl
theorem vb_shr1 : tn x / (2 : Int) = tn (x >>> 1) := vb_shr x 1 2 rfl
theorem vb_to8 : IntKind.u8.wrap (tn x) = ((UInt8.ofBitVec (x.setWidth 8)).toNat : Int) := by
  unfold tn
  have e : ∀ n : Int, IntKind.u8.wrap n = n % 256 := fun n => by simp [IntKind.wrap, IntKind.bits, IntKind.signed]
  rw [e]
  simp
end
end Go.Proofs.YtilcilbmbhbakaaDoor
