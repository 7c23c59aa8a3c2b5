/- Words within ints: sums and bytes, for latchkeyref01.block. -/
import Derived.Test.YtilcilbmbhbakaaDoorRefTurn
import Derived.Test.YtilcilbmbhbakaaDoorComp
namespace Go.Proofs.YtilcilbmbhbakaaDoor
open Go.RowKit
abbrev SI (s : Sha.S8) : List Value := s.list.map V64
abbrev KI : List Value := Sha.K.map V64
theorem SI_arr (s : Sha.S8) : (SI s).toArray = #[V64 s.a, V64 s.b, V64 s.c, V64 s.d, V64 s.e, V64 s.f, V64 s.g, V64 s.h] := rfl
theorem SI_len (s : Sha.S8) : (SI s).length = 8 := rfl
theorem V64_one (l : List (BitVec 32)) : ∀ v ∈ l.map V64, v.oneCell' = true := by
  intro v hv
  obtain ⟨z, _, rfl⟩ := List.mem_map.1 hv
  rfl
theorem wb_not (x : BitVec 32) : bits .xor .i64 4294967295 (tn x) = tn (~~~ x) := by
  have := wb_xor (BitVec.allOnes 32) x
  rw [show tn (BitVec.allOnes 32) = 4294967295 by simp [tn]] at this
  rw [this, BitVec.allOnes_xor]
theorem low_nat (n : Nat) (h : n < 9223372036854775808) : bits .and .i64 (n : Int) 4294967295 = ((n % 4294967296 : Nat) : Int) := by
  have e3 : (4294967295 : Int) = ((4294967295 : Nat) : Int) := rfl
  have e4 : (4294967295 : Nat) = 2 ^ 32 - 1 := rfl
  rw [e3, i64_and_nat _ _ h (by omega), e4, Nat.and_two_pow_sub_one_eq_mod]
theorem low_sum2 (x y : BitVec 32) : bits .and .i64 (tn x + tn y) 4294967295 = tn (x + y) := by
  have hx := x.isLt
  have hy := y.isLt
  have e : tn x + tn y = ((x.toNat + y.toNat : Nat) : Int) := by unfold tn; omega
  rw [e, low_nat _ (by omega)]
  unfold tn
  rw [BitVec.toNat_add]
theorem low_sum4 (x y z u : BitVec 32) : bits .and .i64 (tn x + tn y + tn z + tn u) 4294967295 = tn (x + y + z + u) := by
  have hx := x.isLt
  have hy := y.isLt
  have hz := z.isLt
  have hu := u.isLt
  have e : tn x + tn y + tn z + tn u = ((x.toNat + y.toNat + z.toNat + u.toNat : Nat) : Int) := by unfold tn; omega
  rw [e, low_nat _ (by omega)]
  unfold tn
  simp only [BitVec.toNat_add]
  omega
theorem low_sum6 (d x y z u v : BitVec 32) : bits .and .i64 (tn d + (tn x + tn y + tn z + tn u + tn v)) 4294967295 = tn (d + (x + y + z + u + v)) := by
  have hx := x.isLt
  have hy := y.isLt
  have hz := z.isLt
  have hu := u.isLt
  have hv := v.isLt
  have hd := d.isLt
  have e : tn d + (tn x + tn y + tn z + tn u + tn v) = ((d.toNat + (x.toNat + y.toNat + z.toNat + u.toNat + v.toNat) : Nat) : Int) := by unfold tn; omega
  rw [e, low_nat _ (by omega)]
  unfold tn
  simp only [BitVec.toNat_add]
  omega
theorem low_sum7 (p q x y z u v : BitVec 32) : bits .and .i64 (tn x + tn y + tn z + tn u + tn v + (tn p + tn q)) 4294967295 = tn (x + y + z + u + v + p + q) := by
  have hx := x.isLt
  have hy := y.isLt
  have hz := z.isLt
  have hu := u.isLt
  have hv := v.isLt
  have hp := p.isLt
  have hq := q.isLt
  have e : tn x + tn y + tn z + tn u + tn v + (tn p + tn q) = ((x.toNat + y.toNat + z.toNat + u.toNat + v.toNat + (p.toNat + q.toNat) : Nat) : Int) := by unfold tn; omega
  rw [e, low_nat _ (by omega)]
  unfold tn
  simp only [BitVec.toNat_add]
  omega
abbrev w8' (c : UInt8) : BitVec 32 := c.toBitVec.setWidth 32
theorem w8_shl (c : UInt8) (n : Nat) (A : Int) (hn : n ≤ 24) (hA : A = ((2 ^ n : Nat) : Int)) : (c.toNat : Int) * A = tn (w8' c <<< n) := by
  have hc := c.toNat_lt
  unfold tn
  rw [hA, BitVec.toNat_shiftLeft, Nat.shiftLeft_eq]
  have e : (w8' c).toNat = c.toNat := by simp [w8']
  have hp : 2 ^ n ≤ 2 ^ 24 := Nat.pow_le_pow_right (by omega) hn
  have hb : c.toNat * 2 ^ n < 4294967296 := by
    have := Nat.mul_lt_mul_of_lt_of_le hc hp (by omega)
    omega
  rw [e, Nat.mod_eq_of_lt hb]
  simp
theorem w8_val (c : UInt8) : (c.toNat : Int) = tn (w8' c) := by
  unfold tn
  simp [w8']
theorem four_bytes (a b c d : UInt8) : bits .or .i64 (bits .or .i64 (bits .or .i64 ((a.toNat : Int) * 16777216) ((b.toNat : Int) * 65536)) ((c.toNat : Int) * 256)) (d.toNat : Int) = tn (Sha.wd [a, b, c, d]) := by
  rw [w8_shl a 24 16777216 (by omega) rfl, w8_shl b 16 65536 (by omega) rfl, w8_shl c 8 256 (by omega) rfl, w8_val d, wb_or, wb_or, wb_or]
  congr 1
  show _ = ((((0#32 <<< 8 ||| w8' a) <<< 8 ||| w8' b) <<< 8 ||| w8' c) <<< 8 ||| w8' d)
  simp only [BitVec.shiftLeft_or_distrib, ← BitVec.shiftLeft_add]
  simp
/-- The words so far. -/
def wsAt (b : List UInt8) (t : Nat) : List (BitVec 32) := if t ≤ 16 then Sha.wds b t else Sha.ext (Sha.wds b 16) (t - 16)
theorem wsAt_len (b : List UInt8) (t : Nat) : (wsAt b t).length = t := by
  unfold wsAt
  split
  · exact Sha.wds_length b t
  · rw [Sha.ext_length, Sha.wds_length]; omega
def WC (b : List UInt8) (t : Nat) : Array Value := ((wsAt b t).map V64 ++ List.replicate (64 - t) (V64 0#32)).toArray
theorem WC_at (b : List UInt8) (t : Nat) (h : t < 64) : (WC b t)[t]? = some (V64 0#32) := by
  unfold WC
  have e : 64 - t = (63 - t) + 1 := by omega
  rw [e, List.replicate_succ]
  exact get_mid _ _ _ _ (by rw [List.length_map, wsAt_len])
theorem WC_get (b : List UInt8) (t k : Nat) (h : k < t) : (WC b t)[k]? = some (V64 ((wsAt b t).getD k 0)) := by
  have hl : k < (wsAt b t).length := by rw [wsAt_len]; exact h
  unfold WC
  simp [List.getElem?_append_left, hl]
theorem WC_set (b : List UInt8) (t : Nat) (x : BitVec 32) (h : t < 64) (hx : wsAt b (t + 1) = wsAt b t ++ [x]) : (WC b t).setIfInBounds t (V64 x) = WC b (t + 1) := by
  unfold WC
  have e : 64 - t = (63 - t) + 1 := by omega
  have e2 : 64 - (t + 1) = 63 - t := by omega
  rw [e, List.replicate_succ, set_mid _ _ _ _ _ (by rw [List.length_map, wsAt_len]), hx, e2]
  simp
theorem wsAt_low (b : List UInt8) (t : Nat) (h : t < 16) : wsAt b (t + 1) = wsAt b t ++ [Sha.wd ((b.drop (4 * t)).take 4)] := by
  unfold wsAt
  rw [if_pos (by omega), if_pos (by omega), Sha.wds_succ]
theorem wsAt_high (b : List UInt8) (t : Nat) (h : 16 ≤ t) : wsAt b (t + 1) = wsAt b t ++ [(wsAt b t).getD (t - 16) 0 + Sha.sig0 ((wsAt b t).getD (t - 15) 0) + (wsAt b t).getD (t - 7) 0 + Sha.sig1 ((wsAt b t).getD (t - 2) 0)] := by
  have e0 : wsAt b t = Sha.ext (Sha.wds b 16) (t - 16) := by
    unfold wsAt
    split
    · have : t = 16 := by omega
      subst this; rfl
    · rfl
  have e1 : wsAt b (t + 1) = Sha.ext (Sha.wds b 16) (t - 16 + 1) := by
    unfold wsAt
    rw [if_neg (by omega)]
    congr 1
    omega
  have hl := wsAt_len b t
  rw [e1]
  show Sha.ext (Sha.wds b 16) (t - 16) ++ [Sha.next (Sha.ext (Sha.wds b 16) (t - 16))] = _
  rw [← e0]
  unfold Sha.next
  rw [hl]
theorem wsAt_all (b : List UInt8) : wsAt b 64 = Sha.sched b := by
  unfold wsAt
  rw [if_neg (by omega)]
  rfl
end Go.Proofs.YtilcilbmbhbakaaDoor
