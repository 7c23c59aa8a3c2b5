/- The order of keys: numbers by so many bytes rise as the numbers do. -/
import Derived.Test.YtabibfabieghpaaGreatDoorIdx2
namespace Go.Proofs.YtabibfabieghpaaGreatDoor
open Go.RowKit
theorem bl_app : ∀ (A A' B B' : List UInt8), A.length = A'.length → Op.bytesLess (A ++ B) (A' ++ B') = (Op.bytesLess A A' || (A == A' && Op.bytesLess B B'))
  | [], [], B, B', _ => by simp [Op.bytesLess]
  | [], _ :: _, _, _, h => by simp at h
  | _ :: _, [], _, _, h => by simp at h
  | x :: A, y :: A', B, B', h => by
    have ih := bl_app A A' B B' (by simpa using h)
    show (decide (x < y) || (x == y && Op.bytesLess (A ++ B) (A' ++ B'))) = (decide (x < y) || (x == y && Op.bytesLess A A') || ((x :: A) == (y :: A') && Op.bytesLess B B'))
    rw [ih]
    have e : ((x :: A) == (y :: A')) = (x == y && A == A') := rfl
    rw [e]
    cases decide (x < y) <;> cases (x == y) <;> cases Op.bytesLess A A' <;> cases (A == A') <;> cases Op.bytesLess B B' <;> rfl
theorem bl_same (A B B' : List UInt8) : Op.bytesLess (A ++ B) (A ++ B') = Op.bytesLess B B' := by
  rw [bl_app A A B B' rfl, Tx.lt_irrefl]
  simp
theorem byN_low (k : Nat) : ∀ a b : Nat, byN k (a * 256 ^ k + b) = byN k b := by
  induction k with
  | zero => intro a b; rfl
  | succ k ih =>
    intro a b
    show UInt8.ofNat ((a * 256 ^ (k + 1) + b) / 256 ^ k) :: byN k (a * 256 ^ (k + 1) + b) = UInt8.ofNat (b / 256 ^ k) :: byN k b
    have e1 : a * 256 ^ (k + 1) + b = (a * 256) * 256 ^ k + b := by rw [Nat.pow_succ, Nat.mul_assoc, Nat.mul_comm 256]
    rw [e1, ih]
    have e2 : (a * 256 * 256 ^ k + b) / 256 ^ k = a * 256 + b / 256 ^ k := by
      rw [Nat.add_comm, Nat.add_mul_div_right _ _ (Nat.pow_pos (by omega)), Nat.add_comm]
    rw [e2]
    congr 1
    apply UInt8.toNat_inj.1
    simp
theorem byN_rem (k n : Nat) : byN k (n % 256 ^ k) = byN k n := by
  have := byN_low k (n / 256 ^ k) (n % 256 ^ k)
  rw [Nat.mul_comm, Nat.div_add_mod] at this
  exact this.symm
theorem byN_less (k : Nat) : ∀ m n : Nat, m < 256 ^ k → n < 256 ^ k → Op.bytesLess (byN k m) (byN k n) = decide (m < n) := by
  induction k with
  | zero =>
    intro m n hm hn
    have h1 : m = 0 := by simpa using hm
    have h2 : n = 0 := by simpa using hn
    subst h1 h2
    rfl
  | succ k ih =>
    intro m n hm hn
    have hp : 0 < 256 ^ k := Nat.pow_pos (by omega)
    have hm' : m / 256 ^ k < 256 := Nat.div_lt_of_lt_mul (by rw [← Nat.pow_succ]; exact hm)
    have hn' : n / 256 ^ k < 256 := Nat.div_lt_of_lt_mul (by rw [← Nat.pow_succ]; exact hn)
    have hr := ih (m % 256 ^ k) (n % 256 ^ k) (Nat.mod_lt _ hp) (Nat.mod_lt _ hp)
    rw [byN_rem, byN_rem] at hr
    show (decide (UInt8.ofNat (m / 256 ^ k) < UInt8.ofNat (n / 256 ^ k)) || (UInt8.ofNat (m / 256 ^ k) == UInt8.ofNat (n / 256 ^ k) && Op.bytesLess (byN k m) (byN k n))) = decide (m < n)
    rw [hr]
    have t1 : (UInt8.ofNat (m / 256 ^ k)).toNat = m / 256 ^ k := by simp; omega
    have t2 : (UInt8.ofNat (n / 256 ^ k)).toNat = n / 256 ^ k := by simp; omega
    have c1 : UInt8.ofNat (m / 256 ^ k) < UInt8.ofNat (n / 256 ^ k) ↔ m / 256 ^ k < n / 256 ^ k := by rw [UInt8.lt_iff_toNat_lt, t1, t2]
    have c2 : UInt8.ofNat (m / 256 ^ k) = UInt8.ofNat (n / 256 ^ k) ↔ m / 256 ^ k = n / 256 ^ k := by rw [← UInt8.toNat_inj, t1, t2]
    have dm := Nat.div_add_mod m (256 ^ k)
    have dn := Nat.div_add_mod n (256 ^ k)
    have lm := Nat.mod_lt m hp
    have ln := Nat.mod_lt n hp
    rw [Bool.eq_iff_iff]
    simp only [Bool.or_eq_true, Bool.and_eq_true, decide_eq_true_eq, beq_iff_eq, c1, c2]
    generalize 256 ^ k = P at *
    constructor
    · rintro (h | ⟨h, h2⟩)
      · have h3 : P * (m / P) + P ≤ P * (n / P) := by
          have := Nat.mul_le_mul_left P (show m / P + 1 ≤ n / P by omega)
          rw [Nat.mul_add, Nat.mul_one] at this
          exact this
        omega
      · rw [h] at dm
        omega
    · intro h
      rcases Nat.lt_trichotomy (m / P) (n / P) with h3 | h3 | h3
      · exact .inl h3
      · rw [h3] at dm
        exact .inr ⟨h3, by omega⟩
      · have h4 : P * (n / P) + P ≤ P * (m / P) := by
          have := Nat.mul_le_mul_left P (show n / P + 1 ≤ m / P by omega)
          rw [Nat.mul_add, Nat.mul_one] at this
          exact this
        omega
theorem byN_eq (k m n : Nat) (hm : m < 256 ^ k) (hn : n < 256 ^ k) : (byN k m == byN k n) = decide (m = n) := by
  rw [Bool.eq_iff_iff, beq_iff_eq, decide_eq_true_eq]
  constructor
  · intro h
    have h1 := byN_less k m n hm hn
    have h2 := byN_less k n m hn hm
    rw [h, Tx.lt_irrefl] at h1
    rw [h, Tx.lt_irrefl] at h2
    have h3 := of_decide_eq_false h1.symm
    have h4 := of_decide_eq_false h2.symm
    omega
  · rintro rfl
    rfl
theorem slt_mk (a b : List UInt8) : slt ⟨a.toArray⟩ ⟨b.toArray⟩ = Op.bytesLess a b := rfl
theorem key_less (x : UInt8) (k : Nat) (a b : Int) (ha : 0 ≤ a ∧ a < 256 ^ k) (hb : 0 ≤ b ∧ b < 256 ^ k) : slt ⟨(x :: byN k a.toNat).toArray⟩ ⟨(x :: byN k b.toNat).toArray⟩ = decide (a < b) := by
  rw [slt_mk]
  have h1 : ((256 ^ k : Nat) : Int) = (256 : Int) ^ k := Int.natCast_pow 256 _
  have h := bl_same [x] (byN k a.toNat) (byN k b.toNat)
  refine h.trans ?_
  rw [byN_less k _ _ (by omega) (by omega), decide_eq_decide]
  omega
theorem pair_less (x : UInt8) (k j : Nat) (a b c d : Int) (ha : 0 ≤ a ∧ a < 256 ^ k) (hb : 0 ≤ b ∧ b < 256 ^ k) (hc : 0 ≤ c ∧ c < 256 ^ j) (hd : 0 ≤ d ∧ d < 256 ^ j) :
    slt ⟨(x :: (byN k a.toNat ++ byN j c.toNat)).toArray⟩ ⟨(x :: (byN k b.toNat ++ byN j d.toNat)).toArray⟩ = decide (a < b ∨ a = b ∧ c < d) := by
  rw [slt_mk]
  have h1 : ((256 ^ k : Nat) : Int) = (256 : Int) ^ k := Int.natCast_pow 256 _
  have h2 : ((256 ^ j : Nat) : Int) = (256 : Int) ^ j := Int.natCast_pow 256 _
  have h := bl_same [x] (byN k a.toNat ++ byN j c.toNat) (byN k b.toNat ++ byN j d.toNat)
  refine h.trans ?_
  rw [bl_app _ _ _ _ (by rw [byN_len, byN_len]), byN_less k _ _ (by omega) (by omega), byN_less j _ _ (by omega) (by omega), byN_eq k _ _ (by omega) (by omega), Bool.eq_iff_iff]
  simp only [Bool.or_eq_true, Bool.and_eq_true, decide_eq_true_eq]
  omega
theorem su_less (su : ByteArray) (a b : Int) (ha : 0 ≤ a ∧ a < 256 ^ 8) (hb : 0 ≤ b ∧ b < 256 ^ 8) : slt (suK su a) (suK su b) = decide (a < b) := by
  unfold suK
  rw [slt_mk]
  have h := bl_same (115 :: (su.data.toList ++ [0])) (byN 8 a.toNat) (byN 8 b.toNat)
  have e : ∀ n : Nat, (115 :: (su.data.toList ++ 0 :: byN 8 n) : List UInt8) = (115 :: (su.data.toList ++ [0])) ++ byN 8 n := fun n => by simp
  rw [e, e, h, byN_less 8 _ _ (by omega) (by omega), decide_eq_decide]
  omega
end Go.Proofs.YtabibfabieghpaaGreatDoor
