/- Single floats that are not below nought: their order, sum, product, difference by rungs; rounding does not fall. -/
import Ieee.Arith
namespace Go.Proofs.Ytnbpbonpcbemdaa.Fl
open Ieee
/-- nearest whole number, ties to even -/
def re (n D : Nat) : Nat := n / D + (if D < 2 * (n % D) ∨ (D = 2 * (n % D) ∧ n / D % 2 = 1) then 1 else 0)
theorem re_mono (D : Nat) (hD : 0 < D) {n m : Nat} (h : n ≤ m) : re n D ≤ re m D := by
  unfold re
  have h1 := Nat.div_add_mod n D
  have h2 := Nat.div_add_mod m D
  have l1 := Nat.mod_lt n hD
  have l2 := Nat.mod_lt m hD
  rcases Nat.lt_or_ge (n / D) (m / D) with hlt | hge
  · split <;> split <;> omega
  · have he : n / D = m / D := Nat.le_antisymm (Nat.div_le_div_right h) hge
    rw [he] at h1 ⊢
    split <;> split <;> first | omega | (rename_i a b; exfalso; apply b; rcases a with a | ⟨a, c⟩ <;> omega)
theorem re_exact (D : Nat) (hD : 0 < D) (k : Nat) : re (k * D) D = k := by
  unfold re
  rw [Nat.mul_div_cancel _ hD, Nat.mul_mod_left]
  split
  · rename_i h; omega
  · rfl
theorem re_scale (n D k : Nat) : re (n * 2 ^ k) (D * 2 ^ k) = re n D := by
  have hk : 0 < 2 ^ k := Nat.two_pow_pos k
  unfold re
  rw [Nat.mul_div_mul_right _ _ hk, Nat.mul_mod_mul_right]
  generalize 2 ^ k = z at *
  have e1 : 2 * (n % D * z) = (2 * (n % D)) * z := (Nat.mul_assoc _ _ _).symm
  rw [e1]
  have a1 : (D * z < 2 * (n % D) * z) ↔ D < 2 * (n % D) := Nat.mul_lt_mul_right hk
  have a2 : (D * z = 2 * (n % D) * z) ↔ D = 2 * (n % D) := ⟨fun h => Nat.eq_of_mul_eq_mul_right hk h, fun h => congrArg (· * z) h⟩
  simp only [a1, a2]
theorem re_small (n D : Nat) (h : 2 * n < D) : re n D = 0 := by
  unfold re
  rw [Nat.div_eq_of_lt (by omega), Nat.mod_eq_of_lt (by omega)]
  split
  · omega
  · rfl
theorem re_le (n D k : Nat) (hD : 0 < D) (h : n ≤ k * D) : re n D ≤ k := by
  have := re_mono D hD h
  rw [re_exact D hD] at this
  exact this
theorem le_re (n D k : Nat) (hD : 0 < D) (h : k * D ≤ n) : k ≤ re n D := by
  have := re_mono D hD h
  rw [re_exact D hD] at this
  exact this
theorem cut_re (neg : Bool) (n drop : Nat) : Toward.even.cut neg n drop = re n (2 ^ drop) := by
  unfold Toward.cut
  dsimp only
  rw [Nat.one_shiftLeft]
  by_cases h : drop ≤ n.log2 + 2
  · rw [Nat.min_eq_left h]
    unfold re
    generalize 2 ^ drop = D
    generalize n / D = q
    generalize n % D = r
    congr 1
    by_cases h1 : D < 2 * r <;> by_cases h2 : D = 2 * r <;> by_cases h3 : q % 2 = 1 <;> simp [h1, h2, h3]
    all_goals omega
  · rw [Nat.min_eq_right (by omega)]
    have hl : n < 2 ^ (n.log2 + 1) := Nat.lt_log2_self
    have hp : 2 ^ (n.log2 + 2) = 2 * 2 ^ (n.log2 + 1) := by rw [Nat.pow_succ 2 (n.log2 + 1)]; omega
    have hp2 : 2 ^ (n.log2 + 2) ≤ 2 ^ drop := Nat.pow_le_pow_right (by omega) (by omega)
    rw [re_small n (2 ^ drop) (by omega), Nat.div_eq_of_lt (by omega), Nat.mod_eq_of_lt (by omega)]
    have e1 : ¬ (2 ^ (n.log2 + 2) < 2 * n) := by omega
    simp [e1]
/-- the rung of mag * 2 ^ place in single -/
def R (mag : Nat) (place : Int) : Nat :=
  if mag = 0 then 0 else
  let last := max (place + mag.log2 - 23) (-149)
  min ((last + 149).toNat * 8388608 + re (mag <<< (place - last).toNat) (2 ^ (last - place).toNat)) 2139095040
theorem nearest_R (neg : Bool) (mag : Nat) (place : Int) : single.nearest neg mag place = single.word neg (R mag place) := by
  unfold Format.nearest R
  have e1 : single.leastPlace = -149 := by decide
  have e2 : single.binade = 8388608 := by decide
  have e3 : single.infRung = 2139095040 := by decide
  have e4 : (single.fractionBits : Int) = 23 := rfl
  rw [e1, e2, e3, e4]
  split
  · rfl
  · dsimp only
    rw [cut_re]
    congr 2
theorem log2_shift (m k : Nat) (h : m ≠ 0) : (m <<< k).log2 = m.log2 + k := by
  rw [Nat.shiftLeft_eq]
  induction k with
  | zero => simp
  | succ k ih =>
    have : m * 2 ^ (k + 1) = 2 * (m * 2 ^ k) := by rw [Nat.pow_succ]; rw [Nat.mul_comm (2 ^ k) 2, ← Nat.mul_assoc, Nat.mul_comm m 2, Nat.mul_assoc]
    rw [this, Nat.log2_two_mul (by have := Nat.two_pow_pos k; exact Nat.mul_ne_zero h (by omega)), ih]
    omega
theorem R_scale (m k : Nat) (p : Int) : R (m <<< k) p = R m (p + k) := by
  by_cases h : m = 0
  · subst h; simp [R]
  · have h2 : m <<< k ≠ 0 := by rw [Nat.shiftLeft_eq]; exact Nat.mul_ne_zero h (by have := Nat.two_pow_pos k; omega)
    unfold R
    rw [if_neg h, if_neg h2]
    dsimp only
    rw [log2_shift m k h]
    have e : p + ((m.log2 + k : Nat) : Int) - 23 = p + k + (m.log2 : Int) - 23 := by omega
    rw [e]
    generalize max (p + k + (m.log2 : Int) - 23) (-149) = last
    congr 2
    simp only [Nat.shiftLeft_eq]
    rcases Int.lt_or_le (p + k) last with h3 | h3
    · have z1 : (p - last).toNat = 0 := by omega
      have z2 : (p + k - last).toNat = 0 := by omega
      have z3 : (last - p).toNat = (last - (p + k)).toNat + k := by omega
      rw [z1, z2, z3, Nat.pow_add]
      simp only [Nat.pow_zero, Nat.mul_one]
      exact re_scale _ _ _
    · have z2 : (last - (p + k)).toNat = 0 := by omega
      rw [z2, Nat.pow_zero]
      have r1 : ∀ x, re x 1 = x := fun x => by have := re_exact 1 (by omega) x; rwa [Nat.mul_one] at this
      rw [r1]
      rcases Int.lt_or_le p last with h4 | h4
      · have z1 : (p - last).toNat = 0 := by omega
        rw [z1, Nat.pow_zero, Nat.mul_one]
        have z3 : k = (p + k - last).toNat + (last - p).toNat := by omega
        have : m * 2 ^ k = (m * 2 ^ (p + k - last).toNat) * 2 ^ (last - p).toNat := by rw [Nat.mul_assoc, ← Nat.pow_add, ← z3]
        rw [this, re_exact _ (Nat.two_pow_pos _)]
      · have z1 : (last - p).toNat = 0 := by omega
        rw [z1, Nat.pow_zero, r1, Nat.mul_assoc, ← Nat.pow_add]
        congr 2
        omega
theorem R_mono0 {m n : Nat} (p : Int) (hp : p ≤ -149) (h : m ≤ n) : R m p ≤ R n p := by
  by_cases hm : m = 0
  · subst hm; simp [R]
  · have hn : n ≠ 0 := by omega
    unfold R
    rw [if_neg hm, if_neg hn]
    dsimp only
    have hl : m.log2 ≤ n.log2 := by
      rw [Nat.le_log2 hn]
      exact Nat.le_trans (Nat.log2_self_le hm) h
    have am := Nat.log2_self_le hm
    have an := Nat.log2_self_le hn
    have bm : m < 2 ^ (m.log2 + 1) := Nat.lt_log2_self
    generalize m.log2 = x at *
    generalize n.log2 = y at *
    have z : ∀ q : Nat, (p - max (p + q - 23) (-149)).toNat = 0 := fun q => by omega
    rw [z, z, Nat.shiftLeft_zero, Nat.shiftLeft_zero]
    obtain ⟨B, hB⟩ : ∃ B : Nat, B = 8388608 := ⟨_, rfl⟩
    have hB2 : B = 2 ^ 23 := by rw [hB]
    have hB3 : 2 * B = 2 ^ 24 := by rw [hB]
    obtain ⟨I, hI⟩ : ∃ I : Nat, I = 2139095040 := ⟨_, rfl⟩
    rw [← hB, ← hI]
    clear hB hI
    obtain ⟨la, hla⟩ : ∃ la : Int, la = max (p + (x : Int) - 23) (-149) := ⟨_, rfl⟩
    obtain ⟨lb, hlb⟩ : ∃ lb : Int, lb = max (p + (y : Int) - 23) (-149) := ⟨_, rfl⟩
    rw [← hla, ← hlb]
    have hab : la ≤ lb := by omega
    refine (fun hh => by omega : (la + 149).toNat * B + re m (2 ^ (la - p).toNat) ≤ (lb + 149).toNat * B + re n (2 ^ (lb - p).toNat) → _) ?_
    by_cases hE : la = lb
    · rw [hE]
      exact Nat.add_le_add_left (re_mono _ (Nat.two_pow_pos _) h) _
    · have h1 : lb = p + y - 23 := by omega
      have k1 : re m (2 ^ (la - p).toNat) ≤ 2 * B := by
        refine re_le _ _ _ (Nat.two_pow_pos _) ?_
        refine Nat.le_trans (Nat.le_of_lt bm) ?_
        rw [hB3, ← Nat.pow_add]
        exact Nat.pow_le_pow_right (by omega) (by omega)
      have k2 : B ≤ re n (2 ^ (lb - p).toNat) := by
        refine le_re _ _ _ (Nat.two_pow_pos _) ?_
        refine Nat.le_trans ?_ an
        rw [hB2, ← Nat.pow_add]
        exact Nat.pow_le_pow_right (by omega) (by omega)
      generalize re m _ = u at *
      generalize re n _ = v at *
      have k3 : (la + 149).toNat + 1 ≤ (lb + 149).toNat := by omega
      generalize (la + 149).toNat = s at *
      generalize (lb + 149).toNat = t at *
      have k4 : (s + 1) * B ≤ t * B := Nat.mul_le_mul_right _ k3
      rw [Nat.add_mul, Nat.one_mul] at k4
      omega
theorem R_mono {m n : Nat} (p : Int) (h : m ≤ n) : R m p ≤ R n p := by
  have e : ∀ q, R q p = R (q <<< (p + 149).toNat) (p - (p + 149).toNat) := fun q => by rw [R_scale]; congr 1; omega
  rw [e, e]
  refine R_mono0 _ (by omega) ?_
  rw [Nat.shiftLeft_eq, Nat.shiftLeft_eq]
  exact Nat.mul_le_mul_right _ h
theorem R_inf (m : Nat) (p : Int) : R m p ≤ 2139095040 := by
  unfold R
  split
  · omega
  · exact Nat.min_le_right _ _
theorem R_fin (m : Nat) (p : Int) (h : m = 0 ∨ p + m.log2 ≤ 126) : R m p < 2139095040 := by
  unfold R
  split
  · omega
  · rename_i hm
    have h := h.resolve_left hm
    have bm : m < 2 ^ (m.log2 + 1) := Nat.lt_log2_self
    dsimp only
    generalize m.log2 = x at *
    obtain ⟨B, hB⟩ : ∃ B : Nat, B = 8388608 := ⟨_, rfl⟩
    have hB3 : 2 * B = 2 ^ 24 := by rw [hB]
    rw [← hB]
    obtain ⟨la, hla⟩ : ∃ la : Int, la = max (p + (x : Int) - 23) (-149) := ⟨_, rfl⟩
    rw [← hla]
    have k1 : re (m <<< (p - la).toNat) (2 ^ (la - p).toNat) ≤ 2 * B := by
      refine re_le _ _ _ (Nat.two_pow_pos _) ?_
      rw [Nat.shiftLeft_eq, hB3, ← Nat.pow_add]
      refine Nat.le_trans (Nat.mul_le_mul_right _ (Nat.le_of_lt bm)) ?_
      rw [← Nat.pow_add]
      exact Nat.pow_le_pow_right (by omega) (by omega)
    generalize re _ _ = u at *
    have k3 : (la + 149).toNat ≤ 252 := by omega
    generalize (la + 149).toNat = s at *
    have k4 : s * B ≤ 252 * B := Nat.mul_le_mul_right _ k3
    omega
/-- what a rung stands for, in units of 2 ^ -149 -/
def V (r : Nat) : Nat := if r < 8388608 then r else (8388608 + r % 8388608) <<< (r / 8388608 - 1)
theorem log2_of {m k : Nat} (h1 : 2 ^ k ≤ m) (h2 : m < 2 ^ (k + 1)) : m.log2 = k := by
  have hm : m ≠ 0 := by have := Nat.two_pow_pos k; omega
  have a := (Nat.le_log2 hm).2 h1
  have b := (Nat.log2_lt hm).2 h2
  omega
theorem R_V (r : Nat) (h : r ≤ 2139095040) : R (V r) (-149) = r := by
  unfold V
  by_cases hr : r < 8388608
  · rw [if_pos hr]
    unfold R
    by_cases h0 : r = 0
    · rw [if_pos h0, h0]
    · rw [if_neg h0]
      have hl : r.log2 < 23 := (Nat.log2_lt h0).2 (by omega)
      dsimp only
      have e : max (-149 + (r.log2 : Int) - 23) (-149) = -149 := by omega
      rw [e]
      have r1 : re r 1 = r := by have := re_exact 1 (by omega) r; rwa [Nat.mul_one] at this
      show min (0 * 8388608 + re (r <<< 0) (2 ^ 0)) 2139095040 = r
      rw [Nat.shiftLeft_zero, Nat.pow_zero, r1]
      omega
  · rw [if_neg hr]
    obtain ⟨q, hq⟩ : ∃ q, q = r / 8388608 := ⟨_, rfl⟩
    obtain ⟨s, hs⟩ : ∃ s, s = r % 8388608 := ⟨_, rfl⟩
    have hd : r = q * 8388608 + s := by omega
    have hs2 : s < 8388608 := by omega
    have hq1 : 1 ≤ q := by omega
    rw [← hq, ← hs]
    have hl : (8388608 + s).log2 = 23 := log2_of (by omega) (by omega)
    have hn : 8388608 + s ≠ 0 := by omega
    rw [R_scale]
    unfold R
    rw [if_neg hn]
    dsimp only
    rw [hl]
    have e : max (-149 + ((q - 1 : Nat) : Int) + ((23 : Nat) : Int) - 23) (-149) = -149 + ((q - 1 : Nat) : Int) := by omega
    rw [e]
    have e2 : (-149 + ((q - 1 : Nat) : Int) + 149).toNat = q - 1 := by omega
    have e3 : (-149 + ((q - 1 : Nat) : Int) - (-149 + ((q - 1 : Nat) : Int))).toNat = 0 := by omega
    rw [e2, e3]
    have r1 : ∀ x, re x 1 = x := fun x => by have := re_exact 1 (by omega) x; rwa [Nat.mul_one] at this
    rw [Nat.shiftLeft_zero, Nat.pow_zero, r1]
    omega
theorem V_le {r s : Nat} (hr : r ≤ 2139095040) (hs : s ≤ 2139095040) : V r ≤ V s ↔ r ≤ s := by
  have a : ∀ {r s : Nat}, r ≤ 2139095040 → s ≤ 2139095040 → V r ≤ V s → r ≤ s := fun hr hs h => by
    have := R_mono (-149) h
    rwa [R_V _ hr, R_V _ hs] at this
  refine ⟨a hr hs, fun h => ?_⟩
  rcases Nat.lt_or_ge (V s) (V r) with h1 | h1
  · have := a hs hr (Nat.le_of_lt h1)
    have e : r = s := by omega
    rw [e] at h1; omega
  · exact h1
theorem read_fin (r : Nat) (h : r < 2139095040) : ∃ m p, single.read r = .number false m p ∧ (-149 : Int) ≤ p ∧ m <<< (p + 149).toNat = V r ∧ m < 16777216 := by
  have e0 : single.signWeight = 2147483648 := by decide
  have e1 : single.leastPlace = -149 := by decide
  have e2 : single.binade = 8388608 := by decide
  have e3 : single.infRung = 2139095040 := by decide
  unfold Format.read
  rw [e0, e1, e2, e3]
  have h1 : r / 2147483648 = 0 := Nat.div_eq_of_lt (by omega)
  have h2 : r % 2147483648 = r := Nat.mod_eq_of_lt (by omega)
  dsimp only
  rw [h1, h2]
  unfold V
  by_cases hr : r < 8388608
  · rw [if_pos hr, if_pos hr]
    exact ⟨r, -149, rfl, by omega, by show r <<< 0 = r; rw [Nat.shiftLeft_zero], by omega⟩
  · rw [if_neg hr, if_neg hr, if_pos h]
    refine ⟨_, _, rfl, by omega, ?_, by omega⟩
    have : (-149 + ((r / 8388608 - 1 : Nat) : Int) + 149).toNat = r / 8388608 - 1 := by omega
    rw [this]
theorem read_inf : single.read 2139095040 = .infinity false := by decide
theorem read_nz : single.read 2147483648 = .number true 0 (-149) := by decide
theorem signed_f (m k : Nat) : signed false m k = ((m <<< k : Nat) : Int) := rfl
theorem word_f (r : Nat) : single.word false r = r := rfl
/-- a number at a lower base -/
theorem shl_base (m : Nat) (p b : Int) (h1 : -149 ≤ b) (h2 : b ≤ p) : (m <<< (p - b).toNat) <<< (b + 149).toNat = m <<< (p + 149).toNat := by
  rw [← Nat.shiftLeft_add]
  congr 1
  omega
theorem cmp_shl (a b k : Nat) : compare (a <<< k) (b <<< k) = compare a b := by
  have hk := Nat.two_pow_pos k
  rw [Nat.shiftLeft_eq, Nat.shiftLeft_eq]
  rcases Nat.lt_trichotomy a b with h | h | h
  · rw [Nat.compare_eq_lt.2 h, Nat.compare_eq_lt.2 (Nat.mul_lt_mul_of_pos_right h hk)]
  · rw [h]; simp
  · rw [Nat.compare_eq_gt.2 h, Nat.compare_eq_gt.2 (Nat.mul_lt_mul_of_pos_right h hk)]
theorem cmp_int (a b : Nat) : compare (a : Int) (b : Int) = compare a b := by
  rcases Nat.lt_trichotomy a b with h | h | h
  · rw [Nat.compare_eq_lt.2 h]; exact Int.compare_eq_lt.2 (by omega)
  · rw [h]; simp
  · rw [Nat.compare_eq_gt.2 h]; exact Int.compare_eq_gt.2 (by omega)
theorem cmp_V {r s : Nat} (hr : r ≤ 2139095040) (hs : s ≤ 2139095040) : compare (V r) (V s) = compare r s := by
  have a := V_le hr hs
  have b := V_le hs hr
  rcases Nat.lt_trichotomy r s with h | h | h
  · rw [Nat.compare_eq_lt.2 h, Nat.compare_eq_lt.2 (by omega)]
  · rw [h]; simp
  · rw [Nat.compare_eq_gt.2 h, Nat.compare_eq_gt.2 (by omega)]
theorem order_pos (x y : Nat) (hx : x ≤ 2139095040) (hy : y ≤ 2139095040) : single.order x y = some (compare x y) := by
  unfold Format.order
  rcases Nat.lt_or_ge x 2139095040 with h1 | h1 <;> rcases Nat.lt_or_ge y 2139095040 with h2 | h2
  · obtain ⟨m, p, e1, l1, v1, -⟩ := read_fin x h1
    obtain ⟨n, q, e2, l2, v2, -⟩ := read_fin y h2
    rw [e1, e2]
    unfold Datum.order
    dsimp only
    congr 1
    rw [signed_f, signed_f, cmp_int, ← cmp_V hx hy, ← v1, ← v2, ← shl_base m p (min p q) (by omega) (by omega), ← shl_base n q (min p q) (by omega) (by omega), cmp_shl]
  · have : y = 2139095040 := by omega
    subst this
    obtain ⟨m, p, e1, l1, v1, -⟩ := read_fin x h1
    rw [e1, read_inf, Nat.compare_eq_lt.2 h1]
    rfl
  · have : x = 2139095040 := by omega
    subst this
    obtain ⟨m, p, e1, l1, v1, -⟩ := read_fin y h2
    rw [e1, read_inf, Nat.compare_eq_gt.2 h2]
    rfl
  · have : x = 2139095040 := by omega
    have : y = 2139095040 := by omega
    subst x; subst y
    decide
/-- the sum -/
def S (x y : Nat) : Nat := if x = 2139095040 ∨ y = 2139095040 then 2139095040 else R (V x + V y) (-149)
theorem add_pos (x y : Nat) (hx : x ≤ 2139095040) (hy : y ≤ 2139095040) : single.add x y = some (S x y) := by
  unfold Format.add S
  rcases Nat.lt_or_ge x 2139095040 with h1 | h1 <;> rcases Nat.lt_or_ge y 2139095040 with h2 | h2
  · rw [if_neg (by omega)]
    obtain ⟨m, p, e1, l1, v1, -⟩ := read_fin x h1
    obtain ⟨n, q, e2, l2, v2, -⟩ := read_fin y h2
    rw [e1, e2]
    unfold Datum.sum
    dsimp only
    rw [signed_f, signed_f, ← Int.natCast_add, Int.natAbs_natCast]
    have hneg : (if ((m <<< (p - min p q).toNat + n <<< (q - min p q).toNat : Nat) : Int) = 0 then false && false else decide (((m <<< (p - min p q).toNat + n <<< (q - min p q).toNat : Nat) : Int) < 0)) = false := by
      split
      · rfl
      · exact decide_eq_false (Int.not_lt.2 (Int.natCast_nonneg _))
    rw [hneg]
    show some (single.nearest false _ _) = _
    rw [nearest_R, word_f, ← v1, ← v2, ← shl_base m p (min p q) (by omega) (by omega), ← shl_base n q (min p q) (by omega) (by omega)]
    congr 1
    generalize m <<< (p - min p q).toNat = a
    generalize n <<< (q - min p q).toNat = b
    rw [Nat.shiftLeft_eq, Nat.shiftLeft_eq, ← Nat.add_mul, ← Nat.shiftLeft_eq, R_scale]
    congr 1
    omega
  · have : y = 2139095040 := by omega
    subst this
    obtain ⟨m, p, e1, l1, v1, -⟩ := read_fin x h1
    rw [e1, read_inf, if_pos (Or.inr rfl)]
    show some (single.write (.infinity false)) = _
    decide
  · have : x = 2139095040 := by omega
    subst this
    obtain ⟨m, p, e1, l1, v1, -⟩ := read_fin y h2
    rw [e1, read_inf, if_pos (Or.inl rfl)]
    show some (single.write (.infinity false)) = _
    decide
  · have : x = 2139095040 := by omega
    have : y = 2139095040 := by omega
    subst x; subst y
    rw [if_pos (Or.inl rfl)]
    decide
theorem S_le (x y : Nat) : S x y ≤ 2139095040 := by
  unfold S
  split
  · omega
  · exact R_inf _ _
theorem S_mono {x y z : Nat} (hy : y ≤ z) (hz : z ≤ 2139095040) : S x y ≤ S x z := by
  unfold S
  by_cases h : x = 2139095040 ∨ z = 2139095040
  · rw [if_pos h]; split
    · omega
    · exact R_inf _ _
  · rw [if_neg h, if_neg (by omega)]
    exact R_mono _ (Nat.add_le_add_left ((V_le (by omega) hz).2 hy) _)
theorem S_ge (x y : Nat) (hx : x ≤ 2139095040) : x ≤ S x y := by
  unfold S
  split
  · exact hx
  · have := R_mono (-149) (Nat.le_add_right (V x) (V y))
    rwa [R_V x hx] at this
/-- the product of two that are finite -/
def M (x y : Nat) : Nat := R (V x * V y) (-298)
theorem mul_pos (x y : Nat) (hx : x < 2139095040) (hy : y < 2139095040) : single.mul x y = some (M x y) := by
  unfold Format.mul M
  obtain ⟨m, p, e1, l1, v1, -⟩ := read_fin x hx
  obtain ⟨n, q, e2, l2, v2, -⟩ := read_fin y hy
  rw [e1, e2]
  show some (single.nearest false (m * n) (p + q)) = _
  rw [nearest_R, word_f, ← v1, ← v2, Nat.shiftLeft_eq, Nat.shiftLeft_eq]
  have : m * 2 ^ (p + 149).toNat * (n * 2 ^ (q + 149).toNat) = (m * n) <<< ((p + 149).toNat + (q + 149).toNat) := by
    rw [Nat.shiftLeft_eq, Nat.pow_add]; ac_rfl
  rw [this, R_scale]
  congr 2
  omega
theorem M_le (x y : Nat) : M x y ≤ 2139095040 := R_inf _ _
theorem M_mono {x y z : Nat} (h : x ≤ y) (hy : y ≤ 2139095040) : M x z ≤ M y z := R_mono _ (Nat.mul_le_mul_right _ ((V_le (by omega) hy).2 h))
/-- the difference, where it is not below nought -/
def D (x y : Nat) : Nat := R (V x - V y) (-149)
theorem sub_pos (x y : Nat) (hx : x < 2139095040) (hy : y < 2139095040) (h : y ≤ x) : single.sub x y = some (D x y) := by
  have hV := (V_le (by omega) (by omega)).2 h
  unfold Format.sub D
  obtain ⟨m, p, e1, l1, v1, -⟩ := read_fin x hx
  obtain ⟨n, q, e2, l2, v2, -⟩ := read_fin y hy
  rw [e1, e2]
  unfold Datum.opposite Datum.sum
  dsimp only
  have hs : signed (!false) n (q - min p q).toNat = -((n <<< (q - min p q).toNat : Nat) : Int) := rfl
  rw [signed_f, hs]
  have f1 := shl_base m p (min p q) (by omega) (by omega)
  have f2 := shl_base n q (min p q) (by omega) (by omega)
  rw [v1] at f1
  rw [v2] at f2
  generalize m <<< (p - min p q).toNat = a at *
  generalize n <<< (q - min p q).toNat = b at *
  have hab : b ≤ a := by
    rw [← f1, ← f2, Nat.shiftLeft_eq, Nat.shiftLeft_eq] at hV
    exact Nat.le_of_mul_le_mul_right hV (Nat.two_pow_pos _)
  have e : (a : Int) + -(b : Int) = ((a - b : Nat) : Int) := by omega
  rw [e, Int.natAbs_natCast]
  have hneg2 : (if ((a - b : Nat) : Int) = 0 then false && !false else decide (((a - b : Nat) : Int) < 0)) = false := by
    split
    · rfl
    · exact decide_eq_false (Int.not_lt.2 (Int.natCast_nonneg _))
  rw [hneg2]
  show some (single.nearest false _ _) = _
  rw [nearest_R, word_f, ← f1, ← f2]
  congr 1
  rw [Nat.shiftLeft_eq, Nat.shiftLeft_eq, ← Nat.sub_mul, ← Nat.shiftLeft_eq, R_scale]
  congr 1
  omega
theorem D_le (x y : Nat) (hx : x ≤ 2139095040) : D x y ≤ x := by
  have := R_mono (-149) (Nat.sub_le (V x) (V y))
  rwa [R_V x hx] at this
/-- the quotient's word -/
def Q (x y : Nat) : Nat := match single.read x, single.read y with
  | .number _ m i, .number _ n j => R (2 * (m <<< (25 + n.log2 - m.log2) / n) + (m <<< (25 + n.log2 - m.log2) % n != 0).toNat) (i - j - ((25 + n.log2 - m.log2 : Nat) : Int) - 1)
  | _, _ => 0
theorem div_pos (x y : Nat) (hx : x < 2139095040) (hy : y < 2139095040) (h0 : 0 < y) : single.div x y = some (Q x y) := by
  have hV : V y ≠ 0 := by
    have := V_le (r := 0) (s := y) (by omega) (by omega)
    intro hz
    have h2 := (V_le (r := y) (s := 0) (by omega) (by omega)).1 (by rw [hz]; exact Nat.zero_le _)
    omega
  unfold Format.div Q
  obtain ⟨m, p, e1, l1, v1, m1⟩ := read_fin x hx
  obtain ⟨n, q, e2, l2, v2, m2⟩ := read_fin y hy
  have hn : n ≠ 0 := by
    intro hz
    rw [hz, Nat.zero_shiftLeft] at v2
    exact hV v2.symm
  rw [e1, e2]
  unfold Datum.quotient
  dsimp only
  rw [if_neg hn]
  show some (single.nearest false _ _) = _
  rw [nearest_R, word_f]
  rfl
theorem log2_V {m : Nat} {p : Int} (hm : m ≠ 0) (hp : -149 ≤ p) : ((m <<< (p + 149).toNat).log2 : Int) = m.log2 + p + 149 := by
  rw [log2_shift _ _ hm]; omega
theorem R_le1 (m : Nat) (p e : Int) (h : m = 0 ∨ p + m.log2 + 1 ≤ e) : R m p ≤ R 1 e := by
  by_cases h0 : m = 0
  · subst h0; rw [show R 0 p = 0 from if_pos rfl]; exact Nat.zero_le _
  · have h := h.resolve_left h0
    have b : m < 2 ^ (m.log2 + 1) := Nat.lt_log2_self
    have e1 : R 1 e = R (1 <<< (e - p).toNat) p := by rw [R_scale]; congr 1; omega
    rw [e1]
    refine R_mono p ?_
    rw [Nat.one_shiftLeft]
    exact Nat.le_trans (Nat.le_of_lt b) (Nat.pow_le_pow_right (by omega) (by omega))
theorem Q_le (x y : Nat) (hx : x < 2139095040) (hy : y < 2139095040) (h1 : (V x).log2 ≤ 200) (h2 : 149 ≤ (V y).log2) : Q x y ≤ R 1 60 := by
  unfold Q
  obtain ⟨m, p, e1, l1, v1, m1⟩ := read_fin x hx
  obtain ⟨n, q, e2, l2, v2, m2⟩ := read_fin y hy
  have hn : n ≠ 0 := by
    intro hz
    rw [hz, Nat.zero_shiftLeft] at v2
    rw [← v2] at h2
    simp at h2
  rw [e1, e2]
  dsimp only
  by_cases hm : m = 0
  · subst hm
    refine R_le1 _ _ _ (Or.inl ?_)
    rw [Nat.zero_shiftLeft]
    simp
  · have a1 := log2_V hm l1
    have a2 := log2_V hn l2
    rw [v1] at a1
    rw [v2] at a2
    have b1 : m.log2 < 24 := (Nat.log2_lt hm).2 (by omega)
    have b2 : m < 2 ^ (m.log2 + 1) := Nat.lt_log2_self
    have b3 := Nat.log2_self_le hn
    refine R_le1 _ _ _ (Or.inr ?_)
    have hq : m <<< (25 + n.log2 - m.log2) / n < 2 ^ 26 := by
      rw [Nat.div_lt_iff_lt_mul (Nat.pos_of_ne_zero hn), Nat.shiftLeft_eq]
      have c1 : m * 2 ^ (25 + n.log2 - m.log2) < 2 ^ (m.log2 + 1) * 2 ^ (25 + n.log2 - m.log2) := Nat.mul_lt_mul_of_pos_right b2 (Nat.two_pow_pos _)
      refine Nat.lt_of_lt_of_le c1 ?_
      refine Nat.le_trans ?_ (Nat.mul_le_mul_left _ b3)
      rw [← Nat.pow_add, ← Nat.pow_add]
      exact Nat.pow_le_pow_right (by omega) (by omega)
    have hb : (m <<< (25 + n.log2 - m.log2) % n != 0).toNat ≤ 1 := by cases (m <<< (25 + n.log2 - m.log2) % n != 0) <;> simp
    generalize (m <<< (25 + n.log2 - m.log2) % n != 0).toNat = z at *
    generalize m <<< (25 + n.log2 - m.log2) / n = t at *
    by_cases ht : 2 * t + z = 0
    · rw [ht]; simp; omega
    · have : (2 * t + z).log2 < 27 := (Nat.log2_lt ht).2 (by omega)
      omega
theorem big60 : R 1 60 < 2139095040 := by decide
theorem one_rung : R 1 0 = 1065353216 := by decide
theorem V_log {x : Nat} {k : Nat} (h : V x < 2 ^ (k + 1)) : (V x).log2 ≤ k := by
  by_cases h0 : V x = 0
  · rw [h0]; simp
  · have := (Nat.log2_lt h0).2 h
    omega
theorem V_int {n : Nat} (h : n ≤ 1048576) : (V (R n 0)).log2 ≤ 200 := by
  refine V_log (Nat.lt_of_le_of_lt ((V_le (R_inf _ _) (R_inf _ _)).2 (R_mono 0 h)) ?_)
  decide
theorem V_int1 {n : Nat} (h : 1 ≤ n) : 149 ≤ (V (R n 0)).log2 := by
  have h1 := (V_le (R_inf 1 0) (R_inf n 0)).2 (R_mono 0 h)
  have h2 : 2 ^ 149 ≤ V (R 1 0) := by decide
  have h3 : V (R n 0) ≠ 0 := by
    have : 0 < 2 ^ 149 := Nat.two_pow_pos _
    omega
  exact (Nat.le_log2 h3).2 (Nat.le_trans h2 h1)
/-- one more, of what is small, is finite -/
theorem S_one {x : Nat} (h : x ≤ R 1 60) : S x 1065353216 < 2139095040 ∧ 1065353216 ≤ S x 1065353216 := by
  have hb := big60
  have hV := (V_le (r := x) (s := R 1 60) (by omega) (by omega)).2 h
  have hc : V (R 1 60) < 2 ^ 230 := by decide
  have hd : V 1065353216 < 2 ^ 230 := by decide
  unfold S
  rw [if_neg (by omega)]
  constructor
  · refine R_fin _ _ ?_
    by_cases h0 : V x + V 1065353216 = 0
    · exact Or.inl h0
    · right
      have : (V x + V 1065353216).log2 < 231 := (Nat.log2_lt h0).2 (by rw [Nat.pow_succ 2 230]; omega)
      omega
  · have := R_mono (-149) (Nat.le_add_left (V 1065353216) (V x))
    rwa [R_V 1065353216 (by omega)] at this
end Go.Proofs.Ytnbpbonpcbemdaa.Fl
