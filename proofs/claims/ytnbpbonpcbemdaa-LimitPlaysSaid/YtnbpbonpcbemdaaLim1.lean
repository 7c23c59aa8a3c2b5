/- Limiters: floats as the program reckons with them; filled, level, nearest, pick, near, name. -/
import Derived.Test.YtnbpbonpcbemdaaFloat
import Derived.Test.YtnbpbonpcbemdaaStr
import Derived.Test.YtnbpbonpcbemdaaText2
import Derived.Test.YtnbpbonpcbemdaaFar
import Derived.Laws.FloatArith
namespace Go.Proofs.Ytnbpbonpcbemdaa
open Go.RowKit
namespace Fl
open Ieee
/-- a number that is neither below nought nor infinite -/
def Pr (x : Nat) : Prop := x < 2139095040 ∨ x = 2147483648
def Z (x : Nat) : Nat := if x = 2147483648 then 0 else x
theorem Z_fin {x : Nat} (h : Pr x) : Z x < 2139095040 := by
  unfold Z; rcases h with h | h
  · rw [if_neg (by omega)]; exact h
  · rw [if_pos h]; omega
theorem Z_same {x : Nat} (h : x < 2139095040) : Z x = x := if_neg (by omega)
theorem read_0 : single.read 0 = .number false 0 (-149) := by decide
theorem sgn0 (b : Bool) (k : Nat) : signed b 0 k = 0 := by
  unfold signed; rw [Nat.zero_shiftLeft]; cases b <;> rfl
theorem order_nz_l (y : Nat) : single.order 2147483648 y = single.order 0 y := by
  unfold Format.order
  rw [read_nz, read_0]
  cases single.read y <;> simp only [Datum.order, sgn0]
theorem order_nz_r (y : Nat) : single.order y 2147483648 = single.order y 0 := by
  unfold Format.order
  rw [read_nz, read_0]
  cases single.read y <;> simp only [Datum.order, sgn0]
theorem order_Z {x y : Nat} (hx : Pr x) (hy : Pr y) : single.order x y = some (compare (Z x) (Z y)) := by
  have a : single.order x y = single.order (Z x) (Z y) := by
    rcases hx with hx | rfl <;> rcases hy with hy | rfl
    · rw [Z_same hx, Z_same hy]
    · rw [Z_same hx, order_nz_r]; rfl
    · rw [Z_same hy, order_nz_l]; rfl
    · rw [order_nz_l, order_nz_r]; rfl
  rw [a, order_pos _ _ (by have := Z_fin hx; omega) (by have := Z_fin hy; omega)]
theorem V_0 : V 0 = 0 := by decide
theorem mul_nz (x : Nat) (hx : x < 2139095040) : single.mul x 2147483648 = some 2147483648 := by
  unfold Format.mul
  obtain ⟨m, p, e1, -, -, -⟩ := read_fin x hx
  rw [e1, read_nz]
  show some (single.nearest true (m * 0) _) = _
  rw [Nat.mul_zero, nearest_R]
  have : ∀ p, R 0 p = 0 := fun p => if_pos rfl
  rw [this]
  decide
theorem add_nz (x : Nat) (hx : x < 2139095040) : single.add x 2147483648 = some x := by
  unfold Format.add
  obtain ⟨m, p, e1, l1, v1, -⟩ := read_fin x hx
  rw [e1, read_nz]
  unfold Datum.sum
  dsimp only
  have hb : min p (-149) = -149 := by omega
  rw [hb, sgn0, signed_f, Int.add_zero, Int.natAbs_natCast]
  have e2 : p - -149 = p + 149 := by omega
  rw [e2, v1]
  have hneg : (if ((V x : Nat) : Int) = 0 then false && true else decide (((V x : Nat) : Int) < 0)) = false := by
    split
    · rfl
    · exact decide_eq_false (Int.not_lt.2 (Int.natCast_nonneg _))
  rw [hneg]
  show some (single.nearest false _ _) = _
  rw [nearest_R, word_f, R_V x (by omega)]
theorem S_0 (x : Nat) (hx : x ≤ 2139095040) : S x 0 = x := by
  unfold S
  split
  · omega
  · rw [V_0, Nat.add_zero, R_V x hx]
theorem D_0 (x : Nat) (hx : x ≤ 2139095040) : D x 0 = x := by
  unfold D
  rw [V_0, Nat.sub_zero, R_V x hx]
theorem M_0 (x : Nat) : M x 0 = 0 := by
  unfold M
  rw [V_0, Nat.mul_zero]
  exact if_pos rfl
theorem sub_Z {x y : Nat} (hx : x < 2139095040) (hy : Pr y) (h : Z y ≤ x) : single.sub x y = some (D x (Z y)) := by
  rcases hy with hy | rfl
  · rw [Z_same hy] at h ⊢
    exact sub_pos x y hx hy h
  · have e : single.sub x 2147483648 = single.add x 0 := by
      unfold Format.sub Format.add
      rw [read_nz, read_0]
      rfl
    rw [e, add_pos x 0 (by omega) (by omega), S_0 x (by omega)]
    show _ = some (D x 0)
    rw [D_0 x (by omega)]
theorem ofInt (d : Nat) : floatOfInt .f32 (d : Int) = R d 0 := by
  show single.nearest (decide ((d : Int) < 0)) (d : Int).natAbs 0 = _
  rw [nearest_R, Int.natAbs_natCast, decide_eq_false (Int.not_lt.2 (Int.natCast_nonneg _)), word_f]
theorem R_int_fin (d : Nat) (h : d < 2 ^ 64) : R d 0 < 2139095040 := by
  refine R_fin _ _ ?_
  by_cases h0 : d = 0
  · exact Or.inl h0
  · right
    have := (Nat.log2_lt h0).2 h
    omega
/-- more, of seconds and a rate -/
def more (rate d : Nat) : Nat := if rate = 2147483648 then 2147483648 else M (R d 0) rate
theorem mul_more {rate d : Nat} (hr : Pr rate) (hd : d < 2 ^ 64) : single.mul (R d 0) rate = some (more rate d) := by
  unfold more
  rcases hr with hr | rfl
  · rw [if_neg (by omega), mul_pos _ _ (R_int_fin d hd) hr]
  · rw [if_pos rfl, mul_nz _ (R_int_fin d hd)]
/-- a level and what has come to it -/
def sumN (rate level d : Nat) : Nat := S level (M (R d 0) (Z rate))
theorem add_more {rate level d : Nat} (hr : Pr rate) (hl : level < 2139095040) : single.add level (more rate d) = some (sumN rate level d) := by
  unfold more sumN
  rcases hr with hr | rfl
  · rw [if_neg (by omega), Z_same hr, add_pos _ _ (by omega) (M_le _ _)]
  · rw [if_pos rfl, add_nz _ hl]
    show _ = some (S level (M (R d 0) 0))
    rw [M_0, S_0 _ (by omega)]
theorem sumN_le (rate level d : Nat) : sumN rate level d ≤ 2139095040 := S_le _ _
theorem sumN_mono (rate level : Nat) {d e : Nat} (h : d ≤ e) (he : e < 2 ^ 64) : sumN rate level d ≤ sumN rate level e :=
  S_mono (M_mono (R_mono 0 h) (by have := R_int_fin e he; omega)) (M_le _ _)
theorem sumN_ge (rate level d : Nat) (h : level ≤ 2139095040) : level ≤ sumN rate level d := S_ge _ _ h
/-- the level, behind so many seconds -/
def fillN (rate burst level d : Nat) : Nat := min burst (sumN rate level d)
theorem fillN_le (rate burst level d : Nat) : fillN rate burst level d ≤ burst := Nat.min_le_left _ _
theorem fillN_mono (rate burst level : Nat) {d e : Nat} (h : d ≤ e) (he : e < 2 ^ 64) : fillN rate burst level d ≤ fillN rate burst level e := by
  have := sumN_mono rate level h he
  unfold fillN; omega
theorem fillN_full (rate burst d : Nat) (h : burst ≤ 2139095040) : fillN rate burst burst d = burst := by
  have := sumN_ge rate burst d h
  unfold fillN; omega
end Fl
section
variable {P : Program} {w : World}
theorem run_min_float (x y : Nat) (hx : x ≤ 2139095040) (hy : y ≤ 2139095040) (ts : Array TypeId) (t : TypeId) : (Builtin.min_ ts t #[.float .f32 x, .float .f32 y]).run P w = .ok (.float .f32 (min x y)) w := by
  have ho : FloatKind.f32.format.order x y = some (compare x y) := Fl.order_pos x y hx hy
  rcases Nat.lt_trichotomy x y with h | h | h
  · rw [Nat.compare_eq_lt.2 h] at ho
    simp [Builtin.min_, Builtin.min2, ho, Nat.min_eq_left (Nat.le_of_lt h)]
  · subst h
    rw [Nat.compare_eq_eq.2 rfl] at ho
    simp [Builtin.min_, Builtin.min2, ho]
  · rw [Nat.compare_eq_gt.2 h] at ho
    simp [Builtin.min_, Builtin.min2, ho, Nat.min_eq_right (Nat.le_of_lt h)]
end
/-- What is kept of a name. -/
structure Bkt where
  name : ByteArray
  level : Nat
  at_ : Int
abbrev enB (x : Bkt) : List Value := [.string x.name, .float .f32 x.level, .int .i64 x.at_]
abbrev BKT : TypeId := 62
abbrev LIMT : TypeId := 57
abbrev F32 : TypeId := 24
def Hp.lim (b rate burst : Nat) (l : List Bkt) : Hp := Hp.ex fun v : Value => Hp.all [Hp.blk b LIMT #[.float .f32 rate, .float .f32 burst, v], Hp.row BKT 3 v l.length (l.flatMap enB)]
section
variable {E w : World} {L : List Hp} {b rate burst : Nat} {l : List Bkt}
theorem Own.ofLim (h : Own E w (Hp.lim b rate burst l :: L)) : ∃ v, Own E w (Hp.blk b LIMT #[.float .f32 rate, .float .f32 burst, v] :: Hp.row BKT 3 v l.length (l.flatMap enB) :: L) := by
  obtain ⟨v, h⟩ := Own.ex.1 h
  exact ⟨v, Own.star.1 h⟩
theorem Own.toLim {v : Value} (h : Own E w (Hp.blk b LIMT #[.float .f32 rate, .float .f32 burst, v] :: Hp.row BKT 3 v l.length (l.flatMap enB) :: L)) : Own E w (Hp.lim b rate burst l :: L) := Own.ex.2 ⟨v, Own.star.2 h⟩
theorem Own.limRate (h : Own E w (Hp.lim b rate burst l :: L)) : w.cell? ⟨b, 0, none⟩ = some (.float .f32 rate) ∧ w.cell? ⟨b, 1, none⟩ = some (.float .f32 burst) := by
  obtain ⟨v, h⟩ := h.ofLim
  exact ⟨h.cell 0, h.cell 1⟩
end
end Go.Proofs.Ytnbpbonpcbemdaa
