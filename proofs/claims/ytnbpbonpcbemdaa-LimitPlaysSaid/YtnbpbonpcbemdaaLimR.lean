/- Floats that are a number or infinite: product and quotient by two; Real, plain. -/
import Derived.Test.YtnbpbonpcbemdaaLimI
namespace Go.Proofs.Ytnbpbonpcbemdaa.Fl
open Ieee
/-- no NaN -/
def nn (x : Nat) : Prop := x < 4294967296 ∧ x % 2147483648 ≤ 2139095040
theorem read_nn {x : Nat} (h : nn x) : (∃ s m p, single.read x = .number s m p) ∨ ∃ s, single.read x = .infinity s := by
  rw [read_sw]
  have h2 := h.2
  by_cases h3 : x % 2147483648 < 8388608
  · rw [if_pos h3]; exact .inl ⟨_, _, _, rfl⟩
  · rw [if_neg h3]
    by_cases h4 : x % 2147483648 < 2139095040
    · rw [if_pos h4]; exact .inl ⟨_, _, _, rfl⟩
    · rw [if_neg h4, if_pos (by omega)]; exact .inr ⟨_, rfl⟩
theorem word_nn (s : Bool) (r : Nat) (h : r ≤ 2139095040) : nn (single.word s r) := by
  have e0 : single.signWeight = 2147483648 := by decide
  unfold nn Format.word
  rw [e0]
  cases s
  · simp only [Bool.false_eq_true, if_false]; omega
  · simp only [if_true]; omega
theorem num_nn (s : Bool) (m : Nat) (p : Int) : nn (single.write (.number s m p)) := by
  show nn (single.nearest s m p)
  rw [nearest_R]
  exact word_nn s _ (R_inf _ _)
theorem inf_nn (s : Bool) : nn (single.write (.infinity s)) := word_nn s 2139095040 (Nat.le_refl _)
theorem read_two : single.read 1073741824 = .number false 8388608 (-22) := by decide
theorem mul_two {x : Nat} (h : nn x) : ∃ r, single.mul x 1073741824 = some r ∧ nn r := by
  unfold Format.mul
  rw [read_two]
  rcases read_nn h with ⟨s, m, p, e⟩ | ⟨s, e⟩
  · rw [e]; exact ⟨_, rfl, num_nn _ _ _⟩
  · rw [e]; exact ⟨_, rfl, inf_nn _⟩
theorem div_two {x : Nat} (h : nn x) : ∃ r, single.div x 1073741824 = some r ∧ nn r := by
  unfold Format.div
  rw [read_two]
  rcases read_nn h with ⟨s, m, p, e⟩ | ⟨s, e⟩
  · rw [e]; exact ⟨_, rfl, num_nn _ _ _⟩
  · rw [e]; exact ⟨_, rfl, inf_nn _⟩
theorem ofInt_nn (n : Int) : nn (floatOfInt .f32 n) := num_nn _ _ _
theorem div_int {x d : Nat} (h : nn x) (h1 : 1 ≤ d) (h2 : d < 2 ^ 64) : ∃ r, single.div x (R d 0) = some r ∧ nn r := by
  have hy := R_int_fin d h2
  obtain ⟨m2, p2, e2, -, v2, -⟩ := read_fin (R d 0) hy
  have hn : m2 ≠ 0 := by
    intro hz
    rw [hz, Nat.zero_shiftLeft] at v2
    have := V_int1 h1
    rw [← v2] at this
    simp at this
  unfold Format.div
  rw [e2]
  rcases read_nn h with ⟨s, m, p, e⟩ | ⟨s, e⟩
  · rw [e]
    unfold Datum.quotient
    dsimp only
    rw [if_neg hn]
    exact ⟨_, rfl, num_nn _ _ _⟩
  · rw [e]; exact ⟨_, rfl, inf_nn _⟩
/-- twice, or half -/
def stepF (e : Int) (f : Nat) : Nat := if e < 0 then (single.div f 1073741824).getD 0 else (single.mul f 1073741824).getD 0
theorem stepF_nn (e : Int) {f : Nat} (h : nn f) : nn (stepF e f) := by
  unfold stepF
  split
  · obtain ⟨r, e, hr⟩ := div_two h; rw [e]; exact hr
  · obtain ⟨r, e, hr⟩ := mul_two h; rw [e]; exact hr
def iterF (e : Int) : Nat → Nat → Nat
  | 0, f => f
  | k + 1, f => stepF e (iterF e k f)
theorem iterF_nn (e : Int) {f : Nat} (h : nn f) : ∀ k, nn (iterF e k f)
  | 0 => h
  | k + 1 => stepF_nn e (iterF_nn e h k)
end Go.Proofs.Ytnbpbonpcbemdaa.Fl
