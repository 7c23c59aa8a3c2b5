/- Floats of any bits: which are proper; limit.proper, latchkeyref24.finite. -/
import Derived.Test.YtnbpbonpcbemdaaLimG
namespace Go.Proofs.Ytnbpbonpcbemdaa
open Go.RowKit
namespace Fl
open Ieee
theorem read_sw (x : Nat) : single.read x = (if x % 2147483648 < 8388608 then .number (x / 2147483648 % 2 == 1) (x % 2147483648) (-149)
    else if x % 2147483648 < 2139095040 then .number (x / 2147483648 % 2 == 1) (8388608 + x % 2147483648 % 8388608) (-149 + (x % 2147483648 / 8388608 - 1 : Nat))
    else if x % 2147483648 = 2139095040 then .infinity (x / 2147483648 % 2 == 1) else .nan (x / 2147483648 % 2 == 1) (x % 2147483648 - 2139095040)) := by
  have e0 : single.signWeight = 2147483648 := by decide
  have e1 : single.leastPlace = -149 := by decide
  have e2 : single.binade = 8388608 := by decide
  have e3 : single.infRung = 2139095040 := by decide
  unfold Format.read
  rw [e0, e1, e2, e3]
theorem read_neg (r : Nat) (h0 : 0 < r) (h : r < 2139095040) : ∃ m p, single.read (2147483648 + r) = .number true m p ∧ 0 < m := by
  rw [read_sw]
  have h1 : (2147483648 + r) % 2147483648 = r := by omega
  have h2 : (2147483648 + r) / 2147483648 % 2 = 1 := by omega
  rw [h1, h2]
  by_cases hr : r < 8388608
  · rw [if_pos hr]; exact ⟨_, _, rfl, h0⟩
  · rw [if_neg hr, if_pos h]; exact ⟨_, _, rfl, by omega⟩
theorem read_nan (x : Nat) (h : 2139095040 < x % 2147483648) : ∃ s f, single.read x = .nan s f := by
  rw [read_sw, if_neg (by omega), if_neg (by omega), if_neg (by omega)]
  exact ⟨_, _, rfl⟩
theorem order_nan (x y : Nat) (h : 2139095040 < x % 2147483648) : single.order x y = none := by
  obtain ⟨s, f, e⟩ := read_nan x h
  unfold Format.order
  rw [e]
  rfl
/-- Is it a number that is neither below nought nor infinite? -/
def prB (x : Nat) : Bool := decide (x < 2139095040) || decide (x = 2147483648)
theorem prB_Pr {x : Nat} (h : prB x = true) : Pr x := by
  unfold prB at h
  rw [Bool.or_eq_true, decide_eq_true_eq, decide_eq_true_eq] at h
  exact h
theorem order0_neg (r : Nat) (h0 : 0 < r) (h : r < 2139095040) : single.order (2147483648 + r) 0 = some .lt := by
  obtain ⟨m, p, e, hm⟩ := read_neg r h0 h
  unfold Format.order
  rw [e, read_0]
  unfold Datum.order
  dsimp only
  rw [sgn0]
  congr 1
  rw [Int.compare_eq_lt]
  show -((m <<< _ : Nat) : Int) < 0
  have : 0 < m <<< (p - min p (-149)).toNat := by
    rw [Nat.shiftLeft_eq]; exact Nat.mul_pos hm (Nat.two_pow_pos _)
  omega
theorem order_ninf : single.order 4286578688 0 = some .lt := by decide
/-- What is at nought or above. -/
theorem ge0 (x : Nat) (hx : x < 4294967296) : (FloatKind.f32.format.order x 0 == some .gt || FloatKind.f32.format.order x 0 == some .eq) = (prB x || decide (x = 2139095040)) := by
  show (single.order x 0 == some .gt || single.order x 0 == some .eq) = _
  unfold prB
  rcases (by omega : x ≤ 2139095040 ∨ (2139095040 < x ∧ x < 2147483648) ∨ x = 2147483648 ∨ (2147483648 < x ∧ x < 4286578688) ∨ x = 4286578688 ∨ 4286578688 < x) with h | h | h | h | h | h
  · rw [order_pos x 0 h (by omega)]
    have e : (decide (x < 2139095040) || decide (x = 2147483648) || decide (x = 2139095040)) = true := by
      rcases Nat.lt_or_eq_of_le h with h | h
      · rw [decide_eq_true h]; rfl
      · rw [decide_eq_true h, Bool.or_true]
    rw [e]
    rcases Nat.eq_zero_or_pos x with h0 | h0
    · rw [h0]; decide
    · rw [Nat.compare_eq_gt.2 h0]; decide
  · rw [order_nan x 0 (by omega), decide_eq_false (by omega), decide_eq_false (by omega), decide_eq_false (by omega)]; rfl
  · rw [h]; decide
  · obtain ⟨r, rfl⟩ : ∃ r, x = 2147483648 + r := ⟨x - 2147483648, by omega⟩
    rw [order0_neg r (by omega) (by omega), decide_eq_false (by omega), decide_eq_false (by omega), decide_eq_false (by omega)]; rfl
  · rw [h]; decide
  · rw [order_nan x 0 (by omega), decide_eq_false (by omega), decide_eq_false (by omega), decide_eq_false (by omega)]; rfl
theorem inf_inf : single.sub 2139095040 2139095040 = none := by decide
end Fl
section
variable {P : Program} {w : World}
theorem cut_nan (x y tt : Nat) : 2139095040 < (Question.cut (.nanBits .f32 x y) tt) % 2147483648 := by
  show 2139095040 < ((tt % 2) * 2147483648 + 2139095040 + 1 + tt / 2 % 8388607) % 2147483648
  have hz : tt / 2 % 8388607 < 8388607 := Nat.mod_lt _ (by omega)
  generalize tt / 2 % 8388607 = z at *
  rcases (by omega : tt % 2 = 0 ∨ tt % 2 = 1) with h | h <;> rw [h] <;> omega
theorem run_sub_nan (t : TypeId) : ∃ r, (binOp .sub t (.float .f32 2139095040) (.float .f32 2139095040)).run P w = .ok (.float .f32 r) w.drew ∧ ∀ y, Ieee.single.order r y = none := by
  have e : FloatKind.f32.format.sub 2139095040 2139095040 = none := Fl.inf_inf
  refine ⟨_, by simp [binOp, Op.floatArith, e]; rfl, fun y => Fl.order_nan _ y ?_⟩
  exact cut_nan _ _ _
end
section
variable {E : World} {L : List Hp}
set_option maxHeartbeats 4000000 in
theorem proper_any (x : Nat) (w : World) (hx : x < 4294967296) (h : Own E w L) : Calls Try.prog 20 #[.float .f32 x] w fun e w' => e = .returned (.bool (Fl.prB x)) ∧ Own E w' L := by
  by_cases hp : Fl.prB x = true
  · refine (proper_ok x w (Fl.prB_Pr hp)).mono ?_
    rintro e w' ⟨rfl, rfl⟩
    rw [hp]; exact ⟨rfl, h⟩
  · have hp : Fl.prB x = false := by simpa using hp
    have hg := Fl.ge0 x hx
    rw [hp]
    rw [hp, Bool.false_or] at hg
    by_cases hi : x = 2139095040
    · subst hi
      obtain ⟨r, hrun, hno⟩ := run_sub_nan (P := Try.prog) (w := w) 24
      have he : (FloatKind.f32.format.order r 0 == some .eq) = false := by rw [show FloatKind.f32.format.order r 0 = none from hno 0]; rfl
      rw [decide_eq_true rfl] at hg
      have H := Lib.hid h.drew
      clear h hno
      go_enter Try.func20, Try.ntmps20
      go_wp2_with fail
      go_ret
      exact ⟨rfl, H.out⟩
    · rw [decide_eq_false hi] at hg
      go_enter Try.func20, Try.ntmps20
      go_wp2_with fail
      go_ret
      exact ⟨rfl, h⟩
set_option maxHeartbeats 4000000 in
theorem finite_any (x : Nat) (w : World) (hx : x < 4294967296) : Calls Try.prog 29 #[.float .f32 x] w fun e w' => e = .returned (.bool (Fl.prB x)) ∧ w = w' := by
  have hg := Fl.ge0 x hx
  by_cases hq : (Fl.prB x || decide (x = 2139095040)) = true
  · rw [hq] at hg
    have hl : (FloatKind.f32.format.order x 2139095039 == some .lt || FloatKind.f32.format.order x 2139095039 == some .eq) = Fl.prB x := by
      show (Ieee.single.order x 2139095039 == some .lt || Ieee.single.order x 2139095039 == some .eq) = _
      rw [Bool.or_eq_true, decide_eq_true_eq] at hq
      rcases hq with hq | rfl
      · rw [hq]
        have o := Fl.order_Z (Fl.prB_Pr hq) (y := 2139095039) (.inl (by omega))
        rw [o, Fl.Z_same (x := 2139095039) (by omega)]
        have hz := Fl.Z_fin (Fl.prB_Pr hq)
        rcases Nat.lt_or_eq_of_le (show Fl.Z x ≤ 2139095039 by omega) with h | h
        · rw [Nat.compare_eq_lt.2 h]; rfl
        · rw [h, Nat.compare_eq_eq.2 rfl]; rfl
      · decide
    generalize Fl.prB x = pb at *
    clear hq hx
    go_enter Try.func29, Try.ntmps29
    go_wp2_with fail
    go_ret
    exact ⟨rfl, rfl⟩
  · have hq : (Fl.prB x || decide (x = 2139095040)) = false := by simpa using hq
    rw [hq] at hg
    have hp : Fl.prB x = false := (Bool.or_eq_false_iff.1 hq).1
    rw [hp]
    go_enter Try.func29, Try.ntmps29
    go_wp2_with fail
    go_ret
    exact ⟨rfl, rfl⟩
end
end Go.Proofs.Ytnbpbonpcbemdaa
