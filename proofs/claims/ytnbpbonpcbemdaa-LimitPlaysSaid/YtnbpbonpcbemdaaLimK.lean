/- The reference: Nearest, Left, gone, grown, level, of, wait. -/
import Derived.Test.YtnbpbonpcbemdaaLimJ
namespace Go.Proofs.Ytnbpbonpcbemdaa
open Go.RowKit
attribute [local go_sem] run_store_float
theorem xnearest_any (n : Int) (w : World) : Calls Try.prog 35 #[.int .i64 n] w fun e w' => e = .returned (.int .i64 (nearN n)) ∧ w = w' := by
  rcases (by omega : n < 0 ∨ (¬ n < 0 ∧ 1099511627776 < n) ∨ (¬ n < 0 ∧ ¬ 1099511627776 < n)) with h | ⟨h, h2⟩ | ⟨h, h2⟩
  all_goals
    go_enter Try.func35, Try.ntmps35
    go_wp2_with fail
    go_ret
    exact ⟨ret_i64 (by unfold nearN; omega), rfl⟩
/-- how much later -/
def leftN (a b : Int) : Nat := (nearN b - nearN a).toNat
theorem left_any (a b : Int) (w : World) : Calls Try.prog 45 #[.int .i64 a, .int .i64 b] w fun e w' => e = .returned (.int .i64 (leftN a b)) ∧ w = w' := by
  have ha := nearN_in a
  have hb := nearN_in b
  have k1 := fun w => xnearest_any a w
  have k2 := fun w => xnearest_any b w
  have hl : (leftN a b : Int) = if nearN b ≤ nearN a then 0 else nearN b - nearN a := by unfold leftN; split <;> omega
  generalize leftN a b = lf at *
  generalize nearN a = x at *
  generalize nearN b = y at *
  have j1 : IntKind.i64.wrap (y - x) = y - x := IntWalk.i64_in _ (by omega)
  by_cases hc : y ≤ x
  · rw [if_pos hc] at hl
    have HL := Lib.hid hl
    clear hl
    go_enter Try.func45, Try.ntmps45
    go_wp2_with fail
    refine (k1 _).mono ?_
    rintro e w1 ⟨rfl, rfl⟩
    go_wp2_with fail
    refine (k2 _).mono ?_
    rintro e w1 ⟨rfl, rfl⟩
    go_wp2_with fail
    go_ret
    exact ⟨ret_i64 HL.out.symm, rfl⟩
  · rw [if_neg hc] at hl
    have HL := Lib.hid hl
    clear hl
    go_enter Try.func45, Try.ntmps45
    go_wp2_with fail
    refine (k1 _).mono ?_
    rintro e w1 ⟨rfl, rfl⟩
    go_wp2_with fail
    refine (k2 _).mono ?_
    rintro e w1 ⟨rfl, rfl⟩
    go_wp2_with fail
    go_ret
    exact ⟨ret_i64 HL.out.symm, rfl⟩
section
variable {E : World} {L : List Hp}
theorem gone_any (x : Bkt) (now : Int) (w : World) (h : Own E w L) :
    Calls Try.prog 33 #[.agg #[.string x.name, .float .f32 x.level, .int .i64 x.at_], .int .i64 now] w fun e w' => e = .returned (.int .i64 (leftN x.at_ now)) ∧ Own E w' L := by
  have H := Lib.hid (h.alloc (.cells #[.string x.name, .float .f32 x.level, .int .i64 x.at_] RBKT)).drop
  have k1 := fun w => left_any x.at_ now w
  obtain ⟨xn, xl, xa⟩ := x
  dsimp only at *
  generalize leftN xa now = lf at *
  clear h
  go_enter Try.func33, Try.ntmps33
  go_wp2_with fail
  refine (k1 _).mono ?_
  rintro e w1 ⟨rfl, rfl⟩
  go_wp2_with fail
  go_ret
  exact ⟨rfl, H.out⟩
theorem grown_any (b rate burst level d : Nat) (l : List Bkt) (w : World) (hr : Fl.Pr rate) (hb : burst < 2139095040) (hl : level < 2139095040) (hd : d ≤ 9223372036854775807) (h : Own E w (Hp.rlim b rate burst l :: L)) :
    Calls Try.prog 44 #[.pointer (some ⟨b, 0, none⟩), .float .f32 level, .int .i64 d] w fun e w' => e = .returned (.float .f32 (Fl.fillN rate burst level d)) ∧ w = w' := by
  obtain ⟨c0, c1⟩ := h.rlimRate
  have m1 : floatBits .mul .f32 (floatOfInt .f32 (d : Int)) rate = some (Fl.more rate d) := by rw [Fl.ofInt]; exact Fl.mul_more hr (by omega)
  have m2 : floatBits .add .f32 level (Fl.more rate d) = some (Fl.sumN rate level d) := Fl.add_more hr hl
  have hle := Fl.sumN_le rate level d
  have hfn : Fl.fillN rate burst level d = min burst (Fl.sumN rate level d) := rfl
  have ho : FloatKind.f32.format.order (Fl.sumN rate level d) burst = some (compare (Fl.sumN rate level d) burst) := Fl.order_pos _ _ hle (by omega)
  generalize Fl.fillN rate burst level d = fi at *
  generalize Fl.more rate d = mo at *
  generalize Fl.sumN rate level d = su at *
  have p1 := fun t (w : World) => run_float_arith (P := Try.prog) w .mul t .f32 _ _ _ m1
  have p2 := fun t (w : World) => run_float_arith (P := Try.prog) w .add t .f32 _ _ _ m2
  by_cases hc : burst < su
  · have hg : (FloatKind.f32.format.order su burst == some .gt) = true := by rw [ho, Nat.compare_eq_gt.2 hc]; rfl
    obtain rfl : fi = burst := by omega
    clear m1 m2 hfn h ho
    go_enter Try.func44, Try.ntmps44
    go_wp2_with fail
    go_ret
    exact ⟨rfl, rfl⟩
  · have hg : (FloatKind.f32.format.order su burst == some .gt) = false := by
      rw [ho]
      rcases Nat.lt_or_eq_of_le (Nat.le_of_not_lt hc) with h | h
      · rw [Nat.compare_eq_lt.2 h]; rfl
      · rw [h, Nat.compare_eq_eq.2 rfl]; rfl
    obtain rfl : fi = su := by omega
    clear m1 m2 hfn h ho
    go_enter Try.func44, Try.ntmps44
    go_wp2_with fail
    go_ret
    exact ⟨rfl, rfl⟩
end
end Go.Proofs.Ytnbpbonpcbemdaa
