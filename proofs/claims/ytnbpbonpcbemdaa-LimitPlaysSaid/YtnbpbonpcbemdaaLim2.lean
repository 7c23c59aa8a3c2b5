/- latchkeylaw24.pick, near, name; limit.proper, nearest, filled, level. -/
import Derived.Test.YtnbpbonpcbemdaaLim1
namespace Go.Proofs.Ytnbpbonpcbemdaa
open Go.RowKit
/-- which of n things a number speaks of -/
def pickN (c : Int) (n : Nat) : Nat := ((if c < 0 then -(c + 1) else c) % n).toNat
theorem pickN_eq (c : Int) (n : Nat) (hn : 0 < n) : (if c < 0 then -(c + 1) else c) % n = (pickN c n : Nat) := by
  unfold pickN
  have := Int.emod_nonneg (if c < 0 then -(c + 1) else c) (show (n : Int) ≠ 0 by omega)
  omega
theorem pickN_lt (c : Int) (n : Nat) (hn : 0 < n) : pickN c n < n := by
  have h := Int.emod_lt_of_pos (if c < 0 then -(c + 1) else c) (show (0 : Int) < n by omega)
  unfold pickN
  have := Int.emod_nonneg (if c < 0 then -(c + 1) else c) (show (n : Int) ≠ 0 by omega)
  omega
theorem pick_any (c : Int) (n : Nat) (w : World) (hc : -9223372036854775808 ≤ c ∧ c ≤ 9223372036854775807) (hn : 0 < n) (hn2 : n ≤ 9223372036854775807) :
    Calls Try.prog 9 #[.int .i64 c, .int .i64 n] w fun e w' => e = .returned (.int .i64 (pickN c n : Nat)) ∧ w = w' := by
  have h0 : ((n : Int) == 0) = false := by rw [beq_eq_false_iff_ne]; omega
  have hp := pickN_eq c n hn
  have hlt := pickN_lt c n hn
  obtain ⟨m, hm⟩ : ∃ m, m = pickN c n := ⟨_, rfl⟩
  rw [← hm] at hp hlt ⊢
  clear hm
  by_cases h : c < 0
  · rw [if_pos h] at hp
    have h1 : 0 ≤ -(c + 1) := by omega
    have HM := Lib.hid hp
    clear hp
    go_enter Try.func9, Try.ntmps9
    go_wp2
    go_ret
    exact ⟨ret_i64 (by rw [← Int.neg_tmod, Int.tmod_eq_emod_of_nonneg h1, HM.out]), rfl⟩
  · rw [if_neg h] at hp
    have HM := Lib.hid hp
    clear hp
    go_enter Try.func9, Try.ntmps9
    go_wp2
    go_ret
    exact ⟨ret_i64 HM.out, rfl⟩
/-- the nearest time -/
def nearN (n : Int) : Int := max 0 (min n 1099511627776)
theorem nearN_in (n : Int) : 0 ≤ nearN n ∧ nearN n ≤ 1099511627776 := by unfold nearN; omega
theorem nearN_same {n : Int} (h : 0 ≤ n ∧ n ≤ 1099511627776) : nearN n = n := by unfold nearN; omega
theorem nearest_any (n : Int) (w : World) : Calls Try.prog 21 #[.int .i64 n] w fun e w' => e = .returned (.int .i64 (nearN n)) ∧ w = w' := by
  go_enter Try.func21, Try.ntmps21
  go_wp2_with fail
  all_goals
    go_ret
    exact ⟨ret_i64 (by unfold nearN; omega), rfl⟩
theorem proper_ok (x : Nat) (w : World) (hx : Fl.Pr x) : Calls Try.prog 20 #[.float .f32 x] w fun e w' => e = .returned (.bool true) ∧ w = w' := by
  have o1 : FloatKind.f32.format.order x 0 = some (compare (Fl.Z x) 0) := by
    have h := Fl.order_Z hx (y := 0) (Or.inl (by omega)); exact h
  have hd : ∃ r, floatBits .sub .f32 x x = some r ∧ FloatKind.f32.format.order r 0 = some .eq := by
    rcases hx with hx | rfl
    · refine ⟨Fl.D x x, Fl.sub_pos x x hx hx (Nat.le_refl _), ?_⟩
      have : Fl.D x x = 0 := by unfold Fl.D; rw [Nat.sub_self]; exact if_pos rfl
      rw [this]; decide
    · exact ⟨0, by decide, by decide⟩
  obtain ⟨r, hsub, o2⟩ := hd
  have hop := fun t (w : World) => run_float_arith (P := Try.prog) w .sub t .f32 x x r hsub
  have hge : (FloatKind.f32.format.order x 0 == some .gt || FloatKind.f32.format.order x 0 == some .eq) = true := by
    rw [o1]
    rcases Nat.eq_zero_or_pos (Fl.Z x) with h | h
    · rw [h]; decide
    · rw [Nat.compare_eq_gt.2 h]; decide
  have he : (FloatKind.f32.format.order r 0 == some .eq) = true := by rw [o2]; decide
  clear o1 o2 hsub
  go_enter Try.func20, Try.ntmps20
  go_wp2_with (simp only [hop])
  go_ret
  exact ⟨rfl, rfl⟩
section
variable {E : World} {L : List Hp}
theorem filled_any (b rate burst level d : Nat) (l : List Bkt) (w : World) (hr : Fl.Pr rate) (hb : burst ≤ 2139095040) (hl : level < 2139095040) (hd : d ≤ 9223372036854775807) (h : Own E w (Hp.lim b rate burst l :: L)) :
    Calls Try.prog 38 #[.pointer (some ⟨b, 0, none⟩), .float .f32 level, .int .i64 d] w fun e w' => e = .returned (.float .f32 (Fl.fillN rate burst level d)) ∧ w = w' := by
  obtain ⟨c0, c1⟩ := h.limRate
  have m1 : floatBits .mul .f32 (floatOfInt .f32 (d : Int)) rate = some (Fl.more rate d) := by rw [Fl.ofInt]; exact Fl.mul_more hr (by omega)
  have m2 : floatBits .add .f32 level (Fl.more rate d) = some (Fl.sumN rate level d) := Fl.add_more hr hl
  have hle := Fl.sumN_le rate level d
  have hfn : Fl.fillN rate burst level d = min burst (Fl.sumN rate level d) := rfl
  rw [hfn]
  generalize Fl.more rate d = mo at *
  generalize Fl.sumN rate level d = su at *
  have p1 := fun t (w : World) => run_float_arith (P := Try.prog) w .mul t .f32 _ _ _ m1
  have p2 := fun t (w : World) => run_float_arith (P := Try.prog) w .add t .f32 _ _ _ m2
  have p3 := fun ts t (w : World) => run_min_float (P := Try.prog) (w := w) burst su hb hle ts t
  clear m1 m2 hfn h
  go_enter Try.func38, Try.ntmps38
  go_wp2_with (first | simp only [p1] | simp only [p2] | simp only [p3])
  go_ret
  exact ⟨rfl, rfl⟩
/-- the level of what is kept, at a time -/
def levelN (rate burst : Nat) (x : Bkt) (now : Int) : Nat := if now ≤ x.at_ then x.level else Fl.fillN rate burst x.level (now - x.at_).toNat
theorem level_any (b rate burst : Nat) (l : List Bkt) (x : Bkt) (now : Int) (w : World) (hr : Fl.Pr rate) (hb : burst ≤ 2139095040) (hl : x.level < 2139095040) (hx : 0 ≤ x.at_ ∧ x.at_ ≤ 1099511627776) (hn : 0 ≤ now ∧ now ≤ 1099511627776) (h : Own E w (Hp.lim b rate burst l :: L)) :
    Calls Try.prog 22 #[.pointer (some ⟨b, 0, none⟩), .agg #[.string x.name, .float .f32 x.level, .int .i64 x.at_], .int .i64 now] w fun e w' => e = .returned (.float .f32 (levelN rate burst x now)) ∧ Own E w' (Hp.lim b rate burst l :: L) := by
  have h1 := (h.alloc (.cells #[.string x.name, .float .f32 x.level, .int .i64 x.at_] BKT)).f1
  have H := Lib.hid h1
  clear h
  obtain ⟨xn, xl, xa⟩ := x
  dsimp only at *
  by_cases hc : now ≤ xa
  · have e : levelN rate burst ⟨xn, xl, xa⟩ now = xl := if_pos hc
    rw [e]
    clear h1
    go_enter Try.func22, Try.ntmps22
    go_wp2_with fail
    go_ret
    exact ⟨rfl, H.out.f1.drop⟩
  · have e : levelN rate burst ⟨xn, xl, xa⟩ now = Fl.fillN rate burst xl (now - xa).toNat := if_neg hc
    rw [e]
    obtain ⟨d, hd⟩ : ∃ d : Nat, (d : Int) = now - xa := ⟨(now - xa).toNat, by omega⟩
    rw [← hd, Int.toNat_natCast]
    have j1 : IntKind.i64.wrap (now - xa) = now - xa := IntWalk.i64_in _ (by omega)
    have kf := filled_any b rate burst xl d l _ hr hb hl (by omega) h1
    rw [hd] at kf
    have KF := Lib.hid kf
    clear kf hd h1 e
    go_enter Try.func22, Try.ntmps22
    go_wp2_with fail
    with_reducible refine KF.out.mono ?_
    rintro e w2 ⟨rfl, rfl⟩
    go_wp2_with fail
    go_ret
    exact ⟨rfl, H.out.f1.drop⟩
end
end Go.Proofs.Ytnbpbonpcbemdaa
