/- ScopeHolds answers true for any three lists of texts. No condition but the card's own. -/
import Derived.Test.YtgedjkcpgagnbaaDoorLaw
import Derived.SevenTiedAt
import Derived.Test.YtgedjkcpgagnbaaDoorRows
import Derived.Test.YtgedjkcpgagnbaaDoorLaid6
import Derived.Test.YtgedjkcpgagnbaaDoorTie
import Derived.Test.YtgedjkcpgagnbaaDoorCards
import Derived.Test.YtgedjkcpgagnbaaDoorHoldsW6
namespace Go.Proofs.YtgedjkcpgagnbaaDoor
open Go.ChangeShapes Go.WideShapes Go.ChangeAt Go.RowKit
open Go.ChangeMaps (open_string)

set_option maxRecDepth 100000 in
theorem holds_lifted (os : Os) (started : os.Started) (H : Type) (enc : TypeId × Value → H) :
    ReturnsInHanded {} Tryd.checked os 5 .any (fun w args => (Rows.scopeHoldsSpec.pre enc Tryd.prog Tryd.f5 [] false w args ∧ laidMetH Tryd.prog laidE w) ∧ sizedMet enc Tryd.prog Tryd.f5 (OpenSpec.ofChange Rows.scopeHoldsSpec) false w args) (Rows.scopeHoldsSpec.post enc Tryd.prog Tryd.f5 false true false false) := by
  refine law_shaped (C := Tryd.checked) (lay := laidE) (by kernel_rfl) started (by kernel_rfl) Tryd.func5
    (ChangeSpec.witness_at (enc := enc) (C := Tryd.checked) (os := os) (X := fun w _ => laidMetH Tryd.prog laidE w) false (laidWorld os) #[.slice none 0 0, .slice none 0 0, .slice none 0 0] 8 rfl (by kernel_rfl) (by kernel_rfl) (by kernel_rfl) (by kernel_rfl) (by kernel_rfl) (laidWorld_met os _))
    (by kernel_rfl) rfl (by kernel_rfl) (tb := 4) rfl (by kernel_rfl) (fun ds hd => by match ds, hd with | [d0, d1, d2], _ => rfl) ?_
  intro W base args ds before hsh hval0 hA0 hL hsz0
  have hval : ∀ (j : Nat) t v, Tryd.f5.params[j]? = some t → args[j]? = some v → Value.okWide Tryd.prog W .any base t v := hval0
  have hA : DataW.TrodAll enc Tryd.prog W 0 (fun _ => true) true Tryd.f5.params.toList args.toList ds before := hA0
  have hsz : (DataW.weightsEach Tryd.prog Tryd.f5.params.toList ds).all (· ≤ reachBytes) = true := hsz0
  clear hval0 hA0 hsz0
  rw [Tryd.params5] at hA hval hsz
  obtain ⟨v0, v1, v2, d0, d1, d2, p0, p1, p2, rfl, rfl, rfl, h0, h1, h2⟩ := trodAll_three hA
  obtain ⟨A0, n0, c0, xs0, rfl, hn0, hc0, hr0, hw0, hz0, hd0⟩ := arg_slice (P := Tryd.prog) (t := 24) (e := 9) (size := 1) (by kernel_rfl) (by kernel_rfl) (by omega) (fun _ => rfl) (el_str (by kernel_rfl)) (hval 0 _ v0 rfl rfl) h0
  have hs0 := hz0 reachBytes (weightsEach_get hsz 0 rfl rfl)
  clear hz0
  obtain ⟨A1, n1, c1, xs1, rfl, hn1, hc1, hr1, hw1, hz1, hd1⟩ := arg_slice (P := Tryd.prog) (t := 24) (e := 9) (size := 1) (by kernel_rfl) (by kernel_rfl) (by omega) (fun _ => rfl) (el_str (by kernel_rfl)) (hval 1 _ v1 rfl rfl) h1
  have hs1 := hz1 reachBytes (weightsEach_get hsz 1 rfl rfl)
  clear hz1
  obtain ⟨A2, n2, c2, xs2, rfl, hn2, hc2, hr2, hw2, hz2, hd2⟩ := arg_slice (P := Tryd.prog) (t := 24) (e := 9) (size := 1) (by kernel_rfl) (by kernel_rfl) (by omega) (fun _ => rfl) (el_str (by kernel_rfl)) (hval 2 _ v2 rfl rfl) h2
  have hs2 := hz2 reachBytes (weightsEach_get hsz 2 rfl rfl)
  clear hz2
  have e16 : Tryd.prog.bytesOf 9 = 16 := by kernel_rfl
  refine (holds_any A0 A1 A2 n0 c0 n1 c1 n2 c2 xs0 xs1 xs2 W (by have := hs0.1; rw [e16] at this; simp only [reachBytes] at this; omega) (by have := hs1.1; rw [e16] at this; simp only [reachBytes] at this; omega) (by have := hs2.1; rw [e16] at this; simp only [reachBytes] at this; omega) (fun x hx => Nat.le_trans (string_size (hs0.2 x hx)) (by unfold reachBytes; omega)) (fun x hx => Nat.le_trans (string_size (hs1.2 x hx)) (by unfold reachBytes; omega)) (fun x hx => Nat.le_trans (string_size (hs2.2 x hx)) (by unfold reachBytes; omega)) hr0 hr1 hr2 (Max0.start hsh) (Own.start W)).mono ?_
  rintro e W' ⟨rfl, hw⟩
  exact ⟨rfl, hw.below⟩

theorem holds_row : Rows.ScopeHoldsSaid :=
  OpenClaim.holds_of_wide 5 Tryd.f5 rfl rfl rfl rfl rfl rfl rfl ⟨rfl, rfl, rfl, rfl, rfl⟩ rfl rfl rfl rfl rfl (by kernel_rfl) Tryd.func5 (by kernel_rfl)
    (of_decide_eq_true (by kernel_rfl)) (by unfold Func.isWrapper; rw [if_neg (of_decide_eq_false (by kernel_rfl))]; exact ⟨rfl, rfl⟩)
    (fun os started H enc _ => holds_lifted os started H enc)

theorem holds_holds : Rows.ScopeHoldsCardSaid :=
  Claim7.holds_tied_plain_at .later [] [.data, .pinned] true Rows.scopeHoldsCard.stood.harness false
    holds_row (fun _ h => by cases h) (by kernel_rfl) (fun _ h => by cases h) scopeHolds_row_tie rfl ⟨rfl, rfl⟩ (by kernel_rfl) rfl
    (fun f fn hf hfn => by
      obtain rfl : f = 5 := Option.some.inj ((show Tryd.prog.funcNamed "latchkey/latchkeylaw06.ScopeHolds" = some 5 by kernel_rfl).symm.trans hf) |>.symm
      obtain rfl : fn = Tryd.f5 := (Option.some.inj (Tryd.func5.symm.trans hfn)).symm
      exact ⟨by kernel_rfl, no_standin (by kernel_rfl)⟩)
    (by kernel_rfl)

end Go.Proofs.YtgedjkcpgagnbaaDoor
