/- NodeJoins answers true for any three nodes and any key. No condition but the card's own. -/
import Derived.Test.YtbclmmneiphcaaaDoorLaw
import Derived.SevenTiedAt
import Derived.Test.YtbclmmneiphcaaaDoorRows
import Derived.Test.YtbclmmneiphcaaaDoorLaid
import Derived.Test.YtbclmmneiphcaaaDoorTie
import Derived.Test.YtbclmmneiphcaaaDoorCards
import Derived.Test.YtbclmmneiphcaaaDoorJoins
namespace Go.Proofs.YtbclmmneiphcaaaDoor
open Go.ChangeShapes Go.WideShapes Go.ChangeAt Go.RowKit
open Go.ChangeMaps (open_string)

set_option maxRecDepth 100000 in
theorem joins_lifted (os : Os) (started : os.Started) (H : Type) (enc : TypeId × Value → H) :
    ReturnsInHanded {} Tryd.checked os 4 .any (fun w args => (Rows.nodeJoinsSpec.pre enc Tryd.prog Tryd.f4 [] false w args ∧ laidMetH Tryd.prog laidE w) ∧ sizedMet enc Tryd.prog Tryd.f4 (OpenSpec.ofChange Rows.nodeJoinsSpec) false w args) (Rows.nodeJoinsSpec.post enc Tryd.prog Tryd.f4 false true false false) := by
  refine law_laid (C := Tryd.checked) (lay := laidE) (by kernel_rfl) started (by kernel_rfl) Tryd.func4
    (ChangeSpec.witness_at (enc := enc) (C := Tryd.checked) (os := os) (X := fun w _ => laidMetH Tryd.prog laidE w) false (laidWorld os) #[.agg #[.bool false, .slice none 0 0, .slice none 0 0, .slice none 0 0], .string ByteArray.empty, .agg #[.bool false, .slice none 0 0, .slice none 0 0, .slice none 0 0], .agg #[.bool false, .slice none 0 0, .slice none 0 0, .slice none 0 0]] 8 rfl (by kernel_rfl) (by kernel_rfl) (by kernel_rfl) (by kernel_rfl) (by kernel_rfl) (laidWorld_met os _))
    (by kernel_rfl) rfl (by kernel_rfl) (tb := 4) rfl (by kernel_rfl) (fun ds hd => by match ds, hd with | [d0, d1, d2, d3], _ => rfl) ?_
  intro W base args ds before hval0 hA0 hL hsz0
  have hval : ∀ (j : Nat) t v, Tryd.f4.params[j]? = some t → args[j]? = some v → Value.okWide Tryd.prog W .any base t v := hval0
  have hA : DataW.TrodAll enc Tryd.prog W 0 (fun _ => true) true Tryd.f4.params.toList args.toList ds before := hA0
  have hsz : (DataW.weightsEach Tryd.prog Tryd.f4.params.toList ds).all (· ≤ reachBytes) = true := hsz0
  clear hval0 hA0 hsz0
  rw [Tryd.params4] at hA hval hsz
  obtain ⟨v0, v1, v2, v3, d0, d1, d2, d3, p0, p1, p2, p3, rfl, rfl, rfl, h0, h1, h2, h3⟩ := trodAll_four hA
  obtain ⟨q0, n0, rfl, hin0, hsm0⟩ := arg_node (hval 0 _ v0 rfl rfl) h0 (weightsEach_get hsz 0 rfl rfl)
  obtain ⟨a1, rfl, rfl, rfl, ws1⟩ := open_string (by kernel_rfl) (hval 1 _ v1 rfl rfl) h1
  obtain ⟨q2, n2, rfl, hin2, hsm2⟩ := arg_node (hval 2 _ v2 rfl rfl) h2 (weightsEach_get hsz 2 rfl rfl)
  obtain ⟨q3, n3, rfl, hin3, hsm3⟩ := arg_node (hval 3 _ v3 rfl rfl) h3 (weightsEach_get hsz 3 rfl rfl)
  refine (nodejoins_any q0 q2 q3 n0 n2 n3 a1 W hsm0 hsm2 hsm3 (Nat.le_trans (string_size (weightsEach_get hsz 1 rfl rfl)) (by unfold reachBytes; omega)) hin0 hin2 hin3 (Laid0.start hL) (Own.start W)).mono ?_
  rintro e W' ⟨rfl, hw⟩
  exact ⟨rfl, hw.below⟩

theorem joins_row : Rows.NodeJoinsSaid :=
  OpenClaim.holds_of_wide 4 Tryd.f4 rfl rfl rfl rfl rfl rfl rfl ⟨rfl, rfl, rfl, rfl, rfl⟩ rfl rfl rfl rfl rfl (by kernel_rfl) Tryd.func4 (by kernel_rfl)
    (of_decide_eq_true (by kernel_rfl)) (by unfold Func.isWrapper; rw [if_neg (of_decide_eq_false (by kernel_rfl))]; exact ⟨rfl, rfl⟩)
    (fun os started H enc _ => joins_lifted os started H enc)

theorem joins_holds : Rows.NodeJoinsCardSaid :=
  Claim7.holds_tied_plain_at .later [] [.handle] true Rows.nodeJoinsCard.stood.harness true
    joins_row (fun _ h => by cases h) (by kernel_rfl) (fun _ h => by cases h) nodeJoins_row_tie rfl ⟨rfl, rfl⟩ (by kernel_rfl) rfl
    (fun f fn hf hfn => by
      obtain rfl : f = 4 := Option.some.inj ((show Tryd.prog.funcNamed "latchkey/latchkeylaw10.NodeJoins" = some 4 by kernel_rfl).symm.trans hf) |>.symm
      obtain rfl : fn = Tryd.f4 := (Option.some.inj (Tryd.func4.symm.trans hfn)).symm
      exact ⟨by kernel_rfl, no_standin (by kernel_rfl)⟩)
    (by kernel_rfl)

end Go.Proofs.YtbclmmneiphcaaaDoor
