/- NodeFinds answers true for any node and any three texts. No condition but the card's own. -/
import Derived.Test.YtbclmmneiphcaaaDoorLaw
import Derived.SevenTiedAt
import Derived.Test.YtbclmmneiphcaaaDoorRows
import Derived.Test.YtbclmmneiphcaaaDoorLaid
import Derived.Test.YtbclmmneiphcaaaDoorTie
import Derived.Test.YtbclmmneiphcaaaDoorCards
import Derived.Test.YtbclmmneiphcaaaDoorFinds
namespace Go.Proofs.YtbclmmneiphcaaaDoor
open Go.ChangeShapes Go.WideShapes Go.ChangeAt Go.RowKit
open Go.ChangeMaps (open_string)

set_option maxRecDepth 100000 in
theorem finds_lifted (os : Os) (started : os.Started) (H : Type) (enc : TypeId × Value → H) :
    ReturnsInHanded {} Tryd.checked os 3 .any (fun w args => (Rows.nodeFindsSpec.pre enc Tryd.prog Tryd.f3 [] false w args ∧ laidMetH Tryd.prog laidE w) ∧ sizedMet enc Tryd.prog Tryd.f3 (OpenSpec.ofChange Rows.nodeFindsSpec) false w args) (Rows.nodeFindsSpec.post enc Tryd.prog Tryd.f3 false true false false) := by
  refine law_laid (C := Tryd.checked) (lay := laidE) (by kernel_rfl) started (by kernel_rfl) Tryd.func3
    (ChangeSpec.witness_at (enc := enc) (C := Tryd.checked) (os := os) (X := fun w _ => laidMetH Tryd.prog laidE w) false (laidWorld os) #[.agg #[.bool false, .slice none 0 0, .slice none 0 0, .slice none 0 0], .string ByteArray.empty, .string ByteArray.empty, .string ByteArray.empty] 8 rfl (by kernel_rfl) (by kernel_rfl) (by kernel_rfl) (by kernel_rfl) (by kernel_rfl) (laidWorld_met os _))
    (by kernel_rfl) rfl (by kernel_rfl) (tb := 4) rfl (by kernel_rfl) (fun ds hd => by match ds, hd with | [d0, d1, d2, d3], _ => rfl) ?_
  intro W base args ds before hval0 hA0 hL hsz0
  have hval : ∀ (j : Nat) t v, Tryd.f3.params[j]? = some t → args[j]? = some v → Value.okWide Tryd.prog W .any base t v := hval0
  have hA : DataW.TrodAll enc Tryd.prog W 0 (fun _ => true) true Tryd.f3.params.toList args.toList ds before := hA0
  have hsz : (DataW.weightsEach Tryd.prog Tryd.f3.params.toList ds).all (· ≤ reachBytes) = true := hsz0
  clear hval0 hA0 hsz0
  rw [Tryd.params3] at hA hval hsz
  obtain ⟨v0, v1, v2, v3, d0, d1, d2, d3, p0, p1, p2, p3, rfl, rfl, rfl, h0, h1, h2, h3⟩ := trodAll_four hA
  obtain ⟨q0, n0, rfl, hin0, hsm0⟩ := arg_node (hval 0 _ v0 rfl rfl) h0 (weightsEach_get hsz 0 rfl rfl)
  obtain ⟨a1, rfl, rfl, rfl, ws1⟩ := open_string (by kernel_rfl) (hval 1 _ v1 rfl rfl) h1
  obtain ⟨a2, rfl, rfl, rfl, ws2⟩ := open_string (by kernel_rfl) (hval 2 _ v2 rfl rfl) h2
  obtain ⟨a3, rfl, rfl, rfl, ws3⟩ := open_string (by kernel_rfl) (hval 3 _ v3 rfl rfl) h3
  refine (nodefinds_any q0 n0 a1 a2 a3 W hsm0 (Nat.le_trans (string_size (weightsEach_get hsz 1 rfl rfl)) (by unfold reachBytes; omega)) (Nat.le_trans (string_size (weightsEach_get hsz 2 rfl rfl)) (by unfold reachBytes; omega)) (Nat.le_trans (string_size (weightsEach_get hsz 3 rfl rfl)) (by unfold reachBytes; omega)) hin0 (Laid0.start hL) (Own.start W)).mono ?_
  rintro e W' ⟨rfl, hw⟩
  exact ⟨rfl, hw.below⟩

theorem finds_row : Rows.NodeFindsSaid :=
  OpenClaim.holds_of_wide 3 Tryd.f3 rfl rfl rfl rfl rfl rfl rfl ⟨rfl, rfl, rfl, rfl, rfl⟩ rfl rfl rfl rfl rfl (by kernel_rfl) Tryd.func3 (by kernel_rfl)
    (of_decide_eq_true (by kernel_rfl)) (by unfold Func.isWrapper; rw [if_neg (of_decide_eq_false (by kernel_rfl))]; exact ⟨rfl, rfl⟩)
    (fun os started H enc _ => finds_lifted os started H enc)

theorem finds_holds : Rows.NodeFindsCardSaid :=
  Claim7.holds_tied_plain_at .later [] [.handle] true Rows.nodeFindsCard.stood.harness true
    finds_row (fun _ h => by cases h) (by kernel_rfl) (fun _ h => by cases h) nodeFinds_row_tie rfl ⟨rfl, rfl⟩ (by kernel_rfl) rfl
    (fun f fn hf hfn => by
      obtain rfl : f = 3 := Option.some.inj ((show Tryd.prog.funcNamed "latchkey/latchkeylaw10.NodeFinds" = some 3 by kernel_rfl).symm.trans hf) |>.symm
      obtain rfl : fn = Tryd.f3 := (Option.some.inj (Tryd.func3.symm.trans hfn)).symm
      exact ⟨by kernel_rfl, no_standin (by kernel_rfl)⟩)
    (by kernel_rfl)

end Go.Proofs.YtbclmmneiphcaaaDoor
