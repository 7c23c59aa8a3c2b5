/- TokenMints answers true for any kind, ID and secret. No condition but the card's own. -/
import Derived.Test.YtilcilbmbhbakaaDoorLaw
import Derived.SevenTiedAt
import Derived.Test.YtilcilbmbhbakaaDoorRows
import Derived.Test.YtilcilbmbhbakaaDoorLaid
import Derived.Test.YtilcilbmbhbakaaDoorTie
import Derived.Test.YtilcilbmbhbakaaDoorCards
import Derived.Test.YtilcilbmbhbakaaDoorTok8
namespace Go.Proofs.YtilcilbmbhbakaaDoor
open Go.ChangeShapes Go.WideShapes Go.ChangeAt Go.RowKit
open Go.ChangeMaps (open_string)

set_option maxRecDepth 100000 in
theorem mints_lifted (os : Os) (started : os.Started) (H : Type) (enc : TypeId × Value → H) :
    ReturnsInHanded {} Tryd.checked os 5 .any (fun w args => (Rows.tokenMintsSpec.pre enc Tryd.prog Tryd.f5 [] false w args ∧ laidMetH Tryd.prog laidE w) ∧ sizedMet enc Tryd.prog Tryd.f5 (OpenSpec.ofChange Rows.tokenMintsSpec) false w args) (Rows.tokenMintsSpec.post enc Tryd.prog Tryd.f5 false true false false) := by
  refine law_laid (C := Tryd.checked) (lay := laidE) (by kernel_rfl) started (by kernel_rfl) Tryd.func5
    (ChangeSpec.witness_at (enc := enc) (C := Tryd.checked) (os := os) (X := fun w _ => laidMetH Tryd.prog laidE w) false (laidWorld os) #[.int .i64 0, .int .i64 0, .string ByteArray.empty] 8 rfl (by kernel_rfl) (by kernel_rfl) (by kernel_rfl) (by kernel_rfl) (by kernel_rfl) (laidWorld_met os _))
    (by kernel_rfl) rfl (by kernel_rfl) (tb := 4) rfl (by kernel_rfl) (fun ds hd => by match ds, hd with | [d0, d1, d2], _ => rfl) ?_
  intro W base args ds before hval0 hA0 hL hsz0
  have hval : ∀ (j : Nat) t v, Tryd.f5.params[j]? = some t → args[j]? = some v → Value.okWide Tryd.prog W .any base t v := hval0
  have hA : DataW.TrodAll enc Tryd.prog W 0 (fun _ => true) true Tryd.f5.params.toList args.toList ds before := hA0
  have hsz : (DataW.weightsEach Tryd.prog Tryd.f5.params.toList ds).all (· ≤ reachBytes) = true := hsz0
  clear hval0 hA0 hsz0
  rw [Tryd.params5] at hA hval hsz
  obtain ⟨v0, v1, v2, d0, d1, d2, p0, p1, p2, rfl, rfl, rfl, h0, h1, h2⟩ := trodAll_three hA
  obtain ⟨a0, rfl, rfl, rfl, wa0⟩ := open_int (k := .i64) (by kernel_rfl) (hval 0 _ v0 rfl rfl) h0
  have bd0 := wf_i64' wa0
  obtain ⟨a1, rfl, rfl, rfl, wa1⟩ := open_int (k := .i64) (by kernel_rfl) (hval 1 _ v1 rfl rfl) h1
  have bd1 := wf_i64' wa1
  obtain ⟨a2, rfl, rfl, rfl, ws2⟩ := open_string (by kernel_rfl) (hval 2 _ v2 rfl rfl) h2
  obtain ⟨s0, s1, s2, hG⟩ := Sent.start hL
  refine (mints_any a0 a1 a2 s0 s1 s2 W hG (Own.start W)).mono ?_
  rintro e W' ⟨rfl, hw⟩
  exact ⟨rfl, hw.below⟩

theorem mints_row : Rows.TokenMintsSaid :=
  OpenClaim.holds_of_wide 5 Tryd.f5 rfl rfl rfl rfl rfl rfl rfl ⟨rfl, rfl, rfl, rfl, rfl⟩ rfl rfl rfl rfl rfl (by kernel_rfl) Tryd.func5 (by kernel_rfl)
    (of_decide_eq_true (by kernel_rfl)) (by unfold Func.isWrapper; rw [if_neg (of_decide_eq_false (by kernel_rfl))]; exact ⟨rfl, rfl⟩)
    (fun os started H enc _ => mints_lifted os started H enc)

theorem mints_holds : Rows.TokenMintsCardSaid :=
  Claim7.holds_tied_plain_at .later [] [.handle, .sentinel, .sentinel, .sentinel] true Rows.tokenMintsCard.stood.harness true
    mints_row (fun _ h => by cases h) (by kernel_rfl) (fun _ h => by cases h) tokenMints_row_tie rfl ⟨rfl, rfl⟩ (by kernel_rfl) rfl
    (fun f fn hf hfn => by
      obtain rfl : f = 5 := Option.some.inj ((show Tryd.prog.funcNamed "latchkey/latchkeylaw17.TokenMints" = some 5 by kernel_rfl).symm.trans hf) |>.symm
      obtain rfl : fn = Tryd.f5 := (Option.some.inj (Tryd.func5.symm.trans hfn)).symm
      exact ⟨by kernel_rfl, no_standin (by kernel_rfl)⟩)
    (by kernel_rfl)

end Go.Proofs.YtilcilbmbhbakaaDoor
