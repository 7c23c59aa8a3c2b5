/- TokenTyped answers true for any kind, ID, secret, place and byte. No condition but the card's own. -/
import Derived.Test.YtilcilbmbhbakaaDoorLaw
import Derived.SevenTiedAt
import Derived.Test.YtilcilbmbhbakaaDoorRows
import Derived.Test.YtilcilbmbhbakaaDoorLaid
import Derived.Test.YtilcilbmbhbakaaDoorTie
import Derived.Test.YtilcilbmbhbakaaDoorCards
import Derived.Test.YtilcilbmbhbakaaDoorTok12
namespace Go.Proofs.YtilcilbmbhbakaaDoor
open Go.ChangeShapes Go.WideShapes Go.ChangeAt Go.RowKit
open Go.ChangeMaps (open_string)

set_option maxRecDepth 100000 in
theorem typed_lifted (os : Os) (started : os.Started) (H : Type) (enc : TypeId × Value → H) :
    ReturnsInHanded {} Tryd.checked os 4 .any (fun w args => (Rows.tokenTypedSpec.pre enc Tryd.prog Tryd.f4 [] false w args ∧ laidMetH Tryd.prog laidE w) ∧ sizedMet enc Tryd.prog Tryd.f4 (OpenSpec.ofChange Rows.tokenTypedSpec) false w args) (Rows.tokenTypedSpec.post enc Tryd.prog Tryd.f4 false true false false) := by
  refine law_laid (C := Tryd.checked) (lay := laidE) (by kernel_rfl) started (by kernel_rfl) Tryd.func4
    (ChangeSpec.witness_at (enc := enc) (C := Tryd.checked) (os := os) (X := fun w _ => laidMetH Tryd.prog laidE w) false (laidWorld os) #[.int .i64 0, .int .i64 0, .string ByteArray.empty, .int .i64 0, .int .u8 0] 8 rfl (by kernel_rfl) (by kernel_rfl) (by kernel_rfl) (by kernel_rfl) (by kernel_rfl) (laidWorld_met os _))
    (by kernel_rfl) rfl (by kernel_rfl) (tb := 4) rfl (by kernel_rfl) (fun ds hd => by match ds, hd with | [d0, d1, d2, d3, d4], _ => rfl) ?_
  intro W base args ds before hval0 hA0 hL hsz0
  have hval : ∀ (j : Nat) t v, Tryd.f4.params[j]? = some t → args[j]? = some v → Value.okWide Tryd.prog W .any base t v := hval0
  have hA : DataW.TrodAll enc Tryd.prog W 0 (fun _ => true) true Tryd.f4.params.toList args.toList ds before := hA0
  have hsz : (DataW.weightsEach Tryd.prog Tryd.f4.params.toList ds).all (· ≤ reachBytes) = true := hsz0
  clear hval0 hA0 hsz0
  rw [Tryd.params4] at hA hval hsz
  obtain ⟨v0, rr0, d0, ss0, p0, qq0, hargs, rfl, rfl, h0, tt0⟩ := trodAll_cons hA
  obtain ⟨v1, rr1, d1, ss1, p1, qq1, rfl, rfl, rfl, h1, tt1⟩ := trodAll_cons tt0
  obtain ⟨v2, rr2, d2, ss2, p2, qq2, rfl, rfl, rfl, h2, tt2⟩ := trodAll_cons tt1
  obtain ⟨v3, rr3, d3, ss3, p3, qq3, rfl, rfl, rfl, h3, tt3⟩ := trodAll_cons tt2
  obtain ⟨v4, rr4, d4, ss4, p4, qq4, rfl, rfl, rfl, h4, tt4⟩ := trodAll_cons tt3
  obtain ⟨rfl, rfl, rfl⟩ := trodAll_nil tt4
  obtain rfl : args = #[v0, v1, v2, v3, v4] := Array.toList_inj.1 hargs
  obtain ⟨a0, rfl, rfl, rfl, wa0⟩ := open_int (k := .i64) (by kernel_rfl) (hval 0 _ v0 rfl rfl) h0
  have bd0 := wf_i64' wa0
  obtain ⟨a1, rfl, rfl, rfl, wa1⟩ := open_int (k := .i64) (by kernel_rfl) (hval 1 _ v1 rfl rfl) h1
  have bd1 := wf_i64' wa1
  obtain ⟨a2, rfl, rfl, rfl, ws2⟩ := open_string (by kernel_rfl) (hval 2 _ v2 rfl rfl) h2
  obtain ⟨a3, rfl, rfl, rfl, wa3⟩ := open_int (k := .i64) (by kernel_rfl) (hval 3 _ v3 rfl rfl) h3
  have bd3 := wf_i64' wa3
  obtain ⟨a4, rfl, rfl, rfl, wa4⟩ := open_int (k := .u8) (by kernel_rfl) (hval 4 _ v4 rfl rfl) h4
  have bd4 := wf_u8' wa4
  obtain ⟨s0, s1, s2, hG⟩ := Sent.start hL
  refine (typed_any a0 a1 a3 a4 a2 s0 s1 s2 W (by have := bd0; omega) (by have := bd1; omega) (by have := bd3; omega) (by have := bd4; omega) hG (Own.start W)).mono ?_
  rintro e W' ⟨rfl, hw⟩
  exact ⟨rfl, hw.below⟩

theorem typed_row : Rows.TokenTypedSaid :=
  OpenClaim.holds_of_wide 4 Tryd.f4 rfl rfl rfl rfl rfl rfl rfl ⟨rfl, rfl, rfl, rfl, rfl⟩ rfl rfl rfl rfl rfl (by kernel_rfl) Tryd.func4 (by kernel_rfl)
    (of_decide_eq_true (by kernel_rfl)) (by unfold Func.isWrapper; rw [if_neg (of_decide_eq_false (by kernel_rfl))]; exact ⟨rfl, rfl⟩)
    (fun os started H enc _ => typed_lifted os started H enc)

theorem typed_holds : Rows.TokenTypedCardSaid :=
  Claim7.holds_tied_plain_at .later [] [.handle, .sentinel, .sentinel, .sentinel] true Rows.tokenTypedCard.stood.harness true
    typed_row (fun _ h => by cases h) (by kernel_rfl) (fun _ h => by cases h) tokenTyped_row_tie rfl ⟨rfl, rfl⟩ (by kernel_rfl) rfl
    (fun f fn hf hfn => by
      obtain rfl : f = 4 := Option.some.inj ((show Tryd.prog.funcNamed "latchkey/latchkeylaw17.TokenTyped" = some 4 by kernel_rfl).symm.trans hf) |>.symm
      obtain rfl : fn = Tryd.f4 := (Option.some.inj (Tryd.func4.symm.trans hfn)).symm
      exact ⟨by kernel_rfl, no_standin (by kernel_rfl)⟩)
    (by kernel_rfl)

end Go.Proofs.YtilcilbmbhbakaaDoor
