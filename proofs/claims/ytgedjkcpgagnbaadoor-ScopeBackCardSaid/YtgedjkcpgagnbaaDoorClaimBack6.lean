/- ScopeBack answers true for any text and any list of texts. No condition but the card's own. -/
import Derived.Test.YtgedjkcpgagnbaaDoorLaw
import Derived.SevenTiedAt
import Derived.Test.YtgedjkcpgagnbaaDoorRows
import Derived.Test.YtgedjkcpgagnbaaDoorLaid6
import Derived.Test.YtgedjkcpgagnbaaDoorTie
import Derived.Test.YtgedjkcpgagnbaaDoorCards
import Derived.Test.YtgedjkcpgagnbaaDoorBackW6
namespace Go.Proofs.YtgedjkcpgagnbaaDoor
open Go.ChangeShapes Go.WideShapes Go.ChangeAt Go.RowKit
open Go.ChangeMaps (open_string)

set_option maxRecDepth 100000 in
theorem back_lifted (os : Os) (started : os.Started) (H : Type) (enc : TypeId × Value → H) :
    ReturnsInHanded {} Tryd.checked os 6 .any (fun w args => (Rows.scopeBackSpec.pre enc Tryd.prog Tryd.f6 [] false w args ∧ laidMetH Tryd.prog laidE w) ∧ sizedMet enc Tryd.prog Tryd.f6 (OpenSpec.ofChange Rows.scopeBackSpec) false w args) (Rows.scopeBackSpec.post enc Tryd.prog Tryd.f6 false true false false) := by
  refine law_shaped (C := Tryd.checked) (lay := laidE) (by kernel_rfl) started (by kernel_rfl) Tryd.func6
    (ChangeSpec.witness_at (enc := enc) (C := Tryd.checked) (os := os) (X := fun w _ => laidMetH Tryd.prog laidE w) false (laidWorld os) #[.string ByteArray.empty, .slice none 0 0] 8 rfl (by kernel_rfl) (by kernel_rfl) (by kernel_rfl) (by kernel_rfl) (by kernel_rfl) (laidWorld_met os _))
    (by kernel_rfl) rfl (by kernel_rfl) (tb := 4) rfl (by kernel_rfl) (fun ds hd => by match ds, hd with | [d0, d1], _ => rfl) ?_
  intro W base args ds before hsh hval0 hA0 hL hsz0
  have hval : ∀ (j : Nat) t v, Tryd.f6.params[j]? = some t → args[j]? = some v → Value.okWide Tryd.prog W .any base t v := hval0
  have hA : DataW.TrodAll enc Tryd.prog W 0 (fun _ => true) true Tryd.f6.params.toList args.toList ds before := hA0
  have hsz : (DataW.weightsEach Tryd.prog Tryd.f6.params.toList ds).all (· ≤ reachBytes) = true := hsz0
  clear hval0 hA0 hsz0
  rw [Tryd.params6] at hA hval hsz
  obtain ⟨v0, v1, d0, d1, p0, p1, rfl, rfl, rfl, h0, h1⟩ := trodAll_two hA
  obtain ⟨a0, rfl, rfl, rfl, ws0⟩ := open_string (by kernel_rfl) (hval 0 _ v0 rfl rfl) h0
  obtain ⟨A1, n1, c1, xs1, rfl, hn1, hc1, hr1, hw1, hz1, hd1⟩ := arg_slice (P := Tryd.prog) (t := 24) (e := 9) (size := 1) (by kernel_rfl) (by kernel_rfl) (by omega) (fun _ => rfl) (el_str (by kernel_rfl)) (hval 1 _ v1 rfl rfl) h1
  have hs1 := hz1 reachBytes (weightsEach_get hsz 1 rfl rfl)
  clear hz1
  have bs0 := string_size (weightsEach_get hsz 0 rfl rfl)
  refine (back_any a0 A1 n1 c1 xs1 W (Nat.le_trans bs0 (by unfold reachBytes; omega)) (by have := hs1.1; rw [show Tryd.prog.bytesOf 9 = 16 by kernel_rfl] at this; simp only [reachBytes] at this; omega) (fun x hx => Nat.le_trans (string_size (hs1.2 x hx)) (by unfold reachBytes; omega)) hr1 hn1 (Max0.start hsh) (Own.start W)).mono ?_
  rintro e W' ⟨rfl, hw⟩
  exact ⟨rfl, hw.below⟩

theorem back_row : Rows.ScopeBackSaid :=
  OpenClaim.holds_of_wide 6 Tryd.f6 rfl rfl rfl rfl rfl rfl rfl ⟨rfl, rfl, rfl, rfl, rfl⟩ rfl rfl rfl rfl rfl (by kernel_rfl) Tryd.func6 (by kernel_rfl)
    (of_decide_eq_true (by kernel_rfl)) (by unfold Func.isWrapper; rw [if_neg (of_decide_eq_false (by kernel_rfl))]; exact ⟨rfl, rfl⟩)
    (fun os started H enc _ => back_lifted os started H enc)

theorem back_holds : Rows.ScopeBackCardSaid :=
  Claim7.holds_tied_plain_at .later [] [.data, .pinned] true Rows.scopeBackCard.stood.harness false
    back_row (fun _ h => by cases h) (by kernel_rfl) (fun _ h => by cases h) scopeBack_row_tie rfl ⟨rfl, rfl⟩ (by kernel_rfl) rfl
    (fun f fn hf hfn => by
      obtain rfl : f = 6 := Option.some.inj ((show Tryd.prog.funcNamed "latchkey/latchkeylaw06.ScopeBack" = some 6 by kernel_rfl).symm.trans hf) |>.symm
      obtain rfl : fn = Tryd.f6 := (Option.some.inj (Tryd.func6.symm.trans hfn)).symm
      exact ⟨by kernel_rfl, no_standin (by kernel_rfl)⟩)
    (by kernel_rfl)

end Go.Proofs.YtgedjkcpgagnbaaDoor
