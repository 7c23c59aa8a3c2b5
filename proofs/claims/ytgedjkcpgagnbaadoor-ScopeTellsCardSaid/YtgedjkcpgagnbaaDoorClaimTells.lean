/- ScopeTells answers true for any two lists of texts. No condition but the card's own. -/
import Derived.Test.YtgedjkcpgagnbaaDoorLaw
import Derived.SevenTiedAt
import Derived.Test.YtgedjkcpgagnbaaDoorRows
import Derived.Test.YtgedjkcpgagnbaaDoorLaid6
import Derived.Test.YtgedjkcpgagnbaaDoorTie
import Derived.Test.YtgedjkcpgagnbaaDoorCards
import Derived.Test.YtgedjkcpgagnbaaDoorTellsW6
namespace Go.Proofs.YtgedjkcpgagnbaaDoor
open Go.ChangeShapes Go.WideShapes Go.ChangeAt Go.RowKit
open Go.ChangeMaps (open_string)

set_option maxRecDepth 100000 in
theorem tells_lifted (os : Os) (started : os.Started) (H : Type) (enc : TypeId × Value → H) :
    ReturnsInHanded {} Tryd.checked os 4 .any (fun w args => (Rows.scopeTellsSpec.pre enc Tryd.prog Tryd.f4 [] false w args ∧ laidMetH Tryd.prog laidE w) ∧ sizedMet enc Tryd.prog Tryd.f4 (OpenSpec.ofChange Rows.scopeTellsSpec) false w args) (Rows.scopeTellsSpec.post enc Tryd.prog Tryd.f4 false true false false) := by
  refine law_shaped (C := Tryd.checked) (lay := laidE) (by kernel_rfl) started (by kernel_rfl) Tryd.func4
    (ChangeSpec.witness_at (enc := enc) (C := Tryd.checked) (os := os) (X := fun w _ => laidMetH Tryd.prog laidE w) false (laidWorld os) #[.slice none 0 0, .slice none 0 0] 8 rfl (by kernel_rfl) (by kernel_rfl) (by kernel_rfl) (by kernel_rfl) (by kernel_rfl) (laidWorld_met os _))
    (by kernel_rfl) rfl (by kernel_rfl) (tb := 4) rfl (by kernel_rfl) (fun ds hd => by match ds, hd with | [d0, d1], _ => rfl) ?_
  intro W base args ds before hsh hval0 hA0 hL hsz0
  have hval : ∀ (j : Nat) t v, Tryd.f4.params[j]? = some t → args[j]? = some v → Value.okWide Tryd.prog W .any base t v := hval0
  have hA : DataW.TrodAll enc Tryd.prog W 0 (fun _ => true) true Tryd.f4.params.toList args.toList ds before := hA0
  have hsz : (DataW.weightsEach Tryd.prog Tryd.f4.params.toList ds).all (· ≤ reachBytes) = true := hsz0
  clear hval0 hA0 hsz0
  rw [Tryd.params4] at hA hval hsz
  obtain ⟨v0, v1, d0, d1, p0, p1, rfl, rfl, rfl, h0, h1⟩ := trodAll_two hA
  obtain ⟨A0, n0, c0, xs0, rfl, hn0, hc0, hr0, hw0, hz0, hd0⟩ := arg_slice (P := Tryd.prog) (t := 24) (e := 9) (size := 1) (by kernel_rfl) (by kernel_rfl) (by omega) (fun _ => rfl) (el_str (by kernel_rfl)) (hval 0 _ v0 rfl rfl) h0
  have hs0 := hz0 reachBytes (weightsEach_get hsz 0 rfl rfl)
  clear hz0
  obtain ⟨A1, n1, c1, xs1, rfl, hn1, hc1, hr1, hw1, hz1, hd1⟩ := arg_slice (P := Tryd.prog) (t := 24) (e := 9) (size := 1) (by kernel_rfl) (by kernel_rfl) (by omega) (fun _ => rfl) (el_str (by kernel_rfl)) (hval 1 _ v1 rfl rfl) h1
  have hs1 := hz1 reachBytes (weightsEach_get hsz 1 rfl rfl)
  clear hz1
  have e16 : Tryd.prog.bytesOf 9 = 16 := by kernel_rfl
  refine (tells_any A0 A1 n0 c0 n1 c1 xs0 xs1 W (by have := hs0.1; rw [e16] at this; simp only [reachBytes] at this; omega) (by have := hs1.1; rw [e16] at this; simp only [reachBytes] at this; omega) (fun x hx => Nat.le_trans (string_size (hs0.2 x hx)) (by unfold reachBytes; omega)) (fun x hx => Nat.le_trans (string_size (hs1.2 x hx)) (by unfold reachBytes; omega)) hr0 hr1 (Max0.start hsh) (Own.start W)).mono ?_
  rintro e W' ⟨rfl, hw⟩
  exact ⟨rfl, hw.below⟩

theorem tells_row : Rows.ScopeTellsSaid :=
  OpenClaim.holds_of_wide 4 Tryd.f4 rfl rfl rfl rfl rfl rfl rfl ⟨rfl, rfl, rfl, rfl, rfl⟩ rfl rfl rfl rfl rfl (by kernel_rfl) Tryd.func4 (by kernel_rfl)
    (of_decide_eq_true (by kernel_rfl)) (by unfold Func.isWrapper; rw [if_neg (of_decide_eq_false (by kernel_rfl))]; exact ⟨rfl, rfl⟩)
    (fun os started H enc _ => tells_lifted os started H enc)

theorem tells_holds : Rows.ScopeTellsCardSaid :=
  Claim7.holds_tied_plain_at .later [] [.data, .pinned] true Rows.scopeTellsCard.stood.harness false
    tells_row (fun _ h => by cases h) (by kernel_rfl) (fun _ h => by cases h) scopeTells_row_tie rfl ⟨rfl, rfl⟩ (by kernel_rfl) rfl
    (fun f fn hf hfn => by
      obtain rfl : f = 4 := Option.some.inj ((show Tryd.prog.funcNamed "latchkey/latchkeylaw06.ScopeTells" = some 4 by kernel_rfl).symm.trans hf) |>.symm
      obtain rfl : fn = Tryd.f4 := (Option.some.inj (Tryd.func4.symm.trans hfn)).symm
      exact ⟨by kernel_rfl, no_standin (by kernel_rfl)⟩)
    (by kernel_rfl)

end Go.Proofs.YtgedjkcpgagnbaaDoor
