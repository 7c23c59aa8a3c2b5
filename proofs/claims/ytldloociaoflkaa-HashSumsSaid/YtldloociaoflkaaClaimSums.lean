/- HashSums answers true for any parts. No condition. -/
import Derived.Test.YtldloociaoflkaaLaw
import Derived.Test.YtldloociaoflkaaSums
namespace Go.Proofs.Ytldloociaoflkaa
open Go.ChangeShapes Go.WideShapes Go.ChangeAt Go.RowKit
open Go.ChangeMaps (open_string)

set_option maxRecDepth 100000 in
theorem sums_lifted (os : Os) (started : os.Started) (H : Type) (enc : TypeId × Value → H) :
    ReturnsInHanded {} Try.checked os 3 .any (Rows.hashSumsSpec.pre6 enc Try.prog Try.f3 Rows.hashSumsRow.domain false) (Rows.hashSumsSpec.post enc Try.prog Try.f3 false true false false) := by
  refine law_lifted (C := Try.checked) (by kernel_rfl) started (by kernel_rfl) Try.func3
    (ChangeSpec.witness6 (enc := enc) (C := Try.checked) false ⟨#[], #[.slice none 0 0], []⟩ 8 (by kernel_rfl) (by kernel_rfl) (by kernel_rfl) (by kernel_rfl))
    (by kernel_rfl) rfl (by kernel_rfl) (tb := 4) rfl (by kernel_rfl) (fun ds hd => by match ds, hd with | [d0], _ => rfl) ?_
  intro W base args ds before hval0 hA0 _ hsz0
  have hval : ∀ (j : Nat) t v, Try.f3.params[j]? = some t → args[j]? = some v → Value.okWide Try.prog W .any base t v := hval0
  have hA : DataW.TrodAll enc Try.prog W 0 (fun _ => true) true Try.f3.params.toList args.toList ds before := hA0
  have hsz : (DataW.weightsEach Try.prog Try.f3.params.toList ds).all (· ≤ reachBytes) = true := hsz0
  clear hval0 hA0 hsz0
  rw [Try.params3] at hA hval hsz
  obtain ⟨v0, d0, rfl, rfl, h0⟩ := trodAll_one hA
  obtain ⟨A0, n0, c0, xs0, rfl, hn0, hc0, hr0, hw0, hz0, hd0⟩ := arg_slice (P := Try.prog) (t := 22) (e := 9) (size := 1) (by kernel_rfl) (by kernel_rfl) (by omega) (fun _ => rfl) (el_str (by kernel_rfl)) (hval 0 _ v0 rfl rfl) h0
  have hs0 := hz0 reachBytes (weightsEach_get hsz 0 rfl rfl)
  clear hz0
  refine (sums_any A0 n0 c0 xs0 W (by omega) hr0 (fun x hx => Nat.le_trans (string_size (hs0.2 x hx)) (by unfold reachBytes; omega)) (Own.start W)).mono ?_
  rintro e W' ⟨rfl, hw⟩
  exact ⟨rfl, hw.below⟩

theorem sums_holds : Rows.HashSumsSaid :=
  OpenClaim.holds_of_wide 3 Try.f3 rfl rfl rfl rfl rfl rfl rfl ⟨rfl, rfl, rfl, rfl, rfl⟩ rfl rfl rfl rfl rfl (by kernel_rfl) Try.func3 (by kernel_rfl)
    (of_decide_eq_true (by kernel_rfl)) (by unfold Func.isWrapper; rw [if_neg (of_decide_eq_false (by kernel_rfl))]; exact ⟨rfl, rfl⟩)
    (fun os started H enc _ => sums_lifted os started H enc)

end Go.Proofs.Ytldloociaoflkaa
