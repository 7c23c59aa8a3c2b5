/- HashAffine answers true for any three texts. No condition. -/
import Derived.Test.YtldloociaoflkaaLaw
import Derived.Test.YtldloociaoflkaaAffine
namespace Go.Proofs.Ytldloociaoflkaa
open Go.ChangeShapes Go.WideShapes Go.ChangeAt Go.RowKit
open Go.ChangeMaps (open_string)

set_option maxRecDepth 100000 in
theorem affine_lifted (os : Os) (started : os.Started) (H : Type) (enc : TypeId × Value → H) :
    ReturnsInHanded {} Try.checked os 10 .any (Rows.hashAffineSpec.pre6 enc Try.prog Try.f10 Rows.hashAffineRow.domain false) (Rows.hashAffineSpec.post enc Try.prog Try.f10 false true false false) := by
  refine law_lifted (C := Try.checked) (by kernel_rfl) started (by kernel_rfl) Try.func10
    (ChangeSpec.witness6 (enc := enc) (C := Try.checked) false ⟨#[], #[.string ByteArray.empty, .string ByteArray.empty, .string ByteArray.empty], []⟩ 8 (by kernel_rfl) (by kernel_rfl) (by kernel_rfl) (by kernel_rfl))
    (by kernel_rfl) rfl (by kernel_rfl) (tb := 4) rfl (by kernel_rfl) (fun ds hd => by match ds, hd with | [d0, d1, d2], _ => rfl) ?_
  intro W base args ds before hval0 hA0 _ hsz0
  have hval : ∀ (j : Nat) t v, Try.f10.params[j]? = some t → args[j]? = some v → Value.okWide Try.prog W .any base t v := hval0
  have hA : DataW.TrodAll enc Try.prog W 0 (fun _ => true) true Try.f10.params.toList args.toList ds before := hA0
  have hsz : (DataW.weightsEach Try.prog Try.f10.params.toList ds).all (· ≤ reachBytes) = true := hsz0
  clear hval0 hA0 hsz0
  rw [Try.params10] at hA hval hsz
  obtain ⟨v0, v1, v2, d0, d1, d2, p0, p1, p2, rfl, rfl, rfl, h0, h1, h2⟩ := trodAll_three hA
  obtain ⟨a0, rfl, rfl, rfl, ws0⟩ := open_string (by kernel_rfl) (hval 0 _ v0 rfl rfl) h0
  obtain ⟨a1, rfl, rfl, rfl, ws1⟩ := open_string (by kernel_rfl) (hval 1 _ v1 rfl rfl) h1
  obtain ⟨a2, rfl, rfl, rfl, ws2⟩ := open_string (by kernel_rfl) (hval 2 _ v2 rfl rfl) h2
  have hs0 := string_size (weightsEach_get hsz 0 rfl rfl)
  have hs1 := string_size (weightsEach_get hsz 1 rfl rfl)
  have hs2 := string_size (weightsEach_get hsz 2 rfl rfl)
  refine (affine_any a0 a1 a2 W (Nat.le_trans hs0 (by unfold reachBytes; omega)) (Nat.le_trans hs1 (by unfold reachBytes; omega)) (Nat.le_trans hs2 (by unfold reachBytes; omega)) (Own.start W)).mono ?_
  rintro e W' ⟨rfl, hw⟩
  exact ⟨rfl, hw.below⟩

theorem affine_holds : Rows.HashAffineSaid :=
  OpenClaim.holds_of_wide 10 Try.f10 rfl rfl rfl rfl rfl rfl rfl ⟨rfl, rfl, rfl, rfl, rfl⟩ rfl rfl rfl rfl rfl (by kernel_rfl) Try.func10 (by kernel_rfl)
    (of_decide_eq_true (by kernel_rfl)) (by unfold Func.isWrapper; rw [if_neg (of_decide_eq_false (by kernel_rfl))]; exact ⟨rfl, rfl⟩)
    (fun os started H enc _ => affine_lifted os started H enc)

end Go.Proofs.Ytldloociaoflkaa
