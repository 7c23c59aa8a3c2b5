/- HashMACs answers true for any key and parts. No condition. -/
import Derived.Test.YtldloociaoflkaaLaw
import Derived.Test.YtldloociaoflkaaMacs
namespace Go.Proofs.Ytldloociaoflkaa
open Go.ChangeShapes Go.WideShapes Go.ChangeAt Go.RowKit
open Go.ChangeMaps (open_string)

set_option maxRecDepth 100000 in
theorem macs_lifted (os : Os) (started : os.Started) (H : Type) (enc : TypeId × Value → H) :
    ReturnsInHanded {} Try.checked os 4 .any (Rows.hashMACsSpec.pre6 enc Try.prog Try.f4 Rows.hashMACsRow.domain false) (Rows.hashMACsSpec.post enc Try.prog Try.f4 false true false false) := by
  refine law_lifted (C := Try.checked) (by kernel_rfl) started (by kernel_rfl) Try.func4
    (ChangeSpec.witness6 (enc := enc) (C := Try.checked) false ⟨#[], #[.string ByteArray.empty, .slice none 0 0], []⟩ 8 (by kernel_rfl) (by kernel_rfl) (by kernel_rfl) (by kernel_rfl))
    (by kernel_rfl) rfl (by kernel_rfl) (tb := 4) rfl (by kernel_rfl) (fun ds hd => by match ds, hd with | [d0, d1], _ => rfl) ?_
  intro W base args ds before hval0 hA0 _ hsz0
  have hval : ∀ (j : Nat) t v, Try.f4.params[j]? = some t → args[j]? = some v → Value.okWide Try.prog W .any base t v := hval0
  have hA : DataW.TrodAll enc Try.prog W 0 (fun _ => true) true Try.f4.params.toList args.toList ds before := hA0
  have hsz : (DataW.weightsEach Try.prog Try.f4.params.toList ds).all (· ≤ reachBytes) = true := hsz0
  clear hval0 hA0 hsz0
  rw [Try.params4] at hA hval hsz
  obtain ⟨v0, v1, d0, d1, p0, p1, rfl, rfl, rfl, h0, h1⟩ := trodAll_two hA
  obtain ⟨a0, rfl, rfl, rfl, ws0⟩ := open_string (by kernel_rfl) (hval 0 _ v0 rfl rfl) h0
  obtain ⟨A1, n1, c1, xs1, rfl, hn1, hc1, hr1, hw1, hz1, hd1⟩ := arg_slice (P := Try.prog) (t := 22) (e := 9) (size := 1) (by kernel_rfl) (by kernel_rfl) (by omega) (fun _ => rfl) (el_str (by kernel_rfl)) (hval 1 _ v1 rfl rfl) h1
  have hs1 := hz1 reachBytes (weightsEach_get hsz 1 rfl rfl)
  clear hz1
  have hk0 := string_size (weightsEach_get hsz 0 rfl rfl)
  refine (macs_any a0 A1 n1 c1 xs1 W (by omega) hr1 (Nat.le_trans hk0 (by unfold reachBytes; omega)) (fun x hx => Nat.le_trans (string_size (hs1.2 x hx)) (by unfold reachBytes; omega)) (Own.start W)).mono ?_
  rintro e W' ⟨rfl, hw⟩
  exact ⟨rfl, hw.below⟩

theorem macs_holds : Rows.HashMACsSaid :=
  OpenClaim.holds_of_wide 4 Try.f4 rfl rfl rfl rfl rfl rfl rfl ⟨rfl, rfl, rfl, rfl, rfl⟩ rfl rfl rfl rfl rfl (by kernel_rfl) Try.func4 (by kernel_rfl)
    (of_decide_eq_true (by kernel_rfl)) (by unfold Func.isWrapper; rw [if_neg (of_decide_eq_false (by kernel_rfl))]; exact ⟨rfl, rfl⟩)
    (fun os started H enc _ => macs_lifted os started H enc)

end Go.Proofs.Ytldloociaoflkaa
