/- ClockSums answers true for all numbers and every list of times, and leaves the list as it was. No condition. -/
import Derived.Test.YtbhmmkdbflbolaaLaw
import Derived.Test.YtbhmmkdbflbolaaSums07
namespace Go.Proofs.Ytbhmmkdbflbolaa
open Go.ChangeShapes Go.WideShapes Go.ChangeAt Go.RowKit
open Go.ChangeMaps (open_string)

set_option maxRecDepth 100000 in
theorem sums_lifted (os : Os) (started : os.Started) (H : Type) (enc : TypeId × Value → H) :
    ReturnsInHanded {} Try.checked os 5 .any (Rows.clockSumsSpec.pre6 enc Try.prog Try.f5 Rows.clockSumsRow.domain false) (Rows.clockSumsSpec.post enc Try.prog Try.f5 false true false false) := by
  refine law_lifted (C := Try.checked) (by kernel_rfl) started (by kernel_rfl) Try.func5
    (ChangeSpec.witness6 (enc := enc) (C := Try.checked) false ⟨#[], #[.int .i64 0, .int .i64 0, .int .i64 0, .slice none 0 0], []⟩ 8 (by kernel_rfl) (by kernel_rfl) (by kernel_rfl) (by kernel_rfl))
    (by kernel_rfl) rfl (by kernel_rfl) (tb := 4) rfl (by kernel_rfl) (fun ds hd => by match ds, hd with | [d0, d1, d2, d3], _ => rfl) ?_
  intro W base args ds before hval0 hA0 _ hsz0
  have hval : ∀ (j : Nat) t v, Try.f5.params[j]? = some t → args[j]? = some v → Value.okWide Try.prog W .any base t v := hval0
  have hA : DataW.TrodAll enc Try.prog W 0 (fun _ => true) true Try.f5.params.toList args.toList ds before := hA0
  have hsz : (DataW.weightsEach Try.prog Try.f5.params.toList ds).all (· ≤ reachBytes) = true := hsz0
  clear hval0 hA0 hsz0
  rw [Try.params5] at hA hval hsz
  obtain ⟨v0, v1, v2, v3, d0, d1, d2, d3, p0, p1, p2, p3, rfl, rfl, rfl, h0, h1, h2, h3⟩ := trodAll_four hA
  obtain ⟨a0, rfl, rfl, rfl, wa0⟩ := open_int (k := .i64) (by kernel_rfl) (hval 0 _ v0 rfl rfl) h0
  have bd0 := wf_i64' wa0
  obtain ⟨a1, rfl, rfl, rfl, wa1⟩ := open_int (k := .i64) (by kernel_rfl) (hval 1 _ v1 rfl rfl) h1
  have bd1 := wf_i64' wa1
  obtain ⟨a2, rfl, rfl, rfl, wa2⟩ := open_int (k := .i64) (by kernel_rfl) (hval 2 _ v2 rfl rfl) h2
  have bd2 := wf_i64' wa2
  obtain ⟨A3, n3, c3, xs3, rfl, hn3, hc3, hr3, hw3, hz3⟩ := arg_slice (P := Try.prog) (t := 33) (e := 3) (size := 1) (by kernel_rfl) (by kernel_rfl) (by omega) (fun _ => rfl) (el_int (k := .i64) (by kernel_rfl)) (hval 3 _ v3 rfl rfl) h3
  have hs3 := hz3 reachBytes (weightsEach_get hsz 3 rfl rfl)
  clear hz3
  have hb : n3 * 8 ≤ 140737488351232 := hs3.1
  refine (sums a0 a1 a2 A3 n3 c3 xs3 W hb hr3 (Own.start W)).mono ?_
  rintro e W' ⟨rfl, hw⟩
  exact ⟨rfl, hw.below⟩

theorem sums_holds : Rows.ClockSumsSaid :=
  OpenClaim.holds_of_wide 5 Try.f5 rfl rfl rfl rfl rfl rfl rfl ⟨rfl, rfl, rfl, rfl, rfl⟩ rfl rfl rfl rfl rfl (by kernel_rfl) Try.func5 (by kernel_rfl)
    (of_decide_eq_true (by kernel_rfl)) (by unfold Func.isWrapper; rw [if_neg (of_decide_eq_false (by kernel_rfl))]; exact ⟨rfl, rfl⟩)
    (fun os started H enc _ => sums_lifted os started H enc)

end Go.Proofs.Ytbhmmkdbflbolaa
