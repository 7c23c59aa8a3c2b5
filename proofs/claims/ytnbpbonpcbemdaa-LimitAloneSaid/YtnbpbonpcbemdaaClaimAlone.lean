/- LimitAlone answers true for any numbers and any list of asks, and leaves the list as it was. No condition. -/
import Derived.Test.YtnbpbonpcbemdaaLaw
import Derived.Test.YtnbpbonpcbemdaaLimH
namespace Go.Proofs.Ytnbpbonpcbemdaa
open Go.ChangeShapes Go.WideShapes Go.ChangeAt Go.RowKit
open Go.ChangeMaps (open_string)

theorem el_ask {H : Type} {enc : TypeId × Value → H} {w : World} {sp : Nat → Bool} {held : Bool} (n : Nat) (cs : List Value) (y : DataW H × List MemPlace)
    (h : DataW.trod enc Try.prog w 0 sp held n 31 cs = some y) : ∃ x : Ask, cs = enA x ∧ y.1 = .agg [.lit (.int .i64 x.who), .lit (.int .i64 x.cost), .lit (.int .i64 x.part), .lit (.int .i64 x.later)] ∧ (i64B x.who ∧ i64B x.cost ∧ i64B x.part ∧ i64B x.later) := by
  obtain ⟨m, ys, h1, h2, h3, hf⟩ := el_struct Try.underlying31 (by kernel_rfl) (by kernel_rfl) n cs y h
  match cs, h1, ys, h2 with
  | [c0, c1, c2, c3], _, [y0, y1, y2, y3], _ =>
    obtain ⟨q0, e0, z0, w0⟩ := el_int (k := .i64) (by kernel_rfl) _ _ _ (hf 0 _ c0 y0 rfl rfl rfl)
    obtain ⟨q1, e1, z1, w1⟩ := el_int (k := .i64) (by kernel_rfl) _ _ _ (hf 1 _ c1 y1 rfl rfl rfl)
    obtain ⟨q2, e2, z2, w2⟩ := el_int (k := .i64) (by kernel_rfl) _ _ _ (hf 2 _ c2 y2 rfl rfl rfl)
    obtain ⟨q3, e3, z3, w3⟩ := el_int (k := .i64) (by kernel_rfl) _ _ _ (hf 3 _ c3 y3 rfl rfl rfl)
    injection e0 with e0
    injection e1 with e1
    injection e2 with e2
    injection e3 with e3
    subst e0 e1 e2 e3
    exact ⟨⟨q0, q1, q2, q3⟩, rfl, by rw [h3]; simp [z0, z1, z2, z3], wf_i64' w0, wf_i64' w1, wf_i64' w2, wf_i64' w3⟩

set_option maxRecDepth 100000 in
theorem alone_lifted (os : Os) (started : os.Started) (H : Type) (enc : TypeId × Value → H) :
    ReturnsInHanded {} Try.checked os 5 .any (Rows.limitAloneSpec.pre6 enc Try.prog Try.f5 Rows.limitAloneRow.domain false) (Rows.limitAloneSpec.post enc Try.prog Try.f5 false true false false) := by
  refine law_lifted (C := Try.checked) (by kernel_rfl) started (by kernel_rfl) Try.func5
    (ChangeSpec.witness6 (enc := enc) (C := Try.checked) false ⟨#[], #[.int .i64 0, .int .i64 0, .int .i64 0, .slice none 0 0, .int .i64 0], []⟩ 8 (by kernel_rfl) (by kernel_rfl) (by kernel_rfl) (by kernel_rfl))
    (by kernel_rfl) rfl (by kernel_rfl) (tb := 4) rfl (by kernel_rfl) (fun ds hd => by match ds, hd with | [d0, d1, d2, d3, d4], _ => rfl) ?_
  intro W base args ds before hval0 hA0 _ hsz0
  have hval : ∀ (j : Nat) t v, Try.f5.params[j]? = some t → args[j]? = some v → Value.okWide Try.prog W .any base t v := hval0
  have hA : DataW.TrodAll enc Try.prog W 0 (fun _ => true) true Try.f5.params.toList args.toList ds before := hA0
  have hsz : (DataW.weightsEach Try.prog Try.f5.params.toList ds).all (· ≤ reachBytes) = true := hsz0
  clear hval0 hA0 hsz0
  rw [Try.params5] at hA hval hsz
  obtain ⟨v0, rr0, d0, ss0, p0, qq0, hargs, rfl, rfl, h0, tt0⟩ := trodAll_cons hA
  obtain ⟨v1, rr1, d1, ss1, p1, qq1, rfl, rfl, rfl, h1, tt1⟩ := trodAll_cons tt0
  obtain ⟨v2, rr2, d2, ss2, p2, qq2, rfl, rfl, rfl, h2, tt2⟩ := trodAll_cons tt1
  obtain ⟨v3, rr3, d3, ss3, p3, qq3, rfl, rfl, rfl, h3, tt3⟩ := trodAll_cons tt2
  obtain ⟨v4, rr4, d4, ss4, p4, qq4, rfl, rfl, rfl, h4, tt4⟩ := trodAll_cons tt3
  obtain ⟨rfl, rfl, rfl⟩ := trodAll_nil tt4
  obtain rfl : args = #[v0, v1, v2, v3, v4] := Array.toList_inj.1 hargs
  obtain ⟨a0, rfl, rfl, rfl, wa0⟩ := open_int (k := .i64) (by kernel_rfl) (hval 0 _ v0 rfl rfl) h0
  have bd0 := wf_i64' wa0
  obtain ⟨a1, rfl, rfl, rfl, wa1⟩ := open_int (k := .i64) (by kernel_rfl) (hval 1 _ v1 rfl rfl) h1
  have bd1 := wf_i64' wa1
  obtain ⟨a2, rfl, rfl, rfl, wa2⟩ := open_int (k := .i64) (by kernel_rfl) (hval 2 _ v2 rfl rfl) h2
  have bd2 := wf_i64' wa2
  obtain ⟨A3, n3, c3, xs3, rfl, hn3, hc3, hr3, hw3, hz3, hd3⟩ := arg_slice (P := Try.prog) (t := 22) (e := 31) (size := 4) (by kernel_rfl) (by kernel_rfl) (by omega) (fun _ => rfl) el_ask (hval 3 _ v3 rfl rfl) h3
  have hs3 := hz3 reachBytes (weightsEach_get hsz 3 rfl rfl)
  clear hz3
  obtain ⟨a4, rfl, rfl, rfl, wa4⟩ := open_int (k := .i64) (by kernel_rfl) (hval 4 _ v4 rfl rfl) h4
  have bd4 := wf_i64' wa4
  refine (alone_any a0 a1 a2 a4 A3 n3 c3 xs3 W bd0 bd1 bd2 bd4 (Nat.le_trans hn3 (Nat.le_trans hc3 (by unfold maxLen; omega))) hw3 hr3 (Own.start W)).mono ?_
  rintro e W' ⟨rfl, hw⟩
  exact ⟨rfl, hw.below⟩

theorem alone_holds : Rows.LimitAloneSaid :=
  OpenClaim.holds_of_wide 5 Try.f5 rfl rfl rfl rfl rfl rfl rfl ⟨rfl, rfl, rfl, rfl, rfl⟩ rfl rfl rfl rfl rfl (by kernel_rfl) Try.func5 (by kernel_rfl)
    (of_decide_eq_true (by kernel_rfl)) (by unfold Func.isWrapper; rw [if_neg (of_decide_eq_false (by kernel_rfl))]; exact ⟨rfl, rfl⟩)
    (fun os started H enc _ => alone_lifted os started H enc)

end Go.Proofs.Ytnbpbonpcbemdaa
