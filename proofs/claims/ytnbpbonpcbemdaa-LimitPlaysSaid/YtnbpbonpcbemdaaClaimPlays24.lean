/- LimitPlays answers true for any rates and bursts and any list of steps, and leaves the list as it was. No condition. -/
import Derived.Test.YtnbpbonpcbemdaaLaw
import Derived.Test.YtnbpbonpcbemdaaLimW
import Derived.Test.YtnbpbonpcbemdaaArr
namespace Go.Proofs.Ytnbpbonpcbemdaa
open Go.ChangeShapes Go.WideShapes Go.ChangeAt Go.RowKit
open Go.ChangeMaps (open_string)

section Parts
variable {H : Type} {enc : TypeId × Value → H} {w : World} {sp : Nat → Bool} {held : Bool}
abbrev datR (x : Rl) : DataW H := .agg [.lit (.int .i64 x.kind), .lit (.int .i64 x.n), .lit (.int .i64 x.d), .lit (.int .i64 x.e)]
theorem el_real (n : Nat) (cs : List Value) (y : DataW H × List MemPlace) (h : DataW.trod enc Try.prog w 0 sp held n RLT cs = some y) : ∃ x : Rl, cs = enR x ∧ y.1 = datR x ∧ RlB x := by
  obtain ⟨m, ys, h1, h2, h3, hf⟩ := el_struct Try.underlying39 (by kernel_rfl) (by kernel_rfl) n cs y h
  match cs, h1, ys, h2 with
  | [c0, c1, c2, c3], _, [y0, y1, y2, y3], _ =>
    obtain ⟨q0, e0, z0, w0⟩ := el_int (k := .i64) (by kernel_rfl) _ _ _ (hf 0 _ c0 y0 rfl rfl rfl)
    obtain ⟨q1, e1, z1, w1⟩ := el_int (k := .i64) (by kernel_rfl) _ _ _ (hf 1 _ c1 y1 rfl rfl rfl)
    obtain ⟨q2, e2, z2, w2⟩ := el_int (k := .i64) (by kernel_rfl) _ _ _ (hf 2 _ c2 y2 rfl rfl rfl)
    obtain ⟨q3, e3, z3, w3⟩ := el_int (k := .i64) (by kernel_rfl) _ _ _ (hf 3 _ c3 y3 rfl rfl rfl)
    injection e0 with e0
    injection e1 with e1
    injection e2 with e2
    injection e3 with e3
    subst e0 e1 e2 e3
    exact ⟨⟨q0, q1, q2, q3⟩, rfl, by rw [h3]; simp [z0, z1, z2, z3], wf_i64' w0, wf_i64' w1, wf_i64' w2, wf_i64' w3⟩
theorem cells_real : (Try.prog).cellsOf RLT = 4 := by kernel_rfl
theorem cells_int : (Try.prog).cellsOf 3 = 1 := by kernel_rfl
theorem cells_str : (Try.prog).cellsOf 9 = 1 := by kernel_rfl
theorem arg_reals {r : Reach} {b0 : Nat} {v : Value} {d : DataW H} {p : List MemPlace} (hv : Value.okWide Try.prog w r b0 RAT v) (h : DataW.Trod enc Try.prog w 0 sp held RAT v d p) : ∃ x y : Rl, v = .agg (rls x y) ∧ RlB x ∧ RlB y := by
  have ht : (Try.prog).underlying RAT = some (.array 2 RLT) := by kernel_rfl
  have hct : (Try.prog).cellsOf RAT = 8 := by kernel_rfl
  have hv' : ∃ cs, v = .agg cs ∧ cs.size = (Try.prog).cellsOf RAT := by
    simp only [Value.okWide, ht] at hv
    obtain ⟨cs, h1, h2, _⟩ := hv
    exact ⟨cs, h1, h2⟩
  obtain ⟨cs, rfl, hcs⟩ := hv'
  obtain ⟨fuel, hf⟩ := h
  obtain ⟨ys, m, _, _, hl, hxl, hel⟩ := DataW.trod_array ht hf
  rw [hct] at hl
  have e0 := hel 0 (by omega)
  have e1 := hel 1 (by omega)
  rw [cells_real] at e0 e1
  have h4 : (Value.agg cs).cells.toList = cs.toList := rfl
  rw [h4] at e0 e1 hl
  match hcl : cs.toList, hl, ys, hxl with
  | [c0, c1, c2, c3, c4, c5, c6, c7], _, [y0, y1], _ =>
    rw [hcl] at e0 e1
    obtain ⟨x, hx, -, wx⟩ := el_real m [c0, c1, c2, c3] y0 e0
    obtain ⟨y, hy, -, wy⟩ := el_real m [c4, c5, c6, c7] y1 e1
    refine ⟨x, y, ?_, wx, wy⟩
    congr 1
    apply Array.ext'
    rw [hcl]
    show [c0, c1, c2, c3] ++ [c4, c5, c6, c7] = _
    rw [hx, hy]
    rfl
theorem el_op (n : Nat) (cs : List Value) (y : DataW H × List MemPlace) (h : DataW.trod enc Try.prog w 0 sp held n OPT cs = some y) : ∃ x : Opp, cs = enO x ∧ y.1 = .agg [.lit (.int .i64 x.what), .lit (.int .i64 x.on), .lit (.int .i64 x.who), .lit (.int .i64 x.now), .lit (.string x.s.data.toList), datR x.cost] ∧ OpB x := by
  obtain ⟨ys, m, _, hy, hlen, hyl, hf⟩ := DataW.trod_struct Try.underlying43 h
  have hc : (Try.prog).cellsOf OPT = 9 := by kernel_rfl
  rw [hc] at hlen
  have f0 : DataW.trod enc Try.prog w 0 sp held m 3 ((cs.drop 0).take ((Try.prog).cellsOf 3)) = ys[0]? := hf 0 _ rfl
  have f1 : DataW.trod enc Try.prog w 0 sp held m 3 ((cs.drop 1).take ((Try.prog).cellsOf 3)) = ys[1]? := hf 1 _ rfl
  have f2 : DataW.trod enc Try.prog w 0 sp held m 3 ((cs.drop 2).take ((Try.prog).cellsOf 3)) = ys[2]? := hf 2 _ rfl
  have f3 : DataW.trod enc Try.prog w 0 sp held m 3 ((cs.drop 3).take ((Try.prog).cellsOf 3)) = ys[3]? := hf 3 _ rfl
  have f4 : DataW.trod enc Try.prog w 0 sp held m 9 ((cs.drop 4).take ((Try.prog).cellsOf 9)) = ys[4]? := hf 4 _ rfl
  have f5 : DataW.trod enc Try.prog w 0 sp held m RLT ((cs.drop 5).take ((Try.prog).cellsOf RLT)) = ys[5]? := hf 5 _ rfl
  rw [cells_int] at f0 f1 f2 f3
  rw [cells_str] at f4
  rw [cells_real] at f5
  clear hf
  match cs, hlen, ys, hyl with
  | [c0, c1, c2, c3, c4, c5, c6, c7, c8], _, [y0, y1, y2, y3, y4, y5], _ =>
    obtain ⟨q0, e0, z0, w0⟩ := el_int (k := .i64) (by kernel_rfl) _ [c0] y0 f0
    obtain ⟨q1, e1, z1, w1⟩ := el_int (k := .i64) (by kernel_rfl) _ [c1] y1 f1
    obtain ⟨q2, e2, z2, w2⟩ := el_int (k := .i64) (by kernel_rfl) _ [c2] y2 f2
    obtain ⟨q3, e3, z3, w3⟩ := el_int (k := .i64) (by kernel_rfl) _ [c3] y3 f3
    obtain ⟨q4, e4, z4, w4⟩ := el_str (by kernel_rfl) _ [c4] y4 f4
    obtain ⟨q5, e5, z5, w5⟩ := el_real _ [c5, c6, c7, c8] y5 f5
    refine ⟨⟨q0, q1, q2, q3, q4, q5⟩, ?_, by rw [hy]; simp [z0, z1, z2, z3, z4, z5], wf_i64' w0, wf_i64' w1, wf_i64' w2, wf_i64' w3, w4, w5⟩
    show [c0] ++ ([c1] ++ ([c2] ++ ([c3] ++ ([c4] ++ [c5, c6, c7, c8])))) = _
    rw [e0, e1, e2, e3, e4, e5]
    rfl
end Parts

set_option maxRecDepth 100000 in
theorem plays_lifted (os : Os) (started : os.Started) (H : Type) (enc : TypeId × Value → H) :
    ReturnsInHanded {} Try.checked os 4 .any (Rows.limitPlaysSpec.pre6 enc Try.prog Try.f4 Rows.limitPlaysRow.domain false) (Rows.limitPlaysSpec.post enc Try.prog Try.f4 false true false false) := by
  refine law_lifted (C := Try.checked) (by kernel_rfl) started (by kernel_rfl) Try.func4
    (ChangeSpec.witness6 (enc := enc) (C := Try.checked) false ⟨#[], #[.agg #[.int .i64 0, .int .i64 0, .int .i64 0, .int .i64 0, .int .i64 0, .int .i64 0, .int .i64 0, .int .i64 0], .agg #[.int .i64 0, .int .i64 0, .int .i64 0, .int .i64 0, .int .i64 0, .int .i64 0, .int .i64 0, .int .i64 0], .slice none 0 0], []⟩ 8 (by kernel_rfl) (by kernel_rfl) (by kernel_rfl) (by kernel_rfl))
    (by kernel_rfl) rfl (by kernel_rfl) (tb := 4) rfl (by kernel_rfl) (fun ds hd => by match ds, hd with | [d0, d1, d2], _ => rfl) ?_
  intro W base args ds before hval0 hA0 _ hsz0
  have hval : ∀ (j : Nat) t v, Try.f4.params[j]? = some t → args[j]? = some v → Value.okWide Try.prog W .any base t v := hval0
  have hA : DataW.TrodAll enc Try.prog W 0 (fun _ => true) true Try.f4.params.toList args.toList ds before := hA0
  have hsz : (DataW.weightsEach Try.prog Try.f4.params.toList ds).all (· ≤ reachBytes) = true := hsz0
  clear hval0 hA0 hsz0
  rw [Try.params4] at hA hval hsz
  obtain ⟨v0, v1, v2, d0, d1, d2, p0, p1, p2, rfl, rfl, rfl, h0, h1, h2⟩ := trodAll_three hA
  obtain ⟨x0, y0, rfl, wx0, wy0⟩ := arg_reals (hval 0 _ v0 rfl rfl) h0
  obtain ⟨x1, y1, rfl, wx1, wy1⟩ := arg_reals (hval 1 _ v1 rfl rfl) h1
  obtain ⟨A2, n2, c2, xs2, rfl, hn2, hc2, hr2, hw2, hz2, hd2⟩ := arg_slice (P := Try.prog) (t := 41) (e := 43) (size := 9) (by kernel_rfl) (by kernel_rfl) (by omega) (fun _ => rfl) el_op (hval 2 _ v2 rfl rfl) h2
  have hs2 := hz2 reachBytes (weightsEach_get hsz 2 rfl rfl)
  clear hz2
  have k0 : ∀ (x y : Rl), RlB x → RlB y → ∀ k, k < 2 → RlB ((fun j => if j = 0 then x else y) k) := fun x y hx hy k hk => by
    rcases (by omega : k = 0 ∨ k = 1) with rfl | rfl
    · exact hx
    · exact hy
  refine (plays_any (fun j => if j = 0 then x0 else y0) (fun j => if j = 0 then x1 else y1) A2 n2 c2 xs2 W (k0 x0 y0 wx0 wy0) (k0 x1 y1 wx1 wy1) (Nat.le_trans hn2 (Nat.le_trans hc2 (by unfold maxLen; omega))) hw2 hr2 (Own.start W)).mono ?_
  rintro e W' ⟨rfl, hw⟩
  exact ⟨rfl, hw.below⟩

theorem plays_holds : Rows.LimitPlaysSaid :=
  OpenClaim.holds_of_wide 4 Try.f4 rfl rfl rfl rfl rfl rfl rfl ⟨rfl, rfl, rfl, rfl, rfl⟩ rfl rfl rfl rfl rfl (by kernel_rfl) Try.func4 (by kernel_rfl)
    (of_decide_eq_true (by kernel_rfl)) (by unfold Func.isWrapper; rw [if_neg (of_decide_eq_false (by kernel_rfl))]; exact ⟨rfl, rfl⟩)
    (fun os started H enc _ => plays_lifted os started H enc)

end Go.Proofs.Ytnbpbonpcbemdaa
