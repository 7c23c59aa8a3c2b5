/- RecordOrder answers true for any two families and any two tokens. No condition but the card's own. -/
import Derived.Test.YtabibfabieghpaaGreatDoorLaw
import Derived.SevenTiedAt
import Derived.Test.YtabibfabieghpaaGreatDoorRows
import Derived.Test.YtabibfabieghpaaGreatDoorLaid
import Derived.Test.YtabibfabieghpaaGreatDoorTie
import Derived.Test.YtabibfabieghpaaGreatDoorCards
import Derived.Test.YtabibfabieghpaaGreatDoorRecOrder
import Derived.Test.YtabibfabieghpaaGreatDoorNest
namespace Go.Proofs.YtabibfabieghpaaGreatDoor
open Go.ChangeShapes Go.WideShapes Go.ChangeAt Go.RowKit
open Go.ChangeMaps (open_string)

section Parts
variable {H : Type} {enc : TypeId × Value → H} {w : World} {sp : Nat → Bool} {held : Bool}
theorem el_tok (n : Nat) (cs : List Value) (y : DataW H × List MemPlace) (h : DataW.trod enc Tryz.prog w 0 sp held n TOKT cs = some y) : ∃ (q0 : Int) (q1 : Int) (q2 : Int) (q3 : ByteArray) (q4 : Int) (q5 : Bool) (q6 : Int) (q7 : Int) (q8 : ByteArray), cs = [.int .i64 q0, .int .i64 q1, .int .i64 q2, .string q3, .int .i64 q4, .bool q5, .int .i64 q6, .int .i64 q7, .string q8] ∧ y.1 = .agg [.lit (.int .i64 q0), .lit (.int .i64 q1), .lit (.int .i64 q2), .lit (.string q3.data.toList), .lit (.int .i64 q4), .lit (.bool q5), .lit (.int .i64 q6), .lit (.int .i64 q7), .lit (.string q8.data.toList)] := by
  obtain ⟨m, ys, h1, h2, h3, hf⟩ := el_struct Tryz.underlying23 (by kernel_rfl) (by kernel_rfl) n cs y h
  match cs, h1, ys, h2 with
  | [c0, c1, c2, c3, c4, c5, c6, c7, c8], _, [y0, y1, y2, y3, y4, y5, y6, y7, y8], _ =>
    obtain ⟨q0, e0, z0, -⟩ := el_int (k := .i64) (by kernel_rfl) _ _ _ (hf 0 _ c0 y0 rfl rfl rfl)
    obtain ⟨q1, e1, z1, -⟩ := el_int (k := .i64) (by kernel_rfl) _ _ _ (hf 1 _ c1 y1 rfl rfl rfl)
    obtain ⟨q2, e2, z2, -⟩ := el_int (k := .i64) (by kernel_rfl) _ _ _ (hf 2 _ c2 y2 rfl rfl rfl)
    obtain ⟨q3, e3, z3, -⟩ := el_str (by kernel_rfl) _ _ _ (hf 3 _ c3 y3 rfl rfl rfl)
    obtain ⟨q4, e4, z4, -⟩ := el_int (k := .i64) (by kernel_rfl) _ _ _ (hf 4 _ c4 y4 rfl rfl rfl)
    obtain ⟨q5, e5, z5⟩ := el_bool (by kernel_rfl) _ _ _ (hf 5 _ c5 y5 rfl rfl rfl)
    obtain ⟨q6, e6, z6, -⟩ := el_int (k := .i64) (by kernel_rfl) _ _ _ (hf 6 _ c6 y6 rfl rfl rfl)
    obtain ⟨q7, e7, z7, -⟩ := el_int (k := .i64) (by kernel_rfl) _ _ _ (hf 7 _ c7 y7 rfl rfl rfl)
    obtain ⟨q8, e8, z8, -⟩ := el_str (by kernel_rfl) _ _ _ (hf 8 _ c8 y8 rfl rfl rfl)
    injection e0 with e0
    injection e1 with e1
    injection e2 with e2
    injection e3 with e3
    injection e4 with e4
    injection e5 with e5
    injection e6 with e6
    injection e7 with e7
    injection e8 with e8
    subst e0 e1 e2 e3 e4 e5 e6 e7 e8
    exact ⟨q0, q1, q2, q3, q4, q5, q6, q7, q8, rfl, by rw [h3]; simp [z0, z1, z2, z3, z4, z5, z6, z7, z8]⟩
set_option maxRecDepth 100000 in
theorem arg_tok {r : Reach} {b0 : Nat} {v : Value} {d : DataW H} {p : List MemPlace} (hv : Value.okWide Tryz.prog w r b0 TOKT v) (h : DataW.Trod enc Tryz.prog w 0 sp held TOKT v d p) : ∃ x : Tkv, v = .agg x.C.toArray := by
  obtain ⟨cs, rfl⟩ : ∃ cs, v = .agg cs := by
    simp only [Value.okWide, Tryz.underlying23] at hv
    obtain ⟨cs, h1, _⟩ := hv
    exact ⟨cs, h1⟩
  obtain ⟨l⟩ := cs
  obtain ⟨fuel, hf⟩ := h
  obtain ⟨a, b, c, s, d, f, e, g, r, e0, -⟩ := el_tok fuel l _ hf
  refine ⟨⟨a, b, c, s, d, f, e, g, r⟩, ?_⟩
  have e1 : l = tokC a b c s d f e g r := e0
  rw [e1]
  rfl
theorem one_int {n : Nat} {c : Value} {y : DataW H × List MemPlace} (h : DataW.trod enc Tryz.prog w 0 sp held n 3 [c] = some y) : ∃ b : Int, c = .int .i64 b := by
  obtain ⟨b, e, -⟩ := el_int (k := .i64) (by kernel_rfl) _ _ _ h
  injection e with e
  exact ⟨b, e⟩
theorem one_str {n : Nat} {c : Value} {y : DataW H × List MemPlace} (h : DataW.trod enc Tryz.prog w 0 sp held n 9 [c] = some y) : ∃ b : ByteArray, c = .string b := by
  obtain ⟨b, e, -⟩ := el_str (by kernel_rfl) _ _ _ h
  injection e with e
  exact ⟨b, e⟩
end Parts
set_option maxRecDepth 100000 in
theorem arg_fam {H : Type} {enc : TypeId × Value → H} {W : World} {base : Nat} {v : Value} {d : DataW H} {p : List MemPlace} (hv : Value.okWide Tryz.prog W .any base FMT v)
    (h : DataW.Trod enc Tryz.prog W 0 (fun _ => true) true FMT v d p) (hB : (d.weights Tryz.prog FMT).all (· ≤ reachBytes) = true) : ∃ x : Fmv, v = .agg x.C.toArray ∧ x.In (Ph.of W) := by
  obtain ⟨cs, rfl⟩ : ∃ cs, v = .agg cs := by
    simp only [Value.okWide, Tryz.underlying56] at hv
    obtain ⟨cs, h1, _⟩ := hv
    exact ⟨cs, h1⟩
  obtain ⟨l⟩ := cs
  obtain ⟨fuel, hf⟩ := h
  obtain ⟨m, ys, h1, h2, h3, hfl⟩ := el_struct Tryz.underlying56 (by kernel_rfl) (by kernel_rfl) fuel l (d, p) hf
  dsimp only at h3
  subst h3
  unfold DataW.weights at hB
  simp only [Tryz.underlying56] at hB
  match l, h1, ys, h2 with
  | [c0, c1, c2, c3, c4, c5, c6, c7, c8, c9, c10, c11, c12, c13], _, [y0, y1, y2, y3, y4, y5, y6, y7, y8, y9, y10, y11, y12, y13], _ =>
    obtain ⟨b0, rfl⟩ := one_int (hfl 0 _ c0 y0 rfl rfl rfl)
    obtain ⟨b1, rfl⟩ := one_str (hfl 1 _ c1 y1 rfl rfl rfl)
    obtain ⟨b2, rfl⟩ := one_str (hfl 2 _ c2 y2 rfl rfl rfl)
    obtain ⟨A3, n3, k3, xs3, e3, f1, f2, f3, -, f5, -⟩ := el_slice (en := enStr) (dat := fun z => DataW.lit (.string z.data.toList)) (Wf := fun _ => True) (t := LST) (e := 9) (size := 1) (by kernel_rfl) (by kernel_rfl) (by decide) (fun _ => rfl)
      (fun n cs y hh => by
        obtain ⟨q, a1, a2, a3⟩ := el_str (by kernel_rfl) n cs y hh
        exact ⟨q, a1, a2, trivial⟩) _ _ _ (hfl 3 _ c3 y3 rfl rfl rfl)
    injection e3 with e3
    subst e3
    obtain ⟨b4, rfl⟩ := one_int (hfl 4 _ c4 y4 rfl rfl rfl)
    obtain ⟨b5, rfl⟩ := one_int (hfl 5 _ c5 y5 rfl rfl rfl)
    obtain ⟨b6, rfl⟩ := one_int (hfl 6 _ c6 y6 rfl rfl rfl)
    obtain ⟨b7, rfl⟩ := one_int (hfl 7 _ c7 y7 rfl rfl rfl)
    obtain ⟨b8, rfl⟩ := one_int (hfl 8 _ c8 y8 rfl rfl rfl)
    obtain ⟨b9, rfl⟩ := one_int (hfl 9 _ c9 y9 rfl rfl rfl)
    obtain ⟨b10, rfl⟩ := one_int (hfl 10 _ c10 y10 rfl rfl rfl)
    obtain ⟨b11, rfl⟩ := one_int (hfl 11 _ c11 y11 rfl rfl rfl)
    obtain ⟨b12, rfl⟩ := one_int (hfl 12 _ c12 y12 rfl rfl rfl)
    obtain ⟨b13, rfl⟩ := one_int (hfl 13 _ c13 y13 rfl rfl rfl)
    have w3 := (f5 reachBytes (weightsEach_get hB 3 rfl rfl)).1
    have z3 : Tryz.prog.bytesOf 9 = 16 := by kernel_rfl
    rw [z3] at w3
    have i3 := f3.1
    refine ⟨⟨b0, b1, b2, A3, n3, k3, xs3, b4, b5, b6, b7, b8, b9, b10, b11, b12, b13⟩, rfl, f3, f1, ?_⟩
    show n3 ≤ 8796093022208
    unfold reachBytes at w3
    omega

set_option maxRecDepth 100000 in
theorem order_lifted (os : Os) (started : os.Started) (H : Type) (enc : TypeId × Value → H) :
    ReturnsInHanded {} Tryz.checked os 4 .any (fun w args => (Rows.recordOrderSpec.pre enc Tryz.prog Tryz.f4 [] false w args ∧ laidMetH Tryz.prog laidE w) ∧ sizedMet enc Tryz.prog Tryz.f4 (OpenSpec.ofChange Rows.recordOrderSpec) false w args) (Rows.recordOrderSpec.post enc Tryz.prog Tryz.f4 false true false false) := by
  refine law_laid (C := Tryz.checked) (lay := laidE) (by kernel_rfl) started (by kernel_rfl) Tryz.func4
    (ChangeSpec.witness_at (enc := enc) (C := Tryz.checked) (os := os) (X := fun w _ => laidMetH Tryz.prog laidE w) false (laidWorld os) #[.agg #[.int .i64 0, .string ByteArray.empty, .string ByteArray.empty, .slice none 0 0, .int .i64 0, .int .i64 0, .int .i64 0, .int .i64 0, .int .i64 0, .int .i64 0, .int .i64 0, .int .i64 0, .int .i64 0, .int .i64 0], .agg #[.int .i64 0, .string ByteArray.empty, .string ByteArray.empty, .slice none 0 0, .int .i64 0, .int .i64 0, .int .i64 0, .int .i64 0, .int .i64 0, .int .i64 0, .int .i64 0, .int .i64 0, .int .i64 0, .int .i64 0], .agg #[.int .i64 0, .int .i64 0, .int .i64 0, .string ByteArray.empty, .int .i64 0, .bool false, .int .i64 0, .int .i64 0, .string ByteArray.empty], .agg #[.int .i64 0, .int .i64 0, .int .i64 0, .string ByteArray.empty, .int .i64 0, .bool false, .int .i64 0, .int .i64 0, .string ByteArray.empty]] 8 rfl (by kernel_rfl) (by kernel_rfl) (by kernel_rfl) (by kernel_rfl) (by kernel_rfl) (laidWorld_met os _))
    (by kernel_rfl) rfl (by kernel_rfl) (tb := 4) rfl (by kernel_rfl) (fun ds hd => by match ds, hd with | [d0, d1, d2, d3], _ => rfl) ?_
  intro W base args ds before hval0 hA0 hL hsz0
  have hval : ∀ (j : Nat) t v, Tryz.f4.params[j]? = some t → args[j]? = some v → Value.okWide Tryz.prog W .any base t v := hval0
  have hA : DataW.TrodAll enc Tryz.prog W 0 (fun _ => true) true Tryz.f4.params.toList args.toList ds before := hA0
  have hsz : (DataW.weightsEach Tryz.prog Tryz.f4.params.toList ds).all (· ≤ reachBytes) = true := hsz0
  clear hval0 hA0 hsz0
  rw [Tryz.params4] at hA hval hsz
  obtain ⟨v0, v1, v2, v3, d0, d1, d2, d3, p0, p1, p2, p3, rfl, rfl, rfl, h0, h1, h2, h3⟩ := trodAll_four hA
  obtain ⟨x, rfl, hx⟩ := arg_fam (hval 0 _ v0 rfl rfl) h0 (weightsEach_get hsz 0 rfl rfl)
  obtain ⟨y, rfl, hy⟩ := arg_fam (hval 1 _ v1 rfl rfl) h1 (weightsEach_get hsz 1 rfl rfl)
  obtain ⟨t, rfl⟩ := arg_tok (hval 2 _ v2 rfl rfl) h2
  obtain ⟨u, rfl⟩ := arg_tok (hval 3 _ v3 rfl rfl) h3
  refine (order_any x y t u W hx hy (Laid0.start hL) (Own.start W)).mono ?_
  rintro e W' ⟨rfl, hw⟩
  exact ⟨rfl, hw.below⟩

theorem order_row : Rows.RecordOrderSaid :=
  OpenClaim.holds_of_wide 4 Tryz.f4 rfl rfl rfl rfl rfl rfl rfl ⟨rfl, rfl, rfl, rfl, rfl⟩ rfl rfl rfl rfl rfl (by kernel_rfl) Tryz.func4 (by kernel_rfl)
    (of_decide_eq_true (by kernel_rfl)) (by unfold Func.isWrapper; rw [if_neg (of_decide_eq_false (by kernel_rfl))]; exact ⟨rfl, rfl⟩)
    (fun os started H enc _ => order_lifted os started H enc)

theorem order_holds : Rows.RecordOrderCardSaid :=
  Claim7.holds_tied_plain_at .later [] [.handle] true Rows.recordOrderCard.stood.harness true
    order_row (fun _ h => by cases h) (by kernel_rfl) (fun _ h => by cases h) recordOrder_row_tie rfl ⟨rfl, rfl⟩ (by kernel_rfl) rfl
    (fun f fn hf hfn => by
      obtain rfl : f = 4 := Option.some.inj ((show Tryz.prog.funcNamed "latchkey/latchkeylaw14.RecordOrder" = some 4 by kernel_rfl).symm.trans hf) |>.symm
      obtain rfl : fn = Tryz.f4 := (Option.some.inj (Tryz.func4.symm.trans hfn)).symm
      exact ⟨by kernel_rfl, no_standin (by kernel_rfl)⟩)
    (by kernel_rfl)

end Go.Proofs.YtabibfabieghpaaGreatDoor
