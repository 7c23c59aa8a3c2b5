/- RecordSmall answers true for any token, key, event, chain and note. No condition but the card's own. -/
import Derived.Test.YtabibfabieghpaaGreatDoorLaw
import Derived.SevenTiedAt
import Derived.Test.YtabibfabieghpaaGreatDoorRows
import Derived.Test.YtabibfabieghpaaGreatDoorLaid
import Derived.Test.YtabibfabieghpaaGreatDoorTie
import Derived.Test.YtabibfabieghpaaGreatDoorCards
import Derived.Test.YtabibfabieghpaaGreatDoorRecSmall
namespace Go.Proofs.YtabibfabieghpaaGreatDoor
open Go.ChangeShapes Go.WideShapes Go.ChangeAt Go.RowKit
open Go.ChangeMaps (open_string)

section Parts
variable {H : Type} {enc : TypeId × Value → H} {w : World} {sp : Nat → Bool} {held : Bool}
theorem el_tok (n : Nat) (cs : List Value) (y : DataW H × List MemPlace) (h : DataW.trod enc Tryz.prog w 0 sp held n TOKT cs = some y) : ∃ (q0 : Int) (q1 : Int) (q2 : Int) (q3 : ByteArray) (q4 : Int) (q5 : Bool) (q6 : Int) (q7 : Int) (q8 : ByteArray), cs = [.int .i64 q0, .int .i64 q1, .int .i64 q2, .string q3, .int .i64 q4, .bool q5, .int .i64 q6, .int .i64 q7, .string q8] ∧ y.1 = .agg [.lit (.int .i64 q0), .lit (.int .i64 q1), .lit (.int .i64 q2), .lit (.string q3.data.toList), .lit (.int .i64 q4), .lit (.bool q5), .lit (.int .i64 q6), .lit (.int .i64 q7), .lit (.string q8.data.toList)] := by
  obtain ⟨m, ys, h1, h2, h3, hf⟩ := el_struct Tryz.underlying23 (by kernel_rfl) (by kernel_rfl) n cs y h
  match cs, h1, ys, h2 with
  | [c0, c1, c2, c3, c4, c5, c6, c7, c8], _, [y0, y1, y2, y3, y4, y5, y6, y7, y8], _ =>
    obtain ⟨q0, e0, z0, -⟩ := el_int (k := .i64) (by kernel_rfl) _ _ _ (hf 0 _ c0 y0 rfl rfl rfl)
    obtain ⟨q1, e1, z1, -⟩ := el_int (k := .i64) (by kernel_rfl) _ _ _ (hf 1 _ c1 y1 rfl rfl rfl)
    obtain ⟨q2, e2, z2, -⟩ := el_int (k := .i64) (by kernel_rfl) _ _ _ (hf 2 _ c2 y2 rfl rfl rfl)
    obtain ⟨q3, e3, z3, -⟩ := el_str (by kernel_rfl) _ _ _ (hf 3 _ c3 y3 rfl rfl rfl)
    obtain ⟨q4, e4, z4, -⟩ := el_int (k := .i64) (by kernel_rfl) _ _ _ (hf 4 _ c4 y4 rfl rfl rfl)
    obtain ⟨q5, e5, z5⟩ := el_bool (by kernel_rfl) _ _ _ (hf 5 _ c5 y5 rfl rfl rfl)
    obtain ⟨q6, e6, z6, -⟩ := el_int (k := .i64) (by kernel_rfl) _ _ _ (hf 6 _ c6 y6 rfl rfl rfl)
    obtain ⟨q7, e7, z7, -⟩ := el_int (k := .i64) (by kernel_rfl) _ _ _ (hf 7 _ c7 y7 rfl rfl rfl)
    obtain ⟨q8, e8, z8, -⟩ := el_str (by kernel_rfl) _ _ _ (hf 8 _ c8 y8 rfl rfl rfl)
    injection e0 with e0
    injection e1 with e1
    injection e2 with e2
    injection e3 with e3
    injection e4 with e4
    injection e5 with e5
    injection e6 with e6
    injection e7 with e7
    injection e8 with e8
    subst e0 e1 e2 e3 e4 e5 e6 e7 e8
    exact ⟨q0, q1, q2, q3, q4, q5, q6, q7, q8, rfl, by rw [h3]; simp [z0, z1, z2, z3, z4, z5, z6, z7, z8]⟩
theorem el_key (n : Nat) (cs : List Value) (y : DataW H × List MemPlace) (h : DataW.trod enc Tryz.prog w 0 sp held n KEYT cs = some y) : ∃ (q0 : Int) (q1 : ByteArray) (q2 : Int) (q3 : Int), cs = [.int .i64 q0, .string q1, .int .i64 q2, .int .i64 q3] ∧ y.1 = .agg [.lit (.int .i64 q0), .lit (.string q1.data.toList), .lit (.int .i64 q2), .lit (.int .i64 q3)] := by
  obtain ⟨m, ys, h1, h2, h3, hf⟩ := el_struct Tryz.underlying25 (by kernel_rfl) (by kernel_rfl) n cs y h
  match cs, h1, ys, h2 with
  | [c0, c1, c2, c3], _, [y0, y1, y2, y3], _ =>
    obtain ⟨q0, e0, z0, -⟩ := el_int (k := .i64) (by kernel_rfl) _ _ _ (hf 0 _ c0 y0 rfl rfl rfl)
    obtain ⟨q1, e1, z1, -⟩ := el_str (by kernel_rfl) _ _ _ (hf 1 _ c1 y1 rfl rfl rfl)
    obtain ⟨q2, e2, z2, -⟩ := el_int (k := .i64) (by kernel_rfl) _ _ _ (hf 2 _ c2 y2 rfl rfl rfl)
    obtain ⟨q3, e3, z3, -⟩ := el_int (k := .i64) (by kernel_rfl) _ _ _ (hf 3 _ c3 y3 rfl rfl rfl)
    injection e0 with e0
    injection e1 with e1
    injection e2 with e2
    injection e3 with e3
    subst e0 e1 e2 e3
    exact ⟨q0, q1, q2, q3, rfl, by rw [h3]; simp [z0, z1, z2, z3]⟩
theorem el_event (n : Nat) (cs : List Value) (y : DataW H × List MemPlace) (h : DataW.trod enc Tryz.prog w 0 sp held n EVT cs = some y) : ∃ (q0 : Int) (q1 : Int) (q2 : Int) (q3 : Int) (q4 : ByteArray), cs = [.int .i64 q0, .int .i64 q1, .int .i64 q2, .int .i64 q3, .string q4] ∧ y.1 = .agg [.lit (.int .i64 q0), .lit (.int .i64 q1), .lit (.int .i64 q2), .lit (.int .i64 q3), .lit (.string q4.data.toList)] := by
  obtain ⟨m, ys, h1, h2, h3, hf⟩ := el_struct Tryz.underlying27 (by kernel_rfl) (by kernel_rfl) n cs y h
  match cs, h1, ys, h2 with
  | [c0, c1, c2, c3, c4], _, [y0, y1, y2, y3, y4], _ =>
    obtain ⟨q0, e0, z0, -⟩ := el_int (k := .i64) (by kernel_rfl) _ _ _ (hf 0 _ c0 y0 rfl rfl rfl)
    obtain ⟨q1, e1, z1, -⟩ := el_int (k := .i64) (by kernel_rfl) _ _ _ (hf 1 _ c1 y1 rfl rfl rfl)
    obtain ⟨q2, e2, z2, -⟩ := el_int (k := .i64) (by kernel_rfl) _ _ _ (hf 2 _ c2 y2 rfl rfl rfl)
    obtain ⟨q3, e3, z3, -⟩ := el_int (k := .i64) (by kernel_rfl) _ _ _ (hf 3 _ c3 y3 rfl rfl rfl)
    obtain ⟨q4, e4, z4, -⟩ := el_str (by kernel_rfl) _ _ _ (hf 4 _ c4 y4 rfl rfl rfl)
    injection e0 with e0
    injection e1 with e1
    injection e2 with e2
    injection e3 with e3
    injection e4 with e4
    subst e0 e1 e2 e3 e4
    exact ⟨q0, q1, q2, q3, q4, rfl, by rw [h3]; simp [z0, z1, z2, z3, z4]⟩
theorem el_chain (n : Nat) (cs : List Value) (y : DataW H × List MemPlace) (h : DataW.trod enc Tryz.prog w 0 sp held n CHT cs = some y) : ∃ (q0 : Int) (q1 : Int) (q2 : ByteArray) (q3 : ByteArray), cs = [.int .i64 q0, .int .i64 q1, .string q2, .string q3] ∧ y.1 = .agg [.lit (.int .i64 q0), .lit (.int .i64 q1), .lit (.string q2.data.toList), .lit (.string q3.data.toList)] := by
  obtain ⟨m, ys, h1, h2, h3, hf⟩ := el_struct Tryz.underlying29 (by kernel_rfl) (by kernel_rfl) n cs y h
  match cs, h1, ys, h2 with
  | [c0, c1, c2, c3], _, [y0, y1, y2, y3], _ =>
    obtain ⟨q0, e0, z0, -⟩ := el_int (k := .i64) (by kernel_rfl) _ _ _ (hf 0 _ c0 y0 rfl rfl rfl)
    obtain ⟨q1, e1, z1, -⟩ := el_int (k := .i64) (by kernel_rfl) _ _ _ (hf 1 _ c1 y1 rfl rfl rfl)
    obtain ⟨q2, e2, z2, -⟩ := el_str (by kernel_rfl) _ _ _ (hf 2 _ c2 y2 rfl rfl rfl)
    obtain ⟨q3, e3, z3, -⟩ := el_str (by kernel_rfl) _ _ _ (hf 3 _ c3 y3 rfl rfl rfl)
    injection e0 with e0
    injection e1 with e1
    injection e2 with e2
    injection e3 with e3
    subst e0 e1 e2 e3
    exact ⟨q0, q1, q2, q3, rfl, by rw [h3]; simp [z0, z1, z2, z3]⟩
theorem cells_tok : (Tryz.prog).cellsOf TOKT = 9 := by kernel_rfl
theorem cells_key : (Tryz.prog).cellsOf KEYT = 4 := by kernel_rfl
theorem cells_event : (Tryz.prog).cellsOf EVT = 5 := by kernel_rfl
theorem cells_chain : (Tryz.prog).cellsOf CHT = 4 := by kernel_rfl
theorem cells_int : (Tryz.prog).cellsOf 3 = 1 := by kernel_rfl
set_option maxRecDepth 100000 in
theorem arg_small {r : Reach} {b0 : Nat} {v : Value} {d : DataW H} {p : List MemPlace} (hv : Value.okWide Tryz.prog w r b0 SMT v) (h : DataW.Trod enc Tryz.prog w 0 sp held SMT v d p) (hB : (d.weights Tryz.prog SMT).all (· ≤ reachBytes) = true) :
    ∃ m : Sm, v = .agg m.cells.toArray ∧ m.es.size ≤ reachBytes := by
  obtain ⟨cs, rfl⟩ : ∃ cs, v = .agg cs := by
    simp only [Value.okWide, Tryz.underlying31] at hv
    obtain ⟨cs, h1, _⟩ := hv
    exact ⟨cs, h1⟩
  obtain ⟨l⟩ := cs
  obtain ⟨fuel, hf0⟩ := h
  obtain ⟨ys, m, _, hy, hlen, hyl, hf⟩ := DataW.trod_struct Tryz.underlying31 hf0
  have hd : d = DataW.agg (ys.map (·.1)) := congrArg Prod.fst hy
  subst hd
  have hc : (Tryz.prog).cellsOf SMT = 24 := by kernel_rfl
  rw [hc] at hlen
  have f0 : DataW.trod enc Tryz.prog w 0 sp held m TOKT ((l.drop 0).take ((Tryz.prog).cellsOf TOKT)) = ys[0]? := hf 0 _ rfl
  have f1 : DataW.trod enc Tryz.prog w 0 sp held m KEYT ((l.drop 9).take ((Tryz.prog).cellsOf KEYT)) = ys[1]? := hf 1 _ rfl
  have f2 : DataW.trod enc Tryz.prog w 0 sp held m EVT ((l.drop 13).take ((Tryz.prog).cellsOf EVT)) = ys[2]? := hf 2 _ rfl
  have f3 : DataW.trod enc Tryz.prog w 0 sp held m CHT ((l.drop 18).take ((Tryz.prog).cellsOf CHT)) = ys[3]? := hf 3 _ rfl
  have f4 : DataW.trod enc Tryz.prog w 0 sp held m 3 ((l.drop 22).take ((Tryz.prog).cellsOf 3)) = ys[4]? := hf 4 _ rfl
  have f5 : DataW.trod enc Tryz.prog w 0 sp held m 3 ((l.drop 23).take ((Tryz.prog).cellsOf 3)) = ys[5]? := hf 5 _ rfl
  rw [cells_tok] at f0
  rw [cells_key] at f1
  rw [cells_event] at f2
  rw [cells_chain] at f3
  rw [cells_int] at f4 f5
  clear hf
  change l.length = 24 at hlen
  match l, hlen, ys, hyl with
  | [c0, c1, c2, c3, c4, c5, c6, c7, c8, c9, c10, c11, c12, c13, c14, c15, c16, c17, c18, c19, c20, c21, c22, c23], _, [y0, y1, y2, y3, y4, y5], _ =>
    obtain ⟨a, b, c, s, d, f, e, g, r, e0, z0⟩ := el_tok _ [c0, c1, c2, c3, c4, c5, c6, c7, c8] y0 f0
    obtain ⟨kg, ks, ka, kb, e1, z1⟩ := el_key _ [c9, c10, c11, c12] y1 f1
    obtain ⟨ei, et, ek, ej, es, e2, z2⟩ := el_event _ [c13, c14, c15, c16, c17] y2 f2
    obtain ⟨ca, cb, cs, cr, e3, z3⟩ := el_chain _ [c18, c19, c20, c21] y3 f3
    obtain ⟨nx, e4, z4, -⟩ := el_int (k := .i64) (by kernel_rfl) _ [c22] y4 f4
    obtain ⟨ny, e5, z5, -⟩ := el_int (k := .i64) (by kernel_rfl) _ [c23] y5 f5
    unfold DataW.weights at hB
    simp only [Tryz.underlying31] at hB
    have b2 : ((y2.1).weights Tryz.prog EVT).all (· ≤ reachBytes) = true := weightsEach_get hB 2 rfl rfl
    rw [z2] at b2
    unfold DataW.weights at b2
    simp only [Tryz.underlying27] at b2
    have b4 : ((DataW.lit (.string es.data.toList) : DataW H).weights Tryz.prog 9).all (· ≤ reachBytes) = true := weightsEach_get b2 4 rfl rfl
    refine ⟨⟨a, b, c, s, d, f, e, g, r, kg, ks, ka, kb, ei, et, ek, ej, es, ca, cb, cs, cr, nx, ny⟩, ?_, string_size b4⟩
    show Value.agg ([c0, c1, c2, c3, c4, c5, c6, c7, c8] ++ ([c9, c10, c11, c12] ++ ([c13, c14, c15, c16, c17] ++ ([c18, c19, c20, c21] ++ ([c22] ++ [c23]))))).toArray = _
    rw [e0, e1, e2, e3, e4, e5]
    rfl
end Parts

set_option maxRecDepth 100000 in
theorem small_lifted (os : Os) (started : os.Started) (H : Type) (enc : TypeId × Value → H) :
    ReturnsInHanded {} Tryz.checked os 3 .any (fun w args => (Rows.recordSmallSpec.pre enc Tryz.prog Tryz.f3 [] false w args ∧ laidMetH Tryz.prog laidE w) ∧ sizedMet enc Tryz.prog Tryz.f3 (OpenSpec.ofChange Rows.recordSmallSpec) false w args) (Rows.recordSmallSpec.post enc Tryz.prog Tryz.f3 false true false false) := by
  refine law_laid (C := Tryz.checked) (lay := laidE) (by kernel_rfl) started (by kernel_rfl) Tryz.func3
    (ChangeSpec.witness_at (enc := enc) (C := Tryz.checked) (os := os) (X := fun w _ => laidMetH Tryz.prog laidE w) false (laidWorld os) #[.agg #[.int .i64 0, .int .i64 0, .int .i64 0, .string ByteArray.empty, .int .i64 0, .bool false, .int .i64 0, .int .i64 0, .string ByteArray.empty, .int .i64 0, .string ByteArray.empty, .int .i64 0, .int .i64 0, .int .i64 0, .int .i64 0, .int .i64 0, .int .i64 0, .string ByteArray.empty, .int .i64 0, .int .i64 0, .string ByteArray.empty, .string ByteArray.empty, .int .i64 0, .int .i64 0]] 8 rfl (by kernel_rfl) (by kernel_rfl) (by kernel_rfl) (by kernel_rfl) (by kernel_rfl) (laidWorld_met os _))
    (by kernel_rfl) rfl (by kernel_rfl) (tb := 4) rfl (by kernel_rfl) (fun ds hd => by match ds, hd with | [d0], _ => rfl) ?_
  intro W base args ds before hval0 hA0 hL hsz0
  have hval : ∀ (j : Nat) t v, Tryz.f3.params[j]? = some t → args[j]? = some v → Value.okWide Tryz.prog W .any base t v := hval0
  have hA : DataW.TrodAll enc Tryz.prog W 0 (fun _ => true) true Tryz.f3.params.toList args.toList ds before := hA0
  have hsz : (DataW.weightsEach Tryz.prog Tryz.f3.params.toList ds).all (· ≤ reachBytes) = true := hsz0
  clear hval0 hA0 hsz0
  rw [Tryz.params3] at hA hval hsz
  obtain ⟨v0, d0, rfl, rfl, h0⟩ := trodAll_one hA
  obtain ⟨m, rfl, hm⟩ := arg_small (hval 0 _ v0 rfl rfl) h0 (weightsEach_get hsz 0 rfl rfl)
  refine (small_any m W (Nat.le_trans hm (by unfold reachBytes; omega)) (Laid0.start hL) (Own.start W)).mono ?_
  rintro e W' ⟨rfl, hw⟩
  exact ⟨rfl, hw.below⟩

theorem small_row : Rows.RecordSmallSaid :=
  OpenClaim.holds_of_wide 3 Tryz.f3 rfl rfl rfl rfl rfl rfl rfl ⟨rfl, rfl, rfl, rfl, rfl⟩ rfl rfl rfl rfl rfl (by kernel_rfl) Tryz.func3 (by kernel_rfl)
    (of_decide_eq_true (by kernel_rfl)) (by unfold Func.isWrapper; rw [if_neg (of_decide_eq_false (by kernel_rfl))]; exact ⟨rfl, rfl⟩)
    (fun os started H enc _ => small_lifted os started H enc)

theorem small_holds : Rows.RecordSmallCardSaid :=
  Claim7.holds_tied_plain_at .later [] [.handle] true Rows.recordSmallCard.stood.harness true
    small_row (fun _ h => by cases h) (by kernel_rfl) (fun _ h => by cases h) recordSmall_row_tie rfl ⟨rfl, rfl⟩ (by kernel_rfl) rfl
    (fun f fn hf hfn => by
      obtain rfl : f = 3 := Option.some.inj ((show Tryz.prog.funcNamed "latchkey/latchkeylaw14.RecordSmall" = some 3 by kernel_rfl).symm.trans hf) |>.symm
      obtain rfl : fn = Tryz.f3 := (Option.some.inj (Tryz.func3.symm.trans hfn)).symm
      exact ⟨by kernel_rfl, no_standin (by kernel_rfl)⟩)
    (by kernel_rfl)

end Go.Proofs.YtabibfabieghpaaGreatDoor
