/- NodeBack answers true for any kind of node, any cells and any page. where they are together of bulk at most 1048576. -/
import Derived.Test.YtbclmmneiphcaaaDoorLaw
import Derived.SevenTiedAt
import Derived.Deep.DeepHandedRow
import Derived.Test.YtbclmmneiphcaaaDoorRows
import Derived.Test.YtbclmmneiphcaaaDoorLaid
import Derived.Test.YtbclmmneiphcaaaDoorTie
import Derived.Test.YtbclmmneiphcaaaDoorCards
import Derived.Test.YtbclmmneiphcaaaDoorBack10
namespace Go.Proofs.YtbclmmneiphcaaaDoor
open Go.ChangeShapes Go.WideShapes Go.ChangeAt Go.RowKit
open Go.ChangeMaps (open_string)

set_option maxRecDepth 100000 in
theorem arg_page {H : Type} {enc : TypeId × Value → H} {W : World} {base : Nat} {v : Value} {d : DataW H} {p : List MemPlace} (hv : Value.okWide Tryd.prog W .any base PT v)
    (h : DataW.Trod enc Tryd.prog W 0 (fun _ => true) true PT v d p) (hB : (d.weights Tryd.prog PT).all (· ≤ reachBytes) = true) : ∃ (A : Option Addr) (c : Nat) (q : Pg), v = q.val A c ∧ Rds (Ph.of W) 1 en64 A q.links.length q.links ∧ q.links.length ≤ reachBytes ∧ q.body.size ≤ reachBytes := by
  obtain ⟨cs, rfl⟩ : ∃ cs, v = .agg cs := by
    simp only [Value.okWide, Tryd.underlying45] at hv
    obtain ⟨cs, h1, _⟩ := hv
    exact ⟨cs, h1⟩
  obtain ⟨l⟩ := cs
  obtain ⟨fuel, hf⟩ := h
  obtain ⟨m, ys, h1, h2, h3, hfl⟩ := el_struct Tryd.underlying45 (by kernel_rfl) (by kernel_rfl) fuel l (d, p) hf
  dsimp only at h3
  subst h3
  unfold DataW.weights at hB
  simp only [Tryd.underlying45] at hB
  match l, h1, ys, h2 with
  | [c0, c1, c2, c3, c4], _, [y0, y1, y2, y3, y4], _ =>
    obtain ⟨b0, e0, -⟩ := el_int (k := .i64) (by kernel_rfl) _ _ _ (hfl 0 _ c0 y0 rfl rfl rfl)
    obtain ⟨b1, e1, -⟩ := el_int (k := .i64) (by kernel_rfl) _ _ _ (hfl 1 _ c1 y1 rfl rfl rfl)
    obtain ⟨b2, e2, -⟩ := el_int (k := .i64) (by kernel_rfl) _ _ _ (hfl 2 _ c2 y2 rfl rfl rfl)
    obtain ⟨A3, n3, k3, xs3, e3, c1', c2', c3', -, c5, c6⟩ := el_slice (en := en64) (dat := fun z => DataW.lit (.int .i64 z)) (Wf := fun _ => True) (t := LIT) (e := IT) (size := 1) (by kernel_rfl) (by kernel_rfl) (by decide) (fun _ => rfl)
      (fun n cs y hh => by
        obtain ⟨q, a1, a2, a3⟩ := el_int (k := .i64) (by kernel_rfl) n cs y hh
        exact ⟨q, a1, a2, trivial⟩) _ _ _ (hfl 3 _ c3 y3 rfl rfl rfl)
    obtain ⟨s4, e4, z4, -⟩ := el_str (by kernel_rfl) _ _ _ (hfl 4 _ c4 y4 rfl rfl rfl)
    injection e0 with e0
    injection e1 with e1
    injection e2 with e2
    injection e3 with e3
    injection e4 with e4
    subst e0 e1 e2 e3 e4
    have w3 := c5 reachBytes (weightsEach_get hB 3 rfl rfl)
    have w4 : ((y4.1).weights Tryd.prog ST).all (· ≤ reachBytes) = true := weightsEach_get hB 4 rfl rfl
    rw [z4] at w4
    have z3 : Tryd.prog.bytesOf IT = 8 := by kernel_rfl
    rw [z3] at w3
    have i3 := c3'.1
    refine ⟨A3, k3, ⟨b0, b1, b2, xs3, s4⟩, ?_, by rw [i3]; exact c3', by show xs3.length ≤ _; omega, string_size w4⟩
    show Value.agg #[.int .i64 b0, .int .i64 b1, .int .i64 b2, .slice A3 n3 k3, .string s4] = Value.agg #[.int .i64 b0, .int .i64 b1, .int .i64 b2, .slice A3 xs3.length k3, .string s4]
    rw [i3]

theorem weights_agg {H : Type} {P : Program} {t : TypeId} {fs : Array Field} {parts : List (DataW H)} {B : Nat} (hu : P.underlying t = some (.struct fs)) (h : ((DataW.agg parts).weights P t).all (· ≤ B) = true) : (DataW.weightsEach P (fs.toList.map (·.type)) parts).all (· ≤ B) = true := by
  unfold DataW.weights at h
  rw [hu] at h
  exact h
abbrev datC {H : Type} (c : Cel) : DataW H := .agg [.lit (.string c.key.data.toList), .lit (.string c.value.data.toList), .lit (.int .i64 c.kid)]
theorem el_cel {H : Type} {enc : TypeId × Value → H} {w : World} {sp : Nat → Bool} {held : Bool} (n : Nat) (cs : List Value) (y : DataW H × List MemPlace)
    (h : DataW.trod enc Tryd.prog w 0 sp held n 74 cs = some y) : ∃ x : Cel, cs = enCel x ∧ y.1 = datC x ∧ (-9223372036854775808 ≤ x.kid ∧ x.kid ≤ 9223372036854775807) := by
  obtain ⟨m, ys, h1, h2, h3, hf⟩ := el_struct Tryd.underlying74 (by kernel_rfl) (by kernel_rfl) n cs y h
  match cs, h1, ys, h2 with
  | [c0, c1, c2], _, [y0, y1, y2], _ =>
    obtain ⟨q0, e0, z0, _⟩ := el_str (by kernel_rfl) _ _ _ (hf 0 _ c0 y0 rfl rfl rfl)
    obtain ⟨q1, e1, z1, _⟩ := el_str (by kernel_rfl) _ _ _ (hf 1 _ c1 y1 rfl rfl rfl)
    obtain ⟨q2, e2, z2, w2⟩ := el_int (k := .i64) (by kernel_rfl) _ _ _ (hf 2 _ c2 y2 rfl rfl rfl)
    injection e0 with e0
    injection e1 with e1
    injection e2 with e2
    subst e0 e1 e2
    exact ⟨⟨q0, q1, q2⟩, rfl, by rw [h3]; simp [z0, z1, z2], wf_i64' w2⟩
theorem cel_small {H : Type} {xs : List Cel} (h : ∀ x ∈ xs, ((datC x : DataW H).weights Tryd.prog 74).all (· ≤ reachBytes) = true) : ∀ x ∈ xs, x.key.size ≤ 1000000000000000000 ∧ x.value.size ≤ 1000000000000000000 := fun x hx => by
  have h1 := weights_agg Tryd.underlying74 (h x hx)
  exact ⟨Nat.le_trans (string_size (weightsEach_get h1 0 rfl rfl)) (by unfold reachBytes; omega), Nat.le_trans (string_size (weightsEach_get h1 1 rfl rfl)) (by unfold reachBytes; omega)⟩

section
variable {H : Type} {enc : TypeId × Value → H}
/-- A law that answers true and leaves what was there as it was: a row with a condition, where the listed variables hold what they do. -/
theorem law_row {C : Checked} {lay : List (String × DataW Unit)} {os : Os} {f : FuncId} {fn : Func} {S : OpenSpec} {sp : ChangeSpec} {F : Stop.Interp} (hat : S.at F = sp) (hSv : S.vars = []) (hvt : S.bare.plain.varTypes C.prog = [])
    (own : ownKnob C.prog.godebug = none) (started : os.Started) (noInit : C.prog.inits.idxOf? f = none) (hfn : C.prog.funcs[f]? = some fn)
    (witness : ∃ (w : World) (tape : Tape) (i : Input), w.os = os ∧ (w.forCall tape i).Shaped C.prog ∧ i.vars = [] ∧ Input.okWide C.prog (w.forCall tape i) .any w.heap.size f i ∧
      S.preRow enc C.prog fn [] false lay (w.forCall tape i).memory i.args ∧ Assume.holds {} C.prog (lone (Frame.enter C.prog f i.args .normal) [] (w.forCall tape i)))
    (hl : laidOutB C.prog = true) (hvars : sp.vars = []) (hrd0 : (fn.params.toList.all fun t => C.prog.readableRec t && decide (t < C.prog.types.size)) = true)
    {tb : TypeId} (hres : fn.resultTypes = #[tb]) (hub : C.prog.underlying tb = some .bool)
    (hspec : ∀ ds : List (DataW H), ds.length = fn.params.toList.length → sp.fn H ds = { results := [.lit (.bool true)], args := ds, vars := [] })
    (contract : ∀ (W : World) (base : Nat) (args : Array Value) (ds : List (DataW H)) (before : List MemPlace),
      (∀ (j : Nat) t v, fn.params[j]? = some t → args[j]? = some v → Value.okWide C.prog W .any base t v) →
      DataW.TrodAll enc C.prog W 0 (fun _ => true) true fn.params.toList args.toList ds before → laidMetH C.prog lay W →
      (DataW.weightsEach C.prog fn.params.toList ds).all (· ≤ reachBytes) = true →
      Calls C.prog f args W fun e W' => e = .returned (.bool true) ∧ Below W.heap.size W W') :
    ReturnsInHanded {} C os f .any (S.preRow enc C.prog fn [] false lay) ((S.at F).post enc C.prog fn false true false false) := by
  have hrd : ∀ t ∈ fn.params.toList, C.prog.readableRec t = true ∧ t < C.prog.types.size := fun t ht => by
    have := List.all_eq_true.1 hrd0 t ht
    simpa using this
  refine returnsInHanded_of_row (s := S) own started noInit hfn witness ?_
  intro W base args ds gs before hval hW _ _ hsz hL _ _
  have hW' := hW
  obtain ⟨p, q, hA, hV, rfl, hz, hnd⟩ := hW
  rw [hSv] at hV
  have hgs : gs = [] ∧ q = [] := by
    cases gs with
    | nil => exact ⟨rfl, hV⟩
    | cons _ _ => cases hV
  obtain ⟨rfl, rfl⟩ := hgs
  rw [hvt, List.append_nil, List.append_nil] at hsz
  have hlt : ∀ x ∈ p, x.block < W.heap.size := fun x hx => hW'.lt x (by simpa using hx)
  refine (contract W base args ds p hval hA hL hsz).mono ?_
  rintro e W' ⟨rfl, hb⟩
  rw [hat]
  have hW2 : DataW.Whole enc C.prog fn.params.toList sp.vars false W args.toList ds [] (p ++ []) := by
    rw [hSv] at hW'
    rw [hvars]
    exact hW'
  refine ⟨_, rfl, ds, [], p ++ [], [], p, [], hW2, ?_, ?_, ?_, hb.frame _, fun h => by cases h⟩
  · rw [List.append_nil, hspec ds (trodAll_length _ _ _ _ hA), hres]
    exact trodAll_mk1 (shut_bool hub true)
  · rw [List.append_nil, hspec ds (trodAll_length _ _ _ _ hA)]
    exact trodAll_below hl hb _ _ _ _ hrd hA hlt
  · rw [List.append_nil, hspec ds (trodAll_length _ _ _ _ hA), hvars]
    rfl
end
set_option maxRecDepth 100000 in
theorem backu_lifted (os : Os) (started : os.Started) (H : Type) (enc : TypeId × Value → H) (F : Stop.Interp) :
    ReturnsInHanded {} Tryd.checked os 5 .any ((Rows.OpenSpec.upto Rows.nodeBackSpec).preRow enc Tryd.prog Tryd.f5 Rows.nodeBackUptoRow.domain false Rows.nodeBackUptoRow.laid) (((Rows.OpenSpec.upto Rows.nodeBackSpec).at F).post enc Tryd.prog Tryd.f5 false true false false) := by
  refine law_row (C := Tryd.checked) (S := Rows.OpenSpec.upto Rows.nodeBackSpec) (sp := Rows.nodeBackSpec) (lay := laidE) rfl rfl (by kernel_rfl) (by kernel_rfl) started (by kernel_rfl) Tryd.func5
    (witness_row_at (enc := enc) (C := Tryd.checked) (s := Rows.OpenSpec.upto Rows.nodeBackSpec) false (laidWorld os) #[.bool false, .slice none 0 0, .agg #[.int .i64 0, .int .i64 0, .int .i64 0, .slice none 0 0, .string ByteArray.empty]] rfl (by kernel_rfl) (by kernel_rfl) (by kernel_rfl)
      (OpenSpec.preRow_of_cond 8 (x := ([.lit (.bool false), .nil, .agg [.lit (.int .i64 0), .lit (.int .i64 0), .lit (.int .i64 0), .nil, .lit (.string [])]], [], [])) (by kernel_rfl) (by kernel_rfl) (fun k hk => by cases hk; kernel_rfl) (by kernel_rfl) (laidWorld_met os _)))
    (by kernel_rfl) rfl (by kernel_rfl) (tb := 4) rfl (by kernel_rfl) (fun ds hd => by match ds, hd with | [d0, d1, d2], _ => rfl) ?_
  intro W base args ds before hval0 hA0 hL hsz0
  have hval : ∀ (j : Nat) t v, Tryd.f5.params[j]? = some t → args[j]? = some v → Value.okWide Tryd.prog W .any base t v := hval0
  have hA : DataW.TrodAll enc Tryd.prog W 0 (fun _ => true) true Tryd.f5.params.toList args.toList ds before := hA0
  have hsz : (DataW.weightsEach Tryd.prog Tryd.f5.params.toList ds).all (· ≤ reachBytes) = true := hsz0
  clear hval0 hA0 hsz0
  rw [Tryd.params5] at hA hval hsz
  obtain ⟨v0, v1, v2, d0, d1, d2, p0, p1, p2, rfl, rfl, rfl, h0, h1, h2⟩ := trodAll_three hA
  obtain ⟨a0, rfl, rfl, rfl⟩ := open_bool (by kernel_rfl) (hval 0 _ v0 rfl rfl) h0
  obtain ⟨A1, n1, c1, xs1, rfl, hn1, hc1, hr1, hw1, hz1, hd1⟩ := arg_slice (P := Tryd.prog) (t := 43) (e := 74) (size := 3) (by kernel_rfl) (by kernel_rfl) (by omega) (fun _ => rfl) el_cel (hval 1 _ v1 rfl rfl) h1
  have hs1 := hz1 reachBytes (weightsEach_get hsz 1 rfl rfl)
  clear hz1
  obtain ⟨A2, c2, g2, rfl, hr2, hl2, hb2⟩ := arg_page (hval 2 _ v2 rfl rfl) h2 (weightsEach_get hsz 2 rfl rfl)
  have zb : Tryd.prog.bytesOf CLT = 40 := by kernel_rfl
  have hnb : n1 ≤ 1000000000000000000 := by
    have hq := hs1.1
    rw [show Tryd.prog.bytesOf 74 = 40 from zb] at hq
    unfold reachBytes at hq
    omega
  refine (nodeback_any a0 A1 n1 c1 xs1 A2 c2 g2 W hnb (cel_small hs1.2) hw1 hr1 (Nat.le_trans hl2 (by unfold reachBytes; omega)) (Nat.le_trans hb2 (by unfold reachBytes; omega)) hr2 (Laid0.start hL) (Own.start W)).mono ?_
  rintro e W' ⟨rfl, hw⟩
  exact ⟨rfl, hw.below⟩

theorem backu_row : Rows.NodeBackUptoSaid :=
  OpenClaim.holds_of_cond 5 Tryd.f5 rfl rfl rfl rfl rfl rfl rfl ⟨rfl, rfl, rfl, rfl, rfl⟩ rfl rfl rfl rfl rfl (by kernel_rfl) Tryd.func5 (by kernel_rfl)
    (of_decide_eq_true (by kernel_rfl)) (by unfold Func.isWrapper; rw [if_neg (of_decide_eq_false (by kernel_rfl))]; exact ⟨rfl, rfl⟩)
    (fun os started H enc _ F => by rw [OpenClaim.pre_eq_preRow]; exact backu_lifted os started H enc F)

theorem backu_holds : Rows.NodeBackUptoCardSaid :=
  Claim7.holds_tied_plain_at .later [] [.handle] true Rows.nodeBackUptoCard.stood.harness true
    backu_row (fun _ h => by cases h) (by kernel_rfl) (fun _ h => by cases h) nodeBackUpto_row_tie rfl ⟨rfl, rfl⟩ (by kernel_rfl) rfl
    (fun f fn hf hfn => by
      obtain rfl : f = 5 := Option.some.inj ((show Tryd.prog.funcNamed "latchkey/latchkeylaw10.NodeBack" = some 5 by kernel_rfl).symm.trans hf) |>.symm
      obtain rfl : fn = Tryd.f5 := (Option.some.inj (Tryd.func5.symm.trans hfn)).symm
      exact ⟨by kernel_rfl, no_standin (by kernel_rfl)⟩)
    (by kernel_rfl)

end Go.Proofs.YtbclmmneiphcaaaDoor
