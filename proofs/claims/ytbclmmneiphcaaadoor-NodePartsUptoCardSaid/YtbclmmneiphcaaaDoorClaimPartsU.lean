/- NodeParts answers true for any kind of node, any cells and any number. where they are together of bulk at most 1048576. -/
import Derived.Test.YtbclmmneiphcaaaDoorLaw
import Derived.SevenTiedAt
import Derived.Deep.DeepHandedRow
import Derived.Test.YtbclmmneiphcaaaDoorRows
import Derived.Test.YtbclmmneiphcaaaDoorLaid
import Derived.Test.YtbclmmneiphcaaaDoorTie
import Derived.Test.YtbclmmneiphcaaaDoorCards
import Derived.Test.YtbclmmneiphcaaaDoorParts10
namespace Go.Proofs.YtbclmmneiphcaaaDoor
open Go.ChangeShapes Go.WideShapes Go.ChangeAt Go.RowKit
open Go.ChangeMaps (open_string)

theorem weights_agg {H : Type} {P : Program} {t : TypeId} {fs : Array Field} {parts : List (DataW H)} {B : Nat} (hu : P.underlying t = some (.struct fs)) (h : ((DataW.agg parts).weights P t).all (· ≤ B) = true) : (DataW.weightsEach P (fs.toList.map (·.type)) parts).all (· ≤ B) = true := by
  unfold DataW.weights at h
  rw [hu] at h
  exact h
abbrev datC {H : Type} (c : Cel) : DataW H := .agg [.lit (.string c.key.data.toList), .lit (.string c.value.data.toList), .lit (.int .i64 c.kid)]
theorem el_cel {H : Type} {enc : TypeId × Value → H} {w : World} {sp : Nat → Bool} {held : Bool} (n : Nat) (cs : List Value) (y : DataW H × List MemPlace)
    (h : DataW.trod enc Tryd.prog w 0 sp held n 74 cs = some y) : ∃ x : Cel, cs = enCel x ∧ y.1 = datC x ∧ (-9223372036854775808 ≤ x.kid ∧ x.kid ≤ 9223372036854775807) := by
  obtain ⟨m, ys, h1, h2, h3, hf⟩ := el_struct Tryd.underlying74 (by kernel_rfl) (by kernel_rfl) n cs y h
  match cs, h1, ys, h2 with
  | [c0, c1, c2], _, [y0, y1, y2], _ =>
    obtain ⟨q0, e0, z0, _⟩ := el_str (by kernel_rfl) _ _ _ (hf 0 _ c0 y0 rfl rfl rfl)
    obtain ⟨q1, e1, z1, _⟩ := el_str (by kernel_rfl) _ _ _ (hf 1 _ c1 y1 rfl rfl rfl)
    obtain ⟨q2, e2, z2, w2⟩ := el_int (k := .i64) (by kernel_rfl) _ _ _ (hf 2 _ c2 y2 rfl rfl rfl)
    injection e0 with e0
    injection e1 with e1
    injection e2 with e2
    subst e0 e1 e2
    exact ⟨⟨q0, q1, q2⟩, rfl, by rw [h3]; simp [z0, z1, z2], wf_i64' w2⟩
theorem cel_small {H : Type} {xs : List Cel} (h : ∀ x ∈ xs, ((datC x : DataW H).weights Tryd.prog 74).all (· ≤ reachBytes) = true) : ∀ x ∈ xs, x.key.size ≤ 1000000000000000000 ∧ x.value.size ≤ 1000000000000000000 := fun x hx => by
  have h1 := weights_agg Tryd.underlying74 (h x hx)
  exact ⟨Nat.le_trans (string_size (weightsEach_get h1 0 rfl rfl)) (by unfold reachBytes; omega), Nat.le_trans (string_size (weightsEach_get h1 1 rfl rfl)) (by unfold reachBytes; omega)⟩

section
variable {H : Type} {enc : TypeId × Value → H}
/-- A law that answers true and leaves what was there as it was: a row with a condition, where the listed variables hold what they do. -/
theorem law_row {C : Checked} {lay : List (String × DataW Unit)} {os : Os} {f : FuncId} {fn : Func} {S : OpenSpec} {sp : ChangeSpec} {F : Stop.Interp} (hat : S.at F = sp) (hSv : S.vars = []) (hvt : S.bare.plain.varTypes C.prog = [])
    (own : ownKnob C.prog.godebug = none) (started : os.Started) (noInit : C.prog.inits.idxOf? f = none) (hfn : C.prog.funcs[f]? = some fn)
    (witness : ∃ (w : World) (tape : Tape) (i : Input), w.os = os ∧ (w.forCall tape i).Shaped C.prog ∧ i.vars = [] ∧ Input.okWide C.prog (w.forCall tape i) .any w.heap.size f i ∧
      S.preRow enc C.prog fn [] false lay (w.forCall tape i).memory i.args ∧ Assume.holds {} C.prog (lone (Frame.enter C.prog f i.args .normal) [] (w.forCall tape i)))
    (hl : laidOutB C.prog = true) (hvars : sp.vars = []) (hrd0 : (fn.params.toList.all fun t => C.prog.readableRec t && decide (t < C.prog.types.size)) = true)
    {tb : TypeId} (hres : fn.resultTypes = #[tb]) (hub : C.prog.underlying tb = some .bool)
    (hspec : ∀ ds : List (DataW H), ds.length = fn.params.toList.length → sp.fn H ds = { results := [.lit (.bool true)], args := ds, vars := [] })
    (contract : ∀ (W : World) (base : Nat) (args : Array Value) (ds : List (DataW H)) (before : List MemPlace),
      (∀ (j : Nat) t v, fn.params[j]? = some t → args[j]? = some v → Value.okWide C.prog W .any base t v) →
      DataW.TrodAll enc C.prog W 0 (fun _ => true) true fn.params.toList args.toList ds before → laidMetH C.prog lay W →
      (DataW.weightsEach C.prog fn.params.toList ds).all (· ≤ reachBytes) = true →
      Calls C.prog f args W fun e W' => e = .returned (.bool true) ∧ Below W.heap.size W W') :
    ReturnsInHanded {} C os f .any (S.preRow enc C.prog fn [] false lay) ((S.at F).post enc C.prog fn false true false false) := by
  have hrd : ∀ t ∈ fn.params.toList, C.prog.readableRec t = true ∧ t < C.prog.types.size := fun t ht => by
    have := List.all_eq_true.1 hrd0 t ht
    simpa using this
  refine returnsInHanded_of_row (s := S) own started noInit hfn witness ?_
  intro W base args ds gs before hval hW _ _ hsz hL _ _
  have hW' := hW
  obtain ⟨p, q, hA, hV, rfl, hz, hnd⟩ := hW
  rw [hSv] at hV
  have hgs : gs = [] ∧ q = [] := by
    cases gs with
    | nil => exact ⟨rfl, hV⟩
    | cons _ _ => cases hV
  obtain ⟨rfl, rfl⟩ := hgs
  rw [hvt, List.append_nil, List.append_nil] at hsz
  have hlt : ∀ x ∈ p, x.block < W.heap.size := fun x hx => hW'.lt x (by simpa using hx)
  refine (contract W base args ds p hval hA hL hsz).mono ?_
  rintro e W' ⟨rfl, hb⟩
  rw [hat]
  have hW2 : DataW.Whole enc C.prog fn.params.toList sp.vars false W args.toList ds [] (p ++ []) := by
    rw [hSv] at hW'
    rw [hvars]
    exact hW'
  refine ⟨_, rfl, ds, [], p ++ [], [], p, [], hW2, ?_, ?_, ?_, hb.frame _, fun h => by cases h⟩
  · rw [List.append_nil, hspec ds (trodAll_length _ _ _ _ hA), hres]
    exact trodAll_mk1 (shut_bool hub true)
  · rw [List.append_nil, hspec ds (trodAll_length _ _ _ _ hA)]
    exact trodAll_below hl hb _ _ _ _ hrd hA hlt
  · rw [List.append_nil, hspec ds (trodAll_length _ _ _ _ hA), hvars]
    rfl
end
set_option maxRecDepth 100000 in
theorem partsu_lifted (os : Os) (started : os.Started) (H : Type) (enc : TypeId × Value → H) (F : Stop.Interp) :
    ReturnsInHanded {} Tryd.checked os 6 .any ((Rows.OpenSpec.upto Rows.nodePartsSpec).preRow enc Tryd.prog Tryd.f6 Rows.nodePartsUptoRow.domain false Rows.nodePartsUptoRow.laid) (((Rows.OpenSpec.upto Rows.nodePartsSpec).at F).post enc Tryd.prog Tryd.f6 false true false false) := by
  refine law_row (C := Tryd.checked) (S := Rows.OpenSpec.upto Rows.nodePartsSpec) (sp := Rows.nodePartsSpec) (lay := laidE) rfl rfl (by kernel_rfl) (by kernel_rfl) started (by kernel_rfl) Tryd.func6
    (witness_row_at (enc := enc) (C := Tryd.checked) (s := Rows.OpenSpec.upto Rows.nodePartsSpec) false (laidWorld os) #[.bool false, .slice none 0 0, .int .i64 0] rfl (by kernel_rfl) (by kernel_rfl) (by kernel_rfl)
      (OpenSpec.preRow_of_cond 8 (x := ([.lit (.bool false), .nil, .lit (.int .i64 0)], [], [])) (by kernel_rfl) (by kernel_rfl) (fun k hk => by cases hk; kernel_rfl) (by kernel_rfl) (laidWorld_met os _)))
    (by kernel_rfl) rfl (by kernel_rfl) (tb := 4) rfl (by kernel_rfl) (fun ds hd => by match ds, hd with | [d0, d1, d2], _ => rfl) ?_
  intro W base args ds before hval0 hA0 hL hsz0
  have hval : ∀ (j : Nat) t v, Tryd.f6.params[j]? = some t → args[j]? = some v → Value.okWide Tryd.prog W .any base t v := hval0
  have hA : DataW.TrodAll enc Tryd.prog W 0 (fun _ => true) true Tryd.f6.params.toList args.toList ds before := hA0
  have hsz : (DataW.weightsEach Tryd.prog Tryd.f6.params.toList ds).all (· ≤ reachBytes) = true := hsz0
  clear hval0 hA0 hsz0
  rw [Tryd.params6] at hA hval hsz
  obtain ⟨v0, v1, v2, d0, d1, d2, p0, p1, p2, rfl, rfl, rfl, h0, h1, h2⟩ := trodAll_three hA
  obtain ⟨a0, rfl, rfl, rfl⟩ := open_bool (by kernel_rfl) (hval 0 _ v0 rfl rfl) h0
  obtain ⟨A1, n1, c1, xs1, rfl, hn1, hc1, hr1, hw1, hz1, hd1⟩ := arg_slice (P := Tryd.prog) (t := 43) (e := 74) (size := 3) (by kernel_rfl) (by kernel_rfl) (by omega) (fun _ => rfl) el_cel (hval 1 _ v1 rfl rfl) h1
  have hs1 := hz1 reachBytes (weightsEach_get hsz 1 rfl rfl)
  clear hz1
  obtain ⟨a2, rfl, rfl, rfl, wa2⟩ := open_int (k := .i64) (by kernel_rfl) (hval 2 _ v2 rfl rfl) h2
  have bd2 := wf_i64' wa2
  have zb : Tryd.prog.bytesOf CLT = 40 := by kernel_rfl
  have hnb : n1 ≤ 1000000000000000000 := by
    have hq := hs1.1
    rw [show Tryd.prog.bytesOf 74 = 40 from zb] at hq
    unfold reachBytes at hq
    omega
  refine (nodeparts_any a0 A1 n1 c1 xs1 a2 W (by have := bd2; omega) hnb (cel_small hs1.2) hw1 hr1 (Laid0.start hL) (Own.start W)).mono ?_
  rintro e W' ⟨rfl, hw⟩
  exact ⟨rfl, hw.below⟩

theorem partsu_row : Rows.NodePartsUptoSaid :=
  OpenClaim.holds_of_cond 6 Tryd.f6 rfl rfl rfl rfl rfl rfl rfl ⟨rfl, rfl, rfl, rfl, rfl⟩ rfl rfl rfl rfl rfl (by kernel_rfl) Tryd.func6 (by kernel_rfl)
    (of_decide_eq_true (by kernel_rfl)) (by unfold Func.isWrapper; rw [if_neg (of_decide_eq_false (by kernel_rfl))]; exact ⟨rfl, rfl⟩)
    (fun os started H enc _ F => by rw [OpenClaim.pre_eq_preRow]; exact partsu_lifted os started H enc F)

theorem partsu_holds : Rows.NodePartsUptoCardSaid :=
  Claim7.holds_tied_plain_at .later [] [.handle] true Rows.nodePartsUptoCard.stood.harness true
    partsu_row (fun _ h => by cases h) (by kernel_rfl) (fun _ h => by cases h) nodePartsUpto_row_tie rfl ⟨rfl, rfl⟩ (by kernel_rfl) rfl
    (fun f fn hf hfn => by
      obtain rfl : f = 6 := Option.some.inj ((show Tryd.prog.funcNamed "latchkey/latchkeylaw10.NodeParts" = some 6 by kernel_rfl).symm.trans hf) |>.symm
      obtain rfl : fn = Tryd.f6 := (Option.some.inj (Tryd.func6.symm.trans hfn)).symm
      exact ⟨by kernel_rfl, no_standin (by kernel_rfl)⟩)
    (by kernel_rfl)

end Go.Proofs.YtbclmmneiphcaaaDoor
