/- NodePages answers true for any two nodes and any page. No condition but the card's own. -/
import Derived.Test.YtbclmmneiphcaaaGreatDoorLaw
import Derived.SevenTiedAt
import Derived.Test.YtbclmmneiphcaaaGreatDoorRows
import Derived.Test.YtbclmmneiphcaaaGreatDoorLaid
import Derived.Test.YtbclmmneiphcaaaGreatDoorTie
import Derived.Test.YtbclmmneiphcaaaGreatDoorCards
import Derived.Test.YtbclmmneiphcaaaGreatDoorPages
namespace Go.Proofs.YtbclmmneiphcaaaGreatDoor
open Go.ChangeShapes Go.WideShapes Go.ChangeAt Go.RowKit
open Go.ChangeMaps (open_string)

set_option maxRecDepth 100000 in
theorem arg_page {H : Type} {enc : TypeId × Value → H} {W : World} {base : Nat} {v : Value} {d : DataW H} {p : List MemPlace} (hv : Value.okWide Tryz.prog W .any base PT v)
    (h : DataW.Trod enc Tryz.prog W 0 (fun _ => true) true PT v d p) (hB : (d.weights Tryz.prog PT).all (· ≤ reachBytes) = true) : ∃ (A : Option Addr) (c : Nat) (q : Pg), v = q.val A c ∧ Rds (Ph.of W) 1 en64 A q.links.length q.links ∧ q.links.length ≤ reachBytes ∧ q.body.size ≤ reachBytes := by
  obtain ⟨cs, rfl⟩ : ∃ cs, v = .agg cs := by
    simp only [Value.okWide, Tryz.underlying27] at hv
    obtain ⟨cs, h1, _⟩ := hv
    exact ⟨cs, h1⟩
  obtain ⟨l⟩ := cs
  obtain ⟨fuel, hf⟩ := h
  obtain ⟨m, ys, h1, h2, h3, hfl⟩ := el_struct Tryz.underlying27 (by kernel_rfl) (by kernel_rfl) fuel l (d, p) hf
  dsimp only at h3
  subst h3
  unfold DataW.weights at hB
  simp only [Tryz.underlying27] at hB
  match l, h1, ys, h2 with
  | [c0, c1, c2, c3, c4], _, [y0, y1, y2, y3, y4], _ =>
    obtain ⟨b0, e0, -⟩ := el_int (k := .i64) (by kernel_rfl) _ _ _ (hfl 0 _ c0 y0 rfl rfl rfl)
    obtain ⟨b1, e1, -⟩ := el_int (k := .i64) (by kernel_rfl) _ _ _ (hfl 1 _ c1 y1 rfl rfl rfl)
    obtain ⟨b2, e2, -⟩ := el_int (k := .i64) (by kernel_rfl) _ _ _ (hfl 2 _ c2 y2 rfl rfl rfl)
    obtain ⟨A3, n3, k3, xs3, e3, c1', c2', c3', -, c5, c6⟩ := el_slice (en := en64) (dat := fun z => DataW.lit (.int .i64 z)) (Wf := fun _ => True) (t := LIT) (e := IT) (size := 1) (by kernel_rfl) (by kernel_rfl) (by decide) (fun _ => rfl)
      (fun n cs y hh => by
        obtain ⟨q, a1, a2, a3⟩ := el_int (k := .i64) (by kernel_rfl) n cs y hh
        exact ⟨q, a1, a2, trivial⟩) _ _ _ (hfl 3 _ c3 y3 rfl rfl rfl)
    obtain ⟨s4, e4, z4, -⟩ := el_str (by kernel_rfl) _ _ _ (hfl 4 _ c4 y4 rfl rfl rfl)
    injection e0 with e0
    injection e1 with e1
    injection e2 with e2
    injection e3 with e3
    injection e4 with e4
    subst e0 e1 e2 e3 e4
    have w3 := c5 reachBytes (weightsEach_get hB 3 rfl rfl)
    have w4 : ((y4.1).weights Tryz.prog ST).all (· ≤ reachBytes) = true := weightsEach_get hB 4 rfl rfl
    rw [z4] at w4
    have z3 : Tryz.prog.bytesOf IT = 8 := by kernel_rfl
    rw [z3] at w3
    have i3 := c3'.1
    refine ⟨A3, k3, ⟨b0, b1, b2, xs3, s4⟩, ?_, by rw [i3]; exact c3', by show xs3.length ≤ _; omega, string_size w4⟩
    show Value.agg #[.int .i64 b0, .int .i64 b1, .int .i64 b2, .slice A3 n3 k3, .string s4] = Value.agg #[.int .i64 b0, .int .i64 b1, .int .i64 b2, .slice A3 xs3.length k3, .string s4]
    rw [i3]

set_option maxRecDepth 100000 in
theorem pages_lifted (os : Os) (started : os.Started) (H : Type) (enc : TypeId × Value → H) :
    ReturnsInHanded {} Tryz.checked os 3 .any (fun w args => (Rows.nodePagesSpec.pre enc Tryz.prog Tryz.f3 [] false w args ∧ laidMetH Tryz.prog laidE w) ∧ sizedMet enc Tryz.prog Tryz.f3 (OpenSpec.ofChange Rows.nodePagesSpec) false w args) (Rows.nodePagesSpec.post enc Tryz.prog Tryz.f3 false true false false) := by
  refine law_laid (C := Tryz.checked) (lay := laidE) (by kernel_rfl) started (by kernel_rfl) Tryz.func3
    (ChangeSpec.witness_at (enc := enc) (C := Tryz.checked) (os := os) (X := fun w _ => laidMetH Tryz.prog laidE w) false (laidWorld os) #[.agg #[.bool false, .slice none 0 0, .slice none 0 0, .slice none 0 0], .agg #[.int .i64 0, .int .i64 0, .int .i64 0, .slice none 0 0, .string ByteArray.empty], .agg #[.bool false, .slice none 0 0, .slice none 0 0, .slice none 0 0]] 8 rfl (by kernel_rfl) (by kernel_rfl) (by kernel_rfl) (by kernel_rfl) (by kernel_rfl) (laidWorld_met os _))
    (by kernel_rfl) rfl (by kernel_rfl) (tb := 4) rfl (by kernel_rfl) (fun ds hd => by match ds, hd with | [d0, d1, d2], _ => rfl) ?_
  intro W base args ds before hval0 hA0 hL hsz0
  have hval : ∀ (j : Nat) t v, Tryz.f3.params[j]? = some t → args[j]? = some v → Value.okWide Tryz.prog W .any base t v := hval0
  have hA : DataW.TrodAll enc Tryz.prog W 0 (fun _ => true) true Tryz.f3.params.toList args.toList ds before := hA0
  have hsz : (DataW.weightsEach Tryz.prog Tryz.f3.params.toList ds).all (· ≤ reachBytes) = true := hsz0
  clear hval0 hA0 hsz0
  rw [Tryz.params3] at hA hval hsz
  obtain ⟨v0, v1, v2, d0, d1, d2, p0, p1, p2, rfl, rfl, rfl, h0, h1, h2⟩ := trodAll_three hA
  obtain ⟨q0, n0, rfl, hin0, hsm0⟩ := arg_node (hval 0 _ v0 rfl rfl) h0 (weightsEach_get hsz 0 rfl rfl)
  obtain ⟨A1, c1, g1, rfl, hr1, hl1, hb1⟩ := arg_page (hval 1 _ v1 rfl rfl) h1 (weightsEach_get hsz 1 rfl rfl)
  obtain ⟨q2, n2, rfl, hin2, hsm2⟩ := arg_node (hval 2 _ v2 rfl rfl) h2 (weightsEach_get hsz 2 rfl rfl)
  refine (nodepages_any q0 q2 A1 c1 n0 n2 g1 W hsm0 hsm2 (Nat.le_trans hl1 (by unfold reachBytes; omega)) (Nat.le_trans hb1 (by unfold reachBytes; omega)) hin0 hin2 hr1 (Laid0.start hL) (Own.start W)).mono ?_
  rintro e W' ⟨rfl, hw⟩
  exact ⟨rfl, hw.below⟩

theorem pages_row : Rows.NodePagesSaid :=
  OpenClaim.holds_of_wide 3 Tryz.f3 rfl rfl rfl rfl rfl rfl rfl ⟨rfl, rfl, rfl, rfl, rfl⟩ rfl rfl rfl rfl rfl (by kernel_rfl) Tryz.func3 (by kernel_rfl)
    (of_decide_eq_true (by kernel_rfl)) (by unfold Func.isWrapper; rw [if_neg (of_decide_eq_false (by kernel_rfl))]; exact ⟨rfl, rfl⟩)
    (fun os started H enc _ => pages_lifted os started H enc)

theorem pages_holds : Rows.NodePagesCardSaid :=
  Claim7.holds_tied_plain_at .later [] [.handle] true Rows.nodePagesCard.stood.harness true
    pages_row (fun _ h => by cases h) (by kernel_rfl) (fun _ h => by cases h) nodePages_row_tie rfl ⟨rfl, rfl⟩ (by kernel_rfl) rfl
    (fun f fn hf hfn => by
      obtain rfl : f = 3 := Option.some.inj ((show Tryz.prog.funcNamed "latchkey/latchkeylaw10.NodePages" = some 3 by kernel_rfl).symm.trans hf) |>.symm
      obtain rfl : fn = Tryz.f3 := (Option.some.inj (Tryz.func3.symm.trans hfn)).symm
      exact ⟨by kernel_rfl, no_standin (by kernel_rfl)⟩)
    (by kernel_rfl)

end Go.Proofs.YtbclmmneiphcaaaGreatDoor
