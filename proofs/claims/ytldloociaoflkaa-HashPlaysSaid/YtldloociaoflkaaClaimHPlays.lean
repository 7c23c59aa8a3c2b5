/- HashPlays answers true for any script. No condition. -/
import Derived.Test.YtldloociaoflkaaLaw
import Derived.Test.YtldloociaoflkaaHPlays
namespace Go.Proofs.Ytldloociaoflkaa
open Go.ChangeShapes Go.WideShapes Go.ChangeAt Go.RowKit
open Go.ChangeMaps (open_string)

theorem weights_agg {H : Type} {P : Program} {t : TypeId} {fs : Array Field} {parts : List (DataW H)} {B : Nat} (hu : P.underlying t = some (.struct fs)) (h : ((DataW.agg parts).weights P t).all (· ≤ B) = true) : (DataW.weightsEach P (fs.toList.map (·.type)) parts).all (· ≤ B) = true := by
  unfold DataW.weights at h
  rw [hu] at h
  exact h
theorem el_move {H : Type} {enc : TypeId × Value → H} {w : World} {sp : Nat → Bool} {held : Bool} (n : Nat) (cs : List Value) (y : DataW H × List MemPlace)
    (h : DataW.trod enc Try.prog w 0 sp held n 43 cs = some y) : ∃ x : Move, cs = enMove x ∧ y.1 = .agg [.lit (.int .i64 x.kind), .lit (.int .i64 x.at_), .lit (.string x.s.data.toList)] ∧ ((-9223372036854775808 ≤ x.at_ ∧ x.at_ ≤ 9223372036854775807) ∧ True) := by
  obtain ⟨m, ys, h1, h2, h3, hf⟩ := el_struct Try.underlying43 (by kernel_rfl) (by kernel_rfl) n cs y h
  match cs, h1, ys, h2 with
  | [c0, c1, c2], _, [y0, y1, y2], _ =>
    obtain ⟨o, e0, z0, _⟩ := el_int (k := .i64) (by kernel_rfl) _ _ _ (hf 0 _ c0 y0 rfl rfl rfl)
    obtain ⟨a, e1, z1, w1⟩ := el_int (k := .i64) (by kernel_rfl) _ _ _ (hf 1 _ c1 y1 rfl rfl rfl)
    obtain ⟨r, e2, z2, _⟩ := el_str (by kernel_rfl) _ _ _ (hf 2 _ c2 y2 rfl rfl rfl)
    injection e0 with e0
    injection e1 with e1
    injection e2 with e2
    subst e0 e1 e2
    exact ⟨⟨o, a, r⟩, rfl, by rw [h3]; simp [z0, z1, z2], wf_i64' w1, trivial⟩

set_option maxRecDepth 100000 in
theorem plays_lifted (os : Os) (started : os.Started) (H : Type) (enc : TypeId × Value → H) :
    ReturnsInHanded {} Try.checked os 6 .any (Rows.hashPlaysSpec.pre6 enc Try.prog Try.f6 Rows.hashPlaysRow.domain false) (Rows.hashPlaysSpec.post enc Try.prog Try.f6 false true false false) := by
  refine law_lifted (C := Try.checked) (by kernel_rfl) started (by kernel_rfl) Try.func6
    (ChangeSpec.witness6 (enc := enc) (C := Try.checked) false ⟨#[], #[.slice none 0 0], []⟩ 8 (by kernel_rfl) (by kernel_rfl) (by kernel_rfl) (by kernel_rfl))
    (by kernel_rfl) rfl (by kernel_rfl) (tb := 4) rfl (by kernel_rfl) (fun ds hd => by match ds, hd with | [d0], _ => rfl) ?_
  intro W base args ds before hval0 hA0 _ hsz0
  have hval : ∀ (j : Nat) t v, Try.f6.params[j]? = some t → args[j]? = some v → Value.okWide Try.prog W .any base t v := hval0
  have hA : DataW.TrodAll enc Try.prog W 0 (fun _ => true) true Try.f6.params.toList args.toList ds before := hA0
  have hsz : (DataW.weightsEach Try.prog Try.f6.params.toList ds).all (· ≤ reachBytes) = true := hsz0
  clear hval0 hA0 hsz0
  rw [Try.params6] at hA hval hsz
  obtain ⟨v0, d0, rfl, rfl, h0⟩ := trodAll_one hA
  obtain ⟨A0, n0, c0, xs0, rfl, hn0, hc0, hr0, hw0, hz0, hd0⟩ := arg_slice (P := Try.prog) (t := 37) (e := 43) (size := 3) (by kernel_rfl) (by kernel_rfl) (by omega) (fun _ => rfl) el_move (hval 0 _ v0 rfl rfl) h0
  have hs0 := hz0 reachBytes (weightsEach_get hsz 0 rfl rfl)
  clear hz0
  refine (hplays_any A0 n0 c0 xs0 W (by omega) hr0 (fun x hx => Nat.le_trans (string_size (weightsEach_get (weights_agg Try.underlying43 (hs0.2 x hx)) 2 rfl rfl)) (by unfold reachBytes; omega)) (fun x hx => (hw0 x hx).1) (Own.start W)).mono ?_
  rintro e W' ⟨rfl, hw⟩
  exact ⟨rfl, hw.below⟩

theorem plays_holds : Rows.HashPlaysSaid :=
  OpenClaim.holds_of_wide 6 Try.f6 rfl rfl rfl rfl rfl rfl rfl ⟨rfl, rfl, rfl, rfl, rfl⟩ rfl rfl rfl rfl rfl (by kernel_rfl) Try.func6 (by kernel_rfl)
    (of_decide_eq_true (by kernel_rfl)) (by unfold Func.isWrapper; rw [if_neg (of_decide_eq_false (by kernel_rfl))]; exact ⟨rfl, rfl⟩)
    (fun os started H enc _ => plays_lifted os started H enc)

end Go.Proofs.Ytldloociaoflkaa
