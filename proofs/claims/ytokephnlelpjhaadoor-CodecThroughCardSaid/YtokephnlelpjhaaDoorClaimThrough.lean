/- CodecThrough answers true for any items and any two texts. No condition but the card's own. -/
import Derived.Test.YtokephnlelpjhaaDoorLaw
import Derived.SevenTiedAt
import Derived.Test.YtokephnlelpjhaaDoorRows
import Derived.Test.YtokephnlelpjhaaDoorLaid
import Derived.Test.YtokephnlelpjhaaDoorTie
import Derived.Test.YtokephnlelpjhaaDoorCards
import Derived.Test.YtokephnlelpjhaaDoorThrough
namespace Go.Proofs.YtokephnlelpjhaaDoor
open Go.ChangeShapes Go.WideShapes Go.ChangeAt Go.RowKit
open Go.ChangeMaps (open_string)

theorem weights_agg {H : Type} {P : Program} {t : TypeId} {fs : Array Field} {parts : List (DataW H)} {B : Nat} (hu : P.underlying t = some (.struct fs)) (h : ((DataW.agg parts).weights P t).all (· ≤ B) = true) : (DataW.weightsEach P (fs.toList.map (·.type)) parts).all (· ≤ B) = true := by
  unfold DataW.weights at h
  rw [hu] at h
  exact h
theorem el_item {H : Type} {enc : TypeId × Value → H} {w : World} {sp : Nat → Bool} {held : Bool} (n : Nat) (cs : List Value) (y : DataW H × List MemPlace)
    (h : DataW.trod enc Tryd.prog w 0 sp held n 57 cs = some y) : ∃ x : It, cs = enIt x ∧ y.1 = .agg [.lit (.int .i64 x.kind), .lit (.int .i64 x.size), .lit (.int .i64 x.n), .lit (.int .i64 x.most), .lit (.string x.s.data.toList)] ∧ ItOk x := by
  obtain ⟨m, ys, h1, h2, h3, hf⟩ := el_struct Tryd.underlying57 (by kernel_rfl) (by kernel_rfl) n cs y h
  match cs, h1, ys, h2 with
  | [c0, c1, c2, c3, c4], _, [y0, y1, y2, y3, y4], _ =>
    obtain ⟨q0, e0, z0, w0⟩ := el_int (k := .i64) (by kernel_rfl) _ _ _ (hf 0 _ c0 y0 rfl rfl rfl)
    obtain ⟨q1, e1, z1, w1⟩ := el_int (k := .i64) (by kernel_rfl) _ _ _ (hf 1 _ c1 y1 rfl rfl rfl)
    obtain ⟨q2, e2, z2, w2⟩ := el_int (k := .i64) (by kernel_rfl) _ _ _ (hf 2 _ c2 y2 rfl rfl rfl)
    obtain ⟨q3, e3, z3, w3⟩ := el_int (k := .i64) (by kernel_rfl) _ _ _ (hf 3 _ c3 y3 rfl rfl rfl)
    obtain ⟨q4, e4, z4, _⟩ := el_str (by kernel_rfl) _ _ _ (hf 4 _ c4 y4 rfl rfl rfl)
    injection e0 with e0
    injection e1 with e1
    injection e2 with e2
    injection e3 with e3
    injection e4 with e4
    subst e0 e1 e2 e3 e4
    exact ⟨⟨q0, q1, q2, q3, q4⟩, rfl, by rw [h3]; simp [z0, z1, z2, z3, z4], ⟨wf_i64' w0, wf_i64' w1, wf_i64' w2, wf_i64' w3⟩⟩

set_option maxRecDepth 100000 in
theorem through_lifted (os : Os) (started : os.Started) (H : Type) (enc : TypeId × Value → H) :
    ReturnsInHanded {} Tryd.checked os 5 .any (fun w args => (Rows.codecThroughSpec.pre enc Tryd.prog Tryd.f5 [] false w args ∧ laidMetH Tryd.prog laidE w) ∧ sizedMet enc Tryd.prog Tryd.f5 (OpenSpec.ofChange Rows.codecThroughSpec) false w args) (Rows.codecThroughSpec.post enc Tryd.prog Tryd.f5 false true false false) := by
  refine law_laid (C := Tryd.checked) (lay := laidE) (by kernel_rfl) started (by kernel_rfl) Tryd.func5
    (ChangeSpec.witness_at (enc := enc) (C := Tryd.checked) (os := os) (X := fun w _ => laidMetH Tryd.prog laidE w) false (laidWorld os) #[.slice none 0 0, .string ByteArray.empty, .string ByteArray.empty] 8 rfl (by kernel_rfl) (by kernel_rfl) (by kernel_rfl) (by kernel_rfl) (by kernel_rfl) (laidWorld_met os _))
    (by kernel_rfl) rfl (by kernel_rfl) (tb := 4) rfl (by kernel_rfl) (fun ds hd => by match ds, hd with | [d0, d1, d2], _ => rfl) ?_
  intro W base args ds before hval0 hA0 hL hsz0
  have hval : ∀ (j : Nat) t v, Tryd.f5.params[j]? = some t → args[j]? = some v → Value.okWide Tryd.prog W .any base t v := hval0
  have hA : DataW.TrodAll enc Tryd.prog W 0 (fun _ => true) true Tryd.f5.params.toList args.toList ds before := hA0
  have hsz : (DataW.weightsEach Tryd.prog Tryd.f5.params.toList ds).all (· ≤ reachBytes) = true := hsz0
  clear hval0 hA0 hsz0
  rw [Tryd.params5] at hA hval hsz
  obtain ⟨v0, v1, v2, d0, d1, d2, p0, p1, p2, rfl, rfl, rfl, h0, h1, h2⟩ := trodAll_three hA
  obtain ⟨A0, n0, c0, xs0, rfl, hn0, hc0, hr0, hw0, hz0, hd0⟩ := arg_slice (P := Tryd.prog) (t := 54) (e := 57) (size := 5) (by kernel_rfl) (by kernel_rfl) (by omega) (fun _ => rfl) el_item (hval 0 _ v0 rfl rfl) h0
  have hs0 := hz0 reachBytes (weightsEach_get hsz 0 rfl rfl)
  clear hz0
  obtain ⟨a1, rfl, rfl, rfl, ws1⟩ := open_string (by kernel_rfl) (hval 1 _ v1 rfl rfl) h1
  obtain ⟨a2, rfl, rfl, rfl, ws2⟩ := open_string (by kernel_rfl) (hval 2 _ v2 rfl rfl) h2
  refine (through_any a1 a2 A0 n0 c0 xs0 W (by omega) hr0 (fun x hx => Nat.le_trans (string_size (weightsEach_get (weights_agg Tryd.underlying57 (hs0.2 x hx)) 4 rfl rfl)) (by unfold reachBytes; omega)) hw0 (Nat.le_trans (string_size (weightsEach_get hsz 1 rfl rfl)) (by unfold reachBytes; omega)) (Nat.le_trans (string_size (weightsEach_get hsz 2 rfl rfl)) (by unfold reachBytes; omega)) (Laid0.start hL) (Own.start W)).mono ?_
  rintro e W' ⟨rfl, hw⟩
  exact ⟨rfl, hw.below⟩

theorem through_row : Rows.CodecThroughSaid :=
  OpenClaim.holds_of_wide 5 Tryd.f5 rfl rfl rfl rfl rfl rfl rfl ⟨rfl, rfl, rfl, rfl, rfl⟩ rfl rfl rfl rfl rfl (by kernel_rfl) Tryd.func5 (by kernel_rfl)
    (of_decide_eq_true (by kernel_rfl)) (by unfold Func.isWrapper; rw [if_neg (of_decide_eq_false (by kernel_rfl))]; exact ⟨rfl, rfl⟩)
    (fun os started H enc _ => through_lifted os started H enc)

theorem through_holds : Rows.CodecThroughCardSaid :=
  Claim7.holds_tied_plain_at .later [] [.handle] true Rows.codecThroughCard.stood.harness true
    through_row (fun _ h => by cases h) (by kernel_rfl) (fun _ h => by cases h) codecThrough_row_tie rfl ⟨rfl, rfl⟩ (by kernel_rfl) rfl
    (fun f fn hf hfn => by
      obtain rfl : f = 5 := Option.some.inj ((show Tryd.prog.funcNamed "latchkey/latchkeylaw02.CodecThrough" = some 5 by kernel_rfl).symm.trans hf) |>.symm
      obtain rfl : fn = Tryd.f5 := (Option.some.inj (Tryd.func5.symm.trans hfn)).symm
      exact ⟨by kernel_rfl, no_standin (by kernel_rfl)⟩)
    (by kernel_rfl)

end Go.Proofs.YtokephnlelpjhaaDoor
