/- CodecWrites answers true for any script. No condition but the card's own. -/
import Derived.Test.YtokephnlelpjhaaDoorLaw
import Derived.SevenTiedAt
import Derived.Test.YtokephnlelpjhaaDoorRows
import Derived.Test.YtokephnlelpjhaaDoorLaid
import Derived.Test.YtokephnlelpjhaaDoorTie
import Derived.Test.YtokephnlelpjhaaDoorCards
import Derived.Test.YtokephnlelpjhaaDoorWrites
namespace Go.Proofs.YtokephnlelpjhaaDoor
open Go.ChangeShapes Go.WideShapes Go.ChangeAt Go.RowKit
open Go.ChangeMaps (open_string)

theorem weights_agg {H : Type} {P : Program} {t : TypeId} {fs : Array Field} {parts : List (DataW H)} {B : Nat} (hu : P.underlying t = some (.struct fs)) (h : ((DataW.agg parts).weights P t).all (· ≤ B) = true) : (DataW.weightsEach P (fs.toList.map (·.type)) parts).all (· ≤ B) = true := by
  unfold DataW.weights at h
  rw [hu] at h
  exact h
theorem el_step {H : Type} {enc : TypeId × Value → H} {w : World} {sp : Nat → Bool} {held : Bool} (n : Nat) (cs : List Value) (y : DataW H × List MemPlace)
    (h : DataW.trod enc Tryd.prog w 0 sp held n 33 cs = some y) : ∃ x : Step × DataW H, cs = enStep x.1 ∧ y.1 = .agg [.lit (.int .i64 x.1.kind), .lit (.int .i64 x.1.on), .lit (.int .i64 x.1.size), .lit (.int .i64 x.1.n), .lit (.string x.1.s.data.toList), x.2] ∧ StepOk (Ph.of w) x.1 := by
  obtain ⟨m, ys, h1, h2, h3, hf⟩ := el_struct Tryd.underlying33 (by kernel_rfl) (by kernel_rfl) n cs y h
  match cs, h1, ys, h2 with
  | [c0, c1, c2, c3, c4, c5], _, [y0, y1, y2, y3, y4, y5], _ =>
    obtain ⟨q0, e0, z0, _⟩ := el_int (k := .i64) (by kernel_rfl) _ _ _ (hf 0 _ c0 y0 rfl rfl rfl)
    obtain ⟨q1, e1, z1, w1⟩ := el_int (k := .i64) (by kernel_rfl) _ _ _ (hf 1 _ c1 y1 rfl rfl rfl)
    obtain ⟨q2, e2, z2, w2⟩ := el_int (k := .i64) (by kernel_rfl) _ _ _ (hf 2 _ c2 y2 rfl rfl rfl)
    obtain ⟨q3, e3, z3, w3⟩ := el_int (k := .i64) (by kernel_rfl) _ _ _ (hf 3 _ c3 y3 rfl rfl rfl)
    obtain ⟨q4, e4, z4, _⟩ := el_str (by kernel_rfl) _ _ _ (hf 4 _ c4 y4 rfl rfl rfl)
    obtain ⟨A, ln, cp, l, e5, l1, l2, l3, l4, _, _⟩ := el_slice (en := enI) (dat := fun z => DataW.lit (.int .i64 z)) (Wf := i64B) (t := 31) (e := 3) (size := 1) (by kernel_rfl) (by kernel_rfl) (by decide) (fun _ => rfl)
      (fun n cs y hh => by
        obtain ⟨q, a1, a2, a3⟩ := el_int (k := .i64) (by kernel_rfl) n cs y hh
        exact ⟨q, a1, a2, wf_i64' a3⟩) _ _ _ (hf 5 _ c5 y5 rfl rfl rfl)
    injection e0 with e0
    injection e1 with e1
    injection e2 with e2
    injection e3 with e3
    injection e4 with e4
    injection e5 with e5
    subst e0 e1 e2 e3 e4 e5
    exact ⟨(⟨q0, q1, q2, q3, q4, A, ln, cp, l⟩, y5.1), rfl, by rw [h3]; simp [z0, z1, z2, z3, z4], ⟨wf_i64' w1, wf_i64' w2, wf_i64' w3, l1, l2, l3, l4⟩⟩

set_option maxRecDepth 100000 in
theorem writes_lifted (os : Os) (started : os.Started) (H : Type) (enc : TypeId × Value → H) :
    ReturnsInHanded {} Tryd.checked os 3 .any (fun w args => (Rows.codecWritesSpec.pre enc Tryd.prog Tryd.f3 [] false w args ∧ laidMetH Tryd.prog laidE w) ∧ sizedMet enc Tryd.prog Tryd.f3 (OpenSpec.ofChange Rows.codecWritesSpec) false w args) (Rows.codecWritesSpec.post enc Tryd.prog Tryd.f3 false true false false) := by
  refine law_laid (C := Tryd.checked) (lay := laidE) (by kernel_rfl) started (by kernel_rfl) Tryd.func3
    (ChangeSpec.witness_at (enc := enc) (C := Tryd.checked) (os := os) (X := fun w _ => laidMetH Tryd.prog laidE w) false (laidWorld os) #[.slice none 0 0] 8 rfl (by kernel_rfl) (by kernel_rfl) (by kernel_rfl) (by kernel_rfl) (by kernel_rfl) (laidWorld_met os _))
    (by kernel_rfl) rfl (by kernel_rfl) (tb := 4) rfl (by kernel_rfl) (fun ds hd => by match ds, hd with | [d0], _ => rfl) ?_
  intro W base args ds before hval0 hA0 hL hsz0
  have hval : ∀ (j : Nat) t v, Tryd.f3.params[j]? = some t → args[j]? = some v → Value.okWide Tryd.prog W .any base t v := hval0
  have hA : DataW.TrodAll enc Tryd.prog W 0 (fun _ => true) true Tryd.f3.params.toList args.toList ds before := hA0
  have hsz : (DataW.weightsEach Tryd.prog Tryd.f3.params.toList ds).all (· ≤ reachBytes) = true := hsz0
  clear hval0 hA0 hsz0
  rw [Tryd.params3] at hA hval hsz
  obtain ⟨v0, d0, rfl, rfl, h0⟩ := trodAll_one hA
  obtain ⟨A0, n0, c0, xs0, rfl, hn0, hc0, hr0, hw0, hz0, hd0⟩ := arg_slice (P := Tryd.prog) (t := 22) (e := 33) (size := 6) (by kernel_rfl) (by kernel_rfl) (by omega) (fun _ => rfl) el_step (hval 0 _ v0 rfl rfl) h0
  have hs0 := hz0 reachBytes (weightsEach_get hsz 0 rfl rfl)
  clear hz0
  refine (writes_any A0 n0 c0 (xs0.map (·.1)) W (by omega) (Rds.map (fun _ => rfl) hr0) (fun x hx => ?_) (fun x hx => ?_) (Laid0.start hL) (Own.start W)).mono ?_
  · obtain ⟨p, hp, rfl⟩ := List.mem_map.1 hx
    exact Nat.le_trans (string_size (weightsEach_get (weights_agg Tryd.underlying33 (hs0.2 p hp)) 4 rfl rfl)) (by unfold reachBytes; omega)
  · obtain ⟨p, hp, rfl⟩ := List.mem_map.1 hx
    exact hw0 p hp
  rintro e W' ⟨rfl, hw⟩
  exact ⟨rfl, hw.below⟩

theorem writes_row : Rows.CodecWritesSaid :=
  OpenClaim.holds_of_wide 3 Tryd.f3 rfl rfl rfl rfl rfl rfl rfl ⟨rfl, rfl, rfl, rfl, rfl⟩ rfl rfl rfl rfl rfl (by kernel_rfl) Tryd.func3 (by kernel_rfl)
    (of_decide_eq_true (by kernel_rfl)) (by unfold Func.isWrapper; rw [if_neg (of_decide_eq_false (by kernel_rfl))]; exact ⟨rfl, rfl⟩)
    (fun os started H enc _ => writes_lifted os started H enc)

theorem writes_holds : Rows.CodecWritesCardSaid :=
  Claim7.holds_tied_plain_at .later [] [.handle] true Rows.codecWritesCard.stood.harness true
    writes_row (fun _ h => by cases h) (by kernel_rfl) (fun _ h => by cases h) codecWrites_row_tie rfl ⟨rfl, rfl⟩ (by kernel_rfl) rfl
    (fun f fn hf hfn => by
      obtain rfl : f = 3 := Option.some.inj ((show Tryd.prog.funcNamed "latchkey/latchkeylaw02.CodecWrites" = some 3 by kernel_rfl).symm.trans hf) |>.symm
      obtain rfl : fn = Tryd.f3 := (Option.some.inj (Tryd.func3.symm.trans hfn)).symm
      exact ⟨by kernel_rfl, no_standin (by kernel_rfl)⟩)
    (by kernel_rfl)

end Go.Proofs.YtokephnlelpjhaaDoor
