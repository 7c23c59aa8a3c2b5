/- ClockPlays answers true for every floor, every far floor and every list of ticks, and leaves its arguments as they were. No condition. -/
import Derived.Test.YtbhmmkdbflbolaaLaw
import Derived.Test.YtbhmmkdbflbolaaPlays07
namespace Go.Proofs.Ytbhmmkdbflbolaa
open Go.ChangeShapes Go.WideShapes Go.ChangeAt Go.RowKit

theorem Try.own : ownKnob Try.prog.godebug = none := by kernel_rfl
theorem Try.laidOut : laidOutB Try.prog = true := by kernel_rfl
theorem cells_tick : Try.prog.cellsOf 29 = 3 := by kernel_rfl

theorem el_tick {H : Type} {enc : TypeId × Value → H} {w : World} {sp : Nat → Bool} {held : Bool} (n : Nat) (cs : List Value) (y : DataW H × List MemPlace)
    (h : DataW.trod enc Try.prog w 0 sp held n 29 cs = some y) : ∃ x : Tick, cs = enTick x ∧ y.1 = .agg [.lit (.bool x.other), .lit (.bool x.ask), .lit (.int .i64 x.reading)] ∧ True := by
  obtain ⟨m, ys, h1, h2, h3, hf⟩ := el_struct Try.underlying29 (by kernel_rfl) cells_tick n cs y h
  match cs, h1, ys, h2 with
  | [c0, c1, c2], _, [y0, y1, y2], _ =>
    obtain ⟨o, e0, z0⟩ := el_bool (by kernel_rfl) _ _ _ (hf 0 _ c0 y0 rfl rfl rfl)
    obtain ⟨a, e1, z1⟩ := el_bool (by kernel_rfl) _ _ _ (hf 1 _ c1 y1 rfl rfl rfl)
    obtain ⟨r, e2, z2, _⟩ := el_int (k := .i64) (by kernel_rfl) _ _ _ (hf 2 _ c2 y2 rfl rfl rfl)
    injection e0 with e0
    injection e1 with e1
    injection e2 with e2
    subst e0 e1 e2
    exact ⟨⟨o, a, r⟩, rfl, by rw [h3]; simp [z0, z1, z2], trivial⟩

set_option maxRecDepth 100000 in
theorem plays_lifted (os : Os) (started : os.Started) (H : Type) (enc : TypeId × Value → H) :
    ReturnsInHanded {} Try.checked os 3 .any (Rows.clockPlaysSpec.pre6 enc Try.prog Try.f3 Rows.clockPlaysRow.domain false) (Rows.clockPlaysSpec.post enc Try.prog Try.f3 false true false false) := by
  refine law_lifted (C := Try.checked) Try.own started (by kernel_rfl) Try.func3
    (ChangeSpec.witness6 (enc := enc) (C := Try.checked) false ⟨#[], #[.int .i64 0, .int .i64 0, .slice none 0 0], []⟩ 8 (by kernel_rfl) (by kernel_rfl) (by kernel_rfl) (by kernel_rfl))
    Try.laidOut rfl (by kernel_rfl) (tb := 4) rfl (by kernel_rfl) (fun ds hd => by match ds, hd with | [a, b, c], _ => rfl) ?_
  intro W base args ds before hval0 hA0 _ hsz
  have hval : ∀ (j : Nat) t v, Try.f3.params[j]? = some t → args[j]? = some v → Value.okWide Try.prog W .any base t v := hval0
  have hA : DataW.TrodAll enc Try.prog W 0 (fun _ => true) true Try.f3.params.toList args.toList ds before := hA0
  clear hval0 hA0
  rw [Try.params3] at hA hval
  obtain ⟨v0, v1, v2, d0, d1, d2, p0, p1, p2, rfl, rfl, rfl, h0, h1, h2⟩ := trodAll_three hA
  obtain ⟨a, rfl, rfl, rfl, wa⟩ := open_int Try.underlying3 (hval 0 3 v0 rfl rfl) h0
  obtain ⟨b, rfl, rfl, rfl, wb⟩ := open_int Try.underlying3 (hval 1 3 v1 rfl rfl) h1
  obtain ⟨A, n, c, ts, rfl, hnc, hc, hr, _, _⟩ := arg_slice (size := 3) (by kernel_rfl) cells_tick (by omega) (fun _ => rfl) el_tick (hval 2 _ v2 rfl rfl) h2
  refine (plays a b A n c ts W (Nat.le_trans hnc hc) hr (Own.start W)).mono ?_
  rintro e W' ⟨rfl, hw⟩
  exact ⟨rfl, hw.below⟩

theorem plays_holds : Rows.ClockPlaysSaid :=
  OpenClaim.holds_of_wide 3 Try.f3 rfl rfl rfl rfl rfl rfl rfl ⟨rfl, rfl, rfl, rfl, rfl⟩ rfl rfl rfl rfl rfl (by kernel_rfl) Try.func3 (by kernel_rfl)
    (of_decide_eq_true (by kernel_rfl)) (by unfold Func.isWrapper; rw [if_neg (of_decide_eq_false (by kernel_rfl))]; exact ⟨rfl, rfl⟩)
    (fun os started H enc _ => plays_lifted os started H enc)

end Go.Proofs.Ytbhmmkdbflbolaa
