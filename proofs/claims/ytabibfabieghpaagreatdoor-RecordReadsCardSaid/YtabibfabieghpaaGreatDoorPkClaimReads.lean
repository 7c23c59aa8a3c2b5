/- RecordReads answers true for any pair and any text. No condition but the card's own. -/
import Derived.Test.YtabibfabieghpaaGreatDoorPkz0
import Derived.SevenTiedAt
import Derived.Test.YtabibfabieghpaaGreatDoorRows
import Derived.Test.YtabibfabieghpaaGreatDoorPkz5
import Derived.Test.YtabibfabieghpaaGreatDoorTie
import Derived.Test.YtabibfabieghpaaGreatDoorCards
import Derived.Test.YtabibfabieghpaaGreatDoorPkReads2
namespace Go.Proofs.YtabibfabieghpaaGreatDoor
open Go.ChangeShapes Go.WideShapes Go.ChangeAt Go.RowKit
open Go.ChangeMaps (open_string)

section Parts
variable {H : Type} {enc : TypeId × Value → H} {w : World} {sp : Nat → Bool} {held : Bool}
theorem one_strw {n : Nat} {c : Value} {y : DataW H × List MemPlace} (h : DataW.trod enc Tryz.prog w 0 sp held n 9 [c] = some y) : ∃ b : ByteArray, c = .string b ∧ y.1 = .lit (.string b.data.toList) := by
  obtain ⟨b, e, e2, -⟩ := el_str (by kernel_rfl) _ _ _ h
  injection e with e
  exact ⟨b, e, e2⟩
end Parts
set_option maxRecDepth 100000 in
theorem arg_pair {H : Type} {enc : TypeId × Value → H} {W : World} {base : Nat} {v : Value} {d : DataW H} {p : List MemPlace} (hv : Value.okWide Tryz.prog W .any base ITT v)
    (h : DataW.Trod enc Tryz.prog W 0 (fun _ => true) true ITT v d p) (hB : (d.weights Tryz.prog ITT).all (· ≤ reachBytes) = true) : ∃ (a b : ByteArray), v = .agg #[.string a, .string b] ∧ a.size ≤ reachBytes ∧ b.size ≤ reachBytes := by
  obtain ⟨cs, rfl⟩ : ∃ cs, v = .agg cs := by
    simp only [Value.okWide, Tryz.underlying34] at hv
    obtain ⟨cs, h1, _⟩ := hv
    exact ⟨cs, h1⟩
  obtain ⟨l⟩ := cs
  obtain ⟨fuel, hf⟩ := h
  obtain ⟨m, ys, h1, h2, h3, hfl⟩ := el_struct Tryz.underlying34 (by kernel_rfl) (by kernel_rfl) fuel l (d, p) hf
  dsimp only at h3
  subst h3
  unfold DataW.weights at hB
  simp only [Tryz.underlying34] at hB
  match l, h1, ys, h2 with
  | [c0, c1], _, [y0, y1], _ =>
    obtain ⟨b0, rfl, q0⟩ := one_strw (hfl 0 _ c0 y0 rfl rfl rfl)
    have s0 : b0.size ≤ reachBytes := by
      have hh : (y0.1.weights Tryz.prog 9).all (· ≤ reachBytes) = true := weightsEach_get hB 0 rfl rfl
      rw [q0] at hh
      exact string_size hh
    obtain ⟨b1, rfl, q1⟩ := one_strw (hfl 1 _ c1 y1 rfl rfl rfl)
    have s1 : b1.size ≤ reachBytes := by
      have hh : (y1.1.weights Tryz.prog 9).all (· ≤ reachBytes) = true := weightsEach_get hB 1 rfl rfl
      rw [q1] at hh
      exact string_size hh
    exact ⟨b0, b1, rfl, s0, s1⟩

set_option maxRecDepth 100000 in
theorem reads_lifted (os : Os) (started : os.Started) (H : Type) (enc : TypeId × Value → H) :
    ReturnsInHanded {} Tryz.checked os 9 .any (fun w args => (Rows.recordReadsSpec.pre enc Tryz.prog Tryz.f9 [] false w args ∧ laidMetH Tryz.prog laidF w) ∧ sizedMet enc Tryz.prog Tryz.f9 (OpenSpec.ofChange Rows.recordReadsSpec) false w args) (Rows.recordReadsSpec.post enc Tryz.prog Tryz.f9 false true false false) := by
  refine law_shaped (C := Tryz.checked) (lay := laidF) (by kernel_rfl) started (by kernel_rfl) Tryz.func9
    (ChangeSpec.witness_at (enc := enc) (C := Tryz.checked) (os := os) (X := fun w _ => laidMetH Tryz.prog laidF w) false (laidWorldF os) #[.agg #[.string ByteArray.empty, .string ByteArray.empty], .string ByteArray.empty] 8 rfl (by kernel_rfl) (by kernel_rfl) (by kernel_rfl) (by kernel_rfl) (by kernel_rfl) (laidWorldF_met os _))
    (by kernel_rfl) rfl (by kernel_rfl) (tb := 4) rfl (by kernel_rfl) (fun ds hd => by match ds, hd with | [d0, d1], _ => rfl) ?_
  intro W base args ds before hsh hval0 hA0 hL hsz0
  have hval : ∀ (j : Nat) t v, Tryz.f9.params[j]? = some t → args[j]? = some v → Value.okWide Tryz.prog W .any base t v := hval0
  have hA : DataW.TrodAll enc Tryz.prog W 0 (fun _ => true) true Tryz.f9.params.toList args.toList ds before := hA0
  have hsz : (DataW.weightsEach Tryz.prog Tryz.f9.params.toList ds).all (· ≤ reachBytes) = true := hsz0
  clear hval0 hA0 hsz0
  rw [Tryz.params9] at hA hval hsz
  obtain ⟨v0, v1, d0, d1, p0, p1, rfl, rfl, rfl, h0, h1⟩ := trodAll_two hA
  obtain ⟨k, x, rfl, hk, hx⟩ := arg_pair (hval 0 _ v0 rfl rfl) h0 (weightsEach_get hsz 0 rfl rfl)
  obtain ⟨s, rfl, rfl, rfl, ws1⟩ := open_string (by kernel_rfl) (hval 1 _ v1 rfl rfl) h1
  have hs : s.size ≤ reachBytes := string_size (weightsEach_get hsz 1 rfl rfl)
  refine (reads_any k x s W (Nat.le_trans hk (by unfold reachBytes; omega)) (Nat.le_trans hx (by unfold reachBytes; omega)) (Nat.le_trans hs (by unfold reachBytes; omega)) (Laid0.start (laid_sub hL)) (Max0.start hsh) (Own.start W)).mono ?_
  rintro e W' ⟨rfl, hw⟩
  exact ⟨rfl, hw.below⟩

theorem reads_row : Rows.RecordReadsSaid :=
  OpenClaim.holds_of_wide 9 Tryz.f9 rfl rfl rfl rfl rfl rfl rfl ⟨rfl, rfl, rfl, rfl, rfl⟩ rfl rfl rfl rfl rfl (by kernel_rfl) Tryz.func9 (by kernel_rfl)
    (of_decide_eq_true (by kernel_rfl)) (by unfold Func.isWrapper; rw [if_neg (of_decide_eq_false (by kernel_rfl))]; exact ⟨rfl, rfl⟩)
    (fun os started H enc _ => reads_lifted os started H enc)

theorem reads_holds : Rows.RecordReadsCardSaid :=
  Claim7.holds_tied_plain_at .later [] [.data, .handle, .pinned] true Rows.recordReadsCard.stood.harness true
    reads_row (fun _ h => by cases h) (by kernel_rfl) (fun _ h => by cases h) recordReads_row_tie rfl ⟨rfl, rfl⟩ (by kernel_rfl) rfl
    (fun f fn hf hfn => by
      obtain rfl : f = 9 := Option.some.inj ((show Tryz.prog.funcNamed "latchkey/latchkeylaw14.RecordReads" = some 9 by kernel_rfl).symm.trans hf) |>.symm
      obtain rfl : fn = Tryz.f9 := (Option.some.inj (Tryz.func9.symm.trans hfn)).symm
      exact ⟨by kernel_rfl, no_standin (by kernel_rfl)⟩)
    (by kernel_rfl)

end Go.Proofs.YtabibfabieghpaaGreatDoor
