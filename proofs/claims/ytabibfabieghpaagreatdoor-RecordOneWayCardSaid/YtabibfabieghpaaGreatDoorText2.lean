/- More of regions that draw their order: several effectful operations that may come up at one time; a variable that is made. No program in sight. -/
import Derived.Test.YtabibfabieghpaaGreatDoorText
import Derived.Deep.Cut
namespace Go.Proofs.YtabibfabieghpaaGreatDoor
open Go.RowKit
section
variable {P : Program} {ops : Array Oper} {Q : Exit → Act → World → Prop} {md : Region.Mode} {S : World → Prop} {ls : List Nat}
/-- Several may come up: each keeps S. -/
theorem wpAnyG_two {i j fuel : Nat} {oi oj : Oper} {listed : Array Bool} {a : Act} {w : World} (hr : Region.ready md ops listed = [i, j]) (ei : ops[i]? = some oi) (ej : ops[j]? = some oj)
    (hi : ∀ K : Act → World → Prop, Shut (∀ a' w', S w' → (S w' → wpAnyG P md ops Q ls S fuel (listed.setIfInBounds i true) a' w') → K a' w') →
      if Region.wanted oi (yielded ops a.tmps) = true then oi.wp P a w K Q else K (a.put oi.dst undef) w)
    (hj : ∀ K : Act → World → Prop, Shut (∀ a' w', S w' → (S w' → wpAnyG P md ops Q ls S fuel (listed.setIfInBounds j true) a' w') → K a' w') →
      if Region.wanted oj (yielded ops a.tmps) = true then oj.wp P a w K Q else K (a.put oj.dst undef) w) : wpAnyG P md ops Q ls S (fuel + 1) listed a w := by
  refine ⟨fun h0 => (by rw [hr] at h0; cases h0), fun x hx => ?_⟩
  rw [hr] at hx
  rcases (show x = i ∨ x = j by simpa using hx) with rfl | rfl
  · exact wpOp_step ei fun K hK => hi K fun a' w' hS hW => hK a' w' ⟨fun _ _ => hS, hW hS⟩
  · exact wpOp_step ej fun K hK => hj K fun a' w' hS hW => hK a' w' ⟨fun _ _ => hS, hW hS⟩
theorem wpAnyG_three {i j k fuel : Nat} {oi oj ok : Oper} {listed : Array Bool} {a : Act} {w : World} (hr : Region.ready md ops listed = [i, j, k]) (ei : ops[i]? = some oi) (ej : ops[j]? = some oj) (ek : ops[k]? = some ok)
    (hi : ∀ K : Act → World → Prop, Shut (∀ a' w', S w' → (S w' → wpAnyG P md ops Q ls S fuel (listed.setIfInBounds i true) a' w') → K a' w') →
      if Region.wanted oi (yielded ops a.tmps) = true then oi.wp P a w K Q else K (a.put oi.dst undef) w)
    (hj : ∀ K : Act → World → Prop, Shut (∀ a' w', S w' → (S w' → wpAnyG P md ops Q ls S fuel (listed.setIfInBounds j true) a' w') → K a' w') →
      if Region.wanted oj (yielded ops a.tmps) = true then oj.wp P a w K Q else K (a.put oj.dst undef) w)
    (hk : ∀ K : Act → World → Prop, Shut (∀ a' w', S w' → (S w' → wpAnyG P md ops Q ls S fuel (listed.setIfInBounds k true) a' w') → K a' w') →
      if Region.wanted ok (yielded ops a.tmps) = true then ok.wp P a w K Q else K (a.put ok.dst undef) w) : wpAnyG P md ops Q ls S (fuel + 1) listed a w := by
  refine ⟨fun h0 => (by rw [hr] at h0; cases h0), fun x hx => ?_⟩
  rw [hr] at hx
  rcases (show x = i ∨ x = j ∨ x = k by simpa using hx) with rfl | rfl | rfl
  · exact wpOp_step ei fun K hK => hi K fun a' w' hS hW => hK a' w' ⟨fun _ _ => hS, hW hS⟩
  · exact wpOp_step ej fun K hK => hj K fun a' w' hS hW => hK a' w' ⟨fun _ _ => hS, hW hS⟩
  · exact wpOp_step ek fun K hK => hk K fun a' w' hS hW => hK a' w' ⟨fun _ _ => hS, hW hS⟩
/-- A variable is made. -/
theorem wp_alloc_own {E : World} {L : List Hp} {T : TypeId} {cs : Array Value} {o : Oper} {a : Act} {w : World} {K : Act → World → Prop} (h : Own E w L)
    (hrun : (execOp a.eval o).run P w = .ok (.value (.pointer (some ⟨w.heap.size, 0, none⟩))) (w.alloc (.cells cs T)))
    (hK : ∀ g w', Own E w' (Hp.blk g T cs :: L) → K (a.put o.dst (.pointer (some ⟨g, 0, none⟩))) w') : o.wp P a w K Q := by
  unfold Oper.wp
  rw [hrun]
  exact hK _ _ (h.alloc _)
end
end Go.Proofs.YtabibfabieghpaaGreatDoor
