/- A slice within what came in (an element's field): as a list, like arg_slice. -/
import Derived.Test.YtabibfabieghpaaGreatDoorLaw
namespace Go.Proofs.YtabibfabieghpaaGreatDoor
open Go.ChangeShapes Go.WideShapes Go.ChangeAt Go.RowKit Go.Deep
section
variable {H : Type} {enc : TypeId × Value → H} {P : Program} {w : World} {sp : Nat → Bool} {held : Bool}
theorem el_slice {α : Type} {en : α → List Value} {dat : α → DataW H} {Wf : α → Prop} {t e : TypeId} {size : Nat}
    (ht : P.underlying t = some (.slice e)) (hC : P.cellsOf e = size) (h0 : 0 < size) (hen : ∀ x, (en x).length = size)
    (hel : ∀ n cs y, DataW.trod enc P w 0 sp held n e cs = some y → ∃ x : α, cs = en x ∧ y.1 = dat x ∧ Wf x)
    (n0 : Nat) (cs : List Value) (y : DataW H × List MemPlace) (h : DataW.trod enc P w 0 sp held n0 t cs = some y) :
    ∃ (A : Option Addr) (n c : Nat) (xs : List α), cs = [.slice A n c] ∧ n ≤ c ∧ c ≤ maxLen ∧ Rds (Ph.of w) size en A n xs ∧ (∀ x ∈ xs, Wf x) ∧
      (∀ B, (y.1.weights P t).all (· ≤ B) = true → n * P.bytesOf e ≤ B ∧ ∀ x ∈ xs, ((dat x).weights P e).all (· ≤ B) = true) ∧ (y.1 = .nil ∧ xs = [] ∨ ∃ more, y.1 = .slice (xs.map dat) more) := by
  obtain ⟨d, p⟩ := y
  rcases open_slice ht h with ⟨rfl, hx⟩ | ⟨a, len, cap, m, n, D, Pl, rfl, _, hl, hm, hmm, hx, hi⟩
  · simp only [Prod.mk.injEq] at hx
    exact ⟨none, 0, 0, [], rfl, Nat.le_refl _, Nat.zero_le _, Rds.nil hen, fun _ hx => (by cases hx), fun B _ => ⟨by simp, fun _ hx => (by cases hx)⟩, .inl ⟨hx.1, rfl⟩⟩
  · simp only [Prod.mk.injEq] at hx
    have hlm : len ≤ m := by rw [hmm]; split <;> omega
    obtain ⟨xs, hxl, hxs⟩ := exists_list (Q := fun i (x : α) => (∃ cs', w.cells? 0 (a.add (i * size)) size = some cs' ∧ cs' = en x) ∧ D i = dat x ∧ Wf x) len (fun i hi' => by
      obtain ⟨cs', hc, htr⟩ := hi i (by omega)
      obtain ⟨x, h1, h2, h3⟩ := hel _ _ _ htr
      rw [hC] at hc
      exact ⟨x, ⟨cs', hc, h1⟩, h2, h3⟩)
    have hdat : (List.range len).map D = xs.map dat := by
      refine List.ext_getElem (by simp [hxl]) (fun i h1 h2 => ?_)
      simp at h1 h2
      simp [(hxs i h2).2.1]
    refine ⟨some a, len, cap, xs, rfl, hl, hm, ⟨hxl, hen, fun k hk => ?_⟩, fun x hx => ?_, fun B hB => ?_, .inr ⟨_, by rw [hx.1, hdat]⟩⟩
    · obtain ⟨⟨cs', hc, rfl⟩, _, _⟩ := hxs k hk
      obtain ⟨_, _, hat⟩ := World.cells?_some hc
      have hsp : a.spot = none := by
        obtain ⟨⟨cs0, hc0, rfl⟩, _, _⟩ := hxs 0 (by omega)
        obtain ⟨_, _, hat0⟩ := World.cells?_some hc0
        have h1 := hat0 0 h0
        have h2 : (en xs[0])[0]? = some ((en xs[0])[0]'(by rw [hen]; exact h0)) := List.getElem?_eq_getElem _
        rw [h2] at h1
        exact spot_of_cell (a := a) (by simpa [Addr.add] using h1)
      obtain ⟨b, off, spot⟩ := a
      have hsp' : spot = none := hsp
      subst hsp'
      refine ⟨b, off, rfl, fun j u hu => ?_⟩
      have hj : j < size := by rw [← hen xs[k]]; exact (List.getElem?_eq_some_iff.1 hu).1
      have h1 := hat j hj
      rw [hu] at h1
      rw [Ph.of_cell]
      have ea : ((⟨b, off, none⟩ : Addr).add (k * size)).add j = ⟨b, off + k * size + j, none⟩ := by
        unfold Addr.add
        by_cases e1 : k * size = 0 <;> by_cases e2 : j = 0 <;> simp [e1, e2]
      rw [← ea]
      exact h1
    · obtain ⟨i, hi', rfl⟩ := List.getElem_of_mem hx
      exact (hxs i hi').2.2
    · rw [hx.1, hdat] at hB
      unfold DataW.weights at hB
      simp only [ht, List.all_cons, List.all_append, Bool.and_eq_true, decide_eq_true_eq] at hB
      refine ⟨?_, fun x hxm => weightsAll_mem hB.2.1 (List.mem_map_of_mem hxm)⟩
      refine Nat.le_trans (Nat.mul_le_mul_right _ ?_) hB.1
      simp [hxl]
theorem Rds.map {α β : Type} {S : Ph} {size : Nat} {en : β → List Value} {f : α → β} {A : Option Addr} {n : Nat} {xs : List α} (hen : ∀ y, (en y).length = size) (h : Rds S size (fun x => en (f x)) A n xs) : Rds S size en A n (xs.map f) :=
  ⟨by rw [List.length_map]; exact h.1, hen, fun k hk => by
    obtain ⟨b, off, hA, hc⟩ := h.2.2 k (by simpa using hk)
    exact ⟨b, off, hA, fun j v hv => hc j v (by simpa using hv)⟩⟩
end
end Go.Proofs.YtabibfabieghpaaGreatDoor
