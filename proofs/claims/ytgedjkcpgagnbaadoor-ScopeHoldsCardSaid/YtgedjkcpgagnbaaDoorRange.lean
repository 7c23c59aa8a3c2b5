/- A loop over a map, among the parts of memory: the map's block and the iterator's. No program in sight. -/
import Derived.Test.YtgedjkcpgagnbaaDoorMap
import Derived.Maps.RangeWalk
import Derived.Sort.KeysCollected
namespace Go.Proofs.YtgedjkcpgagnbaaDoor
open Go.RowKit Go.Maps Go.ChangeMaps Go.MapKept
open Go.WideElems (Fit rg)
section
variable {P : Program} {K : TypeId} {R : Value → Option (DataW Unit × List MemPlace)}
/-- A map (block b) over which a loop goes (its iterator: block r). -/
def Hp.rng (P : Program) (K : TypeId) (R : Value → Option (DataW Unit × List MemPlace)) (b r n : Nat) (D : DataW Unit) (left : Lit → Bool) (cnt : Nat) : Hp := fun h =>
  ∃ es clock since seen c0, Hp.sep (Hp.obj b (.map es clock)) (Hp.obj r (.mapIter (some b) since seen c0)) h ∧ Fit P K R es clock ∧ es.size ≤ n ∧ D = .map ((es.toList.map (rg P K R)).foldr DataW.insert []) ∧
    (∀ x ∈ es.toList, x.born < since) ∧ (leftOf es seen).size = cnt ∧
    (∀ x ∈ es.toList, left (rg P K R x).1 = !seen.contains x.born) ∧ (∀ kl, left kl = true → ∃ x ∈ es.toList, (rg P K R x).1 = kl) ∧ since ≤ c0 ∧ since ≤ clock
theorem Own.sepTwo {E w : World} {A B : Hp} {L : List Hp} : Own E w (Hp.sep A B :: L) ↔ Own E w (A :: B :: L) := by
  unfold Own
  simp only [Hp.all, Hp.sep_assoc]
theorem Own.rngObj {E w : World} {L : List Hp} {b r n cnt : Nat} {D : DataW Unit} {left : Lit → Bool} (h : Own E w (Hp.rng P K R b r n D left cnt :: L)) :
    ∃ es clock since seen c0, Fit P K R es clock ∧ es.size ≤ n ∧ D = .map ((es.toList.map (rg P K R)).foldr DataW.insert []) ∧
    (∀ x ∈ es.toList, x.born < since) ∧ (leftOf es seen).size = cnt ∧
    (∀ x ∈ es.toList, left (rg P K R x).1 = !seen.contains x.born) ∧ (∀ kl, left kl = true → ∃ x ∈ es.toList, (rg P K R x).1 = kl) ∧ since ≤ c0 ∧ since ≤ clock ∧
    Own E w (Hp.obj b (.map es clock) :: Hp.obj r (.mapIter (some b) since seen c0) :: L) := by
  obtain ⟨h1, h2, h3, y, hx, a, c, hd, rfl, ⟨es, clock, since, seen, c0, ho, f1, f2, f3, f4, f5, f6, f7, f8, f9⟩, hL⟩ := h
  exact ⟨es, clock, since, seen, c0, f1, f2, f3, f4, f5, f6, f7, f8, f9, Own.sepTwo.1 ⟨h1, h2, h3, _, hx, a, c, hd, rfl, ho, hL⟩⟩
theorem Own.ranges {E w : World} {L : List Hp} {b r n cnt : Nat} {D : DataW Unit} {left : Lit → Bool} (h : Own E w (Hp.rng P K R b r n D left cnt :: L)) : w.ranges P K R b r n D left cnt := by
  obtain ⟨es, clock, since, seen, c0, f1, f2, f3, f4, f5, f6, f7, f8, f9, ho⟩ := h.rngObj
  exact ⟨es, clock, since, seen, c0, ho.at_, f1, f2, f3, ho.f1.at_, f4, f5, f6, f7, f8, f9⟩
/-- Behind the loop: the map again. -/
theorem Own.rngMap {E w : World} {L : List Hp} {b r n cnt : Nat} {D : DataW Unit} {left : Lit → Bool} (h : Own E w (Hp.rng P K R b r n D left cnt :: L)) : Own E w (Hp.mp P K R b n D :: L) := by
  obtain ⟨es, clock, since, seen, c0, f1, f2, f3, f4, f5, f6, f7, f8, f9, ho⟩ := h.rngObj
  exact ho.f1.drop.imp fun _ hx => ⟨es, clock, hx, f1, f2, f3⟩
/-- The step of the iterator. -/
theorem Own.rngStep {E w w' : World} {L : List Hp} {b r n cnt cnt' : Nat} {D : DataW Unit} {left left' : Lit → Bool} (h : Own E w (Hp.rng P K R b r n D left cnt :: L)) (h2 : w'.ranges P K R b r n D left' cnt') (hg : w.grownBy w' (some r)) :
    Own E w' (Hp.rng P K R b r n D left' cnt' :: L) := by
  obtain ⟨es, clock, since, seen, c0, f1, f2, f3, f4, f5, f6, f7, f8, f9, ho⟩ := h.rngObj
  obtain ⟨es', clock', since', seen', c0', hb', g1, g2, g3, hr', g4, g5, g6, g7, g8, g9⟩ := h2
  have hne : b ≠ r := ho.ne
  have e1 := (hg.block b ho.lt (fun e => hne (Option.some.inj e))).symm.trans hb'
  rw [ho.at_] at e1
  obtain ⟨e2, e3⟩ := Obj.map.inj (Option.some.inj e1)
  subst e2 e3
  have h5 := ho.f1.turn (o' := .mapIter (some b) since' seen' c0') hg.os hg.tape hg.output hr' (fun k hk hne => hg.block k hk (fun e => hne (Option.some.inj e)))
  exact (Own.sepTwo.2 h5.f1).imp fun _ hx => ⟨es, clock, since', seen', c0', hx, g1, g2, g3, g4, g5, g6, g7, g8, g9⟩
/-- A block more, behind all that was there. -/
theorem Own.grown1 {E w w' : World} {L : List Hp} {o : Obj} (h : Own E w L) (hg : w.grownBy w' none) (ho : w'.heap[w.heap.size]? = some o) : Own E w' (Hp.obj w.heap.size o :: L) := by
  obtain ⟨h1, h2, h3, x, hx, hL⟩ := h
  have hlt : ∀ k u, x k = some u → k < w.heap.size := fun k u hk => (Array.getElem?_eq_some_iff.1 (hx k u hk)).1
  refine ⟨hg.os.trans h1, hg.tape.trans h2, hg.output.trans h3, Ph.join (Ph.one w.heap.size o) x, fun k u hk => ?_, Ph.one w.heap.size o, x, fun k => ?_, rfl, rfl, hL⟩
  · unfold Ph.join Ph.one at hk
    by_cases e : k = w.heap.size
    · subst e
      simp at hk
      rw [← hk, ho]
    · rw [if_neg e] at hk
      simp at hk
      rw [hg.block k (hlt k u hk) (by simp), hx k u hk]
  · unfold Ph.one
    by_cases e : k = w.heap.size
    · right
      cases e2 : x k with
      | none => rfl
      | some u => have := hlt k u e2; omega
    · exact .inl (if_neg e)
/-- 'range m'. -/
theorem Own.rngStart {E w w' : World} {L : List Hp} {b n cnt : Nat} {D : DataW Unit} {left : Lit → Bool} (h : Own E w (Hp.mp P K R b n D :: L)) (h2 : w'.ranges P K R b w.heap.size n D left cnt) (hg : w.grownBy w' none) :
    Own E w' (Hp.rng P K R b w.heap.size n D left cnt :: L) := by
  obtain ⟨es, clock, f1, f2, f3, ho⟩ := h.mp_obj
  obtain ⟨es', clock', since', seen', c0', hb', g1, g2, g3, hr', g4, g5, g6, g7, g8, g9⟩ := h2
  have e1 := (hg.block b ho.lt (by simp)).symm.trans hb'
  rw [ho.at_] at e1
  obtain ⟨e2, e3⟩ := Obj.map.inj (Option.some.inj e1)
  subst e2 e3
  have h5 := ho.grown1 hg hr'
  exact (Own.sepTwo.2 h5.f1).imp fun _ hx => ⟨es, clock, since', seen', c0', hx, g1, g2, g3, g4, g5, g6, g7, g8, g9⟩
end
end Go.Proofs.YtgedjkcpgagnbaaDoor
