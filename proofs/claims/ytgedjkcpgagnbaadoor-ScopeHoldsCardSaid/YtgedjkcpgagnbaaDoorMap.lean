/- A map among the parts of memory. -/
import Derived.Test.YtgedjkcpgagnbaaDoorSl
import Derived.Maps.OwnSet
namespace Go.Proofs.YtgedjkcpgagnbaaDoor
open Go.RowKit Go.Maps
open Go.WideElems (Fit rg)
section
variable {P : Program} {K : TypeId} {R : Value → Option (DataW Unit × List MemPlace)}
/-- A map of at most n entries that reads as D. -/
def Hp.mp (P : Program) (K : TypeId) (R : Value → Option (DataW Unit × List MemPlace)) (b n : Nat) (D : DataW Unit) : Hp := fun h =>
  ∃ es clock, Hp.obj b (.map es clock) h ∧ Fit P K R es clock ∧ es.size ≤ n ∧ D = .map ((es.toList.map (rg P K R)).foldr DataW.insert [])
theorem Own.mp_obj {E w : World} {L : List Hp} {b n : Nat} {D : DataW Unit} (h : Own E w (Hp.mp P K R b n D :: L)) :
    ∃ es clock, Fit P K R es clock ∧ es.size ≤ n ∧ D = .map ((es.toList.map (rg P K R)).foldr DataW.insert []) ∧ Own E w (Hp.obj b (.map es clock) :: L) := by
  obtain ⟨h1, h2, h3, y, hx, a, c, hd, rfl, ⟨es, clock, ho, f1, f2, f3⟩, hL⟩ := h
  exact ⟨es, clock, f1, f2, f3, h1, h2, h3, _, hx, a, c, hd, rfl, ho, hL⟩
theorem Own.mpOwns {E w : World} {L : List Hp} {b n : Nat} {D : DataW Unit} (h : Own E w (Hp.mp P K R b n D :: L)) : w.ownsMap P K R b n D := by
  obtain ⟨es, clock, f1, f2, f3, ho⟩ := h.mp_obj
  exact ⟨es, clock, ho.at_, f1, f2, f3⟩
theorem Own.mpTurn {E w w' : World} {L : List Hp} {b n n' : Nat} {D D' : DataW Unit} (h : Own E w (Hp.mp P K R b n D :: L)) (h2 : w'.ownsMap P K R b n' D') (hg : w.grownBy w' (some b)) :
    Own E w' (Hp.mp P K R b n' D' :: L) := by
  obtain ⟨es, clock, f1, f2, f3, ho⟩ := h.mp_obj
  obtain ⟨es', clock', hb', g1, g2, g3⟩ := h2
  have h5 := ho.turn (o' := .map es' clock') hg.os hg.tape hg.output hb' (fun k hk hne => hg.block k hk (fun e => hne (Option.some.inj e)))
  exact h5.imp fun _ hx => ⟨es', clock', hx, g1, g2, g3⟩
theorem Own.mpMade {E w : World} {L : List Hp} (h : Own E w L) : Own E (w.alloc (.map #[] 0)) (Hp.mp P K R w.heap.size 0 (.map []) :: L) := by
  have h1 := h.alloc (.map #[] 0)
  obtain ⟨es, clock, hb, f1, f2, f3⟩ := World.ownsMap_made w P K R
  have e : (.map #[] 0 : Obj) = .map es clock := Option.some.inj (h1.at_.symm.trans hb)
  rw [e] at h1 ⊢
  exact h1.imp fun _ hx => ⟨es, clock, hx, f1, f2, f3⟩
end
end Go.Proofs.YtgedjkcpgagnbaaDoor
