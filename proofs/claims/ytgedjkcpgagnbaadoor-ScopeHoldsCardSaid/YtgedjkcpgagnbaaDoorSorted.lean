/- What the library's sort leaves behind, among the parts of memory. No program in sight. -/
import Derived.Test.YtgedjkcpgagnbaaDoorLst
import Derived.Sort.Grow
import Derived.Sort.EncStr
namespace Go.Proofs.YtgedjkcpgagnbaaDoor
open Go.RowKit Go.Sort
section
variable {E w : World} {L : List Hp}
theorem Own.grow (h : Own E w L) (os : Array Obj) : Own E (Go.Sort.grow w os) L := by
  obtain ⟨h1, h2, h3, x, hx, hL⟩ := h
  refine ⟨h1, h2, h3, x, fun k o hk => ?_, hL⟩
  have h4 := hx k o hk
  have hlt := (Array.getElem?_eq_some_iff.1 h4).1
  show (w.heap ++ os)[k]? = some o
  rw [Array.getElem?_append_left hlt, h4]
theorem size_putCells {α : Type} [Inhabited α] (enc : α → Value) (off : Nat) (d : Array α) (c : Array Value) : (putCells enc off d c).size = c.size := by unfold putCells; simp
theorem take_putCells {α : Type} [Inhabited α] (enc : α → Value) (d : List α) (c : Array Value) (hd : d.length ≤ c.size) : (putCells enc 0 d.toArray c).toList.take d.length = d.map enc := by
  apply List.ext_getElem?
  intro k
  by_cases hk : k < d.length
  · rw [List.getElem?_take_of_lt hk, List.getElem?_map, Array.getElem?_toList]
    unfold putCells
    rw [Array.getElem?_mapIdx]
    have h1 : c[k]? = some c[k] := Array.getElem?_eq_getElem (by omega)
    rw [h1, List.getElem?_eq_getElem hk]
    simp [hk]
  · rw [List.getElem?_eq_none (by rw [List.length_take]; omega), List.getElem?_eq_none (by rw [List.length_map]; omega)]
/-- The list is sorted in its block. -/
theorem Own.sorted {α : Type} [Inhabited α] {enc : α → Value} {g c : Nat} {e : TypeId} {xs ys : List α} (h : Own E w (Hp.lst e (.slice (some ⟨g, 0, none⟩) xs.length c) (xs.map enc) :: L)) (h0 : 0 < xs.length) (hl : ys.length = xs.length) (n : Nat) (os : Array Obj) :
    Own E (Go.Sort.grow (Go.Sort.putRow enc (Go.Sort.ahead w n) g 0 ys.toArray) os) (Hp.lst e (.slice (some ⟨g, 0, none⟩) xs.length c) (ys.map enc) :: L) := by
  refine Own.grow ?_ os
  obtain ⟨A, c0, hv, hc, hm, ⟨e1, -, -⟩ | ⟨g', cur, e1, e2, e3, ho⟩⟩ := h.lstForm
  · rw [List.map_eq_nil_iff] at e1; subst e1; cases h0
  · injection hv with q1 q2 q3
    subst q3
    rw [← q1] at e1
    injection e1 with e1
    injection e1 with e1
    subst e1
    obtain ⟨fr, hfr, hob⟩ := ho.ofMk
    have hlt := hob.lt
    have hat := hob.at_
    have h5 : Own E (Go.Sort.putRow enc (Go.Sort.ahead w n) g 0 ys.toArray) (Hp.obj g (.cells (putCells enc 0 ys.toArray cur) e fr) :: L) := by
      refine hob.turn rfl rfl rfl ?_ ?_
      · show (w.heap.modify g (onCells _))[g]? = _
        rw [Array.getElem?_modify, if_pos rfl, hat]
        rfl
      · intro k hk hne
        show (w.heap.modify g (onCells _))[k]? = _
        rw [Array.getElem?_modify, if_neg (fun e => hne e.symm)]
    have h6 := Own.mkMk (by rw [size_putCells]; exact hfr) h5
    rw [List.length_map] at hc e3
    have h7 := Own.mtoLst (xs := ys.map enc) h6 c (by rw [size_putCells]; exact e2) hm (by rw [List.length_map, hl]; exact hc) (by rw [List.length_map]; exact take_putCells enc ys cur (by omega))
    rw [List.length_map, hl] at h7
    exact h7
/-- The cells of an owned list of texts, as the library's sort asks for them. -/
theorem Own.lstHolds {α : Type} [Inhabited α] {enc : α → Value} {g c : Nat} {e : TypeId} {xs : List α} (h : Own E w (Hp.lst e (.slice (some ⟨g, 0, none⟩) xs.length c) (xs.map enc) :: L)) (h0 : 0 < xs.length) : Holds enc w g 0 xs.toArray ∧ g < w.heap.size := by
  obtain ⟨A, c0, hv, hc, hm, ⟨e1, -, -⟩ | ⟨g', cur, e1, e2, e3, ho⟩⟩ := h.lstForm
  · rw [List.map_eq_nil_iff] at e1; subst e1; cases h0
  · injection hv with q1 q2 q3
    rw [← q1] at e1
    injection e1 with e1
    injection e1 with e1
    subst e1
    rw [List.length_map] at e3 hc
    refine ⟨fun j hj => ?_, ?_⟩
    · have hj' : j < xs.length := by simpa using hj
      rw [Nat.zero_add]
      refine ⟨?_, ho.mfrozen j (by omega)⟩
      rw [ho.mcell j]
      have h4 : (cur.toList.take xs.length)[j]? = (xs.map enc)[j]? := by rw [e3]
      rw [List.getElem?_take_of_lt hj', Array.getElem?_toList, List.getElem?_map, List.getElem?_eq_getElem hj'] at h4
      rw [h4]
      simp [hj']
    · obtain ⟨fr, -, hob⟩ := ho.ofMk
      exact hob.lt
end
end Go.Proofs.YtgedjkcpgagnbaaDoor
