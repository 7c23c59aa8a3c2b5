/- node.unlike: kids told apart by a map. -/
import Derived.Test.YtbclmmneiphcaaaDoorSize
import Derived.MapKept
namespace Go.Proofs.YtbclmmneiphcaaaDoor
open Go.RowKit Go.MapKept
abbrev MT : TypeId := 113
/-- A map that counts one of each. -/
def IsSet (es : Array MapEntry) (ks : List Int) : Prop := es.toList.map (fun e => (e.key, e.val)) = ks.map (fun k => (Value.int .i64 k, Value.int .i64 1))
theorem isSet_nil : IsSet #[] [] := rfl
theorem isSet_push {es : Array MapEntry} {ks : List Int} (h : IsSet es ks) (k : Int) (b : Nat) : IsSet (es.push ⟨.int .i64 k, .int .i64 1, b⟩) (ks ++ [k]) := by
  unfold IsSet at h ⊢
  rw [Array.toList_push, List.map_append, List.map_append, h]
  rfl
theorem IsSet.mem {es : Array MapEntry} {ks : List Int} (h : IsSet es ks) {x : MapEntry} (hx : x ∈ es.toList) : ∃ k ∈ ks, x.key = .int .i64 k ∧ x.val = .int .i64 1 := by
  have h1 : (x.key, x.val) ∈ es.toList.map (fun e => (e.key, e.val)) := List.mem_map.2 ⟨x, hx, rfl⟩
  unfold IsSet at h
  rw [h] at h1
  obtain ⟨k, hk, e⟩ := List.mem_map.1 h1
  injection e with e1 e2
  exact ⟨k, hk, e1.symm, e2.symm⟩
theorem IsSet.has {es : Array MapEntry} {ks : List Int} (h : IsSet es ks) {k : Int} (hk : k ∈ ks) : ∃ x ∈ es.toList, x.key = .int .i64 k := by
  have h1 : (Value.int .i64 k, Value.int .i64 1) ∈ ks.map (fun k => (Value.int .i64 k, Value.int .i64 1)) := List.mem_map.2 ⟨k, hk, rfl⟩
  unfold IsSet at h
  rw [← h] at h1
  obtain ⟨x, hx, e⟩ := List.mem_map.1 h1
  injection e with e1 e2
  exact ⟨x, hx, e1⟩
theorem IsSet.keys {es : Array MapEntry} {ks : List Int} (h : IsSet es ks) : ∀ x ∈ es.toList, IsKey (.int .i64) x.key := fun x hx => by
  obtain ⟨k, _, e, _⟩ := h.mem hx
  rw [e]; simp [IsKey]
section
variable {P : Program} {w : World} {mty kt et : TypeId} {r clk : Nat} {es : Array MapEntry} {ks : List Int} {k : Int}
theorem findNow_none (h : IsSet es ks) (hk : k ∉ ks) : Instr.findNow (.int .i64) (.int .i64 k) es.toList 0 = some none := by
  rcases findNow_spec (d := .int .i64) (k := .int .i64 k) (by simp [IsKey]) es.toList 0 h.keys with ⟨h1, _⟩ | ⟨j, e, _, h2, h3⟩
  · exact h1
  · obtain ⟨k', hk', e1, _⟩ := h.mem (List.mem_of_getElem? h2)
    rw [h3] at e1
    injection e1 with _ e1
    subst e1
    exact absurd hk' hk
theorem findNow_hit (h : IsSet es ks) (hk : k ∈ ks) : ∃ j e, Instr.findNow (.int .i64) (.int .i64 k) es.toList 0 = some (some (j, .int .i64 1)) ∧ es[j]? = some e ∧ e.key = .int .i64 k := by
  rcases findNow_spec (d := .int .i64) (k := .int .i64 k) (by simp [IsKey]) es.toList 0 h.keys with ⟨_, h2⟩ | ⟨j, e, h1, h2, h3⟩
  · obtain ⟨x, hx, e⟩ := h.has hk
    exact absurd e (h2 x hx)
  · obtain ⟨k', hk', _, e2⟩ := h.mem (List.mem_of_getElem? h2)
    refine ⟨j, e, ?_, by simpa using h2, h3⟩
    rw [h1, e2, Nat.zero_add]
theorem im_none (hm : P.underlying mty = some (.map kt et)) (hd : P.underlying kt = some (.int .i64)) (hz : (zeroValue et).run P w = .ok (.int .i64 0) w) (hb : w.heap[r]? = some (.map es clk)) (h : IsSet es ks) (hk : k ∉ ks) :
    (Instr.lookup mty (.map (some r)) (.int .i64 k) false).run P w = .ok (.int .i64 0) w := by
  simp [Instr.lookup, run_underlying hm, MapKept.run_getObj_map hb, MapKept.run_checkKey (d := .int .i64) hd (show IsKey (.int .i64) (.int .i64 k) by simp [IsKey]), MapKept.run_findKey hd (findNow_none h hk), hz, Result.andThen]
theorem im_one (hm : P.underlying mty = some (.map kt et)) (hd : P.underlying kt = some (.int .i64)) (hb : w.heap[r]? = some (.map es clk)) (h : IsSet es ks) (hk : k ∈ ks) :
    (Instr.lookup mty (.map (some r)) (.int .i64 k) false).run P w = .ok (.int .i64 1) w := by
  obtain ⟨j, e, h1, _, _⟩ := findNow_hit h hk
  simp [Instr.lookup, run_underlying hm, MapKept.run_getObj_map hb, MapKept.run_checkKey (d := .int .i64) hd (show IsKey (.int .i64) (.int .i64 k) by simp [IsKey]), MapKept.run_findKey hd h1, Result.andThen]
theorem im_push (hm : P.underlying mty = some (.map kt et)) (hd : P.underlying kt = some (.int .i64)) (hb : w.heap[r]? = some (.map es clk)) (h : IsSet es ks) (hk : k ∉ ks) (v : Value) :
    (Instr.mapUpdate mty (.map (some r)) (.int .i64 k) v).run P w = .ok () { w with heap := w.heap.setIfInBounds r (.map (es.push ⟨.int .i64 k, v, clk⟩) (clk + 1)) } := by
  simp [Instr.mapUpdate, run_underlying hm, MapKept.run_getObj_map hb, MapKept.run_checkKey (d := .int .i64) hd (show IsKey (.int .i64) (.int .i64 k) by simp [IsKey]), MapKept.run_findKey hd (findNow_none h hk), MapKept.run_setObj_map _ hb, Result.andThen]
/-- One that is there is counted again: it is found as what it is now. -/
theorem im_again (hm : P.underlying mty = some (.map kt et)) (hd : P.underlying kt = some (.int .i64)) (hb : w.heap[r]? = some (.map es clk)) (h : IsSet es ks) (hnd : ks.Nodup) (hk : k ∈ ks) :
    ∃ o, (Instr.mapUpdate mty (.map (some r)) (.int .i64 k) (.int .i64 2)).run P w = .ok () { w with heap := w.heap.setIfInBounds r o } ∧
      ∀ w2 : World, w2.heap[r]? = some o → (Instr.lookup mty (.map (some r)) (.int .i64 k) false).run P w2 = .ok (.int .i64 2) w2 := by
  have hik : IsKey (.int .i64) (.int .i64 k) := by simp [IsKey]
  obtain ⟨j, e, h1, h2, h3⟩ := findNow_hit h hk
  refine ⟨.map (es.modify j fun e => { e with key := .int .i64 k, val := .int .i64 2 }) clk, ?_, fun w2 hb2 => ?_⟩
  · simp [Instr.mapUpdate, run_underlying hm, MapKept.run_getObj_map hb, MapKept.run_checkKey (d := .int .i64) hd hik, MapKept.run_findKey hd h1, h2, h3, run_keyThatStays (d := .int .i64) hik, MapKept.run_setObj_map _ hb, Result.andThen]
  · have hkk : ∀ x ∈ (es.modify j fun e => ({ e with key := .int .i64 k, val := .int .i64 2 } : MapEntry)).toList, IsKey (.int .i64) x.key :=
      isKey_modify h.keys j _ (fun e' he' => by rw [h2] at he'; injection he' with he'; subst he'; exact h3.symm)
    have hf : ∃ j', Instr.findNow (.int .i64) (.int .i64 k) (es.modify j fun e => ({ e with key := .int .i64 k, val := .int .i64 2 } : MapEntry)).toList 0 = some (some (j', .int .i64 2)) := by
      rcases findNow_spec (d := .int .i64) hik _ 0 hkk with ⟨_, g2⟩ | ⟨j', e', g1, g2, g3⟩
      · refine absurd rfl (g2 ⟨.int .i64 k, .int .i64 2, e.born⟩ ?_)
        refine List.mem_of_getElem? (i := j) ?_
        rw [Array.getElem?_toList, Array.getElem?_modify, if_pos rfl, h2]; rfl
      · refine ⟨j', ?_⟩
        rw [g1, Nat.zero_add]
        rw [Array.getElem?_toList, Array.getElem?_modify] at g2
        by_cases hj : j = j'
        · subst hj
          rw [if_pos rfl, h2] at g2
          injection g2 with g2
          rw [← g2]
        · exfalso
          rw [if_neg hj] at g2
          have hkeys : es.toList.map (·.key) = ks.map (Value.int .i64) := by
            have e := congrArg (List.map Prod.fst) h
            rw [List.map_map, List.map_map] at e
            exact e
          have q1 : (es.toList.map (·.key))[j]? = some (.int .i64 k) := by rw [List.getElem?_map, Array.getElem?_toList, h2, Option.map_some, h3]
          have q2 : (es.toList.map (·.key))[j']? = some (.int .i64 k) := by rw [List.getElem?_map, Array.getElem?_toList, g2, Option.map_some, g3]
          rw [hkeys, List.getElem?_map, Option.map_eq_some_iff] at q1 q2
          obtain ⟨x1, p1, e1⟩ := q1
          obtain ⟨x2, p2, e2⟩ := q2
          injection e1 with _ e1
          injection e2 with _ e2
          subst e1 e2
          exact hj ((List.getElem?_inj (List.getElem?_eq_some_iff.1 p1).1 hnd).1 (p1.trans p2.symm))
    obtain ⟨j', hf⟩ := hf
    generalize (es.modify j fun e => ({ e with key := .int .i64 k, val := .int .i64 2 } : MapEntry)) = es' at *
    simp [Instr.lookup, run_underlying hm, MapKept.run_getObj_map hb2, MapKept.run_checkKey (d := .int .i64) hd hik, MapKept.run_findKey hd hf, Result.andThen]
end
end Go.Proofs.YtbclmmneiphcaaaDoor
