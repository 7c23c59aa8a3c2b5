/- slices.Delete of one bucket. -/
import Derived.Test.YtnbpbonpcbemdaaLim6
import Derived.Lib.Overlaps
import Derived.Lib.AppendZerosOnto
namespace Go.Proofs.Ytnbpbonpcbemdaa
open Go.RowKit
section
variable {P : Program} {E w : World} {L : List Hp}
/-- copy within an owned block, of elements of any size. -/
theorem sl_copyM {t e ty bt : TypeId} {i : TypeInfo} (ht : P.underlying t = some (.slice e)) (hi : P.info? e = some i) {g off : Nat} {cur : Array Value} (h : Own E w (Hp.mk g bt cur :: L))
    (dLen dCap sLen sCap m : Nat) (ad : Addr) (news : List Value) (hm : Nat.min sLen dLen = m) (hl : news.length = m * i.size) (hr : ∀ j u, news[j]? = some u → w.cell? (ad.add j) = some u) (h1 : ∀ u ∈ news, u.oneCell' = true) (hfit : off + news.length ≤ cur.size) :
    (Builtin.copy_ #[t, t] ty #[.slice (some ⟨g, off, none⟩) dLen dCap, .slice (some ad) sLen sCap]).run P w = .ok (goInt m) (w.setCells g off news) := by
  have hf := run_firstCells_some (P := P) w i.size m ad sLen sCap news hl hr
  have hst := run_storeCells_cells (P := P) g off news 0 w (fun j hj => by rw [h.mcell, Array.getElem?_eq_getElem (by omega)]; rfl) (fun j hj => h.mfrozen _ (by omega)) h1
  simp only [Nat.add_zero] at hst
  simp [Builtin.copy_, run_underlying ht, sizeOf, typeInfo, hi, Builtin.lenOf, hm, hf, hst]
/-- clear of some elements of an owned block. -/
theorem sl_clearM {t e ty bt : TypeId} {i : TypeInfo} {z : Value} (ht : P.underlying t = some (.slice e)) (hi : P.info? e = some i) (hz : i.zero = some z) {g off : Nat} {cur : Array Value} (h : Own E w (Hp.mk g bt cur :: L))
    (n c : Nat) (zs : List Value) (hn : 0 < n) (hzs : (Builtin.zeroCells z.cells n).toList = zs) (h1 : ∀ u ∈ zs, u.oneCell' = true) (hfit : off + zs.length ≤ cur.size) :
    (Builtin.clear_ #[t] ty #[.slice (some ⟨g, off, none⟩) n c]).run P w = .ok (.tuple #[]) (w.setCells g off zs) := by
  have hst := run_storeCells_cells (P := P) g off zs 0 w (fun j hj => by rw [h.mcell, Array.getElem?_eq_getElem (by omega)]; rfl) (fun j hj => h.mfrozen _ (by omega)) h1
  simp only [Nat.add_zero] at hst
  match n, hn with
  | n + 1, _ => simp [Builtin.clear_, run_underlying ht, zeroValue, typeInfo, hi, hz, hzs, hst]
variable {ops : Array Oper} {rest : List Oper} {o : Oper} {a : Act} {K : Act → World → Prop} {Q : Exit → Act → World → Prop} {v1 r : Value} {w' : World} {dT : TypeId} {d : Operand}
theorem wp_clear_run (hrun : (Builtin.clear_ #[dT] o.type #[v1]).run P w = .ok r w') (ho : o.op = .call { callee := .builtin .clear, args := #[d], argTypes := #[dT] })
    (hd : a.eval d = v1) (h : K (a.put o.dst r) w') : o.wp P a w K Q := by
  unfold Oper.wp execOp
  simp only [ho, resolve, invoke, builtin, Sem.run_bind, Sem.run_pure, Result.andThen_ok, List.map_toArray, List.map_cons, List.map_nil, hd, hrun]
  exact h
theorem wpList_clear_run (hrun : (Builtin.clear_ #[dT] o.type #[v1]).run P w = .ok r w') (hgd : o.guard = none) (ho : o.op = .call { callee := .builtin .clear, args := #[d], argTypes := #[dT] })
    (hd : a.eval d = v1) (h : wpList P ops Q rest (a.put o.dst r) w') : wpList P ops Q (o :: rest) a w :=
  wpList_plain hgd fun _ hK => wp_clear_run hrun ho hd (hK _ _ h)
end
theorem splice_take (C vs : List Value) (off : Nat) (h : off ≤ C.length) : (splice C off vs).take (off + vs.length) = C.take off ++ vs := by
  unfold splice
  have e : (C.take off ++ vs).length = off + vs.length := by rw [List.length_append, List.length_take, Nat.min_eq_left h]
  first
    | rw [← List.append_assoc, List.take_append_of_le_length (by rw [e]; exact Nat.le_refl _), List.take_of_length_le (by rw [e]; exact Nat.le_refl _)]
    | rw [List.take_append_of_le_length (by rw [e]; exact Nat.le_refl _), List.take_of_length_le (by rw [e]; exact Nat.le_refl _)]
theorem splice_pre (C vs : List Value) (off : Nat) (h : off ≤ C.length) : (splice C off vs).take off = C.take off := by
  have e : (C.take off).length = off := by rw [List.length_take, Nat.min_eq_left h]
  unfold splice
  first
    | (rw [List.append_assoc, List.take_append_of_le_length (by omega), List.take_of_length_le (by omega)])
    | (rw [List.take_append_of_le_length (by omega), List.take_of_length_le (by omega)])
theorem splice_len (C vs : List Value) (off : Nat) (h : off + vs.length ≤ C.length) : (splice C off vs).length = C.length := by
  unfold splice
  simp only [List.length_append, List.length_take, List.length_drop]
  omega
theorem flat_len (l : List Bkt) : (l.flatMap enB).length = l.length * 3 := by
  induction l with
  | nil => rfl
  | cons x l ih => rw [List.flatMap_cons, List.length_append, ih, List.length_cons]; show 3 + l.length * 3 = (l.length + 1) * 3; omega
theorem flat_erase : ∀ (l : List Bkt) (k : Nat), k < l.length → (l.flatMap enB).take (k * 3) ++ (l.flatMap enB).drop ((k + 1) * 3) = (l.eraseIdx k).flatMap enB
  | x :: l, 0, _ => by
    rw [List.flatMap_cons, List.eraseIdx_cons_zero]
    show [] ++ List.drop 3 (enB x ++ _) = _
    rfl
  | x :: l, k + 1, h => by
    have h2 : k < l.length := by simpa using h
    rw [List.flatMap_cons, List.eraseIdx_cons_succ, List.flatMap_cons, ← flat_erase l k h2]
    have e1 : (k + 1) * 3 = 3 + k * 3 := by omega
    have e2 : (k + 1 + 1) * 3 = 3 + (k + 1) * 3 := by omega
    rw [e1, e2]
    have e3 : 3 = (enB x).length := rfl
    rw [show List.take (3 + k * 3) (enB x ++ l.flatMap enB) = enB x ++ (l.flatMap enB).take (k * 3) from List.take_length_add_append (l₁ := enB x) (k * 3),
      show List.drop (3 + (k + 1) * 3) (enB x ++ l.flatMap enB) = (l.flatMap enB).drop ((k + 1) * 3) from List.drop_length_add_append (l₁ := enB x) ((k + 1) * 3)]
    rw [List.append_assoc, e1]
end Go.Proofs.Ytnbpbonpcbemdaa
