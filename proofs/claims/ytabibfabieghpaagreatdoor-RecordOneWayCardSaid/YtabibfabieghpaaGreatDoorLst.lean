/- Lists that the call owns, cut back to their length or not (slices.Clip), or empty at any place. Elements of one cell. No program in sight. -/
import Derived.Test.YtabibfabieghpaaGreatDoorBytes
namespace Go.Proofs.YtabibfabieghpaaGreatDoor
open Go.RowKit
/-- v is a slice of elements xs, in a block that is owned whole; an empty one without room may stand anywhere. -/
def Hp.lst (e : TypeId) (v : Value) (xs : List Value) : Hp := fun h => ∃ A c, v = .slice A xs.length c ∧ xs.length ≤ c ∧ c ≤ maxLen ∧
  ((xs = [] ∧ c = 0 ∧ h = Ph.emp) ∨ ∃ g cur, A = some ⟨g, 0, none⟩ ∧ c ≤ cur.size ∧ cur.toList.take xs.length = xs ∧ Hp.mk g e cur h)
section
variable {P : Program} {E w w' : World} {L : List Hp} {e : TypeId} {v : Value} {xs : List Value}
theorem Own.lstForm (h : Own E w (Hp.lst e v xs :: L)) : ∃ A c, v = .slice A xs.length c ∧ xs.length ≤ c ∧ c ≤ maxLen ∧
    ((xs = [] ∧ c = 0 ∧ Own E w L) ∨ ∃ g cur, A = some ⟨g, 0, none⟩ ∧ c ≤ cur.size ∧ cur.toList.take xs.length = xs ∧ Own E w (Hp.mk g e cur :: L)) := by
  have hd := h.drop
  obtain ⟨h1, h2, h3, _, hx, a, b, hab, rfl, ⟨A, c, hv, hc, hm, hA⟩, hL⟩ := h
  refine ⟨A, c, hv, hc, hm, ?_⟩
  rcases hA with ⟨e1, e2, _⟩ | ⟨g, cur, e1, e2, e3, e4⟩
  · exact .inl ⟨e1, e2, hd⟩
  · exact .inr ⟨g, cur, e1, e2, e3, h1, h2, h3, _, hx, a, b, hab, rfl, e4, hL⟩
theorem Own.lstSlice (h : Own E w (Hp.lst e v xs :: L)) : ∃ A c, v = .slice A xs.length c ∧ xs.length ≤ c ∧ c ≤ maxLen := by
  obtain ⟨A, c, h1, h2, h3, _⟩ := h.lstForm
  exact ⟨A, c, h1, h2, h3⟩
theorem Own.emptyLst (h : Own E w L) (e : TypeId) (A : Option Addr) : Own E w (Hp.lst e (.slice A 0 0) [] :: L) :=
  (Own.emp.2 h).imp fun _ hx => ⟨A, 0, rfl, Nat.le_refl _, Nat.zero_le _, .inl ⟨rfl, rfl, hx⟩⟩
theorem Own.rowLst {n : Nat} (h : Own E w (Hp.row e 1 v n xs :: L)) : Own E w (Hp.lst e v xs :: L) := by
  refine h.imp ?_
  rintro x ⟨hl, ⟨rfl, rfl, hx⟩ | ⟨g, cap, cur, rfl, hm, h3, h4, h5, h6⟩⟩
  · have : xs = [] := List.eq_nil_of_length_eq_zero (by simpa using hl)
    subst this
    exact ⟨none, 0, rfl, Nat.le_refl _, Nat.zero_le _, .inl ⟨rfl, rfl, hx⟩⟩
  · have hl' : n = xs.length := by omega
    subst hl'
    exact ⟨_, cap, rfl, h3, h4, .inr ⟨g, cur, rfl, by omega, by simpa using h6, hm⟩⟩
/-- A block is a list of its first elements. -/
theorem Own.mtoLst {g : Nat} {cur : Array Value} (h : Own E w (Hp.mk g e cur :: L)) (c : Nat) (hc : c ≤ cur.size) (hm : c ≤ maxLen) (hx : xs.length ≤ c) (ht : cur.toList.take xs.length = xs) :
    Own E w (Hp.lst e (.slice (some ⟨g, 0, none⟩) xs.length c) xs :: L) :=
  h.imp fun _ hx' => ⟨_, c, rfl, hx, hm, .inr ⟨g, cur, rfl, hc, ht, hx'⟩⟩
/-- Its room may be cut back. -/
theorem Own.lstClip {A : Option Addr} {n c : Nat} (h : Own E w (Hp.lst e (.slice A n c) xs :: L)) : n = xs.length ∧ Own E w (Hp.lst e (.slice A n n) xs :: L) := by
  obtain ⟨A', c', hv, hc, hm, hf⟩ := h.lstForm
  injection hv with e1 e2 e3
  subst e1 e2 e3
  refine ⟨rfl, ?_⟩
  rcases hf with ⟨h1, h2, ho⟩ | ⟨g, cur, h1, h2, h3, ho⟩
  · subst h1
    exact ho.emptyLst e A
  · subst h1
    exact ho.mtoLst xs.length (by omega) (by omega) (Nat.le_refl _) h3
theorem Own.lstCell {A : Option Addr} {n c : Nat} (h : Own E w (Hp.lst e (.slice A n c) xs :: L)) (j : Nat) (u : Value) (hj : xs[j]? = some u) :
    ∃ g, A = some ⟨g, 0, none⟩ ∧ w.cell? ⟨g, j, none⟩ = some u ∧ w.frozen? ⟨g, j, none⟩ = false := by
  obtain ⟨A', c', hv, hc, hm, hf⟩ := h.lstForm
  injection hv with e1 e2 e3
  subst e1
  have hlt : j < xs.length := (List.getElem?_eq_some_iff.1 hj).1
  rcases hf with ⟨h1, h2, ho⟩ | ⟨g, cur, h1, h2, h3, ho⟩
  · subst h1; simp at hj
  · refine ⟨g, h1, ?_, ho.mfrozen j (by omega)⟩
    rw [ho.mcell]
    rw [← h3, List.getElem?_take, if_pos hlt] at hj
    simpa using hj
theorem Own.lstRdC {A : Option Addr} {n c : Nat} (h : Own E w (Hp.lst e (.slice A n c) xs :: L)) : RdC w A xs := fun hne => by
  obtain ⟨u, xs', rfl⟩ : ∃ u xs', xs = u :: xs' := by
    cases xs with
    | nil => exact absurd rfl hne
    | cons u xs' => exact ⟨u, xs', rfl⟩
  obtain ⟨g, hA, _, _⟩ := h.lstCell 0 u rfl
  refine ⟨_, hA, fun j u hu => ?_⟩
  obtain ⟨g', hA', hc, _⟩ := h.lstCell j u hu
  rw [hA] at hA'
  injection hA' with hA'
  injection hA' with hA'
  subst hA'
  rw [add_eq, Nat.zero_add]; exact hc
/-- In memory that is lent. -/
theorem lst_rds {α : Type} {f : α → Value} {l : List α} {A : Option Addr} {n c : Nat} {a : Ph} (h : Hp.lst e (.slice A n c) (l.map f) a) : Rds a 1 (fun x => [f x]) A n l ∧ n ≤ c ∧ c ≤ maxLen ∧ n = l.length := by
  obtain ⟨A', c', hv, hc, hm, hf⟩ := h
  injection hv with e1 e2 e3
  subst e1 e2 e3
  rw [List.length_map] at *
  refine ⟨⟨rfl, fun _ => rfl, fun k hk => ?_⟩, hc, hm, rfl⟩
  rcases hf with ⟨h1, h2, ho⟩ | ⟨g, cur, h1, h2, h3, fr, hfr, ho⟩
  · have : l = [] := List.map_eq_nil_iff.1 h1
    subst this; cases hk
  · subst h1 ho
    refine ⟨g, 0, rfl, fun j v hv => ?_⟩
    have hj : j = 0 := by
      have := (List.getElem?_eq_some_iff.1 hv).1
      simpa using this
    subst hj
    have hv' : v = f l[k] := by simpa using hv.symm
    subst hv'
    have h4 : (l.map f)[k]? = some (f l[k]) := by rw [List.getElem?_map, List.getElem?_eq_getElem hk]; rfl
    rw [← h3, List.getElem?_take, if_pos hk] at h4
    simp only [Ph.cell, Ph.one, Nat.zero_add, Nat.mul_one, Nat.add_zero, if_true, Option.isSome_none]
    simpa using h4
/-- append(v, x...), v owned. -/
theorem lst_append {t ty : TypeId} {z : Value} {bytes : Nat} (ht : P.underlying t = some (.slice e)) (hinfo : (P.info? e).map (fun i => (i.zero, i.size, i.bytes)) = some (some z, 1, bytes))
    (hzs : z.cells.size = 1) (h : Own E w (Hp.lst e v xs :: L)) (A : Option Addr) (m c : Nat) (news : List Value) (hl : news.length = m) (hr : RdC w A news) (h1 : ∀ u ∈ news, u.oneCell' = true)
    (h63 : xs.length + m ≤ maxLen) (hbytes : (xs.length + m) * bytes ≤ 140737488355328) :
    ∃ v' w', (Builtin.append_ #[t, t] ty #[v, .slice A m c]).run P w = .ok v' w' ∧ Own E w' (Hp.lst e v' (xs ++ news) :: L) := by
  obtain ⟨i, hi, hzz⟩ := Option.map_eq_some_iff.1 hinfo
  simp only [Prod.mk.injEq] at hzz
  obtain ⟨hz, hsize, hby⟩ := hzz
  obtain ⟨A0, c0, rfl, hc, hm, hf⟩ := h.lstForm
  by_cases hm0 : m = 0
  · subst hm0
    have hn0 : news = [] := List.eq_nil_of_length_eq_zero hl
    subst hn0
    refine ⟨.slice A0 xs.length c0, w, ?_, by rw [List.append_nil]; exact h⟩
    cases A with
    | none => cases A0 <;> simp [Builtin.append_, run_underlying ht, sizeOf, typeInfo, hi, Builtin.lenOf, Builtin.firstCells, hc, storeCells]
    | some ad =>
      have hfc := run_firstCells_some (P := P) w i.size 0 ad 0 c [] (by simp) (by simp)
      cases A0 <;> simp [Builtin.append_, run_underlying ht, sizeOf, typeInfo, hi, Builtin.lenOf, hc, storeCells, hfc]
  · obtain ⟨ad, rfl, hcells⟩ : ∃ ad, A = some ad ∧ ∀ j u, news[j]? = some u → w.cell? (ad.add j) = some u :=
      hr (by intro e; subst e; simp at hl; omega)
    have hl' : news.length = m * i.size := by rw [hsize]; omega
    have hsmall : xs.length + m ≤ 9223372036854775807 := by simp only [maxLen] at h63; omega
    -- a new block
    have grown : ∀ A1 : Addr, A0 = some A1 → (∀ j u, xs[j]? = some u → w.cell? (A1.add j) = some u) → c0 < xs.length + m → Own E w L →
        ∃ v' w', (Builtin.append_ #[t, t] ty #[.slice A0 xs.length c0, .slice (some ad) m c]).run P w = .ok v' w' ∧ Own E w' (Hp.lst e v' (xs ++ news) :: L) := by
      rintro A1 rfl holds hlt ho
      have hrun := run_append_grow (P := P) w t ty e i z ht hi hz A1 xs.length c0 xs (by rw [hsize]; omega) holds ad m c news hl' hcells hlt (by omega) (growslice_fits (by omega) (by rw [hby]; exact hbytes))
      have hge := grownCap_ge w (xs.length + m) c0 e
      have hcm2 : grownCap w (xs.length + m) c0 e ≤ maxLen := grownCap_le_maxLen w (xs.length + m) c0 e h63
      have hlen : xs.length + m = (xs ++ news).length := by rw [List.length_append, hl]
      refine ⟨_, _, hrun, ?_⟩
      rw [hlen] at hge hcm2 ⊢
      refine Own.mtoLst ((ho.drew.alloc _).toMk) _ ?_ hcm2 hge ?_
      · simp only [Array.size_append, List.size_toArray, size_zeroCells, hzs, hl, List.length_append] at hge ⊢
        omega
      · rw [Array.toList_append]
        have e8 : (xs.toArray ++ news.toArray).toList = xs ++ news := by simp
        rw [e8]
        exact List.take_left
    rcases hf with ⟨rfl, rfl, ho⟩ | ⟨g, cur, rfl, hcs, htake, ho⟩
    · cases A0 with
      | none =>
        obtain ⟨v', w1, hrun, h2, -⟩ := sl_append (P := P) (ty := ty) ht hinfo hzs (by omega) (ho.nilRow e 1) (some ad) m c news (by omega) (fun _ => ⟨ad, rfl, hcells⟩) h1 (by simpa using h63) (by simpa using hbytes)
        exact ⟨v', w1, hrun, by simpa using h2.rowLst⟩
      | some A1 => exact grown A1 rfl (by simp) (by simp; omega) ho
    · by_cases hroom : xs.length + m ≤ c0
      · have hfit : xs.length * i.size + news.length ≤ cur.size := by rw [hsize]; omega
        have hrun := run_append_roomM (P := P) (ty := ty) (sLen := xs.length) (sCap := c0) ht hi ho ad m c news hl' hcells h1 hroom hfit
        have hlen : xs.length + m = (xs ++ news).length := by rw [List.length_append, hl]
        refine ⟨_, _, hrun, ?_⟩
        rw [hlen] at hroom ⊢
        refine Own.mtoLst (ho.msetCells news (xs.length * i.size)) c0 (by rw [putArr_size]; exact hcs) hm hroom ?_
        have e8 := putArr_splice cur.toList news (xs.length * i.size) (by simpa using hfit)
        have e9 : cur.toList.toArray = cur := by simp
        rw [e9] at e8
        rw [e8]
        unfold splice
        rw [hsize, Nat.mul_one, htake, ← List.append_assoc, List.toList_toArray]
        exact List.take_left
      · refine grown ⟨g, 0, none⟩ rfl (fun j u hu => ?_) (by omega) ho.drop
        obtain ⟨g', hA, hc', _⟩ := h.lstCell j u hu
        injection hA with hA
        injection hA with hA
        subst hA
        rw [add_eq, Nat.zero_add]; exact hc'
/-- append(v, x, y ..): the new elements lie in a block of their own. -/
theorem lst_append_new {t ty : TypeId} {z : Value} {bytes : Nat} (ht : P.underlying t = some (.slice e)) (hinfo : (P.info? e).map (fun i => (i.zero, i.size, i.bytes)) = some (some z, 1, bytes))
    (hzs : z.cells.size = 1) (h : Own E w (Hp.lst e v xs :: L)) (news : Array Value) (m : Nat) (hl : news.size = m)
    (h1 : ∀ u ∈ news.toList, u.oneCell' = true) (h63 : xs.length + m ≤ maxLen) (hbytes : (xs.length + m) * bytes ≤ 140737488355328) :
    ∃ v' w', (Builtin.append_ #[t, t] ty #[v, .slice (some ⟨w.heap.size, 0, none⟩) m m]).run P (w.alloc (.cells news e)) = .ok v' w' ∧ Own E w' (Hp.lst e v' (xs ++ news.toList) :: L) := by
  have h2 := h.alloc (.cells news e)
  have hr : RdC (w.alloc (.cells news e)) (some ⟨w.heap.size, 0, none⟩) news.toList := RdC.of_block h2.at_ _ (fun j u hu => by simpa using hu)
  obtain ⟨v', w', hrun, h3⟩ := lst_append (P := P) (ty := ty) ht hinfo hzs h2.f1 (some ⟨w.heap.size, 0, none⟩) m m news.toList (by simpa using hl) hr h1 h63 hbytes
  exact ⟨v', w', hrun, h3.f1.drop⟩
end
/-- A part of a list in memory. -/
theorem Rds.part {α : Type} {S : Ph} {f : α → Value} {b off : Nat} {n : Nat} {xs : List α} (h : Rds S 1 (fun x => [f x]) (some ⟨b, off, none⟩) n xs) (i k : Nat) (hk : i + k ≤ n) :
    Rds S 1 (fun x => [f x]) (some ⟨b, off + i, none⟩) k ((xs.drop i).take k) := by
  refine ⟨by have := h.1; simp; omega, fun _ => rfl, fun j hj => ⟨b, off + i, rfl, fun q v hv => ?_⟩⟩
  have hj2 : j < k := by simp at hj; omega
  have hl : i + j < xs.length := by have := h.1; omega
  obtain ⟨b', off', e, hc⟩ := h.2.2 (i + j) hl
  injection e with e
  injection e with e1 e2
  subst e1 e2
  have := hc q v (by simpa using hv)
  rw [show off + i + j * 1 + q = off + (i + j) * 1 + q by omega]
  exact this
theorem Rds.rdC {α : Type} {E w : World} {L : List Hp} {S : Ph} {f : α → Value} {A : Option Addr} {n : Nat} {xs : List α} (h : Rds S 1 (fun x => [f x]) A n xs) (hw : Own E w (Hp.ro S :: L)) : RdC w A (xs.map f) := by
  have h2 := (h.sub hw.sub).rdc
  have e : ∀ l : List α, l.flatMap (fun x => [f x]) = l.map f := fun l => by induction l <;> simp_all
  rw [e] at h2
  exact h2
end Go.Proofs.YtabibfabieghpaaGreatDoor
