/- Owned lists: append tells whether the list stays where it is; a cell is written over; families of owned lists. No program in sight. -/
import Derived.Test.YtgedjkcpgagnbaaDoorLst
namespace Go.Proofs.YtgedjkcpgagnbaaDoor
open Go.RowKit
section
variable {P : Program} {E w w' : World} {L : List Hp} {e : TypeId} {v : Value} {xs : List Value}
/-- append(v, x...), v owned: it stays where it is, or the old one stays as it was. -/
theorem lst_append_or {t ty : TypeId} {z : Value} {bytes A0n c0 : Nat} {A0 : Option Addr} (ht : P.underlying t = some (.slice e)) (hinfo : (P.info? e).map (fun i => (i.zero, i.size, i.bytes)) = some (some z, 1, bytes))
    (hzs : z.cells.size = 1) (h : Own E w (Hp.lst e (.slice A0 A0n c0) xs :: L)) (A : Option Addr) (m c : Nat) (news : List Value) (hl : news.length = m) (hr : RdC w A news) (h1 : ∀ u ∈ news, u.oneCell' = true) (hm0 : 0 < m)
    (h63 : xs.length + m ≤ maxLen) (hbytes : (xs.length + m) * bytes ≤ 140737488355328) :
    ∃ A' c' w', (Builtin.append_ #[t, t] ty #[.slice A0 A0n c0, .slice A m c]).run P w = .ok (.slice A' (A0n + m) c') w' ∧
      ((A' = A0 ∧ Own E w' (Hp.lst e (.slice A' (A0n + m) c') (xs ++ news) :: L)) ∨ Own E w' (Hp.lst e (.slice A' (A0n + m) c') (xs ++ news) :: Hp.lst e (.slice A0 A0n c0) xs :: L)) := by
  obtain ⟨i, hi, hzz⟩ := Option.map_eq_some_iff.1 hinfo
  simp only [Prod.mk.injEq] at hzz
  obtain ⟨hz, hsize, hby⟩ := hzz
  obtain ⟨A0', c0', hv, hc, hm, hf⟩ := h.lstForm
  injection hv with q1 q2 q3
  subst q1 q2 q3
  obtain ⟨ad, rfl, hcells⟩ : ∃ ad, A = some ad ∧ ∀ j u, news[j]? = some u → w.cell? (ad.add j) = some u :=
    hr (by intro e; subst e; simp at hl; omega)
  have hl' : news.length = m * i.size := by rw [hsize]; omega
  have hsmall : xs.length + m ≤ 9223372036854775807 := by simp only [maxLen] at h63; omega
  have hlen : xs.length + m = (xs ++ news).length := by rw [List.length_append, hl]
  have grown : ∀ A1 : Addr, A0 = some A1 → (∀ j u, xs[j]? = some u → w.cell? (A1.add j) = some u) → c0 < xs.length + m →
      ∃ A' c' w', (Builtin.append_ #[t, t] ty #[.slice A0 xs.length c0, .slice (some ad) m c]).run P w = .ok (.slice A' (xs.length + m) c') w' ∧ Own E w' (Hp.lst e (.slice A' (xs.length + m) c') (xs ++ news) :: Hp.lst e (.slice A0 xs.length c0) xs :: L) := by
    rintro A1 rfl holds hlt
    have hrun := run_append_grow (P := P) w t ty e i z ht hi hz A1 xs.length c0 xs (by rw [hsize]; omega) holds ad m c news hl' hcells hlt (by omega) (growslice_fits (by omega) (by rw [hby]; exact hbytes))
    have hge := grownCap_ge w (xs.length + m) c0 e
    have hcm2 : grownCap w (xs.length + m) c0 e ≤ maxLen := grownCap_le_maxLen w (xs.length + m) c0 e h63
    refine ⟨_, _, _, hrun, ?_⟩
    rw [hlen] at hge hcm2 ⊢
    refine Own.mtoLst ((h.drew.alloc _).toMk) _ ?_ hcm2 hge ?_
    · simp only [Array.size_append, List.size_toArray, size_zeroCells, hzs, hl, List.length_append] at hge ⊢
      omega
    · rw [Array.toList_append]
      have e8 : (xs.toArray ++ news.toArray).toList = xs ++ news := by simp
      rw [e8]
      exact List.take_left
  rcases hf with ⟨rfl, rfl, ho⟩ | ⟨g, cur, rfl, hcs, htake, ho⟩
  · cases A0 with
    | none =>
      obtain ⟨v', w1, hrun, h2, -⟩ := sl_append (P := P) (ty := ty) ht hinfo hzs (by omega) (ho.nilRow e 1) (some ad) m c news (by omega) (fun _ => ⟨ad, rfl, hcells⟩) h1 (by simpa using h63) (by simpa using hbytes)
      have h3 : Own E w1 (Hp.lst e v' ([] ++ news) :: L) := by simpa using h2.rowLst
      obtain ⟨A', c', rfl, -⟩ := h3.lstSlice
      rw [List.length_append, hl] at hrun h3
      exact ⟨A', c', w1, hrun, .inr (h3.emptyLst e none).f1⟩
    | some A1 =>
      obtain ⟨A', c', w', hrun, h2⟩ := grown A1 rfl (by simp) (by simp; omega)
      exact ⟨A', c', w', hrun, .inr h2⟩
  · by_cases hroom : xs.length + m ≤ c0
    · have hfit : xs.length * i.size + news.length ≤ cur.size := by rw [hsize]; omega
      have hrun := run_append_roomM (P := P) (ty := ty) (sLen := xs.length) (sCap := c0) ht hi ho ad m c news hl' hcells h1 hroom hfit
      refine ⟨_, _, _, hrun, .inl ⟨rfl, ?_⟩⟩
      rw [hlen] at hroom ⊢
      refine Own.mtoLst (ho.msetCells news (xs.length * i.size)) c0 (by rw [putArr_size]; exact hcs) hm hroom ?_
      have e8 := putArr_splice cur.toList news (xs.length * i.size) (by simpa using hfit)
      have e9 : cur.toList.toArray = cur := by simp
      rw [e9] at e8
      rw [e8]
      unfold splice
      rw [hsize, Nat.mul_one, htake, ← List.append_assoc, List.toList_toArray]
      exact List.take_left
    · obtain ⟨A', c', w', hrun, h2⟩ := grown ⟨g, 0, none⟩ rfl (fun j u hu => by
        obtain ⟨g', hA, hc', _⟩ := h.lstCell j u hu
        injection hA with hA
        injection hA with hA
        subst hA
        rw [add_eq, Nat.zero_add]; exact hc') (by omega)
      exact ⟨A', c', w', hrun, .inr h2⟩
/-- append(v, x): the new one lies in a block of its own. -/
theorem lst_append_one {t ty : TypeId} {z : Value} {bytes n c : Nat} {A : Option Addr} (ht : P.underlying t = some (.slice e)) (hinfo : (P.info? e).map (fun i => (i.zero, i.size, i.bytes)) = some (some z, 1, bytes))
    (hzs : z.cells.size = 1) (h : Own E w (Hp.lst e (.slice A n c) xs :: L)) (u : Value) (h1 : u.oneCell' = true) (h63 : xs.length + 1 ≤ maxLen) (hbytes : (xs.length + 1) * bytes ≤ 140737488355328) :
    ∃ A' c' w', (Builtin.append_ #[t, t] ty #[.slice A n c, .slice (some ⟨w.heap.size, 0, none⟩) 1 1]).run P (w.alloc (.cells #[u] e)) = .ok (.slice A' (n + 1) c') w' ∧
      ((A' = A ∧ Own E w' (Hp.lst e (.slice A' (n + 1) c') (xs ++ [u]) :: L)) ∨ Own E w' (Hp.lst e (.slice A' (n + 1) c') (xs ++ [u]) :: Hp.lst e (.slice A n c) xs :: L)) := by
  have h2 := h.alloc (.cells #[u] e)
  have hr : RdC (w.alloc (.cells #[u] e)) (some ⟨w.heap.size, 0, none⟩) [u] := RdC.of_block h2.at_ _ (fun j u hu => by simpa using hu)
  obtain ⟨A', c', w', hrun, h3⟩ := lst_append_or (P := P) (ty := ty) ht hinfo hzs h2.f1 (some ⟨w.heap.size, 0, none⟩) 1 1 [u] rfl hr (by simpa using h1) (by omega) h63 hbytes
  refine ⟨A', c', w', hrun, ?_⟩
  rcases h3 with ⟨rfl, h3⟩ | h3
  · exact .inl ⟨rfl, h3.f1.drop⟩
  · exact .inr (h3.f2.drop)
/-- A cell is written over. -/
theorem Own.lstSet {A : Option Addr} {n c : Nat} (h : Own E w (Hp.lst e (.slice A n c) xs :: L)) (j : Nat) (hj : j < n) (u : Value) :
    ∃ g, A = some ⟨g, 0, none⟩ ∧ w.cell? ⟨g, j, none⟩ = some (xs.getD j u) ∧ w.frozen? ⟨g, j, none⟩ = false ∧ Own E (w.setCell ⟨g, j, none⟩ u) (Hp.lst e (.slice A n c) (xs.set j u) :: L) := by
  obtain ⟨A', c', hv, hc, hm, hf⟩ := h.lstForm
  injection hv with e1 e2 e3
  subst e1 e2 e3
  rcases hf with ⟨rfl, _, _⟩ | ⟨g, cur, rfl, hcs, htake, ho⟩
  · simp at hj
  · obtain ⟨g', hA, hcell, hfz⟩ := h.lstCell j xs[j] (List.getElem?_eq_getElem hj)
    injection hA with hA
    injection hA with hA
    subst hA
    refine ⟨g, rfl, by rw [hcell]; simp [List.getD, hj], hfz, ?_⟩
    have h7 := (ho.mset j u).mtoLst (xs := xs.set j u) c (by simpa using hcs) hm (by simpa using hc) (by rw [List.length_set, Array.toList_setIfInBounds, List.take_set, htake])
    rw [List.length_set] at h7
    exact h7
end
/- FAMILIES -/
section
variable {E w : World} {L : List Hp}
theorem all_mem {α : Type} {f : α → Hp} : ∀ {l : List α} {h : Ph}, Hp.all (l.map f) h → ∀ x ∈ l, ∃ a : Ph, (∀ k o, a k = some o → h k = some o) ∧ f x a
  | [], _, _, _, hx => by cases hx
  | y :: l, h, hh, x, hx => by
    obtain ⟨a, b, hd, rfl, hA, hL⟩ := hh
    rcases List.mem_cons.1 hx with rfl | hx
    · exact ⟨a, fun k o hk => Ph.join_some hk, hA⟩
    · obtain ⟨c, hc, hf⟩ := all_mem hL x hx
      exact ⟨c, fun k o hk => by rw [Ph.join_comm hd]; exact Ph.join_some (hc k o hk), hf⟩
theorem Own.fact {A : Hp} {p : Prop} (h : Own E w (A :: L)) (hp : ∀ a, A a → p) : p := by
  obtain ⟨_, _, _, _, _, a, _, _, _, hA, _⟩ := h
  exact hp a hA
theorem lst_slice {e : TypeId} {v : Value} {xs : List Value} {a : Ph} (h : Hp.lst e v xs a) : ∃ A c, v = .slice A xs.length c ∧ xs.length ≤ c ∧ c ≤ maxLen := by
  obtain ⟨A, c, h1, h2, h3, _⟩ := h
  exact ⟨A, c, h1, h2, h3⟩
theorem Rds.pre {α : Type} {S : Ph} {f : α → Value} {A : Option Addr} {n : Nat} {xs : List α} (h : Rds S 1 (fun x => [f x]) A n xs) (k : Nat) (hk : k ≤ n) : Rds S 1 (fun x => [f x]) A k (xs.take k) := by
  refine ⟨by have := h.1; simp; omega, fun _ => rfl, fun j hj => ?_⟩
  have hj2 : j < xs.length := by simp at hj; omega
  obtain ⟨b, off, e, hc⟩ := h.2.2 j hj2
  exact ⟨b, off, e, fun q v hv => hc q v (by simpa using hv)⟩
end
end Go.Proofs.YtgedjkcpgagnbaaDoor
