/- What the builtins do to the parts of memory that are owned. No program in sight. -/
import Derived.Test.YtbhmmkdbflbolaaSl
import Derived.Laws.CopyOwn
import Derived.Maps.AppendAt
import Derived.Lib.BufferWrite
import Derived.WalkSpells
namespace Go.Proofs.Ytbhmmkdbflbolaa
open Go.RowKit
section
variable {P : Program} {E w w' : World} {L : List Hp}

/-- The cells of a slice as the world holds them. -/
def RdC (w : World) (A : Option Addr) (news : List Value) : Prop := news ≠ [] → ∃ ad, A = some ad ∧ ∀ j u, news[j]? = some u → w.cell? (ad.add j) = some u
theorem RdC.nil (w : World) (A : Option Addr) : RdC w A [] := fun h => absurd rfl h
theorem add_eq (b off j : Nat) : (⟨b, off, none⟩ : Addr).add j = ⟨b, off + j, none⟩ := by
  unfold Addr.add; by_cases h : j = 0 <;> simp [h]
theorem RdC.of_block {b off : Nat} {cs : Array Value} {t : TypeId} {fr : Nat × Nat} (h : w.heap[b]? = some (.cells cs t fr)) (news : List Value) (hn : ∀ j u, news[j]? = some u → cs[off + j]? = some u) :
    RdC w (some ⟨b, off, none⟩) news := fun _ => ⟨_, rfl, fun j u hu => by
  rw [add_eq, cell_of_row w b (off + j) cs t fr h]
  exact hn j u hu⟩
theorem Own.rdc {b : Nat} {t : TypeId} {cs : Array Value} (h : Own E w (Hp.blk b t cs :: L)) (off : Nat) (news : List Value) (hn : ∀ j u, news[j]? = some u → cs[off + j]? = some u) :
    RdC w (some ⟨b, off, none⟩) news := RdC.of_block h.at_ news hn
theorem flatMap_get {α : Type} {en : α → List Value} {size : Nat} (hen : ∀ x, (en x).length = size) : ∀ (xs : List α) (j : Nat) (u : Value), (xs.flatMap en)[j]? = some u →
    ∃ k i, ∃ hk : k < xs.length, j = k * size + i ∧ (en xs[k])[i]? = some u
  | [], j, u, h => by simp at h
  | x :: xs, j, u, h => by
    rw [List.flatMap_cons] at h
    by_cases hj : j < (en x).length
    · rw [List.getElem?_append_left hj] at h
      exact ⟨0, j, by simp, by simp, by simpa using h⟩
    · rw [List.getElem?_append_right (by omega), hen] at h
      obtain ⟨k, i, hk, e, hu⟩ := flatMap_get hen xs _ u h
      rw [hen] at hj
      exact ⟨k + 1, i, by simp; exact hk, by rw [Nat.add_mul]; omega, by simpa using hu⟩
theorem flatMap_at {α : Type} {en : α → List Value} {size : Nat} (hen : ∀ x, (en x).length = size) : ∀ (xs : List α) (k : Nat) (hk : k < xs.length) (j : Nat) (v : Value), (en xs[k])[j]? = some v → (xs.flatMap en)[k * size + j]? = some v
  | [], _, hk, _, _, _ => by cases hk
  | x :: xs, 0, _, j, v, hv => by
    have hj : j < (en x).length := (List.getElem?_eq_some_iff.1 hv).1
    rw [List.flatMap_cons, List.getElem?_append_left (by omega)]
    simpa using hv
  | x :: xs, k + 1, hk, j, v, hv => by
    have e0 : (k + 1) * size = k * size + size := Nat.succ_mul k size
    rw [List.flatMap_cons, List.getElem?_append_right (by rw [hen]; omega), hen]
    have e1 : (k + 1) * size + j - size = k * size + j := by omega
    rw [e1]
    exact flatMap_at hen xs k (by simpa using hk) j v (by simpa using hv)
theorem Rds.rdc {α : Type} {size : Nat} {en : α → List Value} {A : Option Addr} {n : Nat} {xs : List α} (h : Rds (Ph.of w) size en A n xs) : RdC w A (xs.flatMap en) := fun hne => by
  have hpos : 0 < xs.length := by
    cases xs with
    | nil => exact absurd rfl hne
    | cons _ _ => simp
  obtain ⟨b, off, rfl, _⟩ := h.2.2 0 hpos
  refine ⟨_, rfl, fun j u hu => ?_⟩
  obtain ⟨k, i, hk, rfl, hu'⟩ := flatMap_get h.2.1 xs j u hu
  obtain ⟨b', off', e, hc⟩ := h.2.2 k hk
  injection e with e
  injection e with e1 e2
  subst e1 e2
  rw [add_eq, ← Nat.add_assoc]
  exact hc i u hu'

theorem set_mid (A B : List Value) (x u : Value) (k : Nat) (hk : A.length = k) : (A ++ x :: B).toArray.setIfInBounds k u = (A ++ u :: B).toArray := by
  subst hk; simp
theorem get_mid (A B : List Value) (x : Value) (k : Nat) (hk : A.length = k) : (A ++ x :: B).toArray[k]? = some x := by
  subst hk; simp
/- A ROW THAT THE CALL OWNS: nil, or the first n elements of a block. -/
def Hp.row (e : TypeId) (size : Nat) (v : Value) (n : Nat) (xs : List Value) : Hp := fun h =>
  xs.length = n * size ∧
  ((v = .slice none 0 0 ∧ n = 0 ∧ h = Ph.emp) ∨
   ∃ g cap cur, v = .slice (some ⟨g, 0, none⟩) n cap ∧ h = Ph.one g (.cells cur e (0, 0)) ∧ n ≤ cap ∧ cap ≤ maxLen ∧ cur.size = cap * size ∧ cur.toList.take (n * size) = xs)
theorem Own.nilRow (h : Own E w L) (e : TypeId) (size : Nat) : Own E w (Hp.row e size (.slice none 0 0) 0 [] :: L) :=
  (Own.emp.2 h).imp fun _ hx => ⟨by simp, .inl ⟨rfl, rfl, hx⟩⟩
/-- A block is a row of its first n elements. -/
theorem Own.toRow {g : Nat} {e : TypeId} {cur : Array Value} (h : Own E w (Hp.blk g e cur :: L)) (size n cap : Nat) (hn : n ≤ cap) (hm : cap ≤ maxLen) (hs : cur.size = cap * size) :
    Own E w (Hp.row e size (.slice (some ⟨g, 0, none⟩) n cap) n (cur.toList.take (n * size)) :: L) :=
  h.imp fun x hx => ⟨by
    have : n * size ≤ cap * size := Nat.mul_le_mul_right _ hn
    simp; omega, .inr ⟨g, cap, cur, rfl, hx, hn, hm, hs, rfl⟩⟩
theorem Own.owns {e : TypeId} {size : Nat} {v : Value} {n : Nat} {xs : List Value} (h : Own E w (Hp.row e size v n xs :: L)) : w.ownsRow 0 e size v n xs := by
  obtain ⟨_, _, _, _, hx, a, b, _, rfl, ⟨hl, hA⟩, _⟩ := h
  refine ⟨hl, ?_⟩
  rcases hA with ⟨h1, h2, _⟩ | ⟨g, cap, cur, h1, rfl, h3, h4, h5, h6⟩
  · exact .inl ⟨h1, h2⟩
  · exact .inr ⟨g, cap, cur, h1, Nat.zero_le _, hx g _ (Ph.join_some (by simp [Ph.one])), h3, h4, h5, h6⟩
/-- What the row is: nil, or a block that is known whole. -/
theorem Own.rowForm {e : TypeId} {size : Nat} {v : Value} {n : Nat} {xs : List Value} (h : Own E w (Hp.row e size v n xs :: L)) :
    xs.length = n * size ∧ ((v = .slice none 0 0 ∧ n = 0 ∧ xs = [] ∧ Own E w L) ∨
      ∃ g cap cur, v = .slice (some ⟨g, 0, none⟩) n cap ∧ n ≤ cap ∧ cap ≤ maxLen ∧ cur.size = cap * size ∧ cur.toList.take (n * size) = xs ∧ Own E w (Hp.blk g e cur :: L)) := by
  have hd := h.drop
  obtain ⟨h1, h2, h3, _, hx, a, b, hab, rfl, ⟨hl, hA⟩, hL⟩ := h
  refine ⟨hl, ?_⟩
  rcases hA with ⟨e1, e2, _⟩ | ⟨g, cap, cur, e1, rfl, e3, e4, e5, e6⟩
  · subst e2
    exact .inl ⟨e1, rfl, List.eq_nil_of_length_eq_zero (by simpa using hl), hd⟩
  · exact .inr ⟨g, cap, cur, e1, e3, e4, e5, e6, h1, h2, h3, _, hx, _, b, hab, rfl, rfl, hL⟩
theorem Own.rowRds {α : Type} {e : TypeId} {size : Nat} {en : α → List Value} (hen : ∀ x, (en x).length = size) {A : Option Addr} {n c : Nat} {xs : List α} (h : Own E w (Hp.row e size (.slice A n c) n (xs.flatMap en) :: L)) (hn : xs.length = n) :
    Rds (Ph.of w) size en A n xs := by
  obtain ⟨_, hf⟩ := h.rowForm
  refine ⟨hn, hen, fun k hk => ?_⟩
  rcases hf with ⟨_, h0, _, _⟩ | ⟨g, cap, cur, hv, h3, _, h5, h6, ho⟩
  · omega
  · injection hv with hA hn' hc
    subst hA
    refine ⟨g, 0, rfl, fun j v hv => ?_⟩
    have hj : j < size := by rw [← hen xs[k]]; exact (List.getElem?_eq_some_iff.1 hv).1
    rw [Ph.of_cell, ho.cell]
    have hlt : k * size + j < n * size := by
      have : (k + 1) * size ≤ n * size := Nat.mul_le_mul_right _ (by omega)
      rw [Nat.add_mul] at this; omega
    have hget := flatMap_at hen xs k hk j v hv
    have h7 : cur.toList[k * size + j]? = some v := by
      rw [← h6, List.getElem?_take, if_pos hlt] at hget
      exact hget
    simpa using h7

theorem Own.setRow {g : Nat} {t : TypeId} {cs : Array Value} (h : Own E w (Hp.blk g t cs :: L)) (cs' : Array Value) : Own E (w.setRow g cs') (Hp.blk g t cs' :: L) :=
  h.turn rfl rfl rfl (setRow_heap w g cs cs' t _ h.at_) (fun k _ hne => setRow_other w g k cs' hne)

/-- copy(dst, src), dst within an owned block. -/
theorem sl_copy {dT sT ty elem : TypeId} (hu : P.underlying dT = some (.slice elem)) (hs : (P.info? elem).map (·.size) = some 1)
    {g off : Nat} {t : TypeId} {cur : List Value} (h : Own E w (Hp.blk g t cur.toArray :: L)) (dp sp : Option Addr) (dLen dCap sLen sCap : Nat) (cs : List Value) (hn : cs.length = Nat.min sLen dLen)
    (hd : 0 < cs.length → dp = some ⟨g, off, none⟩) (hsrc : RdC w sp cs) (hfit : off + cs.length ≤ cur.length) (h1 : ∀ v ∈ cs, v.oneCell' = true) :
    ∃ w', (Builtin.copy_ #[dT, sT] ty #[.slice dp dLen dCap, .slice sp sLen sCap]).run P w = .ok (goInt cs.length) w' ∧ Own E w' (Hp.blk g t (splice cur off cs).toArray :: L) := by
  by_cases h0 : cs.length = 0
  · obtain rfl : cs = [] := List.eq_nil_of_length_eq_zero h0
    exact ⟨w, run_copy_none (P := P) w dT sT ty elem dp sp dLen dCap sLen sCap hu hs (by simpa using hn.symm), by simpa [splice] using h⟩
  · obtain rfl := hd (by omega)
    obtain ⟨ad, rfl, hr⟩ := hsrc (by intro e; subst e; exact h0 rfl)
    refine ⟨_, run_copy_row (P := P) w dT sT ty elem g off dLen dCap ad sLen sCap cur.toArray t cs hu hs h.at_ hn hr (by simpa using hfit) h1, ?_⟩
    have := h.setRow (splice cur off cs).toArray
    simpa [splice] using this
/-- copy(dst, s), s a string. -/
theorem sl_copy_string {dT sT ty elem : TypeId} (hu : P.underlying dT = some (.slice elem)) (hs : (P.info? elem).map (·.size) = some 1)
    {g off : Nat} {t : TypeId} {cur : List Value} (h : Own E w (Hp.blk g t cur.toArray :: L)) (dLen dCap : Nat) (s : ByteArray) (hle : s.size ≤ dLen) (hfit : off + s.size ≤ cur.length) :
    ∃ w', (Builtin.copy_ #[dT, sT] ty #[.slice (some ⟨g, off, none⟩) dLen dCap, .string s]).run P w = .ok (goInt s.size) w' ∧ Own E w' (Hp.blk g t (splice cur off (Lib.byteCells s.data.toList)).toArray :: L) := by
  refine ⟨_, Lib.run_copy_row_string (P := P) w dT sT ty elem g off dLen dCap s cur.toArray t hu hs h.at_ hle (by simpa using hfit), ?_⟩
  have := h.setRow (splice cur off (Lib.byteCells s.data.toList)).toArray
  have e : (Lib.byteCells s.data.toList).length = s.size := by rw [Lib.byteCells_length, ← Lib.size_eq]
  simpa [splice, e] using this

/-- append(v, x...), v owned. -/
theorem sl_append {t ty e : TypeId} {z : Value} {size bytes : Nat} (ht : P.underlying t = some (.slice e)) (hinfo : (P.info? e).map (fun i => (i.zero, i.size, i.bytes)) = some (some z, size, bytes))
    (hzs : z.cells.size = size) (hsz : 0 < size) {v : Value} {n : Nat} {xs : List Value} (h : Own E w (Hp.row e size v n xs :: L))
    (A : Option Addr) (m c : Nat) (news : List Value) (hl : news.length = m * size) (hr : RdC w A news) (h1 : ∀ u ∈ news, u.oneCell' = true)
    (h63 : n + m ≤ maxLen) (hbytes : (n + m) * bytes ≤ 140737488355328) :
    ∃ v' w', (Builtin.append_ #[t, t] ty #[v, .slice A m c]).run P w = .ok v' w' ∧ Own E w' (Hp.row e size v' (n + m) (xs ++ news) :: L) ∧ (v' = .slice none 0 0 ↔ v = .slice none 0 0 ∧ m = 0) := by
  obtain ⟨i, hi, hzz⟩ := Option.map_eq_some_iff.1 hinfo
  simp only [Prod.mk.injEq] at hzz
  obtain ⟨hz, hsize, hby⟩ := hzz
  have ho := h.owns
  rcases A with _ | ad
  · have hn0 : news = [] := by
      rcases List.eq_nil_or_concat news with e | ⟨_, _, e⟩
      · exact e
      · obtain ⟨ad, e2, _⟩ := hr (by rw [e]; simp)
        cases e2
    subst hn0
    have hm : m = 0 := by
      rcases Nat.eq_zero_or_pos m with e | e
      · exact e
      · have := Nat.mul_pos e hsz
        simp at hl; omega
    subst hm
    refine ⟨v, w, ?_, by simpa using h, by simp⟩
    rcases ho.2 with ⟨rfl, rfl⟩ | ⟨g, cap, cur, rfl, _, _, hnc, _⟩
    · simp [Builtin.append_, run_underlying ht, sizeOf, typeInfo, hi, Builtin.lenOf, Builtin.firstCells]
    · simp [Builtin.append_, run_underlying ht, sizeOf, typeInfo, hi, Builtin.lenOf, Builtin.firstCells, hnc, storeCells]
  · have hcells : ∀ j u, news[j]? = some u → w.cell? (ad.add j) = some u := fun j u hu => by
      obtain ⟨ad', e, hc⟩ := hr (by intro e; subst e; simp at hu)
      injection e with e
      subst e
      exact hc j u hu
    obtain ⟨v', w', hrun, h2, h3, h4, h5⟩ := run_append_own_at (P := P) w 0 t ty e i z size bytes ht hi hz hsize hby hzs hsz v n xs ho ad m c news hl hcells h1 h63 hbytes (Nat.zero_le _)
    refine ⟨v', w', hrun, ?_, h4⟩
    refine h.change h3.os h3.tape h3.output ?_
    rintro a ⟨_, ha⟩ hx
    rcases h2.2 with ⟨e1, e2⟩ | ⟨g, cap, cur, e1, _, e3, e4, e5, e6, e7⟩
    · subst e1
      have hv0 := (h4.1 rfl).1
      have hap : a = Ph.emp := by
        rcases ha with ⟨_, _, e⟩ | ⟨g, cap, cur, e, _⟩
        · exact e
        · rw [hv0] at e; cases e
      subst hap
      refine ⟨Ph.emp, ⟨h2.1, .inl ⟨rfl, e2, rfl⟩⟩, fun k o hk => (by cases hk), fun k _ hlt => ⟨rfl, h3.block k hlt (by rw [hv0]; simp [Value.ownBlock])⟩⟩
    · subst e1
      refine ⟨Ph.one g (.cells cur e (0, 0)), ⟨h2.1, .inr ⟨g, cap, cur, rfl, rfl, e4, e5, e6, e7⟩⟩, fun k o hk => ?_, fun k hk hlt => ⟨?_, ?_⟩⟩
      · unfold Ph.one at hk
        split at hk
        · rename_i ek; subst ek; injection hk with hk; subst hk; exact e3
        · cases hk
      · unfold Ph.one
        rw [if_neg]
        rintro rfl
        rcases h5 with e8 | e8
        · rcases ha with ⟨e9, _⟩ | ⟨g2, cap2, cur2, e9, rfl, _⟩
          · rw [e9] at e8; simp [Value.ownBlock] at e8
          · rw [e9] at e8
            simp [Value.ownBlock] at e8
            subst e8
            simp [Ph.one] at hk
        · simp [Value.ownBlock] at e8; omega
      · refine h3.block k hlt ?_
        intro e8
        rcases ha with ⟨e9, _⟩ | ⟨g2, cap2, cur2, e9, rfl, _⟩
        · rw [e9] at e8; simp [Value.ownBlock] at e8
        · rw [e9] at e8
          simp [Value.ownBlock] at e8
          subst e8
          simp [Ph.one] at hk

/- THE LAWS FOR THE WALK: a builtin whose run is known. -/
variable {ops : Array Oper} {rest : List Oper} {o : Oper} {a : Act} {K : Act → World → Prop} {Q : Exit → Act → World → Prop} {v1 v2 r : Value} {dT sT : TypeId} {d s : Operand}
theorem wp_copy_run (hrun : (Builtin.copy_ #[dT, sT] o.type #[v1, v2]).run P w = .ok r w') (ho : o.op = .call { callee := .builtin .copy, args := #[d, s], argTypes := #[dT, sT] })
    (hd : a.eval d = v1) (hs : a.eval s = v2) (h : K (a.put o.dst r) w') : o.wp P a w K Q := by
  unfold Oper.wp execOp
  simp only [ho, resolve, invoke, builtin, Sem.run_bind, Sem.run_pure, Result.andThen_ok, List.map_toArray, List.map_cons, List.map_nil, hd, hs, hrun]
  exact h
theorem wp_append_run (hrun : (Builtin.append_ #[dT, sT] o.type #[v1, v2]).run P w = .ok r w') (ho : o.op = .call { callee := .builtin .append, args := #[d, s], argTypes := #[dT, sT] })
    (hd : a.eval d = v1) (hs : a.eval s = v2) (h : K (a.put o.dst r) w') : o.wp P a w K Q := by
  unfold Oper.wp execOp
  simp only [ho, resolve, invoke, builtin, Sem.run_bind, Sem.run_pure, Result.andThen_ok, List.map_toArray, List.map_cons, List.map_nil, hd, hs, hrun]
  exact h
theorem wpList_copy_run (hrun : (Builtin.copy_ #[dT, sT] o.type #[v1, v2]).run P w = .ok r w') (hgd : o.guard = none) (ho : o.op = .call { callee := .builtin .copy, args := #[d, s], argTypes := #[dT, sT] })
    (hd : a.eval d = v1) (hs : a.eval s = v2) (h : wpList P ops Q rest (a.put o.dst r) w') : wpList P ops Q (o :: rest) a w :=
  wpList_plain hgd fun _ hK => wp_copy_run hrun ho hd hs (hK _ _ h)
theorem wpList_append_run (hrun : (Builtin.append_ #[dT, sT] o.type #[v1, v2]).run P w = .ok r w') (hgd : o.guard = none) (ho : o.op = .call { callee := .builtin .append, args := #[d, s], argTypes := #[dT, sT] })
    (hd : a.eval d = v1) (hs : a.eval s = v2) (h : wpList P ops Q rest (a.put o.dst r) w') : wpList P ops Q (o :: rest) a w :=
  wpList_plain hgd fun _ hK => wp_append_run hrun ho hd hs (hK _ _ h)
theorem step_copy_run {X : Prop} (hrun : (Builtin.copy_ #[dT, sT] o.type #[v1, v2]).run P w = .ok r w') (hgd : o.guard = none) (ho : o.op = .call { callee := .builtin .copy, args := #[d, s], argTypes := #[dT, sT] })
    (hd : a.eval d = v1) (hs : a.eval s = v2) (h : K (a.put o.dst r) w') : if Region.wanted o (yielded ops a.tmps) = true then o.wp P a w K Q else X := by
  rw [if_pos (by simp [Region.wanted, hgd])]
  exact wp_copy_run hrun ho hd hs h
theorem step_append_run {X : Prop} (hrun : (Builtin.append_ #[dT, sT] o.type #[v1, v2]).run P w = .ok r w') (hgd : o.guard = none) (ho : o.op = .call { callee := .builtin .append, args := #[d, s], argTypes := #[dT, sT] })
    (hd : a.eval d = v1) (hs : a.eval s = v2) (h : K (a.put o.dst r) w') : if Region.wanted o (yielded ops a.tmps) = true then o.wp P a w K Q else X := by
  rw [if_pos (by simp [Region.wanted, hgd])]
  exact wp_append_run hrun ho hd hs h
end
end Go.Proofs.Ytbhmmkdbflbolaa
