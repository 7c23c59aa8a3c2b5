/- What the builtins do to the parts of memory that are owned. No program in sight. -/
import Derived.Test.YtabibfabieghpaaGreatDoorPkz0
import Derived.Laws.CopyOwn
import Derived.Maps.AppendAt
import Derived.Lib.BufferWrite
import Derived.WalkSpells
import Derived.Deep.MidRow
namespace Go.Proofs.YtabibfabieghpaaGreatDoor
open Go.RowKit
section
variable {P : Program} {E w w' : World} {L : List Hp}

/-- The cells of a slice as the world holds them. -/
def RdC (w : World) (A : Option Addr) (news : List Value) : Prop := news ≠ [] → ∃ ad, A = some ad ∧ ∀ j u, news[j]? = some u → w.cell? (ad.add j) = some u
theorem RdC.nil (w : World) (A : Option Addr) : RdC w A [] := fun h => absurd rfl h
theorem add_eq (b off j : Nat) : (⟨b, off, none⟩ : Addr).add j = ⟨b, off + j, none⟩ := by
  unfold Addr.add; by_cases h : j = 0 <;> simp [h]
theorem RdC.of_block {b off : Nat} {cs : Array Value} {t : TypeId} {fr : Nat × Nat} (h : w.heap[b]? = some (.cells cs t fr)) (news : List Value) (hn : ∀ j u, news[j]? = some u → cs[off + j]? = some u) :
    RdC w (some ⟨b, off, none⟩) news := fun _ => ⟨_, rfl, fun j u hu => by
  rw [add_eq, cell_of_row w b (off + j) cs t fr h]
  exact hn j u hu⟩
theorem Own.rdc {b : Nat} {t : TypeId} {cs : Array Value} (h : Own E w (Hp.blk b t cs :: L)) (off : Nat) (news : List Value) (hn : ∀ j u, news[j]? = some u → cs[off + j]? = some u) :
    RdC w (some ⟨b, off, none⟩) news := RdC.of_block h.at_ news hn
theorem flatMap_get {α : Type} {en : α → List Value} {size : Nat} (hen : ∀ x, (en x).length = size) : ∀ (xs : List α) (j : Nat) (u : Value), (xs.flatMap en)[j]? = some u →
    ∃ k i, ∃ hk : k < xs.length, j = k * size + i ∧ (en xs[k])[i]? = some u
  | [], j, u, h => by simp at h
  | x :: xs, j, u, h => by
    rw [List.flatMap_cons] at h
    by_cases hj : j < (en x).length
    · rw [List.getElem?_append_left hj] at h
      exact ⟨0, j, by simp, by simp, by simpa using h⟩
    · rw [List.getElem?_append_right (by omega), hen] at h
      obtain ⟨k, i, hk, e, hu⟩ := flatMap_get hen xs _ u h
      rw [hen] at hj
      exact ⟨k + 1, i, by simp; exact hk, by rw [Nat.add_mul]; omega, by simpa using hu⟩
theorem flatMap_at {α : Type} {en : α → List Value} {size : Nat} (hen : ∀ x, (en x).length = size) : ∀ (xs : List α) (k : Nat) (hk : k < xs.length) (j : Nat) (v : Value), (en xs[k])[j]? = some v → (xs.flatMap en)[k * size + j]? = some v
  | [], _, hk, _, _, _ => by cases hk
  | x :: xs, 0, _, j, v, hv => by
    have hj : j < (en x).length := (List.getElem?_eq_some_iff.1 hv).1
    rw [List.flatMap_cons, List.getElem?_append_left (by omega)]
    simpa using hv
  | x :: xs, k + 1, hk, j, v, hv => by
    have e0 : (k + 1) * size = k * size + size := Nat.succ_mul k size
    rw [List.flatMap_cons, List.getElem?_append_right (by rw [hen]; omega), hen]
    have e1 : (k + 1) * size + j - size = k * size + j := by omega
    rw [e1]
    exact flatMap_at hen xs k (by simpa using hk) j v (by simpa using hv)
theorem Rds.rdc {α : Type} {size : Nat} {en : α → List Value} {A : Option Addr} {n : Nat} {xs : List α} (h : Rds (Ph.of w) size en A n xs) : RdC w A (xs.flatMap en) := fun hne => by
  have hpos : 0 < xs.length := by
    cases xs with
    | nil => exact absurd rfl hne
    | cons _ _ => simp
  obtain ⟨b, off, rfl, _⟩ := h.2.2 0 hpos
  refine ⟨_, rfl, fun j u hu => ?_⟩
  obtain ⟨k, i, hk, rfl, hu'⟩ := flatMap_get h.2.1 xs j u hu
  obtain ⟨b', off', e, hc⟩ := h.2.2 k hk
  injection e with e
  injection e with e1 e2
  subst e1 e2
  rw [add_eq, ← Nat.add_assoc]
  exact hc i u hu'

theorem set_mid (A B : List Value) (x u : Value) (k : Nat) (hk : A.length = k) : (A ++ x :: B).toArray.setIfInBounds k u = (A ++ u :: B).toArray := by
  subst hk; simp
/- A BLOCK WHOSE CELLS MAY ALL BE WRITTEN, with or without a mark behind its end (what a conversion of a string leaves). -/
def Hp.mk (b : Nat) (t : TypeId) (cs : Array Value) : Hp := fun h => ∃ fr : Nat × Nat, (fr = (0, 0) ∨ cs.size ≤ fr.1) ∧ h = Ph.one b (.cells cs t fr)
theorem Own.toMk {b : Nat} {t : TypeId} {cs : Array Value} (h : Own E w (Hp.blk b t cs :: L)) : Own E w (Hp.mk b t cs :: L) := h.imp fun _ hx => ⟨(0, 0), .inl rfl, hx⟩
theorem Own.ofMk {b : Nat} {t : TypeId} {cs : Array Value} (h : Own E w (Hp.mk b t cs :: L)) : ∃ fr : Nat × Nat, (fr = (0, 0) ∨ cs.size ≤ fr.1) ∧ Own E w (Hp.obj b (.cells cs t fr) :: L) := by
  obtain ⟨h1, h2, h3, _, hx, a, c, hd, rfl, ⟨fr, hfr, ha⟩, hL⟩ := h
  exact ⟨fr, hfr, h1, h2, h3, _, hx, a, c, hd, rfl, ha, hL⟩
theorem Own.mkMk {b : Nat} {t : TypeId} {cs : Array Value} {fr : Nat × Nat} (hfr : fr = (0, 0) ∨ cs.size ≤ fr.1) (h : Own E w (Hp.obj b (.cells cs t fr) :: L)) : Own E w (Hp.mk b t cs :: L) := h.imp fun _ hx => ⟨fr, hfr, hx⟩
theorem Own.mcell {b : Nat} {t : TypeId} {cs : Array Value} (h : Own E w (Hp.mk b t cs :: L)) (i : Nat) : w.cell? ⟨b, i, none⟩ = cs[i]? := by
  obtain ⟨fr, _, ho⟩ := h.ofMk
  exact cell_of_row w b i cs t fr ho.at_
theorem Own.mfrozen {b : Nat} {t : TypeId} {cs : Array Value} (h : Own E w (Hp.mk b t cs :: L)) (i : Nat) (hi : i < cs.size) : w.frozen? ⟨b, i, none⟩ = false := by
  obtain ⟨fr, hfr, ho⟩ := h.ofMk
  obtain ⟨lo, hi2⟩ := fr
  have hat := ho.at_
  simp only [World.frozen?, hat]
  rcases hfr with e | e
  · injection e with e1 e2
    subst e1 e2
    simp
  · have e' : cs.size ≤ lo := e
    have : decide (lo ≤ i) = false := by simp; omega
    rw [this]; rfl
theorem Own.mset {b : Nat} {t : TypeId} {cs : Array Value} (h : Own E w (Hp.mk b t cs :: L)) (i : Nat) (v : Value) :
    Own E (w.setCell ⟨b, i, none⟩ v) (Hp.mk b t (cs.setIfInBounds i v) :: L) := by
  obtain ⟨fr, hfr, ho⟩ := h.ofMk
  have hat := ho.at_
  refine Own.mkMk (fr := fr) (by simpa using hfr) (ho.turn rfl rfl rfl ?_ fun k _ hne => ?_)
  · simp [World.setCell, Array.getElem?_modify, hat]
  · exact Below.heap_setCell w _ v k hne
def putArr (cs : Array Value) : Nat → List Value → Array Value
  | _, [] => cs
  | off, v :: vs => putArr (cs.setIfInBounds off v) (off + 1) vs
theorem putArr_size : ∀ (vs : List Value) (cs : Array Value) (off : Nat), (putArr cs off vs).size = cs.size
  | [], _, _ => rfl
  | v :: vs, cs, off => by
    show (putArr (cs.setIfInBounds off v) (off + 1) vs).size = _
    rw [putArr_size vs]; simp
theorem putArr_mid (cs vs B : List Value) (A : List Value) (h : cs.length = vs.length) : putArr (A ++ (cs ++ B)).toArray A.length vs = (A ++ (vs ++ B)).toArray := by
  induction vs generalizing cs A with
  | nil =>
    have : cs = [] := List.eq_nil_of_length_eq_zero (by simpa using h)
    subst this; rfl
  | cons v vs ih =>
    cases cs with
    | nil => simp at h
    | cons c cs =>
      unfold putArr
      rw [List.cons_append, set_mid _ _ _ _ _ rfl]
      have e : (A ++ v :: (cs ++ B)).toArray = ((A ++ [v]) ++ (cs ++ B)).toArray := by simp
      have e2 : A.length + 1 = (A ++ [v]).length := by simp
      rw [e, e2, ih cs (A ++ [v]) (by simpa using h)]
      simp
theorem putArr_splice (cs vs : List Value) (off : Nat) (h : off + vs.length ≤ cs.length) : putArr cs.toArray off vs = (splice cs off vs).toArray := by
  have e : cs = cs.take off ++ ((cs.drop off).take vs.length ++ cs.drop (off + vs.length)) := by
    rw [← List.drop_drop, List.take_append_drop, List.take_append_drop]
  have hl : (cs.take off).length = off := by simp; omega
  have := putArr_mid ((cs.drop off).take vs.length) vs (cs.drop (off + vs.length)) (cs.take off) (by simp; omega)
  rw [← e, hl] at this
  rw [this]
  simp [splice]
theorem Own.msetCells {g : Nat} {t : TypeId} : ∀ (vs : List Value) {w : World} {cs : Array Value} (off : Nat), Own E w (Hp.mk g t cs :: L) → Own E (w.setCells g off vs) (Hp.mk g t (putArr cs off vs) :: L)
  | [], _, _, _, h => h
  | v :: vs, w, cs, off, h => by
    have h1 := h.mset off v
    exact Own.msetCells vs (off + 1) h1

/- A ROW THAT THE CALL OWNS: nil, or the first n elements of a block. -/
def Hp.row (e : TypeId) (size : Nat) (v : Value) (n : Nat) (xs : List Value) : Hp := fun h =>
  xs.length = n * size ∧
  ((v = .slice none 0 0 ∧ n = 0 ∧ h = Ph.emp) ∨
   ∃ g cap cur, v = .slice (some ⟨g, 0, none⟩) n cap ∧ Hp.mk g e cur h ∧ n ≤ cap ∧ cap ≤ maxLen ∧ cur.size = cap * size ∧ cur.toList.take (n * size) = xs)
theorem Own.nilRow (h : Own E w L) (e : TypeId) (size : Nat) : Own E w (Hp.row e size (.slice none 0 0) 0 [] :: L) :=
  (Own.emp.2 h).imp fun _ hx => ⟨by simp, .inl ⟨rfl, rfl, hx⟩⟩
/-- A block is a row of its first n elements. -/
theorem Own.mtoRow {g : Nat} {e : TypeId} {cur : Array Value} (h : Own E w (Hp.mk g e cur :: L)) (size n cap : Nat) (hn : n ≤ cap) (hm : cap ≤ maxLen) (hs : cur.size = cap * size) :
    Own E w (Hp.row e size (.slice (some ⟨g, 0, none⟩) n cap) n (cur.toList.take (n * size)) :: L) :=
  h.imp fun x hx => ⟨by
    have : n * size ≤ cap * size := Nat.mul_le_mul_right _ hn
    simp; omega, .inr ⟨g, cap, cur, rfl, hx, hn, hm, hs, rfl⟩⟩
theorem Own.toRow {g : Nat} {e : TypeId} {cur : Array Value} (h : Own E w (Hp.blk g e cur :: L)) (size n cap : Nat) (hn : n ≤ cap) (hm : cap ≤ maxLen) (hs : cur.size = cap * size) :
    Own E w (Hp.row e size (.slice (some ⟨g, 0, none⟩) n cap) n (cur.toList.take (n * size)) :: L) := h.toMk.mtoRow size n cap hn hm hs
/-- What the row is: nil, or a block that is known whole. -/
theorem Own.rowForm {e : TypeId} {size : Nat} {v : Value} {n : Nat} {xs : List Value} (h : Own E w (Hp.row e size v n xs :: L)) :
    xs.length = n * size ∧ ((v = .slice none 0 0 ∧ n = 0 ∧ xs = [] ∧ Own E w L) ∨
      ∃ g cap cur, v = .slice (some ⟨g, 0, none⟩) n cap ∧ n ≤ cap ∧ cap ≤ maxLen ∧ cur.size = cap * size ∧ cur.toList.take (n * size) = xs ∧ Own E w (Hp.mk g e cur :: L)) := by
  have hd := h.drop
  obtain ⟨h1, h2, h3, _, hx, a, b, hab, rfl, ⟨hl, hA⟩, hL⟩ := h
  refine ⟨hl, ?_⟩
  rcases hA with ⟨e1, e2, _⟩ | ⟨g, cap, cur, e1, hm, e3, e4, e5, e6⟩
  · subst e2
    exact .inl ⟨e1, rfl, List.eq_nil_of_length_eq_zero (by simpa using hl), hd⟩
  · exact .inr ⟨g, cap, cur, e1, e3, e4, e5, e6, h1, h2, h3, _, hx, a, b, hab, rfl, hm, hL⟩
theorem Own.rowCells {e : TypeId} {size : Nat} {A : Option Addr} {n c : Nat} {xs : List Value} (h : Own E w (Hp.row e size (.slice A n c) n xs :: L)) (j : Nat) (v : Value) (hj : xs[j]? = some v) :
    ∃ g, A = some ⟨g, 0, none⟩ ∧ w.cell? ⟨g, j, none⟩ = some v ∧ w.frozen? ⟨g, j, none⟩ = false := by
  obtain ⟨hl, hf⟩ := h.rowForm
  rcases hf with ⟨_, _, h0, _⟩ | ⟨g, cap, cur, hv, h3, _, h5, h6, ho⟩
  · subst h0; simp at hj
  · injection hv with hA hn' hc
    have hlt : j < n * size := by
      have := (List.getElem?_eq_some_iff.1 hj).1
      omega
    have hle : n * size ≤ cap * size := Nat.mul_le_mul_right _ h3
    rw [← h6, List.getElem?_take, if_pos hlt] at hj
    refine ⟨g, hA, ?_, ho.mfrozen j (by omega)⟩
    rw [ho.mcell]
    simpa using hj
/-- append within the row's room. -/
theorem run_append_roomM {ty t e : TypeId} {i : TypeInfo} (ht : P.underlying t = some (.slice e)) (hi : P.info? e = some i)
    {g sLen sCap : Nat} {cur : Array Value} (h : Own E w (Hp.mk g e cur :: L)) (a : Addr) (m c : Nat) (news : List Value) (hl : news.length = m * i.size)
    (hnews : ∀ j u, news[j]? = some u → w.cell? (a.add j) = some u) (h1 : ∀ u ∈ news, u.oneCell' = true) (hroom : sLen + m ≤ sCap) (hfit : sLen * i.size + news.length ≤ cur.size) :
    (Builtin.append_ #[t, t] ty #[.slice (some ⟨g, 0, none⟩) sLen sCap, .slice (some a) m c]).run P w = .ok (.slice (some ⟨g, 0, none⟩) (sLen + m) sCap) (w.setCells g (sLen * i.size) news) := by
  have hf := run_firstCells_some (P := P) w i.size m a m c news hl hnews
  have hst := run_storeCells_cells (P := P) g (sLen * i.size) news 0 w (fun j hj => by rw [h.mcell, Array.getElem?_eq_getElem (by omega)]; rfl) (fun j hj => h.mfrozen _ (by omega)) h1
  simp only [Nat.add_zero] at hst
  simp [Builtin.append_, run_underlying ht, sizeOf, typeInfo, hi, Builtin.lenOf, hroom, hf, Addr.add_lit, hst]
/-- append(v, x...), v owned. -/
theorem sl_append {t ty e : TypeId} {z : Value} {size bytes : Nat} (ht : P.underlying t = some (.slice e)) (hinfo : (P.info? e).map (fun i => (i.zero, i.size, i.bytes)) = some (some z, size, bytes))
    (hzs : z.cells.size = size) (hsz : 0 < size) {v : Value} {n : Nat} {xs : List Value} (h : Own E w (Hp.row e size v n xs :: L))
    (A : Option Addr) (m c : Nat) (news : List Value) (hl : news.length = m * size) (hr : RdC w A news) (h1 : ∀ u ∈ news, u.oneCell' = true)
    (h63 : n + m ≤ maxLen) (hbytes : (n + m) * bytes ≤ 140737488355328) :
    ∃ v' w', (Builtin.append_ #[t, t] ty #[v, .slice A m c]).run P w = .ok v' w' ∧ Own E w' (Hp.row e size v' (n + m) (xs ++ news) :: L) ∧ (v' = .slice none 0 0 ↔ v = .slice none 0 0 ∧ m = 0) := by
  obtain ⟨i, hi, hzz⟩ := Option.map_eq_some_iff.1 hinfo
  simp only [Prod.mk.injEq] at hzz
  obtain ⟨hz, hsize, hby⟩ := hzz
  obtain ⟨hxl, hform⟩ := h.rowForm
  rcases A with _ | ad
  · have hn0 : news = [] := by
      rcases List.eq_nil_or_concat news with e | ⟨_, _, e⟩
      · exact e
      · obtain ⟨ad, e2, _⟩ := hr (by rw [e]; simp)
        cases e2
    subst hn0
    have hm : m = 0 := by
      rcases Nat.eq_zero_or_pos m with e | e
      · exact e
      · have := Nat.mul_pos e hsz
        simp at hl; omega
    subst hm
    refine ⟨v, w, ?_, by simpa using h, by simp⟩
    rcases hform with ⟨rfl, rfl, _⟩ | ⟨g, cap, cur, rfl, hnc, _⟩
    · simp [Builtin.append_, run_underlying ht, sizeOf, typeInfo, hi, Builtin.lenOf, Builtin.firstCells]
    · simp [Builtin.append_, run_underlying ht, sizeOf, typeInfo, hi, Builtin.lenOf, Builtin.firstCells, hnc, storeCells]
  · have hcells : ∀ j u, news[j]? = some u → w.cell? (ad.add j) = some u := fun j u hu => by
      obtain ⟨ad', e, hc⟩ := hr (by intro e; subst e; simp at hu)
      injection e with e
      subst e
      exact hc j u hu
    have hlen : (xs ++ news).length = (n + m) * size := by rw [List.length_append, hxl, hl, Nat.add_mul]
    rcases hform with ⟨rfl, rfl, rfl, ho⟩ | ⟨g, cap, cur, rfl, hnc, hcm, hcs, htake, ho⟩
    · obtain ⟨v', w', hrun, h2, h3, h4⟩ := run_append_own (P := P) w 0 t ty e i z size bytes ht hi hz hsize hby hzs hsz (.slice none 0 0) 0 [] ⟨by simp, .inl ⟨rfl, rfl⟩⟩ ad m c news hl hcells h1 h63 hbytes (Nat.zero_le _)
      refine ⟨v', w', hrun, ?_, h4⟩
      have ho' : Own E w (Hp.emp :: L) := Own.emp.2 ho
      refine ho'.change h3.os h3.tape h3.output ?_
      intro a ha hx
      have ha' : a = Ph.emp := ha
      subst ha'
      rcases h2.2 with ⟨e1, e2⟩ | ⟨g, cap, cur, e1, _, e3, e4, e5, e6, e7⟩
      · exact ⟨Ph.emp, ⟨h2.1, .inl ⟨e1, e2, rfl⟩⟩, fun k o hk => (by cases hk), fun k _ hlt => ⟨rfl, h3.block k hlt (by simp [Value.ownBlock])⟩⟩
      · refine ⟨Ph.one g (.cells cur e (0, 0)), ⟨h2.1, .inr ⟨g, cap, cur, e1, ⟨(0, 0), .inl rfl, rfl⟩, e4, e5, e6, e7⟩⟩, fun k o hk => ?_, fun k hk hlt => ⟨?_, h3.block k hlt (by simp [Value.ownBlock])⟩⟩
        · unfold Ph.one at hk
          split at hk
          · rename_i ek; subst ek; injection hk with hk; subst hk; exact e3
          · cases hk
        · unfold Ph.one
          rw [if_neg]
          rintro rfl
          obtain ⟨v2, w2, hrun2, _, _, _, h9⟩ := run_append_own_at (P := P) w w.heap.size t ty e i z size bytes ht hi hz hsize hby hzs hsz (.slice none 0 0) 0 [] ⟨by simp, .inl ⟨rfl, rfl⟩⟩ ad m c news hl hcells h1 h63 hbytes (Nat.le_refl _)
          rw [hrun] at hrun2
          injection hrun2 with ev ew
          subst ev ew
          rw [e1] at h9
          rcases h9 with e8 | e8
          · simp [Value.ownBlock] at e8
          · simp [Value.ownBlock] at e8; omega
    · subst hsize
      subst hby
      by_cases hroom : n + m ≤ cap
      · have hfit : n * i.size + news.length ≤ cur.size := by rw [hl, hcs, ← Nat.add_mul]; exact Nat.mul_le_mul_right _ hroom
        have hrun := run_append_roomM (P := P) (ty := ty) (sLen := n) (sCap := cap) ht hi ho ad m c news hl hcells h1 hroom hfit
        refine ⟨_, _, hrun, ?_, by simp⟩
        have h7 := (ho.msetCells news (n * i.size)).mtoRow i.size (n + m) cap hroom hcm (by rw [putArr_size]; exact hcs)
        have e7 : (putArr cur (n * i.size) news).toList.take ((n + m) * i.size) = xs ++ news := by
          have e8 := putArr_splice cur.toList news (n * i.size) (by simpa using hfit)
          have e9 : cur.toList.toArray = cur := by simp
          rw [e9] at e8
          rw [e8, ← hlen]
          unfold splice
          rw [htake, ← List.append_assoc]
          exact List.take_left
        rw [e7] at h7
        exact h7
      · have holds : ∀ j u, xs[j]? = some u → w.cell? ((⟨g, 0, none⟩ : Addr).add j) = some u := fun j u hu => by
          obtain ⟨g', hA, hc, _⟩ := h.rowCells j u hu
          injection hA with hA
          injection hA with hA
          subst hA
          rw [add_eq, Nat.zero_add]; exact hc
        have hsmall : n + m ≤ 9223372036854775807 := by simp only [maxLen] at h63; omega
        have hrun := run_append_grow (P := P) w t ty e i z ht hi hz ⟨g, 0, none⟩ n cap xs hxl holds ad m c news hl hcells (by omega) (by omega) (growslice_fits (by omega) hbytes)
        have hge := grownCap_ge w (n + m) cap e
        have hcm2 : grownCap w (n + m) cap e ≤ maxLen := grownCap_le_maxLen w (n + m) cap e h63
        refine ⟨_, _, hrun, ?_, by simp⟩
        refine ((ho.drop.drew.alloc _).toRow i.size (n + m) _ hge hcm2 ?_).imp ?_
        · simp only [Array.size_append, List.size_toArray, size_zeroCells, hzs, hxl, hl, ← Nat.add_mul]
          congr 1
          omega
        · intro x hx
          have e7 : (xs.toArray ++ news.toArray ++ Builtin.zeroCells z.cells (grownCap w (n + m) cap e - (n + m))).toList.take ((n + m) * i.size) = xs ++ news := by
            rw [← hlen, Array.toList_append]
            have e8 : (xs.toArray ++ news.toArray).toList = xs ++ news := by simp
            rw [e8]
            exact List.take_left
          rw [e7] at hx
          exact hx

/- THE LAWS FOR THE WALK: a builtin whose run is known. -/
variable {ops : Array Oper} {rest : List Oper} {o : Oper} {a : Act} {K : Act → World → Prop} {Q : Exit → Act → World → Prop} {v1 v2 r : Value} {dT sT : TypeId} {d s : Operand}
theorem wp_append_run (hrun : (Builtin.append_ #[dT, sT] o.type #[v1, v2]).run P w = .ok r w') (ho : o.op = .call { callee := .builtin .append, args := #[d, s], argTypes := #[dT, sT] })
    (hd : a.eval d = v1) (hs : a.eval s = v2) (h : K (a.put o.dst r) w') : o.wp P a w K Q := by
  unfold Oper.wp execOp
  simp only [ho, resolve, invoke, builtin, Sem.run_bind, Sem.run_pure, Result.andThen_ok, List.map_toArray, List.map_cons, List.map_nil, hd, hs, hrun]
  exact h
theorem wpList_append_run (hrun : (Builtin.append_ #[dT, sT] o.type #[v1, v2]).run P w = .ok r w') (hgd : o.guard = none) (ho : o.op = .call { callee := .builtin .append, args := #[d, s], argTypes := #[dT, sT] })
    (hd : a.eval d = v1) (hs : a.eval s = v2) (h : wpList P ops Q rest (a.put o.dst r) w') : wpList P ops Q (o :: rest) a w :=
  wpList_plain hgd fun _ hK => wp_append_run hrun ho hd hs (hK _ _ h)
/- WHOLE ARRAYS AND STRUCTS, loaded from and stored into an owned block. -/
theorem Own.range {g : Nat} {t : TypeId} {cs : Array Value} (h : Own E w (Hp.blk g t cs :: L)) (off : Nat) (vs : List Value) (hv : ∀ j u, vs[j]? = some u → cs[off + j]? = some u) : w.rangeAt g off vs := fun j u hu => by
  rw [h.cell]; exact hv j u hu
theorem Own.there {g : Nat} {t : TypeId} {cs : Array Value} (h : Own E w (Hp.blk g t cs :: L)) (off n : Nat) (hn : off + n ≤ cs.size) : w.there g off n := fun j hj => by
  refine ⟨?_, h.frozen _⟩
  rw [h.cell, Array.getElem?_eq_getElem (by omega)]; rfl
theorem Own.setCells {g : Nat} {t : TypeId} : ∀ (vs : List Value) {w : World} {cs : Array Value} (off : Nat), Own E w (Hp.blk g t cs :: L) → Own E (w.setCells g off vs) (Hp.blk g t (putArr cs off vs) :: L)
  | [], _, _, _, h => h
  | v :: vs, w, cs, off, h => by
    have h1 := h.set off v
    exact Own.setCells vs (off + 1) h1
theorem putArr_all (cs vs : List Value) (A : List Value) (h : cs.length = vs.length) : putArr (A ++ cs).toArray A.length vs = (A ++ vs).toArray := by
  induction vs generalizing cs A with
  | nil =>
    have : cs = [] := List.eq_nil_of_length_eq_zero (by simpa using h)
    subst this; rfl
  | cons v vs ih =>
    cases cs with
    | nil => simp at h
    | cons c cs =>
      unfold putArr
      rw [set_mid _ _ _ _ _ rfl]
      have e : (A ++ v :: cs).toArray = ((A ++ [v]) ++ cs).toArray := by simp
      have e2 : A.length + 1 = (A ++ [v]).length := by simp
      rw [e, e2, ih cs (A ++ [v]) (by simpa using h)]
      simp
theorem putArr_zero (cs vs : List Value) (h : cs.length = vs.length) : putArr cs.toArray 0 vs = vs.toArray := by
  have := putArr_all cs vs [] h
  simpa using this
theorem wpList_load_arr {g : Nat} {t : TypeId} {cs : Array Value} (h : Own E w (Hp.blk g t cs :: L)) (off : Nat) (vs : List Value) (hv : ∀ j u, vs[j]? = some u → cs[off + j]? = some u)
    {ty : TypeId} {d0 : TypeDesc} (hu : P.underlying ty = some d0) (hd0 : d0.isRow = true) (hi : (P.info? ty).map (·.size) = some vs.length) {x : Operand}
    (hgd : o.guard = none) (ho : o.op = .load ty x) (hx : a.eval x = .pointer (some ⟨g, off, none⟩)) (hn : wpList P ops Q rest (a.put o.dst (.agg vs.toArray)) w) : wpList P ops Q (o :: rest) a w :=
  wpList_load_mid hgd ty x ho g off hx vs d0 (h.range off vs hv) hu hd0 hi hn
/-- A block is written over as a whole. -/
theorem wp_store_whole {g : Nat} {t : TypeId} {cs vs : List Value} (h : Own E w (Hp.blk g t cs.toArray :: L)) (hlen : cs.length = vs.length) (h1 : ∀ v ∈ vs, v.oneCell' = true)
    {ty : TypeId} (hi : (P.info? ty).map (·.size) = some vs.length) {x y : Operand} (ho : o.op = .store ty x y) (hx : a.eval x = .pointer (some ⟨g, 0, none⟩)) (hy : a.eval y = .agg vs.toArray)
    (hn : ∀ w', Own E w' (Hp.blk g t vs.toArray :: L) → K (a.put o.dst undef) w') : o.wp P a w K Q := by
  refine wp_store_mid ty x y ho g 0 vs.toArray hx hy (by simpa using h.there 0 vs.length (by simp [hlen])) (by simpa using hi) (all_oneCell_toArray h1) ?_
  have h2 := h.setCells vs 0
  rw [putArr_zero _ _ hlen] at h2
  exact hn _ h2
theorem wpList_store_whole {g : Nat} {t : TypeId} {cs vs : List Value} (h : Own E w (Hp.blk g t cs.toArray :: L)) (hlen : cs.length = vs.length) (h1 : ∀ v ∈ vs, v.oneCell' = true)
    {ty : TypeId} (hi : (P.info? ty).map (·.size) = some vs.length) {x y : Operand} (hgd : o.guard = none) (ho : o.op = .store ty x y) (hx : a.eval x = .pointer (some ⟨g, 0, none⟩)) (hy : a.eval y = .agg vs.toArray)
    (hn : ∀ w', Own E w' (Hp.blk g t vs.toArray :: L) → wpList P ops Q rest (a.put o.dst undef) w') : wpList P ops Q (o :: rest) a w :=
  wpList_plain hgd fun _ hK => wp_store_whole h hlen h1 hi ho hx hy fun w' h' => hK _ _ (hn w' h')
/-- A function whose one result lies in an owned block. -/
theorem results_arr {fn : Func} {p : Tmp} {ty : TypeId} (hr : fn.results = #[.cell p ty]) {tmps : Array Value} {g : Nat} (hp : tmps.getD p undef = .pointer (some ⟨g, 0, none⟩))
    {t : TypeId} {vs : List Value} (h : Own E w (Hp.blk g t vs.toArray :: L)) {d0 : TypeDesc} (hu : P.underlying ty = some d0) (hd0 : d0.isRow = true) (hi : (P.info? ty).map (·.size) = some vs.length) :
    (results fn tmps).run P w = .ok (.agg vs.toArray) w := by
  have hl := run_loadVar_mid (P := P) w g 0 ty vs d0 (h.range 0 vs (fun j u hu => by simpa using hu)) hu hd0 hi
  have ha : (asAddr (.pointer (some ⟨g, 0, none⟩))).run P w = .ok ⟨g, 0, none⟩ w := rfl
  have hp' : tmps[p]?.getD undef = .pointer (some ⟨g, 0, none⟩) := by simpa [Array.getD_eq_getD_getElem?] using hp
  simp [results, hr, hp', ha, hl]
end
end Go.Proofs.YtabibfabieghpaaGreatDoor
