/- latchkeylaw10.Book.apart: what is kept, in plain Lean. -/
import Derived.Test.YtbclmmneiphcaaaGreatDoorBook2
import Derived.Test.YtbclmmneiphcaaaGreatDoorLst2
namespace Go.Proofs.YtbclmmneiphcaaaGreatDoor
open Go.RowKit
theorem all_part : ∀ {l : List Hp} {h : Ph}, Hp.all l h → ∀ A ∈ l, ∃ a : Ph, (∀ k o, a k = some o → h k = some o) ∧ A a
  | [], _, _, _, hx => by cases hx
  | y :: l, h, hh, x, hx => by
    obtain ⟨a, b, hd, rfl, hA, hL⟩ := hh
    rcases List.mem_cons.1 hx with rfl | hx
    · exact ⟨a, fun k o hk => Ph.join_some hk, hA⟩
    · obtain ⟨c, hc, hf⟩ := all_part hL x hx
      exact ⟨c, fun k o hk => by rw [Ph.join_comm hd]; exact Ph.join_some (hc k o hk), hf⟩
theorem blk_cell {b : Nat} {t : TypeId} {cs : Array Value} {a : Ph} (h : Hp.blk b t cs a) (i : Nat) : a.cell ⟨b, i, none⟩ = cs[i]? := by
  have h' : a = Ph.one b (.cells cs t (0, 0)) := h
  subst h'
  simp [Ph.cell, Ph.one]
/-- A book in memory that is lent. -/
structure BkIn (S : Ph) (b : Nat) (lt : List (Rc ByteArray)) (ln : List (Rc Int)) (A0 A1 A2 A3 : Option Addr) (c0 c1 c2 c3 : Nat) : Prop where
  k0 : S.cell ⟨b, 0, none⟩ = some (.slice A0 lt.length c0)
  k1 : S.cell ⟨b, 1, none⟩ = some (.slice A1 lt.length c1)
  k2 : S.cell ⟨b, 2, none⟩ = some (.slice A2 ln.length c2)
  k3 : S.cell ⟨b, 3, none⟩ = some (.slice A3 ln.length c3)
  r0 : Rds S 1 (fun r => [Rc.v r]) A0 lt.length lt
  r1 : Rds S 1 (fun r => [Rc.wv r]) A1 lt.length lt
  r2 : Rds S 1 (fun r => [Rc.v r]) A2 ln.length ln
  r3 : Rds S 1 (fun r => [Rc.wv r]) A3 ln.length ln
  wt : ∀ r ∈ lt, ∃ A c, r.wv = .slice A r.xs.length c ∧ Rds S 1 enStr A r.xs.length r.xs
  wn : ∀ r ∈ ln, ∃ A c, r.wv = .slice A r.xs.length c ∧ Rds S 1 en64 A r.xs.length r.xs
theorem BkIn.sub {S T : Ph} {b : Nat} {lt : List (Rc ByteArray)} {ln : List (Rc Int)} {A0 A1 A2 A3 : Option Addr} {c0 c1 c2 c3 : Nat} (h : BkIn S b lt ln A0 A1 A2 A3 c0 c1 c2 c3) (hs : ∀ k o, S k = some o → T k = some o) : BkIn T b lt ln A0 A1 A2 A3 c0 c1 c2 c3 :=
  ⟨Ph.cell_sub hs h.k0, Ph.cell_sub hs h.k1, Ph.cell_sub hs h.k2, Ph.cell_sub hs h.k3, h.r0.sub hs, h.r1.sub hs, h.r2.sub hs, h.r3.sub hs,
    fun r hr => by obtain ⟨A, c, e, h⟩ := h.wt r hr; exact ⟨A, c, e, h.sub hs⟩, fun r hr => by obtain ⟨A, c, e, h⟩ := h.wn r hr; exact ⟨A, c, e, h.sub hs⟩⟩
section
variable {E w : World} {S : Ph} {L : List Hp}
theorem bk_open {b : Nat} {B : Bk} (h : Own E w (Hp.ro S :: Hp.bk b B :: L)) : ∃ (T : Ph) (A0 A1 A2 A3 : Option Addr) (c0 c1 c2 c3 : Nat), Ext S T ∧ BkIn T b B.t B.n A0 A1 A2 A3 c0 c1 c2 c3 ∧ Own E w (Hp.ro T :: famT B.t :: famN B.n :: L) := by
  obtain ⟨q0, q1, q2, q3, h⟩ := h.f1.ofBk
  obtain ⟨A0, c0, k0, -⟩ := h.f1.lstSlice
  obtain ⟨A1, c1, k1, -⟩ := h.f2.lstSlice
  obtain ⟨A2, c2, k2, -⟩ := h.f3.lstSlice
  obtain ⟨A3, c3, k3, -⟩ := h.f4.lstSlice
  rw [List.length_map] at k0 k1 k2 k3
  subst k0 k1 k2 k3
  have h2 : Own E w (Hp.all [Hp.blk b BKT #[.slice A0 B.t.length c0, .slice A1 B.t.length c1, .slice A2 B.n.length c2, .slice A3 B.n.length c3], Hp.lst LST (.slice A0 B.t.length c0) (B.t.map Rc.v), Hp.lst LST (.slice A1 B.t.length c1) (B.t.map Rc.wv), Hp.lst LIT (.slice A2 B.n.length c2) (B.n.map Rc.v), Hp.lst LIT (.slice A3 B.n.length c3) (B.n.map Rc.wv), famT' B.t, famN' B.n] :: Hp.ro S :: famT B.t :: famN B.n :: L) := by
    have h5 : Own E w (Hp.all [famT B.t, famT' B.t, famN B.n, famN' B.n] :: _) := h.f5
    have h6 := Own.star.1 h5
    refine Own.star.2 (h6.ac ?_)
    simp only [Hp.all, List.cons_append, List.nil_append]
    ac_rfl
  obtain ⟨a, hA, hd, h3⟩ := h2.lend
  have hp := all_part hA
  refine ⟨Ph.join a S, A0, A1, A2, A3, c0, c1, c2, c3, Ext.of hd, BkIn.sub (S := a) ?_ Ph.join_l, h3⟩
  obtain ⟨a0, s0, p0⟩ := hp _ (List.mem_cons_self ..)
  obtain ⟨a1, s1, p1⟩ := hp (Hp.lst LST (.slice A0 B.t.length c0) (B.t.map Rc.v)) (by simp only [List.mem_cons, true_or, or_true])
  obtain ⟨a2, s2, p2⟩ := hp (Hp.lst LST (.slice A1 B.t.length c1) (B.t.map Rc.wv)) (by simp only [List.mem_cons, true_or, or_true])
  obtain ⟨a3, s3, p3⟩ := hp (Hp.lst LIT (.slice A2 B.n.length c2) (B.n.map Rc.v)) (by simp only [List.mem_cons, true_or, or_true])
  obtain ⟨a4, s4, p4⟩ := hp (Hp.lst LIT (.slice A3 B.n.length c3) (B.n.map Rc.wv)) (by simp only [List.mem_cons, true_or, or_true])
  obtain ⟨a5, s5, p5⟩ := hp (famT' B.t) (by simp only [List.mem_cons, true_or, or_true])
  obtain ⟨a6, s6, p6⟩ := hp (famN' B.n) (by simp only [List.mem_cons, true_or, or_true])
  refine ⟨Ph.cell_sub s0 (blk_cell p0 0), Ph.cell_sub s0 (blk_cell p0 1), Ph.cell_sub s0 (blk_cell p0 2), Ph.cell_sub s0 (blk_cell p0 3), (lst_rds p1).1.sub s1, (lst_rds p2).1.sub s2, (lst_rds p3).1.sub s3, (lst_rds p4).1.sub s4, fun r hr => ?_, fun r hr => ?_⟩
  · obtain ⟨x, sx, px⟩ := all_mem p5 r hr
    obtain ⟨A, c, e, -⟩ := lst_slice px
    rw [List.length_map] at e
    rw [e] at px
    exact ⟨A, c, e, ((lst_rds px).1.sub sx).sub s5⟩
  · obtain ⟨x, sx, px⟩ := all_mem p6 r hr
    obtain ⟨A, c, e, -⟩ := lst_slice px
    rw [List.length_map] at e
    rw [e] at px
    exact ⟨A, c, e, ((lst_rds px).1.sub sx).sub s6⟩
theorem famT_in {l : List (Rc ByteArray)} {a : Ph} (h : famT l a) : ∀ r ∈ l, ∃ A c, r.v = .slice A r.xs.length c ∧ Rds a 1 enStr A r.xs.length r.xs := fun r hr => by
  obtain ⟨x, sx, px⟩ := all_mem h r hr
  obtain ⟨A, c, e, -⟩ := lst_slice px
  rw [List.length_map] at e
  rw [e] at px
  exact ⟨A, c, e, (lst_rds px).1.sub sx⟩
theorem famN_in {l : List (Rc Int)} {a : Ph} (h : famN l a) : ∀ r ∈ l, ∃ A c, r.v = .slice A r.xs.length c ∧ Rds a 1 en64 A r.xs.length r.xs := fun r hr => by
  obtain ⟨x, sx, px⟩ := all_mem h r hr
  obtain ⟨A, c, e, -⟩ := lst_slice px
  rw [List.length_map] at e
  rw [e] at px
  exact ⟨A, c, e, (lst_rds px).1.sub sx⟩
end
/- MARKING -/
def marked {α : Type} (mk : Nat → α) (l : List (Rc α)) : List (Rc α) := l.mapIdx fun j r => ⟨r.v, r.wv, List.replicate r.xs.length (mk j)⟩
def markN (i : Nat) : Int := -5 - (i : Int)
theorem marked_len {α : Type} (mk : Nat → α) (l : List (Rc α)) : (marked mk l).length = l.length := by simp [marked]
theorem marked_at {α : Type} (mk : Nat → α) {l : List (Rc α)} {i : Nat} {r : Rc α} (h : l[i]? = some r) : (marked mk l)[i]? = some ⟨r.v, r.wv, List.replicate r.xs.length (mk i)⟩ := by
  unfold marked
  rw [List.getElem?_mapIdx, h]; rfl
theorem marked_take {α : Type} (mk : Nat → α) {l : List (Rc α)} {i : Nat} {r : Rc α} (h : l[i]? = some r) : (marked mk l).take (i + 1) = (marked mk l).take i ++ [⟨r.v, r.wv, List.replicate r.xs.length (mk i)⟩] := by
  rw [List.take_add_one, marked_at mk h]; rfl
theorem drop_at {α : Type} {l : List α} {i : Nat} {x : α} (h : l[i]? = some x) : l.drop i = x :: l.drop (i + 1) := by
  obtain ⟨hl, rfl⟩ := List.getElem?_eq_some_iff.1 h
  exact List.drop_eq_getElem_cons hl
/-- Written over up to k. -/
def mkd {α : Type} (xs : List α) (k : Nat) (m : α) : List α := List.replicate k m ++ xs.drop k
theorem mkd_len {α : Type} {xs : List α} {k : Nat} {m : α} (h : k ≤ xs.length) : (mkd xs k m).length = xs.length := by
  unfold mkd; simp; omega
theorem mkd_set {α : Type} {xs : List α} {k : Nat} {m : α} (h : k < xs.length) : (mkd xs k m).set k m = mkd xs (k + 1) m := by
  unfold mkd
  rw [List.set_append_right _ _ (by simp), List.length_replicate, Nat.sub_self, List.drop_eq_getElem_cons h, List.set_cons_zero, List.replicate_succ']
  simp
theorem mkd_all {α : Type} {xs : List α} {k : Nat} {m : α} (h : k = xs.length) : mkd xs k m = List.replicate xs.length m := by
  subst h
  simp [mkd]
/- GROWING -/
/-- What was written down reads as marked. -/
def Seen {α : Type} (f : α → Value) (mk : Nat → α) (S : Ph) (q : Nat) (v : Value) : Prop := ∃ A m c, v = .slice A m c ∧ m ≤ 8589934592 ∧ Rds S 1 (fun x => [f x]) A m (List.replicate m (mk (q / 20)))
/-- .. or is a beginning of the list that grows, which lies at A and has m elements. -/
def Kept {α : Type} (f : α → Value) (mk : Nat → α) (S : Ph) (i : Nat) (A : Option Addr) (m : Nat) (q : Nat) (v : Value) : Prop := Seen f mk S q v ∨ (q / 20 = i ∧ ∃ m' c, v = .slice A m' c ∧ m' ≤ m)
theorem Seen.sub {α : Type} {f : α → Value} {mk : Nat → α} {S T : Ph} {q : Nat} {v : Value} (h : Seen f mk S q v) (hs : ∀ k o, S k = some o → T k = some o) : Seen f mk T q v := by
  obtain ⟨A, m, c, e, hm, hr⟩ := h
  exact ⟨A, m, c, e, hm, hr.sub hs⟩
theorem Kept.more {α : Type} {f : α → Value} {mk : Nat → α} {S : Ph} {i : Nat} {A : Option Addr} {m : Nat} {q : Nat} {v : Value} (h : Kept f mk S i A m q v) : Kept f mk S i A (m + 1) q v := by
  rcases h with h | ⟨e, m', c, e2, hle⟩
  · exact .inl h
  · exact .inr ⟨e, m', c, e2, by omega⟩
theorem Kept.done {α : Type} {f : α → Value} {mk : Nat → α} {S a : Ph} {i : Nat} {A : Option Addr} {m c : Nat} {q : Nat} {v : Value} {e : TypeId} (h : Kept f mk S i A m q v) (hd : Ph.apart a S) (hm : m ≤ 8589934592) (ha : Hp.lst e (.slice A m c) ((List.replicate m (mk i)).map f) a) : Seen f mk (Ph.join a S) q v := by
  rcases h with h | ⟨e, m', c, rfl, hle⟩
  · exact h.sub (Ph.join_r hd)
  · refine ⟨A, m', c, rfl, by omega, ?_⟩
    have h2 := (((lst_rds ha).1).pre m' hle).sub (T := Ph.join a S) Ph.join_l
    rw [List.take_replicate, Nat.min_eq_left hle] at h2
    rw [e]; exact h2
end Go.Proofs.YtbclmmneiphcaaaGreatDoor
