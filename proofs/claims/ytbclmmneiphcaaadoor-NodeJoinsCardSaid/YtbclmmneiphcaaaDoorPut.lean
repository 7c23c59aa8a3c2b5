/- latchkeylaw10.Book.put (printed by gen_put.py). -/
import Derived.Test.YtbclmmneiphcaaaDoorXJoin
import Derived.Test.YtbclmmneiphcaaaDoorApart1
namespace Go.Proofs.YtbclmmneiphcaaaDoor
open Go.RowKit
/-- The book's lists are few, and none is longer than the bound. -/
structure BkOk (B : Bk) (k : Nat) : Prop where
  t : B.t.length ≤ k
  n : B.n.length ≤ k
  xt : ∀ r ∈ B.t, r.xs.length ≤ 4294967296
  xn : ∀ r ∈ B.n, r.xs.length ≤ 4294967296
theorem BkOk.nil (k : Nat) : BkOk Bk.nil k := ⟨Nat.zero_le _, Nat.zero_le _, fun _ h => (nomatch h), fun _ h => (nomatch h)⟩
theorem BkOk.addN {B : Bk} {k : Nat} (h : BkOk B k) (q c : Nv) {n : Nd} (hb : n.bulk ≤ 4294967290) : BkOk (B.addN q c n) (k + 2) := by
  obtain ⟨h1, h2, h3, h4⟩ := h
  unfold Nd.bulk at hb
  refine ⟨?_, ?_, ?_, ?_⟩
  · simp only [Bk.addN, List.length_append, List.length_cons, List.length_nil]; omega
  · simp only [Bk.addN, List.length_append, List.length_cons, List.length_nil]; omega
  · intro r hr
    simp only [Bk.addN, List.mem_append, List.mem_singleton] at hr
    rcases hr with (hr | rfl) | rfl
    · exact h3 r hr
    · show n.ks.length ≤ _; omega
    · show n.vs.length ≤ _; omega
  · intro r hr
    simp only [Bk.addN, List.mem_append, List.mem_singleton] at hr
    rcases hr with hr | rfl
    · exact h4 r hr
    · show n.ls.length ≤ _; omega
theorem join_bulk (a : Nd) (key : ByteArray) (b : Nd) : (a.join key b).bulk ≤ a.bulk + b.bulk + key.size + 1 := by
  unfold Nd.join
  split
  · exact put_bulk a key b
  · exact Nat.zero_le _
theorem Own.alloc4 {E w : World} {L : List Hp} (h : Own E w L) (o o2 o3 o4 : Obj) : Own E ((((w.alloc o).alloc o2).alloc o3).alloc o4) (Hp.obj (w.heap.size + 3) o4 :: Hp.obj (w.heap.size + 2) o3 :: Hp.obj (w.heap.size + 1) o2 :: Hp.obj w.heap.size o :: L) := by
  have h2 := (h.alloc3 o o2 o3).alloc o4
  rwa [alloc_size, alloc_size, alloc_size] at h2
theorem node_cells {E w : World} {g : Nat} {t : TypeId} {x0 x1 x2 x3 : Value} (h : ∃ L, Own E w (Hp.blk g t #[x0, x1, x2, x3] :: L)) : w.cell? ⟨g, 0, none⟩ = some x0 ∧ w.cell? ⟨g, 1, none⟩ = some x1 ∧ w.cell? ⟨g, 2, none⟩ = some x2 ∧ w.cell? ⟨g, 3, none⟩ = some x3 := by
  obtain ⟨_, h⟩ := h
  exact ⟨h.cell 0, h.cell 1, h.cell 2, h.cell 3⟩
section
variable {E : World} {S : Ph} {L : List Hp}
theorem nodes_own (q u : Nv) (n : Nd) (w : World) (hb : n.bulk ≤ 1125899906842624) (h : Own E w (Hp.node (q.val n) n :: Hp.node (u.val n) n :: Hp.ro S :: L)) :
    Calls Tryd.prog 26 #[q.val n, u.val n] w fun e w' => e = .returned (.bool true) ∧ Own E w' (Hp.node (q.val n) n :: Hp.node (u.val n) n :: Hp.ro S :: L) := by
  have h : Own E w (Hp.node (u.val n) n :: Hp.ro S :: Hp.node (q.val n) n :: L) := h.ac (by simp only [Hp.all] <;> ac_rfl)
  obtain ⟨a, ha, da, h⟩ := h.lend
  obtain ⟨a2, ha2, da2, h⟩ := h.f1.lend
  obtain ⟨u', hu, hin⟩ := node_in ha
  obtain rfl := Nv.val_inj hu
  obtain ⟨q', hq, hin2⟩ := node_in ha2
  obtain rfl := Nv.val_inj hq
  refine (nodes_same q u n w hb (hin2.sub Ph.join_l) ((hin.sub Ph.join_l).sub (Ph.join_r da2)) h).mono ?_
  rintro e w' ⟨rfl, h⟩
  have h := Own.give ha da (Own.give ha2 da2 h).f1
  exact ⟨rfl, h.ac (by simp only [Hp.all] <;> ac_rfl)⟩
set_option maxRecDepth 100000 in
set_option maxHeartbeats 8000000 in
theorem bookput_any (b : Nat) (B : Bk) (k : Nat) (x y : Nd) (v1 v2 u1 u2 : Nv) (key : ByteArray) (w : World) (hk : k ≤ 900) (hB : BkOk B k) (hb : x.bulk ≤ 2147483647) (hb2 : y.bulk ≤ 2147483647) (hb3 : x.bulk + y.bulk + key.size ≤ 4294967280) (hi1 : NdIn S v1 x) (hi2 : NdIn S v2 y) (hj1 : NdIn S u1 x) (hj2 : NdIn S u2 y) (h : Own E w (Hp.ro S :: Hp.bk b B :: L)) :
    Calls Tryd.prog 17 #[.pointer (some ⟨b, 0, none⟩), v1.val x, .string key, v2.val y, u1.val x, u2.val y] w fun e w' => e = .returned (.bool true) ∧ ∃ B', BkOk B' (k + 2) ∧ Own E w' (Hp.ro S :: Hp.bk b B' :: L) := by
  have kj := fun w M hw => join_any (E := E) (S := S) (L := M) v1 v2 x key y w (by omega) (by omega) (by omega) hi1 hi2 hw
  have kx := fun w M hw => xjoin_any (E := E) (S := S) (L := M) u1 u2 x key y w (by omega) hb hb2 hj1 hj2 hw
  have hjb : (x.join key y).bulk ≤ 4294967290 := by have := join_bulk x key y; omega
  generalize x.join key y = n at *
  generalize joinE x key y = c at *
  have h1 : Own E _ (Hp.blk (w.heap.size + 3) NT #[.bool y.leaf, .slice u2.a1 y.ks.length u2.c1, .slice u2.a2 y.vs.length u2.c2, .slice u2.a3 y.ls.length u2.c3] :: Hp.blk (w.heap.size + 2) NT #[.bool x.leaf, .slice u1.a1 x.ks.length u1.c1, .slice u1.a2 x.vs.length u1.c2, .slice u1.a3 x.ls.length u1.c3] :: Hp.blk (w.heap.size + 1) NT #[.bool y.leaf, .slice v2.a1 y.ks.length v2.c1, .slice v2.a2 y.vs.length v2.c2, .slice v2.a3 y.ls.length v2.c3] :: Hp.blk w.heap.size NT #[.bool x.leaf, .slice v1.a1 x.ks.length v1.c1, .slice v1.a2 x.vs.length v1.c2, .slice v1.a3 x.ls.length v1.c3] :: Hp.ro S :: Hp.bk b B :: L) := h.alloc4 _ _ _ _
  obtain ⟨g, hg⟩ : ∃ g, g = w.heap.size := ⟨_, rfl⟩
  rw [← hg] at h1
  have h : Own E _ (Hp.ro S :: Hp.blk (g + 3) NT #[.bool y.leaf, .slice u2.a1 y.ks.length u2.c1, .slice u2.a2 y.vs.length u2.c2, .slice u2.a3 y.ls.length u2.c3] :: Hp.blk (g + 2) NT #[.bool x.leaf, .slice u1.a1 x.ks.length u1.c1, .slice u1.a2 x.vs.length u1.c2, .slice u1.a3 x.ls.length u1.c3] :: Hp.blk (g + 1) NT #[.bool y.leaf, .slice v2.a1 y.ks.length v2.c1, .slice v2.a2 y.vs.length v2.c2, .slice v2.a3 y.ls.length v2.c3] :: Hp.blk g NT #[.bool x.leaf, .slice v1.a1 x.ks.length v1.c1, .slice v1.a2 x.vs.length v1.c2, .slice v1.a3 x.ls.length v1.c3] :: Hp.bk b B :: L) := h1.f4
  clear h1
  have H := Lib.hid h
  have KJ := Lib.hid kj
  have KX := Lib.hid kx
  have HBB := Lib.hid hB
  clear h kj kx hB hi1 hi2 hj1 hj2 hb hb2 hb3
  go_enter Tryd.func17, Tryd.ntmps17
  go_wp2_with fail
  rw [← hg]
  clear hg
  with_reducible refine (KJ.out _ _ H.out).mono ?_
  rintro e w1 ⟨nv, rfl, h⟩
  obtain ⟨q, rfl, h⟩ := h.nodeForm
  have h1 : Own E _ (Hp.blk w1.heap.size NT #[.bool n.leaf, .slice q.a1 n.ks.length q.c1, .slice q.a2 n.vs.length q.c2, .slice q.a3 n.ls.length q.c3] :: _) := h.alloc _
  obtain ⟨gn, hgn⟩ : ∃ gn, gn = w1.heap.size := ⟨_, rfl⟩
  rw [← hgn] at h1
  clear h H
  have h : Own E _ (Hp.ro S :: Hp.node (q.val n) n :: Hp.bk b B :: Hp.blk gn NT #[.bool n.leaf, .slice q.a1 n.ks.length q.c1, .slice q.a2 n.vs.length q.c2, .slice q.a3 n.ls.length q.c3] :: Hp.blk (g + 2) NT #[.bool x.leaf, .slice u1.a1 x.ks.length u1.c1, .slice u1.a2 x.vs.length u1.c2, .slice u1.a3 x.ls.length u1.c3] :: Hp.blk (g + 3) NT #[.bool y.leaf, .slice u2.a1 y.ks.length u2.c1, .slice u2.a2 y.vs.length u2.c2, .slice u2.a3 y.ls.length u2.c3] :: Hp.blk (g + 1) NT #[.bool y.leaf, .slice v2.a1 y.ks.length v2.c1, .slice v2.a2 y.vs.length v2.c2, .slice v2.a3 y.ls.length v2.c3] :: Hp.blk g NT #[.bool x.leaf, .slice v1.a1 x.ks.length v1.c1, .slice v1.a2 x.vs.length v1.c2, .slice v1.a3 x.ls.length v1.c3] :: L) := h1.ac (by simp only [Hp.all] <;> ac_rfl)
  clear h1
  obtain ⟨p0, p1, p2, p3⟩ := node_cells (g := g + 2) (x0 := .bool x.leaf) (by first | exact ⟨_, h⟩ | exact ⟨_, h.f1⟩ | exact ⟨_, h.f2⟩ | exact ⟨_, h.f3⟩ | exact ⟨_, h.f4⟩ | exact ⟨_, h.f5⟩ | exact ⟨_, h.f6⟩ | exact ⟨_, h.f7⟩ | exact ⟨_, h.f8⟩ | exact ⟨_, h.f9⟩ | exact ⟨_, h.f10⟩ | exact ⟨_, h.f11⟩ | exact ⟨_, h.f12⟩ | exact ⟨_, h.f13⟩ | exact ⟨_, h.f14⟩ | exact ⟨_, h.f15⟩)
  obtain ⟨q0, q1, q2, q3⟩ := node_cells (g := g + 3) (x0 := .bool y.leaf) (by first | exact ⟨_, h⟩ | exact ⟨_, h.f1⟩ | exact ⟨_, h.f2⟩ | exact ⟨_, h.f3⟩ | exact ⟨_, h.f4⟩ | exact ⟨_, h.f5⟩ | exact ⟨_, h.f6⟩ | exact ⟨_, h.f7⟩ | exact ⟨_, h.f8⟩ | exact ⟨_, h.f9⟩ | exact ⟨_, h.f10⟩ | exact ⟨_, h.f11⟩ | exact ⟨_, h.f12⟩ | exact ⟨_, h.f13⟩ | exact ⟨_, h.f14⟩ | exact ⟨_, h.f15⟩)
  have H := Lib.hid h
  clear h
  go_wp2_with fail
  rw [← hgn]
  clear hgn p0 p1 p2 p3 q0 q1 q2 q3
  with_reducible refine (KX.out _ _ H.out).mono ?_
  rintro e w2 ⟨nv, rfl, h⟩
  obtain ⟨u, rfl, h⟩ := h.nodeForm
  have h1 : Own E _ (Hp.blk w2.heap.size NT #[.bool n.leaf, .slice u.a1 n.ks.length u.c1, .slice u.a2 n.vs.length u.c2, .slice u.a3 n.ls.length u.c3] :: _) := h.alloc _
  obtain ⟨gm, hgm⟩ : ∃ gm, gm = w2.heap.size := ⟨_, rfl⟩
  rw [← hgm] at h1
  clear h H KJ KX
  have h : Own E _ (Hp.node (q.val n) n :: Hp.node (u.val n) n :: Hp.ro S :: Hp.bk b B :: Hp.blk gn NT #[.bool n.leaf, .slice q.a1 n.ks.length q.c1, .slice q.a2 n.vs.length q.c2, .slice q.a3 n.ls.length q.c3] :: Hp.blk gm NT #[.bool n.leaf, .slice u.a1 n.ks.length u.c1, .slice u.a2 n.vs.length u.c2, .slice u.a3 n.ls.length u.c3] :: Hp.blk (g + 2) NT #[.bool x.leaf, .slice u1.a1 x.ks.length u1.c1, .slice u1.a2 x.vs.length u1.c2, .slice u1.a3 x.ls.length u1.c3] :: Hp.blk (g + 3) NT #[.bool y.leaf, .slice u2.a1 y.ks.length u2.c1, .slice u2.a2 y.vs.length u2.c2, .slice u2.a3 y.ls.length u2.c3] :: Hp.blk (g + 1) NT #[.bool y.leaf, .slice v2.a1 y.ks.length v2.c1, .slice v2.a2 y.vs.length v2.c2, .slice v2.a3 y.ls.length v2.c3] :: Hp.blk g NT #[.bool x.leaf, .slice v1.a1 x.ks.length v1.c1, .slice v1.a2 x.vs.length v1.c2, .slice v1.a3 x.ls.length v1.c3] :: L) := h1.ac (by simp only [Hp.all] <;> ac_rfl)
  clear h1
  obtain ⟨p0, p1, p2, p3⟩ := node_cells (g := gn) (x0 := .bool n.leaf) (by first | exact ⟨_, h⟩ | exact ⟨_, h.f1⟩ | exact ⟨_, h.f2⟩ | exact ⟨_, h.f3⟩ | exact ⟨_, h.f4⟩ | exact ⟨_, h.f5⟩ | exact ⟨_, h.f6⟩ | exact ⟨_, h.f7⟩ | exact ⟨_, h.f8⟩ | exact ⟨_, h.f9⟩ | exact ⟨_, h.f10⟩ | exact ⟨_, h.f11⟩ | exact ⟨_, h.f12⟩ | exact ⟨_, h.f13⟩ | exact ⟨_, h.f14⟩ | exact ⟨_, h.f15⟩)
  obtain ⟨q0, q1, q2, q3⟩ := node_cells (g := gm) (x0 := .bool n.leaf) (by first | exact ⟨_, h⟩ | exact ⟨_, h.f1⟩ | exact ⟨_, h.f2⟩ | exact ⟨_, h.f3⟩ | exact ⟨_, h.f4⟩ | exact ⟨_, h.f5⟩ | exact ⟨_, h.f6⟩ | exact ⟨_, h.f7⟩ | exact ⟨_, h.f8⟩ | exact ⟨_, h.f9⟩ | exact ⟨_, h.f10⟩ | exact ⟨_, h.f11⟩ | exact ⟨_, h.f12⟩ | exact ⟨_, h.f13⟩ | exact ⟨_, h.f14⟩ | exact ⟨_, h.f15⟩)
  have kn := fun w M hw => nodes_own (E := E) (S := S) (L := M) q u n w (by omega) hw
  have KN := Lib.hid kn
  have H := Lib.hid h
  clear h kn
  go_wp2_with fail
  rw [← hgm]
  clear hgm p0 p1 p2 p3 q0 q1 q2 q3
  with_reducible refine (KN.out _ _ H.out).mono ?_
  rintro e w3 ⟨rfl, h⟩
  clear H KN
  obtain ⟨p0, p1, p2, p3⟩ := node_cells (g := gn) (x0 := .bool n.leaf) (by first | exact ⟨_, h⟩ | exact ⟨_, h.f1⟩ | exact ⟨_, h.f2⟩ | exact ⟨_, h.f3⟩ | exact ⟨_, h.f4⟩ | exact ⟨_, h.f5⟩ | exact ⟨_, h.f6⟩ | exact ⟨_, h.f7⟩ | exact ⟨_, h.f8⟩ | exact ⟨_, h.f9⟩ | exact ⟨_, h.f10⟩ | exact ⟨_, h.f11⟩ | exact ⟨_, h.f12⟩ | exact ⟨_, h.f13⟩ | exact ⟨_, h.f14⟩ | exact ⟨_, h.f15⟩)
  have h : Own E _ (Hp.node (q.val n) n :: Hp.ro S :: Hp.bk b B :: Hp.node (u.val n) n :: Hp.blk gn NT #[.bool n.leaf, .slice q.a1 n.ks.length q.c1, .slice q.a2 n.vs.length q.c2, .slice q.a3 n.ls.length q.c3] :: Hp.blk gm NT #[.bool n.leaf, .slice u.a1 n.ks.length u.c1, .slice u.a2 n.vs.length u.c2, .slice u.a3 n.ls.length u.c3] :: Hp.blk (g + 2) NT #[.bool x.leaf, .slice u1.a1 x.ks.length u1.c1, .slice u1.a2 x.vs.length u1.c2, .slice u1.a3 x.ls.length u1.c3] :: Hp.blk (g + 3) NT #[.bool y.leaf, .slice u2.a1 y.ks.length u2.c1, .slice u2.a2 y.vs.length u2.c2, .slice u2.a3 y.ls.length u2.c3] :: Hp.blk (g + 1) NT #[.bool y.leaf, .slice v2.a1 y.ks.length v2.c1, .slice v2.a2 y.vs.length v2.c2, .slice v2.a3 y.ls.length v2.c3] :: Hp.blk g NT #[.bool x.leaf, .slice v1.a1 x.ks.length v1.c1, .slice v1.a2 x.vs.length v1.c2, .slice v1.a3 x.ls.length v1.c3] :: L) := h.ac (by simp only [Hp.all] <;> ac_rfl)
  have kb := fun w M hw => booknode_any (E := E) (S := S) (L := M) b B (q.val n) n w hjb (Nat.le_trans HBB.out.t (by omega)) (Nat.le_trans HBB.out.n (by omega)) hw
  have KB := Lib.hid kb
  have H := Lib.hid h
  clear kb
  repeat clear h
  have z1 : (c == c) = true := by simp
  go_wp2_with fail
  clear p0 p1 p2 p3
  with_reducible refine (KB.out _ _ H.out).mono ?_
  rintro e w4 ⟨rfl, q', c', h⟩
  clear H KB
  have h : Own E _ (Hp.node (u.val n) n :: Hp.blk gn NT #[.bool n.leaf, .slice q.a1 n.ks.length q.c1, .slice q.a2 n.vs.length q.c2, .slice q.a3 n.ls.length q.c3] :: Hp.blk gm NT #[.bool n.leaf, .slice u.a1 n.ks.length u.c1, .slice u.a2 n.vs.length u.c2, .slice u.a3 n.ls.length u.c3] :: Hp.blk (g + 2) NT #[.bool x.leaf, .slice u1.a1 x.ks.length u1.c1, .slice u1.a2 x.vs.length u1.c2, .slice u1.a3 x.ls.length u1.c3] :: Hp.blk (g + 3) NT #[.bool y.leaf, .slice u2.a1 y.ks.length u2.c1, .slice u2.a2 y.vs.length u2.c2, .slice u2.a3 y.ls.length u2.c3] :: Hp.blk (g + 1) NT #[.bool y.leaf, .slice v2.a1 y.ks.length v2.c1, .slice v2.a2 y.vs.length v2.c2, .slice v2.a3 y.ls.length v2.c3] :: Hp.blk g NT #[.bool x.leaf, .slice v1.a1 x.ks.length v1.c1, .slice v1.a2 x.vs.length v1.c2, .slice v1.a3 x.ls.length v1.c3] :: Hp.ro S :: Hp.bk b (B.addN q' c' n) :: L) := h.ac (by simp only [Hp.all] <;> ac_rfl)
  have h := h.drop
  have h := h.drop
  have h := h.drop
  have h := h.drop
  have h := h.drop
  have h := h.drop
  have h := h.drop
  have H := Lib.hid h
  repeat clear h
  go_wp2_with fail
  go_ret
  exact ⟨rfl, _, HBB.out.addN q' c' hjb, H.out⟩
end
end Go.Proofs.YtbclmmneiphcaaaDoor
