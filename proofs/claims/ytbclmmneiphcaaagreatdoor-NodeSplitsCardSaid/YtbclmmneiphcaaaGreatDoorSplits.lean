/- latchkeylaw10.Book.cut (printed by gen_bookcut.py). latchkeylaw10.NodeSplits (printed by gen_splits.py). -/
import Derived.Test.YtbclmmneiphcaaaGreatDoorXSplit
import Derived.Test.YtbclmmneiphcaaaGreatDoorJoins
namespace Go.Proofs.YtbclmmneiphcaaaGreatDoor
open Go.RowKit
theorem nil_bulk : Nd.nil.bulk = 0 := rfl
theorem spA_bulk (n : Nd) : n.spA.bulk ≤ n.bulk := by
  unfold Nd.spA
  split
  · exact lo_bulk n _
  · rw [nil_bulk]; exact Nat.zero_le _
theorem spB_bulk (n : Nd) : n.spB.bulk ≤ n.bulk := by
  unfold Nd.spB
  split
  · exact hi_bulk n _
  · rw [nil_bulk]; exact Nat.zero_le _
section
variable {E : World} {S : Ph} {L : List Hp}
set_option maxRecDepth 100000 in
set_option maxHeartbeats 8000000 in
theorem bookcut_any (b : Nat) (BB : Bk) (k : Nat) (n : Nd) (v1 u1 : Nv) (w : World) (hk : k ≤ 900) (hB : BkOk BB k) (hb : n.bulk ≤ 4294967280) (hi : NdIn S v1 n) (hj : NdIn S u1 n) (h : Own E w (Hp.ro S :: Hp.bk b BB :: L)) :
    Calls Tryz.prog 20 #[.pointer (some ⟨b, 0, none⟩), v1.val n, u1.val n] w fun e w' => e = .returned (.bool true) ∧ ∃ B', BkOk B' (k + 4) ∧ Own E w' (Hp.ro S :: Hp.bk b B' :: L) := by
  have ks := fun w M hw => split_any (E := E) (S := S) (L := M) v1 n w (by omega) hi hw
  have kx := fun w M hw => xsplit_any (E := E) (S := S) (L := M) u1 n w (by omega) hj hw
  have hab : n.spA.bulk ≤ 4294967290 := by have := spA_bulk n; omega
  have hcb : n.spB.bulk ≤ 4294967290 := by have := spB_bulk n; omega
  generalize n.spA = a at *
  generalize n.spB = c at *
  generalize n.spK = sk at *
  generalize n.splitE = se at *
  have h1 : Own E _ (Hp.blk (w.heap.size + 1) NT #[.bool n.leaf, .slice u1.a1 n.ks.length u1.c1, .slice u1.a2 n.vs.length u1.c2, .slice u1.a3 n.ls.length u1.c3] :: Hp.blk w.heap.size NT #[.bool n.leaf, .slice v1.a1 n.ks.length v1.c1, .slice v1.a2 n.vs.length v1.c2, .slice v1.a3 n.ls.length v1.c3] :: Hp.ro S :: Hp.bk b BB :: L) := h.alloc2 _ _
  obtain ⟨g, hg⟩ : ∃ g, g = w.heap.size := ⟨_, rfl⟩
  rw [← hg] at h1
  have H := Lib.hid h1.f2
  have KS := Lib.hid ks
  have KX := Lib.hid kx
  have HBB := Lib.hid hB
  clear h h1 ks kx hB hi hj hb
  go_enter Tryz.func20, Tryz.ntmps20
  go_wp2_with fail
  rw [← hg]
  clear hg
  with_reducible refine (KS.out _ _ H.out).mono ?_
  clear H KS
  rintro e w1 ⟨lv, hv, rfl, h⟩
  obtain ⟨q1, rfl, h⟩ := h.nodeShape
  obtain ⟨q2, rfl, h⟩ := h.f1.nodeShape
  have h2 := (h.alloc (.cells #[.bool a.leaf, .slice q1.a1 a.ks.length q1.c1, .slice q1.a2 a.vs.length q1.c2, .slice q1.a3 a.ls.length q1.c3] NT)).alloc (.cells #[.bool c.leaf, .slice q2.a1 c.ks.length q2.c1, .slice q2.a2 c.vs.length q2.c2, .slice q2.a3 c.ls.length q2.c3] NT)
  rw [alloc_size] at h2
  obtain ⟨g7, hg7⟩ : ∃ x, x = w1.heap.size := ⟨_, rfl⟩
  rw [← hg7] at h2
  have h : Own E _ (Hp.ro S :: Hp.node (q1.val a) a :: Hp.node (q2.val c) c :: Hp.bk b BB :: Hp.blk g7 NT #[.bool a.leaf, .slice q1.a1 a.ks.length q1.c1, .slice q1.a2 a.vs.length q1.c2, .slice q1.a3 a.ls.length q1.c3] :: Hp.blk (g7 + 1) NT #[.bool c.leaf, .slice q2.a1 c.ks.length q2.c1, .slice q2.a2 c.vs.length q2.c2, .slice q2.a3 c.ls.length q2.c3] :: Hp.blk (g + 1) NT #[.bool n.leaf, .slice u1.a1 n.ks.length u1.c1, .slice u1.a2 n.vs.length u1.c2, .slice u1.a3 n.ls.length u1.c3] :: Hp.blk g NT #[.bool n.leaf, .slice v1.a1 n.ks.length v1.c1, .slice v1.a2 n.vs.length v1.c2, .slice v1.a3 n.ls.length v1.c3] :: L) := h2.ac (by unfold Hp.blk; simp only [Hp.all] <;> ac_rfl)
  clear h2
  obtain ⟨p0, p1, p2, p3⟩ := node_cells (g := g + 1) (x0 := .bool n.leaf) (by first | exact ⟨_, h⟩ | exact ⟨_, h.f1⟩ | exact ⟨_, h.f2⟩ | exact ⟨_, h.f3⟩ | exact ⟨_, h.f4⟩ | exact ⟨_, h.f5⟩ | exact ⟨_, h.f6⟩ | exact ⟨_, h.f7⟩ | exact ⟨_, h.f8⟩ | exact ⟨_, h.f9⟩ | exact ⟨_, h.f10⟩ | exact ⟨_, h.f11⟩ | exact ⟨_, h.f12⟩ | exact ⟨_, h.f13⟩ | exact ⟨_, h.f14⟩ | exact ⟨_, h.f15⟩)
  have H := Lib.hid h
  repeat clear h
  go_wp2_with fail
  rw [← hg7]
  clear hg7
  with_reducible refine (KX.out _ _ H.out).mono ?_
  clear H KX p0 p1 p2 p3
  rintro e w2 ⟨lv, hv, rfl, h⟩
  obtain ⟨r1, rfl, h⟩ := h.nodeShape
  obtain ⟨r2, rfl, h⟩ := h.f1.nodeShape
  have h2 := (h.alloc (.cells #[.bool a.leaf, .slice r1.a1 a.ks.length r1.c1, .slice r1.a2 a.vs.length r1.c2, .slice r1.a3 a.ls.length r1.c3] NT)).alloc (.cells #[.bool c.leaf, .slice r2.a1 c.ks.length r2.c1, .slice r2.a2 c.vs.length r2.c2, .slice r2.a3 c.ls.length r2.c3] NT)
  rw [alloc_size] at h2
  obtain ⟨g11, hg11⟩ : ∃ x, x = w2.heap.size := ⟨_, rfl⟩
  rw [← hg11] at h2
  have h : Own E _ (Hp.node (q1.val a) a :: Hp.node (r1.val a) a :: Hp.ro S :: Hp.node (q2.val c) c :: Hp.node (r2.val c) c :: Hp.bk b BB :: Hp.blk g7 NT #[.bool a.leaf, .slice q1.a1 a.ks.length q1.c1, .slice q1.a2 a.vs.length q1.c2, .slice q1.a3 a.ls.length q1.c3] :: Hp.blk (g7 + 1) NT #[.bool c.leaf, .slice q2.a1 c.ks.length q2.c1, .slice q2.a2 c.vs.length q2.c2, .slice q2.a3 c.ls.length q2.c3] :: Hp.blk g11 NT #[.bool a.leaf, .slice r1.a1 a.ks.length r1.c1, .slice r1.a2 a.vs.length r1.c2, .slice r1.a3 a.ls.length r1.c3] :: Hp.blk (g11 + 1) NT #[.bool c.leaf, .slice r2.a1 c.ks.length r2.c1, .slice r2.a2 c.vs.length r2.c2, .slice r2.a3 c.ls.length r2.c3] :: Hp.blk (g + 1) NT #[.bool n.leaf, .slice u1.a1 n.ks.length u1.c1, .slice u1.a2 n.vs.length u1.c2, .slice u1.a3 n.ls.length u1.c3] :: Hp.blk g NT #[.bool n.leaf, .slice v1.a1 n.ks.length v1.c1, .slice v1.a2 n.vs.length v1.c2, .slice v1.a3 n.ls.length v1.c3] :: L) := h2.ac (by unfold Hp.blk; simp only [Hp.all] <;> ac_rfl)
  clear h2
  obtain ⟨p0, p1, p2, p3⟩ := node_cells (g := g7) (x0 := .bool a.leaf) (by first | exact ⟨_, h⟩ | exact ⟨_, h.f1⟩ | exact ⟨_, h.f2⟩ | exact ⟨_, h.f3⟩ | exact ⟨_, h.f4⟩ | exact ⟨_, h.f5⟩ | exact ⟨_, h.f6⟩ | exact ⟨_, h.f7⟩ | exact ⟨_, h.f8⟩ | exact ⟨_, h.f9⟩ | exact ⟨_, h.f10⟩ | exact ⟨_, h.f11⟩ | exact ⟨_, h.f12⟩ | exact ⟨_, h.f13⟩ | exact ⟨_, h.f14⟩ | exact ⟨_, h.f15⟩)
  obtain ⟨s0, s1, s2, s3⟩ := node_cells (g := g11) (x0 := .bool a.leaf) (by first | exact ⟨_, h⟩ | exact ⟨_, h.f1⟩ | exact ⟨_, h.f2⟩ | exact ⟨_, h.f3⟩ | exact ⟨_, h.f4⟩ | exact ⟨_, h.f5⟩ | exact ⟨_, h.f6⟩ | exact ⟨_, h.f7⟩ | exact ⟨_, h.f8⟩ | exact ⟨_, h.f9⟩ | exact ⟨_, h.f10⟩ | exact ⟨_, h.f11⟩ | exact ⟨_, h.f12⟩ | exact ⟨_, h.f13⟩ | exact ⟨_, h.f14⟩ | exact ⟨_, h.f15⟩)
  have k1 := fun w M hw => nodes_own (E := E) (S := S) (L := M) q1 r1 a w (by omega) hw
  have k2 := fun w M hw => nodes_own (E := E) (S := S) (L := M) q2 r2 c w (by omega) hw
  have K1 := Lib.hid k1
  have K2 := Lib.hid k2
  have H := Lib.hid h
  clear k1 k2
  repeat clear h
  go_wp2_with fail
  rw [← hg11]
  clear hg11 p0 p1 p2 p3 s0 s1 s2 s3
  with_reducible refine (K1.out _ _ H.out).mono ?_
  clear H K1
  rintro e w3 ⟨rfl, h⟩
  have h : Own E _ (Hp.node (q2.val c) c :: Hp.node (r2.val c) c :: Hp.ro S :: Hp.node (q1.val a) a :: Hp.bk b BB :: Hp.blk g7 NT #[.bool a.leaf, .slice q1.a1 a.ks.length q1.c1, .slice q1.a2 a.vs.length q1.c2, .slice q1.a3 a.ls.length q1.c3] :: Hp.blk (g7 + 1) NT #[.bool c.leaf, .slice q2.a1 c.ks.length q2.c1, .slice q2.a2 c.vs.length q2.c2, .slice q2.a3 c.ls.length q2.c3] :: Hp.blk (g11 + 1) NT #[.bool c.leaf, .slice r2.a1 c.ks.length r2.c1, .slice r2.a2 c.vs.length r2.c2, .slice r2.a3 c.ls.length r2.c3] :: L) := (show Own E _ (Hp.node (r1.val a) a :: Hp.blk g11 NT #[.bool a.leaf, .slice r1.a1 a.ks.length r1.c1, .slice r1.a2 a.vs.length r1.c2, .slice r1.a3 a.ls.length r1.c3] :: Hp.blk (g + 1) NT #[.bool n.leaf, .slice u1.a1 n.ks.length u1.c1, .slice u1.a2 n.vs.length u1.c2, .slice u1.a3 n.ls.length u1.c3] :: Hp.blk g NT #[.bool n.leaf, .slice v1.a1 n.ks.length v1.c1, .slice v1.a2 n.vs.length v1.c2, .slice v1.a3 n.ls.length v1.c3] :: Hp.node (q2.val c) c :: Hp.node (r2.val c) c :: Hp.ro S :: Hp.node (q1.val a) a :: Hp.bk b BB :: Hp.blk g7 NT #[.bool a.leaf, .slice q1.a1 a.ks.length q1.c1, .slice q1.a2 a.vs.length q1.c2, .slice q1.a3 a.ls.length q1.c3] :: Hp.blk (g7 + 1) NT #[.bool c.leaf, .slice q2.a1 c.ks.length q2.c1, .slice q2.a2 c.vs.length q2.c2, .slice q2.a3 c.ls.length q2.c3] :: Hp.blk (g11 + 1) NT #[.bool c.leaf, .slice r2.a1 c.ks.length r2.c1, .slice r2.a2 c.vs.length r2.c2, .slice r2.a3 c.ls.length r2.c3] :: L) from h.ac (by simp only [Hp.all] <;> ac_rfl)).drop.drop.drop.drop
  obtain ⟨p0, p1, p2, p3⟩ := node_cells (g := g7 + 1) (x0 := .bool c.leaf) (by first | exact ⟨_, h⟩ | exact ⟨_, h.f1⟩ | exact ⟨_, h.f2⟩ | exact ⟨_, h.f3⟩ | exact ⟨_, h.f4⟩ | exact ⟨_, h.f5⟩ | exact ⟨_, h.f6⟩ | exact ⟨_, h.f7⟩ | exact ⟨_, h.f8⟩ | exact ⟨_, h.f9⟩ | exact ⟨_, h.f10⟩ | exact ⟨_, h.f11⟩ | exact ⟨_, h.f12⟩ | exact ⟨_, h.f13⟩ | exact ⟨_, h.f14⟩ | exact ⟨_, h.f15⟩)
  obtain ⟨s0, s1, s2, s3⟩ := node_cells (g := g11 + 1) (x0 := .bool c.leaf) (by first | exact ⟨_, h⟩ | exact ⟨_, h.f1⟩ | exact ⟨_, h.f2⟩ | exact ⟨_, h.f3⟩ | exact ⟨_, h.f4⟩ | exact ⟨_, h.f5⟩ | exact ⟨_, h.f6⟩ | exact ⟨_, h.f7⟩ | exact ⟨_, h.f8⟩ | exact ⟨_, h.f9⟩ | exact ⟨_, h.f10⟩ | exact ⟨_, h.f11⟩ | exact ⟨_, h.f12⟩ | exact ⟨_, h.f13⟩ | exact ⟨_, h.f14⟩ | exact ⟨_, h.f15⟩)
  have H := Lib.hid h
  repeat clear h
  go_wp2_with fail
  clear p0 p1 p2 p3 s0 s1 s2 s3
  with_reducible refine (K2.out _ _ H.out).mono ?_
  clear H K2
  rintro e w4 ⟨rfl, h⟩
  have h : Own E _ (Hp.node (q1.val a) a :: Hp.ro S :: Hp.bk b BB :: Hp.node (q2.val c) c :: Hp.blk g7 NT #[.bool a.leaf, .slice q1.a1 a.ks.length q1.c1, .slice q1.a2 a.vs.length q1.c2, .slice q1.a3 a.ls.length q1.c3] :: Hp.blk (g7 + 1) NT #[.bool c.leaf, .slice q2.a1 c.ks.length q2.c1, .slice q2.a2 c.vs.length q2.c2, .slice q2.a3 c.ls.length q2.c3] :: L) := (show Own E _ (Hp.node (r2.val c) c :: Hp.blk (g11 + 1) NT #[.bool c.leaf, .slice r2.a1 c.ks.length r2.c1, .slice r2.a2 c.vs.length r2.c2, .slice r2.a3 c.ls.length r2.c3] :: Hp.node (q1.val a) a :: Hp.ro S :: Hp.bk b BB :: Hp.node (q2.val c) c :: Hp.blk g7 NT #[.bool a.leaf, .slice q1.a1 a.ks.length q1.c1, .slice q1.a2 a.vs.length q1.c2, .slice q1.a3 a.ls.length q1.c3] :: Hp.blk (g7 + 1) NT #[.bool c.leaf, .slice q2.a1 c.ks.length q2.c1, .slice q2.a2 c.vs.length q2.c2, .slice q2.a3 c.ls.length q2.c3] :: L) from h.ac (by simp only [Hp.all] <;> ac_rfl)).drop.drop
  obtain ⟨p0, p1, p2, p3⟩ := node_cells (g := g7) (x0 := .bool a.leaf) (by first | exact ⟨_, h⟩ | exact ⟨_, h.f1⟩ | exact ⟨_, h.f2⟩ | exact ⟨_, h.f3⟩ | exact ⟨_, h.f4⟩ | exact ⟨_, h.f5⟩ | exact ⟨_, h.f6⟩ | exact ⟨_, h.f7⟩ | exact ⟨_, h.f8⟩ | exact ⟨_, h.f9⟩ | exact ⟨_, h.f10⟩ | exact ⟨_, h.f11⟩ | exact ⟨_, h.f12⟩ | exact ⟨_, h.f13⟩ | exact ⟨_, h.f14⟩ | exact ⟨_, h.f15⟩)
  have kb := fun w M hw => booknode_any (E := E) (S := S) (L := M) b BB (q1.val a) a w hab (Nat.le_trans HBB.out.t (by omega)) (Nat.le_trans HBB.out.n (by omega)) hw
  have KB := Lib.hid kb
  have H := Lib.hid h
  clear kb
  repeat clear h
  go_wp2_with fail
  clear p0 p1 p2 p3
  with_reducible refine (KB.out _ _ H.out).mono ?_
  clear H KB
  rintro e w5 ⟨rfl, q', c', h⟩
  have hB1 := HBB.out.addN q' c' hab
  obtain ⟨B1, hB1e⟩ : ∃ B1, B1 = BB.addN q' c' a := ⟨_, rfl⟩
  rw [← hB1e] at hB1 h
  clear hB1e
  have h : Own E _ (Hp.node (q2.val c) c :: Hp.ro S :: Hp.bk b B1 :: Hp.blk (g7 + 1) NT #[.bool c.leaf, .slice q2.a1 c.ks.length q2.c1, .slice q2.a2 c.vs.length q2.c2, .slice q2.a3 c.ls.length q2.c3] :: L) := (show Own E _ (Hp.blk g7 NT #[.bool a.leaf, .slice q1.a1 a.ks.length q1.c1, .slice q1.a2 a.vs.length q1.c2, .slice q1.a3 a.ls.length q1.c3] :: Hp.node (q2.val c) c :: Hp.ro S :: Hp.bk b B1 :: Hp.blk (g7 + 1) NT #[.bool c.leaf, .slice q2.a1 c.ks.length q2.c1, .slice q2.a2 c.vs.length q2.c2, .slice q2.a3 c.ls.length q2.c3] :: L) from h.ac (by simp only [Hp.all] <;> ac_rfl)).drop
  obtain ⟨p0, p1, p2, p3⟩ := node_cells (g := g7 + 1) (x0 := .bool c.leaf) (by first | exact ⟨_, h⟩ | exact ⟨_, h.f1⟩ | exact ⟨_, h.f2⟩ | exact ⟨_, h.f3⟩ | exact ⟨_, h.f4⟩ | exact ⟨_, h.f5⟩ | exact ⟨_, h.f6⟩ | exact ⟨_, h.f7⟩ | exact ⟨_, h.f8⟩ | exact ⟨_, h.f9⟩ | exact ⟨_, h.f10⟩ | exact ⟨_, h.f11⟩ | exact ⟨_, h.f12⟩ | exact ⟨_, h.f13⟩ | exact ⟨_, h.f14⟩ | exact ⟨_, h.f15⟩)
  have kb := fun w M hw => booknode_any (E := E) (S := S) (L := M) b B1 (q2.val c) c w hcb (Nat.le_trans hB1.t (by omega)) (Nat.le_trans hB1.n (by omega)) hw
  have KB := Lib.hid kb
  have H := Lib.hid h
  have HB1 := Lib.hid hB1
  clear kb hB1
  repeat clear h
  go_wp2_with fail
  clear p0 p1 p2 p3
  with_reducible refine (KB.out _ _ H.out).mono ?_
  clear H KB
  rintro e w6 ⟨rfl, q'', c'', h⟩
  have hB2 := HB1.out.addN q'' c'' hcb
  have HB2 := Lib.hid hB2
  have h : Own E _ (Hp.ro S :: Hp.bk b (B1.addN q'' c'' c) :: L) := (show Own E _ (Hp.blk (g7 + 1) NT #[.bool c.leaf, .slice q2.a1 c.ks.length q2.c1, .slice q2.a2 c.vs.length q2.c2, .slice q2.a3 c.ls.length q2.c3] :: Hp.ro S :: Hp.bk b (B1.addN q'' c'' c) :: L) from h.ac (by simp only [Hp.all] <;> ac_rfl)).drop
  have z1 : (se == se) = true := by simp
  have z2 : (sk.toList == sk.toList) = true := by simp
  have H := Lib.hid h
  clear hB2
  repeat clear h
  go_wp2_with fail
  go_ret
  exact ⟨rfl, _, HB2.out, H.out⟩
end
end Go.Proofs.YtbclmmneiphcaaaGreatDoor
namespace Go.Proofs.YtbclmmneiphcaaaGreatDoor
open Go.RowKit
section
variable {E : World} {S : Ph} {L : List Hp}
set_option maxRecDepth 100000 in
set_option maxHeartbeats 8000000 in
theorem nodesplits_any (vx vo : Nv) (x o : Nd) (w : World) (hsx : NdSm x) (hso : NdSm o) (hix : NdIn S vx x) (hio : NdIn S vo o) (hG : Laid0 E (Hp.ro S :: L)) (h : Own E w (Hp.ro S :: L)) :
    Calls Tryz.prog 4 #[vx.val x, vo.val o] w fun e w' => e = .returned (.bool true) ∧ Own E w' (Hp.ro S :: L) := by
  have kw := fun w M hw => nodeweighs_any (E := E) (S := S) (L := M) vx x w hsx hix hw
  have kw3 := fun w M hw => nodeweighs_any (E := E) (S := S) (L := M) vo o w hso hio hw
  have kl := fun hb w M hw => lent_any (E := E) (S := S) (L := M) vx x w hb hix hw
  have h1 : Own E _ (Hp.blk (w.heap.size + 1) NT #[.bool o.leaf, .slice vo.a1 o.ks.length vo.c1, .slice vo.a2 o.vs.length vo.c2, .slice vo.a3 o.ls.length vo.c3] :: Hp.blk w.heap.size NT #[.bool x.leaf, .slice vx.a1 x.ks.length vx.c1, .slice vx.a2 x.vs.length vx.c2, .slice vx.a3 x.ls.length vx.c3] :: Hp.ro S :: L) := h.alloc2 _ _
  obtain ⟨g, hg⟩ : ∃ g, g = w.heap.size := ⟨_, rfl⟩
  rw [← hg] at h1
  have h : Own E _ (Hp.ro S :: Hp.blk g NT #[.bool x.leaf, .slice vx.a1 x.ks.length vx.c1, .slice vx.a2 x.vs.length vx.c2, .slice vx.a3 x.ls.length vx.c3] :: Hp.blk (g + 1) NT #[.bool o.leaf, .slice vo.a1 o.ks.length vo.c1, .slice vo.a2 o.vs.length vo.c2, .slice vo.a3 o.ls.length vo.c3] :: L) := h1.ac (by simp only [Hp.all] <;> ac_rfl)
  have hrg : ∀ w', (∃ L', Own E w' (Hp.ro S :: Hp.blk g NT #[.bool x.leaf, .slice vx.a1 x.ks.length vx.c1, .slice vx.a2 x.vs.length vx.c2, .slice vx.a3 x.ls.length vx.c3] :: Hp.blk (g + 1) NT #[.bool o.leaf, .slice vo.a1 o.ks.length vo.c1, .slice vo.a2 o.vs.length vo.c2, .slice vo.a3 o.ls.length vo.c3] :: L')) → w'.rangeAt g 0 [.bool x.leaf, .slice vx.a1 x.ks.length vx.c1, .slice vx.a2 x.vs.length vx.c2, .slice vx.a3 x.ls.length vx.c3] ∧ w'.rangeAt (g + 1) 0 [.bool o.leaf, .slice vo.a1 o.ks.length vo.c1, .slice vo.a2 o.vs.length vo.c2, .slice vo.a3 o.ls.length vo.c3] := fun w' hw => by
    obtain ⟨_, hw⟩ := hw
    exact ⟨hw.f1.range 0 _ (fun j u hu => by simpa using hu), hw.f2.range 0 _ (fun j u hu => by simpa using hu)⟩
  have HR := Lib.hid hrg
  have H := Lib.hid h
  have KW := Lib.hid kw
  have KW3 := Lib.hid kw3
  have KL := Lib.hid kl
  have HG := Lib.hid hG
  have HI := Lib.hid (And.intro hix hio)
  clear h h1 hrg kw kw3 kl hG hix hio hsx hso
  go_enter Tryz.func4, Tryz.ntmps4
  go_wp2_with fail
  rw [← hg]
  clear hg
  have h := H.out.drew
  clear H
  refine wp_region_text [0, 2] (fun w' => w'.rangeAt g 0 [.bool x.leaf, .slice vx.a1 x.ks.length vx.c1, .slice vx.a2 x.vs.length vx.c2, .slice vx.a3 x.ls.length vx.c3] ∧ w'.rangeAt (g + 1) 0 [.bool o.leaf, .slice vo.a1 o.ks.length vo.c1, .slice vo.a2 o.vs.length vo.c2, .slice vo.a3 o.ls.length vo.c3]) (by kernel_rfl) ?_ (fun hS => ?_)
  · exact HR.out _ ⟨_, h⟩
  refine wpAnyG_load (i := 0) (oi := ⟨some 14, _, _, _, _, _⟩) (v := (.agg #[.bool x.leaf, .slice vx.a1 x.ks.length vx.c1, .slice vx.a2 x.vs.length vx.c2, .slice vx.a3 x.ls.length vx.c3])) rfl (by kernel_rfl) (by kernel_rfl) (by kernel_rfl) (by rfl) (fun _ _ _ h => h) (by rfl) ?_ (by assumption) ?_
  · intro w hS
    exact exec_load_mid NT (.tmp 2) rfl g 0 (by rfl) [.bool x.leaf, .slice vx.a1 x.ks.length vx.c1, .slice vx.a2 x.vs.length vx.c2, .slice vx.a3 x.ls.length vx.c3] _ hS.1 Tryz.underlying25 rfl (by kernel_rfl)
  try simp only [Act.put, List.setIfInBounds_toArray, List.set_cons_zero, List.set_cons_succ]
  refine wpAnyG_load (i := 2) (oi := ⟨some 16, _, _, _, _, _⟩) (v := (.agg #[.bool o.leaf, .slice vo.a1 o.ks.length vo.c1, .slice vo.a2 o.vs.length vo.c2, .slice vo.a3 o.ls.length vo.c3])) rfl (by kernel_rfl) (by kernel_rfl) (by kernel_rfl) (by rfl) (fun _ _ _ h => h) (by rfl) ?_ (by assumption) ?_
  · intro w hS
    exact exec_load_mid NT (.tmp 3) rfl (g + 1) 0 (by rfl) [.bool o.leaf, .slice vo.a1 o.ks.length vo.c1, .slice vo.a2 o.vs.length vo.c2, .slice vo.a3 o.ls.length vo.c3] _ hS.2 Tryz.underlying25 rfl (by kernel_rfl)
  try simp only [Act.put, List.setIfInBounds_toArray, List.set_cons_zero, List.set_cons_succ]
  refine wpAnyG_keep (i := 1) (oi := ⟨some 15, _, _, _, _, _⟩) (by kernel_rfl) rfl (fun K hK => ?_)
  rw [if_pos (by rfl)]
  go_simp
  refine (KW.out _ _ h).mono ?_
  rintro e w1 ⟨⟨z1, hz1, hy1, rfl⟩, h⟩
  refine hK.out _ _ ?_ (fun hS => ?_)
  · exact HR.out _ ⟨_, h⟩
  clear hK K
  try simp only [Act.put, List.setIfInBounds_toArray, List.set_cons_zero, List.set_cons_succ]
  refine wpAnyG_keep (i := 3) (oi := ⟨some 17, _, _, _, _, _⟩) (by kernel_rfl) rfl (fun K hK => ?_)
  rw [if_pos (by rfl)]
  go_simp
  refine (KW3.out _ _ h).mono ?_
  rintro e w4 ⟨⟨z2, hz2, hy2, rfl⟩, h⟩
  refine hK.out _ _ ?_ (fun hS => ?_)
  · exact HR.out _ ⟨_, h⟩
  clear hK K
  try simp only [Act.put, List.setIfInBounds_toArray, List.set_cons_zero, List.set_cons_succ]
  refine wpAnyG_keep (i := 4) (oi := ⟨some 18, _, _, _, _, _⟩) (by kernel_rfl) rfl (fun K hK => ?_)
  rw [if_pos (by rfl)]
  go_simp
  refine (addsup_any z1 z2 _ (by omega) (by omega)).mono ?_
  rintro e w5 ⟨rfl, z3, hz3, hy3, rfl⟩
  refine hK.out _ _ ?_ (fun hS => ?_)
  · exact HR.out _ ⟨_, h⟩
  clear hK K
  try simp only [Act.put, List.setIfInBounds_toArray, List.set_cons_zero, List.set_cons_succ]
  refine wpAnyG_pure (i := 5) (oi := ⟨some 19, _, _, _, _, _⟩) (v := ?_) rfl (by kernel_rfl) (by kernel_rfl) (by kernel_rfl) (by rfl) (fun _ _ _ h => h) (by rfl) ?_ ?_
  rotate_left
  · intro w
    go_simp
    first | done | with_reducible rfl
  try simp only [Act.put, List.setIfInBounds_toArray, List.set_cons_zero, List.set_cons_succ]
  refine wpAnyG_done (by kernel_rfl) ?_ _
  refine NoPanic.normal ?_
  have H := Lib.hid h
  have HYS := Lib.hid (And.intro hy1 (And.intro hy2 hy3))
  repeat clear h
  clear hy1 hy2 hy3 HR
  by_cases hc : 2147483647 < z3
  · have hci : (2147483647 : Int) < z3 := by omega
    go_wp2_with fail
    go_ret
    exact ⟨rfl, (H.out.f1.drop).f1.drop⟩
  have hci : ¬ (2147483647 : Int) < z3 := by omega
  have hsz : x.bulk + o.bulk ≤ 2147483647 := by
    obtain ⟨f1, f2, f3⟩ := HYS.out
    have e3 := f3 (by omega)
    have e2 := f2 (by omega)
    have e1 := f1 (by omega)
    omega
  have HSZ := Lib.hid hsz
  clear hsz hc hz1 hz2 hz3 HYS KW KW3
  go_wp2_with fail
  have hH := H.out
  have h : Own E _ (Hp.blk g NT #[.bool x.leaf, .slice vx.a1 x.ks.length vx.c1, .slice vx.a2 x.vs.length vx.c2, .slice vx.a3 x.ls.length vx.c3] :: Hp.blk (g + 1) NT #[.bool o.leaf, .slice vo.a1 o.ks.length vo.c1, .slice vo.a2 o.vs.length vo.c2, .slice vo.a3 o.ls.length vo.c3] :: Hp.ro S :: L) := hH.ac (by simp only [Hp.all] <;> ac_rfl)
  clear H hH
  refine (awake_any _ HG.out.cons.cons h).mono ?_
  rintro e w3 ⟨rfl, h1⟩
  clear HG
  have hb1 : Own E _ (Hp.blk w3.heap.size BKT #[.slice none 0 0, .slice none 0 0, .slice none 0 0, .slice none 0 0] :: _) := h1.alloc _
  clear h1 h
  obtain ⟨bb, hbb⟩ : ∃ bb, bb = w3.heap.size := ⟨_, rfl⟩
  rw [← hbb] at hb1
  have h : Own E _ (Hp.ro S :: Hp.bk bb Bk.nil :: Hp.blk g NT #[.bool x.leaf, .slice vx.a1 x.ks.length vx.c1, .slice vx.a2 x.vs.length vx.c2, .slice vx.a3 x.ls.length vx.c3] :: Hp.blk (g + 1) NT #[.bool o.leaf, .slice vo.a1 o.ks.length vo.c1, .slice vo.a2 o.vs.length vo.c2, .slice vo.a3 o.ls.length vo.c3] :: L) := (show Own E _ (Hp.bk bb Bk.nil :: Hp.blk g NT #[.bool x.leaf, .slice vx.a1 x.ks.length vx.c1, .slice vx.a2 x.vs.length vx.c2, .slice vx.a3 x.ls.length vx.c3] :: Hp.blk (g + 1) NT #[.bool o.leaf, .slice vo.a1 o.ks.length vo.c1, .slice vo.a2 o.vs.length vo.c2, .slice vo.a3 o.ls.length vo.c3] :: Hp.ro S :: L) from newBook hb1).ac (by simp only [Hp.all] <;> ac_rfl)
  clear hb1
  obtain ⟨p0, p1, p2, p3⟩ := node_cells (g := g) (x0 := .bool x.leaf) (by first | exact ⟨_, h⟩ | exact ⟨_, h.f1⟩ | exact ⟨_, h.f2⟩ | exact ⟨_, h.f3⟩ | exact ⟨_, h.f4⟩ | exact ⟨_, h.f5⟩ | exact ⟨_, h.f6⟩ | exact ⟨_, h.f7⟩ | exact ⟨_, h.f8⟩ | exact ⟨_, h.f9⟩ | exact ⟨_, h.f10⟩ | exact ⟨_, h.f11⟩ | exact ⟨_, h.f12⟩ | exact ⟨_, h.f13⟩ | exact ⟨_, h.f14⟩ | exact ⟨_, h.f15⟩)
  have H := Lib.hid h
  clear h
  go_wp2_with fail
  rw [← hbb]
  clear hbb p0 p1 p2 p3
  with_reducible refine (KL.out (by have := HSZ.out; omega) _ _ H.out).mono ?_
  rintro e w4 ⟨gk1, gv1, gl1, rfl, h⟩
  have h1 : Own E _ (Hp.blk w4.heap.size NT #[.bool x.leaf, .slice (some ⟨gk1, 0, none⟩) x.ks.length (x.ks.length + 4), .slice (some ⟨gv1, 0, none⟩) x.vs.length (x.vs.length + 4), .slice (some ⟨gl1, 0, none⟩) x.ls.length (x.ls.length + 4)] :: _) := h.alloc _
  obtain ⟨gu, hgu⟩ : ∃ g, g = w4.heap.size := ⟨_, rfl⟩
  rw [← hgu] at h1
  clear h H KL
  have h : Own E _ (Hp.three gk1 gv1 gl1 x :: Hp.ro S :: Hp.bk bb Bk.nil :: Hp.blk gu NT #[.bool x.leaf, .slice (some ⟨gk1, 0, none⟩) x.ks.length (x.ks.length + 4), .slice (some ⟨gv1, 0, none⟩) x.vs.length (x.vs.length + 4), .slice (some ⟨gl1, 0, none⟩) x.ls.length (x.ls.length + 4)] :: Hp.blk g NT #[.bool x.leaf, .slice vx.a1 x.ks.length vx.c1, .slice vx.a2 x.vs.length vx.c2, .slice vx.a3 x.ls.length vx.c3] :: Hp.blk (g + 1) NT #[.bool o.leaf, .slice vo.a1 o.ks.length vo.c1, .slice vo.a2 o.vs.length vo.c2, .slice vo.a3 o.ls.length vo.c3] :: L) := h1.ac (by simp only [Hp.all] <;> ac_rfl)
  clear h1
  obtain ⟨au, hau, dau, inu, spu, h⟩ := lend_three (by have := HSZ.out; omega) h
  have hxu := HI.out.1.sub (Ph.join_r dau)
  have hov := HI.out.2
  obtain ⟨T, hT⟩ : ∃ T, T = Ph.join au S := ⟨_, rfl⟩
  rw [← hT] at h inu spu hxu
  have HT := Lib.hid hT
  have HAU := Lib.hid (And.intro hau dau)
  have HV := Lib.hid hov
  have kp := fun B k w M hk hB hw => bookcut_any (E := E) (S := T) (L := M) bb B k x (lentV gk1 gv1 gl1 x) vx w hk hB (by have := HSZ.out; omega) inu hxu hw
  have kh := fun w M hw => whole_any (E := E) (S := T) (L := M) gk1 gv1 gl1 vx x w (by have := HSZ.out; omega) inu spu hxu hw
  have KP := Lib.hid kp
  have KH := Lib.hid kh
  clear hT hau dau hov kp kh inu spu hxu HI
  have h : Own E _ (Hp.ro T :: Hp.bk bb Bk.nil :: Hp.blk gu NT #[.bool x.leaf, .slice (some ⟨gk1, 0, none⟩) x.ks.length (x.ks.length + 4), .slice (some ⟨gv1, 0, none⟩) x.vs.length (x.vs.length + 4), .slice (some ⟨gl1, 0, none⟩) x.ls.length (x.ls.length + 4)] :: Hp.blk g NT #[.bool x.leaf, .slice vx.a1 x.ks.length vx.c1, .slice vx.a2 x.vs.length vx.c2, .slice vx.a3 x.ls.length vx.c3] :: Hp.blk (g + 1) NT #[.bool o.leaf, .slice vo.a1 o.ks.length vo.c1, .slice vo.a2 o.vs.length vo.c2, .slice vo.a3 o.ls.length vo.c3] :: L) := h
  obtain ⟨p0, p1, p2, p3⟩ := node_cells (g := gu) (x0 := .bool x.leaf) (by first | exact ⟨_, h⟩ | exact ⟨_, h.f1⟩ | exact ⟨_, h.f2⟩ | exact ⟨_, h.f3⟩ | exact ⟨_, h.f4⟩ | exact ⟨_, h.f5⟩ | exact ⟨_, h.f6⟩ | exact ⟨_, h.f7⟩ | exact ⟨_, h.f8⟩ | exact ⟨_, h.f9⟩ | exact ⟨_, h.f10⟩ | exact ⟨_, h.f11⟩ | exact ⟨_, h.f12⟩ | exact ⟨_, h.f13⟩ | exact ⟨_, h.f14⟩ | exact ⟨_, h.f15⟩)
  obtain ⟨r0, r1, r2, r3⟩ := node_cells (g := g) (x0 := .bool x.leaf) (by first | exact ⟨_, h⟩ | exact ⟨_, h.f1⟩ | exact ⟨_, h.f2⟩ | exact ⟨_, h.f3⟩ | exact ⟨_, h.f4⟩ | exact ⟨_, h.f5⟩ | exact ⟨_, h.f6⟩ | exact ⟨_, h.f7⟩ | exact ⟨_, h.f8⟩ | exact ⟨_, h.f9⟩ | exact ⟨_, h.f10⟩ | exact ⟨_, h.f11⟩ | exact ⟨_, h.f12⟩ | exact ⟨_, h.f13⟩ | exact ⟨_, h.f14⟩ | exact ⟨_, h.f15⟩)
  have H := Lib.hid h
  repeat clear h
  go_wp2_with fail
  rw [← hgu]
  clear hgu
  clear p0 p1 p2 p3 r0 r1 r2 r3
  with_reducible refine (KP.out (Bk.nil) (0) _ _ (by omega) (BkOk.nil 0) H.out).mono ?_
  clear H
  rintro e w6 ⟨rfl, B1, b1, h⟩
  obtain ⟨p0, p1, p2, p3⟩ := node_cells (g := gu) (x0 := .bool x.leaf) (by first | exact ⟨_, h⟩ | exact ⟨_, h.f1⟩ | exact ⟨_, h.f2⟩ | exact ⟨_, h.f3⟩ | exact ⟨_, h.f4⟩ | exact ⟨_, h.f5⟩ | exact ⟨_, h.f6⟩ | exact ⟨_, h.f7⟩ | exact ⟨_, h.f8⟩ | exact ⟨_, h.f9⟩ | exact ⟨_, h.f10⟩ | exact ⟨_, h.f11⟩ | exact ⟨_, h.f12⟩ | exact ⟨_, h.f13⟩ | exact ⟨_, h.f14⟩ | exact ⟨_, h.f15⟩)
  obtain ⟨r0, r1, r2, r3⟩ := node_cells (g := g) (x0 := .bool x.leaf) (by first | exact ⟨_, h⟩ | exact ⟨_, h.f1⟩ | exact ⟨_, h.f2⟩ | exact ⟨_, h.f3⟩ | exact ⟨_, h.f4⟩ | exact ⟨_, h.f5⟩ | exact ⟨_, h.f6⟩ | exact ⟨_, h.f7⟩ | exact ⟨_, h.f8⟩ | exact ⟨_, h.f9⟩ | exact ⟨_, h.f10⟩ | exact ⟨_, h.f11⟩ | exact ⟨_, h.f12⟩ | exact ⟨_, h.f13⟩ | exact ⟨_, h.f14⟩ | exact ⟨_, h.f15⟩)
  have H := Lib.hid h
  clear h
  go_wp2_with fail
  clear p0 p1 p2 p3 r0 r1 r2 r3
  with_reducible refine (KP.out (B1) (0 + 4) _ _ (by omega) (b1) H.out).mono ?_
  clear H
  rintro e w7 ⟨rfl, B2, b2, h⟩
  have HB2 := Lib.hid b2
  clear b1 b2
  obtain ⟨p0, p1, p2, p3⟩ := node_cells (g := gu) (x0 := .bool x.leaf) (by first | exact ⟨_, h⟩ | exact ⟨_, h.f1⟩ | exact ⟨_, h.f2⟩ | exact ⟨_, h.f3⟩ | exact ⟨_, h.f4⟩ | exact ⟨_, h.f5⟩ | exact ⟨_, h.f6⟩ | exact ⟨_, h.f7⟩ | exact ⟨_, h.f8⟩ | exact ⟨_, h.f9⟩ | exact ⟨_, h.f10⟩ | exact ⟨_, h.f11⟩ | exact ⟨_, h.f12⟩ | exact ⟨_, h.f13⟩ | exact ⟨_, h.f14⟩ | exact ⟨_, h.f15⟩)
  obtain ⟨r0, r1, r2, r3⟩ := node_cells (g := g) (x0 := .bool x.leaf) (by first | exact ⟨_, h⟩ | exact ⟨_, h.f1⟩ | exact ⟨_, h.f2⟩ | exact ⟨_, h.f3⟩ | exact ⟨_, h.f4⟩ | exact ⟨_, h.f5⟩ | exact ⟨_, h.f6⟩ | exact ⟨_, h.f7⟩ | exact ⟨_, h.f8⟩ | exact ⟨_, h.f9⟩ | exact ⟨_, h.f10⟩ | exact ⟨_, h.f11⟩ | exact ⟨_, h.f12⟩ | exact ⟨_, h.f13⟩ | exact ⟨_, h.f14⟩ | exact ⟨_, h.f15⟩)
  have H := Lib.hid h
  clear h
  go_wp2_with fail
  clear p0 p1 p2 p3 r0 r1 r2 r3
  with_reducible refine (KH.out _ _ H.out).mono ?_
  clear H
  rintro e w8 ⟨rfl, h⟩
  clear KP KH
  have hT := HT.out
  subst hT
  have h := Own.give HAU.out.1 HAU.out.2 h
  clear HT HAU
  have hov := HV.out
  have ko := fun w M hw => over_any (E := E) (S := S) (L := M) gk1 gv1 gl1 x vo o w (by have := HSZ.out; omega) (by have := HSZ.out; omega) hov hw
  obtain ⟨p0, p1, p2, p3⟩ := node_cells (g := gu) (x0 := .bool x.leaf) (by first | exact ⟨_, h⟩ | exact ⟨_, h.f1⟩ | exact ⟨_, h.f2⟩ | exact ⟨_, h.f3⟩ | exact ⟨_, h.f4⟩ | exact ⟨_, h.f5⟩ | exact ⟨_, h.f6⟩ | exact ⟨_, h.f7⟩ | exact ⟨_, h.f8⟩ | exact ⟨_, h.f9⟩ | exact ⟨_, h.f10⟩ | exact ⟨_, h.f11⟩ | exact ⟨_, h.f12⟩ | exact ⟨_, h.f13⟩ | exact ⟨_, h.f14⟩ | exact ⟨_, h.f15⟩)
  obtain ⟨r0, r1, r2, r3⟩ := node_cells (g := g + 1) (x0 := .bool o.leaf) (by first | exact ⟨_, h⟩ | exact ⟨_, h.f1⟩ | exact ⟨_, h.f2⟩ | exact ⟨_, h.f3⟩ | exact ⟨_, h.f4⟩ | exact ⟨_, h.f5⟩ | exact ⟨_, h.f6⟩ | exact ⟨_, h.f7⟩ | exact ⟨_, h.f8⟩ | exact ⟨_, h.f9⟩ | exact ⟨_, h.f10⟩ | exact ⟨_, h.f11⟩ | exact ⟨_, h.f12⟩ | exact ⟨_, h.f13⟩ | exact ⟨_, h.f14⟩ | exact ⟨_, h.f15⟩)
  have KO := Lib.hid ko
  have H := Lib.hid h
  clear h ko hov
  go_wp2_with fail
  clear p0 p1 p2 p3 r0 r1 r2 r3
  with_reducible refine (KO.out _ _ H.out).mono ?_
  clear H KO
  rintro e w10 ⟨rfl, h⟩
  have hxb : (x.over o).bulk ≤ x.bulk + o.bulk := over_bulk x o
  have hev : ∀ k v l, (lentV k v l (x.over o)).val (x.over o) = (lentV k v l x).val x := fun k v l => over_val k v l x o
  obtain ⟨nw, hnw⟩ : ∃ nw, nw = x.over o := ⟨_, rfl⟩
  rw [← hnw] at h hxb hev
  clear hnw
  have hxb2 : nw.bulk ≤ 2147483647 := by have := HSZ.out; omega
  obtain ⟨au, hau, dau, inu, -, h⟩ := lend_three (by omega) h
  have HE2 := Lib.hid (Ext.of dau)
  clear hau dau HV hxb
  generalize Ph.join au S = T at *
  have kc : ∀ w M, Own E w (Hp.ro T :: M) → Calls Tryz.prog 13 #[(lentV gk1 gv1 gl1 x).val x] w fun e w' => ∃ nv, e = .returned nv ∧ Own E w' (Hp.node nv nw :: Hp.ro T :: M) := fun w M hw => by
    rw [← hev]
    exact copied_any (E := E) (S := T) (L := M) (lentV gk1 gv1 gl1 nw) nw w (by omega) inu hw
  obtain ⟨p0, p1, p2, p3⟩ := node_cells (g := gu) (x0 := .bool x.leaf) (by first | exact ⟨_, h⟩ | exact ⟨_, h.f1⟩ | exact ⟨_, h.f2⟩ | exact ⟨_, h.f3⟩ | exact ⟨_, h.f4⟩ | exact ⟨_, h.f5⟩ | exact ⟨_, h.f6⟩ | exact ⟨_, h.f7⟩ | exact ⟨_, h.f8⟩ | exact ⟨_, h.f9⟩ | exact ⟨_, h.f10⟩ | exact ⟨_, h.f11⟩ | exact ⟨_, h.f12⟩ | exact ⟨_, h.f13⟩ | exact ⟨_, h.f14⟩ | exact ⟨_, h.f15⟩)
  have KC := Lib.hid kc
  have HEVL := Lib.hid hev
  have HIN := Lib.hid inu
  have HSB := Lib.hid hxb2
  have H := Lib.hid h
  clear h kc hev inu hxb2
  go_wp2_with fail
  clear p0 p1 p2 p3
  with_reducible refine (KC.out _ _ H.out).mono ?_
  clear H KC
  rintro e w11 ⟨nv, rfl, h⟩
  obtain ⟨c, rfl, h⟩ := h.nodeForm
  have h1 : Own E _ (Hp.blk w11.heap.size NT #[.bool nw.leaf, .slice c.a1 nw.ks.length c.c1, .slice c.a2 nw.vs.length c.c2, .slice c.a3 nw.ls.length c.c3] :: _) := h.alloc _
  obtain ⟨gn, hgn⟩ : ∃ g, g = w11.heap.size := ⟨_, rfl⟩
  rw [← hgn] at h1
  clear h
  have h : Own E _ (Hp.node (c.val nw) nw :: Hp.ro T :: Hp.bk bb B2 :: Hp.blk gn NT #[.bool nw.leaf, .slice c.a1 nw.ks.length c.c1, .slice c.a2 nw.vs.length c.c2, .slice c.a3 nw.ls.length c.c3] :: Hp.blk gu NT #[.bool x.leaf, .slice (some ⟨gk1, 0, none⟩) x.ks.length (x.ks.length + 4), .slice (some ⟨gv1, 0, none⟩) x.vs.length (x.vs.length + 4), .slice (some ⟨gl1, 0, none⟩) x.ls.length (x.ls.length + 4)] :: Hp.blk g NT #[.bool x.leaf, .slice vx.a1 x.ks.length vx.c1, .slice vx.a2 x.vs.length vx.c2, .slice vx.a3 x.ls.length vx.c3] :: Hp.blk (g + 1) NT #[.bool o.leaf, .slice vo.a1 o.ks.length vo.c1, .slice vo.a2 o.vs.length vo.c2, .slice vo.a3 o.ls.length vo.c3] :: L) := h1.ac (by simp only [Hp.all] <;> ac_rfl)
  clear h1
  obtain ⟨ac, hac, dac, h⟩ := h.lend
  obtain ⟨c', hc', inc⟩ := node_in hac
  obtain rfl := Nv.val_inj hc'
  have inc := inc.sub (T := Ph.join ac T) Ph.join_l
  have inu := HIN.out.sub (Ph.join_r dac)
  have HE3 := Lib.hid (HE2.out.trans (Ext.of dac))
  clear hac dac hc' HIN HE2
  generalize Ph.join ac T = T2 at *
  have kp : ∀ B k w M, k ≤ 900 → BkOk B k → Own E w (Hp.ro T2 :: Hp.bk bb B :: M) → Calls Tryz.prog 20 #[.pointer (some ⟨bb, 0, none⟩), (lentV gk1 gv1 gl1 x).val x, c.val nw] w fun e w' => e = .returned (.bool true) ∧ ∃ B', BkOk B' (k + 4) ∧ Own E w' (Hp.ro T2 :: Hp.bk bb B' :: M) := fun B k w M hk hB hw => by
    rw [← HEVL.out]
    exact bookcut_any (E := E) (S := T2) (L := M) bb B k nw (lentV gk1 gv1 gl1 nw) c w hk hB (by have := HSB.out; omega) inu inc hw
  have KP := Lib.hid kp
  clear kp inc inu HEVL HSB
  obtain ⟨p0, p1, p2, p3⟩ := node_cells (g := gu) (x0 := .bool x.leaf) (by first | exact ⟨_, h⟩ | exact ⟨_, h.f1⟩ | exact ⟨_, h.f2⟩ | exact ⟨_, h.f3⟩ | exact ⟨_, h.f4⟩ | exact ⟨_, h.f5⟩ | exact ⟨_, h.f6⟩ | exact ⟨_, h.f7⟩ | exact ⟨_, h.f8⟩ | exact ⟨_, h.f9⟩ | exact ⟨_, h.f10⟩ | exact ⟨_, h.f11⟩ | exact ⟨_, h.f12⟩ | exact ⟨_, h.f13⟩ | exact ⟨_, h.f14⟩ | exact ⟨_, h.f15⟩)
  obtain ⟨r0, r1, r2, r3⟩ := node_cells (g := gn) (x0 := .bool nw.leaf) (by first | exact ⟨_, h⟩ | exact ⟨_, h.f1⟩ | exact ⟨_, h.f2⟩ | exact ⟨_, h.f3⟩ | exact ⟨_, h.f4⟩ | exact ⟨_, h.f5⟩ | exact ⟨_, h.f6⟩ | exact ⟨_, h.f7⟩ | exact ⟨_, h.f8⟩ | exact ⟨_, h.f9⟩ | exact ⟨_, h.f10⟩ | exact ⟨_, h.f11⟩ | exact ⟨_, h.f12⟩ | exact ⟨_, h.f13⟩ | exact ⟨_, h.f14⟩ | exact ⟨_, h.f15⟩)
  have H := Lib.hid h
  clear h
  go_wp2_with fail
  rw [← hgn]
  clear hgn
  clear p0 p1 p2 p3 r0 r1 r2 r3
  with_reducible refine (KP.out B2 (0 + 4 + 4) _ _ (by omega) HB2.out H.out).mono ?_
  clear H HB2 KP
  rintro e w12 ⟨rfl, B4, b4, h⟩
  have ka := fun w M hw => bkapart_any (E := E) (S := T2) (L := M) bb B4 w (Nat.le_trans b4.t (by omega)) (Nat.le_trans b4.n (by omega)) b4.xt b4.xn hw
  have KA := Lib.hid ka
  have H := Lib.hid h
  clear h ka b4
  go_wp2_with fail
  with_reducible refine (KA.out _ _ H.out).mono ?_
  rintro e w14 ⟨rfl, h⟩
  clear H KA
  go_wp2_with fail
  go_ret
  have h := h.f1.drop
  have h := h.f1.drop
  have h := h.f1.drop
  have h := h.f1.drop
  exact ⟨rfl, h.back HE3.out⟩
end
end Go.Proofs.YtbclmmneiphcaaaGreatDoor
