/- latchkeylaw10.Book.laid, Book.read (printed by gen_pages2.py). -/
import Derived.Test.YtbclmmneiphcaaaGreatDoorPages1
namespace Go.Proofs.YtbclmmneiphcaaaGreatDoor
open Go.RowKit
theorem BkOk.addP {B : Bk} {k : Nat} (h : BkOk B k) (r : Rc Int) (hr : r.xs.length ≤ 4294967296) : BkOk ⟨B.t, B.n ++ [r]⟩ (k + 1) := by
  obtain ⟨h1, h2, h3, h4⟩ := h
  refine ⟨Nat.le_succ_of_le h1, ?_, h3, ?_⟩
  · simp only [List.length_append, List.length_cons, List.length_nil]; omega
  · intro x hx
    rcases List.mem_append.1 hx with hx | hx
    · exact h4 x hx
    · rw [List.mem_singleton.1 hx]; exact hr
theorem page_links (n : Nd) : n.page.links.length ≤ n.bulk := by
  unfold Nd.page
  split
  · show n.ls.length ≤ _; unfold Nd.bulk; omega
  · exact Nat.zero_le _
theorem page_cells {E w : World} {g : Nat} {t : TypeId} {x0 x1 x2 x3 x4 : Value} (h : ∃ L, Own E w (Hp.blk g t #[x0, x1, x2, x3, x4] :: L)) : w.cell? ⟨g, 0, none⟩ = some x0 ∧ w.cell? ⟨g, 1, none⟩ = some x1 ∧ w.cell? ⟨g, 2, none⟩ = some x2 ∧ w.cell? ⟨g, 3, none⟩ = some x3 ∧ w.cell? ⟨g, 4, none⟩ = some x4 := by
  obtain ⟨_, h⟩ := h
  exact ⟨h.cell 0, h.cell 1, h.cell 2, h.cell 3, h.cell 4⟩
theorem page_in {v : Value} {p : Pg} {a : Ph} (h : Hp.page v p a) : ∃ A c, v = p.val A c ∧ Rds a 1 en64 A p.links.length p.links := by
  obtain ⟨x, b1, b2, _, rfl, ⟨rfl, rfl⟩, h2⟩ := h
  rw [Ph.emp_join]
  obtain ⟨a1, r1, d1, rfl, h1, h2⟩ := h2
  have e6 : r1 = Ph.emp := h2
  subst e6
  have h1' := h1
  obtain ⟨A, c, rfl, -⟩ := h1'
  obtain ⟨g1, -, -, -⟩ := lst_rds h1
  rw [List.length_map] at *
  rw [Ph.join_emp]
  exact ⟨A, c, rfl, g1⟩
theorem val_inj2 {A A2 : Option Addr} {c c2 : Nat} {p : Pg} (h : p.val A c = p.val A2 c2) : A = A2 ∧ c = c2 := by
  simp only [Pg.val, Value.agg.injEq, Array.mk.injEq, List.cons.injEq, Value.slice.injEq, and_true, true_and] at h
  exact h
theorem Pg.read_bulk2 (p : Pg) : p.read.bulk ≤ 131000 + p.links.length := by
  obtain ⟨h1, h2, -⟩ := rNum_one p.body
  obtain ⟨q1, q2, q3, q4, -⟩ := pRun_facts p.leaf (rNum p.body 0 1).2.1 (rNum p.body 0 1).2.2 (rNum p.body 0 1).1.toNat
  have q5 : (pRun p.leaf (rNum p.body 0 1).2.1 (rNum p.body 0 1).2.2 (rNum p.body 0 1).1.toNat).2.1.length ≤ 255 := by
    rw [q2]; split <;> omega
  show sumSz p.last.1 + sumSz p.last.2.1 + p.last.1.length + p.last.2.1.length + p.links.length ≤ _
  unfold Pg.last
  omega
section
variable {E : World} {S : Ph} {L : List Hp}
theorem pages_own (A1 A2 : Option Addr) (c1 c2 : Nat) (pg : Pg) (w : World) (hb : pg.links.length ≤ 1125899906842624) (h : Own E w (Hp.page (pg.val A1 c1) pg :: Hp.page (pg.val A2 c2) pg :: Hp.ro S :: L)) :
    Calls Tryz.prog 16 #[pg.val A1 c1, pg.val A2 c2] w fun e w' => e = .returned (.bool true) ∧ Own E w' (Hp.page (pg.val A1 c1) pg :: Hp.page (pg.val A2 c2) pg :: Hp.ro S :: L) := by
  have h : Own E w (Hp.page (pg.val A2 c2) pg :: Hp.ro S :: Hp.page (pg.val A1 c1) pg :: L) := h.ac (by simp only [Hp.all] <;> ac_rfl)
  obtain ⟨a, ha, da, h⟩ := h.lend
  obtain ⟨a2, ha2, da2, h⟩ := h.f1.lend
  obtain ⟨A', c', hu, hin⟩ := page_in ha
  obtain ⟨rfl, rfl⟩ := val_inj2 hu
  obtain ⟨A'', c'', hq, hin2⟩ := page_in ha2
  obtain ⟨rfl, rfl⟩ := val_inj2 hq
  refine (pages_same A1 A2 c1 c2 pg w hb (hin2.sub Ph.join_l) ((hin.sub Ph.join_l).sub (Ph.join_r da2)) h).mono ?_
  rintro e w' ⟨rfl, h⟩
  have h := Own.give ha da (Own.give ha2 da2 h).f1
  exact ⟨rfl, h.ac (by simp only [Hp.all] <;> ac_rfl)⟩
set_option maxRecDepth 100000 in
set_option maxHeartbeats 8000000 in
theorem booklaid_any (b : Nat) (BB : Bk) (k : Nat) (n : Nd) (v1 u1 : Nv) (w : World) (hk : k ≤ 900) (hB : BkOk BB k) (hb : n.bulk ≤ 4294967280) (hi : NdIn S v1 n) (hj : NdIn S u1 n) (h : Own E w (Hp.ro S :: Hp.bk b BB :: L)) :
    Calls Tryz.prog 10 #[.pointer (some ⟨b, 0, none⟩), v1.val n, u1.val n] w fun e w' => e = .returned (.bool true) ∧ ∃ B', BkOk B' (k + 1) ∧ Own E w' (Hp.ro S :: Hp.bk b B' :: L) := by
  have ks := fun w M hw => page_any (E := E) (S := S) (L := M) v1 n w (by omega) hi hw
  have kx := fun w M hw => xpage_any (E := E) (S := S) (L := M) u1 n w (by omega) hj hw
  have kz := fun w M hw => size_any (E := E) (S := S) (L := M) v1 n w (by omega) hi hw
  have kq := fun w M hw => xsize_any (E := E) (S := S) (L := M) u1 n w (by omega) hj hw
  have hpl : n.page.links.length ≤ 4294967280 := Nat.le_trans (page_links n) hb
  generalize n.page = pg at *
  generalize n.wrong = se at *
  generalize n.size = sz at *
  have h1 : Own E _ (Hp.blk (w.heap.size + 1) NT #[.bool n.leaf, .slice u1.a1 n.ks.length u1.c1, .slice u1.a2 n.vs.length u1.c2, .slice u1.a3 n.ls.length u1.c3] :: Hp.blk w.heap.size NT #[.bool n.leaf, .slice v1.a1 n.ks.length v1.c1, .slice v1.a2 n.vs.length v1.c2, .slice v1.a3 n.ls.length v1.c3] :: Hp.ro S :: Hp.bk b BB :: L) := h.alloc2 _ _
  obtain ⟨g, hg⟩ : ∃ g, g = w.heap.size := ⟨_, rfl⟩
  rw [← hg] at h1
  have H := Lib.hid h1.f2
  have KS := Lib.hid ks
  have KX := Lib.hid kx
  have KZ := Lib.hid kz
  have KQ := Lib.hid kq
  have HBB := Lib.hid hB
  clear h h1 ks kx kz kq hB hi hj hb
  go_enter Tryz.func10, Tryz.ntmps10
  go_wp2_with fail
  rw [← hg]
  clear hg
  with_reducible refine (KS.out _ _ H.out).mono ?_
  clear H KS
  rintro e w1 ⟨pv, rfl, h⟩
  obtain ⟨A1, c1, rfl, h⟩ := h.pageForm
  have h2 := h.alloc (.cells #[VI pg.kind, VI pg.number, VI pg.birth, .slice A1 pg.links.length c1, .string pg.body] PT)
  obtain ⟨g7, hg7⟩ : ∃ x, x = w1.heap.size := ⟨_, rfl⟩
  rw [← hg7] at h2
  have h : Own E _ (Hp.ro S :: Hp.page (pg.val A1 c1) pg :: Hp.bk b BB :: Hp.blk g7 PT #[VI pg.kind, VI pg.number, VI pg.birth, .slice A1 pg.links.length c1, .string pg.body] :: Hp.blk (g + 1) NT #[.bool n.leaf, .slice u1.a1 n.ks.length u1.c1, .slice u1.a2 n.vs.length u1.c2, .slice u1.a3 n.ls.length u1.c3] :: Hp.blk g NT #[.bool n.leaf, .slice v1.a1 n.ks.length v1.c1, .slice v1.a2 n.vs.length v1.c2, .slice v1.a3 n.ls.length v1.c3] :: L) := h2.ac (by unfold Hp.blk; simp only [Hp.all] <;> ac_rfl)
  clear h2
  obtain ⟨p0, p1, p2, p3⟩ := node_cells (g := g + 1) (x0 := .bool n.leaf) (by first | exact ⟨_, h⟩ | exact ⟨_, h.f1⟩ | exact ⟨_, h.f2⟩ | exact ⟨_, h.f3⟩ | exact ⟨_, h.f4⟩ | exact ⟨_, h.f5⟩ | exact ⟨_, h.f6⟩ | exact ⟨_, h.f7⟩ | exact ⟨_, h.f8⟩ | exact ⟨_, h.f9⟩ | exact ⟨_, h.f10⟩ | exact ⟨_, h.f11⟩ | exact ⟨_, h.f12⟩ | exact ⟨_, h.f13⟩ | exact ⟨_, h.f14⟩ | exact ⟨_, h.f15⟩)
  have H := Lib.hid h
  repeat clear h
  go_wp2_with fail
  rw [← hg7]
  clear hg7
  with_reducible refine (KX.out _ _ H.out).mono ?_
  clear H KX p0 p1 p2 p3
  rintro e w2 ⟨pv, rfl, h⟩
  obtain ⟨A2, c2, rfl, h⟩ := h.pageForm
  have h2 := h.alloc (.cells #[VI pg.kind, VI pg.number, VI pg.birth, .slice A2 pg.links.length c2, .string pg.body] PT)
  obtain ⟨g9, hg9⟩ : ∃ x, x = w2.heap.size := ⟨_, rfl⟩
  rw [← hg9] at h2
  have h : Own E _ (Hp.page (pg.val A1 c1) pg :: Hp.page (pg.val A2 c2) pg :: Hp.ro S :: Hp.bk b BB :: Hp.blk g7 PT #[VI pg.kind, VI pg.number, VI pg.birth, .slice A1 pg.links.length c1, .string pg.body] :: Hp.blk g9 PT #[VI pg.kind, VI pg.number, VI pg.birth, .slice A2 pg.links.length c2, .string pg.body] :: Hp.blk (g + 1) NT #[.bool n.leaf, .slice u1.a1 n.ks.length u1.c1, .slice u1.a2 n.vs.length u1.c2, .slice u1.a3 n.ls.length u1.c3] :: Hp.blk g NT #[.bool n.leaf, .slice v1.a1 n.ks.length v1.c1, .slice v1.a2 n.vs.length v1.c2, .slice v1.a3 n.ls.length v1.c3] :: L) := h2.ac (by unfold Hp.blk; simp only [Hp.all] <;> ac_rfl)
  clear h2
  obtain ⟨p0, p1, p2, p3, p4⟩ := page_cells (g := g7) (x0 := VI pg.kind) (by first | exact ⟨_, h⟩ | exact ⟨_, h.f1⟩ | exact ⟨_, h.f2⟩ | exact ⟨_, h.f3⟩ | exact ⟨_, h.f4⟩ | exact ⟨_, h.f5⟩ | exact ⟨_, h.f6⟩ | exact ⟨_, h.f7⟩ | exact ⟨_, h.f8⟩ | exact ⟨_, h.f9⟩ | exact ⟨_, h.f10⟩ | exact ⟨_, h.f11⟩ | exact ⟨_, h.f12⟩ | exact ⟨_, h.f13⟩ | exact ⟨_, h.f14⟩ | exact ⟨_, h.f15⟩)
  obtain ⟨s0, s1, s2, s3, s4⟩ := page_cells (g := g9) (x0 := VI pg.kind) (by first | exact ⟨_, h⟩ | exact ⟨_, h.f1⟩ | exact ⟨_, h.f2⟩ | exact ⟨_, h.f3⟩ | exact ⟨_, h.f4⟩ | exact ⟨_, h.f5⟩ | exact ⟨_, h.f6⟩ | exact ⟨_, h.f7⟩ | exact ⟨_, h.f8⟩ | exact ⟨_, h.f9⟩ | exact ⟨_, h.f10⟩ | exact ⟨_, h.f11⟩ | exact ⟨_, h.f12⟩ | exact ⟨_, h.f13⟩ | exact ⟨_, h.f14⟩ | exact ⟨_, h.f15⟩)
  have k1 := fun w M hw => pages_own (E := E) (S := S) (L := M) A1 A2 c1 c2 pg w (by omega) hw
  have K1 := Lib.hid k1
  have H := Lib.hid h
  clear k1
  repeat clear h
  go_wp2_with fail
  rw [← hg9]
  clear hg9 p0 p1 p2 p3 p4 s0 s1 s2 s3 s4
  with_reducible refine (K1.out _ _ H.out).mono ?_
  clear H K1
  rintro e w3 ⟨rfl, h⟩
  have h : Own E _ (Hp.page (pg.val A1 c1) pg :: Hp.ro S :: Hp.bk b BB :: Hp.blk g7 PT #[VI pg.kind, VI pg.number, VI pg.birth, .slice A1 pg.links.length c1, .string pg.body] :: Hp.blk (g + 1) NT #[.bool n.leaf, .slice u1.a1 n.ks.length u1.c1, .slice u1.a2 n.vs.length u1.c2, .slice u1.a3 n.ls.length u1.c3] :: Hp.blk g NT #[.bool n.leaf, .slice v1.a1 n.ks.length v1.c1, .slice v1.a2 n.vs.length v1.c2, .slice v1.a3 n.ls.length v1.c3] :: L) := (show Own E _ (Hp.page (pg.val A2 c2) pg :: Hp.blk g9 PT #[VI pg.kind, VI pg.number, VI pg.birth, .slice A2 pg.links.length c2, .string pg.body] :: Hp.page (pg.val A1 c1) pg :: Hp.ro S :: Hp.bk b BB :: Hp.blk g7 PT #[VI pg.kind, VI pg.number, VI pg.birth, .slice A1 pg.links.length c1, .string pg.body] :: Hp.blk (g + 1) NT #[.bool n.leaf, .slice u1.a1 n.ks.length u1.c1, .slice u1.a2 n.vs.length u1.c2, .slice u1.a3 n.ls.length u1.c3] :: Hp.blk g NT #[.bool n.leaf, .slice v1.a1 n.ks.length v1.c1, .slice v1.a2 n.vs.length v1.c2, .slice v1.a3 n.ls.length v1.c3] :: L) from h.ac (by simp only [Hp.all] <;> ac_rfl)).drop.drop
  obtain ⟨p0, p1, p2, p3, p4⟩ := page_cells (g := g7) (x0 := VI pg.kind) (by first | exact ⟨_, h⟩ | exact ⟨_, h.f1⟩ | exact ⟨_, h.f2⟩ | exact ⟨_, h.f3⟩ | exact ⟨_, h.f4⟩ | exact ⟨_, h.f5⟩ | exact ⟨_, h.f6⟩ | exact ⟨_, h.f7⟩ | exact ⟨_, h.f8⟩ | exact ⟨_, h.f9⟩ | exact ⟨_, h.f10⟩ | exact ⟨_, h.f11⟩ | exact ⟨_, h.f12⟩ | exact ⟨_, h.f13⟩ | exact ⟨_, h.f14⟩ | exact ⟨_, h.f15⟩)
  have kb := fun w M hw => bookpage_any (E := E) (S := S) (L := M) b BB A1 c1 pg w (by omega) (Nat.le_trans HBB.out.n (by omega)) hw
  have KB := Lib.hid kb
  have H := Lib.hid h
  clear kb
  repeat clear h
  go_wp2_with fail
  clear p0 p1 p2 p3 p4
  with_reducible refine (KB.out _ _ H.out).mono ?_
  clear H KB
  rintro e w5 ⟨rfl, r, hr, h⟩
  have hB1 := HBB.out.addP r (by rw [hr]; omega)
  obtain ⟨B1, hB1e⟩ : ∃ B1, B1 = (⟨BB.t, BB.n ++ [r]⟩ : Bk) := ⟨_, rfl⟩
  rw [← hB1e] at hB1 h
  clear hB1e hr
  have h : Own E _ (Hp.ro S :: Hp.bk b B1 :: Hp.blk (g + 1) NT #[.bool n.leaf, .slice u1.a1 n.ks.length u1.c1, .slice u1.a2 n.vs.length u1.c2, .slice u1.a3 n.ls.length u1.c3] :: Hp.blk g NT #[.bool n.leaf, .slice v1.a1 n.ks.length v1.c1, .slice v1.a2 n.vs.length v1.c2, .slice v1.a3 n.ls.length v1.c3] :: L) := (show Own E _ (Hp.blk g7 PT #[VI pg.kind, VI pg.number, VI pg.birth, .slice A1 pg.links.length c1, .string pg.body] :: Hp.ro S :: Hp.bk b B1 :: Hp.blk (g + 1) NT #[.bool n.leaf, .slice u1.a1 n.ks.length u1.c1, .slice u1.a2 n.vs.length u1.c2, .slice u1.a3 n.ls.length u1.c3] :: Hp.blk g NT #[.bool n.leaf, .slice v1.a1 n.ks.length v1.c1, .slice v1.a2 n.vs.length v1.c2, .slice v1.a3 n.ls.length v1.c3] :: L) from h.ac (by simp only [Hp.all] <;> ac_rfl)).drop
  have HC : Hid (∀ w', (∃ L', Own E w' (Hp.blk g NT #[.bool n.leaf, .slice v1.a1 n.ks.length v1.c1, .slice v1.a2 n.vs.length v1.c2, .slice v1.a3 n.ls.length v1.c3] :: L')) → (∃ L', Own E w' (Hp.blk (g + 1) NT #[.bool n.leaf, .slice u1.a1 n.ks.length u1.c1, .slice u1.a2 n.vs.length u1.c2, .slice u1.a3 n.ls.length u1.c3] :: L')) → w'.rangeAt g 0 [.bool n.leaf, .slice v1.a1 n.ks.length v1.c1, .slice v1.a2 n.vs.length v1.c2, .slice v1.a3 n.ls.length v1.c3] ∧ w'.rangeAt (g + 1) 0 [.bool n.leaf, .slice u1.a1 n.ks.length u1.c1, .slice u1.a2 n.vs.length u1.c2, .slice u1.a3 n.ls.length u1.c3]) := Lib.hid fun w' h3 h4 => by
    obtain ⟨_, h3⟩ := h3
    obtain ⟨_, h4⟩ := h4
    exact ⟨h3.range 0 _ (fun j u hu => by simpa using hu), h4.range 0 _ (fun j u hu => by simpa using hu)⟩
  have HB1 := Lib.hid hB1
  have H := Lib.hid h.drew
  clear hB1
  repeat clear h
  go_wp2_with fail
  have h := H.out
  clear H
  refine wp_region_text [7, 9] (fun w' => w'.rangeAt g 0 [.bool n.leaf, .slice v1.a1 n.ks.length v1.c1, .slice v1.a2 n.vs.length v1.c2, .slice v1.a3 n.ls.length v1.c3] ∧ w'.rangeAt (g + 1) 0 [.bool n.leaf, .slice u1.a1 n.ks.length u1.c1, .slice u1.a2 n.vs.length u1.c2, .slice u1.a3 n.ls.length u1.c3]) (by kernel_rfl) ?_ (fun hS => ?_)
  · exact HC.out _ (by first | exact ⟨_, h⟩ | exact ⟨_, h.f1⟩ | exact ⟨_, h.f2⟩ | exact ⟨_, h.f3⟩ | exact ⟨_, h.f4⟩ | exact ⟨_, h.f5⟩ | exact ⟨_, h.f6⟩ | exact ⟨_, h.f7⟩ | exact ⟨_, h.f8⟩ | exact ⟨_, h.f9⟩ | exact ⟨_, h.f10⟩ | exact ⟨_, h.f11⟩ | exact ⟨_, h.f12⟩ | exact ⟨_, h.f13⟩ | exact ⟨_, h.f14⟩ | exact ⟨_, h.f15⟩) (by first | exact ⟨_, h⟩ | exact ⟨_, h.f1⟩ | exact ⟨_, h.f2⟩ | exact ⟨_, h.f3⟩ | exact ⟨_, h.f4⟩ | exact ⟨_, h.f5⟩ | exact ⟨_, h.f6⟩ | exact ⟨_, h.f7⟩ | exact ⟨_, h.f8⟩ | exact ⟨_, h.f9⟩ | exact ⟨_, h.f10⟩ | exact ⟨_, h.f11⟩ | exact ⟨_, h.f12⟩ | exact ⟨_, h.f13⟩ | exact ⟨_, h.f14⟩ | exact ⟨_, h.f15⟩)
  refine wpAnyG_pure (i := 0) (oi := ⟨some 28, _, _, _, _, _⟩) (v := ?_) rfl (by kernel_rfl) (by kernel_rfl) (by kernel_rfl) (by rfl) (fun _ _ _ h => h) (by rfl) ?_ ?_
  rotate_left
  · intro w
    go_simp
    first | done | with_reducible rfl
  try simp only [Act.put, List.setIfInBounds_toArray, List.set_cons_zero, List.set_cons_succ]
  refine wpAnyG_pure (i := 1) (oi := ⟨some 29, _, _, _, _, _⟩) (v := ?_) rfl (by kernel_rfl) (by kernel_rfl) (by kernel_rfl) (by rfl) (fun _ _ _ h => h) (by rfl) ?_ ?_
  rotate_left
  · intro w
    go_simp
    first | done | with_reducible rfl
  try simp only [Act.put, List.setIfInBounds_toArray, List.set_cons_zero, List.set_cons_succ]
  refine wpAnyG_pure (i := 2) (oi := ⟨some 30, _, _, _, _, _⟩) (v := ?_) rfl (by kernel_rfl) (by kernel_rfl) (by kernel_rfl) (by rfl) (fun _ _ _ h => h) (by rfl) ?_ ?_
  rotate_left
  · intro w
    go_simp
    first | done | with_reducible rfl
  try simp only [Act.put, List.setIfInBounds_toArray, List.set_cons_zero, List.set_cons_succ]
  refine wpAnyG_pure (i := 3) (oi := ⟨some 31, _, _, _, _, _⟩) (v := ?_) rfl (by kernel_rfl) (by kernel_rfl) (by kernel_rfl) (by rfl) (fun _ _ _ h => h) (by rfl) ?_ ?_
  rotate_left
  · intro w
    go_simp
    first | done | with_reducible rfl
  try simp only [Act.put, List.setIfInBounds_toArray, List.set_cons_zero, List.set_cons_succ]
  refine wpAnyG_pure (i := 4) (oi := ⟨some 32, _, _, _, _, _⟩) (v := ?_) rfl (by kernel_rfl) (by kernel_rfl) (by kernel_rfl) (by rfl) (fun _ _ _ h => h) (by rfl) ?_ ?_
  rotate_left
  · intro w
    go_simp
    first | done | with_reducible rfl
  try simp only [Act.put, List.setIfInBounds_toArray, List.set_cons_zero, List.set_cons_succ]
  refine wpAnyG_pure (i := 5) (oi := ⟨some 33, _, _, _, _, _⟩) (v := ?_) rfl (by kernel_rfl) (by kernel_rfl) (by kernel_rfl) (by rfl) (fun _ _ _ h => h) (by rfl) ?_ ?_
  rotate_left
  · intro w
    go_simp
    first | done | with_reducible rfl
  try simp only [Act.put, List.setIfInBounds_toArray, List.set_cons_zero, List.set_cons_succ]
  refine wpAnyG_pure (i := 6) (oi := ⟨some 34, _, _, _, _, _⟩) (v := ?_) rfl (by kernel_rfl) (by kernel_rfl) (by kernel_rfl) (by rfl) (fun _ _ _ h => h) (by rfl) ?_ ?_
  rotate_left
  · intro w
    go_simp
    first | done | with_reducible rfl
  try simp only [Act.put, List.setIfInBounds_toArray, List.set_cons_zero, List.set_cons_succ]
  refine wpAnyG_load (i := 7) (oi := ⟨some 35, _, _, _, _, _⟩) (v := (.agg #[.bool n.leaf, .slice v1.a1 n.ks.length v1.c1, .slice v1.a2 n.vs.length v1.c2, .slice v1.a3 n.ls.length v1.c3])) rfl (by kernel_rfl) (by kernel_rfl) (by kernel_rfl) (by rfl) (fun _ _ _ h => h) (by rfl) ?_ (by assumption) ?_
  · intro w hS
    exact exec_load_mid NT (.tmp 4) rfl g 0 (by rfl) [.bool n.leaf, .slice v1.a1 n.ks.length v1.c1, .slice v1.a2 n.vs.length v1.c2, .slice v1.a3 n.ls.length v1.c3] _ hS.1 Tryz.underlying25 rfl (by kernel_rfl)
  try simp only [Act.put, List.setIfInBounds_toArray, List.set_cons_zero, List.set_cons_succ]
  refine wpAnyG_load (i := 9) (oi := ⟨some 37, _, _, _, _, _⟩) (v := (.agg #[.bool n.leaf, .slice u1.a1 n.ks.length u1.c1, .slice u1.a2 n.vs.length u1.c2, .slice u1.a3 n.ls.length u1.c3])) rfl (by kernel_rfl) (by kernel_rfl) (by kernel_rfl) (by rfl) (fun _ _ _ h => h) (by rfl) ?_ (by assumption) ?_
  · intro w hS
    exact exec_load_mid NT (.tmp 5) rfl (g + 1) 0 (by rfl) [.bool n.leaf, .slice u1.a1 n.ks.length u1.c1, .slice u1.a2 n.vs.length u1.c2, .slice u1.a3 n.ls.length u1.c3] _ hS.2 Tryz.underlying25 rfl (by kernel_rfl)
  try simp only [Act.put, List.setIfInBounds_toArray, List.set_cons_zero, List.set_cons_succ]
  refine wpAnyG_keep (i := 8) (oi := ⟨some 36, _, _, _, _, _⟩) (by kernel_rfl) rfl (fun K hK => ?_)
  rw [if_pos (by rfl)]
  go_simp
  with_reducible refine (KZ.out _ _ h).mono ?_
  rintro e w6 ⟨rfl, h⟩
  refine hK.out _ _ ?_ (fun hS => ?_)
  · exact HC.out _ (by first | exact ⟨_, h⟩ | exact ⟨_, h.f1⟩ | exact ⟨_, h.f2⟩ | exact ⟨_, h.f3⟩ | exact ⟨_, h.f4⟩ | exact ⟨_, h.f5⟩ | exact ⟨_, h.f6⟩ | exact ⟨_, h.f7⟩ | exact ⟨_, h.f8⟩ | exact ⟨_, h.f9⟩ | exact ⟨_, h.f10⟩ | exact ⟨_, h.f11⟩ | exact ⟨_, h.f12⟩ | exact ⟨_, h.f13⟩ | exact ⟨_, h.f14⟩ | exact ⟨_, h.f15⟩) (by first | exact ⟨_, h⟩ | exact ⟨_, h.f1⟩ | exact ⟨_, h.f2⟩ | exact ⟨_, h.f3⟩ | exact ⟨_, h.f4⟩ | exact ⟨_, h.f5⟩ | exact ⟨_, h.f6⟩ | exact ⟨_, h.f7⟩ | exact ⟨_, h.f8⟩ | exact ⟨_, h.f9⟩ | exact ⟨_, h.f10⟩ | exact ⟨_, h.f11⟩ | exact ⟨_, h.f12⟩ | exact ⟨_, h.f13⟩ | exact ⟨_, h.f14⟩ | exact ⟨_, h.f15⟩)
  clear hK K
  try simp only [Act.put, List.setIfInBounds_toArray, List.set_cons_zero, List.set_cons_succ]
  refine wpAnyG_keep (i := 10) (oi := ⟨some 38, _, _, _, _, _⟩) (by kernel_rfl) rfl (fun K hK => ?_)
  rw [if_pos (by rfl)]
  go_simp
  with_reducible refine (KQ.out _ _ h).mono ?_
  rintro e w7 ⟨rfl, h⟩
  refine hK.out _ _ ?_ (fun hS => ?_)
  · exact HC.out _ (by first | exact ⟨_, h⟩ | exact ⟨_, h.f1⟩ | exact ⟨_, h.f2⟩ | exact ⟨_, h.f3⟩ | exact ⟨_, h.f4⟩ | exact ⟨_, h.f5⟩ | exact ⟨_, h.f6⟩ | exact ⟨_, h.f7⟩ | exact ⟨_, h.f8⟩ | exact ⟨_, h.f9⟩ | exact ⟨_, h.f10⟩ | exact ⟨_, h.f11⟩ | exact ⟨_, h.f12⟩ | exact ⟨_, h.f13⟩ | exact ⟨_, h.f14⟩ | exact ⟨_, h.f15⟩) (by first | exact ⟨_, h⟩ | exact ⟨_, h.f1⟩ | exact ⟨_, h.f2⟩ | exact ⟨_, h.f3⟩ | exact ⟨_, h.f4⟩ | exact ⟨_, h.f5⟩ | exact ⟨_, h.f6⟩ | exact ⟨_, h.f7⟩ | exact ⟨_, h.f8⟩ | exact ⟨_, h.f9⟩ | exact ⟨_, h.f10⟩ | exact ⟨_, h.f11⟩ | exact ⟨_, h.f12⟩ | exact ⟨_, h.f13⟩ | exact ⟨_, h.f14⟩ | exact ⟨_, h.f15⟩)
  clear hK K
  try simp only [Act.put, List.setIfInBounds_toArray, List.set_cons_zero, List.set_cons_succ]
  refine wpAnyG_pure (i := 11) (oi := ⟨some 39, _, _, _, _, _⟩) (v := ?_) rfl (by kernel_rfl) (by kernel_rfl) (by kernel_rfl) (by rfl) (fun _ _ _ h => h) (by rfl) ?_ ?_
  rotate_left
  · intro w
    go_simp
    first | done | with_reducible rfl
  try simp only [Act.put, List.setIfInBounds_toArray, List.set_cons_zero, List.set_cons_succ]
  refine wpAnyG_pure (i := 12) (oi := ⟨some 40, _, _, _, _, _⟩) (v := ?_) rfl (by kernel_rfl) (by kernel_rfl) (by kernel_rfl) (by rfl) (fun _ _ _ h => h) (by rfl) ?_ ?_
  rotate_left
  · intro w
    go_simp
    first | done | with_reducible rfl
  try simp only [Act.put, List.setIfInBounds_toArray, List.set_cons_zero, List.set_cons_succ]
  refine wpAnyG_pure (i := 13) (oi := ⟨some 6, _, _, _, _, _⟩) (v := ?_) rfl (by kernel_rfl) (by kernel_rfl) (by kernel_rfl) (by rfl) (fun _ _ _ h => h) (by rfl) ?_ ?_
  rotate_left
  · intro w
    go_simp
    first | done | with_reducible rfl
  try simp only [Act.put, List.setIfInBounds_toArray, List.set_cons_zero, List.set_cons_succ]
  refine wpAnyG_done (by kernel_rfl) ?_ _
  refine NoPanic.normal ?_
  have h : Own E _ (Hp.ro S :: Hp.bk b B1 :: L) := (show Own E _ (Hp.blk (g + 1) NT #[.bool n.leaf, .slice u1.a1 n.ks.length u1.c1, .slice u1.a2 n.vs.length u1.c2, .slice u1.a3 n.ls.length u1.c3] :: Hp.blk g NT #[.bool n.leaf, .slice v1.a1 n.ks.length v1.c1, .slice v1.a2 n.vs.length v1.c2, .slice v1.a3 n.ls.length v1.c3] :: Hp.ro S :: Hp.bk b B1 :: L) from h.ac (by simp only [Hp.all] <;> ac_rfl)).drop.drop
  have H := Lib.hid h
  repeat clear h
  go_wp2_with fail
  go_ret
  exact ⟨rfl, _, HB1.out, H.out⟩
set_option maxRecDepth 100000 in
set_option maxHeartbeats 8000000 in
theorem bookread_any (b : Nat) (BB : Bk) (k : Nat) (p : Pg) (A1 A2 : Option Addr) (c1 c2 : Nat) (w : World) (hG : Laid0 E (Hp.ro S :: L)) (hk : k ≤ 900) (hB : BkOk BB k) (hb : p.links.length ≤ 4000000000) (hbs : p.body.size ≤ 1000000000000) (hi : Rds S 1 en64 A1 p.links.length p.links) (hj : Rds S 1 en64 A2 p.links.length p.links) (h : Own E w (Hp.ro S :: Hp.bk b BB :: L)) :
    Calls Tryz.prog 15 #[.pointer (some ⟨b, 0, none⟩), p.val A1 c1, p.val A2 c2] w fun e w' => e = .returned (.bool true) ∧ ∃ B', BkOk B' (k + 2) ∧ Own E w' (Hp.ro S :: Hp.bk b B' :: L) := by
  have ks := fun (B1 B2 B3 : Hp) w hw => parse_any (E := E) (S := S) (L := B1 :: B2 :: B3 :: L) A1 c1 p w (fun w hw => hG w hw.f1.drop.f1.drop.f1.drop) (by omega) hbs hi hw
  have kx := fun w M hw => xparse_any (E := E) (S := S) (L := M) A2 c2 p w hb hbs hj hw
  have hmb : p.node.bulk ≤ 4294967290 := by
    have h1 := Pg.read_bulk2 p
    unfold Pg.node
    split
    · exact Nat.zero_le _
    · omega
  generalize p.node = m at *
  generalize p.wrong = se at *
  have h1 : Own E _ (Hp.blk (w.heap.size + 1) PT #[VI p.kind, VI p.number, VI p.birth, .slice A2 p.links.length c2, .string p.body] :: Hp.blk w.heap.size PT #[VI p.kind, VI p.number, VI p.birth, .slice A1 p.links.length c1, .string p.body] :: Hp.ro S :: Hp.bk b BB :: L) := h.alloc2 _ _
  obtain ⟨g, hg⟩ : ∃ g, g = w.heap.size := ⟨_, rfl⟩
  rw [← hg] at h1
  have H := Lib.hid h1
  have KS := Lib.hid ks
  have KX := Lib.hid kx
  have HBB := Lib.hid hB
  clear h h1 ks kx hB hi hj hb hG
  go_enter Tryz.func15, Tryz.ntmps15
  go_wp2_with fail
  rw [← hg]
  clear hg
  with_reducible refine (KS.out _ _ _ _ (show Own E _ (Hp.ro S :: Hp.bk b BB :: Hp.blk g PT #[VI p.kind, VI p.number, VI p.birth, .slice A1 p.links.length c1, .string p.body] :: Hp.blk (g + 1) PT #[VI p.kind, VI p.number, VI p.birth, .slice A2 p.links.length c2, .string p.body] :: L) from H.out.ac (by simp only [Hp.all] <;> ac_rfl))).mono ?_
  clear H KS
  rintro e w1 ⟨nv, rfl, h⟩
  obtain ⟨q1, rfl, h⟩ := h.nodeForm
  have h2 := h.alloc (.cells #[.bool m.leaf, .slice q1.a1 m.ks.length q1.c1, .slice q1.a2 m.vs.length q1.c2, .slice q1.a3 m.ls.length q1.c3] NT)
  obtain ⟨g7, hg7⟩ : ∃ x, x = w1.heap.size := ⟨_, rfl⟩
  rw [← hg7] at h2
  have h : Own E _ (Hp.ro S :: Hp.node (q1.val m) m :: Hp.bk b BB :: Hp.blk g7 NT #[.bool m.leaf, .slice q1.a1 m.ks.length q1.c1, .slice q1.a2 m.vs.length q1.c2, .slice q1.a3 m.ls.length q1.c3] :: Hp.blk (g + 1) PT #[VI p.kind, VI p.number, VI p.birth, .slice A2 p.links.length c2, .string p.body] :: Hp.blk g PT #[VI p.kind, VI p.number, VI p.birth, .slice A1 p.links.length c1, .string p.body] :: L) := h2.ac (by unfold Hp.blk; simp only [Hp.all] <;> ac_rfl)
  clear h2
  obtain ⟨p0, p1, p2, p3, p4⟩ := page_cells (g := g + 1) (x0 := VI p.kind) (by first | exact ⟨_, h⟩ | exact ⟨_, h.f1⟩ | exact ⟨_, h.f2⟩ | exact ⟨_, h.f3⟩ | exact ⟨_, h.f4⟩ | exact ⟨_, h.f5⟩ | exact ⟨_, h.f6⟩ | exact ⟨_, h.f7⟩ | exact ⟨_, h.f8⟩ | exact ⟨_, h.f9⟩ | exact ⟨_, h.f10⟩ | exact ⟨_, h.f11⟩ | exact ⟨_, h.f12⟩ | exact ⟨_, h.f13⟩ | exact ⟨_, h.f14⟩ | exact ⟨_, h.f15⟩)
  have H := Lib.hid h
  repeat clear h
  go_wp2_with fail
  rw [← hg7]
  clear hg7
  with_reducible refine (KX.out _ _ H.out).mono ?_
  clear H KX p0 p1 p2 p3 p4
  rintro e w2 ⟨nv, rfl, h⟩
  obtain ⟨q2, rfl, h⟩ := h.nodeForm
  have h2 := h.alloc (.cells #[.bool m.leaf, .slice q2.a1 m.ks.length q2.c1, .slice q2.a2 m.vs.length q2.c2, .slice q2.a3 m.ls.length q2.c3] NT)
  obtain ⟨g9, hg9⟩ : ∃ x, x = w2.heap.size := ⟨_, rfl⟩
  rw [← hg9] at h2
  have h : Own E _ (Hp.node (q1.val m) m :: Hp.node (q2.val m) m :: Hp.ro S :: Hp.bk b BB :: Hp.blk g7 NT #[.bool m.leaf, .slice q1.a1 m.ks.length q1.c1, .slice q1.a2 m.vs.length q1.c2, .slice q1.a3 m.ls.length q1.c3] :: Hp.blk g9 NT #[.bool m.leaf, .slice q2.a1 m.ks.length q2.c1, .slice q2.a2 m.vs.length q2.c2, .slice q2.a3 m.ls.length q2.c3] :: Hp.blk (g + 1) PT #[VI p.kind, VI p.number, VI p.birth, .slice A2 p.links.length c2, .string p.body] :: Hp.blk g PT #[VI p.kind, VI p.number, VI p.birth, .slice A1 p.links.length c1, .string p.body] :: L) := h2.ac (by unfold Hp.blk; simp only [Hp.all] <;> ac_rfl)
  clear h2
  obtain ⟨p0, p1, p2, p3⟩ := node_cells (g := g7) (x0 := .bool m.leaf) (by first | exact ⟨_, h⟩ | exact ⟨_, h.f1⟩ | exact ⟨_, h.f2⟩ | exact ⟨_, h.f3⟩ | exact ⟨_, h.f4⟩ | exact ⟨_, h.f5⟩ | exact ⟨_, h.f6⟩ | exact ⟨_, h.f7⟩ | exact ⟨_, h.f8⟩ | exact ⟨_, h.f9⟩ | exact ⟨_, h.f10⟩ | exact ⟨_, h.f11⟩ | exact ⟨_, h.f12⟩ | exact ⟨_, h.f13⟩ | exact ⟨_, h.f14⟩ | exact ⟨_, h.f15⟩)
  obtain ⟨s0, s1, s2, s3⟩ := node_cells (g := g9) (x0 := .bool m.leaf) (by first | exact ⟨_, h⟩ | exact ⟨_, h.f1⟩ | exact ⟨_, h.f2⟩ | exact ⟨_, h.f3⟩ | exact ⟨_, h.f4⟩ | exact ⟨_, h.f5⟩ | exact ⟨_, h.f6⟩ | exact ⟨_, h.f7⟩ | exact ⟨_, h.f8⟩ | exact ⟨_, h.f9⟩ | exact ⟨_, h.f10⟩ | exact ⟨_, h.f11⟩ | exact ⟨_, h.f12⟩ | exact ⟨_, h.f13⟩ | exact ⟨_, h.f14⟩ | exact ⟨_, h.f15⟩)
  have k1 := fun w M hw => nodes_own (E := E) (S := S) (L := M) q1 q2 m w (by omega) hw
  have K1 := Lib.hid k1
  have H := Lib.hid h
  clear k1
  repeat clear h
  go_wp2_with fail
  rw [← hg9]
  clear hg9 p0 p1 p2 p3 s0 s1 s2 s3
  with_reducible refine (K1.out _ _ H.out).mono ?_
  clear H K1
  rintro e w3 ⟨rfl, h⟩
  have h : Own E _ (Hp.node (q1.val m) m :: Hp.ro S :: Hp.bk b BB :: Hp.blk g7 NT #[.bool m.leaf, .slice q1.a1 m.ks.length q1.c1, .slice q1.a2 m.vs.length q1.c2, .slice q1.a3 m.ls.length q1.c3] :: L) := (show Own E _ (Hp.node (q2.val m) m :: Hp.blk g9 NT #[.bool m.leaf, .slice q2.a1 m.ks.length q2.c1, .slice q2.a2 m.vs.length q2.c2, .slice q2.a3 m.ls.length q2.c3] :: Hp.blk (g + 1) PT #[VI p.kind, VI p.number, VI p.birth, .slice A2 p.links.length c2, .string p.body] :: Hp.blk g PT #[VI p.kind, VI p.number, VI p.birth, .slice A1 p.links.length c1, .string p.body] :: Hp.node (q1.val m) m :: Hp.ro S :: Hp.bk b BB :: Hp.blk g7 NT #[.bool m.leaf, .slice q1.a1 m.ks.length q1.c1, .slice q1.a2 m.vs.length q1.c2, .slice q1.a3 m.ls.length q1.c3] :: L) from h.ac (by simp only [Hp.all] <;> ac_rfl)).drop.drop.drop.drop
  obtain ⟨p0, p1, p2, p3⟩ := node_cells (g := g7) (x0 := .bool m.leaf) (by first | exact ⟨_, h⟩ | exact ⟨_, h.f1⟩ | exact ⟨_, h.f2⟩ | exact ⟨_, h.f3⟩ | exact ⟨_, h.f4⟩ | exact ⟨_, h.f5⟩ | exact ⟨_, h.f6⟩ | exact ⟨_, h.f7⟩ | exact ⟨_, h.f8⟩ | exact ⟨_, h.f9⟩ | exact ⟨_, h.f10⟩ | exact ⟨_, h.f11⟩ | exact ⟨_, h.f12⟩ | exact ⟨_, h.f13⟩ | exact ⟨_, h.f14⟩ | exact ⟨_, h.f15⟩)
  have kb := fun w M hw => booknode_any (E := E) (S := S) (L := M) b BB (q1.val m) m w hmb (Nat.le_trans HBB.out.t (by omega)) (Nat.le_trans HBB.out.n (by omega)) hw
  have KB := Lib.hid kb
  have H := Lib.hid h
  clear kb
  repeat clear h
  go_wp2_with fail
  clear p0 p1 p2 p3
  with_reducible refine (KB.out _ _ H.out).mono ?_
  clear H KB
  rintro e w5 ⟨rfl, q', c', h⟩
  have hB1 := HBB.out.addN q' c' hmb
  have HB1 := Lib.hid hB1
  have h : Own E _ (Hp.ro S :: Hp.bk b (BB.addN q' c' m) :: L) := (show Own E _ (Hp.blk g7 NT #[.bool m.leaf, .slice q1.a1 m.ks.length q1.c1, .slice q1.a2 m.vs.length q1.c2, .slice q1.a3 m.ls.length q1.c3] :: Hp.ro S :: Hp.bk b (BB.addN q' c' m) :: L) from h.ac (by simp only [Hp.all] <;> ac_rfl)).drop
  have H := Lib.hid h
  clear hB1
  repeat clear h
  go_wp2_with fail
  go_ret
  exact ⟨rfl, _, HB1.out, H.out⟩
end
end Go.Proofs.YtbclmmneiphcaaaGreatDoor
