/- latchkeylaw10.Book: what it holds; Book.node, Book.page. -/
import Derived.Test.YtbclmmneiphcaaaGreatDoorBook1
import Derived.Test.YtbclmmneiphcaaaGreatDoorFar
namespace Go.Proofs.YtbclmmneiphcaaaGreatDoor
open Go.RowKit
abbrev LLST : TypeId := 33
abbrev LLIT : TypeId := 34
abbrev BKT : TypeId := 36
theorem sst_info : (Tryz.prog.info? LST).map (fun i => (i.zero, i.size, i.bytes)) = some (some (.slice none 0 0), 1, 24) := by kernel_rfl
theorem sit_info : (Tryz.prog.info? LIT).map (fun i => (i.zero, i.size, i.bytes)) = some (some (.slice none 0 0), 1, 24) := by kernel_rfl
theorem llst_u : Tryz.prog.underlying LLST = some (.slice LST) := by kernel_rfl
theorem llit_u : Tryz.prog.underlying LLIT = some (.slice LIT) := by kernel_rfl
/-- A list that is kept, its copy, and what both say. -/
structure Rc (α : Type) where
  v : Value
  wv : Value
  xs : List α
structure Bk where
  t : List (Rc ByteArray)
  n : List (Rc Int)
def Bk.nil : Bk := ⟨[], []⟩
def famT (l : List (Rc ByteArray)) : Hp := Hp.all (l.map fun r => Hp.strs r.v r.xs)
def famT' (l : List (Rc ByteArray)) : Hp := Hp.all (l.map fun r => Hp.strs r.wv r.xs)
def famN (l : List (Rc Int)) : Hp := Hp.all (l.map fun r => Hp.ints r.v r.xs)
def famN' (l : List (Rc Int)) : Hp := Hp.all (l.map fun r => Hp.ints r.wv r.xs)
def Hp.fams (B : Bk) : Hp := Hp.all [famT B.t, famT' B.t, famN B.n, famN' B.n]
def Hp.bk (b : Nat) (B : Bk) : Hp := Hp.ex fun q : Value × Value × Value × Value => Hp.all [Hp.blk b BKT #[q.1, q.2.1, q.2.2.1, q.2.2.2], Hp.lst LST q.1 (B.t.map Rc.v), Hp.lst LST q.2.1 (B.t.map Rc.wv), Hp.lst LIT q.2.2.1 (B.n.map Rc.v), Hp.lst LIT q.2.2.2 (B.n.map Rc.wv), Hp.fams B]
section
variable {E w : World} {L : List Hp} {b : Nat} {B : Bk} {v : Value} {n : Nd}
theorem Own.ofBk (h : Own E w (Hp.bk b B :: L)) : ∃ q0 q1 q2 q3, Own E w (Hp.blk b BKT #[q0, q1, q2, q3] :: Hp.lst LST q0 (B.t.map Rc.v) :: Hp.lst LST q1 (B.t.map Rc.wv) :: Hp.lst LIT q2 (B.n.map Rc.v) :: Hp.lst LIT q3 (B.n.map Rc.wv) :: Hp.fams B :: L) := by
  obtain ⟨⟨q0, q1, q2, q3⟩, h⟩ := Own.ex.1 h
  exact ⟨q0, q1, q2, q3, Own.star.1 h⟩
theorem Own.toBk {q0 q1 q2 q3 : Value} (h : Own E w (Hp.blk b BKT #[q0, q1, q2, q3] :: Hp.lst LST q0 (B.t.map Rc.v) :: Hp.lst LST q1 (B.t.map Rc.wv) :: Hp.lst LIT q2 (B.n.map Rc.v) :: Hp.lst LIT q3 (B.n.map Rc.wv) :: Hp.fams B :: L)) : Own E w (Hp.bk b B :: L) :=
  Own.ex.2 ⟨(q0, q1, q2, q3), Own.star.2 h⟩
/-- A node's lists, by where they lie. -/
theorem Own.nodeForm (h : Own E w (Hp.node v n :: L)) : ∃ q : Nv, v = q.val n ∧ Own E w (Hp.node (q.val n) n :: L) := by
  have h' := h
  obtain ⟨_, _, _, _, _, a, _, _, _, hA, _⟩ := h'
  obtain ⟨q, rfl, _⟩ := node_in hA
  exact ⟨q, rfl, h⟩
theorem sep_e (A : Hp) : Hp.sep A (Hp.all []) = A := by
  funext h
  refine propext ⟨?_, fun hA => ⟨h, Ph.emp, Ph.apart_emp _, (Ph.join_emp h).symm, hA, rfl⟩⟩
  rintro ⟨a, b, _, rfl, hA, hb⟩
  have hb' : b = Ph.emp := hb
  rw [hb', Ph.join_emp]
  exact hA
theorem famT_app (l : List (Rc ByteArray)) (r : Rc ByteArray) : famT (l ++ [r]) = Hp.sep (famT l) (Hp.strs r.v r.xs) := by
  unfold famT
  rw [List.map_append, Hp.all_append]
  show Hp.sep _ (Hp.sep _ (Hp.all [])) = _
  rw [sep_e]
theorem famT'_app (l : List (Rc ByteArray)) (r : Rc ByteArray) : famT' (l ++ [r]) = Hp.sep (famT' l) (Hp.strs r.wv r.xs) := by
  unfold famT'
  rw [List.map_append, Hp.all_append]
  show Hp.sep _ (Hp.sep _ (Hp.all [])) = _
  rw [sep_e]
theorem famN_app (l : List (Rc Int)) (r : Rc Int) : famN (l ++ [r]) = Hp.sep (famN l) (Hp.ints r.v r.xs) := by
  unfold famN
  rw [List.map_append, Hp.all_append]
  show Hp.sep _ (Hp.sep _ (Hp.all [])) = _
  rw [sep_e]
theorem famN'_app (l : List (Rc Int)) (r : Rc Int) : famN' (l ++ [r]) = Hp.sep (famN' l) (Hp.ints r.wv r.xs) := by
  unfold famN'
  rw [List.map_append, Hp.all_append]
  show Hp.sep _ (Hp.sep _ (Hp.all [])) = _
  rw [sep_e]
theorem fams_nil (h : Own E w L) : Own E w (Hp.fams Bk.nil :: L) := Own.star.2 ((Own.emp.2 (Own.emp.2 (Own.emp.2 (Own.emp.2 h)))) : Own E w (Hp.emp :: Hp.emp :: Hp.emp :: Hp.emp :: L))
/-- Lists are put to the families. -/
theorem fams_t {B : Bk} {r : Rc ByteArray} (h : Own E w (Hp.strs r.v r.xs :: Hp.strs r.wv r.xs :: Hp.fams B :: L)) : Own E w (Hp.fams ⟨B.t ++ [r], B.n⟩ :: L) := by
  refine h.ac ?_
  unfold Hp.fams
  simp only [Hp.all, famT_app, famT'_app]
  ac_rfl
theorem fams_n {B : Bk} {r : Rc Int} (h : Own E w (Hp.ints r.v r.xs :: Hp.ints r.wv r.xs :: Hp.fams B :: L)) : Own E w (Hp.fams ⟨B.t, B.n ++ [r]⟩ :: L) := by
  refine h.ac ?_
  unfold Hp.fams
  simp only [Hp.all, famN_app, famN'_app]
  ac_rfl
/-- A node's lists and those of its copy. -/
def Bk.addN (B : Bk) (q c : Nv) (n : Nd) : Bk := ⟨B.t ++ [⟨.slice q.a1 n.ks.length q.c1, .slice c.a1 n.ks.length c.c1, n.ks⟩] ++ [⟨.slice q.a2 n.vs.length q.c2, .slice c.a2 n.vs.length c.c2, n.vs⟩], B.n ++ [⟨.slice q.a3 n.ls.length q.c3, .slice c.a3 n.ls.length c.c3, n.ls⟩]⟩
theorem fams_node {q c : Nv} (h : Own E w (Hp.node (q.val n) n :: Hp.node (c.val n) n :: Hp.fams B :: L)) : Own E w (Hp.fams (B.addN q c n) :: L) := by
  obtain ⟨x1, x2, x3, e1, h⟩ := h.ofNode
  simp only [Nv.val, Value.agg.injEq, Array.mk.injEq, List.cons.injEq, and_true, true_and] at e1
  obtain ⟨rfl, rfl, rfl⟩ := e1
  have h := h.f3
  obtain ⟨y1, y2, y3, e2, h⟩ := h.ofNode
  simp only [Nv.val, Value.agg.injEq, Array.mk.injEq, List.cons.injEq, and_true, true_and] at e2
  obtain ⟨rfl, rfl, rfl⟩ := e2
  refine h.ac ?_
  unfold Hp.fams Bk.addN
  simp only [Hp.all, famT_app, famT'_app, famN_app, famN'_app]
  ac_rfl
end
section
variable {E : World} {S : Ph} {L : List Hp}
set_option maxRecDepth 100000 in
set_option maxHeartbeats 8000000 in
theorem booknode_any (b : Nat) (B : Bk) (nv : Value) (n : Nd) (w : World) (hb : n.bulk ≤ 4294967290) (ht : B.t.length ≤ 1000) (hn : B.n.length ≤ 1000) (h : Own E w (Hp.node nv n :: Hp.ro S :: Hp.bk b B :: L)) :
    Calls Tryz.prog 34 #[.pointer (some ⟨b, 0, none⟩), nv] w fun e w' => e = .returned (.tuple #[]) ∧ ∃ q c : Nv, Own E w' (Hp.bk b (B.addN q c n) :: Hp.ro S :: L) := by
  obtain ⟨q, rfl, h⟩ := h.nodeForm
  have hcp : ∀ (w : World) (M : List Hp), Own E w (Hp.node (q.val n) n :: Hp.ro S :: M) → Calls Tryz.prog 13 #[q.val n] w fun e w' => ∃ c : Nv, e = .returned (c.val n) ∧ Own E w' (Hp.node (c.val n) n :: Hp.node (q.val n) n :: Hp.ro S :: M) := by
    intro w M h0
    obtain ⟨a, hA, hd, h1⟩ := h0.lend
    clear h0
    obtain ⟨q2, hq, hin⟩ := node_in hA
    have hq2 : q2 = q := by
      obtain ⟨a1, c1, a2, c2, a3, c3⟩ := q
      obtain ⟨b1, d1, b2, d2, b3, d3⟩ := q2
      simp only [Nv.val, Value.agg.injEq, Array.mk.injEq, List.cons.injEq, Value.slice.injEq, and_true, true_and] at hq
      obtain ⟨⟨rfl, rfl⟩, ⟨rfl, rfl⟩, rfl, rfl⟩ := hq
      rfl
    subst hq2
    refine (copied_any q2 n w hb (hin.sub Ph.join_l) h1).mono ?_
    rintro e w1 ⟨nv, rfl, h⟩
    obtain ⟨c, rfl, h⟩ := h.nodeForm
    exact ⟨c, rfl, (Own.give hA hd h.f1).f2⟩
  obtain ⟨q0, q1, q2, q3, h⟩ := h.f2.ofBk
  obtain ⟨A0, c0, k0, -⟩ := h.f1.lstSlice
  obtain ⟨A1, c1, k1, -⟩ := h.f2.lstSlice
  obtain ⟨A2, c2, k2, -⟩ := h.f3.lstSlice
  obtain ⟨A3, c3, k3, -⟩ := h.f4.lstSlice
  rw [List.length_map] at k0 k1 k2 k3
  subst k0 k1 k2 k3
  first | have h := (h : Own _ _ (Hp.ro S :: _)) | have h := (h.f1 : Own _ _ (Hp.ro S :: _)) | have h := (h.f2 : Own _ _ (Hp.ro S :: _)) | have h := (h.f3 : Own _ _ (Hp.ro S :: _)) | have h := (h.f4 : Own _ _ (Hp.ro S :: _)) | have h := (h.f5 : Own _ _ (Hp.ro S :: _)) | have h := (h.f6 : Own _ _ (Hp.ro S :: _)) | have h := (h.f7 : Own _ _ (Hp.ro S :: _)) | have h := (h.f8 : Own _ _ (Hp.ro S :: _)) | have h := (h.f9 : Own _ _ (Hp.ro S :: _)) | have h := (h.f10 : Own _ _ (Hp.ro S :: _)) | have h := (h.f11 : Own _ _ (Hp.ro S :: _)) | have h := (h.f12 : Own _ _ (Hp.ro S :: _)) | have h := (h.f13 : Own _ _ (Hp.ro S :: _)) | have h := (h.f14 : Own _ _ (Hp.ro S :: _)) | have h := (h.f15 : Own _ _ (Hp.ro S :: _))
  first | have h := (h : Own _ _ (Hp.node (q.val n) n :: _)) | have h := (h.f1 : Own _ _ (Hp.node (q.val n) n :: _)) | have h := (h.f2 : Own _ _ (Hp.node (q.val n) n :: _)) | have h := (h.f3 : Own _ _ (Hp.node (q.val n) n :: _)) | have h := (h.f4 : Own _ _ (Hp.node (q.val n) n :: _)) | have h := (h.f5 : Own _ _ (Hp.node (q.val n) n :: _)) | have h := (h.f6 : Own _ _ (Hp.node (q.val n) n :: _)) | have h := (h.f7 : Own _ _ (Hp.node (q.val n) n :: _)) | have h := (h.f8 : Own _ _ (Hp.node (q.val n) n :: _)) | have h := (h.f9 : Own _ _ (Hp.node (q.val n) n :: _)) | have h := (h.f10 : Own _ _ (Hp.node (q.val n) n :: _)) | have h := (h.f11 : Own _ _ (Hp.node (q.val n) n :: _)) | have h := (h.f12 : Own _ _ (Hp.node (q.val n) n :: _)) | have h := (h.f13 : Own _ _ (Hp.node (q.val n) n :: _)) | have h := (h.f14 : Own _ _ (Hp.node (q.val n) n :: _)) | have h := (h.f15 : Own _ _ (Hp.node (q.val n) n :: _))
  have h1 : Own E _ (Hp.blk w.heap.size NT #[.bool n.leaf, .slice q.a1 n.ks.length q.c1, .slice q.a2 n.vs.length q.c2, .slice q.a3 n.ls.length q.c3] :: _) := h.alloc _
  have HCP := Lib.hid hcp
  clear h hcp
  have h := h1.f2.f2
  obtain ⟨g, hg⟩ : ∃ g, g = w.heap.size := ⟨_, rfl⟩
  rw [← hg] at h
  have H := Lib.hid h
  clear h h1
  have hfin := fun (w : World) (M : List Hp) (c : Nv) (hw : Own E w (Hp.node (q.val n) n :: Hp.node (c.val n) n :: Hp.fams B :: M)) => fams_node (q := q) (c := c) hw
  have HFIN := Lib.hid hfin
  obtain ⟨hB, hBe⟩ : ∃ F, F = Hp.fams B := ⟨_, rfl⟩
  obtain ⟨nn, hnn⟩ : ∃ F : Hp, F = Hp.node (q.val n) n := ⟨_, rfl⟩
  have htl : (B.t.map Rc.v).length = B.t.length := List.length_map _
  have htl2 : (B.t.map Rc.wv).length = B.t.length := List.length_map _
  have hnl : (B.n.map Rc.v).length = B.n.length := List.length_map _
  have hnl2 : (B.n.map Rc.wv).length = B.n.length := List.length_map _
  clear hfin
  go_enter Tryz.func34, Tryz.ntmps34
  go_wp2_with fail
  rw [← hg]
  clear hg
  with_reducible refine (HCP.out _ _ H.out).mono ?_
  rintro e w1 ⟨c, rfl, h⟩
  clear H HCP
  have h2 : Own E _ (Hp.blk w1.heap.size NT #[.bool n.leaf, .slice c.a1 n.ks.length c.c1, .slice c.a2 n.vs.length c.c2, .slice c.a3 n.ls.length c.c3] :: _) := h.alloc _
  obtain ⟨g4, hg4⟩ : ∃ g, g = w1.heap.size := ⟨_, rfl⟩
  rw [← hg4] at h2
  have H := Lib.hid h2
  clear h h2
  go_wp2_with fail
  try rw [← hg4]
  clear hg4
  have h := H.out
  generalize World.alloc _ _ = wa at h ⊢
  clear H
  have HG : Hid (∀ w', (∃ L', Own E w' (Hp.blk g NT #[.bool n.leaf, .slice q.a1 n.ks.length q.c1, .slice q.a2 n.vs.length q.c2, .slice q.a3 n.ls.length q.c3] :: L')) → w'.cell? ⟨g, 1, none⟩ = some (.slice q.a1 n.ks.length q.c1) ∧ w'.cell? ⟨g, 2, none⟩ = some (.slice q.a2 n.vs.length q.c2) ∧ w'.cell? ⟨g, 3, none⟩ = some (.slice q.a3 n.ls.length q.c3)) := Lib.hid fun w' hw => by
    obtain ⟨_, hw⟩ := hw
    exact ⟨hw.cell 1, hw.cell 2, hw.cell 3⟩
  have HG4 : Hid (∀ w', (∃ L', Own E w' (Hp.blk g4 NT #[.bool n.leaf, .slice c.a1 n.ks.length c.c1, .slice c.a2 n.vs.length c.c2, .slice c.a3 n.ls.length c.c3] :: L')) → w'.cell? ⟨g4, 1, none⟩ = some (.slice c.a1 n.ks.length c.c1) ∧ w'.cell? ⟨g4, 2, none⟩ = some (.slice c.a2 n.vs.length c.c2) ∧ w'.cell? ⟨g4, 3, none⟩ = some (.slice c.a3 n.ls.length c.c3)) := Lib.hid fun w' hw => by
    obtain ⟨_, hw⟩ := hw
    exact ⟨hw.cell 1, hw.cell 2, hw.cell 3⟩
  have HB0 : Hid (∀ w', (∃ L', Own E w' (Hp.blk b BKT #[.slice A0 B.t.length c0, .slice A1 B.t.length c1, .slice A2 B.n.length c2, .slice A3 B.n.length c3] :: L')) → w'.cell? ⟨b, 0, none⟩ = some (.slice A0 B.t.length c0)) := Lib.hid fun w' hw => by
    obtain ⟨_, hw⟩ := hw
    exact hw.cell 0
  first | have h := (h : Own _ _ (Hp.lst LST (.slice A0 B.t.length c0) (B.t.map Rc.v) :: _)) | have h := (h.f1 : Own _ _ (Hp.lst LST (.slice A0 B.t.length c0) (B.t.map Rc.v) :: _)) | have h := (h.f2 : Own _ _ (Hp.lst LST (.slice A0 B.t.length c0) (B.t.map Rc.v) :: _)) | have h := (h.f3 : Own _ _ (Hp.lst LST (.slice A0 B.t.length c0) (B.t.map Rc.v) :: _)) | have h := (h.f4 : Own _ _ (Hp.lst LST (.slice A0 B.t.length c0) (B.t.map Rc.v) :: _)) | have h := (h.f5 : Own _ _ (Hp.lst LST (.slice A0 B.t.length c0) (B.t.map Rc.v) :: _)) | have h := (h.f6 : Own _ _ (Hp.lst LST (.slice A0 B.t.length c0) (B.t.map Rc.v) :: _)) | have h := (h.f7 : Own _ _ (Hp.lst LST (.slice A0 B.t.length c0) (B.t.map Rc.v) :: _)) | have h := (h.f8 : Own _ _ (Hp.lst LST (.slice A0 B.t.length c0) (B.t.map Rc.v) :: _)) | have h := (h.f9 : Own _ _ (Hp.lst LST (.slice A0 B.t.length c0) (B.t.map Rc.v) :: _)) | have h := (h.f10 : Own _ _ (Hp.lst LST (.slice A0 B.t.length c0) (B.t.map Rc.v) :: _)) | have h := (h.f11 : Own _ _ (Hp.lst LST (.slice A0 B.t.length c0) (B.t.map Rc.v) :: _)) | have h := (h.f12 : Own _ _ (Hp.lst LST (.slice A0 B.t.length c0) (B.t.map Rc.v) :: _)) | have h := (h.f13 : Own _ _ (Hp.lst LST (.slice A0 B.t.length c0) (B.t.map Rc.v) :: _)) | have h := (h.f14 : Own _ _ (Hp.lst LST (.slice A0 B.t.length c0) (B.t.map Rc.v) :: _)) | have h := (h.f15 : Own _ _ (Hp.lst LST (.slice A0 B.t.length c0) (B.t.map Rc.v) :: _))
  have h := h.drew
  refine wp_region_text [4, 6, 8] (fun w' => w'.cell? ⟨b, 0, none⟩ = some (.slice A0 B.t.length c0) ∧ w'.cell? ⟨g, 1, none⟩ = some (.slice q.a1 n.ks.length q.c1) ∧ w'.cell? ⟨g, 2, none⟩ = some (.slice q.a2 n.vs.length q.c2) ∧ w'.cell? ⟨g, 3, none⟩ = some (.slice q.a3 n.ls.length q.c3)) (by kernel_rfl) ?_ (fun hS => ?_)
  · exact ⟨HB0.out _ (by first | exact ⟨_, h⟩ | exact ⟨_, h.f1⟩ | exact ⟨_, h.f2⟩ | exact ⟨_, h.f3⟩ | exact ⟨_, h.f4⟩ | exact ⟨_, h.f5⟩ | exact ⟨_, h.f6⟩ | exact ⟨_, h.f7⟩ | exact ⟨_, h.f8⟩ | exact ⟨_, h.f9⟩ | exact ⟨_, h.f10⟩ | exact ⟨_, h.f11⟩ | exact ⟨_, h.f12⟩ | exact ⟨_, h.f13⟩ | exact ⟨_, h.f14⟩ | exact ⟨_, h.f15⟩), HG.out _ (by first | exact ⟨_, h⟩ | exact ⟨_, h.f1⟩ | exact ⟨_, h.f2⟩ | exact ⟨_, h.f3⟩ | exact ⟨_, h.f4⟩ | exact ⟨_, h.f5⟩ | exact ⟨_, h.f6⟩ | exact ⟨_, h.f7⟩ | exact ⟨_, h.f8⟩ | exact ⟨_, h.f9⟩ | exact ⟨_, h.f10⟩ | exact ⟨_, h.f11⟩ | exact ⟨_, h.f12⟩ | exact ⟨_, h.f13⟩ | exact ⟨_, h.f14⟩ | exact ⟨_, h.f15⟩)⟩
  refine wpAnyG_pure (i := 0) (oi := ⟨some 7, _, _, _, _, _⟩) (v := ?_) rfl (by kernel_rfl) (by kernel_rfl) (by kernel_rfl) (by rfl) (fun _ _ _ h => h) (by rfl) ?_ ?_
  rotate_left
  · intro w
    go_simp
    first | done | with_reducible rfl
  try simp only [Act.put, List.setIfInBounds_toArray, List.set_cons_zero, List.set_cons_succ]
  refine wpAnyG_pure (i := 1) (oi := ⟨some 8, _, _, _, _, _⟩) (v := ?_) rfl (by kernel_rfl) (by kernel_rfl) (by kernel_rfl) (by rfl) (fun _ _ _ h => h) (by rfl) ?_ ?_
  rotate_left
  · intro w
    go_simp
    first | done | with_reducible rfl
  try simp only [Act.put, List.setIfInBounds_toArray, List.set_cons_zero, List.set_cons_succ]
  refine wpAnyG_pure (i := 2) (oi := ⟨some 9, _, _, _, _, _⟩) (v := ?_) rfl (by kernel_rfl) (by kernel_rfl) (by kernel_rfl) (by rfl) (fun _ _ _ h => h) (by rfl) ?_ ?_
  rotate_left
  · intro w
    go_simp
    first | done | with_reducible rfl
  try simp only [Act.put, List.setIfInBounds_toArray, List.set_cons_zero, List.set_cons_succ]
  refine wpAnyG_pure (i := 3) (oi := ⟨some 10, _, _, _, _, _⟩) (v := ?_) rfl (by kernel_rfl) (by kernel_rfl) (by kernel_rfl) (by rfl) (fun _ _ _ h => h) (by rfl) ?_ ?_
  rotate_left
  · intro w
    go_simp
    first | done | with_reducible rfl
  try simp only [Act.put, List.setIfInBounds_toArray, List.set_cons_zero, List.set_cons_succ]
  refine wpAnyG_load (i := 4) (oi := ⟨some 11, _, _, _, _, _⟩) (v := ?_) rfl (by kernel_rfl) (by kernel_rfl) (by kernel_rfl) (by rfl) (fun _ _ _ h => h) (by rfl) ?_ (by assumption) ?_
  rotate_left
  · intro w hS
    try dsimp only at hS
    go_simp
    first | done | with_reducible rfl
  try simp only [Act.put, List.setIfInBounds_toArray, List.set_cons_zero, List.set_cons_succ]
  refine wpAnyG_pure (i := 5) (oi := ⟨some 12, _, _, _, _, _⟩) (v := ?_) rfl (by kernel_rfl) (by kernel_rfl) (by kernel_rfl) (by rfl) (fun _ _ _ h => h) (by rfl) ?_ ?_
  rotate_left
  · intro w
    go_simp
    first | done | with_reducible rfl
  try simp only [Act.put, List.setIfInBounds_toArray, List.set_cons_zero, List.set_cons_succ]
  refine wpAnyG_load (i := 6) (oi := ⟨some 13, _, _, _, _, _⟩) (v := ?_) rfl (by kernel_rfl) (by kernel_rfl) (by kernel_rfl) (by rfl) (fun _ _ _ h => h) (by rfl) ?_ (by assumption) ?_
  rotate_left
  · intro w hS
    try dsimp only at hS
    go_simp
    first | done | with_reducible rfl
  try simp only [Act.put, List.setIfInBounds_toArray, List.set_cons_zero, List.set_cons_succ]
  refine wpAnyG_pure (i := 7) (oi := ⟨some 14, _, _, _, _, _⟩) (v := ?_) rfl (by kernel_rfl) (by kernel_rfl) (by kernel_rfl) (by rfl) (fun _ _ _ h => h) (by rfl) ?_ ?_
  rotate_left
  · intro w
    go_simp
    first | done | with_reducible rfl
  try simp only [Act.put, List.setIfInBounds_toArray, List.set_cons_zero, List.set_cons_succ]
  refine wpAnyG_load (i := 8) (oi := ⟨some 15, _, _, _, _, _⟩) (v := ?_) rfl (by kernel_rfl) (by kernel_rfl) (by kernel_rfl) (by rfl) (fun _ _ _ h => h) (by rfl) ?_ (by assumption) ?_
  rotate_left
  · intro w hS
    try dsimp only at hS
    go_simp
    first | done | with_reducible rfl
  try simp only [Act.put, List.setIfInBounds_toArray, List.set_cons_zero, List.set_cons_succ]
  refine wpAnyG_keep (i := 9) (oi := ⟨some 16, _, _, _, _, _⟩) (by kernel_rfl) rfl (fun K hK => ?_)
  rw [if_pos (by rfl)]
  have h0 := h
  have h := h.alloc (.cells #[.slice q.a1 n.ks.length q.c1, .slice q.a2 n.vs.length q.c2] LST)
  go_simp
  refine hK.out _ _ ?_ (fun hS => ?_)
  · exact ⟨HB0.out _ (by first | exact ⟨_, h⟩ | exact ⟨_, h.f1⟩ | exact ⟨_, h.f2⟩ | exact ⟨_, h.f3⟩ | exact ⟨_, h.f4⟩ | exact ⟨_, h.f5⟩ | exact ⟨_, h.f6⟩ | exact ⟨_, h.f7⟩ | exact ⟨_, h.f8⟩ | exact ⟨_, h.f9⟩ | exact ⟨_, h.f10⟩ | exact ⟨_, h.f11⟩ | exact ⟨_, h.f12⟩ | exact ⟨_, h.f13⟩ | exact ⟨_, h.f14⟩ | exact ⟨_, h.f15⟩), HG.out _ (by first | exact ⟨_, h⟩ | exact ⟨_, h.f1⟩ | exact ⟨_, h.f2⟩ | exact ⟨_, h.f3⟩ | exact ⟨_, h.f4⟩ | exact ⟨_, h.f5⟩ | exact ⟨_, h.f6⟩ | exact ⟨_, h.f7⟩ | exact ⟨_, h.f8⟩ | exact ⟨_, h.f9⟩ | exact ⟨_, h.f10⟩ | exact ⟨_, h.f11⟩ | exact ⟨_, h.f12⟩ | exact ⟨_, h.f13⟩ | exact ⟨_, h.f14⟩ | exact ⟨_, h.f15⟩)⟩
  clear hK K
  try simp only [Act.put, List.setIfInBounds_toArray, List.set_cons_zero, List.set_cons_succ]
  refine wpAnyG_keep (i := 10) (oi := ⟨some 17, _, _, _, _, _⟩) (by kernel_rfl) rfl (fun K hK => ?_)
  rw [if_pos (by rfl)]
  clear h
  obtain ⟨v6, w6, hap, h⟩ := lst_append_new (P := Tryz.prog) (t := LLST) (ty := LLST) llst_u sst_info (by rfl) h0 #[.slice q.a1 n.ks.length q.c1, .slice q.a2 n.vs.length q.c2] 2 rfl (by simp [Value.oneCell']) (by unfold maxLen; rw [List.length_map]; omega) (by rw [List.length_map]; omega)
  refine wp_append_run hap rfl rfl rfl ?_
  obtain ⟨B0, d0, rfl, -⟩ := h.lstSlice
  have e9 : (B.t.map Rc.v ++ (#[.slice q.a1 n.ks.length q.c1, .slice q.a2 n.vs.length q.c2] : Array Value).toList).length = B.t.length + 2 := by simp
  rw [e9] at h ⊢
  refine hK.out _ _ ?_ (fun hS => ?_)
  · exact ⟨HB0.out _ (by first | exact ⟨_, h⟩ | exact ⟨_, h.f1⟩ | exact ⟨_, h.f2⟩ | exact ⟨_, h.f3⟩ | exact ⟨_, h.f4⟩ | exact ⟨_, h.f5⟩ | exact ⟨_, h.f6⟩ | exact ⟨_, h.f7⟩ | exact ⟨_, h.f8⟩ | exact ⟨_, h.f9⟩ | exact ⟨_, h.f10⟩ | exact ⟨_, h.f11⟩ | exact ⟨_, h.f12⟩ | exact ⟨_, h.f13⟩ | exact ⟨_, h.f14⟩ | exact ⟨_, h.f15⟩), HG.out _ (by first | exact ⟨_, h⟩ | exact ⟨_, h.f1⟩ | exact ⟨_, h.f2⟩ | exact ⟨_, h.f3⟩ | exact ⟨_, h.f4⟩ | exact ⟨_, h.f5⟩ | exact ⟨_, h.f6⟩ | exact ⟨_, h.f7⟩ | exact ⟨_, h.f8⟩ | exact ⟨_, h.f9⟩ | exact ⟨_, h.f10⟩ | exact ⟨_, h.f11⟩ | exact ⟨_, h.f12⟩ | exact ⟨_, h.f13⟩ | exact ⟨_, h.f14⟩ | exact ⟨_, h.f15⟩)⟩
  clear hK K
  try simp only [Act.put, List.setIfInBounds_toArray, List.set_cons_zero, List.set_cons_succ]
  refine wpAnyG_pure (i := 11) (oi := ⟨some 18, _, _, _, _, _⟩) (v := ?_) rfl (by kernel_rfl) (by kernel_rfl) (by kernel_rfl) (by rfl) (fun _ _ _ h => h) (by rfl) ?_ ?_
  rotate_left
  · intro w
    go_simp
    first | done | with_reducible rfl
  try simp only [Act.put, List.setIfInBounds_toArray, List.set_cons_zero, List.set_cons_succ]
  refine wpAnyG_pure (i := 12) (oi := ⟨some 19, _, _, _, _, _⟩) (v := ?_) rfl (by kernel_rfl) (by kernel_rfl) (by kernel_rfl) (by rfl) (fun _ _ _ h => h) (by rfl) ?_ ?_
  rotate_left
  · intro w
    go_simp
    first | done | with_reducible rfl
  try simp only [Act.put, List.setIfInBounds_toArray, List.set_cons_zero, List.set_cons_succ]
  refine wpAnyG_break (i := 13) (oi := ⟨none, _, _, _, _, _⟩) (by kernel_rfl) rfl (by kernel_rfl) (fun K hK => ?_)
  rw [if_pos (by rfl)]
  first | have h := (h : Own _ _ (Hp.blk b BKT _ :: _)) | have h := (h.f1 : Own _ _ (Hp.blk b BKT _ :: _)) | have h := (h.f2 : Own _ _ (Hp.blk b BKT _ :: _)) | have h := (h.f3 : Own _ _ (Hp.blk b BKT _ :: _)) | have h := (h.f4 : Own _ _ (Hp.blk b BKT _ :: _)) | have h := (h.f5 : Own _ _ (Hp.blk b BKT _ :: _)) | have h := (h.f6 : Own _ _ (Hp.blk b BKT _ :: _)) | have h := (h.f7 : Own _ _ (Hp.blk b BKT _ :: _)) | have h := (h.f8 : Own _ _ (Hp.blk b BKT _ :: _)) | have h := (h.f9 : Own _ _ (Hp.blk b BKT _ :: _)) | have h := (h.f10 : Own _ _ (Hp.blk b BKT _ :: _)) | have h := (h.f11 : Own _ _ (Hp.blk b BKT _ :: _)) | have h := (h.f12 : Own _ _ (Hp.blk b BKT _ :: _)) | have h := (h.f13 : Own _ _ (Hp.blk b BKT _ :: _)) | have h := (h.f14 : Own _ _ (Hp.blk b BKT _ :: _)) | have h := (h.f15 : Own _ _ (Hp.blk b BKT _ :: _))
  have f5 := h.cell 0
  have f6 := h.frozen 0
  have h := h.set 0 (.slice B0 (B.t.length + 2) d0)
  go_simp
  refine hK.out _ _ ?_
  clear hK K
  try simp only [Act.put]
  refine wpAnyG_done (by kernel_rfl) ?_ _
  refine NoPanic.normal ?_
  have h : Own E _ (Hp.blk b BKT #[.slice B0 (B.t.length + 2) d0, .slice A1 B.t.length c1, .slice A2 B.n.length c2, .slice A3 B.n.length c3] :: _) := h
  generalize World.setCell _ _ _ = w20 at h ⊢
  clear HB0
  go_wp2_with fail
  have HB1 : Hid (∀ w', (∃ L', Own E w' (Hp.blk b BKT #[.slice B0 (B.t.length + 2) d0, .slice A1 B.t.length c1, .slice A2 B.n.length c2, .slice A3 B.n.length c3] :: L')) → w'.cell? ⟨b, 1, none⟩ = some (.slice A1 B.t.length c1)) := Lib.hid fun w' hw => by
    obtain ⟨_, hw⟩ := hw
    exact hw.cell 1
  first | have h := (h : Own _ _ (Hp.lst LST (.slice A1 B.t.length c1) (B.t.map Rc.wv) :: _)) | have h := (h.f1 : Own _ _ (Hp.lst LST (.slice A1 B.t.length c1) (B.t.map Rc.wv) :: _)) | have h := (h.f2 : Own _ _ (Hp.lst LST (.slice A1 B.t.length c1) (B.t.map Rc.wv) :: _)) | have h := (h.f3 : Own _ _ (Hp.lst LST (.slice A1 B.t.length c1) (B.t.map Rc.wv) :: _)) | have h := (h.f4 : Own _ _ (Hp.lst LST (.slice A1 B.t.length c1) (B.t.map Rc.wv) :: _)) | have h := (h.f5 : Own _ _ (Hp.lst LST (.slice A1 B.t.length c1) (B.t.map Rc.wv) :: _)) | have h := (h.f6 : Own _ _ (Hp.lst LST (.slice A1 B.t.length c1) (B.t.map Rc.wv) :: _)) | have h := (h.f7 : Own _ _ (Hp.lst LST (.slice A1 B.t.length c1) (B.t.map Rc.wv) :: _)) | have h := (h.f8 : Own _ _ (Hp.lst LST (.slice A1 B.t.length c1) (B.t.map Rc.wv) :: _)) | have h := (h.f9 : Own _ _ (Hp.lst LST (.slice A1 B.t.length c1) (B.t.map Rc.wv) :: _)) | have h := (h.f10 : Own _ _ (Hp.lst LST (.slice A1 B.t.length c1) (B.t.map Rc.wv) :: _)) | have h := (h.f11 : Own _ _ (Hp.lst LST (.slice A1 B.t.length c1) (B.t.map Rc.wv) :: _)) | have h := (h.f12 : Own _ _ (Hp.lst LST (.slice A1 B.t.length c1) (B.t.map Rc.wv) :: _)) | have h := (h.f13 : Own _ _ (Hp.lst LST (.slice A1 B.t.length c1) (B.t.map Rc.wv) :: _)) | have h := (h.f14 : Own _ _ (Hp.lst LST (.slice A1 B.t.length c1) (B.t.map Rc.wv) :: _)) | have h := (h.f15 : Own _ _ (Hp.lst LST (.slice A1 B.t.length c1) (B.t.map Rc.wv) :: _))
  have h := h.drew
  refine wp_region_text [4, 6, 8] (fun w' => w'.cell? ⟨b, 1, none⟩ = some (.slice A1 B.t.length c1) ∧ w'.cell? ⟨g4, 1, none⟩ = some (.slice c.a1 n.ks.length c.c1) ∧ w'.cell? ⟨g4, 2, none⟩ = some (.slice c.a2 n.vs.length c.c2) ∧ w'.cell? ⟨g4, 3, none⟩ = some (.slice c.a3 n.ls.length c.c3)) (by kernel_rfl) ?_ (fun hS => ?_)
  · exact ⟨HB1.out _ (by first | exact ⟨_, h⟩ | exact ⟨_, h.f1⟩ | exact ⟨_, h.f2⟩ | exact ⟨_, h.f3⟩ | exact ⟨_, h.f4⟩ | exact ⟨_, h.f5⟩ | exact ⟨_, h.f6⟩ | exact ⟨_, h.f7⟩ | exact ⟨_, h.f8⟩ | exact ⟨_, h.f9⟩ | exact ⟨_, h.f10⟩ | exact ⟨_, h.f11⟩ | exact ⟨_, h.f12⟩ | exact ⟨_, h.f13⟩ | exact ⟨_, h.f14⟩ | exact ⟨_, h.f15⟩), HG4.out _ (by first | exact ⟨_, h⟩ | exact ⟨_, h.f1⟩ | exact ⟨_, h.f2⟩ | exact ⟨_, h.f3⟩ | exact ⟨_, h.f4⟩ | exact ⟨_, h.f5⟩ | exact ⟨_, h.f6⟩ | exact ⟨_, h.f7⟩ | exact ⟨_, h.f8⟩ | exact ⟨_, h.f9⟩ | exact ⟨_, h.f10⟩ | exact ⟨_, h.f11⟩ | exact ⟨_, h.f12⟩ | exact ⟨_, h.f13⟩ | exact ⟨_, h.f14⟩ | exact ⟨_, h.f15⟩)⟩
  refine wpAnyG_pure (i := 0) (oi := ⟨some 20, _, _, _, _, _⟩) (v := ?_) rfl (by kernel_rfl) (by kernel_rfl) (by kernel_rfl) (by rfl) (fun _ _ _ h => h) (by rfl) ?_ ?_
  rotate_left
  · intro w
    go_simp
    first | done | with_reducible rfl
  try simp only [Act.put, List.setIfInBounds_toArray, List.set_cons_zero, List.set_cons_succ]
  refine wpAnyG_pure (i := 1) (oi := ⟨some 21, _, _, _, _, _⟩) (v := ?_) rfl (by kernel_rfl) (by kernel_rfl) (by kernel_rfl) (by rfl) (fun _ _ _ h => h) (by rfl) ?_ ?_
  rotate_left
  · intro w
    go_simp
    first | done | with_reducible rfl
  try simp only [Act.put, List.setIfInBounds_toArray, List.set_cons_zero, List.set_cons_succ]
  refine wpAnyG_pure (i := 2) (oi := ⟨some 22, _, _, _, _, _⟩) (v := ?_) rfl (by kernel_rfl) (by kernel_rfl) (by kernel_rfl) (by rfl) (fun _ _ _ h => h) (by rfl) ?_ ?_
  rotate_left
  · intro w
    go_simp
    first | done | with_reducible rfl
  try simp only [Act.put, List.setIfInBounds_toArray, List.set_cons_zero, List.set_cons_succ]
  refine wpAnyG_pure (i := 3) (oi := ⟨some 23, _, _, _, _, _⟩) (v := ?_) rfl (by kernel_rfl) (by kernel_rfl) (by kernel_rfl) (by rfl) (fun _ _ _ h => h) (by rfl) ?_ ?_
  rotate_left
  · intro w
    go_simp
    first | done | with_reducible rfl
  try simp only [Act.put, List.setIfInBounds_toArray, List.set_cons_zero, List.set_cons_succ]
  refine wpAnyG_load (i := 4) (oi := ⟨some 24, _, _, _, _, _⟩) (v := ?_) rfl (by kernel_rfl) (by kernel_rfl) (by kernel_rfl) (by rfl) (fun _ _ _ h => h) (by rfl) ?_ (by assumption) ?_
  rotate_left
  · intro w hS
    try dsimp only at hS
    go_simp
    first | done | with_reducible rfl
  try simp only [Act.put, List.setIfInBounds_toArray, List.set_cons_zero, List.set_cons_succ]
  refine wpAnyG_pure (i := 5) (oi := ⟨some 25, _, _, _, _, _⟩) (v := ?_) rfl (by kernel_rfl) (by kernel_rfl) (by kernel_rfl) (by rfl) (fun _ _ _ h => h) (by rfl) ?_ ?_
  rotate_left
  · intro w
    go_simp
    first | done | with_reducible rfl
  try simp only [Act.put, List.setIfInBounds_toArray, List.set_cons_zero, List.set_cons_succ]
  refine wpAnyG_load (i := 6) (oi := ⟨some 26, _, _, _, _, _⟩) (v := ?_) rfl (by kernel_rfl) (by kernel_rfl) (by kernel_rfl) (by rfl) (fun _ _ _ h => h) (by rfl) ?_ (by assumption) ?_
  rotate_left
  · intro w hS
    try dsimp only at hS
    go_simp
    first | done | with_reducible rfl
  try simp only [Act.put, List.setIfInBounds_toArray, List.set_cons_zero, List.set_cons_succ]
  refine wpAnyG_pure (i := 7) (oi := ⟨some 27, _, _, _, _, _⟩) (v := ?_) rfl (by kernel_rfl) (by kernel_rfl) (by kernel_rfl) (by rfl) (fun _ _ _ h => h) (by rfl) ?_ ?_
  rotate_left
  · intro w
    go_simp
    first | done | with_reducible rfl
  try simp only [Act.put, List.setIfInBounds_toArray, List.set_cons_zero, List.set_cons_succ]
  refine wpAnyG_load (i := 8) (oi := ⟨some 28, _, _, _, _, _⟩) (v := ?_) rfl (by kernel_rfl) (by kernel_rfl) (by kernel_rfl) (by rfl) (fun _ _ _ h => h) (by rfl) ?_ (by assumption) ?_
  rotate_left
  · intro w hS
    try dsimp only at hS
    go_simp
    first | done | with_reducible rfl
  try simp only [Act.put, List.setIfInBounds_toArray, List.set_cons_zero, List.set_cons_succ]
  refine wpAnyG_keep (i := 9) (oi := ⟨some 29, _, _, _, _, _⟩) (by kernel_rfl) rfl (fun K hK => ?_)
  rw [if_pos (by rfl)]
  have h0 := h
  have h := h.alloc (.cells #[.slice c.a1 n.ks.length c.c1, .slice c.a2 n.vs.length c.c2] LST)
  go_simp
  refine hK.out _ _ ?_ (fun hS => ?_)
  · exact ⟨HB1.out _ (by first | exact ⟨_, h⟩ | exact ⟨_, h.f1⟩ | exact ⟨_, h.f2⟩ | exact ⟨_, h.f3⟩ | exact ⟨_, h.f4⟩ | exact ⟨_, h.f5⟩ | exact ⟨_, h.f6⟩ | exact ⟨_, h.f7⟩ | exact ⟨_, h.f8⟩ | exact ⟨_, h.f9⟩ | exact ⟨_, h.f10⟩ | exact ⟨_, h.f11⟩ | exact ⟨_, h.f12⟩ | exact ⟨_, h.f13⟩ | exact ⟨_, h.f14⟩ | exact ⟨_, h.f15⟩), HG4.out _ (by first | exact ⟨_, h⟩ | exact ⟨_, h.f1⟩ | exact ⟨_, h.f2⟩ | exact ⟨_, h.f3⟩ | exact ⟨_, h.f4⟩ | exact ⟨_, h.f5⟩ | exact ⟨_, h.f6⟩ | exact ⟨_, h.f7⟩ | exact ⟨_, h.f8⟩ | exact ⟨_, h.f9⟩ | exact ⟨_, h.f10⟩ | exact ⟨_, h.f11⟩ | exact ⟨_, h.f12⟩ | exact ⟨_, h.f13⟩ | exact ⟨_, h.f14⟩ | exact ⟨_, h.f15⟩)⟩
  clear hK K
  try simp only [Act.put, List.setIfInBounds_toArray, List.set_cons_zero, List.set_cons_succ]
  refine wpAnyG_keep (i := 10) (oi := ⟨some 30, _, _, _, _, _⟩) (by kernel_rfl) rfl (fun K hK => ?_)
  rw [if_pos (by rfl)]
  clear h
  obtain ⟨v6, w6, hap, h⟩ := lst_append_new (P := Tryz.prog) (t := LLST) (ty := LLST) llst_u sst_info (by rfl) h0 #[.slice c.a1 n.ks.length c.c1, .slice c.a2 n.vs.length c.c2] 2 rfl (by simp [Value.oneCell']) (by unfold maxLen; rw [List.length_map]; omega) (by rw [List.length_map]; omega)
  refine wp_append_run hap rfl rfl rfl ?_
  obtain ⟨B1, d1, rfl, -⟩ := h.lstSlice
  have e9 : (B.t.map Rc.wv ++ (#[.slice c.a1 n.ks.length c.c1, .slice c.a2 n.vs.length c.c2] : Array Value).toList).length = B.t.length + 2 := by simp
  rw [e9] at h ⊢
  refine hK.out _ _ ?_ (fun hS => ?_)
  · exact ⟨HB1.out _ (by first | exact ⟨_, h⟩ | exact ⟨_, h.f1⟩ | exact ⟨_, h.f2⟩ | exact ⟨_, h.f3⟩ | exact ⟨_, h.f4⟩ | exact ⟨_, h.f5⟩ | exact ⟨_, h.f6⟩ | exact ⟨_, h.f7⟩ | exact ⟨_, h.f8⟩ | exact ⟨_, h.f9⟩ | exact ⟨_, h.f10⟩ | exact ⟨_, h.f11⟩ | exact ⟨_, h.f12⟩ | exact ⟨_, h.f13⟩ | exact ⟨_, h.f14⟩ | exact ⟨_, h.f15⟩), HG4.out _ (by first | exact ⟨_, h⟩ | exact ⟨_, h.f1⟩ | exact ⟨_, h.f2⟩ | exact ⟨_, h.f3⟩ | exact ⟨_, h.f4⟩ | exact ⟨_, h.f5⟩ | exact ⟨_, h.f6⟩ | exact ⟨_, h.f7⟩ | exact ⟨_, h.f8⟩ | exact ⟨_, h.f9⟩ | exact ⟨_, h.f10⟩ | exact ⟨_, h.f11⟩ | exact ⟨_, h.f12⟩ | exact ⟨_, h.f13⟩ | exact ⟨_, h.f14⟩ | exact ⟨_, h.f15⟩)⟩
  clear hK K
  try simp only [Act.put, List.setIfInBounds_toArray, List.set_cons_zero, List.set_cons_succ]
  refine wpAnyG_pure (i := 11) (oi := ⟨some 31, _, _, _, _, _⟩) (v := ?_) rfl (by kernel_rfl) (by kernel_rfl) (by kernel_rfl) (by rfl) (fun _ _ _ h => h) (by rfl) ?_ ?_
  rotate_left
  · intro w
    go_simp
    first | done | with_reducible rfl
  try simp only [Act.put, List.setIfInBounds_toArray, List.set_cons_zero, List.set_cons_succ]
  refine wpAnyG_pure (i := 12) (oi := ⟨some 32, _, _, _, _, _⟩) (v := ?_) rfl (by kernel_rfl) (by kernel_rfl) (by kernel_rfl) (by rfl) (fun _ _ _ h => h) (by rfl) ?_ ?_
  rotate_left
  · intro w
    go_simp
    first | done | with_reducible rfl
  try simp only [Act.put, List.setIfInBounds_toArray, List.set_cons_zero, List.set_cons_succ]
  refine wpAnyG_break (i := 13) (oi := ⟨none, _, _, _, _, _⟩) (by kernel_rfl) rfl (by kernel_rfl) (fun K hK => ?_)
  rw [if_pos (by rfl)]
  first | have h := (h : Own _ _ (Hp.blk b BKT _ :: _)) | have h := (h.f1 : Own _ _ (Hp.blk b BKT _ :: _)) | have h := (h.f2 : Own _ _ (Hp.blk b BKT _ :: _)) | have h := (h.f3 : Own _ _ (Hp.blk b BKT _ :: _)) | have h := (h.f4 : Own _ _ (Hp.blk b BKT _ :: _)) | have h := (h.f5 : Own _ _ (Hp.blk b BKT _ :: _)) | have h := (h.f6 : Own _ _ (Hp.blk b BKT _ :: _)) | have h := (h.f7 : Own _ _ (Hp.blk b BKT _ :: _)) | have h := (h.f8 : Own _ _ (Hp.blk b BKT _ :: _)) | have h := (h.f9 : Own _ _ (Hp.blk b BKT _ :: _)) | have h := (h.f10 : Own _ _ (Hp.blk b BKT _ :: _)) | have h := (h.f11 : Own _ _ (Hp.blk b BKT _ :: _)) | have h := (h.f12 : Own _ _ (Hp.blk b BKT _ :: _)) | have h := (h.f13 : Own _ _ (Hp.blk b BKT _ :: _)) | have h := (h.f14 : Own _ _ (Hp.blk b BKT _ :: _)) | have h := (h.f15 : Own _ _ (Hp.blk b BKT _ :: _))
  have f5 := h.cell 1
  have f6 := h.frozen 1
  have h := h.set 1 (.slice B1 (B.t.length + 2) d1)
  go_simp
  refine hK.out _ _ ?_
  clear hK K
  try simp only [Act.put]
  refine wpAnyG_done (by kernel_rfl) ?_ _
  refine NoPanic.normal ?_
  have h : Own E _ (Hp.blk b BKT #[.slice B0 (B.t.length + 2) d0, .slice B1 (B.t.length + 2) d1, .slice A2 B.n.length c2, .slice A3 B.n.length c3] :: _) := h
  generalize World.setCell _ _ _ = w21 at h ⊢
  clear HB1
  go_wp2_with fail
  have HB2 : Hid (∀ w', (∃ L', Own E w' (Hp.blk b BKT #[.slice B0 (B.t.length + 2) d0, .slice B1 (B.t.length + 2) d1, .slice A2 B.n.length c2, .slice A3 B.n.length c3] :: L')) → w'.cell? ⟨b, 2, none⟩ = some (.slice A2 B.n.length c2)) := Lib.hid fun w' hw => by
    obtain ⟨_, hw⟩ := hw
    exact hw.cell 2
  first | have h := (h : Own _ _ (Hp.lst LIT (.slice A2 B.n.length c2) (B.n.map Rc.v) :: _)) | have h := (h.f1 : Own _ _ (Hp.lst LIT (.slice A2 B.n.length c2) (B.n.map Rc.v) :: _)) | have h := (h.f2 : Own _ _ (Hp.lst LIT (.slice A2 B.n.length c2) (B.n.map Rc.v) :: _)) | have h := (h.f3 : Own _ _ (Hp.lst LIT (.slice A2 B.n.length c2) (B.n.map Rc.v) :: _)) | have h := (h.f4 : Own _ _ (Hp.lst LIT (.slice A2 B.n.length c2) (B.n.map Rc.v) :: _)) | have h := (h.f5 : Own _ _ (Hp.lst LIT (.slice A2 B.n.length c2) (B.n.map Rc.v) :: _)) | have h := (h.f6 : Own _ _ (Hp.lst LIT (.slice A2 B.n.length c2) (B.n.map Rc.v) :: _)) | have h := (h.f7 : Own _ _ (Hp.lst LIT (.slice A2 B.n.length c2) (B.n.map Rc.v) :: _)) | have h := (h.f8 : Own _ _ (Hp.lst LIT (.slice A2 B.n.length c2) (B.n.map Rc.v) :: _)) | have h := (h.f9 : Own _ _ (Hp.lst LIT (.slice A2 B.n.length c2) (B.n.map Rc.v) :: _)) | have h := (h.f10 : Own _ _ (Hp.lst LIT (.slice A2 B.n.length c2) (B.n.map Rc.v) :: _)) | have h := (h.f11 : Own _ _ (Hp.lst LIT (.slice A2 B.n.length c2) (B.n.map Rc.v) :: _)) | have h := (h.f12 : Own _ _ (Hp.lst LIT (.slice A2 B.n.length c2) (B.n.map Rc.v) :: _)) | have h := (h.f13 : Own _ _ (Hp.lst LIT (.slice A2 B.n.length c2) (B.n.map Rc.v) :: _)) | have h := (h.f14 : Own _ _ (Hp.lst LIT (.slice A2 B.n.length c2) (B.n.map Rc.v) :: _)) | have h := (h.f15 : Own _ _ (Hp.lst LIT (.slice A2 B.n.length c2) (B.n.map Rc.v) :: _))
  have h := h.drew
  refine wp_region_text [4, 6] (fun w' => w'.cell? ⟨b, 2, none⟩ = some (.slice A2 B.n.length c2) ∧ w'.cell? ⟨g, 1, none⟩ = some (.slice q.a1 n.ks.length q.c1) ∧ w'.cell? ⟨g, 2, none⟩ = some (.slice q.a2 n.vs.length q.c2) ∧ w'.cell? ⟨g, 3, none⟩ = some (.slice q.a3 n.ls.length q.c3)) (by kernel_rfl) ?_ (fun hS => ?_)
  · exact ⟨HB2.out _ (by first | exact ⟨_, h⟩ | exact ⟨_, h.f1⟩ | exact ⟨_, h.f2⟩ | exact ⟨_, h.f3⟩ | exact ⟨_, h.f4⟩ | exact ⟨_, h.f5⟩ | exact ⟨_, h.f6⟩ | exact ⟨_, h.f7⟩ | exact ⟨_, h.f8⟩ | exact ⟨_, h.f9⟩ | exact ⟨_, h.f10⟩ | exact ⟨_, h.f11⟩ | exact ⟨_, h.f12⟩ | exact ⟨_, h.f13⟩ | exact ⟨_, h.f14⟩ | exact ⟨_, h.f15⟩), HG.out _ (by first | exact ⟨_, h⟩ | exact ⟨_, h.f1⟩ | exact ⟨_, h.f2⟩ | exact ⟨_, h.f3⟩ | exact ⟨_, h.f4⟩ | exact ⟨_, h.f5⟩ | exact ⟨_, h.f6⟩ | exact ⟨_, h.f7⟩ | exact ⟨_, h.f8⟩ | exact ⟨_, h.f9⟩ | exact ⟨_, h.f10⟩ | exact ⟨_, h.f11⟩ | exact ⟨_, h.f12⟩ | exact ⟨_, h.f13⟩ | exact ⟨_, h.f14⟩ | exact ⟨_, h.f15⟩)⟩
  refine wpAnyG_pure (i := 0) (oi := ⟨some 33, _, _, _, _, _⟩) (v := ?_) rfl (by kernel_rfl) (by kernel_rfl) (by kernel_rfl) (by rfl) (fun _ _ _ h => h) (by rfl) ?_ ?_
  rotate_left
  · intro w
    go_simp
    first | done | with_reducible rfl
  try simp only [Act.put, List.setIfInBounds_toArray, List.set_cons_zero, List.set_cons_succ]
  refine wpAnyG_pure (i := 1) (oi := ⟨some 34, _, _, _, _, _⟩) (v := ?_) rfl (by kernel_rfl) (by kernel_rfl) (by kernel_rfl) (by rfl) (fun _ _ _ h => h) (by rfl) ?_ ?_
  rotate_left
  · intro w
    go_simp
    first | done | with_reducible rfl
  try simp only [Act.put, List.setIfInBounds_toArray, List.set_cons_zero, List.set_cons_succ]
  refine wpAnyG_pure (i := 2) (oi := ⟨some 35, _, _, _, _, _⟩) (v := ?_) rfl (by kernel_rfl) (by kernel_rfl) (by kernel_rfl) (by rfl) (fun _ _ _ h => h) (by rfl) ?_ ?_
  rotate_left
  · intro w
    go_simp
    first | done | with_reducible rfl
  try simp only [Act.put, List.setIfInBounds_toArray, List.set_cons_zero, List.set_cons_succ]
  refine wpAnyG_pure (i := 3) (oi := ⟨some 36, _, _, _, _, _⟩) (v := ?_) rfl (by kernel_rfl) (by kernel_rfl) (by kernel_rfl) (by rfl) (fun _ _ _ h => h) (by rfl) ?_ ?_
  rotate_left
  · intro w
    go_simp
    first | done | with_reducible rfl
  try simp only [Act.put, List.setIfInBounds_toArray, List.set_cons_zero, List.set_cons_succ]
  refine wpAnyG_load (i := 4) (oi := ⟨some 37, _, _, _, _, _⟩) (v := ?_) rfl (by kernel_rfl) (by kernel_rfl) (by kernel_rfl) (by rfl) (fun _ _ _ h => h) (by rfl) ?_ (by assumption) ?_
  rotate_left
  · intro w hS
    try dsimp only at hS
    go_simp
    first | done | with_reducible rfl
  try simp only [Act.put, List.setIfInBounds_toArray, List.set_cons_zero, List.set_cons_succ]
  refine wpAnyG_pure (i := 5) (oi := ⟨some 38, _, _, _, _, _⟩) (v := ?_) rfl (by kernel_rfl) (by kernel_rfl) (by kernel_rfl) (by rfl) (fun _ _ _ h => h) (by rfl) ?_ ?_
  rotate_left
  · intro w
    go_simp
    first | done | with_reducible rfl
  try simp only [Act.put, List.setIfInBounds_toArray, List.set_cons_zero, List.set_cons_succ]
  refine wpAnyG_load (i := 6) (oi := ⟨some 39, _, _, _, _, _⟩) (v := ?_) rfl (by kernel_rfl) (by kernel_rfl) (by kernel_rfl) (by rfl) (fun _ _ _ h => h) (by rfl) ?_ (by assumption) ?_
  rotate_left
  · intro w hS
    try dsimp only at hS
    go_simp
    first | done | with_reducible rfl
  try simp only [Act.put, List.setIfInBounds_toArray, List.set_cons_zero, List.set_cons_succ]
  refine wpAnyG_keep (i := 7) (oi := ⟨some 40, _, _, _, _, _⟩) (by kernel_rfl) rfl (fun K hK => ?_)
  rw [if_pos (by rfl)]
  have h0 := h
  have h := h.alloc (.cells #[.slice q.a3 n.ls.length q.c3] LIT)
  go_simp
  refine hK.out _ _ ?_ (fun hS => ?_)
  · exact ⟨HB2.out _ (by first | exact ⟨_, h⟩ | exact ⟨_, h.f1⟩ | exact ⟨_, h.f2⟩ | exact ⟨_, h.f3⟩ | exact ⟨_, h.f4⟩ | exact ⟨_, h.f5⟩ | exact ⟨_, h.f6⟩ | exact ⟨_, h.f7⟩ | exact ⟨_, h.f8⟩ | exact ⟨_, h.f9⟩ | exact ⟨_, h.f10⟩ | exact ⟨_, h.f11⟩ | exact ⟨_, h.f12⟩ | exact ⟨_, h.f13⟩ | exact ⟨_, h.f14⟩ | exact ⟨_, h.f15⟩), HG.out _ (by first | exact ⟨_, h⟩ | exact ⟨_, h.f1⟩ | exact ⟨_, h.f2⟩ | exact ⟨_, h.f3⟩ | exact ⟨_, h.f4⟩ | exact ⟨_, h.f5⟩ | exact ⟨_, h.f6⟩ | exact ⟨_, h.f7⟩ | exact ⟨_, h.f8⟩ | exact ⟨_, h.f9⟩ | exact ⟨_, h.f10⟩ | exact ⟨_, h.f11⟩ | exact ⟨_, h.f12⟩ | exact ⟨_, h.f13⟩ | exact ⟨_, h.f14⟩ | exact ⟨_, h.f15⟩)⟩
  clear hK K
  try simp only [Act.put, List.setIfInBounds_toArray, List.set_cons_zero, List.set_cons_succ]
  refine wpAnyG_keep (i := 8) (oi := ⟨some 41, _, _, _, _, _⟩) (by kernel_rfl) rfl (fun K hK => ?_)
  rw [if_pos (by rfl)]
  clear h
  obtain ⟨v6, w6, hap, h⟩ := lst_append_new (P := Tryz.prog) (t := LLIT) (ty := LLIT) llit_u sit_info (by rfl) h0 #[.slice q.a3 n.ls.length q.c3] 1 rfl (by simp [Value.oneCell']) (by unfold maxLen; rw [List.length_map]; omega) (by rw [List.length_map]; omega)
  refine wp_append_run hap rfl rfl rfl ?_
  obtain ⟨B2, d2, rfl, -⟩ := h.lstSlice
  have e9 : (B.n.map Rc.v ++ (#[.slice q.a3 n.ls.length q.c3] : Array Value).toList).length = B.n.length + 1 := by simp
  rw [e9] at h ⊢
  refine hK.out _ _ ?_ (fun hS => ?_)
  · exact ⟨HB2.out _ (by first | exact ⟨_, h⟩ | exact ⟨_, h.f1⟩ | exact ⟨_, h.f2⟩ | exact ⟨_, h.f3⟩ | exact ⟨_, h.f4⟩ | exact ⟨_, h.f5⟩ | exact ⟨_, h.f6⟩ | exact ⟨_, h.f7⟩ | exact ⟨_, h.f8⟩ | exact ⟨_, h.f9⟩ | exact ⟨_, h.f10⟩ | exact ⟨_, h.f11⟩ | exact ⟨_, h.f12⟩ | exact ⟨_, h.f13⟩ | exact ⟨_, h.f14⟩ | exact ⟨_, h.f15⟩), HG.out _ (by first | exact ⟨_, h⟩ | exact ⟨_, h.f1⟩ | exact ⟨_, h.f2⟩ | exact ⟨_, h.f3⟩ | exact ⟨_, h.f4⟩ | exact ⟨_, h.f5⟩ | exact ⟨_, h.f6⟩ | exact ⟨_, h.f7⟩ | exact ⟨_, h.f8⟩ | exact ⟨_, h.f9⟩ | exact ⟨_, h.f10⟩ | exact ⟨_, h.f11⟩ | exact ⟨_, h.f12⟩ | exact ⟨_, h.f13⟩ | exact ⟨_, h.f14⟩ | exact ⟨_, h.f15⟩)⟩
  clear hK K
  try simp only [Act.put, List.setIfInBounds_toArray, List.set_cons_zero, List.set_cons_succ]
  refine wpAnyG_pure (i := 9) (oi := ⟨some 42, _, _, _, _, _⟩) (v := ?_) rfl (by kernel_rfl) (by kernel_rfl) (by kernel_rfl) (by rfl) (fun _ _ _ h => h) (by rfl) ?_ ?_
  rotate_left
  · intro w
    go_simp
    first | done | with_reducible rfl
  try simp only [Act.put, List.setIfInBounds_toArray, List.set_cons_zero, List.set_cons_succ]
  refine wpAnyG_pure (i := 10) (oi := ⟨some 43, _, _, _, _, _⟩) (v := ?_) rfl (by kernel_rfl) (by kernel_rfl) (by kernel_rfl) (by rfl) (fun _ _ _ h => h) (by rfl) ?_ ?_
  rotate_left
  · intro w
    go_simp
    first | done | with_reducible rfl
  try simp only [Act.put, List.setIfInBounds_toArray, List.set_cons_zero, List.set_cons_succ]
  refine wpAnyG_break (i := 11) (oi := ⟨none, _, _, _, _, _⟩) (by kernel_rfl) rfl (by kernel_rfl) (fun K hK => ?_)
  rw [if_pos (by rfl)]
  first | have h := (h : Own _ _ (Hp.blk b BKT _ :: _)) | have h := (h.f1 : Own _ _ (Hp.blk b BKT _ :: _)) | have h := (h.f2 : Own _ _ (Hp.blk b BKT _ :: _)) | have h := (h.f3 : Own _ _ (Hp.blk b BKT _ :: _)) | have h := (h.f4 : Own _ _ (Hp.blk b BKT _ :: _)) | have h := (h.f5 : Own _ _ (Hp.blk b BKT _ :: _)) | have h := (h.f6 : Own _ _ (Hp.blk b BKT _ :: _)) | have h := (h.f7 : Own _ _ (Hp.blk b BKT _ :: _)) | have h := (h.f8 : Own _ _ (Hp.blk b BKT _ :: _)) | have h := (h.f9 : Own _ _ (Hp.blk b BKT _ :: _)) | have h := (h.f10 : Own _ _ (Hp.blk b BKT _ :: _)) | have h := (h.f11 : Own _ _ (Hp.blk b BKT _ :: _)) | have h := (h.f12 : Own _ _ (Hp.blk b BKT _ :: _)) | have h := (h.f13 : Own _ _ (Hp.blk b BKT _ :: _)) | have h := (h.f14 : Own _ _ (Hp.blk b BKT _ :: _)) | have h := (h.f15 : Own _ _ (Hp.blk b BKT _ :: _))
  have f5 := h.cell 2
  have f6 := h.frozen 2
  have h := h.set 2 (.slice B2 (B.n.length + 1) d2)
  go_simp
  refine hK.out _ _ ?_
  clear hK K
  try simp only [Act.put]
  refine wpAnyG_done (by kernel_rfl) ?_ _
  refine NoPanic.normal ?_
  have h : Own E _ (Hp.blk b BKT #[.slice B0 (B.t.length + 2) d0, .slice B1 (B.t.length + 2) d1, .slice B2 (B.n.length + 1) d2, .slice A3 B.n.length c3] :: _) := h
  generalize World.setCell _ _ _ = w22 at h ⊢
  clear HB2
  go_wp2_with fail
  have HB3 : Hid (∀ w', (∃ L', Own E w' (Hp.blk b BKT #[.slice B0 (B.t.length + 2) d0, .slice B1 (B.t.length + 2) d1, .slice B2 (B.n.length + 1) d2, .slice A3 B.n.length c3] :: L')) → w'.cell? ⟨b, 3, none⟩ = some (.slice A3 B.n.length c3)) := Lib.hid fun w' hw => by
    obtain ⟨_, hw⟩ := hw
    exact hw.cell 3
  first | have h := (h : Own _ _ (Hp.lst LIT (.slice A3 B.n.length c3) (B.n.map Rc.wv) :: _)) | have h := (h.f1 : Own _ _ (Hp.lst LIT (.slice A3 B.n.length c3) (B.n.map Rc.wv) :: _)) | have h := (h.f2 : Own _ _ (Hp.lst LIT (.slice A3 B.n.length c3) (B.n.map Rc.wv) :: _)) | have h := (h.f3 : Own _ _ (Hp.lst LIT (.slice A3 B.n.length c3) (B.n.map Rc.wv) :: _)) | have h := (h.f4 : Own _ _ (Hp.lst LIT (.slice A3 B.n.length c3) (B.n.map Rc.wv) :: _)) | have h := (h.f5 : Own _ _ (Hp.lst LIT (.slice A3 B.n.length c3) (B.n.map Rc.wv) :: _)) | have h := (h.f6 : Own _ _ (Hp.lst LIT (.slice A3 B.n.length c3) (B.n.map Rc.wv) :: _)) | have h := (h.f7 : Own _ _ (Hp.lst LIT (.slice A3 B.n.length c3) (B.n.map Rc.wv) :: _)) | have h := (h.f8 : Own _ _ (Hp.lst LIT (.slice A3 B.n.length c3) (B.n.map Rc.wv) :: _)) | have h := (h.f9 : Own _ _ (Hp.lst LIT (.slice A3 B.n.length c3) (B.n.map Rc.wv) :: _)) | have h := (h.f10 : Own _ _ (Hp.lst LIT (.slice A3 B.n.length c3) (B.n.map Rc.wv) :: _)) | have h := (h.f11 : Own _ _ (Hp.lst LIT (.slice A3 B.n.length c3) (B.n.map Rc.wv) :: _)) | have h := (h.f12 : Own _ _ (Hp.lst LIT (.slice A3 B.n.length c3) (B.n.map Rc.wv) :: _)) | have h := (h.f13 : Own _ _ (Hp.lst LIT (.slice A3 B.n.length c3) (B.n.map Rc.wv) :: _)) | have h := (h.f14 : Own _ _ (Hp.lst LIT (.slice A3 B.n.length c3) (B.n.map Rc.wv) :: _)) | have h := (h.f15 : Own _ _ (Hp.lst LIT (.slice A3 B.n.length c3) (B.n.map Rc.wv) :: _))
  have h := h.drew
  refine wp_region_text [4, 6] (fun w' => w'.cell? ⟨b, 3, none⟩ = some (.slice A3 B.n.length c3) ∧ w'.cell? ⟨g4, 1, none⟩ = some (.slice c.a1 n.ks.length c.c1) ∧ w'.cell? ⟨g4, 2, none⟩ = some (.slice c.a2 n.vs.length c.c2) ∧ w'.cell? ⟨g4, 3, none⟩ = some (.slice c.a3 n.ls.length c.c3)) (by kernel_rfl) ?_ (fun hS => ?_)
  · exact ⟨HB3.out _ (by first | exact ⟨_, h⟩ | exact ⟨_, h.f1⟩ | exact ⟨_, h.f2⟩ | exact ⟨_, h.f3⟩ | exact ⟨_, h.f4⟩ | exact ⟨_, h.f5⟩ | exact ⟨_, h.f6⟩ | exact ⟨_, h.f7⟩ | exact ⟨_, h.f8⟩ | exact ⟨_, h.f9⟩ | exact ⟨_, h.f10⟩ | exact ⟨_, h.f11⟩ | exact ⟨_, h.f12⟩ | exact ⟨_, h.f13⟩ | exact ⟨_, h.f14⟩ | exact ⟨_, h.f15⟩), HG4.out _ (by first | exact ⟨_, h⟩ | exact ⟨_, h.f1⟩ | exact ⟨_, h.f2⟩ | exact ⟨_, h.f3⟩ | exact ⟨_, h.f4⟩ | exact ⟨_, h.f5⟩ | exact ⟨_, h.f6⟩ | exact ⟨_, h.f7⟩ | exact ⟨_, h.f8⟩ | exact ⟨_, h.f9⟩ | exact ⟨_, h.f10⟩ | exact ⟨_, h.f11⟩ | exact ⟨_, h.f12⟩ | exact ⟨_, h.f13⟩ | exact ⟨_, h.f14⟩ | exact ⟨_, h.f15⟩)⟩
  refine wpAnyG_pure (i := 0) (oi := ⟨some 44, _, _, _, _, _⟩) (v := ?_) rfl (by kernel_rfl) (by kernel_rfl) (by kernel_rfl) (by rfl) (fun _ _ _ h => h) (by rfl) ?_ ?_
  rotate_left
  · intro w
    go_simp
    first | done | with_reducible rfl
  try simp only [Act.put, List.setIfInBounds_toArray, List.set_cons_zero, List.set_cons_succ]
  refine wpAnyG_pure (i := 1) (oi := ⟨some 45, _, _, _, _, _⟩) (v := ?_) rfl (by kernel_rfl) (by kernel_rfl) (by kernel_rfl) (by rfl) (fun _ _ _ h => h) (by rfl) ?_ ?_
  rotate_left
  · intro w
    go_simp
    first | done | with_reducible rfl
  try simp only [Act.put, List.setIfInBounds_toArray, List.set_cons_zero, List.set_cons_succ]
  refine wpAnyG_pure (i := 2) (oi := ⟨some 46, _, _, _, _, _⟩) (v := ?_) rfl (by kernel_rfl) (by kernel_rfl) (by kernel_rfl) (by rfl) (fun _ _ _ h => h) (by rfl) ?_ ?_
  rotate_left
  · intro w
    go_simp
    first | done | with_reducible rfl
  try simp only [Act.put, List.setIfInBounds_toArray, List.set_cons_zero, List.set_cons_succ]
  refine wpAnyG_pure (i := 3) (oi := ⟨some 47, _, _, _, _, _⟩) (v := ?_) rfl (by kernel_rfl) (by kernel_rfl) (by kernel_rfl) (by rfl) (fun _ _ _ h => h) (by rfl) ?_ ?_
  rotate_left
  · intro w
    go_simp
    first | done | with_reducible rfl
  try simp only [Act.put, List.setIfInBounds_toArray, List.set_cons_zero, List.set_cons_succ]
  refine wpAnyG_load (i := 4) (oi := ⟨some 48, _, _, _, _, _⟩) (v := ?_) rfl (by kernel_rfl) (by kernel_rfl) (by kernel_rfl) (by rfl) (fun _ _ _ h => h) (by rfl) ?_ (by assumption) ?_
  rotate_left
  · intro w hS
    try dsimp only at hS
    go_simp
    first | done | with_reducible rfl
  try simp only [Act.put, List.setIfInBounds_toArray, List.set_cons_zero, List.set_cons_succ]
  refine wpAnyG_pure (i := 5) (oi := ⟨some 49, _, _, _, _, _⟩) (v := ?_) rfl (by kernel_rfl) (by kernel_rfl) (by kernel_rfl) (by rfl) (fun _ _ _ h => h) (by rfl) ?_ ?_
  rotate_left
  · intro w
    go_simp
    first | done | with_reducible rfl
  try simp only [Act.put, List.setIfInBounds_toArray, List.set_cons_zero, List.set_cons_succ]
  refine wpAnyG_load (i := 6) (oi := ⟨some 50, _, _, _, _, _⟩) (v := ?_) rfl (by kernel_rfl) (by kernel_rfl) (by kernel_rfl) (by rfl) (fun _ _ _ h => h) (by rfl) ?_ (by assumption) ?_
  rotate_left
  · intro w hS
    try dsimp only at hS
    go_simp
    first | done | with_reducible rfl
  try simp only [Act.put, List.setIfInBounds_toArray, List.set_cons_zero, List.set_cons_succ]
  refine wpAnyG_keep (i := 7) (oi := ⟨some 51, _, _, _, _, _⟩) (by kernel_rfl) rfl (fun K hK => ?_)
  rw [if_pos (by rfl)]
  have h0 := h
  have h := h.alloc (.cells #[.slice c.a3 n.ls.length c.c3] LIT)
  go_simp
  refine hK.out _ _ ?_ (fun hS => ?_)
  · exact ⟨HB3.out _ (by first | exact ⟨_, h⟩ | exact ⟨_, h.f1⟩ | exact ⟨_, h.f2⟩ | exact ⟨_, h.f3⟩ | exact ⟨_, h.f4⟩ | exact ⟨_, h.f5⟩ | exact ⟨_, h.f6⟩ | exact ⟨_, h.f7⟩ | exact ⟨_, h.f8⟩ | exact ⟨_, h.f9⟩ | exact ⟨_, h.f10⟩ | exact ⟨_, h.f11⟩ | exact ⟨_, h.f12⟩ | exact ⟨_, h.f13⟩ | exact ⟨_, h.f14⟩ | exact ⟨_, h.f15⟩), HG4.out _ (by first | exact ⟨_, h⟩ | exact ⟨_, h.f1⟩ | exact ⟨_, h.f2⟩ | exact ⟨_, h.f3⟩ | exact ⟨_, h.f4⟩ | exact ⟨_, h.f5⟩ | exact ⟨_, h.f6⟩ | exact ⟨_, h.f7⟩ | exact ⟨_, h.f8⟩ | exact ⟨_, h.f9⟩ | exact ⟨_, h.f10⟩ | exact ⟨_, h.f11⟩ | exact ⟨_, h.f12⟩ | exact ⟨_, h.f13⟩ | exact ⟨_, h.f14⟩ | exact ⟨_, h.f15⟩)⟩
  clear hK K
  try simp only [Act.put, List.setIfInBounds_toArray, List.set_cons_zero, List.set_cons_succ]
  refine wpAnyG_keep (i := 8) (oi := ⟨some 52, _, _, _, _, _⟩) (by kernel_rfl) rfl (fun K hK => ?_)
  rw [if_pos (by rfl)]
  clear h
  obtain ⟨v6, w6, hap, h⟩ := lst_append_new (P := Tryz.prog) (t := LLIT) (ty := LLIT) llit_u sit_info (by rfl) h0 #[.slice c.a3 n.ls.length c.c3] 1 rfl (by simp [Value.oneCell']) (by unfold maxLen; rw [List.length_map]; omega) (by rw [List.length_map]; omega)
  refine wp_append_run hap rfl rfl rfl ?_
  obtain ⟨B3, d3, rfl, -⟩ := h.lstSlice
  have e9 : (B.n.map Rc.wv ++ (#[.slice c.a3 n.ls.length c.c3] : Array Value).toList).length = B.n.length + 1 := by simp
  rw [e9] at h ⊢
  refine hK.out _ _ ?_ (fun hS => ?_)
  · exact ⟨HB3.out _ (by first | exact ⟨_, h⟩ | exact ⟨_, h.f1⟩ | exact ⟨_, h.f2⟩ | exact ⟨_, h.f3⟩ | exact ⟨_, h.f4⟩ | exact ⟨_, h.f5⟩ | exact ⟨_, h.f6⟩ | exact ⟨_, h.f7⟩ | exact ⟨_, h.f8⟩ | exact ⟨_, h.f9⟩ | exact ⟨_, h.f10⟩ | exact ⟨_, h.f11⟩ | exact ⟨_, h.f12⟩ | exact ⟨_, h.f13⟩ | exact ⟨_, h.f14⟩ | exact ⟨_, h.f15⟩), HG4.out _ (by first | exact ⟨_, h⟩ | exact ⟨_, h.f1⟩ | exact ⟨_, h.f2⟩ | exact ⟨_, h.f3⟩ | exact ⟨_, h.f4⟩ | exact ⟨_, h.f5⟩ | exact ⟨_, h.f6⟩ | exact ⟨_, h.f7⟩ | exact ⟨_, h.f8⟩ | exact ⟨_, h.f9⟩ | exact ⟨_, h.f10⟩ | exact ⟨_, h.f11⟩ | exact ⟨_, h.f12⟩ | exact ⟨_, h.f13⟩ | exact ⟨_, h.f14⟩ | exact ⟨_, h.f15⟩)⟩
  clear hK K
  try simp only [Act.put, List.setIfInBounds_toArray, List.set_cons_zero, List.set_cons_succ]
  refine wpAnyG_pure (i := 9) (oi := ⟨some 53, _, _, _, _, _⟩) (v := ?_) rfl (by kernel_rfl) (by kernel_rfl) (by kernel_rfl) (by rfl) (fun _ _ _ h => h) (by rfl) ?_ ?_
  rotate_left
  · intro w
    go_simp
    first | done | with_reducible rfl
  try simp only [Act.put, List.setIfInBounds_toArray, List.set_cons_zero, List.set_cons_succ]
  refine wpAnyG_pure (i := 10) (oi := ⟨some 54, _, _, _, _, _⟩) (v := ?_) rfl (by kernel_rfl) (by kernel_rfl) (by kernel_rfl) (by rfl) (fun _ _ _ h => h) (by rfl) ?_ ?_
  rotate_left
  · intro w
    go_simp
    first | done | with_reducible rfl
  try simp only [Act.put, List.setIfInBounds_toArray, List.set_cons_zero, List.set_cons_succ]
  refine wpAnyG_break (i := 11) (oi := ⟨none, _, _, _, _, _⟩) (by kernel_rfl) rfl (by kernel_rfl) (fun K hK => ?_)
  rw [if_pos (by rfl)]
  first | have h := (h : Own _ _ (Hp.blk b BKT _ :: _)) | have h := (h.f1 : Own _ _ (Hp.blk b BKT _ :: _)) | have h := (h.f2 : Own _ _ (Hp.blk b BKT _ :: _)) | have h := (h.f3 : Own _ _ (Hp.blk b BKT _ :: _)) | have h := (h.f4 : Own _ _ (Hp.blk b BKT _ :: _)) | have h := (h.f5 : Own _ _ (Hp.blk b BKT _ :: _)) | have h := (h.f6 : Own _ _ (Hp.blk b BKT _ :: _)) | have h := (h.f7 : Own _ _ (Hp.blk b BKT _ :: _)) | have h := (h.f8 : Own _ _ (Hp.blk b BKT _ :: _)) | have h := (h.f9 : Own _ _ (Hp.blk b BKT _ :: _)) | have h := (h.f10 : Own _ _ (Hp.blk b BKT _ :: _)) | have h := (h.f11 : Own _ _ (Hp.blk b BKT _ :: _)) | have h := (h.f12 : Own _ _ (Hp.blk b BKT _ :: _)) | have h := (h.f13 : Own _ _ (Hp.blk b BKT _ :: _)) | have h := (h.f14 : Own _ _ (Hp.blk b BKT _ :: _)) | have h := (h.f15 : Own _ _ (Hp.blk b BKT _ :: _))
  have f5 := h.cell 3
  have f6 := h.frozen 3
  have h := h.set 3 (.slice B3 (B.n.length + 1) d3)
  go_simp
  refine hK.out _ _ ?_
  clear hK K
  try simp only [Act.put]
  refine wpAnyG_done (by kernel_rfl) ?_ _
  refine NoPanic.normal ?_
  have h : Own E _ (Hp.blk b BKT #[.slice B0 (B.t.length + 2) d0, .slice B1 (B.t.length + 2) d1, .slice B2 (B.n.length + 1) d2, .slice B3 (B.n.length + 1) d3] :: _) := h
  generalize World.setCell _ _ _ = w23 at h ⊢
  clear HB3
  go_wp2_with fail
  go_end0
  refine ⟨rfl, q, c, ?_⟩
  subst hBe hnn
  first | have h := (h : Own _ _ (Hp.fams B :: _)) | have h := (h.f1 : Own _ _ (Hp.fams B :: _)) | have h := (h.f2 : Own _ _ (Hp.fams B :: _)) | have h := (h.f3 : Own _ _ (Hp.fams B :: _)) | have h := (h.f4 : Own _ _ (Hp.fams B :: _)) | have h := (h.f5 : Own _ _ (Hp.fams B :: _)) | have h := (h.f6 : Own _ _ (Hp.fams B :: _)) | have h := (h.f7 : Own _ _ (Hp.fams B :: _)) | have h := (h.f8 : Own _ _ (Hp.fams B :: _)) | have h := (h.f9 : Own _ _ (Hp.fams B :: _)) | have h := (h.f10 : Own _ _ (Hp.fams B :: _)) | have h := (h.f11 : Own _ _ (Hp.fams B :: _)) | have h := (h.f12 : Own _ _ (Hp.fams B :: _)) | have h := (h.f13 : Own _ _ (Hp.fams B :: _)) | have h := (h.f14 : Own _ _ (Hp.fams B :: _)) | have h := (h.f15 : Own _ _ (Hp.fams B :: _))
  first | have h := (h : Own _ _ (Hp.node (c.val n) n :: _)) | have h := (h.f1 : Own _ _ (Hp.node (c.val n) n :: _)) | have h := (h.f2 : Own _ _ (Hp.node (c.val n) n :: _)) | have h := (h.f3 : Own _ _ (Hp.node (c.val n) n :: _)) | have h := (h.f4 : Own _ _ (Hp.node (c.val n) n :: _)) | have h := (h.f5 : Own _ _ (Hp.node (c.val n) n :: _)) | have h := (h.f6 : Own _ _ (Hp.node (c.val n) n :: _)) | have h := (h.f7 : Own _ _ (Hp.node (c.val n) n :: _)) | have h := (h.f8 : Own _ _ (Hp.node (c.val n) n :: _)) | have h := (h.f9 : Own _ _ (Hp.node (c.val n) n :: _)) | have h := (h.f10 : Own _ _ (Hp.node (c.val n) n :: _)) | have h := (h.f11 : Own _ _ (Hp.node (c.val n) n :: _)) | have h := (h.f12 : Own _ _ (Hp.node (c.val n) n :: _)) | have h := (h.f13 : Own _ _ (Hp.node (c.val n) n :: _)) | have h := (h.f14 : Own _ _ (Hp.node (c.val n) n :: _)) | have h := (h.f15 : Own _ _ (Hp.node (c.val n) n :: _))
  first | have h := (h : Own _ _ (Hp.node (q.val n) n :: _)) | have h := (h.f1 : Own _ _ (Hp.node (q.val n) n :: _)) | have h := (h.f2 : Own _ _ (Hp.node (q.val n) n :: _)) | have h := (h.f3 : Own _ _ (Hp.node (q.val n) n :: _)) | have h := (h.f4 : Own _ _ (Hp.node (q.val n) n :: _)) | have h := (h.f5 : Own _ _ (Hp.node (q.val n) n :: _)) | have h := (h.f6 : Own _ _ (Hp.node (q.val n) n :: _)) | have h := (h.f7 : Own _ _ (Hp.node (q.val n) n :: _)) | have h := (h.f8 : Own _ _ (Hp.node (q.val n) n :: _)) | have h := (h.f9 : Own _ _ (Hp.node (q.val n) n :: _)) | have h := (h.f10 : Own _ _ (Hp.node (q.val n) n :: _)) | have h := (h.f11 : Own _ _ (Hp.node (q.val n) n :: _)) | have h := (h.f12 : Own _ _ (Hp.node (q.val n) n :: _)) | have h := (h.f13 : Own _ _ (Hp.node (q.val n) n :: _)) | have h := (h.f14 : Own _ _ (Hp.node (q.val n) n :: _)) | have h := (h.f15 : Own _ _ (Hp.node (q.val n) n :: _))
  have h := HFIN.out _ _ _ h
  first | have h := (h : Own _ _ (Hp.ro S :: _)) | have h := (h.f1 : Own _ _ (Hp.ro S :: _)) | have h := (h.f2 : Own _ _ (Hp.ro S :: _)) | have h := (h.f3 : Own _ _ (Hp.ro S :: _)) | have h := (h.f4 : Own _ _ (Hp.ro S :: _)) | have h := (h.f5 : Own _ _ (Hp.ro S :: _)) | have h := (h.f6 : Own _ _ (Hp.ro S :: _)) | have h := (h.f7 : Own _ _ (Hp.ro S :: _)) | have h := (h.f8 : Own _ _ (Hp.ro S :: _)) | have h := (h.f9 : Own _ _ (Hp.ro S :: _)) | have h := (h.f10 : Own _ _ (Hp.ro S :: _)) | have h := (h.f11 : Own _ _ (Hp.ro S :: _)) | have h := (h.f12 : Own _ _ (Hp.ro S :: _)) | have h := (h.f13 : Own _ _ (Hp.ro S :: _)) | have h := (h.f14 : Own _ _ (Hp.ro S :: _)) | have h := (h.f15 : Own _ _ (Hp.ro S :: _))
  first | have h := (h : Own _ _ (Hp.blk g NT _ :: _)) | have h := (h.f1 : Own _ _ (Hp.blk g NT _ :: _)) | have h := (h.f2 : Own _ _ (Hp.blk g NT _ :: _)) | have h := (h.f3 : Own _ _ (Hp.blk g NT _ :: _)) | have h := (h.f4 : Own _ _ (Hp.blk g NT _ :: _)) | have h := (h.f5 : Own _ _ (Hp.blk g NT _ :: _)) | have h := (h.f6 : Own _ _ (Hp.blk g NT _ :: _)) | have h := (h.f7 : Own _ _ (Hp.blk g NT _ :: _)) | have h := (h.f8 : Own _ _ (Hp.blk g NT _ :: _)) | have h := (h.f9 : Own _ _ (Hp.blk g NT _ :: _)) | have h := (h.f10 : Own _ _ (Hp.blk g NT _ :: _)) | have h := (h.f11 : Own _ _ (Hp.blk g NT _ :: _)) | have h := (h.f12 : Own _ _ (Hp.blk g NT _ :: _)) | have h := (h.f13 : Own _ _ (Hp.blk g NT _ :: _)) | have h := (h.f14 : Own _ _ (Hp.blk g NT _ :: _)) | have h := (h.f15 : Own _ _ (Hp.blk g NT _ :: _))
  have h := h.drop
  first | have h := (h : Own _ _ (Hp.blk g4 NT _ :: _)) | have h := (h.f1 : Own _ _ (Hp.blk g4 NT _ :: _)) | have h := (h.f2 : Own _ _ (Hp.blk g4 NT _ :: _)) | have h := (h.f3 : Own _ _ (Hp.blk g4 NT _ :: _)) | have h := (h.f4 : Own _ _ (Hp.blk g4 NT _ :: _)) | have h := (h.f5 : Own _ _ (Hp.blk g4 NT _ :: _)) | have h := (h.f6 : Own _ _ (Hp.blk g4 NT _ :: _)) | have h := (h.f7 : Own _ _ (Hp.blk g4 NT _ :: _)) | have h := (h.f8 : Own _ _ (Hp.blk g4 NT _ :: _)) | have h := (h.f9 : Own _ _ (Hp.blk g4 NT _ :: _)) | have h := (h.f10 : Own _ _ (Hp.blk g4 NT _ :: _)) | have h := (h.f11 : Own _ _ (Hp.blk g4 NT _ :: _)) | have h := (h.f12 : Own _ _ (Hp.blk g4 NT _ :: _)) | have h := (h.f13 : Own _ _ (Hp.blk g4 NT _ :: _)) | have h := (h.f14 : Own _ _ (Hp.blk g4 NT _ :: _)) | have h := (h.f15 : Own _ _ (Hp.blk g4 NT _ :: _))
  have h := h.drop
  first | have h := (h : Own _ _ (Hp.fams (B.addN q c n) :: _)) | have h := (h.f1 : Own _ _ (Hp.fams (B.addN q c n) :: _)) | have h := (h.f2 : Own _ _ (Hp.fams (B.addN q c n) :: _)) | have h := (h.f3 : Own _ _ (Hp.fams (B.addN q c n) :: _)) | have h := (h.f4 : Own _ _ (Hp.fams (B.addN q c n) :: _)) | have h := (h.f5 : Own _ _ (Hp.fams (B.addN q c n) :: _)) | have h := (h.f6 : Own _ _ (Hp.fams (B.addN q c n) :: _)) | have h := (h.f7 : Own _ _ (Hp.fams (B.addN q c n) :: _)) | have h := (h.f8 : Own _ _ (Hp.fams (B.addN q c n) :: _)) | have h := (h.f9 : Own _ _ (Hp.fams (B.addN q c n) :: _)) | have h := (h.f10 : Own _ _ (Hp.fams (B.addN q c n) :: _)) | have h := (h.f11 : Own _ _ (Hp.fams (B.addN q c n) :: _)) | have h := (h.f12 : Own _ _ (Hp.fams (B.addN q c n) :: _)) | have h := (h.f13 : Own _ _ (Hp.fams (B.addN q c n) :: _)) | have h := (h.f14 : Own _ _ (Hp.fams (B.addN q c n) :: _)) | have h := (h.f15 : Own _ _ (Hp.fams (B.addN q c n) :: _))
  have e1 : B.t.map Rc.v ++ (#[.slice q.a1 n.ks.length q.c1, .slice q.a2 n.vs.length q.c2] : Array Value).toList = (B.addN q c n).t.map Rc.v := by simp [Bk.addN]
  have e2 : B.t.map Rc.wv ++ (#[.slice c.a1 n.ks.length c.c1, .slice c.a2 n.vs.length c.c2] : Array Value).toList = (B.addN q c n).t.map Rc.wv := by simp [Bk.addN]
  have e3 : B.n.map Rc.v ++ (#[.slice q.a3 n.ls.length q.c3] : Array Value).toList = (B.addN q c n).n.map Rc.v := by simp [Bk.addN]
  have e4 : B.n.map Rc.wv ++ (#[.slice c.a3 n.ls.length c.c3] : Array Value).toList = (B.addN q c n).n.map Rc.wv := by simp [Bk.addN]
  rw [e1, e2, e3, e4] at h
  first | have h := (h : Own _ _ (Hp.lst LIT (.slice B3 (B.n.length + 1) d3) _ :: _)) | have h := (h.f1 : Own _ _ (Hp.lst LIT (.slice B3 (B.n.length + 1) d3) _ :: _)) | have h := (h.f2 : Own _ _ (Hp.lst LIT (.slice B3 (B.n.length + 1) d3) _ :: _)) | have h := (h.f3 : Own _ _ (Hp.lst LIT (.slice B3 (B.n.length + 1) d3) _ :: _)) | have h := (h.f4 : Own _ _ (Hp.lst LIT (.slice B3 (B.n.length + 1) d3) _ :: _)) | have h := (h.f5 : Own _ _ (Hp.lst LIT (.slice B3 (B.n.length + 1) d3) _ :: _)) | have h := (h.f6 : Own _ _ (Hp.lst LIT (.slice B3 (B.n.length + 1) d3) _ :: _)) | have h := (h.f7 : Own _ _ (Hp.lst LIT (.slice B3 (B.n.length + 1) d3) _ :: _)) | have h := (h.f8 : Own _ _ (Hp.lst LIT (.slice B3 (B.n.length + 1) d3) _ :: _)) | have h := (h.f9 : Own _ _ (Hp.lst LIT (.slice B3 (B.n.length + 1) d3) _ :: _)) | have h := (h.f10 : Own _ _ (Hp.lst LIT (.slice B3 (B.n.length + 1) d3) _ :: _)) | have h := (h.f11 : Own _ _ (Hp.lst LIT (.slice B3 (B.n.length + 1) d3) _ :: _)) | have h := (h.f12 : Own _ _ (Hp.lst LIT (.slice B3 (B.n.length + 1) d3) _ :: _)) | have h := (h.f13 : Own _ _ (Hp.lst LIT (.slice B3 (B.n.length + 1) d3) _ :: _)) | have h := (h.f14 : Own _ _ (Hp.lst LIT (.slice B3 (B.n.length + 1) d3) _ :: _)) | have h := (h.f15 : Own _ _ (Hp.lst LIT (.slice B3 (B.n.length + 1) d3) _ :: _))
  first | have h := (h : Own _ _ (Hp.lst LIT (.slice B2 (B.n.length + 1) d2) _ :: _)) | have h := (h.f1 : Own _ _ (Hp.lst LIT (.slice B2 (B.n.length + 1) d2) _ :: _)) | have h := (h.f2 : Own _ _ (Hp.lst LIT (.slice B2 (B.n.length + 1) d2) _ :: _)) | have h := (h.f3 : Own _ _ (Hp.lst LIT (.slice B2 (B.n.length + 1) d2) _ :: _)) | have h := (h.f4 : Own _ _ (Hp.lst LIT (.slice B2 (B.n.length + 1) d2) _ :: _)) | have h := (h.f5 : Own _ _ (Hp.lst LIT (.slice B2 (B.n.length + 1) d2) _ :: _)) | have h := (h.f6 : Own _ _ (Hp.lst LIT (.slice B2 (B.n.length + 1) d2) _ :: _)) | have h := (h.f7 : Own _ _ (Hp.lst LIT (.slice B2 (B.n.length + 1) d2) _ :: _)) | have h := (h.f8 : Own _ _ (Hp.lst LIT (.slice B2 (B.n.length + 1) d2) _ :: _)) | have h := (h.f9 : Own _ _ (Hp.lst LIT (.slice B2 (B.n.length + 1) d2) _ :: _)) | have h := (h.f10 : Own _ _ (Hp.lst LIT (.slice B2 (B.n.length + 1) d2) _ :: _)) | have h := (h.f11 : Own _ _ (Hp.lst LIT (.slice B2 (B.n.length + 1) d2) _ :: _)) | have h := (h.f12 : Own _ _ (Hp.lst LIT (.slice B2 (B.n.length + 1) d2) _ :: _)) | have h := (h.f13 : Own _ _ (Hp.lst LIT (.slice B2 (B.n.length + 1) d2) _ :: _)) | have h := (h.f14 : Own _ _ (Hp.lst LIT (.slice B2 (B.n.length + 1) d2) _ :: _)) | have h := (h.f15 : Own _ _ (Hp.lst LIT (.slice B2 (B.n.length + 1) d2) _ :: _))
  first | have h := (h : Own _ _ (Hp.lst LST (.slice B1 (B.t.length + 2) d1) _ :: _)) | have h := (h.f1 : Own _ _ (Hp.lst LST (.slice B1 (B.t.length + 2) d1) _ :: _)) | have h := (h.f2 : Own _ _ (Hp.lst LST (.slice B1 (B.t.length + 2) d1) _ :: _)) | have h := (h.f3 : Own _ _ (Hp.lst LST (.slice B1 (B.t.length + 2) d1) _ :: _)) | have h := (h.f4 : Own _ _ (Hp.lst LST (.slice B1 (B.t.length + 2) d1) _ :: _)) | have h := (h.f5 : Own _ _ (Hp.lst LST (.slice B1 (B.t.length + 2) d1) _ :: _)) | have h := (h.f6 : Own _ _ (Hp.lst LST (.slice B1 (B.t.length + 2) d1) _ :: _)) | have h := (h.f7 : Own _ _ (Hp.lst LST (.slice B1 (B.t.length + 2) d1) _ :: _)) | have h := (h.f8 : Own _ _ (Hp.lst LST (.slice B1 (B.t.length + 2) d1) _ :: _)) | have h := (h.f9 : Own _ _ (Hp.lst LST (.slice B1 (B.t.length + 2) d1) _ :: _)) | have h := (h.f10 : Own _ _ (Hp.lst LST (.slice B1 (B.t.length + 2) d1) _ :: _)) | have h := (h.f11 : Own _ _ (Hp.lst LST (.slice B1 (B.t.length + 2) d1) _ :: _)) | have h := (h.f12 : Own _ _ (Hp.lst LST (.slice B1 (B.t.length + 2) d1) _ :: _)) | have h := (h.f13 : Own _ _ (Hp.lst LST (.slice B1 (B.t.length + 2) d1) _ :: _)) | have h := (h.f14 : Own _ _ (Hp.lst LST (.slice B1 (B.t.length + 2) d1) _ :: _)) | have h := (h.f15 : Own _ _ (Hp.lst LST (.slice B1 (B.t.length + 2) d1) _ :: _))
  first | have h := (h : Own _ _ (Hp.lst LST (.slice B0 (B.t.length + 2) d0) _ :: _)) | have h := (h.f1 : Own _ _ (Hp.lst LST (.slice B0 (B.t.length + 2) d0) _ :: _)) | have h := (h.f2 : Own _ _ (Hp.lst LST (.slice B0 (B.t.length + 2) d0) _ :: _)) | have h := (h.f3 : Own _ _ (Hp.lst LST (.slice B0 (B.t.length + 2) d0) _ :: _)) | have h := (h.f4 : Own _ _ (Hp.lst LST (.slice B0 (B.t.length + 2) d0) _ :: _)) | have h := (h.f5 : Own _ _ (Hp.lst LST (.slice B0 (B.t.length + 2) d0) _ :: _)) | have h := (h.f6 : Own _ _ (Hp.lst LST (.slice B0 (B.t.length + 2) d0) _ :: _)) | have h := (h.f7 : Own _ _ (Hp.lst LST (.slice B0 (B.t.length + 2) d0) _ :: _)) | have h := (h.f8 : Own _ _ (Hp.lst LST (.slice B0 (B.t.length + 2) d0) _ :: _)) | have h := (h.f9 : Own _ _ (Hp.lst LST (.slice B0 (B.t.length + 2) d0) _ :: _)) | have h := (h.f10 : Own _ _ (Hp.lst LST (.slice B0 (B.t.length + 2) d0) _ :: _)) | have h := (h.f11 : Own _ _ (Hp.lst LST (.slice B0 (B.t.length + 2) d0) _ :: _)) | have h := (h.f12 : Own _ _ (Hp.lst LST (.slice B0 (B.t.length + 2) d0) _ :: _)) | have h := (h.f13 : Own _ _ (Hp.lst LST (.slice B0 (B.t.length + 2) d0) _ :: _)) | have h := (h.f14 : Own _ _ (Hp.lst LST (.slice B0 (B.t.length + 2) d0) _ :: _)) | have h := (h.f15 : Own _ _ (Hp.lst LST (.slice B0 (B.t.length + 2) d0) _ :: _))
  first | have h := (h : Own _ _ (Hp.blk b BKT _ :: _)) | have h := (h.f1 : Own _ _ (Hp.blk b BKT _ :: _)) | have h := (h.f2 : Own _ _ (Hp.blk b BKT _ :: _)) | have h := (h.f3 : Own _ _ (Hp.blk b BKT _ :: _)) | have h := (h.f4 : Own _ _ (Hp.blk b BKT _ :: _)) | have h := (h.f5 : Own _ _ (Hp.blk b BKT _ :: _)) | have h := (h.f6 : Own _ _ (Hp.blk b BKT _ :: _)) | have h := (h.f7 : Own _ _ (Hp.blk b BKT _ :: _)) | have h := (h.f8 : Own _ _ (Hp.blk b BKT _ :: _)) | have h := (h.f9 : Own _ _ (Hp.blk b BKT _ :: _)) | have h := (h.f10 : Own _ _ (Hp.blk b BKT _ :: _)) | have h := (h.f11 : Own _ _ (Hp.blk b BKT _ :: _)) | have h := (h.f12 : Own _ _ (Hp.blk b BKT _ :: _)) | have h := (h.f13 : Own _ _ (Hp.blk b BKT _ :: _)) | have h := (h.f14 : Own _ _ (Hp.blk b BKT _ :: _)) | have h := (h.f15 : Own _ _ (Hp.blk b BKT _ :: _))
  have h : Own E _ (Hp.blk b BKT _ :: Hp.lst LST _ _ :: Hp.lst LST _ _ :: Hp.lst LIT _ _ :: Hp.lst LIT _ _ :: Hp.fams _ :: Hp.ro S :: L) := h.ac (by simp only [Hp.all] <;> ac_rfl)
  exact h.toBk
end
end Go.Proofs.YtbclmmneiphcaaaGreatDoor
