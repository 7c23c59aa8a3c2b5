/- node.Split of a node that fits a page; latchkeylaw10.awake. -/
import Derived.Test.YtbclmmneiphcaaaDoorJoin2
namespace Go.Proofs.YtbclmmneiphcaaaDoor
open Go.RowKit
section
variable {E : World} {S : Ph} {L : List Hp}
set_option maxRecDepth 100000 in
set_option maxHeartbeats 4000000 in
theorem split_small (v : Nv) (n : Nd) (w : World) (h0 : n.wrong = 0) (hb : n.bulk ≤ 1125899906842624) (hi : NdIn S v n) (h : Own E w (Hp.ro S :: L)) :
    Calls Tryd.prog 29 #[v.val n] w fun e w' => e = .returned (.tuple #[.agg #[.bool false, .slice none 0 0, .slice none 0 0, .slice none 0 0], .string ⟨#[]⟩, .agg #[.bool false, .slice none 0 0, .slice none 0 0, .slice none 0 0], .int .i64 103]) ∧ Own E w' (Hp.ro S :: L) := by
  have hsz : n.size ≤ 480 := (Nd.wrong_zero h0).2.2
  have hwr := fun w M hw => wrong_any (E := E) (S := S) (L := M) v n w hb hi hw
  have hs := fun w M hw => size_any (E := E) (S := S) (L := M) v n w hb hi hw
  rw [h0] at hwr
  generalize n.size = sz at *
  obtain ⟨a1, c1, a2, c2, a3, c3⟩ := v
  obtain ⟨leaf, ks, vs, ls⟩ := n
  dsimp only [Nv.val] at *
  have h1 : Own E _ (Hp.blk (w.heap.size + 2) NT #[.bool false, .slice none 0 0, .slice none 0 0, .slice none 0 0] :: Hp.blk (w.heap.size + 1) NT #[.bool false, .slice none 0 0, .slice none 0 0, .slice none 0 0] :: Hp.blk w.heap.size NT #[.bool leaf, .slice a1 ks.length c1, .slice a2 vs.length c2, .slice a3 ls.length c3] :: Hp.ro S :: L) := h.alloc3 _ _ _
  obtain ⟨nt, hnt, hnr⟩ := nt_u
  obtain ⟨g, hg⟩ : ∃ g, g = w.heap.size := ⟨_, rfl⟩
  rw [← hg] at h1
  have H1 := Lib.hid h1
  have HWR := Lib.hid hwr
  have HSZ := Lib.hid hs
  have hszi : (sz : Int) ≤ 480 := by omega
  clear h h1 hwr hs hi hb h0
  go_enter Tryd.func29, Tryd.ntmps29
  go_wp2_with fail
  rw [← hg]
  clear hg
  with_reducible refine (HWR.out _ _ H1.out.f3).mono ?_
  rintro e w1 ⟨rfl, h⟩
  have q0 : w1.cell? ⟨g, 0, none⟩ = some (.bool leaf) := h.f3.cell 0
  have q1 : w1.cell? ⟨g, 1, none⟩ = some (.slice a1 ks.length c1) := h.f3.cell 1
  have q2 : w1.cell? ⟨g, 2, none⟩ = some (.slice a2 vs.length c2) := h.f3.cell 2
  have q3 : w1.cell? ⟨g, 3, none⟩ = some (.slice a3 ls.length c3) := h.f3.cell 3
  have H := Lib.hid h
  clear h H1
  go_wp2_with fail
  with_reducible refine (HSZ.out _ _ H.out).mono ?_
  rintro e w2 ⟨rfl, h⟩
  have H2 := Lib.hid h.f2
  clear q0 q1 q2 q3 h H
  go_wp2_with (with_reducible refine at_slot (k := none) ?_; first | (refine wpList_store_whole (o := ⟨none, _, _, _, _, _⟩) (g := g + 1) (cs := [.bool false, .slice none 0 0, .slice none 0 0, .slice none 0 0]) (vs := [.bool false, .slice none 0 0, .slice none 0 0, .slice none 0 0]) H2.out rfl (ND_all1 _ _ _ _ rfl rfl rfl) (by kernel_rfl) rfl rfl rfl rfl ?_; intro w7 h7) | (refine wpList_store_whole (o := ⟨none, _, _, _, _, _⟩) (g := g + 2) (cs := [.bool false, .slice none 0 0, .slice none 0 0, .slice none 0 0]) (vs := [.bool false, .slice none 0 0, .slice none 0 0, .slice none 0 0]) h7.f2 rfl (ND_all1 _ _ _ _ rfl rfl rfl) (by kernel_rfl) rfl rfl rfl rfl ?_; intro w8 h8))
  refine bodyPost_ret (results_ctct rfl rfl rfl h8.f1 hnt hnr (by kernel_rfl) (by kernel_rfl)) rfl ?_
  exact ⟨rfl, h8.drop.drop.f1.drop⟩
theorem Nv.val_inj {v u : Nv} {n : Nd} (h : v.val n = u.val n) : v = u := by
  obtain ⟨a1, c1, a2, c2, a3, c3⟩ := v
  obtain ⟨b1, d1, b2, d2, b3, d3⟩ := u
  simp only [Nv.val, Value.agg.injEq, Array.mk.injEq, List.cons.injEq, Value.slice.injEq, and_true, true_and] at h
  obtain ⟨⟨rfl, rfl⟩, ⟨rfl, rfl⟩, rfl, rfl⟩ := h
  rfl
theorem Own.lendNode {w : World} {q : Nv} {n : Nd} (h : Own E w (Hp.node (q.val n) n :: Hp.ro S :: L)) : ∃ T : Ph, (∀ k o, S k = some o → T k = some o) ∧ NdIn T q n ∧ Own E w (Hp.ro T :: L) := by
  obtain ⟨a, hA, hd, h2⟩ := h.lend
  obtain ⟨u, hu, hin⟩ := node_in hA
  obtain rfl := Nv.val_inj hu
  exact ⟨_, Ph.join_r hd, hin.sub Ph.join_l, h2⟩
theorem Own.lendAny {w : World} {v : Value} {n : Nd} (h : Own E w (Hp.node v n :: Hp.ro S :: L)) : ∃ (T : Ph) (q : Nv), (∀ k o, S k = some o → T k = some o) ∧ v = q.val n ∧ NdIn T q n ∧ Own E w (Hp.ro T :: L) := by
  obtain ⟨a, hA, hd, h2⟩ := h.lend
  obtain ⟨u, hu, hin⟩ := node_in hA
  exact ⟨_, u, Ph.join_r hd, hu, hin.sub Ph.join_l, h2⟩
theorem Own.blkLst {w : World} {g : Nat} {e : TypeId} {cs : List Value} (h : Own E w (Hp.blk g e cs.toArray :: L)) (hm : cs.length ≤ maxLen) : Own E w (Hp.lst e (.slice (some ⟨g, 0, none⟩) cs.length cs.length) cs :: L) :=
  h.toMk.mtoLst cs.length (by simp) hm (Nat.le_refl _) (by simp)
theorem Own.toRo0 {w : World} (h : Own E w L) : Own E w (Hp.ro Ph.emp :: L) := Own.emp.2 h
end
def tA : ByteArray := ⟨#[97]⟩
def tBC : ByteArray := ⟨#[98, 99]⟩
def tOne : ByteArray := ⟨#[49]⟩
def tNo : ByteArray := ⟨#[]⟩
def tM : ByteArray := ⟨#[109]⟩
def tB : ByteArray := ⟨#[98]⟩
def tTwo : ByteArray := ⟨#[50]⟩
def nd1 : Nd := ⟨true, [⟨#[97]⟩, ⟨#[98, 99]⟩], [⟨#[49]⟩, ⟨#[]⟩], []⟩
def nd2 : Nd := ⟨false, [⟨#[109]⟩], [], [5, 9]⟩
def nd3 : Nd := ⟨true, [⟨#[97]⟩], [⟨#[49]⟩], []⟩
def nd4 : Nd := ⟨true, [⟨#[98]⟩], [⟨#[50]⟩], []⟩
def pg1 : Pg := ⟨1, 0, 0, [], ⟨#[2, 1, 97, 1, 49, 2, 98, 99, 0]⟩⟩
theorem nd1_page : nd1.page = pg1 := by kernel_rfl
theorem nd1_wrong : nd1.wrong = 0 := by kernel_rfl
theorem pg1_node : pg1.node = nd1 := by kernel_rfl
theorem pg1_wrong : pg1.wrong = 0 := by kernel_rfl
theorem nd1_find : nd1.find ⟨#[98, 99]⟩ = (1, true) := by kernel_rfl
theorem nd2_find : nd2.find ⟨#[109]⟩ = (1, false) := by kernel_rfl
theorem nd34_e : joinE nd3 ⟨#[98]⟩ nd4 = 0 := by kernel_rfl
theorem nd34 : nd3.join ⟨#[98]⟩ nd4 = ⟨true, [⟨#[97]⟩, ⟨#[98]⟩], [⟨#[49]⟩, ⟨#[50]⟩], []⟩ := by kernel_rfl
theorem nd1_size : nd1.size = 8 := by kernel_rfl
theorem between1 : betweenV ⟨#[97, 112, 112, 108, 101]⟩ ⟨#[112, 101, 97, 114]⟩ = ⟨#[112]⟩ := by kernel_rfl
theorem nd1_bulk : nd1.bulk ≤ 100 := by decide
theorem nd2_bulk : nd2.bulk ≤ 100 := by decide
theorem nd3_bulk : nd3.bulk ≤ 100 := by decide
theorem nd4_bulk : nd4.bulk ≤ 100 := by decide
section
variable {E : World} {S : Ph} {L : List Hp}
set_option maxRecDepth 100000 in
set_option maxHeartbeats 8000000 in
theorem awake_any (w : World) (hG : Laid0 E L) (h : Own E w L) :
    Calls Tryd.prog 10 #[] w fun e w' => e = .returned (.bool true) ∧ Own E w' L := by
  have h1 : Own E _ (Hp.blk (w.heap.size + 2) NT #[.bool true, .slice (some ⟨w.heap.size, 0, none⟩) 2 2, .slice (some ⟨w.heap.size + 1, 0, none⟩) 2 2, .slice none 0 0] :: Hp.blk (w.heap.size + 1) ST ([⟨#[49]⟩, ⟨#[]⟩].map VS).toArray :: Hp.blk w.heap.size ST ([⟨#[97]⟩, ⟨#[98, 99]⟩].map VS).toArray :: L) := h.alloc3 _ _ _
  obtain ⟨g, hg⟩ : ∃ g, g = w.heap.size := ⟨_, rfl⟩
  rw [← hg] at h1
  have h2 : Own E _ (Hp.strs (.slice (some ⟨g, 0, none⟩) 2 2) [⟨#[97]⟩, ⟨#[98, 99]⟩] :: Hp.strs (.slice (some ⟨g + 1, 0, none⟩) 2 2) [⟨#[49]⟩, ⟨#[]⟩] :: Hp.blk (g + 2) NT #[.bool true, .slice (some ⟨g, 0, none⟩) 2 2, .slice (some ⟨g + 1, 0, none⟩) 2 2, .slice none 0 0] :: L) := (h1.f1.blkLst (by simp [maxLen])).f2.blkLst (by simp [maxLen])
  have h3 : Own E _ (Hp.strs (.slice (some ⟨g, 0, none⟩) 2 2) [⟨#[97]⟩, ⟨#[98, 99]⟩] :: Hp.strs (.slice (some ⟨g + 1, 0, none⟩) 2 2) [⟨#[49]⟩, ⟨#[]⟩] :: Hp.ints (.slice none 0 0) [] :: Hp.ro Ph.emp :: Hp.blk (g + 2) NT #[.bool true, .slice (some ⟨g, 0, none⟩) 2 2, .slice (some ⟨g + 1, 0, none⟩) 2 2, .slice none 0 0] :: L) := (h2.toRo0.emptyLst IT none).f3.f3
  have h4 : Own E _ (Hp.node (Nv.val ⟨some ⟨g, 0, none⟩, 2, some ⟨g + 1, 0, none⟩, 2, none, 0⟩ nd1) nd1 :: Hp.ro Ph.emp :: Hp.blk (g + 2) NT #[.bool true, .slice (some ⟨g, 0, none⟩) 2 2, .slice (some ⟨g + 1, 0, none⟩) 2 2, .slice none 0 0] :: L) := Own.toNode (n := nd1) h3
  obtain ⟨T1, -, in1, h5⟩ := h4.lendNode
  have IN1 := Lib.hid in1
  have H5 := Lib.hid h5
  have HG := Lib.hid hG
  clear h h1 h2 h3 h4 h5 in1 hG
  go_enter Tryd.func10, Tryd.ntmps10
  go_wp2_with fail
  rw [← hg]
  clear hg
  refine (page_any ⟨some ⟨g, 0, none⟩, 2, some ⟨g + 1, 0, none⟩, 2, none, 0⟩ nd1 _ (Nat.le_trans nd1_bulk (by omega)) IN1.out H5.out).mono ?_
  rintro e w1 ⟨pv, rfl, h⟩
  rw [nd1_page] at h
  rw [nd1_wrong]
  obtain ⟨lv, rfl, hp⟩ := h.ofPage
  clear h H5
  obtain ⟨A2, c2, rfl, -⟩ := hp.lstSlice
  have h : Own E w1 (Hp.ints (.slice A2 0 c2) [] :: Hp.ro T1 :: Hp.blk (g + 2) NT #[.bool true, .slice (some ⟨g, 0, none⟩) 2 2, .slice (some ⟨g + 1, 0, none⟩) 2 2, .slice none 0 0] :: L) := hp
  clear hp
  have hal : Own E _ (Hp.blk w1.heap.size PT #[VI 1, VI 0, VI 0, .slice A2 0 c2, .string ⟨#[2, 1, 97, 1, 49, 2, 98, 99, 0]⟩] :: _) := h.alloc _
  obtain ⟨g2, hg2⟩ : ∃ x, x = w1.heap.size := ⟨_, rfl⟩
  rw [← hg2] at hal
  have H := Lib.hid hal
  clear h hal
  simp only [pg1, List.map_nil, List.length_nil]
  go_wp2_with fail
  rw [← hg2]
  clear hg2
  refine (parse_any A2 c2 pg1 _ HG.out.cons.cons.cons.cons (by decide) (by decide) ⟨rfl, fun _ => rfl, fun _ hk => by cases hk⟩ H.out.f2).mono ?_
  rintro e w2 ⟨nv, rfl, h⟩
  rw [pg1_node] at h
  rw [pg1_wrong]
  obtain ⟨T2, q2, sub2, rfl, in2, hp⟩ := h.lendAny
  clear h H
  have in1 := IN1.out.sub sub2
  clear IN1 sub2
  obtain ⟨b1, e1, b2, e2, b3, e3⟩ := q2
  have h : Own E w2 (Hp.ro T2 :: Hp.blk g2 PT #[VI 1, VI 0, VI 0, .slice A2 0 c2, .string ⟨#[2, 1, 97, 1, 49, 2, 98, 99, 0]⟩] :: Hp.ints (.slice A2 0 c2) [] :: Hp.blk (g + 2) NT #[.bool true, .slice (some ⟨g, 0, none⟩) 2 2, .slice (some ⟨g + 1, 0, none⟩) 2 2, .slice none 0 0] :: L) := hp
  have hal : Own E _ (Hp.blk w2.heap.size NT #[.bool true, .slice b1 2 e1, .slice b2 2 e2, .slice b3 0 e3] :: _) := h.alloc _
  obtain ⟨g4, hg4⟩ : ∃ x, x = w2.heap.size := ⟨_, rfl⟩
  rw [← hg4] at hal
  have p0 := hal.f4.cell 0
  have p1 := hal.f4.cell 1
  have p2 := hal.f4.cell 2
  have p3 := hal.f4.cell 3
  have H := Lib.hid hal
  have IN1 := Lib.hid in1
  have IN2 := Lib.hid in2
  clear h hal hp in1 in2
  simp only [Nv.val, nd1, List.length_cons, List.length_nil, Nat.zero_add, Nat.reduceAdd]
  go_wp2_with fail
  rw [← hg4]
  refine (find_any ⟨some ⟨g, 0, none⟩, 2, some ⟨g + 1, 0, none⟩, 2, none, 0⟩ nd1 ⟨#[98, 99]⟩ _ (Nat.le_trans nd1_bulk (by omega)) IN1.out H.out.f1).mono ?_
  rintro e w3 ⟨rfl, h⟩
  rw [nd1_find]
  clear p0 p1 p2 p3 H hg4
  -- an inner node
  have hal : Own E _ (Hp.blk (w3.heap.size + 1) IT ([5, 9].map VI).toArray :: Hp.blk w3.heap.size ST ([⟨#[109]⟩].map VS).toArray :: _) := h.alloc2 _ _
  obtain ⟨g5, hg5⟩ : ∃ x, x = w3.heap.size := ⟨_, rfl⟩
  rw [← hg5] at hal
  have k1 : Own E _ (Hp.ints (.slice (some ⟨g5 + 1, 0, none⟩) 2 2) [5, 9] :: Hp.blk g5 ST ([⟨#[109]⟩].map VS).toArray :: _) := hal.blkLst (by simp [maxLen])
  have k2 : Own E _ (Hp.strs (.slice (some ⟨g5, 0, none⟩) 1 1) [⟨#[109]⟩] :: Hp.ints (.slice (some ⟨g5 + 1, 0, none⟩) 2 2) [5, 9] :: _) := k1.f1.blkLst (by simp [maxLen])
  have k3 : Own E _ (Hp.strs (.slice (some ⟨g5, 0, none⟩) 1 1) [⟨#[109]⟩] :: Hp.strs (.slice none 0 0) [] :: Hp.ints (.slice (some ⟨g5 + 1, 0, none⟩) 2 2) [5, 9] :: _) := (k2.emptyLst ST none).f1
  have k4 : Own E _ (Hp.node (Nv.val ⟨some ⟨g5, 0, none⟩, 1, none, 0, some ⟨g5 + 1, 0, none⟩, 2⟩ nd2) nd2 :: Hp.ro T2 :: _) := Own.toNode (n := nd2) k3
  obtain ⟨T3, sub3, in3, h5⟩ := k4.lendNode
  have in1 := IN1.out.sub sub3
  have in2 := IN2.out.sub sub3
  have H := Lib.hid h5
  have IN3 := Lib.hid in3
  clear IN1 IN2 h hal k1 k2 k3 k4 sub3 in3 h5
  have IN1 := Lib.hid in1
  have IN2 := Lib.hid in2
  clear in1 in2
  go_wp2_with fail
  rw [← hg5]
  clear hg5
  refine (find_any ⟨some ⟨g5, 0, none⟩, 1, none, 0, some ⟨g5 + 1, 0, none⟩, 2⟩ nd2 ⟨#[109]⟩ _ (Nat.le_trans nd2_bulk (by omega)) IN3.out H.out).mono ?_
  rintro e w4 ⟨rfl, h⟩
  rw [nd2_find]
  clear H IN3
  have p0 := h.f4.cell 0
  have p1 := h.f4.cell 1
  have p2 := h.f4.cell 2
  have p3 := h.f4.cell 3
  have q0 := h.f1.cell 0
  have q1 := h.f1.cell 1
  have q2 := h.f1.cell 2
  have q3 := h.f1.cell 3
  have H := Lib.hid h
  clear h
  go_wp2_with fail
  refine (nodes_same ⟨b1, e1, b2, e2, b3, e3⟩ ⟨some ⟨g, 0, none⟩, 2, some ⟨g + 1, 0, none⟩, 2, none, 0⟩ nd1 _ (Nat.le_trans nd1_bulk (by omega)) IN2.out IN1.out H.out).mono ?_
  rintro e w5 ⟨rfl, h⟩
  clear p0 p1 p2 p3 q0 q1 q2 q3 H IN2
  -- two leaves
  have hal0 : Own E _ (Hp.blk (w5.heap.size + 1) ST ([⟨#[49]⟩].map VS).toArray :: Hp.blk w5.heap.size ST ([⟨#[97]⟩].map VS).toArray :: _) := h.alloc2 _ _
  have hal1 : Own E _ (Hp.blk (((w5.alloc _).alloc _).heap.size + 1) ST ([⟨#[50]⟩].map VS).toArray :: Hp.blk ((w5.alloc _).alloc _).heap.size ST ([⟨#[98]⟩].map VS).toArray :: _) := hal0.alloc2 _ _
  rw [alloc_size, alloc_size] at hal1
  obtain ⟨g5, hg5⟩ : ∃ x, x = w5.heap.size := ⟨_, rfl⟩
  rw [← hg5] at hal1
  have k1 : Own E _ (Hp.strs (.slice (some ⟨g5 + 1 + 1 + 1, 0, none⟩) 1 1) [⟨#[50]⟩] :: Hp.blk (g5 + 1 + 1) ST ([⟨#[98]⟩].map VS).toArray :: Hp.blk (g5 + 1) ST ([⟨#[49]⟩].map VS).toArray :: Hp.blk g5 ST ([⟨#[97]⟩].map VS).toArray :: _) := hal1.blkLst (by simp [maxLen])
  have k2 : Own E _ (Hp.strs (.slice (some ⟨g5 + 1 + 1, 0, none⟩) 1 1) [⟨#[98]⟩] :: Hp.strs (.slice (some ⟨g5 + 1 + 1 + 1, 0, none⟩) 1 1) [⟨#[50]⟩] :: Hp.blk (g5 + 1) ST ([⟨#[49]⟩].map VS).toArray :: Hp.blk g5 ST ([⟨#[97]⟩].map VS).toArray :: _) := k1.f1.blkLst (by simp [maxLen])
  have k3 : Own E _ (Hp.strs (.slice (some ⟨g5 + 1, 0, none⟩) 1 1) [⟨#[49]⟩] :: Hp.strs (.slice (some ⟨g5 + 1 + 1, 0, none⟩) 1 1) [⟨#[98]⟩] :: Hp.strs (.slice (some ⟨g5 + 1 + 1 + 1, 0, none⟩) 1 1) [⟨#[50]⟩] :: Hp.blk g5 ST ([⟨#[97]⟩].map VS).toArray :: _) := k2.f2.blkLst (by simp [maxLen])
  have k4 : Own E _ (Hp.strs (.slice (some ⟨g5, 0, none⟩) 1 1) [⟨#[97]⟩] :: Hp.strs (.slice (some ⟨g5 + 1, 0, none⟩) 1 1) [⟨#[49]⟩] :: Hp.strs (.slice (some ⟨g5 + 1 + 1, 0, none⟩) 1 1) [⟨#[98]⟩] :: Hp.strs (.slice (some ⟨g5 + 1 + 1 + 1, 0, none⟩) 1 1) [⟨#[50]⟩] :: _) := k3.f3.blkLst (by simp [maxLen])
  have k5 : Own E _ (Hp.strs (.slice (some ⟨g5, 0, none⟩) 1 1) [⟨#[97]⟩] :: Hp.strs (.slice (some ⟨g5 + 1, 0, none⟩) 1 1) [⟨#[49]⟩] :: Hp.ints (.slice none 0 0) [] :: _) := (k4.emptyLst IT none).f2.f2
  have k6 : Own E _ (Hp.node (Nv.val ⟨some ⟨g5, 0, none⟩, 1, some ⟨g5 + 1, 0, none⟩, 1, none, 0⟩ nd3) nd3 :: Hp.strs (.slice (some ⟨g5 + 1 + 1, 0, none⟩) 1 1) [⟨#[98]⟩] :: Hp.strs (.slice (some ⟨g5 + 1 + 1 + 1, 0, none⟩) 1 1) [⟨#[50]⟩] :: Hp.ro T3 :: _) := Own.toNode (n := nd3) k5
  obtain ⟨T4, sub4, in3, k7⟩ := k6.f3.f1.lendNode
  have k8 : Own E _ (Hp.strs (.slice (some ⟨g5 + 1 + 1, 0, none⟩) 1 1) [⟨#[98]⟩] :: Hp.strs (.slice (some ⟨g5 + 1 + 1 + 1, 0, none⟩) 1 1) [⟨#[50]⟩] :: Hp.ints (.slice none 0 0) [] :: Hp.ro T4 :: _) := (k7.emptyLst IT none).f3.f3
  have k9 : Own E _ (Hp.node (Nv.val ⟨some ⟨g5 + 1 + 1, 0, none⟩, 1, some ⟨g5 + 1 + 1 + 1, 0, none⟩, 1, none, 0⟩ nd4) nd4 :: Hp.ro T4 :: _) := Own.toNode (n := nd4) k8
  obtain ⟨T5, sub5, in4, h5⟩ := k9.lendNode
  have in3 := in3.sub sub5
  have in1 := (IN1.out.sub sub4).sub sub5
  have H := Lib.hid h5
  have IN3 := Lib.hid in3
  have IN4 := Lib.hid in4
  clear IN1 h hal0 hal1 k1 k2 k3 k4 k5 k6 k7 k8 k9 sub4 sub5 h5 in3 in4
  have IN1 := Lib.hid in1
  clear in1
  go_wp2_with fail
  rw [← hg5]
  clear hg5
  refine (join_any ⟨some ⟨g5, 0, none⟩, 1, some ⟨g5 + 1, 0, none⟩, 1, none, 0⟩ ⟨some ⟨g5 + 1 + 1, 0, none⟩, 1, some ⟨g5 + 1 + 1 + 1, 0, none⟩, 1, none, 0⟩ nd3 ⟨#[98]⟩ nd4 _ (by decide) (Nat.le_trans nd3_bulk (by omega)) (Nat.le_trans nd4_bulk (by omega)) IN3.out IN4.out H.out).mono ?_
  rintro e w6 ⟨jv, rfl, h⟩
  rw [nd34] at h
  rw [nd34_e]
  obtain ⟨z1, z2, z3, rfl, hp⟩ := h.ofNode
  clear h H IN3 IN4
  obtain ⟨Z1, y1, rfl, -⟩ := hp.lstSlice
  obtain ⟨Z2, y2, rfl, -⟩ := hp.f1.lstSlice
  obtain ⟨Z3, y3, rfl, -⟩ := hp.f2.lstSlice
  have h := hp.drop.drop.drop
  clear hp
  have hal : Own E _ (Hp.blk w6.heap.size NT #[.bool true, .slice Z1 2 y1, .slice Z2 2 y2, .slice Z3 0 y3] :: _) := h.alloc _
  obtain ⟨g11, hg11⟩ : ∃ x, x = w6.heap.size := ⟨_, rfl⟩
  rw [← hg11] at hal
  have p0 := hal.f5.cell 0
  have p1 := hal.f5.cell 1
  have p2 := hal.f5.cell 2
  have p3 := hal.f5.cell 3
  have H := Lib.hid hal
  clear h hal
  simp only [List.map_cons, List.map_nil, List.length_cons, List.length_nil, Nat.zero_add, Nat.reduceAdd]
  go_wp2_with fail
  rw [← hg11]
  clear hg11
  refine (split_small ⟨some ⟨g, 0, none⟩, 2, some ⟨g + 1, 0, none⟩, 2, none, 0⟩ nd1 _ nd1_wrong (Nat.le_trans nd1_bulk (by omega)) IN1.out H.out.f1).mono ?_
  rintro e w7 ⟨rfl, h⟩
  clear p0 p1 p2 p3 H
  have hal := h.alloc2 (.cells #[.bool false, .slice none 0 0, .slice none 0 0, .slice none 0 0] NT) (.cells #[.bool false, .slice none 0 0, .slice none 0 0, .slice none 0 0] NT)
  have hd := hal.drop.drop
  have p0 := hd.f5.cell 0
  have p1 := hd.f5.cell 1
  have p2 := hd.f5.cell 2
  have p3 := hd.f5.cell 3
  have q0 := hd.f3.cell 0
  have q4 := hd.f3.cell 4
  have H := Lib.hid hd
  clear h hal hd
  have b1' : (⟨#[2, 1, 97, 1, 49, 2, 98, 99, 0]⟩ : ByteArray).toList == (⟨#[2, 1, 97, 1, 49, 2, 98, 99, 0]⟩ : ByteArray).toList := by simp
  go_wp2_with fail
  refine (size_any ⟨some ⟨g, 0, none⟩, 2, some ⟨g + 1, 0, none⟩, 2, none, 0⟩ nd1 _ (Nat.le_trans nd1_bulk (by omega)) IN1.out H.out).mono ?_
  rintro e w8 ⟨rfl, h⟩
  rw [nd1_size]
  clear p0 p1 p2 p3 q0 q4 H
  have q1 := h.f1.cell 1
  have H := Lib.hid h
  clear h
  go_wp2_with fail
  refine (between_any ⟨#[97, 112, 112, 108, 101]⟩ ⟨#[112, 101, 97, 114]⟩ _ (by decide) H.out).mono ?_
  rintro e w9 ⟨rfl, h⟩
  rw [between1]
  clear q1
  go_wp2_with fail
  go_ret
  exact ⟨rfl, h.drop.drop.drop.drop.drop.drop⟩
end
end Go.Proofs.YtbclmmneiphcaaaDoor
