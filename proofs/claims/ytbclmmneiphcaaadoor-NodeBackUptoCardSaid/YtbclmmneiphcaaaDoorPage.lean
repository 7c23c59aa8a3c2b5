/- Nodes and pages that the call owns; node.Page. -/
import Derived.Test.YtbclmmneiphcaaaDoorCopies
import Derived.Test.YtbclmmneiphcaaaDoorRes
import Derived.Test.YtbclmmneiphcaaaDoorWText
namespace Go.Proofs.YtbclmmneiphcaaaDoor
open Go.RowKit
abbrev PT : TypeId := 45
/-- A page, as data. -/
structure Pg where
  kind : Int
  number : Int
  birth : Int
  links : List Int
  body : ByteArray
def Pg.nil : Pg := ⟨0, 0, 0, [], ⟨#[]⟩⟩
/-- A node whose lists are owned. -/
def Hp.node (v : Value) (n : Nd) : Hp := Hp.ex fun t : Value × Value × Value => Hp.all [Hp.pure (v = .agg #[.bool n.leaf, t.1, t.2.1, t.2.2]), Hp.strs t.1 n.ks, Hp.strs t.2.1 n.vs, Hp.ints t.2.2 n.ls]
def Hp.page (v : Value) (p : Pg) : Hp := Hp.ex fun t : Value => Hp.all [Hp.pure (v = .agg #[VI p.kind, VI p.number, VI p.birth, t, .string p.body]), Hp.ints t p.links]
section
variable {E w : World} {L : List Hp} {v : Value} {n : Nd} {p : Pg}
theorem Own.toNode {a b c : Value} (h : Own E w (Hp.strs a n.ks :: Hp.strs b n.vs :: Hp.ints c n.ls :: L)) : Own E w (Hp.node (.agg #[.bool n.leaf, a, b, c]) n :: L) :=
  Own.ex.2 ⟨(a, b, c), Own.star.2 (Own.pure.2 ⟨rfl, h⟩)⟩
theorem Own.ofNode (h : Own E w (Hp.node v n :: L)) : ∃ a b c, v = .agg #[.bool n.leaf, a, b, c] ∧ Own E w (Hp.strs a n.ks :: Hp.strs b n.vs :: Hp.ints c n.ls :: L) := by
  obtain ⟨⟨a, b, c⟩, h2⟩ := Own.ex.1 h
  obtain ⟨e, h3⟩ := Own.pure.1 (Own.star.1 h2)
  exact ⟨a, b, c, e, h3⟩
theorem Own.toPage {a : Value} (h : Own E w (Hp.ints a p.links :: L)) : Own E w (Hp.page (.agg #[VI p.kind, VI p.number, VI p.birth, a, .string p.body]) p :: L) :=
  Own.ex.2 ⟨a, Own.star.2 (Own.pure.2 ⟨rfl, h⟩)⟩
theorem Own.ofPage (h : Own E w (Hp.page v p :: L)) : ∃ a, v = .agg #[VI p.kind, VI p.number, VI p.birth, a, .string p.body] ∧ Own E w (Hp.ints a p.links :: L) := by
  obtain ⟨a, h2⟩ := Own.ex.1 h
  obtain ⟨e, h3⟩ := Own.pure.1 (Own.star.1 h2)
  exact ⟨a, e, h3⟩
theorem Own.nilNode (h : Own E w L) : Own E w (Hp.node (.agg #[.bool false, .slice none 0 0, .slice none 0 0, .slice none 0 0]) Nd.nil :: L) :=
  Own.toNode (n := Nd.nil) (((h.emptyLst IT none).emptyLst ST none).emptyLst ST none)
theorem Own.nilPage (h : Own E w L) : Own E w (Hp.page (.agg #[VI 0, VI 0, VI 0, .slice none 0 0, .string ⟨#[]⟩]) Pg.nil :: L) :=
  Own.toPage (p := Pg.nil) (h.emptyLst IT none)
/-- A node that is owned reads as what it is. -/
theorem node_in {a : Ph} (h : Hp.node v n a) : ∃ q : Nv, v = q.val n ∧ NdIn a q n := by
  obtain ⟨⟨x, y, z⟩, b1, b2, _, rfl, ⟨rfl, rfl⟩, h2⟩ := h
  rw [Ph.emp_join]
  obtain ⟨a1, r1, d1, rfl, h1, h2⟩ := h2
  obtain ⟨a2, r2, d2, rfl, h3, h4⟩ := h2
  obtain ⟨a3, r3, d3, rfl, h5, h6⟩ := h4
  have e6 : r3 = Ph.emp := h6
  subst e6
  have h5' := h5
  have h3' := h3
  have h1' := h1
  obtain ⟨A1, c1, rfl, -⟩ := h1'
  obtain ⟨A2, c2, rfl, -⟩ := h3'
  obtain ⟨A3, c3, rfl, -⟩ := h5'
  obtain ⟨g1, g2, g3, g4⟩ := lst_rds h1
  obtain ⟨k1, k2, k3, k4⟩ := lst_rds h3
  obtain ⟨j1, j2, j3, j4⟩ := lst_rds h5
  simp only [List.length_map] at *
  rw [Ph.join_emp] at d2 ⊢
  have s1 : ∀ k o, a1 k = some o → Ph.join a1 (Ph.join a2 a3) k = some o := fun k o hk => Ph.join_some hk
  have hd := Ph.apart_join.1 (Ph.apart_comm (Ph.apart_comm d1))
  have s2 : ∀ k o, a2 k = some o → Ph.join a1 (Ph.join a2 a3) k = some o := fun k o hk => by
    rw [Ph.join_comm (by simpa [Ph.join_emp] using d1)]; exact Ph.join_some (Ph.join_some hk)
  have s3 : ∀ k o, a3 k = some o → Ph.join a1 (Ph.join a2 a3) k = some o := fun k o hk => by
    rw [Ph.join_comm (by simpa [Ph.join_emp] using d1)]
    refine Ph.join_some ?_
    rw [Ph.join_comm d2]; exact Ph.join_some hk
  exact ⟨⟨A1, c1, A2, c2, A3, c3⟩, rfl, g1.sub s1, k1.sub s2, j1.sub s3, g2, k2, j2, g3, k3, j3⟩
end
/- WHAT A PAGE BEARS -/
def textB (s : ByteArray) : List UInt8 := byN 1 s.size ++ s.data.toList
def Nd.ent (n : Nd) (i : Nat) : List UInt8 := textB (n.ks.getD i ⟨#[]⟩) ++ if n.leaf then textB (n.vs.getD i ⟨#[]⟩) else []
def Nd.ents (n : Nd) (k : Nat) : List UInt8 := byN 1 n.ks.length ++ (List.range k).flatMap n.ent
theorem Nd.ents_succ (n : Nd) (k : Nat) : n.ents (k + 1) = n.ents k ++ n.ent k := by simp [Nd.ents, List.range_succ]
def Nd.page (n : Nd) : Pg := if n.wrong = 0 then ⟨if n.leaf then 1 else 2, 0, 0, n.ls, ⟨(n.ents n.ks.length).toArray⟩⟩ else Pg.nil
/-- What is right. -/
theorem Nd.wrong_zero {n : Nd} (h : n.wrong = 0) : n.formed 1 = true ∧ mayB n.ks = true ∧ n.size ≤ 480 := by
  unfold Nd.wrong at h
  split at h
  · split at h
    · split at h
      · cases h
      · rename_i h1 h2 h3; exact ⟨h1, h2, by omega⟩
    · cases h
  · cases h
theorem Nd.right_len {n : Nd} (h : n.wrong = 0) : n.ks.length ≤ 255 ∧ (∀ s ∈ n.ks, s.size ≤ 255) ∧ (n.leaf = true → n.vs.length = n.ks.length ∧ n.ls = [] ∧ ∀ s ∈ n.vs, s.size ≤ 255) := by
  obtain ⟨h1, h2, h3⟩ := Nd.wrong_zero h
  have hk : ∀ s ∈ n.ks, 1 ≤ s.size ∧ s.size ≤ 36 := by
    unfold mayB at h2
    rw [Bool.and_eq_true, List.all_eq_true] at h2
    intro s hs
    simpa [isKeyB] using h2.1 s hs
  refine ⟨?_, fun s hs => by have := hk s hs; omega, fun hl => ?_⟩
  · have h4 : n.ks.length ≤ n.size := by unfold Nd.size; split <;> omega
    by_cases hl : n.leaf = true
    · have : 2 * n.ks.length ≤ n.size := by unfold Nd.size; rw [if_pos hl]; omega
      omega
    · have h5 : 5 * n.ks.length ≤ n.size := by
        unfold Nd.formed at h1
        rw [if_neg hl] at h1
        simp at h1
        unfold Nd.size
        rw [if_neg hl]
        omega
      omega
  · unfold Nd.formed at h1
    rw [if_pos hl] at h1
    simp only [Bool.and_eq_true, decide_eq_true_eq, List.all_eq_true] at h1
    exact ⟨h1.1.2.1, List.eq_nil_of_length_eq_zero h1.1.2.2, fun s hs => by have := h1.2 s hs; omega⟩
theorem ents_len (n : Nd) (k : Nat) (h1 : ∀ s ∈ n.ks, s.size ≤ 255) (h2 : ∀ s ∈ n.vs, n.leaf = true → s.size ≤ 255) : (n.ents k).length ≤ 1 + 512 * k := by
  induction k with
  | zero => simp [Nd.ents, byN_len]
  | succ k ih =>
    rw [Nd.ents_succ, List.length_append]
    have ha : (textB (n.ks.getD k ⟨#[]⟩)).length ≤ 256 := by
      unfold textB
      rw [List.length_append, byN_len, List.getD_eq_getElem?_getD]
      cases e : n.ks[k]? with
      | none => simp
      | some x =>
        have h3 := h1 x (List.mem_of_getElem? e)
        have h4 : x.data.toList.length = x.size := rfl
        simp only [Option.getD_some]
        omega
    have hb : (if n.leaf then textB (n.vs.getD k ⟨#[]⟩) else []).length ≤ 256 := by
      by_cases hl : n.leaf = true
      · rw [if_pos hl]
        unfold textB
        rw [List.length_append, byN_len, List.getD_eq_getElem?_getD]
        cases e : n.vs[k]? with
        | none => simp
        | some x =>
          have h3 := h2 x (List.mem_of_getElem? e) hl
          have h4 : x.data.toList.length = x.size := rfl
          simp only [Option.getD_some]
          omega
      · rw [if_neg hl]; simp
    unfold Nd.ent
    rw [List.length_append]
    omega
theorem row_u {P : Program} {t : TypeId} (h : ((P.underlying t).any fun d => d.isRow) = true) : ∃ d, P.underlying t = some d ∧ d.isRow = true := by
  cases e : P.underlying t with
  | none => rw [e] at h; cases h
  | some d => rw [e] at h; exact ⟨d, rfl, h⟩
theorem pt_u : ∃ d, Tryd.prog.underlying PT = some d ∧ d.isRow = true := row_u (by kernel_rfl)
theorem nt_u : ∃ d, Tryd.prog.underlying NT = some d ∧ d.isRow = true := row_u (by kernel_rfl)
theorem alloc_size (w : World) (o : Obj) : (w.alloc o).heap.size = w.heap.size + 1 := Array.size_push _
section
variable {E : World} {S : Ph} {L : List Hp}
theorem VI_all1 (a b c : Int) (l : Value) (hl : l.oneCell' = true) (s : ByteArray) : ∀ v ∈ [VI a, VI b, VI c, l, Value.string s], v.oneCell' = true := by
  simp only [List.mem_cons, List.not_mem_nil, or_false]
  rintro v (rfl | rfl | rfl | rfl | rfl) <;> first | rfl | exact hl
set_option maxRecDepth 100000 in
set_option maxHeartbeats 4000000 in
theorem page_any (v : Nv) (n : Nd) (w : World) (hb : n.bulk ≤ 4294967296) (hi : NdIn S v n) (h : Own E w (Hp.ro S :: L)) :
    Calls Tryd.prog 24 #[v.val n] w fun e w' => ∃ pv, e = .returned (.tuple #[pv, .int .i64 n.wrong]) ∧ Own E w' (Hp.page pv n.page :: Hp.ro S :: L) := by
  obtain ⟨a1, c1, a2, c2, a3, c3⟩ := v
  dsimp only [Nv.val]
  have h1 := (h.alloc (.cells #[.bool n.leaf, .slice a1 n.ks.length c1, .slice a2 n.vs.length c2, .slice a3 n.ls.length c3] NT)).alloc (.cells #[VI 0, VI 0, VI 0, .slice none 0 0, .string ⟨#[]⟩] PT)
  rw [alloc_size] at h1
  obtain ⟨g1, hg⟩ : ∃ g, g = w.heap.size := ⟨_, rfl⟩
  rw [← hg] at h1
  have hwr := wrong_any ⟨a1, c1, a2, c2, a3, c3⟩ n _ (by omega) hi h1.f2
  obtain ⟨fs, hpt, hpr⟩ := pt_u
  by_cases h0 : n.wrong = 0
  · have hpg : n.page = ⟨if n.leaf then 1 else 2, 0, 0, n.ls, ⟨(n.ents n.ks.length).toArray⟩⟩ := if_pos h0
    obtain ⟨q1, q2, q3⟩ := Nd.right_len h0
    have hel := fun k => ents_len n k q2 (fun s hs hl => (q3 hl).2.2 s hs)
    have hc3 : n.ls.length ≤ 4294967296 := by have := hb; unfold Nd.bulk at this; omega
    rw [h0] at hwr ⊢
    generalize n.page = pg at *
    have HPG := Lib.hid hpg
    have H1 := Lib.hid h1
    have Q2 := Lib.hid q2
    have Q3 := Lib.hid q3
    have HEL := Lib.hid hel
    have HC3 := Lib.hid hc3
    obtain ⟨r1, r2, r3, -, -, -, -, -, -⟩ := hi
    have R3 := Lib.hid r3
    clear h h1 hpg q2 q3 hel h0 hb hc3 r3
    generalize hents : n.ents = ents at *
    have hents0 : ents 0 = byN 1 n.ks.length := by rw [← hents]; simp [Nd.ents]
    have hentsS : ∀ k, ents (k + 1) = ents k ++ n.ent k := fun k => by rw [← hents]; exact n.ents_succ k
    have HE0 := Lib.hid hents0
    have HES := Lib.hid hentsS
    clear hents hents0 hentsS
    go_enter Tryd.func24, Tryd.ntmps24
    go_wp2_with fail
    rw [← hg]
    clear hg
    refine hwr.mono ?_
    clear hwr H1
    rintro e w1 ⟨rfl, hw⟩
    have f1 : w1.cell? ⟨g1, 1, none⟩ = some (.slice a1 n.ks.length c1) := hw.f2.cell 1
    have HW := Lib.hid hw
    clear hw
    go_wp2_with fail
    refine (newwriter_any _ HW.out).mono ?_
    rintro e w2 ⟨b, rfl, hw⟩
    clear f1
    have f1 : w2.cell? ⟨g1, 1, none⟩ = some (.slice a1 n.ks.length c1) := hw.f3.cell 1
    have HW2 := Lib.hid hw
    clear hw HW
    go_wp2_with fail
    refine (wnum_any b .nilIface [] 1 n.ks.length _ (by omega) (by omega) (by omega) (by omega) (by simp) HW2.out).mono ?_
    rintro e w3 ⟨rfl, hw⟩
    clear f1
    rw [List.nil_append, ← HE0.out] at hw
    have f1 : w3.cell? ⟨g1, 1, none⟩ = some (.slice a1 n.ks.length c1) := hw.f3.cell 1
    have HW3 := Lib.hid hw
    clear hw HW2
    generalize hnk : n.ks.length = nk at *
    go_wp2_with fail
    go_loopw [25] (fun i wr => ∃ k : Nat, k ≤ nk ∧ i = .int .i64 k ∧ Own E wr (Hp.writer b .nilIface (ents k) :: Hp.ro S :: Hp.blk (g1 + 1) PT #[VI 0, VI 0, VI 0, .slice none 0 0, .string ⟨#[]⟩] :: Hp.blk g1 NT #[.bool n.leaf, .slice a1 nk c1, .slice a2 n.vs.length c2, .slice a3 n.ls.length c3] :: L)) (fun i _ => nk - (intOf i).toNat)
    case atStart => exact ⟨0, by omega, rfl, HW3.out⟩
    case round =>
      obtain ⟨k, hk, rfl, hw⟩ := hrel
      clear HW3 f1
      by_cases hlt : k < nk
      · obtain ⟨x, b1, off, hx, rfl, hc⟩ := r1.get1 hlt
        have d1 := hw.f1.rd (hc _ rfl)
        have hxs : x.size ≤ 255 := Q2.out x (List.mem_of_getElem? hx)
        have hxg : n.ks.getD k ⟨#[]⟩ = x := by rw [List.getD_eq_getElem?_getD, hx]; rfl
        have HX := Lib.hid hxg
        have hel1 : (ents k).length + 70000 ≤ 140737488355328 := by have := HEL.out k; omega
        have hel2 : (ents k ++ textB x).length + 70000 ≤ 140737488355328 := by
          have := HEL.out k
          unfold textB
          rw [List.length_append, List.length_append, byN_len]
          have h4 : x.data.toList.length = x.size := rfl
          omega
        have EL1 := Lib.hid hel1
        have EL2 := Lib.hid hel2
        have HW := Lib.hid hw
        clear hx hxg hel1 hel2 hw hc
        go_wp2_with fail
        refine (wtext_any b .nilIface (ents k) 255 x _ (by omega) hxs EL1.out HW.out).mono ?_
        rintro e w4 ⟨rfl, hw⟩
        rw [List.append_assoc] at hw
        have f0 : w4.cell? ⟨g1, 0, none⟩ = some (.bool n.leaf) := hw.f3.cell 0
        have f2 : w4.cell? ⟨g1, 2, none⟩ = some (.slice a2 n.vs.length c2) := hw.f3.cell 2
        have HW4 := Lib.hid hw
        clear hw HW
        rcases (show n.leaf = false ∨ n.leaf = true by cases n.leaf <;> simp) with hl | hl
        · rw [hl] at f0
          have he : ents (k + 1) = ents k ++ (byN (ahead 255) x.size ++ x.data.toList) := by rw [HES.out, Nd.ent, HX.out, hl]; simp [textB, ahead]
          have HE := Lib.hid he
          clear he hl
          go_wp2_with fail
          go_roundw
          case rel => exact ⟨k + 1, by omega, by go_num, by rw [HE.out]; exact HW4.out⟩
          case measure => simp [intOf]; omega
        · rw [hl] at f0
          obtain ⟨q4, -, q5⟩ := Q3.out hl
          have hlt2 : k < n.vs.length := by omega
          obtain ⟨y, b2, off2, hy, rfl, hd⟩ := r2.get1 hlt2
          have d2 := HW4.out.f1.rd (hd _ rfl)
          have hys : y.size ≤ 255 := q5 y (List.mem_of_getElem? hy)
          have he : ents (k + 1) = ents k ++ textB x ++ byN (ahead 255) y.size ++ y.data.toList := by
            rw [HES.out, Nd.ent, HX.out, hl, List.getD_eq_getElem?_getD, hy]; simp [textB, ahead]
          have HE := Lib.hid he
          have hlti : (k : Int) < n.vs.length := by omega
          clear he hy hd q5 d1 hl q4
          go_wp2_with fail
          refine (wtext_any b .nilIface _ 255 y _ (by omega) hys EL2.out HW4.out).mono ?_
          rintro e w5 ⟨rfl, hw⟩
          rw [← HE.out] at hw
          have HW5 := Lib.hid hw
          clear f0 f2 hw HW4 d2
          go_wp2_with fail
          go_roundw
          case rel => exact ⟨k + 1, by omega, by go_num, HW5.out⟩
          case measure => simp [intOf]; omega
      · obtain rfl : k = nk := by omega
        have HW := Lib.hid hw
        clear hw
        go_wp2_with fail
        refine (wdone_any b (ents k) _ HW.out).mono ?_
        rintro e w4 ⟨rfl, hw⟩
        have f0 : w4.cell? ⟨g1, 0, none⟩ = some (.bool n.leaf) := hw.f3.cell 0
        have f3 : w4.cell? ⟨g1, 3, none⟩ = some (.slice a3 n.ls.length c3) := hw.f3.cell 3
        have HW4 := Lib.hid hw
        clear hw HW
        rcases (show n.leaf = true ∨ n.leaf = false by cases n.leaf <;> simp) with hl | hl
        · rw [hl] at f0
          have he : pg = ⟨1, 0, 0, [], ⟨(ents k).toArray⟩⟩ := by rw [HPG.out, hl, (Q3.out hl).2.1]; rfl
          have HE := Lib.hid he
          clear hl f3 he
          go_wp2_with (with_reducible refine at_slot (k := none) ?_; refine wpList_store_whole (o := ⟨none, _, _, _, _, _⟩) (cs := [VI 0, VI 0, VI 0, .slice none 0 0, .string ⟨#[]⟩]) (vs := [VI 1, VI 0, VI 0, .slice none 0 0, .string ⟨(ents k).toArray⟩]) HW4.out.f2 rfl (VI_all1 _ _ _ _ rfl _) (by kernel_rfl) rfl rfl rfl rfl ?_; intro w5 h5)
          refine bodyPost_ret (results_ct rfl rfl h5 hpt hpr (by kernel_rfl)) rfl ?_
          refine ⟨_, rfl, ?_⟩
          rw [HE.out]
          exact Own.toPage (p := ⟨1, 0, 0, [], ⟨(ents k).toArray⟩⟩) (h5.drop.drop.f1.drop.emptyLst IT none)
        · rw [hl] at f0
          have he : pg = ⟨2, 0, 0, n.ls, ⟨(ents k).toArray⟩⟩ := by rw [HPG.out, hl]; rfl
          have HE := Lib.hid he
          clear hl he
          go_wp2_with fail
          refine (clone_int a3 n.ls.length c3 n.ls _ HC3.out R3.out HW4.out.f1).mono ?_
          rintro e w5 ⟨lv, rfl, h5⟩
          obtain ⟨A5, c5, rfl, -⟩ := h5.lstSlice
          rw [List.length_map] at h5
          have H5 := Lib.hid h5
          clear h5 f0 f3
          go_wp2_with fail
          refine (clip_int _ _ _ n.ls _ H5.out).mono ?_
          rintro e w6 ⟨lv, rfl, h6⟩
          obtain ⟨A6, c6, rfl, -⟩ := h6.lstSlice
          rw [List.length_map] at h6
          have H6 := Lib.hid h6
          clear h6 H5
          go_wp2_with (with_reducible refine at_slot (k := none) ?_; refine wpList_store_whole (o := ⟨none, _, _, _, _, _⟩) (cs := [VI 0, VI 0, VI 0, .slice none 0 0, .string ⟨#[]⟩]) (vs := [VI 2, VI 0, VI 0, .slice A6 n.ls.length c6, .string ⟨(ents k).toArray⟩]) H6.out.f3 rfl (VI_all1 _ _ _ _ rfl _) (by kernel_rfl) rfl rfl rfl rfl ?_; intro w7 h7)
          refine bodyPost_ret (results_ct rfl rfl h7 hpt hpr (by kernel_rfl)) rfl ?_
          refine ⟨_, rfl, ?_⟩
          rw [HE.out]
          exact Own.toPage (p := ⟨2, 0, 0, n.ls, ⟨(ents k).toArray⟩⟩) (h7.drop.f2.drop.f2.drop)
  · have hpg : n.page = Pg.nil := if_neg h0
    rw [hpg]
    have hw0 : ¬ n.wrong = 0 := h0
    clear hpg h0 h h1 hi hb
    generalize n.wrong = wn at *
    go_enter Tryd.func24, Tryd.ntmps24
    go_wp2_with fail
    rw [← hg]
    clear hg
    refine hwr.mono ?_
    clear hwr
    rintro e w1 ⟨rfl, hw⟩
    have HW := Lib.hid hw
    clear hw
    go_wp2_with (with_reducible refine at_slot (k := none) ?_; refine wpList_store_whole (o := ⟨none, _, _, _, _, _⟩) (cs := [VI 0, VI 0, VI 0, .slice none 0 0, .string ⟨#[]⟩]) (vs := [VI 0, VI 0, VI 0, .slice none 0 0, .string ⟨#[]⟩]) HW.out.f1 rfl (VI_all1 _ _ _ _ rfl _) (by kernel_rfl) rfl rfl rfl rfl ?_; intro w7 h7)
    refine bodyPost_ret (results_ct rfl rfl h7 hpt hpr (by kernel_rfl)) rfl ?_
    exact ⟨_, rfl, (h7.drop.f1.drop).nilPage⟩
end
end Go.Proofs.YtbclmmneiphcaaaDoor
