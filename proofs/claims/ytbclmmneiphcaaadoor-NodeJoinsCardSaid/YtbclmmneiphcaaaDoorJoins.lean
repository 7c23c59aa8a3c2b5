/- latchkeylaw10.NodeJoins (printed by gen_joins.py). -/
import Derived.Test.YtbclmmneiphcaaaDoorPut
import Derived.Test.YtbclmmneiphcaaaDoorApart2
namespace Go.Proofs.YtbclmmneiphcaaaDoor
open Go.RowKit
theorem sumSz_take_le (l : List ByteArray) (k : Nat) : sumSz (l.take k) ≤ sumSz l := by
  have := sumSz_app (l.take k) (l.drop k)
  rw [List.take_append_drop] at this; omega
theorem sumSz_drop_le (l : List ByteArray) (k : Nat) : sumSz (l.drop k) ≤ sumSz l := by
  have := sumSz_app (l.take k) (l.drop k)
  rw [List.take_append_drop] at this; omega
theorem over_bulk (n o : Nd) : (n.over o).bulk ≤ n.bulk + o.bulk := by
  have h1 : sumSz (ovr n.ks o.ks) ≤ sumSz n.ks + sumSz o.ks := by
    unfold ovr; rw [sumSz_app]; have := sumSz_take_le o.ks n.ks.length; have := sumSz_drop_le n.ks o.ks.length; omega
  have h2 : sumSz (ovr n.vs o.vs) ≤ sumSz n.vs + sumSz o.vs := by
    unfold ovr; rw [sumSz_app]; have := sumSz_take_le o.vs n.vs.length; have := sumSz_drop_le n.vs o.vs.length; omega
  show sumSz (ovr n.ks o.ks) + sumSz (ovr n.vs o.vs) + (ovr n.ks o.ks).length + (ovr n.vs o.vs).length + (ovr n.ls o.ls).length ≤ n.bulk + o.bulk
  rw [ovr_len, ovr_len, ovr_len]
  unfold Nd.bulk; omega
theorem over_val (gk gv gl : Nat) (n o : Nd) : (lentV gk gv gl (n.over o)).val (n.over o) = (lentV gk gv gl n).val n := by
  show Value.agg #[.bool n.leaf, .slice _ (ovr n.ks o.ks).length ((ovr n.ks o.ks).length + 4), .slice _ (ovr n.vs o.vs).length ((ovr n.vs o.vs).length + 4), .slice _ (ovr n.ls o.ls).length ((ovr n.ls o.ls).length + 4)] = _
  rw [ovr_len, ovr_len, ovr_len]
section
variable {E : World} {S : Ph} {L : List Hp}
/-- a node that is lent lies in what is lent -/
theorem lend_three {w : World} {gk gv gl : Nat} {n : Nd} (hb : n.bulk ≤ 4294967296) (h : Own E w (Hp.three gk gv gl n :: Hp.ro S :: L)) : ∃ a : Ph, Hp.three gk gv gl n a ∧ Ph.apart a S ∧ NdIn (Ph.join a S) (lentV gk gv gl n) n ∧ SpareIn (Ph.join a S) gk gv gl n ∧ Own E w (Hp.ro (Ph.join a S) :: L) := by
  obtain ⟨a, ha, hd, h⟩ := h.lend
  obtain ⟨h1, h2⟩ := three_in hb ha
  exact ⟨a, ha, hd, h1.sub Ph.join_l, h2.sub Ph.join_l, h⟩
theorem newBook {w : World} {b : Nat} (h : Own E w (Hp.blk b BKT #[.slice none 0 0, .slice none 0 0, .slice none 0 0, .slice none 0 0] :: L)) : Own E w (Hp.bk b Bk.nil :: L) :=
  Own.toBk (B := Bk.nil) ((show Own E w (Hp.fams Bk.nil :: Hp.lst LIT (.slice none 0 0) [] :: Hp.lst LIT (.slice none 0 0) [] :: Hp.lst LST (.slice none 0 0) [] :: Hp.lst LST (.slice none 0 0) [] :: Hp.blk b BKT #[.slice none 0 0, .slice none 0 0, .slice none 0 0, .slice none 0 0] :: L) from fams_nil (((((h.emptyLst LST none).emptyLst LST none).emptyLst LIT none).emptyLst LIT none))).ac (by simp only [Hp.all] <;> ac_rfl))
set_option maxRecDepth 100000 in
set_option maxHeartbeats 8000000 in
theorem nodejoins_any (vx vy vo : Nv) (x y o : Nd) (key : ByteArray) (w : World) (hsx : NdSm x) (hsy : NdSm y) (hso : NdSm o) (hk : key.size ≤ 1000000000000000000) (hix : NdIn S vx x) (hiy : NdIn S vy y) (hio : NdIn S vo o) (hG : Laid0 E (Hp.ro S :: L)) (h : Own E w (Hp.ro S :: L)) :
    Calls Tryd.prog 4 #[vx.val x, .string key, vy.val y, vo.val o] w fun e w' => e = .returned (.bool true) ∧ Own E w' (Hp.ro S :: L) := by
  have kw := fun w M hw => nodeweighs_any (E := E) (S := S) (L := M) vx x w hsx hix hw
  have kw2 := fun w M hw => nodeweighs_any (E := E) (S := S) (L := M) vy y w hsy hiy hw
  have kw3 := fun w M hw => nodeweighs_any (E := E) (S := S) (L := M) vo o w hso hio hw
  have kl := fun hb w M hw => lent_any (E := E) (S := S) (L := M) vx x w hb hix hw
  have kl2 := fun hb w M hw => lent_any (E := E) (S := S) (L := M) vy y w hb hiy hw
  have h1 : Own E _ (Hp.blk (w.heap.size + 2) NT #[.bool o.leaf, .slice vo.a1 o.ks.length vo.c1, .slice vo.a2 o.vs.length vo.c2, .slice vo.a3 o.ls.length vo.c3] :: Hp.blk (w.heap.size + 1) NT #[.bool y.leaf, .slice vy.a1 y.ks.length vy.c1, .slice vy.a2 y.vs.length vy.c2, .slice vy.a3 y.ls.length vy.c3] :: Hp.blk w.heap.size NT #[.bool x.leaf, .slice vx.a1 x.ks.length vx.c1, .slice vx.a2 x.vs.length vx.c2, .slice vx.a3 x.ls.length vx.c3] :: Hp.ro S :: L) := h.alloc3 _ _ _
  obtain ⟨g, hg⟩ : ∃ g, g = w.heap.size := ⟨_, rfl⟩
  rw [← hg] at h1
  have h : Own E _ (Hp.ro S :: Hp.blk g NT #[.bool x.leaf, .slice vx.a1 x.ks.length vx.c1, .slice vx.a2 x.vs.length vx.c2, .slice vx.a3 x.ls.length vx.c3] :: Hp.blk (g + 1) NT #[.bool y.leaf, .slice vy.a1 y.ks.length vy.c1, .slice vy.a2 y.vs.length vy.c2, .slice vy.a3 y.ls.length vy.c3] :: Hp.blk (g + 2) NT #[.bool o.leaf, .slice vo.a1 o.ks.length vo.c1, .slice vo.a2 o.vs.length vo.c2, .slice vo.a3 o.ls.length vo.c3] :: L) := h1.ac (by simp only [Hp.all] <;> ac_rfl)
  have hrg : ∀ w', (∃ L', Own E w' (Hp.ro S :: Hp.blk g NT #[.bool x.leaf, .slice vx.a1 x.ks.length vx.c1, .slice vx.a2 x.vs.length vx.c2, .slice vx.a3 x.ls.length vx.c3] :: Hp.blk (g + 1) NT #[.bool y.leaf, .slice vy.a1 y.ks.length vy.c1, .slice vy.a2 y.vs.length vy.c2, .slice vy.a3 y.ls.length vy.c3] :: Hp.blk (g + 2) NT #[.bool o.leaf, .slice vo.a1 o.ks.length vo.c1, .slice vo.a2 o.vs.length vo.c2, .slice vo.a3 o.ls.length vo.c3] :: L')) → w'.rangeAt g 0 [.bool x.leaf, .slice vx.a1 x.ks.length vx.c1, .slice vx.a2 x.vs.length vx.c2, .slice vx.a3 x.ls.length vx.c3] ∧ w'.rangeAt (g + 1) 0 [.bool y.leaf, .slice vy.a1 y.ks.length vy.c1, .slice vy.a2 y.vs.length vy.c2, .slice vy.a3 y.ls.length vy.c3] ∧ w'.rangeAt (g + 2) 0 [.bool o.leaf, .slice vo.a1 o.ks.length vo.c1, .slice vo.a2 o.vs.length vo.c2, .slice vo.a3 o.ls.length vo.c3] := fun w' hw => by
    obtain ⟨_, hw⟩ := hw
    exact ⟨hw.f1.range 0 _ (fun j u hu => by simpa using hu), hw.f2.range 0 _ (fun j u hu => by simpa using hu), hw.f3.range 0 _ (fun j u hu => by simpa using hu)⟩
  have HR := Lib.hid hrg
  have H := Lib.hid h
  have KW := Lib.hid kw
  have KW2 := Lib.hid kw2
  have KW3 := Lib.hid kw3
  have KL := Lib.hid kl
  have KL2 := Lib.hid kl2
  have HK := Lib.hid hk
  have HG := Lib.hid hG
  have HI := Lib.hid (And.intro hix (And.intro hiy hio))
  clear h h1 hrg kw kw2 kw3 kl kl2 hk hG hix hiy hio hsx hsy hso
  go_enter Tryd.func4, Tryd.ntmps4
  go_wp2_with fail
  rw [← hg]
  clear hg
  have h := H.out.drew
  clear H
  refine wp_region_text [0, 5, 7] (fun w' => w'.rangeAt g 0 [.bool x.leaf, .slice vx.a1 x.ks.length vx.c1, .slice vx.a2 x.vs.length vx.c2, .slice vx.a3 x.ls.length vx.c3] ∧ w'.rangeAt (g + 1) 0 [.bool y.leaf, .slice vy.a1 y.ks.length vy.c1, .slice vy.a2 y.vs.length vy.c2, .slice vy.a3 y.ls.length vy.c3] ∧ w'.rangeAt (g + 2) 0 [.bool o.leaf, .slice vo.a1 o.ks.length vo.c1, .slice vo.a2 o.vs.length vo.c2, .slice vo.a3 o.ls.length vo.c3]) (by kernel_rfl) ?_ (fun hS => ?_)
  · exact HR.out _ ⟨_, h⟩
  refine wpAnyG_load (i := 0) (oi := ⟨some 21, _, _, _, _, _⟩) (v := (.agg #[.bool x.leaf, .slice vx.a1 x.ks.length vx.c1, .slice vx.a2 x.vs.length vx.c2, .slice vx.a3 x.ls.length vx.c3])) rfl (by kernel_rfl) (by kernel_rfl) (by kernel_rfl) (by rfl) (fun _ _ _ h => h) (by rfl) ?_ (by assumption) ?_
  · intro w hS
    exact exec_load_mid NT (.tmp 4) rfl g 0 (by rfl) [.bool x.leaf, .slice vx.a1 x.ks.length vx.c1, .slice vx.a2 x.vs.length vx.c2, .slice vx.a3 x.ls.length vx.c3] _ hS.1 Tryd.underlying25 rfl (by kernel_rfl)
  try simp only [Act.put, List.setIfInBounds_toArray, List.set_cons_zero, List.set_cons_succ]
  refine wpAnyG_pure (i := 2) (oi := ⟨some 23, _, _, _, _, _⟩) (v := ?_) rfl (by kernel_rfl) (by kernel_rfl) (by kernel_rfl) (by rfl) (fun _ _ _ h => h) (by rfl) ?_ ?_
  rotate_left
  · intro w
    go_simp
    first | done | with_reducible rfl
  try simp only [Act.put, List.setIfInBounds_toArray, List.set_cons_zero, List.set_cons_succ]
  refine wpAnyG_pure (i := 3) (oi := ⟨some 24, _, _, _, _, _⟩) (v := ?_) rfl (by kernel_rfl) (by kernel_rfl) (by kernel_rfl) (by rfl) (fun _ _ _ h => h) (by rfl) ?_ ?_
  rotate_left
  · intro w
    go_simp
    first | done | with_reducible rfl
  try simp only [Act.put, List.setIfInBounds_toArray, List.set_cons_zero, List.set_cons_succ]
  refine wpAnyG_load (i := 5) (oi := ⟨some 26, _, _, _, _, _⟩) (v := (.agg #[.bool y.leaf, .slice vy.a1 y.ks.length vy.c1, .slice vy.a2 y.vs.length vy.c2, .slice vy.a3 y.ls.length vy.c3])) rfl (by kernel_rfl) (by kernel_rfl) (by kernel_rfl) (by rfl) (fun _ _ _ h => h) (by rfl) ?_ (by assumption) ?_
  · intro w hS
    exact exec_load_mid NT (.tmp 6) rfl (g + 1) 0 (by rfl) [.bool y.leaf, .slice vy.a1 y.ks.length vy.c1, .slice vy.a2 y.vs.length vy.c2, .slice vy.a3 y.ls.length vy.c3] _ hS.2.1 Tryd.underlying25 rfl (by kernel_rfl)
  try simp only [Act.put, List.setIfInBounds_toArray, List.set_cons_zero, List.set_cons_succ]
  refine wpAnyG_load (i := 7) (oi := ⟨some 28, _, _, _, _, _⟩) (v := (.agg #[.bool o.leaf, .slice vo.a1 o.ks.length vo.c1, .slice vo.a2 o.vs.length vo.c2, .slice vo.a3 o.ls.length vo.c3])) rfl (by kernel_rfl) (by kernel_rfl) (by kernel_rfl) (by rfl) (fun _ _ _ h => h) (by rfl) ?_ (by assumption) ?_
  · intro w hS
    exact exec_load_mid NT (.tmp 7) rfl (g + 2) 0 (by rfl) [.bool o.leaf, .slice vo.a1 o.ks.length vo.c1, .slice vo.a2 o.vs.length vo.c2, .slice vo.a3 o.ls.length vo.c3] _ hS.2.2 Tryd.underlying25 rfl (by kernel_rfl)
  try simp only [Act.put, List.setIfInBounds_toArray, List.set_cons_zero, List.set_cons_succ]
  refine wpAnyG_keep (i := 1) (oi := ⟨some 22, _, _, _, _, _⟩) (by kernel_rfl) rfl (fun K hK => ?_)
  rw [if_pos (by rfl)]
  go_simp
  refine (KW.out _ _ h).mono ?_
  rintro e w1 ⟨⟨z1, hz1, hy1, rfl⟩, h⟩
  refine hK.out _ _ ?_ (fun hS => ?_)
  · exact HR.out _ ⟨_, h⟩
  clear hK K
  try simp only [Act.put, List.setIfInBounds_toArray, List.set_cons_zero, List.set_cons_succ]
  refine wpAnyG_keep (i := 4) (oi := ⟨some 25, _, _, _, _, _⟩) (by kernel_rfl) rfl (fun K hK => ?_)
  rw [if_pos (by rfl)]
  go_simp
  refine (addsup_any z1 key.size _ (by omega) HK.out).mono ?_
  rintro e w2 ⟨rfl, z2, hz2, hy2, rfl⟩
  refine hK.out _ _ ?_ (fun hS => ?_)
  · exact HR.out _ ⟨_, h⟩
  clear hK K
  try simp only [Act.put, List.setIfInBounds_toArray, List.set_cons_zero, List.set_cons_succ]
  refine wpAnyG_keep (i := 6) (oi := ⟨some 27, _, _, _, _, _⟩) (by kernel_rfl) rfl (fun K hK => ?_)
  rw [if_pos (by rfl)]
  go_simp
  refine (KW2.out _ _ h).mono ?_
  rintro e w3 ⟨⟨z3, hz3, hy3, rfl⟩, h⟩
  refine hK.out _ _ ?_ (fun hS => ?_)
  · exact HR.out _ ⟨_, h⟩
  clear hK K
  try simp only [Act.put, List.setIfInBounds_toArray, List.set_cons_zero, List.set_cons_succ]
  refine wpAnyG_keep (i := 8) (oi := ⟨some 29, _, _, _, _, _⟩) (by kernel_rfl) rfl (fun K hK => ?_)
  rw [if_pos (by rfl)]
  go_simp
  refine (KW3.out _ _ h).mono ?_
  rintro e w4 ⟨⟨z4, hz4, hy4, rfl⟩, h⟩
  refine hK.out _ _ ?_ (fun hS => ?_)
  · exact HR.out _ ⟨_, h⟩
  clear hK K
  try simp only [Act.put, List.setIfInBounds_toArray, List.set_cons_zero, List.set_cons_succ]
  refine wpAnyG_keep (i := 9) (oi := ⟨some 30, _, _, _, _, _⟩) (by kernel_rfl) rfl (fun K hK => ?_)
  rw [if_pos (by rfl)]
  go_simp
  refine (addsup_any z3 z4 _ (by omega) (by omega)).mono ?_
  rintro e w5 ⟨rfl, z5, hz5, hy5, rfl⟩
  refine hK.out _ _ ?_ (fun hS => ?_)
  · exact HR.out _ ⟨_, h⟩
  clear hK K
  try simp only [Act.put, List.setIfInBounds_toArray, List.set_cons_zero, List.set_cons_succ]
  refine wpAnyG_keep (i := 10) (oi := ⟨some 31, _, _, _, _, _⟩) (by kernel_rfl) rfl (fun K hK => ?_)
  rw [if_pos (by rfl)]
  go_simp
  refine (addsup_any z2 z5 _ (by omega) (by omega)).mono ?_
  rintro e w6 ⟨rfl, z6, hz6, hy6, rfl⟩
  refine hK.out _ _ ?_ (fun hS => ?_)
  · exact HR.out _ ⟨_, h⟩
  clear hK K
  try simp only [Act.put, List.setIfInBounds_toArray, List.set_cons_zero, List.set_cons_succ]
  refine wpAnyG_pure (i := 11) (oi := ⟨some 32, _, _, _, _, _⟩) (v := ?_) rfl (by kernel_rfl) (by kernel_rfl) (by kernel_rfl) (by rfl) (fun _ _ _ h => h) (by rfl) ?_ ?_
  rotate_left
  · intro w
    go_simp
    first | done | with_reducible rfl
  try simp only [Act.put, List.setIfInBounds_toArray, List.set_cons_zero, List.set_cons_succ]
  refine wpAnyG_done (by kernel_rfl) ?_ _
  refine NoPanic.normal ?_
  have H := Lib.hid h
  have HYS := Lib.hid (And.intro hy1 (And.intro hy2 (And.intro hy3 (And.intro hy4 (And.intro hy5 hy6)))))
  repeat clear h
  clear hy1 hy2 hy3 hy4 hy5 hy6 HR
  by_cases hc : 2147483647 < z6
  · have hci : (2147483647 : Int) < z6 := by omega
    go_wp2_with fail
    go_ret
    exact ⟨rfl, ((H.out.f1.drop).f1.drop).f1.drop⟩
  have hci : ¬ (2147483647 : Int) < z6 := by omega
  have hsz : x.bulk + key.size + y.bulk + o.bulk ≤ 2147483647 := by
    obtain ⟨f1, f2, f3, f4, f5, f6⟩ := HYS.out
    have e6 := f6 (by omega)
    have e5 := f5 (by omega)
    have e4 := f4 (by omega)
    have e3 := f3 (by omega)
    have e2 := f2 (by omega)
    have e1 := f1 (by omega)
    omega
  have HSZ := Lib.hid hsz
  clear hsz hc hz1 hz2 hz3 hz4 hz5 hz6 HYS HK KW KW2 KW3
  go_wp2_with fail
  have hH := H.out
  have h : Own E _ (Hp.blk g NT #[.bool x.leaf, .slice vx.a1 x.ks.length vx.c1, .slice vx.a2 x.vs.length vx.c2, .slice vx.a3 x.ls.length vx.c3] :: Hp.blk (g + 1) NT #[.bool y.leaf, .slice vy.a1 y.ks.length vy.c1, .slice vy.a2 y.vs.length vy.c2, .slice vy.a3 y.ls.length vy.c3] :: Hp.blk (g + 2) NT #[.bool o.leaf, .slice vo.a1 o.ks.length vo.c1, .slice vo.a2 o.vs.length vo.c2, .slice vo.a3 o.ls.length vo.c3] :: Hp.ro S :: L) := hH.ac (by simp only [Hp.all] <;> ac_rfl)
  clear H hH
  refine (awake_any _ HG.out.cons.cons.cons h).mono ?_
  rintro e w3 ⟨rfl, h1⟩
  clear HG
  have hb1 : Own E _ (Hp.blk w3.heap.size BKT #[.slice none 0 0, .slice none 0 0, .slice none 0 0, .slice none 0 0] :: _) := h1.alloc _
  clear h1 h
  obtain ⟨bb, hbb⟩ : ∃ bb, bb = w3.heap.size := ⟨_, rfl⟩
  rw [← hbb] at hb1
  have h : Own E _ (Hp.ro S :: Hp.bk bb Bk.nil :: Hp.blk g NT #[.bool x.leaf, .slice vx.a1 x.ks.length vx.c1, .slice vx.a2 x.vs.length vx.c2, .slice vx.a3 x.ls.length vx.c3] :: Hp.blk (g + 1) NT #[.bool y.leaf, .slice vy.a1 y.ks.length vy.c1, .slice vy.a2 y.vs.length vy.c2, .slice vy.a3 y.ls.length vy.c3] :: Hp.blk (g + 2) NT #[.bool o.leaf, .slice vo.a1 o.ks.length vo.c1, .slice vo.a2 o.vs.length vo.c2, .slice vo.a3 o.ls.length vo.c3] :: L) := (show Own E _ (Hp.bk bb Bk.nil :: Hp.blk g NT #[.bool x.leaf, .slice vx.a1 x.ks.length vx.c1, .slice vx.a2 x.vs.length vx.c2, .slice vx.a3 x.ls.length vx.c3] :: Hp.blk (g + 1) NT #[.bool y.leaf, .slice vy.a1 y.ks.length vy.c1, .slice vy.a2 y.vs.length vy.c2, .slice vy.a3 y.ls.length vy.c3] :: Hp.blk (g + 2) NT #[.bool o.leaf, .slice vo.a1 o.ks.length vo.c1, .slice vo.a2 o.vs.length vo.c2, .slice vo.a3 o.ls.length vo.c3] :: Hp.ro S :: L) from newBook hb1).ac (by simp only [Hp.all] <;> ac_rfl)
  clear hb1
  obtain ⟨p0, p1, p2, p3⟩ := node_cells (g := g) (x0 := .bool x.leaf) (by first | exact ⟨_, h⟩ | exact ⟨_, h.f1⟩ | exact ⟨_, h.f2⟩ | exact ⟨_, h.f3⟩ | exact ⟨_, h.f4⟩ | exact ⟨_, h.f5⟩ | exact ⟨_, h.f6⟩ | exact ⟨_, h.f7⟩ | exact ⟨_, h.f8⟩ | exact ⟨_, h.f9⟩ | exact ⟨_, h.f10⟩ | exact ⟨_, h.f11⟩ | exact ⟨_, h.f12⟩ | exact ⟨_, h.f13⟩ | exact ⟨_, h.f14⟩ | exact ⟨_, h.f15⟩)
  have H := Lib.hid h
  clear h
  go_wp2_with fail
  rw [← hbb]
  clear hbb p0 p1 p2 p3
  with_reducible refine (KL.out (by have := HSZ.out; omega) _ _ H.out).mono ?_
  rintro e w4 ⟨gk1, gv1, gl1, rfl, h⟩
  have h1 : Own E _ (Hp.blk w4.heap.size NT #[.bool x.leaf, .slice (some ⟨gk1, 0, none⟩) x.ks.length (x.ks.length + 4), .slice (some ⟨gv1, 0, none⟩) x.vs.length (x.vs.length + 4), .slice (some ⟨gl1, 0, none⟩) x.ls.length (x.ls.length + 4)] :: _) := h.alloc _
  obtain ⟨gu, hgu⟩ : ∃ g, g = w4.heap.size := ⟨_, rfl⟩
  rw [← hgu] at h1
  clear h H
  have h : Own E _ (Hp.ro S :: Hp.three gk1 gv1 gl1 x :: Hp.bk bb Bk.nil :: Hp.blk gu NT #[.bool x.leaf, .slice (some ⟨gk1, 0, none⟩) x.ks.length (x.ks.length + 4), .slice (some ⟨gv1, 0, none⟩) x.vs.length (x.vs.length + 4), .slice (some ⟨gl1, 0, none⟩) x.ls.length (x.ls.length + 4)] :: Hp.blk g NT #[.bool x.leaf, .slice vx.a1 x.ks.length vx.c1, .slice vx.a2 x.vs.length vx.c2, .slice vx.a3 x.ls.length vx.c3] :: Hp.blk (g + 1) NT #[.bool y.leaf, .slice vy.a1 y.ks.length vy.c1, .slice vy.a2 y.vs.length vy.c2, .slice vy.a3 y.ls.length vy.c3] :: Hp.blk (g + 2) NT #[.bool o.leaf, .slice vo.a1 o.ks.length vo.c1, .slice vo.a2 o.vs.length vo.c2, .slice vo.a3 o.ls.length vo.c3] :: L) := h1.ac (by simp only [Hp.all] <;> ac_rfl)
  clear h1
  obtain ⟨q0, q1, q2, q3⟩ := node_cells (g := g + 1) (x0 := .bool y.leaf) (by first | exact ⟨_, h⟩ | exact ⟨_, h.f1⟩ | exact ⟨_, h.f2⟩ | exact ⟨_, h.f3⟩ | exact ⟨_, h.f4⟩ | exact ⟨_, h.f5⟩ | exact ⟨_, h.f6⟩ | exact ⟨_, h.f7⟩ | exact ⟨_, h.f8⟩ | exact ⟨_, h.f9⟩ | exact ⟨_, h.f10⟩ | exact ⟨_, h.f11⟩ | exact ⟨_, h.f12⟩ | exact ⟨_, h.f13⟩ | exact ⟨_, h.f14⟩ | exact ⟨_, h.f15⟩)
  have H := Lib.hid h
  clear h
  go_wp2_with fail
  rw [← hgu]
  clear hgu q0 q1 q2 q3
  with_reducible refine (KL2.out (by have := HSZ.out; omega) _ _ H.out).mono ?_
  rintro e w5 ⟨gk2, gv2, gl2, rfl, h⟩
  have h1 : Own E _ (Hp.blk w5.heap.size NT #[.bool y.leaf, .slice (some ⟨gk2, 0, none⟩) y.ks.length (y.ks.length + 4), .slice (some ⟨gv2, 0, none⟩) y.vs.length (y.vs.length + 4), .slice (some ⟨gl2, 0, none⟩) y.ls.length (y.ls.length + 4)] :: _) := h.alloc _
  obtain ⟨gw, hgw⟩ : ∃ g, g = w5.heap.size := ⟨_, rfl⟩
  rw [← hgw] at h1
  clear h H KL KL2
  have h : Own E _ (Hp.three gk2 gv2 gl2 y :: Hp.ro S :: Hp.three gk1 gv1 gl1 x :: Hp.bk bb Bk.nil :: Hp.blk gw NT #[.bool y.leaf, .slice (some ⟨gk2, 0, none⟩) y.ks.length (y.ks.length + 4), .slice (some ⟨gv2, 0, none⟩) y.vs.length (y.vs.length + 4), .slice (some ⟨gl2, 0, none⟩) y.ls.length (y.ls.length + 4)] :: Hp.blk gu NT #[.bool x.leaf, .slice (some ⟨gk1, 0, none⟩) x.ks.length (x.ks.length + 4), .slice (some ⟨gv1, 0, none⟩) x.vs.length (x.vs.length + 4), .slice (some ⟨gl1, 0, none⟩) x.ls.length (x.ls.length + 4)] :: Hp.blk g NT #[.bool x.leaf, .slice vx.a1 x.ks.length vx.c1, .slice vx.a2 x.vs.length vx.c2, .slice vx.a3 x.ls.length vx.c3] :: Hp.blk (g + 1) NT #[.bool y.leaf, .slice vy.a1 y.ks.length vy.c1, .slice vy.a2 y.vs.length vy.c2, .slice vy.a3 y.ls.length vy.c3] :: Hp.blk (g + 2) NT #[.bool o.leaf, .slice vo.a1 o.ks.length vo.c1, .slice vo.a2 o.vs.length vo.c2, .slice vo.a3 o.ls.length vo.c3] :: L) := h1.ac (by simp only [Hp.all] <;> ac_rfl)
  clear h1
  obtain ⟨av, hav, dav, inv, spv, h⟩ := lend_three (by have := HSZ.out; omega) h
  have hxv := HI.out.1.sub (Ph.join_r dav)
  have hyv := HI.out.2.1.sub (Ph.join_r dav)
  have hov := HI.out.2.2.sub (Ph.join_r dav)
  have HEV := Lib.hid (Ext.of dav)
  clear hav dav HI
  generalize Ph.join av S = Tv at *
  obtain ⟨au, hau, dau, inu, spu, h⟩ := lend_three (by have := HSZ.out; omega) h.f1
  have hxu := hxv.sub (Ph.join_r dau)
  have hyu := hyv.sub (Ph.join_r dau)
  have inv2 := inv.sub (Ph.join_r dau)
  have spv2 := spv.sub (Ph.join_r dau)
  obtain ⟨T, hT⟩ : ∃ T, T = Ph.join au Tv := ⟨_, rfl⟩
  rw [← hT] at h inu spu hxu hyu inv2 spv2
  have HT := Lib.hid hT
  have HAU := Lib.hid (And.intro hau dau)
  have HV := Lib.hid (And.intro hov (And.intro inv hyv))
  have kp := fun B k w M hk hB hw => bookput_any (E := E) (S := T) (L := M) bb B k x y (lentV gk1 gv1 gl1 x) (lentV gk2 gv2 gl2 y) vx vy key w hk hB (by have := HSZ.out; omega) (by have := HSZ.out; omega) (by have := HSZ.out; omega) inu inv2 hxu hyu hw
  have kh := fun w M hw => whole_any (E := E) (S := T) (L := M) gk1 gv1 gl1 vx x w (by have := HSZ.out; omega) inu spu hxu hw
  have kh2 := fun w M hw => whole_any (E := E) (S := T) (L := M) gk2 gv2 gl2 vy y w (by have := HSZ.out; omega) inv2 spv2 hyu hw
  have KP := Lib.hid kp
  have KH := Lib.hid kh
  have KH2 := Lib.hid kh2
  clear hT hau dau hov inv hyv hxv kp kh kh2 inu spu hxu hyu inv2 spv2 spv
  have h : Own E _ (Hp.ro T :: Hp.bk bb Bk.nil :: Hp.blk gw NT #[.bool y.leaf, .slice (some ⟨gk2, 0, none⟩) y.ks.length (y.ks.length + 4), .slice (some ⟨gv2, 0, none⟩) y.vs.length (y.vs.length + 4), .slice (some ⟨gl2, 0, none⟩) y.ls.length (y.ls.length + 4)] :: Hp.blk gu NT #[.bool x.leaf, .slice (some ⟨gk1, 0, none⟩) x.ks.length (x.ks.length + 4), .slice (some ⟨gv1, 0, none⟩) x.vs.length (x.vs.length + 4), .slice (some ⟨gl1, 0, none⟩) x.ls.length (x.ls.length + 4)] :: Hp.blk g NT #[.bool x.leaf, .slice vx.a1 x.ks.length vx.c1, .slice vx.a2 x.vs.length vx.c2, .slice vx.a3 x.ls.length vx.c3] :: Hp.blk (g + 1) NT #[.bool y.leaf, .slice vy.a1 y.ks.length vy.c1, .slice vy.a2 y.vs.length vy.c2, .slice vy.a3 y.ls.length vy.c3] :: Hp.blk (g + 2) NT #[.bool o.leaf, .slice vo.a1 o.ks.length vo.c1, .slice vo.a2 o.vs.length vo.c2, .slice vo.a3 o.ls.length vo.c3] :: L) := h.ac (by simp only [Hp.all] <;> ac_rfl)
  obtain ⟨p0, p1, p2, p3⟩ := node_cells (g := gu) (x0 := .bool x.leaf) (by first | exact ⟨_, h⟩ | exact ⟨_, h.f1⟩ | exact ⟨_, h.f2⟩ | exact ⟨_, h.f3⟩ | exact ⟨_, h.f4⟩ | exact ⟨_, h.f5⟩ | exact ⟨_, h.f6⟩ | exact ⟨_, h.f7⟩ | exact ⟨_, h.f8⟩ | exact ⟨_, h.f9⟩ | exact ⟨_, h.f10⟩ | exact ⟨_, h.f11⟩ | exact ⟨_, h.f12⟩ | exact ⟨_, h.f13⟩ | exact ⟨_, h.f14⟩ | exact ⟨_, h.f15⟩)
  obtain ⟨q0, q1, q2, q3⟩ := node_cells (g := gw) (x0 := .bool y.leaf) (by first | exact ⟨_, h⟩ | exact ⟨_, h.f1⟩ | exact ⟨_, h.f2⟩ | exact ⟨_, h.f3⟩ | exact ⟨_, h.f4⟩ | exact ⟨_, h.f5⟩ | exact ⟨_, h.f6⟩ | exact ⟨_, h.f7⟩ | exact ⟨_, h.f8⟩ | exact ⟨_, h.f9⟩ | exact ⟨_, h.f10⟩ | exact ⟨_, h.f11⟩ | exact ⟨_, h.f12⟩ | exact ⟨_, h.f13⟩ | exact ⟨_, h.f14⟩ | exact ⟨_, h.f15⟩)
  obtain ⟨r0, r1, r2, r3⟩ := node_cells (g := g) (x0 := .bool x.leaf) (by first | exact ⟨_, h⟩ | exact ⟨_, h.f1⟩ | exact ⟨_, h.f2⟩ | exact ⟨_, h.f3⟩ | exact ⟨_, h.f4⟩ | exact ⟨_, h.f5⟩ | exact ⟨_, h.f6⟩ | exact ⟨_, h.f7⟩ | exact ⟨_, h.f8⟩ | exact ⟨_, h.f9⟩ | exact ⟨_, h.f10⟩ | exact ⟨_, h.f11⟩ | exact ⟨_, h.f12⟩ | exact ⟨_, h.f13⟩ | exact ⟨_, h.f14⟩ | exact ⟨_, h.f15⟩)
  obtain ⟨s0, s1, s2, s3⟩ := node_cells (g := g + 1) (x0 := .bool y.leaf) (by first | exact ⟨_, h⟩ | exact ⟨_, h.f1⟩ | exact ⟨_, h.f2⟩ | exact ⟨_, h.f3⟩ | exact ⟨_, h.f4⟩ | exact ⟨_, h.f5⟩ | exact ⟨_, h.f6⟩ | exact ⟨_, h.f7⟩ | exact ⟨_, h.f8⟩ | exact ⟨_, h.f9⟩ | exact ⟨_, h.f10⟩ | exact ⟨_, h.f11⟩ | exact ⟨_, h.f12⟩ | exact ⟨_, h.f13⟩ | exact ⟨_, h.f14⟩ | exact ⟨_, h.f15⟩)
  have H := Lib.hid h
  clear h
  go_wp2_with fail
  rw [← hgw]
  clear hgw
  clear p0 p1 p2 p3 q0 q1 q2 q3 r0 r1 r2 r3 s0 s1 s2 s3
  with_reducible refine (KP.out (Bk.nil) (0) _ _ (by omega) (BkOk.nil 0) H.out).mono ?_
  clear H
  rintro e w6 ⟨rfl, B1, b1, h⟩
  obtain ⟨p0, p1, p2, p3⟩ := node_cells (g := gu) (x0 := .bool x.leaf) (by first | exact ⟨_, h⟩ | exact ⟨_, h.f1⟩ | exact ⟨_, h.f2⟩ | exact ⟨_, h.f3⟩ | exact ⟨_, h.f4⟩ | exact ⟨_, h.f5⟩ | exact ⟨_, h.f6⟩ | exact ⟨_, h.f7⟩ | exact ⟨_, h.f8⟩ | exact ⟨_, h.f9⟩ | exact ⟨_, h.f10⟩ | exact ⟨_, h.f11⟩ | exact ⟨_, h.f12⟩ | exact ⟨_, h.f13⟩ | exact ⟨_, h.f14⟩ | exact ⟨_, h.f15⟩)
  obtain ⟨q0, q1, q2, q3⟩ := node_cells (g := gw) (x0 := .bool y.leaf) (by first | exact ⟨_, h⟩ | exact ⟨_, h.f1⟩ | exact ⟨_, h.f2⟩ | exact ⟨_, h.f3⟩ | exact ⟨_, h.f4⟩ | exact ⟨_, h.f5⟩ | exact ⟨_, h.f6⟩ | exact ⟨_, h.f7⟩ | exact ⟨_, h.f8⟩ | exact ⟨_, h.f9⟩ | exact ⟨_, h.f10⟩ | exact ⟨_, h.f11⟩ | exact ⟨_, h.f12⟩ | exact ⟨_, h.f13⟩ | exact ⟨_, h.f14⟩ | exact ⟨_, h.f15⟩)
  obtain ⟨r0, r1, r2, r3⟩ := node_cells (g := g) (x0 := .bool x.leaf) (by first | exact ⟨_, h⟩ | exact ⟨_, h.f1⟩ | exact ⟨_, h.f2⟩ | exact ⟨_, h.f3⟩ | exact ⟨_, h.f4⟩ | exact ⟨_, h.f5⟩ | exact ⟨_, h.f6⟩ | exact ⟨_, h.f7⟩ | exact ⟨_, h.f8⟩ | exact ⟨_, h.f9⟩ | exact ⟨_, h.f10⟩ | exact ⟨_, h.f11⟩ | exact ⟨_, h.f12⟩ | exact ⟨_, h.f13⟩ | exact ⟨_, h.f14⟩ | exact ⟨_, h.f15⟩)
  obtain ⟨s0, s1, s2, s3⟩ := node_cells (g := g + 1) (x0 := .bool y.leaf) (by first | exact ⟨_, h⟩ | exact ⟨_, h.f1⟩ | exact ⟨_, h.f2⟩ | exact ⟨_, h.f3⟩ | exact ⟨_, h.f4⟩ | exact ⟨_, h.f5⟩ | exact ⟨_, h.f6⟩ | exact ⟨_, h.f7⟩ | exact ⟨_, h.f8⟩ | exact ⟨_, h.f9⟩ | exact ⟨_, h.f10⟩ | exact ⟨_, h.f11⟩ | exact ⟨_, h.f12⟩ | exact ⟨_, h.f13⟩ | exact ⟨_, h.f14⟩ | exact ⟨_, h.f15⟩)
  have H := Lib.hid h
  clear h
  go_wp2_with fail
  clear p0 p1 p2 p3 q0 q1 q2 q3 r0 r1 r2 r3 s0 s1 s2 s3
  with_reducible refine (KP.out (B1) (0 + 2) _ _ (by omega) (b1) H.out).mono ?_
  clear H
  rintro e w7 ⟨rfl, B2, b2, h⟩
  have HB2 := Lib.hid b2
  clear b1 b2
  obtain ⟨p0, p1, p2, p3⟩ := node_cells (g := gu) (x0 := .bool x.leaf) (by first | exact ⟨_, h⟩ | exact ⟨_, h.f1⟩ | exact ⟨_, h.f2⟩ | exact ⟨_, h.f3⟩ | exact ⟨_, h.f4⟩ | exact ⟨_, h.f5⟩ | exact ⟨_, h.f6⟩ | exact ⟨_, h.f7⟩ | exact ⟨_, h.f8⟩ | exact ⟨_, h.f9⟩ | exact ⟨_, h.f10⟩ | exact ⟨_, h.f11⟩ | exact ⟨_, h.f12⟩ | exact ⟨_, h.f13⟩ | exact ⟨_, h.f14⟩ | exact ⟨_, h.f15⟩)
  obtain ⟨r0, r1, r2, r3⟩ := node_cells (g := g) (x0 := .bool x.leaf) (by first | exact ⟨_, h⟩ | exact ⟨_, h.f1⟩ | exact ⟨_, h.f2⟩ | exact ⟨_, h.f3⟩ | exact ⟨_, h.f4⟩ | exact ⟨_, h.f5⟩ | exact ⟨_, h.f6⟩ | exact ⟨_, h.f7⟩ | exact ⟨_, h.f8⟩ | exact ⟨_, h.f9⟩ | exact ⟨_, h.f10⟩ | exact ⟨_, h.f11⟩ | exact ⟨_, h.f12⟩ | exact ⟨_, h.f13⟩ | exact ⟨_, h.f14⟩ | exact ⟨_, h.f15⟩)
  have H := Lib.hid h
  clear h
  go_wp2_with fail
  clear p0 p1 p2 p3 r0 r1 r2 r3
  with_reducible refine (KH.out _ _ H.out).mono ?_
  clear H
  rintro e w8 ⟨rfl, h⟩
  obtain ⟨q0, q1, q2, q3⟩ := node_cells (g := gw) (x0 := .bool y.leaf) (by first | exact ⟨_, h⟩ | exact ⟨_, h.f1⟩ | exact ⟨_, h.f2⟩ | exact ⟨_, h.f3⟩ | exact ⟨_, h.f4⟩ | exact ⟨_, h.f5⟩ | exact ⟨_, h.f6⟩ | exact ⟨_, h.f7⟩ | exact ⟨_, h.f8⟩ | exact ⟨_, h.f9⟩ | exact ⟨_, h.f10⟩ | exact ⟨_, h.f11⟩ | exact ⟨_, h.f12⟩ | exact ⟨_, h.f13⟩ | exact ⟨_, h.f14⟩ | exact ⟨_, h.f15⟩)
  obtain ⟨s0, s1, s2, s3⟩ := node_cells (g := g + 1) (x0 := .bool y.leaf) (by first | exact ⟨_, h⟩ | exact ⟨_, h.f1⟩ | exact ⟨_, h.f2⟩ | exact ⟨_, h.f3⟩ | exact ⟨_, h.f4⟩ | exact ⟨_, h.f5⟩ | exact ⟨_, h.f6⟩ | exact ⟨_, h.f7⟩ | exact ⟨_, h.f8⟩ | exact ⟨_, h.f9⟩ | exact ⟨_, h.f10⟩ | exact ⟨_, h.f11⟩ | exact ⟨_, h.f12⟩ | exact ⟨_, h.f13⟩ | exact ⟨_, h.f14⟩ | exact ⟨_, h.f15⟩)
  have H := Lib.hid h
  clear h
  go_wp2_with fail
  clear q0 q1 q2 q3 s0 s1 s2 s3
  with_reducible refine (KH2.out _ _ H.out).mono ?_
  clear KP KH KH2
  rintro e w9 ⟨rfl, h⟩
  clear H
  have hT := HT.out
  subst hT
  have h := Own.give HAU.out.1 HAU.out.2 h
  clear HT HAU
  have hov := HV.out.1
  have ko := fun w M hw => over_any (E := E) (S := Tv) (L := M) gk1 gv1 gl1 x vo o w (by have := HSZ.out; omega) (by have := HSZ.out; omega) hov hw
  obtain ⟨p0, p1, p2, p3⟩ := node_cells (g := gu) (x0 := .bool x.leaf) (by first | exact ⟨_, h⟩ | exact ⟨_, h.f1⟩ | exact ⟨_, h.f2⟩ | exact ⟨_, h.f3⟩ | exact ⟨_, h.f4⟩ | exact ⟨_, h.f5⟩ | exact ⟨_, h.f6⟩ | exact ⟨_, h.f7⟩ | exact ⟨_, h.f8⟩ | exact ⟨_, h.f9⟩ | exact ⟨_, h.f10⟩ | exact ⟨_, h.f11⟩ | exact ⟨_, h.f12⟩ | exact ⟨_, h.f13⟩ | exact ⟨_, h.f14⟩ | exact ⟨_, h.f15⟩)
  obtain ⟨r0, r1, r2, r3⟩ := node_cells (g := g + 2) (x0 := .bool o.leaf) (by first | exact ⟨_, h⟩ | exact ⟨_, h.f1⟩ | exact ⟨_, h.f2⟩ | exact ⟨_, h.f3⟩ | exact ⟨_, h.f4⟩ | exact ⟨_, h.f5⟩ | exact ⟨_, h.f6⟩ | exact ⟨_, h.f7⟩ | exact ⟨_, h.f8⟩ | exact ⟨_, h.f9⟩ | exact ⟨_, h.f10⟩ | exact ⟨_, h.f11⟩ | exact ⟨_, h.f12⟩ | exact ⟨_, h.f13⟩ | exact ⟨_, h.f14⟩ | exact ⟨_, h.f15⟩)
  have KO := Lib.hid ko
  have H := Lib.hid h
  clear h ko hov
  go_wp2_with fail
  clear p0 p1 p2 p3 r0 r1 r2 r3
  with_reducible refine (KO.out _ _ H.out).mono ?_
  clear H KO
  rintro e w10 ⟨rfl, h⟩
  have hxb : (x.over o).bulk ≤ x.bulk + o.bulk := over_bulk x o
  have hev : ∀ k v l, (lentV k v l (x.over o)).val (x.over o) = (lentV k v l x).val x := fun k v l => over_val k v l x o
  obtain ⟨nw, hnw⟩ : ∃ nw, nw = x.over o := ⟨_, rfl⟩
  rw [← hnw] at h hxb hev
  clear hnw
  have hxb2 : nw.bulk + key.size + y.bulk ≤ 2147483647 := by have := HSZ.out; omega
  obtain ⟨au, hau, dau, inu, -, h⟩ := lend_three (by omega) h
  have HE2 := Lib.hid (HEV.out.trans (Ext.of dau))
  have inv := HV.out.2.1.sub (Ph.join_r dau)
  have hyv := HV.out.2.2.sub (Ph.join_r dau)
  clear hau dau HV HEV hxb
  generalize Ph.join au Tv = T at *
  have kc : ∀ w M, Own E w (Hp.ro T :: M) → Calls Tryd.prog 19 #[(lentV gk1 gv1 gl1 x).val x] w fun e w' => ∃ nv, e = .returned nv ∧ Own E w' (Hp.node nv nw :: Hp.ro T :: M) := fun w M hw => by
    rw [← hev]
    exact copied_any (E := E) (S := T) (L := M) (lentV gk1 gv1 gl1 nw) nw w (by omega) inu hw
  obtain ⟨p0, p1, p2, p3⟩ := node_cells (g := gu) (x0 := .bool x.leaf) (by first | exact ⟨_, h⟩ | exact ⟨_, h.f1⟩ | exact ⟨_, h.f2⟩ | exact ⟨_, h.f3⟩ | exact ⟨_, h.f4⟩ | exact ⟨_, h.f5⟩ | exact ⟨_, h.f6⟩ | exact ⟨_, h.f7⟩ | exact ⟨_, h.f8⟩ | exact ⟨_, h.f9⟩ | exact ⟨_, h.f10⟩ | exact ⟨_, h.f11⟩ | exact ⟨_, h.f12⟩ | exact ⟨_, h.f13⟩ | exact ⟨_, h.f14⟩ | exact ⟨_, h.f15⟩)
  have KC := Lib.hid kc
  have HEVL := Lib.hid hev
  have HIN := Lib.hid (And.intro inu (And.intro inv hyv))
  have HSB := Lib.hid hxb2
  have H := Lib.hid h
  clear h kc hev inu inv hyv hxb2
  go_wp2_with fail
  clear p0 p1 p2 p3
  with_reducible refine (KC.out _ _ H.out).mono ?_
  clear H KC
  rintro e w11 ⟨nv, rfl, h⟩
  obtain ⟨c, rfl, h⟩ := h.nodeForm
  have h1 : Own E _ (Hp.blk w11.heap.size NT #[.bool nw.leaf, .slice c.a1 nw.ks.length c.c1, .slice c.a2 nw.vs.length c.c2, .slice c.a3 nw.ls.length c.c3] :: _) := h.alloc _
  obtain ⟨gn, hgn⟩ : ∃ g, g = w11.heap.size := ⟨_, rfl⟩
  rw [← hgn] at h1
  clear h
  have h : Own E _ (Hp.node (c.val nw) nw :: Hp.ro T :: Hp.bk bb B2 :: Hp.blk gn NT #[.bool nw.leaf, .slice c.a1 nw.ks.length c.c1, .slice c.a2 nw.vs.length c.c2, .slice c.a3 nw.ls.length c.c3] :: Hp.blk gw NT #[.bool y.leaf, .slice (some ⟨gk2, 0, none⟩) y.ks.length (y.ks.length + 4), .slice (some ⟨gv2, 0, none⟩) y.vs.length (y.vs.length + 4), .slice (some ⟨gl2, 0, none⟩) y.ls.length (y.ls.length + 4)] :: Hp.blk gu NT #[.bool x.leaf, .slice (some ⟨gk1, 0, none⟩) x.ks.length (x.ks.length + 4), .slice (some ⟨gv1, 0, none⟩) x.vs.length (x.vs.length + 4), .slice (some ⟨gl1, 0, none⟩) x.ls.length (x.ls.length + 4)] :: Hp.blk g NT #[.bool x.leaf, .slice vx.a1 x.ks.length vx.c1, .slice vx.a2 x.vs.length vx.c2, .slice vx.a3 x.ls.length vx.c3] :: Hp.blk (g + 1) NT #[.bool y.leaf, .slice vy.a1 y.ks.length vy.c1, .slice vy.a2 y.vs.length vy.c2, .slice vy.a3 y.ls.length vy.c3] :: Hp.blk (g + 2) NT #[.bool o.leaf, .slice vo.a1 o.ks.length vo.c1, .slice vo.a2 o.vs.length vo.c2, .slice vo.a3 o.ls.length vo.c3] :: L) := h1.ac (by simp only [Hp.all] <;> ac_rfl)
  clear h1
  obtain ⟨ac, hac, dac, h⟩ := h.lend
  obtain ⟨c', hc', inc⟩ := node_in hac
  obtain rfl := Nv.val_inj hc'
  have inc := inc.sub (T := Ph.join ac T) Ph.join_l
  have inu := HIN.out.1.sub (Ph.join_r dac)
  have inv := HIN.out.2.1.sub (Ph.join_r dac)
  have hyv := HIN.out.2.2.sub (Ph.join_r dac)
  have HE3 := Lib.hid (HE2.out.trans (Ext.of dac))
  clear hac dac hc' HIN HE2
  generalize Ph.join ac T = T2 at *
  have kp : ∀ B k w M, k ≤ 900 → BkOk B k → Own E w (Hp.ro T2 :: Hp.bk bb B :: M) → Calls Tryd.prog 17 #[.pointer (some ⟨bb, 0, none⟩), (lentV gk1 gv1 gl1 x).val x, .string key, (lentV gk2 gv2 gl2 y).val y, c.val nw, vy.val y] w fun e w' => e = .returned (.bool true) ∧ ∃ B', BkOk B' (k + 2) ∧ Own E w' (Hp.ro T2 :: Hp.bk bb B' :: M) := fun B k w M hk hB hw => by
    rw [← HEVL.out]
    exact bookput_any (E := E) (S := T2) (L := M) bb B k nw y (lentV gk1 gv1 gl1 nw) (lentV gk2 gv2 gl2 y) c vy key w hk hB (by have := HSB.out; omega) (by have := HSB.out; omega) (by have := HSB.out; omega) inu inv inc hyv hw
  have kp2 : ∀ B k w M, k ≤ 900 → BkOk B k → Own E w (Hp.ro T2 :: Hp.bk bb B :: M) → Calls Tryd.prog 17 #[.pointer (some ⟨bb, 0, none⟩), (lentV gk2 gv2 gl2 y).val y, .string key, (lentV gk1 gv1 gl1 x).val x, vy.val y, c.val nw] w fun e w' => e = .returned (.bool true) ∧ ∃ B', BkOk B' (k + 2) ∧ Own E w' (Hp.ro T2 :: Hp.bk bb B' :: M) := fun B k w M hk hB hw => by
    rw [← HEVL.out]
    exact bookput_any (E := E) (S := T2) (L := M) bb B k y nw (lentV gk2 gv2 gl2 y) (lentV gk1 gv1 gl1 nw) vy c key w hk hB (by have := HSB.out; omega) (by have := HSB.out; omega) (by have := HSB.out; omega) inv inu hyv inc hw
  have KP := Lib.hid kp
  have KP2 := Lib.hid kp2
  clear kp kp2 inc inu inv hyv HEVL HSB
  obtain ⟨p0, p1, p2, p3⟩ := node_cells (g := gu) (x0 := .bool x.leaf) (by first | exact ⟨_, h⟩ | exact ⟨_, h.f1⟩ | exact ⟨_, h.f2⟩ | exact ⟨_, h.f3⟩ | exact ⟨_, h.f4⟩ | exact ⟨_, h.f5⟩ | exact ⟨_, h.f6⟩ | exact ⟨_, h.f7⟩ | exact ⟨_, h.f8⟩ | exact ⟨_, h.f9⟩ | exact ⟨_, h.f10⟩ | exact ⟨_, h.f11⟩ | exact ⟨_, h.f12⟩ | exact ⟨_, h.f13⟩ | exact ⟨_, h.f14⟩ | exact ⟨_, h.f15⟩)
  obtain ⟨q0, q1, q2, q3⟩ := node_cells (g := gw) (x0 := .bool y.leaf) (by first | exact ⟨_, h⟩ | exact ⟨_, h.f1⟩ | exact ⟨_, h.f2⟩ | exact ⟨_, h.f3⟩ | exact ⟨_, h.f4⟩ | exact ⟨_, h.f5⟩ | exact ⟨_, h.f6⟩ | exact ⟨_, h.f7⟩ | exact ⟨_, h.f8⟩ | exact ⟨_, h.f9⟩ | exact ⟨_, h.f10⟩ | exact ⟨_, h.f11⟩ | exact ⟨_, h.f12⟩ | exact ⟨_, h.f13⟩ | exact ⟨_, h.f14⟩ | exact ⟨_, h.f15⟩)
  obtain ⟨r0, r1, r2, r3⟩ := node_cells (g := gn) (x0 := .bool nw.leaf) (by first | exact ⟨_, h⟩ | exact ⟨_, h.f1⟩ | exact ⟨_, h.f2⟩ | exact ⟨_, h.f3⟩ | exact ⟨_, h.f4⟩ | exact ⟨_, h.f5⟩ | exact ⟨_, h.f6⟩ | exact ⟨_, h.f7⟩ | exact ⟨_, h.f8⟩ | exact ⟨_, h.f9⟩ | exact ⟨_, h.f10⟩ | exact ⟨_, h.f11⟩ | exact ⟨_, h.f12⟩ | exact ⟨_, h.f13⟩ | exact ⟨_, h.f14⟩ | exact ⟨_, h.f15⟩)
  obtain ⟨s0, s1, s2, s3⟩ := node_cells (g := g + 1) (x0 := .bool y.leaf) (by first | exact ⟨_, h⟩ | exact ⟨_, h.f1⟩ | exact ⟨_, h.f2⟩ | exact ⟨_, h.f3⟩ | exact ⟨_, h.f4⟩ | exact ⟨_, h.f5⟩ | exact ⟨_, h.f6⟩ | exact ⟨_, h.f7⟩ | exact ⟨_, h.f8⟩ | exact ⟨_, h.f9⟩ | exact ⟨_, h.f10⟩ | exact ⟨_, h.f11⟩ | exact ⟨_, h.f12⟩ | exact ⟨_, h.f13⟩ | exact ⟨_, h.f14⟩ | exact ⟨_, h.f15⟩)
  have H := Lib.hid h
  clear h
  go_wp2_with fail
  rw [← hgn]
  clear hgn
  clear p0 p1 p2 p3 q0 q1 q2 q3 r0 r1 r2 r3 s0 s1 s2 s3
  with_reducible refine (KP.out B2 (0 + 2 + 2) _ _ (by omega) HB2.out H.out).mono ?_
  clear H HB2 KP
  rintro e w12 ⟨rfl, B3, b3, h⟩
  obtain ⟨p0, p1, p2, p3⟩ := node_cells (g := gu) (x0 := .bool x.leaf) (by first | exact ⟨_, h⟩ | exact ⟨_, h.f1⟩ | exact ⟨_, h.f2⟩ | exact ⟨_, h.f3⟩ | exact ⟨_, h.f4⟩ | exact ⟨_, h.f5⟩ | exact ⟨_, h.f6⟩ | exact ⟨_, h.f7⟩ | exact ⟨_, h.f8⟩ | exact ⟨_, h.f9⟩ | exact ⟨_, h.f10⟩ | exact ⟨_, h.f11⟩ | exact ⟨_, h.f12⟩ | exact ⟨_, h.f13⟩ | exact ⟨_, h.f14⟩ | exact ⟨_, h.f15⟩)
  obtain ⟨q0, q1, q2, q3⟩ := node_cells (g := gw) (x0 := .bool y.leaf) (by first | exact ⟨_, h⟩ | exact ⟨_, h.f1⟩ | exact ⟨_, h.f2⟩ | exact ⟨_, h.f3⟩ | exact ⟨_, h.f4⟩ | exact ⟨_, h.f5⟩ | exact ⟨_, h.f6⟩ | exact ⟨_, h.f7⟩ | exact ⟨_, h.f8⟩ | exact ⟨_, h.f9⟩ | exact ⟨_, h.f10⟩ | exact ⟨_, h.f11⟩ | exact ⟨_, h.f12⟩ | exact ⟨_, h.f13⟩ | exact ⟨_, h.f14⟩ | exact ⟨_, h.f15⟩)
  obtain ⟨r0, r1, r2, r3⟩ := node_cells (g := gn) (x0 := .bool nw.leaf) (by first | exact ⟨_, h⟩ | exact ⟨_, h.f1⟩ | exact ⟨_, h.f2⟩ | exact ⟨_, h.f3⟩ | exact ⟨_, h.f4⟩ | exact ⟨_, h.f5⟩ | exact ⟨_, h.f6⟩ | exact ⟨_, h.f7⟩ | exact ⟨_, h.f8⟩ | exact ⟨_, h.f9⟩ | exact ⟨_, h.f10⟩ | exact ⟨_, h.f11⟩ | exact ⟨_, h.f12⟩ | exact ⟨_, h.f13⟩ | exact ⟨_, h.f14⟩ | exact ⟨_, h.f15⟩)
  obtain ⟨s0, s1, s2, s3⟩ := node_cells (g := g + 1) (x0 := .bool y.leaf) (by first | exact ⟨_, h⟩ | exact ⟨_, h.f1⟩ | exact ⟨_, h.f2⟩ | exact ⟨_, h.f3⟩ | exact ⟨_, h.f4⟩ | exact ⟨_, h.f5⟩ | exact ⟨_, h.f6⟩ | exact ⟨_, h.f7⟩ | exact ⟨_, h.f8⟩ | exact ⟨_, h.f9⟩ | exact ⟨_, h.f10⟩ | exact ⟨_, h.f11⟩ | exact ⟨_, h.f12⟩ | exact ⟨_, h.f13⟩ | exact ⟨_, h.f14⟩ | exact ⟨_, h.f15⟩)
  have H := Lib.hid h
  clear h
  go_wp2_with fail
  clear p0 p1 p2 p3 q0 q1 q2 q3 r0 r1 r2 r3 s0 s1 s2 s3
  with_reducible refine (KP2.out (B3) (0 + 2 + 2 + 2) _ _ (by omega) (b3) H.out).mono ?_
  clear H
  rintro e w9 ⟨rfl, B4, b4, h⟩
  clear KP2 b3
  have ka := fun w M hw => bkapart_any (E := E) (S := T2) (L := M) bb B4 w (Nat.le_trans b4.t (by omega)) (Nat.le_trans b4.n (by omega)) b4.xt b4.xn hw
  have KA := Lib.hid ka
  have H := Lib.hid h
  clear h ka b4
  go_wp2_with fail
  with_reducible refine (KA.out _ _ H.out).mono ?_
  rintro e w14 ⟨rfl, h⟩
  clear H KA
  go_wp2_with fail
  go_ret
  have h := h.f1.drop
  have h := h.f1.drop
  have h := h.f1.drop
  have h := h.f1.drop
  have h := h.f1.drop
  have h := h.f1.drop
  exact ⟨rfl, h.back HE3.out⟩
end
end Go.Proofs.YtbclmmneiphcaaaDoor
