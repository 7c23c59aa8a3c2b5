/- latchkeylaw10.NodePages (printed by gen_pages.py). -/
import Derived.Test.YtbclmmneiphcaaaGreatDoorPages2
import Derived.Test.YtbclmmneiphcaaaGreatDoorJoins
import Derived.Test.YtbclmmneiphcaaaGreatDoorApart2
namespace Go.Proofs.YtbclmmneiphcaaaGreatDoor
open Go.RowKit
theorem Laid0.under {E : World} {A B : Hp} {L : List Hp} (h : Laid0 E (A :: L)) : Laid0 E (A :: B :: L) := fun w hw => h w hw.f1.drop
section
variable {E : World} {S : Ph} {L : List Hp}
theorem pageweighs_any (A : Option Addr) (c : Nat) (p : Pg) (w : World) (h1 : p.links.length ≤ 1000000000000000000) (h2 : p.body.size ≤ 1000000000000000000) (h : Own E w L) :
    Calls Tryz.prog 7 #[p.val A c] w fun e w' => (∃ z : Nat, z ≤ 4294967294 ∧ (z ≤ 2147483647 → z = p.links.length + p.body.size) ∧ e = .returned (.int .i64 z)) ∧ Own E w' L := by
  have H := Lib.hid (h.alloc (.cells #[VI p.kind, VI p.number, VI p.birth, .slice A p.links.length c, .string p.body] PT)).drop
  have k1 := fun w => addsup_any p.links.length p.body.size w h1 h2
  clear h
  go_enter Tryz.func7, Tryz.ntmps7
  go_wp2_with fail
  refine (k1 _).mono ?_
  rintro e w1 ⟨rfl, z, hz, hz2, rfl⟩
  have HZ := Lib.hid hz2
  clear hz2
  go_wp2_with fail
  go_ret
  exact ⟨⟨z, hz, HZ.out, rfl⟩, H.out⟩
/-- Numbers in a row. -/
def cntN (n : Nat) : List Int := (List.range n).map fun (i : Nat) => 2 + (i : Int)
theorem cntN_len (n : Nat) : (cntN n).length = n := by simp [cntN]
/-- The list that is written over, so far. -/
def wrt (l : List Int) (k : Nat) : List Int := cntN k ++ l.drop k
theorem wrt_len (l : List Int) (k : Nat) (h : k ≤ l.length) : (wrt l k).length = l.length := by
  unfold wrt; rw [List.length_append, cntN_len, List.length_drop]; omega
theorem wrt_zero (l : List Int) : wrt l 0 = l := by simp [wrt, cntN]
theorem wrt_all (l : List Int) : wrt l l.length = cntN l.length := by simp [wrt]
theorem wrt_set (l : List Int) (k : Nat) (h : k < l.length) : (wrt l k).set k (2 + (k : Int)) = wrt l (k + 1) := by
  have e1 : cntN (k + 1) = cntN k ++ [2 + (k : Int)] := by simp [cntN, List.range_succ]
  have e2 : (cntN k).length = k := cntN_len k
  unfold wrt
  rw [List.set_append_right _ _ (by omega), e2, Nat.sub_self, e1, List.append_assoc, List.drop_eq_getElem_cons h]
  rfl
theorem lentI_set (l : List Int) (k : Nat) (v : Int) (h : k < l.length) : ((lentI l).toArray.setIfInBounds k (VI v)) = (lentI (l.set k v)).toArray := by
  rw [List.setIfInBounds_toArray]
  congr 1
  unfold lentI
  rw [List.set_append_left _ _ (by simpa using h), List.map_set]
set_option maxRecDepth 100000 in
set_option maxHeartbeats 8000000 in
theorem nodepages_any (vx vo : Nv) (PA : Option Addr) (pc : Nat) (x o : Nd) (p : Pg) (w : World) (hsx : NdSm x) (hso : NdSm o) (hp1 : p.links.length ≤ 1000000000000000000) (hp2 : p.body.size ≤ 1000000000000000000) (hix : NdIn S vx x) (hio : NdIn S vo o) (hip : Rds S 1 en64 PA p.links.length p.links) (hG : Laid0 E (Hp.ro S :: L)) (h : Own E w (Hp.ro S :: L)) :
    Calls Tryz.prog 3 #[vx.val x, p.val PA pc, vo.val o] w fun e w' => e = .returned (.bool true) ∧ Own E w' (Hp.ro S :: L) := by
  have kw := fun w M hw => nodeweighs_any (E := E) (S := S) (L := M) vx x w hsx hix hw
  have kw2 := fun w M hw => pageweighs_any (E := E) (L := M) PA pc p w hp1 hp2 hw
  have kw3 := fun w M hw => nodeweighs_any (E := E) (S := S) (L := M) vo o w hso hio hw
  have kl := fun hb w M hw => lent_any (E := E) (S := S) (L := M) vx x w hb hix hw
  have h1 : Own E _ (Hp.blk (w.heap.size + 2) NT #[.bool o.leaf, .slice vo.a1 o.ks.length vo.c1, .slice vo.a2 o.vs.length vo.c2, .slice vo.a3 o.ls.length vo.c3] :: Hp.blk (w.heap.size + 1) PT #[VI p.kind, VI p.number, VI p.birth, .slice PA p.links.length pc, .string p.body] :: Hp.blk w.heap.size NT #[.bool x.leaf, .slice vx.a1 x.ks.length vx.c1, .slice vx.a2 x.vs.length vx.c2, .slice vx.a3 x.ls.length vx.c3] :: Hp.ro S :: L) := h.alloc3 _ _ _
  obtain ⟨g, hg⟩ : ∃ g, g = w.heap.size := ⟨_, rfl⟩
  rw [← hg] at h1
  have h : Own E _ (Hp.ro S :: Hp.blk g NT #[.bool x.leaf, .slice vx.a1 x.ks.length vx.c1, .slice vx.a2 x.vs.length vx.c2, .slice vx.a3 x.ls.length vx.c3] :: Hp.blk (g + 1) PT #[VI p.kind, VI p.number, VI p.birth, .slice PA p.links.length pc, .string p.body] :: Hp.blk (g + 2) NT #[.bool o.leaf, .slice vo.a1 o.ks.length vo.c1, .slice vo.a2 o.vs.length vo.c2, .slice vo.a3 o.ls.length vo.c3] :: L) := h1.ac (by simp only [Hp.all] <;> ac_rfl)
  have hrg : ∀ w', (∃ L', Own E w' (Hp.ro S :: Hp.blk g NT #[.bool x.leaf, .slice vx.a1 x.ks.length vx.c1, .slice vx.a2 x.vs.length vx.c2, .slice vx.a3 x.ls.length vx.c3] :: Hp.blk (g + 1) PT #[VI p.kind, VI p.number, VI p.birth, .slice PA p.links.length pc, .string p.body] :: Hp.blk (g + 2) NT #[.bool o.leaf, .slice vo.a1 o.ks.length vo.c1, .slice vo.a2 o.vs.length vo.c2, .slice vo.a3 o.ls.length vo.c3] :: L')) → w'.rangeAt g 0 [.bool x.leaf, .slice vx.a1 x.ks.length vx.c1, .slice vx.a2 x.vs.length vx.c2, .slice vx.a3 x.ls.length vx.c3] ∧ w'.rangeAt (g + 1) 0 [VI p.kind, VI p.number, VI p.birth, .slice PA p.links.length pc, .string p.body] ∧ w'.rangeAt (g + 2) 0 [.bool o.leaf, .slice vo.a1 o.ks.length vo.c1, .slice vo.a2 o.vs.length vo.c2, .slice vo.a3 o.ls.length vo.c3] := fun w' hw => by
    obtain ⟨_, hw⟩ := hw
    exact ⟨hw.f1.range 0 _ (fun j u hu => by simpa using hu), hw.f2.range 0 _ (fun j u hu => by simpa using hu), hw.f3.range 0 _ (fun j u hu => by simpa using hu)⟩
  have HR := Lib.hid hrg
  have H := Lib.hid h
  have KW := Lib.hid kw
  have KW2 := Lib.hid kw2
  have KW3 := Lib.hid kw3
  have KL := Lib.hid kl
  have HG := Lib.hid hG
  have HI := Lib.hid (And.intro hix (And.intro hio hip))
  clear h h1 hrg kw kw2 kw3 kl hG hix hio hip hsx hso hp1 hp2
  go_enter Tryz.func3, Tryz.ntmps3
  go_wp2_with fail
  rw [← hg]
  clear hg
  have h := H.out.drew
  clear H
  refine wp_region_text [0, 2, 5] (fun w' => w'.rangeAt g 0 [.bool x.leaf, .slice vx.a1 x.ks.length vx.c1, .slice vx.a2 x.vs.length vx.c2, .slice vx.a3 x.ls.length vx.c3] ∧ w'.rangeAt (g + 1) 0 [VI p.kind, VI p.number, VI p.birth, .slice PA p.links.length pc, .string p.body] ∧ w'.rangeAt (g + 2) 0 [.bool o.leaf, .slice vo.a1 o.ks.length vo.c1, .slice vo.a2 o.vs.length vo.c2, .slice vo.a3 o.ls.length vo.c3]) (by kernel_rfl) ?_ (fun hS => ?_)
  · exact HR.out _ ⟨_, h⟩
  refine wpAnyG_load (i := 0) (oi := ⟨some 26, _, _, _, _, _⟩) (v := (.agg #[.bool x.leaf, .slice vx.a1 x.ks.length vx.c1, .slice vx.a2 x.vs.length vx.c2, .slice vx.a3 x.ls.length vx.c3])) rfl (by kernel_rfl) (by kernel_rfl) (by kernel_rfl) (by rfl) (fun _ _ _ h => h) (by rfl) ?_ (by assumption) ?_
  · intro w hS
    exact exec_load_mid NT (.tmp 3) rfl g 0 (by rfl) [.bool x.leaf, .slice vx.a1 x.ks.length vx.c1, .slice vx.a2 x.vs.length vx.c2, .slice vx.a3 x.ls.length vx.c3] _ hS.1 Tryz.underlying25 rfl (by kernel_rfl)
  try simp only [Act.put, List.setIfInBounds_toArray, List.set_cons_zero, List.set_cons_succ]
  refine wpAnyG_load (i := 2) (oi := ⟨some 28, _, _, _, _, _⟩) (v := (.agg #[VI p.kind, VI p.number, VI p.birth, .slice PA p.links.length pc, .string p.body])) rfl (by kernel_rfl) (by kernel_rfl) (by kernel_rfl) (by rfl) (fun _ _ _ h => h) (by rfl) ?_ (by assumption) ?_
  · intro w hS
    exact exec_load_mid PT (.tmp 4) rfl (g + 1) 0 (by rfl) [VI p.kind, VI p.number, VI p.birth, .slice PA p.links.length pc, .string p.body] _ hS.2.1 Tryz.underlying27 rfl (by kernel_rfl)
  try simp only [Act.put, List.setIfInBounds_toArray, List.set_cons_zero, List.set_cons_succ]
  refine wpAnyG_load (i := 5) (oi := ⟨some 31, _, _, _, _, _⟩) (v := (.agg #[.bool o.leaf, .slice vo.a1 o.ks.length vo.c1, .slice vo.a2 o.vs.length vo.c2, .slice vo.a3 o.ls.length vo.c3])) rfl (by kernel_rfl) (by kernel_rfl) (by kernel_rfl) (by rfl) (fun _ _ _ h => h) (by rfl) ?_ (by assumption) ?_
  · intro w hS
    exact exec_load_mid NT (.tmp 5) rfl (g + 2) 0 (by rfl) [.bool o.leaf, .slice vo.a1 o.ks.length vo.c1, .slice vo.a2 o.vs.length vo.c2, .slice vo.a3 o.ls.length vo.c3] _ hS.2.2 Tryz.underlying25 rfl (by kernel_rfl)
  try simp only [Act.put, List.setIfInBounds_toArray, List.set_cons_zero, List.set_cons_succ]
  refine wpAnyG_keep (i := 1) (oi := ⟨some 27, _, _, _, _, _⟩) (by kernel_rfl) rfl (fun K hK => ?_)
  rw [if_pos (by rfl)]
  go_simp
  refine (KW.out _ _ h).mono ?_
  rintro e w1 ⟨⟨z1, hz1, hy1, rfl⟩, h⟩
  refine hK.out _ _ ?_ (fun hS => ?_)
  · exact HR.out _ ⟨_, h⟩
  clear hK K
  try simp only [Act.put, List.setIfInBounds_toArray, List.set_cons_zero, List.set_cons_succ]
  refine wpAnyG_keep (i := 3) (oi := ⟨some 29, _, _, _, _, _⟩) (by kernel_rfl) rfl (fun K hK => ?_)
  rw [if_pos (by rfl)]
  go_simp
  refine (KW2.out _ _ h).mono ?_
  rintro e w2 ⟨⟨z2, hz2, hy2, rfl⟩, h⟩
  refine hK.out _ _ ?_ (fun hS => ?_)
  · exact HR.out _ ⟨_, h⟩
  clear hK K
  try simp only [Act.put, List.setIfInBounds_toArray, List.set_cons_zero, List.set_cons_succ]
  refine wpAnyG_keep (i := 4) (oi := ⟨some 30, _, _, _, _, _⟩) (by kernel_rfl) rfl (fun K hK => ?_)
  rw [if_pos (by rfl)]
  go_simp
  refine (addsup_any z1 z2 _ (by omega) (by omega)).mono ?_
  rintro e w3 ⟨rfl, z3, hz3, hy3, rfl⟩
  refine hK.out _ _ ?_ (fun hS => ?_)
  · exact HR.out _ ⟨_, h⟩
  clear hK K
  try simp only [Act.put, List.setIfInBounds_toArray, List.set_cons_zero, List.set_cons_succ]
  refine wpAnyG_keep (i := 6) (oi := ⟨some 32, _, _, _, _, _⟩) (by kernel_rfl) rfl (fun K hK => ?_)
  rw [if_pos (by rfl)]
  go_simp
  refine (KW3.out _ _ h).mono ?_
  rintro e w4 ⟨⟨z4, hz4, hy4, rfl⟩, h⟩
  refine hK.out _ _ ?_ (fun hS => ?_)
  · exact HR.out _ ⟨_, h⟩
  clear hK K
  try simp only [Act.put, List.setIfInBounds_toArray, List.set_cons_zero, List.set_cons_succ]
  refine wpAnyG_keep (i := 7) (oi := ⟨some 33, _, _, _, _, _⟩) (by kernel_rfl) rfl (fun K hK => ?_)
  rw [if_pos (by rfl)]
  go_simp
  refine (addsup_any z3 z4 _ (by omega) (by omega)).mono ?_
  rintro e w5 ⟨rfl, z5, hz5, hy5, rfl⟩
  refine hK.out _ _ ?_ (fun hS => ?_)
  · exact HR.out _ ⟨_, h⟩
  clear hK K
  try simp only [Act.put, List.setIfInBounds_toArray, List.set_cons_zero, List.set_cons_succ]
  refine wpAnyG_pure (i := 8) (oi := ⟨some 34, _, _, _, _, _⟩) (v := ?_) rfl (by kernel_rfl) (by kernel_rfl) (by kernel_rfl) (by rfl) (fun _ _ _ h => h) (by rfl) ?_ ?_
  rotate_left
  · intro w
    go_simp
    first | done | with_reducible rfl
  try simp only [Act.put, List.setIfInBounds_toArray, List.set_cons_zero, List.set_cons_succ]
  refine wpAnyG_done (by kernel_rfl) ?_ _
  refine NoPanic.normal ?_
  have H := Lib.hid h
  have HYS := Lib.hid (And.intro hy1 (And.intro hy2 (And.intro hy3 (And.intro hy4 hy5))))
  repeat clear h
  clear hy1 hy2 hy3 hy4 hy5 HR
  by_cases hc : 2147483647 < z5
  · have hci : (2147483647 : Int) < z5 := by omega
    go_wp2_with fail
    go_ret
    exact ⟨rfl, ((H.out.f1.drop).f1.drop).f1.drop⟩
  have hci : ¬ (2147483647 : Int) < z5 := by omega
  have hsz : x.bulk + o.bulk + p.links.length + p.body.size ≤ 2147483647 := by
    obtain ⟨f1, f2, f3, f4, f5⟩ := HYS.out
    have e5 := f5 (by omega)
    have e4 := f4 (by omega)
    have e3 := f3 (by omega)
    have e2 := f2 (by omega)
    have e1 := f1 (by omega)
    omega
  have HSZ := Lib.hid hsz
  clear hsz hc hz1 hz2 hz3 hz4 hz5 HYS KW KW2 KW3
  go_wp2_with fail
  have hH := H.out
  have h : Own E _ (Hp.blk g NT #[.bool x.leaf, .slice vx.a1 x.ks.length vx.c1, .slice vx.a2 x.vs.length vx.c2, .slice vx.a3 x.ls.length vx.c3] :: Hp.blk (g + 1) PT #[VI p.kind, VI p.number, VI p.birth, .slice PA p.links.length pc, .string p.body] :: Hp.blk (g + 2) NT #[.bool o.leaf, .slice vo.a1 o.ks.length vo.c1, .slice vo.a2 o.vs.length vo.c2, .slice vo.a3 o.ls.length vo.c3] :: Hp.ro S :: L) := hH.ac (by simp only [Hp.all] <;> ac_rfl)
  clear H hH
  refine (awake_any _ HG.out.cons.cons.cons h).mono ?_
  rintro e w3 ⟨rfl, h1⟩
  have hb1 : Own E _ (Hp.blk w3.heap.size BKT #[.slice none 0 0, .slice none 0 0, .slice none 0 0, .slice none 0 0] :: _) := h1.alloc _
  clear h1 h
  obtain ⟨bb, hbb⟩ : ∃ bb, bb = w3.heap.size := ⟨_, rfl⟩
  rw [← hbb] at hb1
  have h : Own E _ (Hp.ro S :: Hp.bk bb Bk.nil :: Hp.blk g NT #[.bool x.leaf, .slice vx.a1 x.ks.length vx.c1, .slice vx.a2 x.vs.length vx.c2, .slice vx.a3 x.ls.length vx.c3] :: Hp.blk (g + 1) PT #[VI p.kind, VI p.number, VI p.birth, .slice PA p.links.length pc, .string p.body] :: Hp.blk (g + 2) NT #[.bool o.leaf, .slice vo.a1 o.ks.length vo.c1, .slice vo.a2 o.vs.length vo.c2, .slice vo.a3 o.ls.length vo.c3] :: L) := (show Own E _ (Hp.bk bb Bk.nil :: Hp.blk g NT #[.bool x.leaf, .slice vx.a1 x.ks.length vx.c1, .slice vx.a2 x.vs.length vx.c2, .slice vx.a3 x.ls.length vx.c3] :: Hp.blk (g + 1) PT #[VI p.kind, VI p.number, VI p.birth, .slice PA p.links.length pc, .string p.body] :: Hp.blk (g + 2) NT #[.bool o.leaf, .slice vo.a1 o.ks.length vo.c1, .slice vo.a2 o.vs.length vo.c2, .slice vo.a3 o.ls.length vo.c3] :: Hp.ro S :: L) from newBook hb1).ac (by simp only [Hp.all] <;> ac_rfl)
  clear hb1
  obtain ⟨p0, p1, p2, p3⟩ := node_cells (g := g) (x0 := .bool x.leaf) (by first | exact ⟨_, h⟩ | exact ⟨_, h.f1⟩ | exact ⟨_, h.f2⟩ | exact ⟨_, h.f3⟩ | exact ⟨_, h.f4⟩ | exact ⟨_, h.f5⟩ | exact ⟨_, h.f6⟩ | exact ⟨_, h.f7⟩ | exact ⟨_, h.f8⟩ | exact ⟨_, h.f9⟩ | exact ⟨_, h.f10⟩ | exact ⟨_, h.f11⟩ | exact ⟨_, h.f12⟩ | exact ⟨_, h.f13⟩ | exact ⟨_, h.f14⟩ | exact ⟨_, h.f15⟩)
  have H := Lib.hid h
  clear h
  go_wp2_with fail
  rw [← hbb]
  clear hbb p0 p1 p2 p3
  with_reducible refine (KL.out (by have := HSZ.out; omega) _ _ H.out).mono ?_
  rintro e w4 ⟨gk1, gv1, gl1, rfl, h⟩
  have h1 : Own E _ (Hp.blk w4.heap.size NT #[.bool x.leaf, .slice (some ⟨gk1, 0, none⟩) x.ks.length (x.ks.length + 4), .slice (some ⟨gv1, 0, none⟩) x.vs.length (x.vs.length + 4), .slice (some ⟨gl1, 0, none⟩) x.ls.length (x.ls.length + 4)] :: _) := h.alloc _
  obtain ⟨gu, hgu⟩ : ∃ g, g = w4.heap.size := ⟨_, rfl⟩
  rw [← hgu] at h1
  clear h H KL
  have h : Own E _ (Hp.three gk1 gv1 gl1 x :: Hp.ro S :: Hp.bk bb Bk.nil :: Hp.blk gu NT #[.bool x.leaf, .slice (some ⟨gk1, 0, none⟩) x.ks.length (x.ks.length + 4), .slice (some ⟨gv1, 0, none⟩) x.vs.length (x.vs.length + 4), .slice (some ⟨gl1, 0, none⟩) x.ls.length (x.ls.length + 4)] :: Hp.blk g NT #[.bool x.leaf, .slice vx.a1 x.ks.length vx.c1, .slice vx.a2 x.vs.length vx.c2, .slice vx.a3 x.ls.length vx.c3] :: Hp.blk (g + 1) PT #[VI p.kind, VI p.number, VI p.birth, .slice PA p.links.length pc, .string p.body] :: Hp.blk (g + 2) NT #[.bool o.leaf, .slice vo.a1 o.ks.length vo.c1, .slice vo.a2 o.vs.length vo.c2, .slice vo.a3 o.ls.length vo.c3] :: L) := h1.ac (by simp only [Hp.all] <;> ac_rfl)
  clear h1
  obtain ⟨au, hau, dau, inu, spu, h⟩ := lend_three (by have := HSZ.out; omega) h
  have hxu := HI.out.1.sub (Ph.join_r dau)
  obtain ⟨T, hT⟩ : ∃ T, T = Ph.join au S := ⟨_, rfl⟩
  rw [← hT] at h inu spu hxu
  have HT := Lib.hid hT
  have HAU := Lib.hid (And.intro hau dau)
  have HV := Lib.hid HI.out.2
  have kp := fun B k w M hk hB hw => booklaid_any (E := E) (S := T) (L := M) bb B k x (lentV gk1 gv1 gl1 x) vx w hk hB (by have := HSZ.out; omega) inu hxu hw
  have kh := fun w M hw => whole_any (E := E) (S := T) (L := M) gk1 gv1 gl1 vx x w (by have := HSZ.out; omega) inu spu hxu hw
  have KP := Lib.hid kp
  have KH := Lib.hid kh
  clear hT hau dau kp kh inu spu hxu HI
  obtain ⟨p0, p1, p2, p3⟩ := node_cells (g := gu) (x0 := .bool x.leaf) (by first | exact ⟨_, h⟩ | exact ⟨_, h.f1⟩ | exact ⟨_, h.f2⟩ | exact ⟨_, h.f3⟩ | exact ⟨_, h.f4⟩ | exact ⟨_, h.f5⟩ | exact ⟨_, h.f6⟩ | exact ⟨_, h.f7⟩ | exact ⟨_, h.f8⟩ | exact ⟨_, h.f9⟩ | exact ⟨_, h.f10⟩ | exact ⟨_, h.f11⟩ | exact ⟨_, h.f12⟩ | exact ⟨_, h.f13⟩ | exact ⟨_, h.f14⟩ | exact ⟨_, h.f15⟩)
  obtain ⟨r0, r1, r2, r3⟩ := node_cells (g := g) (x0 := .bool x.leaf) (by first | exact ⟨_, h⟩ | exact ⟨_, h.f1⟩ | exact ⟨_, h.f2⟩ | exact ⟨_, h.f3⟩ | exact ⟨_, h.f4⟩ | exact ⟨_, h.f5⟩ | exact ⟨_, h.f6⟩ | exact ⟨_, h.f7⟩ | exact ⟨_, h.f8⟩ | exact ⟨_, h.f9⟩ | exact ⟨_, h.f10⟩ | exact ⟨_, h.f11⟩ | exact ⟨_, h.f12⟩ | exact ⟨_, h.f13⟩ | exact ⟨_, h.f14⟩ | exact ⟨_, h.f15⟩)
  have H := Lib.hid h
  repeat clear h
  go_wp2_with fail
  rw [← hgu]
  clear hgu
  clear p0 p1 p2 p3 r0 r1 r2 r3
  with_reducible refine (KP.out (Bk.nil) (0) _ _ (by omega) (BkOk.nil 0) H.out).mono ?_
  clear H
  rintro e w6 ⟨rfl, B1, b1, h⟩
  obtain ⟨p0, p1, p2, p3⟩ := node_cells (g := gu) (x0 := .bool x.leaf) (by first | exact ⟨_, h⟩ | exact ⟨_, h.f1⟩ | exact ⟨_, h.f2⟩ | exact ⟨_, h.f3⟩ | exact ⟨_, h.f4⟩ | exact ⟨_, h.f5⟩ | exact ⟨_, h.f6⟩ | exact ⟨_, h.f7⟩ | exact ⟨_, h.f8⟩ | exact ⟨_, h.f9⟩ | exact ⟨_, h.f10⟩ | exact ⟨_, h.f11⟩ | exact ⟨_, h.f12⟩ | exact ⟨_, h.f13⟩ | exact ⟨_, h.f14⟩ | exact ⟨_, h.f15⟩)
  obtain ⟨r0, r1, r2, r3⟩ := node_cells (g := g) (x0 := .bool x.leaf) (by first | exact ⟨_, h⟩ | exact ⟨_, h.f1⟩ | exact ⟨_, h.f2⟩ | exact ⟨_, h.f3⟩ | exact ⟨_, h.f4⟩ | exact ⟨_, h.f5⟩ | exact ⟨_, h.f6⟩ | exact ⟨_, h.f7⟩ | exact ⟨_, h.f8⟩ | exact ⟨_, h.f9⟩ | exact ⟨_, h.f10⟩ | exact ⟨_, h.f11⟩ | exact ⟨_, h.f12⟩ | exact ⟨_, h.f13⟩ | exact ⟨_, h.f14⟩ | exact ⟨_, h.f15⟩)
  have H := Lib.hid h
  clear h
  go_wp2_with fail
  clear p0 p1 p2 p3 r0 r1 r2 r3
  with_reducible refine (KP.out (B1) (0 + 1) _ _ (by omega) (b1) H.out).mono ?_
  clear H
  rintro e w7 ⟨rfl, B2, b2, h⟩
  have HB2 := Lib.hid b2
  clear b1 b2
  obtain ⟨p0, p1, p2, p3⟩ := node_cells (g := gu) (x0 := .bool x.leaf) (by first | exact ⟨_, h⟩ | exact ⟨_, h.f1⟩ | exact ⟨_, h.f2⟩ | exact ⟨_, h.f3⟩ | exact ⟨_, h.f4⟩ | exact ⟨_, h.f5⟩ | exact ⟨_, h.f6⟩ | exact ⟨_, h.f7⟩ | exact ⟨_, h.f8⟩ | exact ⟨_, h.f9⟩ | exact ⟨_, h.f10⟩ | exact ⟨_, h.f11⟩ | exact ⟨_, h.f12⟩ | exact ⟨_, h.f13⟩ | exact ⟨_, h.f14⟩ | exact ⟨_, h.f15⟩)
  obtain ⟨r0, r1, r2, r3⟩ := node_cells (g := g) (x0 := .bool x.leaf) (by first | exact ⟨_, h⟩ | exact ⟨_, h.f1⟩ | exact ⟨_, h.f2⟩ | exact ⟨_, h.f3⟩ | exact ⟨_, h.f4⟩ | exact ⟨_, h.f5⟩ | exact ⟨_, h.f6⟩ | exact ⟨_, h.f7⟩ | exact ⟨_, h.f8⟩ | exact ⟨_, h.f9⟩ | exact ⟨_, h.f10⟩ | exact ⟨_, h.f11⟩ | exact ⟨_, h.f12⟩ | exact ⟨_, h.f13⟩ | exact ⟨_, h.f14⟩ | exact ⟨_, h.f15⟩)
  have H := Lib.hid h
  clear h
  go_wp2_with fail
  clear p0 p1 p2 p3 r0 r1 r2 r3
  with_reducible refine (KH.out _ _ H.out).mono ?_
  clear H
  rintro e w8 ⟨rfl, h⟩
  clear KP KH
  have hT := HT.out
  subst hT
  have h := Own.give HAU.out.1 HAU.out.2 h
  clear HT HAU
  have hov := HV.out.1
  have ko := fun w M hw => over_any (E := E) (S := S) (L := M) gk1 gv1 gl1 x vo o w (by have := HSZ.out; omega) (by have := HSZ.out; omega) hov hw
  obtain ⟨p0, p1, p2, p3⟩ := node_cells (g := gu) (x0 := .bool x.leaf) (by first | exact ⟨_, h⟩ | exact ⟨_, h.f1⟩ | exact ⟨_, h.f2⟩ | exact ⟨_, h.f3⟩ | exact ⟨_, h.f4⟩ | exact ⟨_, h.f5⟩ | exact ⟨_, h.f6⟩ | exact ⟨_, h.f7⟩ | exact ⟨_, h.f8⟩ | exact ⟨_, h.f9⟩ | exact ⟨_, h.f10⟩ | exact ⟨_, h.f11⟩ | exact ⟨_, h.f12⟩ | exact ⟨_, h.f13⟩ | exact ⟨_, h.f14⟩ | exact ⟨_, h.f15⟩)
  obtain ⟨r0, r1, r2, r3⟩ := node_cells (g := g + 2) (x0 := .bool o.leaf) (by first | exact ⟨_, h⟩ | exact ⟨_, h.f1⟩ | exact ⟨_, h.f2⟩ | exact ⟨_, h.f3⟩ | exact ⟨_, h.f4⟩ | exact ⟨_, h.f5⟩ | exact ⟨_, h.f6⟩ | exact ⟨_, h.f7⟩ | exact ⟨_, h.f8⟩ | exact ⟨_, h.f9⟩ | exact ⟨_, h.f10⟩ | exact ⟨_, h.f11⟩ | exact ⟨_, h.f12⟩ | exact ⟨_, h.f13⟩ | exact ⟨_, h.f14⟩ | exact ⟨_, h.f15⟩)
  have KO := Lib.hid ko
  have H := Lib.hid h
  clear h ko hov
  go_wp2_with fail
  clear p0 p1 p2 p3 r0 r1 r2 r3
  with_reducible refine (KO.out _ _ H.out).mono ?_
  clear H KO
  rintro e w10 ⟨rfl, h⟩
  have hxb : (x.over o).bulk ≤ x.bulk + o.bulk := over_bulk x o
  have hev : ∀ k v l, (lentV k v l (x.over o)).val (x.over o) = (lentV k v l x).val x := fun k v l => over_val k v l x o
  obtain ⟨nw, hnw⟩ : ∃ nw, nw = x.over o := ⟨_, rfl⟩
  rw [← hnw] at h hxb hev
  clear hnw
  have hxb2 : nw.bulk ≤ 2147483647 := by have := HSZ.out; omega
  obtain ⟨au, hau, dau, inu, -, h⟩ := lend_three (by omega) h
  have HE2 := Lib.hid (Ext.of dau)
  clear hau dau hxb
  generalize Ph.join au S = T at *
  have kc : ∀ w M, Own E w (Hp.ro T :: M) → Calls Tryz.prog 13 #[(lentV gk1 gv1 gl1 x).val x] w fun e w' => ∃ nv, e = .returned nv ∧ Own E w' (Hp.node nv nw :: Hp.ro T :: M) := fun w M hw => by
    rw [← hev]
    exact copied_any (E := E) (S := T) (L := M) (lentV gk1 gv1 gl1 nw) nw w (by omega) inu hw
  obtain ⟨p0, p1, p2, p3⟩ := node_cells (g := gu) (x0 := .bool x.leaf) (by first | exact ⟨_, h⟩ | exact ⟨_, h.f1⟩ | exact ⟨_, h.f2⟩ | exact ⟨_, h.f3⟩ | exact ⟨_, h.f4⟩ | exact ⟨_, h.f5⟩ | exact ⟨_, h.f6⟩ | exact ⟨_, h.f7⟩ | exact ⟨_, h.f8⟩ | exact ⟨_, h.f9⟩ | exact ⟨_, h.f10⟩ | exact ⟨_, h.f11⟩ | exact ⟨_, h.f12⟩ | exact ⟨_, h.f13⟩ | exact ⟨_, h.f14⟩ | exact ⟨_, h.f15⟩)
  have KC := Lib.hid kc
  have HEVL := Lib.hid hev
  have HIN := Lib.hid inu
  have HSB := Lib.hid hxb2
  have H := Lib.hid h
  clear h kc hev inu hxb2
  go_wp2_with fail
  clear p0 p1 p2 p3
  with_reducible refine (KC.out _ _ H.out).mono ?_
  clear H KC
  rintro e w11 ⟨nv, rfl, h⟩
  obtain ⟨c, rfl, h⟩ := h.nodeForm
  have h1 : Own E _ (Hp.blk w11.heap.size NT #[.bool nw.leaf, .slice c.a1 nw.ks.length c.c1, .slice c.a2 nw.vs.length c.c2, .slice c.a3 nw.ls.length c.c3] :: _) := h.alloc _
  obtain ⟨gn, hgn⟩ : ∃ g, g = w11.heap.size := ⟨_, rfl⟩
  rw [← hgn] at h1
  clear h
  have h : Own E _ (Hp.node (c.val nw) nw :: Hp.ro T :: Hp.bk bb B2 :: Hp.blk gn NT #[.bool nw.leaf, .slice c.a1 nw.ks.length c.c1, .slice c.a2 nw.vs.length c.c2, .slice c.a3 nw.ls.length c.c3] :: Hp.blk gu NT #[.bool x.leaf, .slice (some ⟨gk1, 0, none⟩) x.ks.length (x.ks.length + 4), .slice (some ⟨gv1, 0, none⟩) x.vs.length (x.vs.length + 4), .slice (some ⟨gl1, 0, none⟩) x.ls.length (x.ls.length + 4)] :: Hp.blk g NT #[.bool x.leaf, .slice vx.a1 x.ks.length vx.c1, .slice vx.a2 x.vs.length vx.c2, .slice vx.a3 x.ls.length vx.c3] :: Hp.blk (g + 1) PT #[VI p.kind, VI p.number, VI p.birth, .slice PA p.links.length pc, .string p.body] :: Hp.blk (g + 2) NT #[.bool o.leaf, .slice vo.a1 o.ks.length vo.c1, .slice vo.a2 o.vs.length vo.c2, .slice vo.a3 o.ls.length vo.c3] :: L) := h1.ac (by simp only [Hp.all] <;> ac_rfl)
  clear h1
  obtain ⟨ac, hac, dac, h⟩ := h.lend
  obtain ⟨c', hc', inc⟩ := node_in hac
  obtain rfl := Nv.val_inj hc'
  have inc := inc.sub (T := Ph.join ac T) Ph.join_l
  have inu := HIN.out.sub (Ph.join_r dac)
  have HE3 := Lib.hid (HE2.out.trans (Ext.of dac))
  clear hac dac hc' HIN HE2
  generalize Ph.join ac T = T2 at *
  have kp : ∀ B k w M, k ≤ 900 → BkOk B k → Own E w (Hp.ro T2 :: Hp.bk bb B :: M) → Calls Tryz.prog 10 #[.pointer (some ⟨bb, 0, none⟩), (lentV gk1 gv1 gl1 x).val x, c.val nw] w fun e w' => e = .returned (.bool true) ∧ ∃ B', BkOk B' (k + 1) ∧ Own E w' (Hp.ro T2 :: Hp.bk bb B' :: M) := fun B k w M hk hB hw => by
    rw [← HEVL.out]
    exact booklaid_any (E := E) (S := T2) (L := M) bb B k nw (lentV gk1 gv1 gl1 nw) c w hk hB (by have := HSB.out; omega) inu inc hw
  have KP := Lib.hid kp
  clear kp inc inu HEVL HSB
  obtain ⟨p0, p1, p2, p3⟩ := node_cells (g := gu) (x0 := .bool x.leaf) (by first | exact ⟨_, h⟩ | exact ⟨_, h.f1⟩ | exact ⟨_, h.f2⟩ | exact ⟨_, h.f3⟩ | exact ⟨_, h.f4⟩ | exact ⟨_, h.f5⟩ | exact ⟨_, h.f6⟩ | exact ⟨_, h.f7⟩ | exact ⟨_, h.f8⟩ | exact ⟨_, h.f9⟩ | exact ⟨_, h.f10⟩ | exact ⟨_, h.f11⟩ | exact ⟨_, h.f12⟩ | exact ⟨_, h.f13⟩ | exact ⟨_, h.f14⟩ | exact ⟨_, h.f15⟩)
  obtain ⟨r0, r1, r2, r3⟩ := node_cells (g := gn) (x0 := .bool nw.leaf) (by first | exact ⟨_, h⟩ | exact ⟨_, h.f1⟩ | exact ⟨_, h.f2⟩ | exact ⟨_, h.f3⟩ | exact ⟨_, h.f4⟩ | exact ⟨_, h.f5⟩ | exact ⟨_, h.f6⟩ | exact ⟨_, h.f7⟩ | exact ⟨_, h.f8⟩ | exact ⟨_, h.f9⟩ | exact ⟨_, h.f10⟩ | exact ⟨_, h.f11⟩ | exact ⟨_, h.f12⟩ | exact ⟨_, h.f13⟩ | exact ⟨_, h.f14⟩ | exact ⟨_, h.f15⟩)
  have H := Lib.hid h
  clear h
  go_wp2_with fail
  rw [← hgn]
  clear hgn
  clear p0 p1 p2 p3 r0 r1 r2 r3
  with_reducible refine (KP.out B2 (0 + 1 + 1) _ _ (by omega) HB2.out H.out).mono ?_
  clear H HB2 KP
  rintro e w12 ⟨rfl, B3, b3, h⟩
  have h : Own E _ (Hp.ro S :: Hp.bk bb B3 :: Hp.blk (g + 1) PT #[VI p.kind, VI p.number, VI p.birth, .slice PA p.links.length pc, .string p.body] :: L) := ((show Own E _ (Hp.blk gn NT #[.bool nw.leaf, .slice c.a1 nw.ks.length c.c1, .slice c.a2 nw.vs.length c.c2, .slice c.a3 nw.ls.length c.c3] :: Hp.blk gu NT #[.bool x.leaf, .slice (some ⟨gk1, 0, none⟩) x.ks.length (x.ks.length + 4), .slice (some ⟨gv1, 0, none⟩) x.vs.length (x.vs.length + 4), .slice (some ⟨gl1, 0, none⟩) x.ls.length (x.ls.length + 4)] :: Hp.blk g NT #[.bool x.leaf, .slice vx.a1 x.ks.length vx.c1, .slice vx.a2 x.vs.length vx.c2, .slice vx.a3 x.ls.length vx.c3] :: Hp.blk (g + 2) NT #[.bool o.leaf, .slice vo.a1 o.ks.length vo.c1, .slice vo.a2 o.vs.length vo.c2, .slice vo.a3 o.ls.length vo.c3] :: Hp.ro T2 :: Hp.bk bb B3 :: Hp.blk (g + 1) PT #[VI p.kind, VI p.number, VI p.birth, .slice PA p.links.length pc, .string p.body] :: L) from h.ac (by simp only [Hp.all] <;> ac_rfl)).drop.drop.drop.drop).back HE3.out
  clear HE3
  have HB3 := Lib.hid b3
  have hip := HV.out.2
  have kli := fun w M hw => lent_ints (E := E) (S := S) (L := M) PA p.links.length pc p.links w (by have := HSZ.out; omega) hip hw
  have KLI := Lib.hid kli
  obtain ⟨p0, p1, p2, p3, p4⟩ := page_cells (g := g + 1) (x0 := VI p.kind) (by first | exact ⟨_, h⟩ | exact ⟨_, h.f1⟩ | exact ⟨_, h.f2⟩ | exact ⟨_, h.f3⟩ | exact ⟨_, h.f4⟩ | exact ⟨_, h.f5⟩ | exact ⟨_, h.f6⟩ | exact ⟨_, h.f7⟩ | exact ⟨_, h.f8⟩ | exact ⟨_, h.f9⟩ | exact ⟨_, h.f10⟩ | exact ⟨_, h.f11⟩ | exact ⟨_, h.f12⟩ | exact ⟨_, h.f13⟩ | exact ⟨_, h.f14⟩ | exact ⟨_, h.f15⟩)
  have H := Lib.hid h
  clear b3 kli hip
  repeat clear h
  go_wp2_with fail
  clear p0 p1 p2 p3 p4
  with_reducible refine (KLI.out _ _ H.out).mono ?_
  clear H KLI
  rintro e w13 ⟨gq, rfl, h⟩
  have hpp : ∃ L', Own E w13 (Hp.blk (g + 1) PT #[VI p.kind, VI p.number, VI p.birth, .slice PA p.links.length pc, .string p.body] :: L') := (by first | exact ⟨_, h⟩ | exact ⟨_, h.f1⟩ | exact ⟨_, h.f2⟩ | exact ⟨_, h.f3⟩ | exact ⟨_, h.f4⟩ | exact ⟨_, h.f5⟩ | exact ⟨_, h.f6⟩ | exact ⟨_, h.f7⟩ | exact ⟨_, h.f8⟩ | exact ⟨_, h.f9⟩ | exact ⟨_, h.f10⟩ | exact ⟨_, h.f11⟩ | exact ⟨_, h.f12⟩ | exact ⟨_, h.f13⟩ | exact ⟨_, h.f14⟩ | exact ⟨_, h.f15⟩)
  have h1 := h.alloc (.cells #[VI p.kind, VI p.number, VI p.birth, .slice PA p.links.length pc, .string p.body] PT)
  obtain ⟨gp, hgp⟩ : ∃ x, x = w13.heap.size := ⟨_, rfl⟩
  rw [← hgp] at h1
  have h : Own E _ (Hp.blk gp PT #[VI p.kind, VI p.number, VI p.birth, .slice PA p.links.length pc, .string p.body] :: Hp.blk gq IT (lentI p.links).toArray :: Hp.ro S :: Hp.bk bb B3 :: Hp.blk (g + 1) PT #[VI p.kind, VI p.number, VI p.birth, .slice PA p.links.length pc, .string p.body] :: L) := h1
  obtain ⟨p0, p1, p2, p3, p4⟩ : w13.cell? ⟨g + 1, 0, none⟩ = some (VI p.kind) ∧ w13.cell? ⟨g + 1, 1, none⟩ = some (VI p.number) ∧ w13.cell? ⟨g + 1, 2, none⟩ = some (VI p.birth) ∧ w13.cell? ⟨g + 1, 3, none⟩ = some (.slice PA p.links.length pc) ∧ w13.cell? ⟨g + 1, 4, none⟩ = some (.string p.body) := page_cells (by assumption)
  have H := Lib.hid h
  clear h1
  repeat clear h
  go_upto_region 14 with fail
  rw [← hgp]
  clear hgp p0 p1 p2 p3 p4
  have h := H.out
  generalize World.alloc _ _ = wa at h ⊢
  clear H
  have hpl : p.links.length ≤ 2147483647 := by have := HSZ.out; omega
  obtain ⟨nl, hnl⟩ : ∃ nl, nl = p.links.length := ⟨_, rfl⟩
  have k1 : (0 : Int) ≤ (nl : Int) := by omega
  have k2 : (nl : Int) ≤ ((nl + 4 : Nat) : Int) := by omega
  have k4 : (nl : Int) ≤ (nl : Int) + 4 := by omega
  have k3 : ¬ nl + 4 = 0 := by omega
  have c3 := h.cell 3
  have c4 := h.frozen 3
  obtain ⟨_, u0, _, u3, _⟩ : wa.cell? ⟨g + 1, 0, none⟩ = some (VI p.kind) ∧ wa.cell? ⟨g + 1, 1, none⟩ = some (VI p.number) ∧ wa.cell? ⟨g + 1, 2, none⟩ = some (VI p.birth) ∧ wa.cell? ⟨g + 1, 3, none⟩ = some (.slice PA p.links.length pc) ∧ wa.cell? ⟨g + 1, 4, none⟩ = some (.string p.body) := page_cells (by first | exact ⟨_, h⟩ | exact ⟨_, h.f1⟩ | exact ⟨_, h.f2⟩ | exact ⟨_, h.f3⟩ | exact ⟨_, h.f4⟩ | exact ⟨_, h.f5⟩ | exact ⟨_, h.f6⟩ | exact ⟨_, h.f7⟩ | exact ⟨_, h.f8⟩ | exact ⟨_, h.f9⟩ | exact ⟨_, h.f10⟩ | exact ⟨_, h.f11⟩ | exact ⟨_, h.f12⟩ | exact ⟨_, h.f13⟩ | exact ⟨_, h.f14⟩ | exact ⟨_, h.f15⟩)
  have h : Own E _ (Hp.blk gp PT #[VI p.kind, VI p.number, VI p.birth, .slice (some ⟨gq, 0, none⟩) p.links.length (p.links.length + 4), .string p.body] :: Hp.blk gq IT (lentI p.links).toArray :: Hp.ro S :: Hp.bk bb B3 :: Hp.blk (g + 1) PT #[VI p.kind, VI p.number, VI p.birth, .slice PA p.links.length pc, .string p.body] :: L) := h.set 3 (.slice (some ⟨gq, 0, none⟩) p.links.length (p.links.length + 4))
  have h : Own E _ (Hp.blk gq IT (lentI p.links).toArray :: Hp.ro S :: Hp.bk bb B3 :: Hp.blk gp PT #[VI p.kind, VI p.number, VI p.birth, .slice (some ⟨gq, 0, none⟩) p.links.length (p.links.length + 4), .string p.body] :: Hp.blk (g + 1) PT #[VI p.kind, VI p.number, VI p.birth, .slice PA p.links.length pc, .string p.body] :: L) := h.ac (by simp only [Hp.all] <;> ac_rfl)
  obtain ⟨aq, haq, daq, h⟩ := h.lend
  have hrq : Rds (Ph.join aq S) 1 en64 (some ⟨gq, 0, none⟩) p.links.length p.links := by
    have e : aq = _ := haq
    rw [e]
    exact (one_rds (f := VI) gq IT p.links _).sub Ph.join_l
  have hip := HV.out.2.sub (Ph.join_r daq)
  have HEX := Lib.hid (Ext.of daq)
  have hG3 : Laid0 E (Hp.ro (Ph.join aq S) :: Hp.blk gp PT #[VI p.kind, VI p.number, VI p.birth, .slice (some ⟨gq, 0, none⟩) p.links.length (p.links.length + 4), .string p.body] :: Hp.blk (g + 1) PT #[VI p.kind, VI p.number, VI p.birth, .slice PA p.links.length pc, .string p.body] :: L) := fun w hw => HG.out w ((hw.back HEX.out).f1.drop.f1.drop)
  have kr := fun B k w hk hB hw => bookread_any (E := E) (S := Ph.join aq S) (L := Hp.blk gp PT #[VI p.kind, VI p.number, VI p.birth, .slice (some ⟨gq, 0, none⟩) p.links.length (p.links.length + 4), .string p.body] :: Hp.blk (g + 1) PT #[VI p.kind, VI p.number, VI p.birth, .slice PA p.links.length pc, .string p.body] :: L) bb B k p (some ⟨gq, 0, none⟩) PA (p.links.length + 4) pc w hG3 hk hB (by omega) (by have := HSZ.out; omega) hrq hip hw
  have kps := fun w M hw => pages_same (E := E) (S := Ph.join aq S) (L := M) (some ⟨gq, 0, none⟩) PA (p.links.length + 4) pc p w (by omega) hrq hip hw
  have KR := Lib.hid kr
  have KPS := Lib.hid kps
  have HAQ := Lib.hid (And.intro haq daq)
  obtain ⟨p0, p1, p2, p3, p4⟩ := page_cells (g := gp) (x0 := VI p.kind) (by first | exact ⟨_, h⟩ | exact ⟨_, h.f1⟩ | exact ⟨_, h.f2⟩ | exact ⟨_, h.f3⟩ | exact ⟨_, h.f4⟩ | exact ⟨_, h.f5⟩ | exact ⟨_, h.f6⟩ | exact ⟨_, h.f7⟩ | exact ⟨_, h.f8⟩ | exact ⟨_, h.f9⟩ | exact ⟨_, h.f10⟩ | exact ⟨_, h.f11⟩ | exact ⟨_, h.f12⟩ | exact ⟨_, h.f13⟩ | exact ⟨_, h.f14⟩ | exact ⟨_, h.f15⟩)
  obtain ⟨s0, s1, s2, s3, s4⟩ := page_cells (g := g + 1) (x0 := VI p.kind) (by first | exact ⟨_, h⟩ | exact ⟨_, h.f1⟩ | exact ⟨_, h.f2⟩ | exact ⟨_, h.f3⟩ | exact ⟨_, h.f4⟩ | exact ⟨_, h.f5⟩ | exact ⟨_, h.f6⟩ | exact ⟨_, h.f7⟩ | exact ⟨_, h.f8⟩ | exact ⟨_, h.f9⟩ | exact ⟨_, h.f10⟩ | exact ⟨_, h.f11⟩ | exact ⟨_, h.f12⟩ | exact ⟨_, h.f13⟩ | exact ⟨_, h.f14⟩ | exact ⟨_, h.f15⟩)
  have H := Lib.hid h
  clear hrq hip hG3 kr kps haq daq hpl
  repeat clear h
  go_wp2_with fail
  clear p0 p1 p2 p3 p4 s0 s1 s2 s3 s4 c3 c4 u0 u3
  with_reducible refine (KR.out B3 (0 + 1 + 1 + 1) _ (by omega) HB3.out H.out).mono ?_
  clear H
  rintro e w14 ⟨rfl, B4, b4, h⟩
  obtain ⟨p0, p1, p2, p3, p4⟩ := page_cells (g := gp) (x0 := VI p.kind) (by first | exact ⟨_, h⟩ | exact ⟨_, h.f1⟩ | exact ⟨_, h.f2⟩ | exact ⟨_, h.f3⟩ | exact ⟨_, h.f4⟩ | exact ⟨_, h.f5⟩ | exact ⟨_, h.f6⟩ | exact ⟨_, h.f7⟩ | exact ⟨_, h.f8⟩ | exact ⟨_, h.f9⟩ | exact ⟨_, h.f10⟩ | exact ⟨_, h.f11⟩ | exact ⟨_, h.f12⟩ | exact ⟨_, h.f13⟩ | exact ⟨_, h.f14⟩ | exact ⟨_, h.f15⟩)
  obtain ⟨s0, s1, s2, s3, s4⟩ := page_cells (g := g + 1) (x0 := VI p.kind) (by first | exact ⟨_, h⟩ | exact ⟨_, h.f1⟩ | exact ⟨_, h.f2⟩ | exact ⟨_, h.f3⟩ | exact ⟨_, h.f4⟩ | exact ⟨_, h.f5⟩ | exact ⟨_, h.f6⟩ | exact ⟨_, h.f7⟩ | exact ⟨_, h.f8⟩ | exact ⟨_, h.f9⟩ | exact ⟨_, h.f10⟩ | exact ⟨_, h.f11⟩ | exact ⟨_, h.f12⟩ | exact ⟨_, h.f13⟩ | exact ⟨_, h.f14⟩ | exact ⟨_, h.f15⟩)
  have H := Lib.hid h
  repeat clear h
  go_wp2_with fail
  clear p0 p1 p2 p3 p4 s0 s1 s2 s3 s4
  with_reducible refine (KR.out B4 (0 + 1 + 1 + 1 + 2) _ (by omega) b4 H.out).mono ?_
  clear H b4 KR
  rintro e w15 ⟨rfl, B5, b5, h⟩
  have HB5 := Lib.hid b5
  obtain ⟨p0, p1, p2, p3, p4⟩ := page_cells (g := gp) (x0 := VI p.kind) (by first | exact ⟨_, h⟩ | exact ⟨_, h.f1⟩ | exact ⟨_, h.f2⟩ | exact ⟨_, h.f3⟩ | exact ⟨_, h.f4⟩ | exact ⟨_, h.f5⟩ | exact ⟨_, h.f6⟩ | exact ⟨_, h.f7⟩ | exact ⟨_, h.f8⟩ | exact ⟨_, h.f9⟩ | exact ⟨_, h.f10⟩ | exact ⟨_, h.f11⟩ | exact ⟨_, h.f12⟩ | exact ⟨_, h.f13⟩ | exact ⟨_, h.f14⟩ | exact ⟨_, h.f15⟩)
  obtain ⟨s0, s1, s2, s3, s4⟩ := page_cells (g := g + 1) (x0 := VI p.kind) (by first | exact ⟨_, h⟩ | exact ⟨_, h.f1⟩ | exact ⟨_, h.f2⟩ | exact ⟨_, h.f3⟩ | exact ⟨_, h.f4⟩ | exact ⟨_, h.f5⟩ | exact ⟨_, h.f6⟩ | exact ⟨_, h.f7⟩ | exact ⟨_, h.f8⟩ | exact ⟨_, h.f9⟩ | exact ⟨_, h.f10⟩ | exact ⟨_, h.f11⟩ | exact ⟨_, h.f12⟩ | exact ⟨_, h.f13⟩ | exact ⟨_, h.f14⟩ | exact ⟨_, h.f15⟩)
  have H := Lib.hid h
  clear b5
  repeat clear h
  go_wp2_with fail
  clear p0 p1 p2 p3 p4 s0 s1 s2 s3 s4
  with_reducible refine (KPS.out _ _ H.out).mono ?_
  clear H KPS
  rintro e w16 ⟨rfl, h⟩
  have h := Own.give HAQ.out.1 HAQ.out.2 h
  clear HAQ HEX
  have h : Own E _ (Hp.blk gq IT (lentI p.links).toArray :: Hp.ro S :: Hp.bk bb B5 :: Hp.blk gp PT #[VI p.kind, VI p.number, VI p.birth, .slice (some ⟨gq, 0, none⟩) p.links.length (p.links.length + 4), .string p.body] :: Hp.blk (g + 1) PT #[VI p.kind, VI p.number, VI p.birth, .slice PA p.links.length pc, .string p.body] :: L) := h
  have HC : Hid (∀ w', (∃ L', Own E w' (Hp.blk gp PT #[VI p.kind, VI p.number, VI p.birth, .slice (some ⟨gq, 0, none⟩) p.links.length (p.links.length + 4), .string p.body] :: L')) → w'.cell? ⟨gp, 3, none⟩ = some (.slice (some ⟨gq, 0, none⟩) p.links.length (p.links.length + 4))) := Lib.hid fun w' hw => by
    obtain ⟨_, hw⟩ := hw
    exact hw.cell 3
  have k5 : (4 : Nat) ≠ 0 := by omega
  have H := Lib.hid h.drew
  repeat clear h
  go_wp2_with fail
  have h := H.out
  clear H
  refine wp_region_text [5] (fun w' => w'.cell? ⟨gp, 3, none⟩ = some (.slice (some ⟨gq, 0, none⟩) p.links.length (p.links.length + 4))) (by kernel_rfl) ?_ (fun hS => ?_)
  · exact HC.out _ (by first | exact ⟨_, h⟩ | exact ⟨_, h.f1⟩ | exact ⟨_, h.f2⟩ | exact ⟨_, h.f3⟩ | exact ⟨_, h.f4⟩ | exact ⟨_, h.f5⟩ | exact ⟨_, h.f6⟩ | exact ⟨_, h.f7⟩ | exact ⟨_, h.f8⟩ | exact ⟨_, h.f9⟩ | exact ⟨_, h.f10⟩ | exact ⟨_, h.f11⟩ | exact ⟨_, h.f12⟩ | exact ⟨_, h.f13⟩ | exact ⟨_, h.f14⟩ | exact ⟨_, h.f15⟩)
  refine wpAnyG_pure (i := 4) (oi := ⟨some 85, _, _, _, _, _⟩) (v := ?_) rfl (by kernel_rfl) (by kernel_rfl) (by kernel_rfl) (by rfl) (fun _ _ _ h => h) (by rfl) ?_ ?_
  rotate_left
  · intro w
    go_simp
    first | done | with_reducible rfl
  try simp only [Act.put, List.setIfInBounds_toArray, List.set_cons_zero, List.set_cons_succ]
  refine wpAnyG_load (i := 5) (oi := ⟨some 86, _, _, _, _, _⟩) (v := ?_) rfl (by kernel_rfl) (by kernel_rfl) (by kernel_rfl) (by rfl) (fun _ _ _ h => h) (by rfl) ?_ (by assumption) ?_
  rotate_left
  · intro w hS
    try dsimp only at hS
    go_simp
    first | done | with_reducible rfl
  try simp only [Act.put, List.setIfInBounds_toArray, List.set_cons_zero, List.set_cons_succ]
  refine wpAnyG_keep (i := 0) (oi := ⟨some 81, _, _, _, _, _⟩) (by kernel_rfl) rfl (fun K hK => ?_)
  rw [if_pos (by rfl)]
  go_simp
  first | have h := (h : Own _ _ (Hp.ro S :: _)) | have h := (h.f1 : Own _ _ (Hp.ro S :: _)) | have h := (h.f2 : Own _ _ (Hp.ro S :: _)) | have h := (h.f3 : Own _ _ (Hp.ro S :: _)) | have h := (h.f4 : Own _ _ (Hp.ro S :: _)) | have h := (h.f5 : Own _ _ (Hp.ro S :: _)) | have h := (h.f6 : Own _ _ (Hp.ro S :: _)) | have h := (h.f7 : Own _ _ (Hp.ro S :: _)) | have h := (h.f8 : Own _ _ (Hp.ro S :: _)) | have h := (h.f9 : Own _ _ (Hp.ro S :: _)) | have h := (h.f10 : Own _ _ (Hp.ro S :: _)) | have h := (h.f11 : Own _ _ (Hp.ro S :: _)) | have h := (h.f12 : Own _ _ (Hp.ro S :: _)) | have h := (h.f13 : Own _ _ (Hp.ro S :: _)) | have h := (h.f14 : Own _ _ (Hp.ro S :: _)) | have h := (h.f15 : Own _ _ (Hp.ro S :: _))
  refine (lent_texts none 0 0 [] _ (by omega) ⟨rfl, fun _ => rfl, fun _ hk => by cases hk⟩ h).mono ?_
  rintro e w17 ⟨ga, rfl, h⟩
  refine hK.out _ _ ?_ (fun hS => ?_)
  · exact HC.out _ (by first | exact ⟨_, h⟩ | exact ⟨_, h.f1⟩ | exact ⟨_, h.f2⟩ | exact ⟨_, h.f3⟩ | exact ⟨_, h.f4⟩ | exact ⟨_, h.f5⟩ | exact ⟨_, h.f6⟩ | exact ⟨_, h.f7⟩ | exact ⟨_, h.f8⟩ | exact ⟨_, h.f9⟩ | exact ⟨_, h.f10⟩ | exact ⟨_, h.f11⟩ | exact ⟨_, h.f12⟩ | exact ⟨_, h.f13⟩ | exact ⟨_, h.f14⟩ | exact ⟨_, h.f15⟩)
  clear hK K
  try simp only [Act.put, List.setIfInBounds_toArray, List.set_cons_zero, List.set_cons_succ]
  refine wpAnyG_pure (i := 1) (oi := ⟨some 82, _, _, _, _, _⟩) (v := ?_) rfl (by kernel_rfl) (by kernel_rfl) (by kernel_rfl) (by rfl) (fun _ _ _ h => h) (by rfl) ?_ ?_
  rotate_left
  · intro w
    go_simp
    first | done | with_reducible rfl
  try simp only [Act.put, List.setIfInBounds_toArray, List.set_cons_zero, List.set_cons_succ]
  refine wpAnyG_keep (i := 2) (oi := ⟨some 83, _, _, _, _, _⟩) (by kernel_rfl) rfl (fun K hK => ?_)
  rw [if_pos (by rfl)]
  go_simp
  first | have h := (h : Own _ _ (Hp.ro S :: _)) | have h := (h.f1 : Own _ _ (Hp.ro S :: _)) | have h := (h.f2 : Own _ _ (Hp.ro S :: _)) | have h := (h.f3 : Own _ _ (Hp.ro S :: _)) | have h := (h.f4 : Own _ _ (Hp.ro S :: _)) | have h := (h.f5 : Own _ _ (Hp.ro S :: _)) | have h := (h.f6 : Own _ _ (Hp.ro S :: _)) | have h := (h.f7 : Own _ _ (Hp.ro S :: _)) | have h := (h.f8 : Own _ _ (Hp.ro S :: _)) | have h := (h.f9 : Own _ _ (Hp.ro S :: _)) | have h := (h.f10 : Own _ _ (Hp.ro S :: _)) | have h := (h.f11 : Own _ _ (Hp.ro S :: _)) | have h := (h.f12 : Own _ _ (Hp.ro S :: _)) | have h := (h.f13 : Own _ _ (Hp.ro S :: _)) | have h := (h.f14 : Own _ _ (Hp.ro S :: _)) | have h := (h.f15 : Own _ _ (Hp.ro S :: _))
  refine (lent_texts none 0 0 [] _ (by omega) ⟨rfl, fun _ => rfl, fun _ hk => by cases hk⟩ h).mono ?_
  rintro e w18 ⟨gb, rfl, h⟩
  refine hK.out _ _ ?_ (fun hS => ?_)
  · exact HC.out _ (by first | exact ⟨_, h⟩ | exact ⟨_, h.f1⟩ | exact ⟨_, h.f2⟩ | exact ⟨_, h.f3⟩ | exact ⟨_, h.f4⟩ | exact ⟨_, h.f5⟩ | exact ⟨_, h.f6⟩ | exact ⟨_, h.f7⟩ | exact ⟨_, h.f8⟩ | exact ⟨_, h.f9⟩ | exact ⟨_, h.f10⟩ | exact ⟨_, h.f11⟩ | exact ⟨_, h.f12⟩ | exact ⟨_, h.f13⟩ | exact ⟨_, h.f14⟩ | exact ⟨_, h.f15⟩)
  clear hK K
  try simp only [Act.put, List.setIfInBounds_toArray, List.set_cons_zero, List.set_cons_succ]
  refine wpAnyG_pure (i := 3) (oi := ⟨some 84, _, _, _, _, _⟩) (v := ?_) rfl (by kernel_rfl) (by kernel_rfl) (by kernel_rfl) (by rfl) (fun _ _ _ h => h) (by rfl) ?_ ?_
  rotate_left
  · intro w
    go_simp
    first | done | with_reducible rfl
  try simp only [Act.put, List.setIfInBounds_toArray, List.set_cons_zero, List.set_cons_succ]
  refine wpAnyG_keep (i := 6) (oi := ⟨some 87, _, _, _, _, _⟩) (by kernel_rfl) rfl (fun K hK => ?_)
  rw [if_pos (by rfl)]
  go_simp
  have h3 : Own E _ (Hp.blk ga ST (lentS []).toArray :: Hp.blk gb ST (lentS []).toArray :: Hp.blk gq IT (lentI p.links).toArray :: Hp.ro S :: Hp.bk bb B5 :: Hp.blk gp PT #[VI p.kind, VI p.number, VI p.birth, .slice (some ⟨gq, 0, none⟩) p.links.length (p.links.length + 4), .string p.body] :: Hp.blk (g + 1) PT #[VI p.kind, VI p.number, VI p.birth, .slice PA p.links.length pc, .string p.body] :: L) := h.ac (by simp only [Hp.all] <;> ac_rfl)
  have h4 : Own E _ (Hp.three ga gb gq ⟨false, [], [], p.links⟩ :: Hp.ro S :: Hp.bk bb B5 :: Hp.blk gp PT #[VI p.kind, VI p.number, VI p.birth, .slice (some ⟨gq, 0, none⟩) p.links.length (p.links.length + 4), .string p.body] :: Hp.blk (g + 1) PT #[VI p.kind, VI p.number, VI p.birth, .slice PA p.links.length pc, .string p.body] :: L) := Own.star.2 h3
  obtain ⟨a3, ha3, da3, -, sp3, h5⟩ := lend_three (by have := HSZ.out; show 0 + 0 + 0 + 0 + p.links.length ≤ _; omega) h4
  clear h3 h4 h
  refine (spare_any (E := E) (S := Ph.join a3 S) ga gb gq ⟨false, [], [], p.links⟩ _ (by have := HSZ.out; show 0 + 0 + 0 + 0 + p.links.length ≤ _; omega) sp3 h5).mono ?_
  rintro e w19 ⟨rfl, h6⟩
  have h7 := Own.star.1 (Own.give ha3 da3 h6)
  have h : Own E _ (Hp.blk gq IT (lentI p.links).toArray :: Hp.ro S :: Hp.bk bb B5 :: Hp.blk gp PT #[VI p.kind, VI p.number, VI p.birth, .slice (some ⟨gq, 0, none⟩) p.links.length (p.links.length + 4), .string p.body] :: Hp.blk (g + 1) PT #[VI p.kind, VI p.number, VI p.birth, .slice PA p.links.length pc, .string p.body] :: L) := (show Own E _ (Hp.blk ga ST (lentS []).toArray :: Hp.blk gb ST (lentS []).toArray :: Hp.blk gq IT (lentI p.links).toArray :: Hp.ro S :: Hp.bk bb B5 :: Hp.blk gp PT #[VI p.kind, VI p.number, VI p.birth, .slice (some ⟨gq, 0, none⟩) p.links.length (p.links.length + 4), .string p.body] :: Hp.blk (g + 1) PT #[VI p.kind, VI p.number, VI p.birth, .slice PA p.links.length pc, .string p.body] :: L) from h7).drop.drop
  refine hK.out _ _ ?_ (fun hS => ?_)
  · exact HC.out _ (by first | exact ⟨_, h⟩ | exact ⟨_, h.f1⟩ | exact ⟨_, h.f2⟩ | exact ⟨_, h.f3⟩ | exact ⟨_, h.f4⟩ | exact ⟨_, h.f5⟩ | exact ⟨_, h.f6⟩ | exact ⟨_, h.f7⟩ | exact ⟨_, h.f8⟩ | exact ⟨_, h.f9⟩ | exact ⟨_, h.f10⟩ | exact ⟨_, h.f11⟩ | exact ⟨_, h.f12⟩ | exact ⟨_, h.f13⟩ | exact ⟨_, h.f14⟩ | exact ⟨_, h.f15⟩)
  clear hK K
  try simp only [Act.put, List.setIfInBounds_toArray, List.set_cons_zero, List.set_cons_succ]
  refine wpAnyG_pure (i := 7) (oi := ⟨some 20, _, _, _, _, _⟩) (v := ?_) rfl (by kernel_rfl) (by kernel_rfl) (by kernel_rfl) (by rfl) (fun _ _ _ h => h) (by rfl) ?_ ?_
  rotate_left
  · intro w
    go_simp
    first | done | with_reducible rfl
  try simp only [Act.put, List.setIfInBounds_toArray, List.set_cons_zero, List.set_cons_succ]
  refine wpAnyG_done (by kernel_rfl) ?_ _
  refine NoPanic.normal ?_
  have hpl : p.links.length ≤ 2147483647 := by have := HSZ.out; omega
  have H : Hid (Own E _ (Hp.blk gq IT (lentI (wrt p.links 0)).toArray :: Hp.ro S :: Hp.bk bb B5 :: Hp.blk gp PT #[VI p.kind, VI p.number, VI p.birth, .slice (some ⟨gq, 0, none⟩) p.links.length (p.links.length + 4), .string p.body] :: Hp.blk (g + 1) PT #[VI p.kind, VI p.number, VI p.birth, .slice PA p.links.length pc, .string p.body] :: L)) := Lib.hid (by rw [wrt_zero]; exact h)
  repeat clear h
  clear HC k5
  go_wp2_with fail
  go_loopw [21] (fun i wr => ∃ k : Nat, k ≤ p.links.length ∧ i = .int .i64 k ∧ Own E wr (Hp.blk gq IT (lentI (wrt p.links k)).toArray :: Hp.ro S :: Hp.bk bb B5 :: Hp.blk gp PT #[VI p.kind, VI p.number, VI p.birth, .slice (some ⟨gq, 0, none⟩) p.links.length (p.links.length + 4), .string p.body] :: Hp.blk (g + 1) PT #[VI p.kind, VI p.number, VI p.birth, .slice PA p.links.length pc, .string p.body] :: L)) (fun i _ => p.links.length - (intOf i).toNat)
  case atStart => exact ⟨0, by omega, rfl, H.out⟩
  case round =>
    obtain ⟨k, hk, rfl, hw⟩ := hrel
    clear H
    have c3 : wr.cell? ⟨gp, 3, none⟩ = some (.slice (some ⟨gq, 0, none⟩) p.links.length (p.links.length + 4)) := hw.f3.cell 3
    by_cases hlt : k < p.links.length
    · have hlti : (k : Int) < p.links.length := by omega
      have hlen := wrt_len p.links k (by omega)
      obtain ⟨z, hz⟩ : ∃ z, (wrt p.links k)[k]? = some z := ⟨_, List.getElem?_eq_getElem (by omega)⟩
      have c1 : wr.cell? ⟨gq, k, none⟩ = some (VI z) := by
        rw [hw.cell k, List.getElem?_toArray, List.getElem?_append_left (by simp; omega), List.getElem?_map, hz]; rfl
      have c2 := hw.frozen k
      have hs := hw.set k (VI (2 + (k : Int)))
      rw [lentI_set _ _ _ (by omega), wrt_set _ _ hlt] at hs
      have j1 : IntKind.i64.wrap (2 + (k : Int)) = 2 + (k : Int) := IntWalk.i64_in _ (by omega)
      have H := Lib.hid hs
      clear hw hs hz hlen
      go_wp2_with fail
      go_roundw
      case rel => exact ⟨k + 1, by omega, by go_num, H.out⟩
      case measure => simp [intOf]; omega
    · obtain rfl : k = p.links.length := by omega
      have hlti : ¬ (p.links.length : Int) < p.links.length := by omega
      have hw : Own E wr (Hp.blk gq IT (lentI (cntN p.links.length)).toArray :: Hp.ro S :: Hp.bk bb B5 :: Hp.blk gp PT #[VI p.kind, VI p.number, VI p.birth, .slice (some ⟨gq, 0, none⟩) p.links.length (p.links.length + 4), .string p.body] :: Hp.blk (g + 1) PT #[VI p.kind, VI p.number, VI p.birth, .slice PA p.links.length pc, .string p.body] :: L) := by rw [← wrt_all]; exact hw
      obtain ⟨a4, ha4, da4, h⟩ := hw.lend
      have hr4 : Rds (Ph.join a4 S) 1 en64 (some ⟨gq, 0, none⟩) p.links.length (cntN p.links.length) := by
        have e : a4 = _ := ha4
        have h9 := (one_rds (f := VI) gq IT (cntN p.links.length) (List.replicate 4 (VI (-77)))).sub (T := Ph.join a4 S) (by rw [e]; exact Ph.join_l)
        rw [cntN_len] at h9
        exact h9
      have HX4 := Lib.hid (Ext.of da4)
      have hpp : ∃ L', Own E wr (Hp.blk (g + 1) PT #[VI p.kind, VI p.number, VI p.birth, .slice PA p.links.length pc, .string p.body] :: L') := (by first | exact ⟨_, h⟩ | exact ⟨_, h.f1⟩ | exact ⟨_, h.f2⟩ | exact ⟨_, h.f3⟩ | exact ⟨_, h.f4⟩ | exact ⟨_, h.f5⟩ | exact ⟨_, h.f6⟩ | exact ⟨_, h.f7⟩ | exact ⟨_, h.f8⟩ | exact ⟨_, h.f9⟩ | exact ⟨_, h.f10⟩ | exact ⟨_, h.f11⟩ | exact ⟨_, h.f12⟩ | exact ⟨_, h.f13⟩ | exact ⟨_, h.f14⟩ | exact ⟨_, h.f15⟩)
      obtain ⟨p0, p1, p2, p3, p4⟩ := page_cells hpp
      have h1 := h.alloc (.cells #[VI p.kind, VI p.number, VI p.birth, .slice PA p.links.length pc, .string p.body] PT)
      obtain ⟨gz, hgz⟩ : ∃ x, x = wr.heap.size := ⟨_, rfl⟩
      rw [← hgz] at h1
      have H := Lib.hid (show Own E _ (Hp.blk gz PT #[VI p.kind, VI p.number, VI p.birth, .slice PA p.links.length pc, .string p.body] :: Hp.ro (Ph.join a4 S) :: Hp.bk bb B5 :: Hp.blk gp PT #[VI p.kind, VI p.number, VI p.birth, .slice (some ⟨gq, 0, none⟩) p.links.length (p.links.length + 4), .string p.body] :: Hp.blk (g + 1) PT #[VI p.kind, VI p.number, VI p.birth, .slice PA p.links.length pc, .string p.body] :: L) from h1)
      clear hpp h h1 hw ha4 da4 hlt hk
      go_upto_region 25 with fail
      rw [← hgz]
      clear hgz p0 p1 p2 p3 p4 c3
      have h := H.out
      generalize World.alloc _ _ = wb at h ⊢
      clear H
      generalize Ph.join a4 S = T4 at *
      have c3 : wb.cell? ⟨gp, 3, none⟩ = some (.slice (some ⟨gq, 0, none⟩) p.links.length (p.links.length + 4)) := h.f3.cell 3
      have hrd := hr4.rdC h.f1
      obtain ⟨v8, wi, hap, h⟩ := lst_append (P := Tryz.prog) (t := LIT) (ty := LIT) lit_u it_info (by rfl) (h.emptyLst IT none) (some ⟨gq, 0, none⟩) p.links.length (p.links.length + 4) ((cntN p.links.length).map VI) (by rw [List.length_map, cntN_len]) hrd (VI_one _) (by unfold maxLen; simp; omega) (by simp; omega)
      rw [List.nil_append] at h
      obtain ⟨A8, c8, rfl, -⟩ := h.lstSlice
      rw [List.length_map, cntN_len] at h hap
      have x3 := h.f1.cell 3
      have y3 := h.f1.frozen 3
      have h : Own E _ (Hp.blk gz PT #[VI p.kind, VI p.number, VI p.birth, .slice A8 p.links.length c8, .string p.body] :: Hp.ints (.slice A8 p.links.length c8) (cntN p.links.length) :: Hp.ro T4 :: Hp.bk bb B5 :: Hp.blk gp PT #[VI p.kind, VI p.number, VI p.birth, .slice (some ⟨gq, 0, none⟩) p.links.length (p.links.length + 4), .string p.body] :: Hp.blk (g + 1) PT #[VI p.kind, VI p.number, VI p.birth, .slice PA p.links.length pc, .string p.body] :: L) := h.f1.set 3 (.slice A8 p.links.length c8)
      have h : Own E _ (Hp.ints (.slice A8 p.links.length c8) (cntN p.links.length) :: Hp.ro T4 :: Hp.bk bb B5 :: Hp.blk gz PT #[VI p.kind, VI p.number, VI p.birth, .slice A8 p.links.length c8, .string p.body] :: Hp.blk gp PT #[VI p.kind, VI p.number, VI p.birth, .slice (some ⟨gq, 0, none⟩) p.links.length (p.links.length + 4), .string p.body] :: Hp.blk (g + 1) PT #[VI p.kind, VI p.number, VI p.birth, .slice PA p.links.length pc, .string p.body] :: L) := h.ac (by simp only [Hp.all] <;> ac_rfl)
      obtain ⟨a5, ha5, da5, h⟩ := h.lend
      obtain ⟨hr5, -, -, -⟩ := lst_rds ha5
      have hr5 := hr5.sub (T := Ph.join a5 T4) Ph.join_l
      have hr4 := hr4.sub (Ph.join_r da5)
      have HX5 := Lib.hid (HX4.out.trans (Ext.of da5))
      have e1 : ∀ A c, (⟨p.kind, p.number, p.birth, cntN p.links.length, p.body⟩ : Pg).val A c = .agg #[VI p.kind, VI p.number, VI p.birth, .slice A p.links.length c, .string p.body] := fun A c => by
        show Value.agg #[VI p.kind, VI p.number, VI p.birth, .slice A (cntN p.links.length).length c, .string p.body] = _
        rw [cntN_len]
      have hG5 : Laid0 E (Hp.ro (Ph.join a5 T4) :: Hp.blk gz PT #[VI p.kind, VI p.number, VI p.birth, .slice A8 p.links.length c8, .string p.body] :: Hp.blk gp PT #[VI p.kind, VI p.number, VI p.birth, .slice (some ⟨gq, 0, none⟩) p.links.length (p.links.length + 4), .string p.body] :: Hp.blk (g + 1) PT #[VI p.kind, VI p.number, VI p.birth, .slice PA p.links.length pc, .string p.body] :: L) := fun w hw => HG.out w ((hw.back HX5.out).f1.drop.f1.drop.f1.drop)
      have kr := fun w hw => bookread_any (E := E) (S := Ph.join a5 T4) (L := Hp.blk gz PT #[VI p.kind, VI p.number, VI p.birth, .slice A8 p.links.length c8, .string p.body] :: Hp.blk gp PT #[VI p.kind, VI p.number, VI p.birth, .slice (some ⟨gq, 0, none⟩) p.links.length (p.links.length + 4), .string p.body] :: Hp.blk (g + 1) PT #[VI p.kind, VI p.number, VI p.birth, .slice PA p.links.length pc, .string p.body] :: L) bb B5 (0 + 1 + 1 + 1 + 2 + 2) ⟨p.kind, p.number, p.birth, cntN p.links.length, p.body⟩ (some ⟨gq, 0, none⟩) A8 (p.links.length + 4) c8 w hG5 (by omega) HB5.out (by show (cntN p.links.length).length ≤ _; rw [cntN_len]; omega) (by have := HSZ.out; show p.body.size ≤ _; omega) (by show Rds _ 1 en64 _ (cntN p.links.length).length _; rw [cntN_len]; exact hr4) (by show Rds _ 1 en64 _ (cntN p.links.length).length _; rw [cntN_len]; exact hr5) hw
      rw [e1, e1] at kr
      have KR := Lib.hid kr
      generalize Ph.join a5 T4 = T5 at *
      obtain ⟨p0, p1, p2, p3, p4⟩ := page_cells (g := gp) (x0 := VI p.kind) (by first | exact ⟨_, h⟩ | exact ⟨_, h.f1⟩ | exact ⟨_, h.f2⟩ | exact ⟨_, h.f3⟩ | exact ⟨_, h.f4⟩ | exact ⟨_, h.f5⟩ | exact ⟨_, h.f6⟩ | exact ⟨_, h.f7⟩ | exact ⟨_, h.f8⟩ | exact ⟨_, h.f9⟩ | exact ⟨_, h.f10⟩ | exact ⟨_, h.f11⟩ | exact ⟨_, h.f12⟩ | exact ⟨_, h.f13⟩ | exact ⟨_, h.f14⟩ | exact ⟨_, h.f15⟩)
      obtain ⟨s0, s1, s2, s3, s4⟩ := page_cells (g := gz) (x0 := VI p.kind) (by first | exact ⟨_, h⟩ | exact ⟨_, h.f1⟩ | exact ⟨_, h.f2⟩ | exact ⟨_, h.f3⟩ | exact ⟨_, h.f4⟩ | exact ⟨_, h.f5⟩ | exact ⟨_, h.f6⟩ | exact ⟨_, h.f7⟩ | exact ⟨_, h.f8⟩ | exact ⟨_, h.f9⟩ | exact ⟨_, h.f10⟩ | exact ⟨_, h.f11⟩ | exact ⟨_, h.f12⟩ | exact ⟨_, h.f13⟩ | exact ⟨_, h.f14⟩ | exact ⟨_, h.f15⟩)
      have H := Lib.hid h
      clear hr4 hr5 hG5 kr ha5 da5 e1 hrd
      repeat clear h
      go_wp2_with (with_reducible refine at_slot (k := some 105) ?_; refine wpList_append_run (o := ⟨some 105, _, _, _, _, _⟩) hap rfl rfl rfl rfl ?_; clear hap)
      clear p0 p1 p2 p3 p4 s0 s1 s2 s3 s4 c3 x3 y3
      with_reducible refine (KR.out _ H.out).mono ?_
      clear H KR
      rintro e w20 ⟨rfl, B6, b6, h⟩
      have ka := fun w M hw => bkapart_any (E := E) (S := T5) (L := M) bb B6 w (Nat.le_trans b6.t (by omega)) (Nat.le_trans b6.n (by omega)) b6.xt b6.xn hw
      have KA := Lib.hid ka
      have H := Lib.hid h
      clear ka b6
      repeat clear h
      go_wp2_with fail
      with_reducible refine (KA.out _ _ H.out).mono ?_
      rintro e w21 ⟨rfl, h⟩
      clear H KA
      go_wp2_with fail
      go_ret
      have h := h.f1.drop
      have h := h.f1.drop
      have h := h.f1.drop
      exact ⟨rfl, h.back HX5.out⟩
end
end Go.Proofs.YtbclmmneiphcaaaGreatDoor
