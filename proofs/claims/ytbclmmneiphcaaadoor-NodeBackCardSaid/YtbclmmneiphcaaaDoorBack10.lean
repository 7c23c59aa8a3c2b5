/- latchkeylaw10.NodeBack. -/
import Derived.Test.YtbclmmneiphcaaaDoorMade4
import Derived.Test.YtbclmmneiphcaaaDoorBackLaw
namespace Go.Proofs.YtbclmmneiphcaaaDoor
open Go.RowKit
section
variable {E : World} {S : Ph} {L : List Hp}
theorem Laid0.grow {T : Ph} (h : Laid0 E (Hp.ro S :: L)) (hs : ∀ k o, S k = some o → T k = some o) : Laid0 E (Hp.ro T :: L) := fun w hw => h w (hw.shrink hs)
theorem Laid0.skip {A B : Hp} (h : Laid0 E (A :: L)) : Laid0 E (A :: B :: L) := fun w hw => h w hw.f1.drop
theorem pageweigh_any (A : Option Addr) (c : Nat) (p : Pg) (w : World) (h1 : p.links.length ≤ 1000000000000000000) (h2 : p.body.size ≤ 1000000000000000000) (h : Own E w L) :
    Calls Tryd.prog 22 #[p.val A c] w fun e w' => (∃ z : Nat, z ≤ 4294967294 ∧ (z ≤ 2147483647 → z = p.links.length + p.body.size) ∧ e = .returned (.int .i64 z)) ∧ Own E w' L := by
  have H := Lib.hid (h.alloc (.cells #[VI p.kind, VI p.number, VI p.birth, .slice A p.links.length c, .string p.body] PT)).drop
  have k1 := fun w => addsup_any p.links.length p.body.size w h1 h2
  clear h
  go_enter Tryd.func22, Tryd.ntmps22
  go_wp2_with fail
  refine (k1 _).mono ?_
  rintro e w1 ⟨rfl, z, hz, hz2, rfl⟩
  have HZ := Lib.hid hz2
  clear hz2
  go_wp2_with fail
  go_ret
  exact ⟨⟨z, hz, HZ.out, rfl⟩, H.out⟩
/-- A page that came out is lent. -/
theorem Own.lendPage {w : World} {v : Value} {p : Pg} (h : Own E w (Hp.page v p :: Hp.ro S :: L)) : ∃ (T : Ph) (A : Option Addr) (c : Nat), (∀ k o, S k = some o → T k = some o) ∧ v = p.val A c ∧ Rds T 1 en64 A p.links.length p.links ∧ Own E w (Hp.ro T :: L) := by
  obtain ⟨a, rfl, h2⟩ := h.ofPage
  obtain ⟨A, c, rfl, -⟩ := h2.lstSlice
  rw [List.length_map] at h2 ⊢
  obtain ⟨x, hx, hd, h3⟩ := h2.lend
  exact ⟨_, A, c, Ph.join_r hd, rfl, (lst_rds hx).1.sub Ph.join_l, h3⟩
theorem bulk_right {n : Nd} (h : n.wrong = 0) : n.bulk ≤ 480 := by
  obtain ⟨h1, -, h3⟩ := Nd.wrong_zero h
  unfold Nd.formed at h1
  unfold Nd.size at h3
  unfold Nd.bulk
  cases hl : n.leaf with
  | true =>
    rw [hl, if_pos rfl] at h1 h3
    simp only [Bool.and_eq_true, decide_eq_true_eq] at h1
    omega
  | false =>
    rw [hl, if_neg (by decide)] at h1 h3
    simp only [Bool.and_eq_true, decide_eq_true_eq] at h1
    have : n.vs = [] := List.eq_nil_of_length_eq_zero h1.1.2.2
    rw [this, sumSz_nil, List.length_nil]
    omega
abbrev Pg.cs (A : Option Addr) (c : Nat) (p : Pg) : List Value := [VI p.kind, VI p.number, VI p.birth, .slice A p.links.length c, .string p.body]
set_option maxRecDepth 100000 in
set_option maxHeartbeats 8000000 in
theorem nodeback_any (leaf : Bool) (A : Option Addr) (n c : Nat) (xs : List Cel) (PA : Option Addr) (pc : Nat) (p : Pg) (w : World) (hn : n ≤ 1000000000000000000) (hsm : ∀ x ∈ xs, x.key.size ≤ 1000000000000000000 ∧ x.value.size ≤ 1000000000000000000)
    (hkd : ∀ x ∈ xs, -9223372036854775808 ≤ x.kid ∧ x.kid ≤ 9223372036854775807) (hr : Rds S 3 enCel A n xs) (hp1 : p.links.length ≤ 1000000000000000000) (hp2 : p.body.size ≤ 1000000000000000000) (hpr : Rds S 1 en64 PA p.links.length p.links)
    (hG : Laid0 E (Hp.ro S :: L)) (h : Own E w (Hp.ro S :: L)) :
    Calls Tryd.prog 5 #[.bool leaf, .slice A n c, p.val PA pc] w fun e w' => e = .returned (.bool true) ∧ Own E w' (Hp.ro S :: L) := by
  have kc := fun w M hw => cellsweigh_any (E := E) (S := S) (L := M) A n c xs w hn hsm hr hw
  have kpw := fun w M hw => pageweigh_any (E := E) (L := M) PA pc p w (by omega) (by omega) hw
  have km := fun w M hw => made_any (E := E) (S := S) (L := M) leaf A n c xs 0 480 w hn (by omega) (by omega) (by omega) hkd hr hw
  have h1 : Own E _ (Hp.blk w.heap.size PT (Pg.cs PA pc p).toArray :: Hp.ro S :: L) := h.alloc _
  obtain ⟨g, hg⟩ : ∃ g, g = w.heap.size := ⟨_, rfl⟩
  rw [← hg] at h1
  have H1 := Lib.hid h1
  have KC := Lib.hid kc
  have KPW := Lib.hid kpw
  have KM := Lib.hid km
  have HG := Lib.hid hG
  have HPR := Lib.hid hpr
  clear h h1 kc kpw km hG hpr hp1 hp2 hn hsm hkd hr
  go_enter Tryd.func5, Tryd.ntmps5
  go_wp2_with fail
  rw [← hg]
  clear hg
  have h := H1.out.drew
  clear H1
  refine wp_region_text [2] (fun w' => w'.rangeAt g 0 (Pg.cs PA pc p)) (by kernel_rfl) ?_ (fun hS => ?_)
  · exact h.blkRange
  refine wpAnyG_pure (i := 0) (oi := ⟨some 19, _, _, _, _, _⟩) (v := ?_) rfl (by kernel_rfl) (by kernel_rfl) (by kernel_rfl) (by rfl) (fun _ _ _ h => h) (by rfl) ?_ ?_
  rotate_left
  · intro w
    go_simp
    first | done | with_reducible rfl
  try simp only [Act.put, List.setIfInBounds_toArray, List.set_cons_zero, List.set_cons_succ]
  refine wpAnyG_load (i := 2) (oi := ⟨some 21, _, _, _, _, _⟩) (v := (p.val PA pc)) rfl (by kernel_rfl) (by kernel_rfl) (by kernel_rfl) (by rfl) (fun _ _ _ h => h) (by rfl) ?_ (by assumption) ?_
  · intro w hS
    exact exec_load_mid PT (.tmp 5) rfl g 0 (by rfl) (Pg.cs PA pc p) _ hS Tryd.underlying45 rfl (by kernel_rfl)
  try simp only [Act.put, List.setIfInBounds_toArray, List.set_cons_zero, List.set_cons_succ]
  refine wpAnyG_keep (i := 1) (oi := ⟨some 20, _, _, _, _, _⟩) (by kernel_rfl) rfl (fun K hK => ?_)
  rw [if_pos (by rfl)]
  go_simp
  refine (KC.out _ _ h.f1).mono ?_
  rintro e w1 ⟨⟨z1, hz1, rfl⟩, h⟩
  refine hK.out _ _ ?_ (fun hS => ?_)
  · exact h.f1.blkRange
  clear hK K
  try simp only [Act.put, List.setIfInBounds_toArray, List.set_cons_zero, List.set_cons_succ]
  refine wpAnyG_keep (i := 3) (oi := ⟨some 22, _, _, _, _, _⟩) (by kernel_rfl) rfl (fun K hK => ?_)
  rw [if_pos (by rfl)]
  go_simp
  refine (KPW.out _ _ h).mono ?_
  rintro e w2 ⟨⟨z2, hz2, hy2, rfl⟩, h⟩
  have HY2 := Lib.hid hy2
  clear hy2
  refine hK.out _ _ ?_ (fun hS => ?_)
  · exact h.f1.blkRange
  clear hK K
  try simp only [Act.put, List.setIfInBounds_toArray, List.set_cons_zero, List.set_cons_succ]
  refine wpAnyG_keep (i := 4) (oi := ⟨some 23, _, _, _, _, _⟩) (by kernel_rfl) rfl (fun K hK => ?_)
  rw [if_pos (by rfl)]
  go_simp
  refine (addsup_any z1 z2 _ (by omega) (by omega)).mono ?_
  rintro e w3 ⟨rfl, z3, hz3, hy3, rfl⟩
  have HY3 := Lib.hid hy3
  clear hy3
  refine hK.out _ _ ?_ (fun hS => ?_)
  · exact h.f1.blkRange
  clear hK K
  try simp only [Act.put, List.setIfInBounds_toArray, List.set_cons_zero, List.set_cons_succ]
  refine wpAnyG_pure (i := 5) (oi := ⟨some 24, _, _, _, _, _⟩) (v := ?_) rfl (by kernel_rfl) (by kernel_rfl) (by kernel_rfl) (by rfl) (fun _ _ _ h => h) (by rfl) ?_ ?_
  rotate_left
  · intro w
    go_simp
    first | done | with_reducible rfl
  try simp only [Act.put, List.setIfInBounds_toArray, List.set_cons_zero, List.set_cons_succ]
  refine wpAnyG_done (by kernel_rfl) ?_ _
  refine NoPanic.normal ?_
  have H := Lib.hid h
  clear h KC KPW hz1
  by_cases hc : 2147483647 < z3
  · have hci : (2147483647 : Int) < z3 := by omega
    go_wp2_with fail
    go_ret
    exact ⟨rfl, H.out.f1.drop⟩
  have hci : ¬ (2147483647 : Int) < z3 := by omega
  have hpp : p.links.length ≤ 4294960000 ∧ p.body.size ≤ 1000000000000 := by
    have e3 := HY3.out (by omega)
    have e2 := HY2.out (by omega)
    omega
  have HP1 := Lib.hid hpp.1
  have HP2 := Lib.hid hpp.2
  clear hc hz3 hpp HY2 HY3
  go_wp2_with fail
  refine (awake_any _ HG.out.skip H.out).mono ?_
  rintro e w4 ⟨rfl, h⟩
  have H2 := Lib.hid h
  clear h H
  go_wp2_with fail
  refine (KM.out _ _ H2.out).mono ?_
  rintro e w5 ⟨T, q, m, rfl, hm, hne, -, h⟩
  have hw0 := hm.ok.right hne
  have hbk := hm.ok.few
  have hvs : m.leaf = false → m.vs = [] := fun hl => (hm.ok.iform (by rw [← hm.ok.lf]; exact hl)).1
  have HBR := Lib.hid (fun a b => back_read m hw0 hvs a b)
  have hps := page_size m hw0
  have ha := h.alloc (.cells (q.cs m).toArray NT)
  obtain ⟨g8, hg8⟩ : ∃ g, g = w5.heap.size := ⟨_, rfl⟩
  rw [← hg8] at ha
  have kpg := fun w M hw => page_any (E := E) (S := T) (L := M) q m w (by omega) hm.inn hw
  rw [hw0] at kpg
  have KPG := Lib.hid kpg
  have HMI := Lib.hid hm.inn
  have HSUB := Lib.hid hm.sub
  have HPS := Lib.hid hps
  have H := Lib.hid ha
  clear h ha H2 KM hm hne hw0 hvs hps kpg
  go_wp2_with fail
  try rw [← hg8]
  clear hg8
  refine (KPG.out _ _ H.out.f1).mono ?_
  rintro e w6 ⟨pv, rfl, h⟩
  obtain ⟨T2, A2, c2, s2, rfl, hr2, hh⟩ := h.lendPage
  clear h
  generalize m.page = pg at *
  obtain ⟨kd, nm, br, ls, bd⟩ := pg
  obtain ⟨p1, p2, rfl, rfl⟩ := HPS.out
  dsimp only at p1 hr2
  dsimp only at HBR
  have hlb : bd.size + 4 * ls.length ≤ 481 := by omega
  have hlb1 : ls.length ≤ 481 := by omega
  have kp1 := fun w M hG hw => parse_any (E := E) (S := T2) (L := M) A2 c2 ⟨kd, 0, 0, ls, bd⟩ w hG (by show ls.length ≤ _; omega) (by show bd.size ≤ _; omega) hr2 hw
  rw [(HBR.out 0 0).1, (HBR.out 0 0).2] at kp1
  have KP1 := Lib.hid kp1
  have ha := hh.alloc (.cells (Pg.cs A2 c2 ⟨kd, 0, 0, ls, bd⟩).toArray PT)
  obtain ⟨g9, hg9⟩ : ∃ g, g = w6.heap.size := ⟨_, rfl⟩
  rw [← hg9] at ha
  have HR2 := Lib.hid hr2
  have HS2 := Lib.hid s2
  have HL := Lib.hid hlb
  have H2 := Lib.hid ha
  clear hh ha kp1 hr2 s2 p1 p2 HPS H KPG hlb hlb1
  go_wp2_with fail
  try rw [← hg9]
  clear hg9
  have hsub2 : ∀ k o, S k = some o → T2 k = some o := fun k o hk => HS2.out k o (HSUB.out k o hk)
  refine (KP1.out _ _ (((((HG.out.grow hsub2).skip).skip).skip)) H2.out.f1).mono ?_
  rintro e w7 ⟨nv, rfl, h⟩
  obtain ⟨T3, q3, s3, rfl, i3, h⟩ := h.lendAny
  have hsub3 : ∀ k o, S k = some o → T3 k = some o := fun k o hk => s3 k o (hsub2 k o hk)
  have hin3 := HMI.out.sub (fun k o hk => s3 k o (HS2.out k o hk))
  have kn := fun w M hw => nodes_same (E := E) (S := T3) (L := M) q3 q m w (by omega) i3 hin3 hw
  have hr3 := HR2.out.sub s3
  have ha := h.alloc (.cells (q3.cs m).toArray NT)
  obtain ⟨g11, hg11⟩ : ∃ g, g = w7.heap.size := ⟨_, rfl⟩
  rw [← hg11] at ha
  have KN := Lib.hid kn
  have HR3 := Lib.hid hr3
  have HIN3 := Lib.hid hin3
  have HSUB3 := Lib.hid hsub3
  have H3 := Lib.hid ha
  have c8 : (w7.alloc (.cells (q3.cs m).toArray NT)).rangeAt g8 0 (q.cs m) := (show Own E _ (Hp.blk g8 NT (q.cs m).toArray :: _) from ha.f3).blkRange
  obtain ⟨k0, k1, k2, k3⟩ : (w7.alloc (.cells (q3.cs m).toArray NT)).cell? ⟨g8, 0, none⟩ = some (.bool m.leaf) ∧ (w7.alloc (.cells (q3.cs m).toArray NT)).cell? ⟨g8, 1, none⟩ = some (.slice q.a1 m.ks.length q.c1) ∧ (w7.alloc (.cells (q3.cs m).toArray NT)).cell? ⟨g8, 2, none⟩ = some (.slice q.a2 m.vs.length q.c2) ∧ (w7.alloc (.cells (q3.cs m).toArray NT)).cell? ⟨g8, 3, none⟩ = some (.slice q.a3 m.ls.length q.c3) := ⟨c8 0 _ rfl, c8 1 _ rfl, c8 2 _ rfl, c8 3 _ rfl⟩
  clear h ha kn hr3 hin3 hsub3 hsub2 s3 i3 H2 KP1 HR2 HMI HS2 HSUB c8
  go_wp2_with fail
  try rw [← hg11]
  clear hg11
  refine (KN.out _ _ H3.out.f1).mono ?_
  rintro e w8 ⟨rfl, h⟩
  clear k0 k1 k2 k3 H3
  have h : Own E w8 (Hp.blk g9 PT (Pg.cs A2 c2 ⟨kd, 0, 0, ls, bd⟩).toArray :: Hp.ro T3 :: Hp.blk g11 NT (q3.cs m).toArray :: Hp.blk g8 NT (q.cs m).toArray :: Hp.blk g PT (Pg.cs PA pc p).toArray :: L) := h.f2
  have c0 : w8.cell? ⟨g9, 0, none⟩ = some (VI kd) := h.cell 0
  have c1 : w8.cell? ⟨g9, 1, none⟩ = some (VI 0) := h.cell 1
  have c2' : w8.cell? ⟨g9, 2, none⟩ = some (VI 0) := h.cell 2
  have c3 : w8.cell? ⟨g9, 3, none⟩ = some (.slice A2 ls.length c2) := h.cell 3
  have c4 : w8.cell? ⟨g9, 4, none⟩ = some (.string bd) := h.cell 4
  have f1 := h.frozen 1
  have f2 := h.frozen 2
  have hg := h.f4
  have d1 : w8.cell? ⟨g, 1, none⟩ = some (VI p.number) := hg.cell 1
  have d2 : w8.cell? ⟨g, 2, none⟩ = some (VI p.birth) := hg.cell 2
  have hne : g9 ≠ g := (h.f4.b1).ne
  have hs := (h.set 1 (VI p.number)).set 2 (VI p.birth)
  have kp2 := fun w M hG hw => parse_any (E := E) (S := T3) (L := M) A2 c2 ⟨kd, p.number, p.birth, ls, bd⟩ w hG (by show ls.length ≤ _; have := HL.out; omega) (by show bd.size ≤ _; have := HL.out; omega) HR3.out hw
  rw [(HBR.out p.number p.birth).1, (HBR.out p.number p.birth).2] at kp2
  have KP2 := Lib.hid kp2
  have HS := Lib.hid hs
  obtain ⟨l4, hl4⟩ : ∃ l4 : Nat, l4 = 4 * ls.length := ⟨_, rfl⟩
  have hlx := HL.out
  have j1 : IntKind.i64.wrap (4 * (ls.length : Int)) = (l4 : Int) := by rw [IntWalk.i64_in _ (by omega)]; omega
  have j2 : IntKind.i64.wrap ((bd.size : Int) + (l4 : Int)) = (bd.size : Int) + (l4 : Int) := IntWalk.i64_in _ (by omega)
  have j3 : ¬ (481 : Int) < (bd.size : Int) + (l4 : Int) := by omega
  clear h hg hs kp2 KN hlx hl4 HBR
  go_wp2_with fail
  refine (KP2.out _ _ ((HG.out.grow HSUB3.out).skip.skip.skip.skip) HS.out.f1).mono ?_
  rintro e w9 ⟨nv, rfl, h⟩
  obtain ⟨T4, q4, s4, rfl, i4, hh⟩ := h.lendAny
  clear h c0 c1 c2' c3 c4 f1 f2 d1 d2 hne HS KP2 j1 j2 j3
  have hin4 := HIN3.out.sub s4
  have kn := fun w M hw => nodes_same (E := E) (S := T4) (L := M) q4 q m w (by omega) i4 hin4 hw
  have KN := Lib.hid kn
  have HSUB4 := Lib.hid (fun k o hk => s4 k o (HSUB3.out k o hk))
  have HH := Lib.hid (show Own E w9 (Hp.blk g11 NT (q3.cs m).toArray :: Hp.ro T4 :: Hp.blk g9 PT _ :: Hp.blk g8 NT (q.cs m).toArray :: Hp.blk g PT (Pg.cs PA pc p).toArray :: L) from hh.f2)
  have hcc : ∀ w0 B, Own E w0 (Hp.blk g11 NT (q4.cs m).toArray :: Hp.ro T4 :: B :: Hp.blk g8 NT (q.cs m).toArray :: Hp.blk g PT (Pg.cs PA pc p).toArray :: L) → Hid (Own E w0 (Hp.ro T4 :: Hp.blk g8 NT (q.cs m).toArray :: Hp.blk g PT (Pg.cs PA pc p).toArray :: L)) ∧
      w0.cell? ⟨g11, 0, none⟩ = some (.bool m.leaf) ∧ w0.cell? ⟨g11, 1, none⟩ = some (.slice q4.a1 m.ks.length q4.c1) ∧ w0.cell? ⟨g11, 2, none⟩ = some (.slice q4.a2 m.vs.length q4.c2) ∧ w0.cell? ⟨g11, 3, none⟩ = some (.slice q4.a3 m.ls.length q4.c3) ∧
      w0.cell? ⟨g8, 0, none⟩ = some (.bool m.leaf) ∧ w0.cell? ⟨g8, 1, none⟩ = some (.slice q.a1 m.ks.length q.c1) ∧ w0.cell? ⟨g8, 2, none⟩ = some (.slice q.a2 m.vs.length q.c2) ∧ w0.cell? ⟨g8, 3, none⟩ = some (.slice q.a3 m.ls.length q.c3) := fun w0 B hw =>
    ⟨Lib.hid (hw.f2.drop.drop), hw.cell 0, hw.cell 1, hw.cell 2, hw.cell 3, hw.f3.cell 0, hw.f3.cell 1, hw.f3.cell 2, hw.f3.cell 3⟩
  have HCC := Lib.hid hcc
  clear hh s4 i4 hin4 kn hcc HIN3 HSUB3 HR3 HL
  go_wp2_with (with_reducible refine at_slot (k := none) ?_; refine wpList_store_whole (o := ⟨none, _, _, _, _, _⟩) (cs := q3.cs m) (vs := q4.cs m) HH.out rfl (ND_all1 _ _ _ _ rfl rfl rfl) (by kernel_rfl) rfl rfl rfl rfl ?_; intro w10 h; obtain ⟨H10, e0, e1, e2, e3, k0, k1, k2, k3⟩ := HCC.out _ _ h; clear h)
  refine (KN.out _ _ H10.out).mono ?_
  rintro e w11 ⟨rfl, h⟩
  have kp3 := fun w M hG hw => parse_any (E := E) (S := T4) (L := M) PA pc p w hG HP1.out HP2.out (HPR.out.sub HSUB4.out) hw
  have KP3 := Lib.hid kp3
  have hg : Own E w11 (Hp.blk g PT (Pg.cs PA pc p).toArray :: Hp.ro T4 :: L) := h.f1.drop.f1
  have hpc : ∀ w0, (∃ M, Own E w0 (Hp.blk g PT (Pg.cs PA pc p).toArray :: M)) → w0.cell? ⟨g, 0, none⟩ = some (VI p.kind) ∧ w0.cell? ⟨g, 1, none⟩ = some (VI p.number) ∧ w0.cell? ⟨g, 2, none⟩ = some (VI p.birth) ∧ w0.cell? ⟨g, 3, none⟩ = some (.slice PA p.links.length pc) ∧ w0.cell? ⟨g, 4, none⟩ = some (.string p.body) := fun w0 hw => by
    obtain ⟨_, hw⟩ := hw
    exact ⟨hw.cell 0, hw.cell 1, hw.cell 2, hw.cell 3, hw.cell 4⟩
  have HPC := Lib.hid hpc
  obtain ⟨d0, d1, d2, d3, d4⟩ := HPC.out _ ⟨_, hg⟩
  have H := Lib.hid hg
  clear h kp3 hg hpc e0 e1 e2 e3 k0 k1 k2 k3 H10 HCC HH KN
  go_wp2_with fail
  refine (KP3.out _ _ (HG.out.grow HSUB4.out).skip H.out.f1).mono ?_
  rintro e w12 ⟨nv, rfl, h⟩
  clear d0 d1 d2 d3 d4 H
  by_cases hb : p.bad = true
  · have e1 : p.node = Nd.nil := if_pos hb
    have e2 : p.wrong = 100 := if_pos hb
    rw [e1] at h
    rw [e2]
    obtain ⟨T5, q5, s5, rfl, i5, hh⟩ := h.lendAny
    have HA := Lib.hid (hh.alloc (.cells (q5.cs Nd.nil).toArray NT))
    have HS5 := Lib.hid s5
    clear h hh e1 e2 i5 s5
    go_wp2_with fail
    go_ret
    exact ⟨rfl, (HA.out.drop.f1.drop).shrink (fun k o hk => HS5.out k o (HSUB4.out k o hk))⟩
  · have hb' : p.bad = false := by simpa using hb
    have e1 : p.node = p.read := if_neg hb
    have e2 : p.wrong = 0 := if_neg hb
    obtain ⟨e3, e4⟩ := again_page p hb'
    rw [e1] at h
    rw [e2]
    obtain ⟨T5, q5, s5, rfl, i5, hh⟩ := h.lendAny
    have kg := fun w M hw => page_any (E := E) (S := T5) (L := M) q5 p.read w (by have := bulk_right e3; omega) i5 hw
    rw [e3, e4] at kg
    have KG := Lib.hid kg
    have HS5 := Lib.hid (fun k o hk => s5 k o (HSUB4.out k o hk))
    have HA := Lib.hid (hh.alloc (.cells (q5.cs p.read).toArray NT))
    clear h hh e1 e2 e3 e4 i5 s5 kg hb hb'
    generalize p.read = r at *
    go_wp2_with fail
    refine (KG.out _ _ HA.out.f1).mono ?_
    rintro e w13 ⟨pv, rfl, h⟩
    obtain ⟨T6, A6, c6, s6, rfl, hr6, hh⟩ := h.lendPage
    dsimp only at hr6
    have hg : Own E w13 (Hp.blk g PT (Pg.cs PA pc p).toArray :: Hp.ro T6 :: L) := hh.f1.drop.f1
    have ha := hg.alloc (.cells (Pg.cs A6 c6 ⟨p.kind, p.number, p.birth, p.links, p.body⟩).toArray PT)
    obtain ⟨d0, d1, d2, d3, d4⟩ := HPC.out (w13.alloc (.cells (Pg.cs A6 c6 ⟨p.kind, 0, 0, p.links, p.body⟩).toArray PT)) ⟨_, (hg.alloc _).f1⟩
    obtain ⟨y0, y1, y2, y3, y4⟩ := HPC.out (w13.alloc (.cells (Pg.cs A6 c6 ⟨p.kind, p.number, 0, p.links, p.body⟩).toArray PT)) ⟨_, (hg.alloc _).f1⟩
    obtain ⟨x0, x1, x2, x3, x4⟩ := HPC.out (w13.alloc (.cells (Pg.cs A6 c6 ⟨p.kind, p.number, p.birth, p.links, p.body⟩).toArray PT)) ⟨_, ha.f1⟩
    have ks := fun w M hw => pages_same (E := E) (S := T6) (L := M) A6 PA c6 pc p w (by have := HP1.out; omega) hr6 ((HPR.out.sub HS5.out).sub s6) hw
    have KS := Lib.hid ks
    have HS6 := Lib.hid (fun k o hk => s6 k o (HS5.out k o hk))
    have HS := Lib.hid ha
    clear h hh hg ha ks hr6 s6 HA KG
    go_wp2_with fail
    refine (KS.out _ _ HS.out.f2).mono ?_
    rintro e w14 ⟨rfl, h⟩
    have HF := Lib.hid ((h.f1.drop.f1.drop).shrink (fun k o hk => HS6.out k o hk))
    clear h HS d0 d1 d2 d3 d4 x0 x1 x2 x3 x4 y0 y1 y2 y3 y4
    go_wp2_with fail
    go_ret
    exact ⟨rfl, HF.out⟩
end
end Go.Proofs.YtbclmmneiphcaaaDoor
