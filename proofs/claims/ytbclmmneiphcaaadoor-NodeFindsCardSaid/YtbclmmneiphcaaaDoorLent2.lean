/- latchkeylaw10.lent, spare, whole. -/
import Derived.Test.YtbclmmneiphcaaaDoorLent
namespace Go.Proofs.YtbclmmneiphcaaaDoor
open Go.RowKit
/-- Three blocks that hold a node's lists, four things behind each. -/
abbrev Hp.three (gk gv gl : Nat) (n : Nd) : Hp := Hp.all [Hp.blk gk ST (lentS n.ks).toArray, Hp.blk gv ST (lentS n.vs).toArray, Hp.blk gl IT (lentI n.ls).toArray]
abbrev lentV (gk gv gl : Nat) (n : Nd) : Nv := ⟨some ⟨gk, 0, none⟩, n.ks.length + 4, some ⟨gv, 0, none⟩, n.vs.length + 4, some ⟨gl, 0, none⟩, n.ls.length + 4⟩
/-- What stands behind the lists is as it was. -/
structure SpareIn (S : Ph) (gk gv gl : Nat) (n : Nd) : Prop where
  k : ∀ j, j < 4 → S.cell ⟨gk, n.ks.length + j, none⟩ = some (VS tSpare)
  v : ∀ j, j < 4 → S.cell ⟨gv, n.vs.length + j, none⟩ = some (VS tSpare)
  l : ∀ j, j < 4 → S.cell ⟨gl, n.ls.length + j, none⟩ = some (VI (-77))
theorem SpareIn.sub {S T : Ph} {gk gv gl : Nat} {n : Nd} (h : SpareIn S gk gv gl n) (hs : ∀ k o, S k = some o → T k = some o) : SpareIn T gk gv gl n :=
  ⟨fun j hj => Ph.cell_sub hs (h.k j hj), fun j hj => Ph.cell_sub hs (h.v j hj), fun j hj => Ph.cell_sub hs (h.l j hj)⟩
theorem one_cell (g : Nat) (t : TypeId) (cs : List Value) (i : Nat) : (Ph.one g (.cells cs.toArray t (0, 0))).cell ⟨g, i, none⟩ = cs[i]? := by
  simp [Ph.cell, Ph.one]
theorem one_rds {α : Type} {f : α → Value} (g : Nat) (t : TypeId) (l : List α) (rest : List Value) : Rds (Ph.one g (.cells (l.map f ++ rest).toArray t (0, 0))) 1 (fun x => [f x]) (some ⟨g, 0, none⟩) l.length l :=
  ⟨rfl, fun _ => rfl, fun k hk => ⟨g, 0, rfl, fun j v hv => by
    have hj : j = 0 := by
      have := (List.getElem?_eq_some_iff.1 hv).1
      simpa using this
    subst hj
    have hv' : v = f l[k] := by simpa using hv.symm
    subst hv'
    rw [one_cell, List.getElem?_append_left (by simp; omega)]
    simp [hk]⟩⟩
theorem one_spare (g : Nat) (t : TypeId) (l : List Value) (x : Value) (j : Nat) (hj : j < 4) : (Ph.one g (.cells (l ++ List.replicate 4 x).toArray t (0, 0))).cell ⟨g, l.length + j, none⟩ = some x := by
  rw [one_cell, List.getElem?_append_right (by omega)]
  rw [List.getElem?_replicate, if_pos (by omega)]
theorem three_in {a : Ph} {gk gv gl : Nat} {n : Nd} (hb : n.bulk ≤ 4294967296) (h : Hp.three gk gv gl n a) : NdIn a (lentV gk gv gl n) n ∧ SpareIn a gk gv gl n := by
  obtain ⟨a1, r1, d1, rfl, h1, a2, r2, d2, rfl, h2, a3, r3, d3, rfl, h3, h4⟩ := h
  have e4 : r3 = Ph.emp := h4
  subst e4
  have e1 : a1 = _ := h1
  have e2 : a2 = _ := h2
  have e3 : a3 = _ := h3
  rw [Ph.join_emp] at d2 ⊢
  have hd1 : Ph.apart a1 (Ph.join a2 a3) := by rw [Ph.join_emp] at d1; exact d1
  have s1 : ∀ k o, a1 k = some o → Ph.join a1 (Ph.join a2 a3) k = some o := fun k o hk => Ph.join_some hk
  have s2 : ∀ k o, a2 k = some o → Ph.join a1 (Ph.join a2 a3) k = some o := fun k o hk => by
    rw [Ph.join_comm hd1]; exact Ph.join_some (Ph.join_some hk)
  have s3 : ∀ k o, a3 k = some o → Ph.join a1 (Ph.join a2 a3) k = some o := fun k o hk => by
    rw [Ph.join_comm hd1]
    refine Ph.join_some ?_
    rw [Ph.join_comm d2]; exact Ph.join_some hk
  have hl : n.ks.length ≤ 4294967296 ∧ n.vs.length ≤ 4294967296 ∧ n.ls.length ≤ 4294967296 := by unfold Nd.bulk at hb; omega
  refine ⟨⟨?_, ?_, ?_, by show n.ks.length ≤ n.ks.length + 4; omega, by show n.vs.length ≤ n.vs.length + 4; omega, by show n.ls.length ≤ n.ls.length + 4; omega, by show n.ks.length + 4 ≤ maxLen; unfold maxLen; omega, by show n.vs.length + 4 ≤ maxLen; unfold maxLen; omega, by show n.ls.length + 4 ≤ maxLen; unfold maxLen; omega⟩, ⟨?_, ?_, ?_⟩⟩
  · refine Rds.sub ?_ s1
    rw [e1]; exact one_rds gk ST n.ks _
  · refine Rds.sub ?_ s2
    rw [e2]; exact one_rds gv ST n.vs _
  · refine Rds.sub ?_ s3
    rw [e3]; exact one_rds gl IT n.ls _
  · intro j hj
    refine Ph.cell_sub s1 ?_
    rw [e1]
    have := one_spare gk ST (n.ks.map VS) (VS tSpare) j hj
    rw [List.length_map] at this
    exact this
  · intro j hj
    refine Ph.cell_sub s2 ?_
    rw [e2]
    have := one_spare gv ST (n.vs.map VS) (VS tSpare) j hj
    rw [List.length_map] at this
    exact this
  · intro j hj
    refine Ph.cell_sub s3 ?_
    rw [e3]
    have := one_spare gl IT (n.ls.map VI) (VI (-77)) j hj
    rw [List.length_map] at this
    exact this
section
variable {E : World} {S : Ph} {L : List Hp}
set_option maxRecDepth 100000 in
set_option maxHeartbeats 4000000 in
theorem lent_any (v : Nv) (n : Nd) (w : World) (hb : n.bulk ≤ 4294967290) (hi : NdIn S v n) (h : Own E w (Hp.ro S :: L)) :
    Calls Tryd.prog 11 #[v.val n] w fun e w' => ∃ gk gv gl : Nat, e = .returned ((lentV gk gv gl n).val n) ∧ Own E w' (Hp.three gk gv gl n :: Hp.ro S :: L) := by
  obtain ⟨a1, c1, a2, c2, a3, c3⟩ := v
  obtain ⟨leaf, ks, vs, ls⟩ := n
  obtain ⟨l1, l2, l3⟩ : ks.length ≤ 4294967290 ∧ vs.length ≤ 4294967290 ∧ ls.length ≤ 4294967290 := by
    have : sumSz ks + sumSz vs + ks.length + vs.length + ls.length ≤ 4294967290 := hb
    omega
  obtain ⟨r1, r2, r3, -, -, -, -, -, -⟩ := hi
  dsimp only [Nv.val, Hp.three, lentV] at *
  have h1 : Own E _ (Hp.blk (w.heap.size + 1) NT #[.bool false, .slice none 0 0, .slice none 0 0, .slice none 0 0] :: Hp.blk w.heap.size NT #[.bool leaf, .slice a1 ks.length c1, .slice a2 vs.length c2, .slice a3 ls.length c3] :: Hp.ro S :: L) := h.alloc2 _ _
  have k1 := fun w M hw => lent_texts (E := E) (L := M) a1 ks.length c1 ks w (by omega) r1 hw
  have k2 := fun w M hw => lent_texts (E := E) (L := M) a2 vs.length c2 vs w (by omega) r2 hw
  have k3 := fun w M hw => lent_ints (E := E) (L := M) a3 ls.length c3 ls w (by omega) r3 hw
  generalize hks : ks.length = nk at *
  generalize hvs : vs.length = nv at *
  generalize hls : ls.length = nl at *
  have i1 : (nk : Int) ≤ ((nk + 4 : Nat) : Int) := by omega
  have i2 : (nv : Int) ≤ ((nv + 4 : Nat) : Int) := by omega
  have i3 : (nl : Int) ≤ ((nl + 4 : Nat) : Int) := by omega
  obtain ⟨nt, hnt, hnr⟩ := nt_u
  obtain ⟨g, hg⟩ : ∃ g, g = w.heap.size := ⟨_, rfl⟩
  rw [← hg] at h1
  have H1 := Lib.hid h1
  have K1 := Lib.hid k1
  have K2 := Lib.hid k2
  have K3 := Lib.hid k3
  clear h h1 k1 k2 k3 r1 r2 r3 hb hks hvs hls
  go_enter Tryd.func11, Tryd.ntmps11
  go_wp2_with fail
  rw [← hg]
  clear hg
  have h := H1.out
  generalize World.alloc _ _ = wa at h ⊢
  clear H1
  have hcell1 : ∀ w', (∃ L', Own E w' (Hp.blk g NT #[.bool leaf, .slice a1 nk c1, .slice a2 nv c2, .slice a3 nl c3] :: L')) → w'.cell? ⟨g, 1, none⟩ = some (.slice a1 nk c1) := fun w' hw => by
    obtain ⟨_, hw⟩ := hw
    exact hw.cell 1
  have HC1 := Lib.hid hcell1
  clear hcell1
  have h := h.drew
  refine wp_region_text [1, 4] (fun w' => w'.cell? ⟨g, 1, none⟩ = some (.slice a1 nk c1)) (by kernel_rfl) ?_ (fun hS => ?_)
  · exact HC1.out _ (by first | exact ⟨_, h⟩ | exact ⟨_, h.f1⟩ | exact ⟨_, h.f2⟩ | exact ⟨_, h.f3⟩ | exact ⟨_, h.f4⟩ | exact ⟨_, h.f5⟩ | exact ⟨_, h.f6⟩ | exact ⟨_, h.f7⟩)
  refine wpAnyG_pure (i := 0) (oi := ⟨some 3, _, _, _, _, _⟩) (v := ?_) rfl (by kernel_rfl) (by kernel_rfl) (by kernel_rfl) (by rfl) (fun _ _ _ h => h) (by rfl) ?_ ?_
  rotate_left
  · intro w
    go_simp
    first | done | with_reducible rfl
  try simp only [Act.put, List.setIfInBounds_toArray, List.set_cons_zero, List.set_cons_succ]
  refine wpAnyG_load (i := 1) (oi := ⟨some 4, _, _, _, _, _⟩) (v := ?_) rfl (by kernel_rfl) (by kernel_rfl) (by kernel_rfl) (by rfl) (fun _ _ _ h => h) (by rfl) ?_ (by assumption) ?_
  rotate_left
  · intro w hS
    try dsimp only at hS
    go_simp
    first | done | with_reducible rfl
  try simp only [Act.put, List.setIfInBounds_toArray, List.set_cons_zero, List.set_cons_succ]
  refine wpAnyG_pure (i := 3) (oi := ⟨some 6, _, _, _, _, _⟩) (v := ?_) rfl (by kernel_rfl) (by kernel_rfl) (by kernel_rfl) (by rfl) (fun _ _ _ h => h) (by rfl) ?_ ?_
  rotate_left
  · intro w
    go_simp
    first | done | with_reducible rfl
  try simp only [Act.put, List.setIfInBounds_toArray, List.set_cons_zero, List.set_cons_succ]
  refine wpAnyG_load (i := 4) (oi := ⟨some 7, _, _, _, _, _⟩) (v := ?_) rfl (by kernel_rfl) (by kernel_rfl) (by kernel_rfl) (by rfl) (fun _ _ _ h => h) (by rfl) ?_ (by assumption) ?_
  rotate_left
  · intro w hS
    try dsimp only at hS
    go_simp
    first | done | with_reducible rfl
  try simp only [Act.put, List.setIfInBounds_toArray, List.set_cons_zero, List.set_cons_succ]
  refine wpAnyG_pure (i := 5) (oi := ⟨some 8, _, _, _, _, _⟩) (v := ?_) rfl (by kernel_rfl) (by kernel_rfl) (by kernel_rfl) (by rfl) (fun _ _ _ h => h) (by rfl) ?_ ?_
  rotate_left
  · intro w
    go_simp
    first | done | with_reducible rfl
  try simp only [Act.put, List.setIfInBounds_toArray, List.set_cons_zero, List.set_cons_succ]
  refine wpAnyG_keep (i := 2) (oi := ⟨some 5, _, _, _, _, _⟩) (by kernel_rfl) rfl (fun K hK => ?_)
  rw [if_pos (by rfl)]
  go_simp
  first | have h := (h : Own _ _ (Hp.ro S :: _)) | have h := (h.f1 : Own _ _ (Hp.ro S :: _)) | have h := (h.f2 : Own _ _ (Hp.ro S :: _)) | have h := (h.f3 : Own _ _ (Hp.ro S :: _)) | have h := (h.f4 : Own _ _ (Hp.ro S :: _)) | have h := (h.f5 : Own _ _ (Hp.ro S :: _)) | have h := (h.f6 : Own _ _ (Hp.ro S :: _)) | have h := (h.f7 : Own _ _ (Hp.ro S :: _))
  refine (K1.out _ _ h).mono ?_
  rintro e w5 ⟨gk, rfl, h⟩
  refine hK.out _ _ ?_ (fun hS => ?_)
  · exact HC1.out _ (by first | exact ⟨_, h⟩ | exact ⟨_, h.f1⟩ | exact ⟨_, h.f2⟩ | exact ⟨_, h.f3⟩ | exact ⟨_, h.f4⟩ | exact ⟨_, h.f5⟩ | exact ⟨_, h.f6⟩ | exact ⟨_, h.f7⟩)
  clear hK K
  try simp only [Act.put, List.setIfInBounds_toArray, List.set_cons_zero, List.set_cons_succ]
  refine wpAnyG_pure (i := 6) (oi := ⟨some 9, _, _, _, _, _⟩) (v := (.slice (some ⟨gk, 0, none⟩) nk (nk + 4))) rfl (by kernel_rfl) (by kernel_rfl) (by kernel_rfl) (by rfl) (fun _ _ _ h => h) (by rfl) ?_ ?_
  · intro w
    go_simp; intro hb; omega
  try simp only [Act.put, List.setIfInBounds_toArray, List.set_cons_zero, List.set_cons_succ]
  refine wpAnyG_pure (i := 7) (oi := ⟨some 10, _, _, _, _, _⟩) (v := ?_) rfl (by kernel_rfl) (by kernel_rfl) (by kernel_rfl) (by rfl) (fun _ _ _ h => h) (by rfl) ?_ ?_
  rotate_left
  · intro w
    go_simp
    first | done | with_reducible rfl
  try simp only [Act.put, List.setIfInBounds_toArray, List.set_cons_zero, List.set_cons_succ]
  refine wpAnyG_break (i := 8) (oi := ⟨none, _, _, _, _, _⟩) (by kernel_rfl) rfl (by kernel_rfl) (fun K hK => ?_)
  rw [if_pos (by rfl)]
  first | have h := (h : Own _ _ (Hp.blk g NT _ :: _)) | have h := (h.f1 : Own _ _ (Hp.blk g NT _ :: _)) | have h := (h.f2 : Own _ _ (Hp.blk g NT _ :: _)) | have h := (h.f3 : Own _ _ (Hp.blk g NT _ :: _)) | have h := (h.f4 : Own _ _ (Hp.blk g NT _ :: _)) | have h := (h.f5 : Own _ _ (Hp.blk g NT _ :: _)) | have h := (h.f6 : Own _ _ (Hp.blk g NT _ :: _)) | have h := (h.f7 : Own _ _ (Hp.blk g NT _ :: _))
  have f5 := h.cell 1
  have f6 := h.frozen 1
  have h := h.set 1 (.slice (some ⟨gk, 0, none⟩) nk (nk + 4))
  go_simp
  refine hK.out _ _ ?_
  clear hK K
  try simp only [Act.put]
  refine wpAnyG_done (by kernel_rfl) ?_ _
  refine NoPanic.normal ?_
  have h : Own E _ (Hp.blk g NT #[.bool leaf, .slice (some ⟨gk, 0, none⟩) nk (nk + 4), .slice a2 nv c2, .slice a3 nl c3] :: _) := h
  generalize World.setCell _ _ _ = wb at h ⊢
  go_wp2_with fail
  have hcell2 : ∀ w', (∃ L', Own E w' (Hp.blk g NT #[.bool leaf, .slice (some ⟨gk, 0, none⟩) nk (nk + 4), .slice a2 nv c2, .slice a3 nl c3] :: L')) → w'.cell? ⟨g, 2, none⟩ = some (.slice a2 nv c2) := fun w' hw => by
    obtain ⟨_, hw⟩ := hw
    exact hw.cell 2
  have HC2 := Lib.hid hcell2
  clear hcell2
  have h := h.drew
  refine wp_region_text [1, 4] (fun w' => w'.cell? ⟨g, 2, none⟩ = some (.slice a2 nv c2)) (by kernel_rfl) ?_ (fun hS => ?_)
  · exact HC2.out _ (by first | exact ⟨_, h⟩ | exact ⟨_, h.f1⟩ | exact ⟨_, h.f2⟩ | exact ⟨_, h.f3⟩ | exact ⟨_, h.f4⟩ | exact ⟨_, h.f5⟩ | exact ⟨_, h.f6⟩ | exact ⟨_, h.f7⟩)
  refine wpAnyG_pure (i := 0) (oi := ⟨some 11, _, _, _, _, _⟩) (v := ?_) rfl (by kernel_rfl) (by kernel_rfl) (by kernel_rfl) (by rfl) (fun _ _ _ h => h) (by rfl) ?_ ?_
  rotate_left
  · intro w
    go_simp
    first | done | with_reducible rfl
  try simp only [Act.put, List.setIfInBounds_toArray, List.set_cons_zero, List.set_cons_succ]
  refine wpAnyG_load (i := 1) (oi := ⟨some 12, _, _, _, _, _⟩) (v := ?_) rfl (by kernel_rfl) (by kernel_rfl) (by kernel_rfl) (by rfl) (fun _ _ _ h => h) (by rfl) ?_ (by assumption) ?_
  rotate_left
  · intro w hS
    try dsimp only at hS
    go_simp
    first | done | with_reducible rfl
  try simp only [Act.put, List.setIfInBounds_toArray, List.set_cons_zero, List.set_cons_succ]
  refine wpAnyG_pure (i := 3) (oi := ⟨some 14, _, _, _, _, _⟩) (v := ?_) rfl (by kernel_rfl) (by kernel_rfl) (by kernel_rfl) (by rfl) (fun _ _ _ h => h) (by rfl) ?_ ?_
  rotate_left
  · intro w
    go_simp
    first | done | with_reducible rfl
  try simp only [Act.put, List.setIfInBounds_toArray, List.set_cons_zero, List.set_cons_succ]
  refine wpAnyG_load (i := 4) (oi := ⟨some 15, _, _, _, _, _⟩) (v := ?_) rfl (by kernel_rfl) (by kernel_rfl) (by kernel_rfl) (by rfl) (fun _ _ _ h => h) (by rfl) ?_ (by assumption) ?_
  rotate_left
  · intro w hS
    try dsimp only at hS
    go_simp
    first | done | with_reducible rfl
  try simp only [Act.put, List.setIfInBounds_toArray, List.set_cons_zero, List.set_cons_succ]
  refine wpAnyG_pure (i := 5) (oi := ⟨some 16, _, _, _, _, _⟩) (v := ?_) rfl (by kernel_rfl) (by kernel_rfl) (by kernel_rfl) (by rfl) (fun _ _ _ h => h) (by rfl) ?_ ?_
  rotate_left
  · intro w
    go_simp
    first | done | with_reducible rfl
  try simp only [Act.put, List.setIfInBounds_toArray, List.set_cons_zero, List.set_cons_succ]
  refine wpAnyG_keep (i := 2) (oi := ⟨some 13, _, _, _, _, _⟩) (by kernel_rfl) rfl (fun K hK => ?_)
  rw [if_pos (by rfl)]
  go_simp
  first | have h := (h : Own _ _ (Hp.ro S :: _)) | have h := (h.f1 : Own _ _ (Hp.ro S :: _)) | have h := (h.f2 : Own _ _ (Hp.ro S :: _)) | have h := (h.f3 : Own _ _ (Hp.ro S :: _)) | have h := (h.f4 : Own _ _ (Hp.ro S :: _)) | have h := (h.f5 : Own _ _ (Hp.ro S :: _)) | have h := (h.f6 : Own _ _ (Hp.ro S :: _)) | have h := (h.f7 : Own _ _ (Hp.ro S :: _))
  refine (K2.out _ _ h).mono ?_
  rintro e w5 ⟨gv, rfl, h⟩
  refine hK.out _ _ ?_ (fun hS => ?_)
  · exact HC2.out _ (by first | exact ⟨_, h⟩ | exact ⟨_, h.f1⟩ | exact ⟨_, h.f2⟩ | exact ⟨_, h.f3⟩ | exact ⟨_, h.f4⟩ | exact ⟨_, h.f5⟩ | exact ⟨_, h.f6⟩ | exact ⟨_, h.f7⟩)
  clear hK K
  try simp only [Act.put, List.setIfInBounds_toArray, List.set_cons_zero, List.set_cons_succ]
  refine wpAnyG_pure (i := 6) (oi := ⟨some 17, _, _, _, _, _⟩) (v := (.slice (some ⟨gv, 0, none⟩) nv (nv + 4))) rfl (by kernel_rfl) (by kernel_rfl) (by kernel_rfl) (by rfl) (fun _ _ _ h => h) (by rfl) ?_ ?_
  · intro w
    go_simp; intro hb; omega
  try simp only [Act.put, List.setIfInBounds_toArray, List.set_cons_zero, List.set_cons_succ]
  refine wpAnyG_pure (i := 7) (oi := ⟨some 18, _, _, _, _, _⟩) (v := ?_) rfl (by kernel_rfl) (by kernel_rfl) (by kernel_rfl) (by rfl) (fun _ _ _ h => h) (by rfl) ?_ ?_
  rotate_left
  · intro w
    go_simp
    first | done | with_reducible rfl
  try simp only [Act.put, List.setIfInBounds_toArray, List.set_cons_zero, List.set_cons_succ]
  refine wpAnyG_break (i := 8) (oi := ⟨none, _, _, _, _, _⟩) (by kernel_rfl) rfl (by kernel_rfl) (fun K hK => ?_)
  rw [if_pos (by rfl)]
  first | have h := (h : Own _ _ (Hp.blk g NT _ :: _)) | have h := (h.f1 : Own _ _ (Hp.blk g NT _ :: _)) | have h := (h.f2 : Own _ _ (Hp.blk g NT _ :: _)) | have h := (h.f3 : Own _ _ (Hp.blk g NT _ :: _)) | have h := (h.f4 : Own _ _ (Hp.blk g NT _ :: _)) | have h := (h.f5 : Own _ _ (Hp.blk g NT _ :: _)) | have h := (h.f6 : Own _ _ (Hp.blk g NT _ :: _)) | have h := (h.f7 : Own _ _ (Hp.blk g NT _ :: _))
  have f5 := h.cell 2
  have f6 := h.frozen 2
  have h := h.set 2 (.slice (some ⟨gv, 0, none⟩) nv (nv + 4))
  go_simp
  refine hK.out _ _ ?_
  clear hK K
  try simp only [Act.put]
  refine wpAnyG_done (by kernel_rfl) ?_ _
  refine NoPanic.normal ?_
  have h : Own E _ (Hp.blk g NT #[.bool leaf, .slice (some ⟨gk, 0, none⟩) nk (nk + 4), .slice (some ⟨gv, 0, none⟩) nv (nv + 4), .slice a3 nl c3] :: _) := h
  generalize World.setCell _ _ _ = wc at h ⊢
  go_wp2_with fail
  have hcell3 : ∀ w', (∃ L', Own E w' (Hp.blk g NT #[.bool leaf, .slice (some ⟨gk, 0, none⟩) nk (nk + 4), .slice (some ⟨gv, 0, none⟩) nv (nv + 4), .slice a3 nl c3] :: L')) → w'.cell? ⟨g, 3, none⟩ = some (.slice a3 nl c3) := fun w' hw => by
    obtain ⟨_, hw⟩ := hw
    exact hw.cell 3
  have HC3 := Lib.hid hcell3
  clear hcell3
  have h := h.drew
  refine wp_region_text [1, 4] (fun w' => w'.cell? ⟨g, 3, none⟩ = some (.slice a3 nl c3)) (by kernel_rfl) ?_ (fun hS => ?_)
  · exact HC3.out _ (by first | exact ⟨_, h⟩ | exact ⟨_, h.f1⟩ | exact ⟨_, h.f2⟩ | exact ⟨_, h.f3⟩ | exact ⟨_, h.f4⟩ | exact ⟨_, h.f5⟩ | exact ⟨_, h.f6⟩ | exact ⟨_, h.f7⟩)
  refine wpAnyG_pure (i := 0) (oi := ⟨some 19, _, _, _, _, _⟩) (v := ?_) rfl (by kernel_rfl) (by kernel_rfl) (by kernel_rfl) (by rfl) (fun _ _ _ h => h) (by rfl) ?_ ?_
  rotate_left
  · intro w
    go_simp
    first | done | with_reducible rfl
  try simp only [Act.put, List.setIfInBounds_toArray, List.set_cons_zero, List.set_cons_succ]
  refine wpAnyG_load (i := 1) (oi := ⟨some 20, _, _, _, _, _⟩) (v := ?_) rfl (by kernel_rfl) (by kernel_rfl) (by kernel_rfl) (by rfl) (fun _ _ _ h => h) (by rfl) ?_ (by assumption) ?_
  rotate_left
  · intro w hS
    try dsimp only at hS
    go_simp
    first | done | with_reducible rfl
  try simp only [Act.put, List.setIfInBounds_toArray, List.set_cons_zero, List.set_cons_succ]
  refine wpAnyG_pure (i := 3) (oi := ⟨some 22, _, _, _, _, _⟩) (v := ?_) rfl (by kernel_rfl) (by kernel_rfl) (by kernel_rfl) (by rfl) (fun _ _ _ h => h) (by rfl) ?_ ?_
  rotate_left
  · intro w
    go_simp
    first | done | with_reducible rfl
  try simp only [Act.put, List.setIfInBounds_toArray, List.set_cons_zero, List.set_cons_succ]
  refine wpAnyG_load (i := 4) (oi := ⟨some 23, _, _, _, _, _⟩) (v := ?_) rfl (by kernel_rfl) (by kernel_rfl) (by kernel_rfl) (by rfl) (fun _ _ _ h => h) (by rfl) ?_ (by assumption) ?_
  rotate_left
  · intro w hS
    try dsimp only at hS
    go_simp
    first | done | with_reducible rfl
  try simp only [Act.put, List.setIfInBounds_toArray, List.set_cons_zero, List.set_cons_succ]
  refine wpAnyG_pure (i := 5) (oi := ⟨some 24, _, _, _, _, _⟩) (v := ?_) rfl (by kernel_rfl) (by kernel_rfl) (by kernel_rfl) (by rfl) (fun _ _ _ h => h) (by rfl) ?_ ?_
  rotate_left
  · intro w
    go_simp
    first | done | with_reducible rfl
  try simp only [Act.put, List.setIfInBounds_toArray, List.set_cons_zero, List.set_cons_succ]
  refine wpAnyG_keep (i := 2) (oi := ⟨some 21, _, _, _, _, _⟩) (by kernel_rfl) rfl (fun K hK => ?_)
  rw [if_pos (by rfl)]
  go_simp
  first | have h := (h : Own _ _ (Hp.ro S :: _)) | have h := (h.f1 : Own _ _ (Hp.ro S :: _)) | have h := (h.f2 : Own _ _ (Hp.ro S :: _)) | have h := (h.f3 : Own _ _ (Hp.ro S :: _)) | have h := (h.f4 : Own _ _ (Hp.ro S :: _)) | have h := (h.f5 : Own _ _ (Hp.ro S :: _)) | have h := (h.f6 : Own _ _ (Hp.ro S :: _)) | have h := (h.f7 : Own _ _ (Hp.ro S :: _))
  refine (K3.out _ _ h).mono ?_
  rintro e w5 ⟨gl, rfl, h⟩
  refine hK.out _ _ ?_ (fun hS => ?_)
  · exact HC3.out _ (by first | exact ⟨_, h⟩ | exact ⟨_, h.f1⟩ | exact ⟨_, h.f2⟩ | exact ⟨_, h.f3⟩ | exact ⟨_, h.f4⟩ | exact ⟨_, h.f5⟩ | exact ⟨_, h.f6⟩ | exact ⟨_, h.f7⟩)
  clear hK K
  try simp only [Act.put, List.setIfInBounds_toArray, List.set_cons_zero, List.set_cons_succ]
  refine wpAnyG_pure (i := 6) (oi := ⟨some 25, _, _, _, _, _⟩) (v := (.slice (some ⟨gl, 0, none⟩) nl (nl + 4))) rfl (by kernel_rfl) (by kernel_rfl) (by kernel_rfl) (by rfl) (fun _ _ _ h => h) (by rfl) ?_ ?_
  · intro w
    go_simp; intro hb; omega
  try simp only [Act.put, List.setIfInBounds_toArray, List.set_cons_zero, List.set_cons_succ]
  refine wpAnyG_pure (i := 7) (oi := ⟨some 26, _, _, _, _, _⟩) (v := ?_) rfl (by kernel_rfl) (by kernel_rfl) (by kernel_rfl) (by rfl) (fun _ _ _ h => h) (by rfl) ?_ ?_
  rotate_left
  · intro w
    go_simp
    first | done | with_reducible rfl
  try simp only [Act.put, List.setIfInBounds_toArray, List.set_cons_zero, List.set_cons_succ]
  refine wpAnyG_break (i := 8) (oi := ⟨none, _, _, _, _, _⟩) (by kernel_rfl) rfl (by kernel_rfl) (fun K hK => ?_)
  rw [if_pos (by rfl)]
  first | have h := (h : Own _ _ (Hp.blk g NT _ :: _)) | have h := (h.f1 : Own _ _ (Hp.blk g NT _ :: _)) | have h := (h.f2 : Own _ _ (Hp.blk g NT _ :: _)) | have h := (h.f3 : Own _ _ (Hp.blk g NT _ :: _)) | have h := (h.f4 : Own _ _ (Hp.blk g NT _ :: _)) | have h := (h.f5 : Own _ _ (Hp.blk g NT _ :: _)) | have h := (h.f6 : Own _ _ (Hp.blk g NT _ :: _)) | have h := (h.f7 : Own _ _ (Hp.blk g NT _ :: _))
  have f5 := h.cell 3
  have f6 := h.frozen 3
  have h := h.set 3 (.slice (some ⟨gl, 0, none⟩) nl (nl + 4))
  go_simp
  refine hK.out _ _ ?_
  clear hK K
  try simp only [Act.put]
  refine wpAnyG_done (by kernel_rfl) ?_ _
  refine NoPanic.normal ?_
  have h : Own E _ (Hp.blk g NT #[.bool leaf, .slice (some ⟨gk, 0, none⟩) nk (nk + 4), .slice (some ⟨gv, 0, none⟩) nv (nv + 4), .slice (some ⟨gl, 0, none⟩) nl (nl + 4)] :: _) := h
  generalize World.setCell _ _ _ = wd at h ⊢
  have q0 := h.cell 0
  have q1 := h.cell 1
  have q2 := h.cell 2
  have q3 := h.cell 3
  first | have h := (h : Own _ _ (Hp.blk (g + 1) NT _ :: _)) | have h := (h.f1 : Own _ _ (Hp.blk (g + 1) NT _ :: _)) | have h := (h.f2 : Own _ _ (Hp.blk (g + 1) NT _ :: _)) | have h := (h.f3 : Own _ _ (Hp.blk (g + 1) NT _ :: _)) | have h := (h.f4 : Own _ _ (Hp.blk (g + 1) NT _ :: _)) | have h := (h.f5 : Own _ _ (Hp.blk (g + 1) NT _ :: _)) | have h := (h.f6 : Own _ _ (Hp.blk (g + 1) NT _ :: _)) | have h := (h.f7 : Own _ _ (Hp.blk (g + 1) NT _ :: _))
  have H := Lib.hid h
  clear h
  go_wp2_with (with_reducible refine at_slot (k := none) ?_; refine wpList_store_whole (o := ⟨none, _, _, _, _, _⟩) (cs := [.bool false, .slice none 0 0, .slice none 0 0, .slice none 0 0]) (vs := [.bool leaf, .slice (some ⟨gk, 0, none⟩) nk (nk + 4), .slice (some ⟨gv, 0, none⟩) nv (nv + 4), .slice (some ⟨gl, 0, none⟩) nl (nl + 4)]) H.out rfl (ND_all1 _ _ _ _ rfl rfl rfl) (by kernel_rfl) rfl rfl rfl rfl ?_; intro w7 h)
  refine bodyPost_ret (results_arr rfl rfl h hnt hnr (by kernel_rfl)) rfl ?_
  refine ⟨gk, gv, gl, rfl, ?_⟩
  have h := h.drop
  first | have h := (h : Own _ _ (Hp.blk g NT _ :: _)) | have h := (h.f1 : Own _ _ (Hp.blk g NT _ :: _)) | have h := (h.f2 : Own _ _ (Hp.blk g NT _ :: _)) | have h := (h.f3 : Own _ _ (Hp.blk g NT _ :: _)) | have h := (h.f4 : Own _ _ (Hp.blk g NT _ :: _)) | have h := (h.f5 : Own _ _ (Hp.blk g NT _ :: _)) | have h := (h.f6 : Own _ _ (Hp.blk g NT _ :: _)) | have h := (h.f7 : Own _ _ (Hp.blk g NT _ :: _))
  have h := h.drop
  exact Own.star.2 (h.ac (M := [Hp.blk gk ST (lentS ks).toArray, Hp.blk gv ST (lentS vs).toArray, Hp.blk gl IT (lentI ls).toArray] ++ Hp.ro S :: L) (by simp only [Hp.all, List.cons_append, List.nil_append] <;> ac_rfl))
end
end Go.Proofs.YtbclmmneiphcaaaDoor
