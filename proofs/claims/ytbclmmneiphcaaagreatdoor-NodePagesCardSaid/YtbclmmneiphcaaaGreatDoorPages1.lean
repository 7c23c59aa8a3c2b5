/- latchkeylaw10.Book.page, laid, read; pageWeighs. -/
import Derived.Test.YtbclmmneiphcaaaGreatDoorXParse
import Derived.Test.YtbclmmneiphcaaaGreatDoorPut
namespace Go.Proofs.YtbclmmneiphcaaaGreatDoor
open Go.RowKit
section
variable {E : World} {S : Ph} {L : List Hp}
/-- A page's list, by where it lies. -/
theorem Own.pageForm {w : World} {v : Value} {p : Pg} (h : Own E w (Hp.page v p :: L)) : ∃ A c, v = p.val A c ∧ Own E w (Hp.page (p.val A c) p :: L) := by
  have h' := h
  obtain ⟨a, rfl, h2⟩ := h'.ofPage
  obtain ⟨A, c, rfl, -⟩ := h2.lstSlice
  rw [List.length_map] at h ⊢
  exact ⟨A, c, rfl, h⟩
theorem Own.ofPage2 {w : World} {A : Option Addr} {c : Nat} {p : Pg} (h : Own E w (Hp.page (p.val A c) p :: L)) : Own E w (Hp.ints (.slice A p.links.length c) p.links :: L) := by
  obtain ⟨a, e, h2⟩ := h.ofPage
  simp only [Pg.val, Value.agg.injEq, Array.mk.injEq, List.cons.injEq, and_true, true_and] at e
  rw [e]; exact h2
set_option maxRecDepth 100000 in
set_option maxHeartbeats 8000000 in
theorem bookpage_any (b : Nat) (B : Bk) (A : Option Addr) (c : Nat) (p : Pg) (w : World) (hb : p.links.length ≤ 4294967290) (hn : B.n.length ≤ 1000) (h : Own E w (Hp.page (p.val A c) p :: Hp.ro S :: Hp.bk b B :: L)) :
    Calls Tryz.prog 31 #[.pointer (some ⟨b, 0, none⟩), p.val A c] w fun e w' => e = .returned (.tuple #[]) ∧ ∃ r : Rc Int, r.xs = p.links ∧ Own E w' (Hp.bk b ⟨B.t, B.n ++ [r]⟩ :: Hp.ro S :: L) := by
  have h := h.ofPage2
  obtain ⟨q0, q1, q2, q3, h⟩ := h.f2.ofBk
  obtain ⟨A2, c2, k2, -⟩ := h.f3.lstSlice
  obtain ⟨A3, c3, k3, -⟩ := h.f4.lstSlice
  rw [List.length_map] at k2 k3
  subst k2 k3
  have h1 := h.alloc (.cells #[VI p.kind, VI p.number, VI p.birth, .slice A p.links.length c, .string p.body] PT)
  obtain ⟨g, hg⟩ : ∃ g, g = w.heap.size := ⟨_, rfl⟩
  rw [← hg] at h1
  clear h
  have H := Lib.hid h1
  have hfin := fun (w : World) (M : List Hp) (r : Rc Int) (hw : Own E w (Hp.ints r.v r.xs :: Hp.ints r.wv r.xs :: Hp.fams B :: M)) => fams_n (r := r) hw
  have HFIN := Lib.hid hfin
  have hnl : (B.n.map Rc.v).length = B.n.length := List.length_map _
  have hnl2 : (B.n.map Rc.wv).length = B.n.length := List.length_map _
  clear hfin h1
  go_enter Tryz.func31, Tryz.ntmps31
  go_wp2_with fail
  try rw [← hg]
  clear hg
  have h := H.out
  generalize World.alloc _ _ = wa at h ⊢
  clear H
  have h : Own E _ (Hp.blk g PT #[VI p.kind, VI p.number, VI p.birth, .slice A p.links.length c, .string p.body] :: Hp.blk b BKT #[q0, q1, .slice A2 B.n.length c2, .slice A3 B.n.length c3] :: Hp.lst LIT (.slice A2 B.n.length c2) (B.n.map Rc.v) :: Hp.lst LIT (.slice A3 B.n.length c3) (B.n.map Rc.wv) :: Hp.ints (.slice A p.links.length c) p.links :: Hp.lst LST q0 (B.t.map Rc.v) :: Hp.lst LST q1 (B.t.map Rc.wv) :: Hp.fams B :: Hp.ro S :: L) := (show Own E _ (Hp.blk g PT #[VI p.kind, VI p.number, VI p.birth, .slice A p.links.length c, .string p.body] :: _) from h).ac (by simp only [Hp.all] <;> ac_rfl)
  have HG : Hid (∀ w', (∃ L', Own E w' (Hp.blk g PT #[VI p.kind, VI p.number, VI p.birth, .slice A p.links.length c, .string p.body] :: L')) → w'.cell? ⟨g, 3, none⟩ = some (.slice A p.links.length c)) := Lib.hid fun w' hw => by
    obtain ⟨_, hw⟩ := hw
    exact hw.cell 3
  have HB2 : Hid (∀ w', (∃ L', Own E w' (Hp.blk b BKT #[q0, q1, .slice A2 B.n.length c2, .slice A3 B.n.length c3] :: L')) → w'.cell? ⟨b, 2, none⟩ = some (.slice A2 B.n.length c2)) := Lib.hid fun w' hw => by
    obtain ⟨_, hw⟩ := hw
    exact hw.cell 2
  first | have h := (h : Own _ _ (Hp.lst LIT (.slice A2 B.n.length c2) (B.n.map Rc.v) :: _)) | have h := (h.f1 : Own _ _ (Hp.lst LIT (.slice A2 B.n.length c2) (B.n.map Rc.v) :: _)) | have h := (h.f2 : Own _ _ (Hp.lst LIT (.slice A2 B.n.length c2) (B.n.map Rc.v) :: _)) | have h := (h.f3 : Own _ _ (Hp.lst LIT (.slice A2 B.n.length c2) (B.n.map Rc.v) :: _)) | have h := (h.f4 : Own _ _ (Hp.lst LIT (.slice A2 B.n.length c2) (B.n.map Rc.v) :: _)) | have h := (h.f5 : Own _ _ (Hp.lst LIT (.slice A2 B.n.length c2) (B.n.map Rc.v) :: _)) | have h := (h.f6 : Own _ _ (Hp.lst LIT (.slice A2 B.n.length c2) (B.n.map Rc.v) :: _)) | have h := (h.f7 : Own _ _ (Hp.lst LIT (.slice A2 B.n.length c2) (B.n.map Rc.v) :: _)) | have h := (h.f8 : Own _ _ (Hp.lst LIT (.slice A2 B.n.length c2) (B.n.map Rc.v) :: _)) | have h := (h.f9 : Own _ _ (Hp.lst LIT (.slice A2 B.n.length c2) (B.n.map Rc.v) :: _)) | have h := (h.f10 : Own _ _ (Hp.lst LIT (.slice A2 B.n.length c2) (B.n.map Rc.v) :: _)) | have h := (h.f11 : Own _ _ (Hp.lst LIT (.slice A2 B.n.length c2) (B.n.map Rc.v) :: _)) | have h := (h.f12 : Own _ _ (Hp.lst LIT (.slice A2 B.n.length c2) (B.n.map Rc.v) :: _)) | have h := (h.f13 : Own _ _ (Hp.lst LIT (.slice A2 B.n.length c2) (B.n.map Rc.v) :: _)) | have h := (h.f14 : Own _ _ (Hp.lst LIT (.slice A2 B.n.length c2) (B.n.map Rc.v) :: _)) | have h := (h.f15 : Own _ _ (Hp.lst LIT (.slice A2 B.n.length c2) (B.n.map Rc.v) :: _))
  have h := h.drew
  refine wp_region_text [4, 6] (fun w' => w'.cell? ⟨b, 2, none⟩ = some (.slice A2 B.n.length c2) ∧ w'.cell? ⟨g, 3, none⟩ = some (.slice A p.links.length c)) (by kernel_rfl) ?_ (fun hS => ?_)
  · exact ⟨HB2.out _ (by first | exact ⟨_, h⟩ | exact ⟨_, h.f1⟩ | exact ⟨_, h.f2⟩ | exact ⟨_, h.f3⟩ | exact ⟨_, h.f4⟩ | exact ⟨_, h.f5⟩ | exact ⟨_, h.f6⟩ | exact ⟨_, h.f7⟩ | exact ⟨_, h.f8⟩ | exact ⟨_, h.f9⟩ | exact ⟨_, h.f10⟩ | exact ⟨_, h.f11⟩ | exact ⟨_, h.f12⟩ | exact ⟨_, h.f13⟩ | exact ⟨_, h.f14⟩ | exact ⟨_, h.f15⟩), HG.out _ (by first | exact ⟨_, h⟩ | exact ⟨_, h.f1⟩ | exact ⟨_, h.f2⟩ | exact ⟨_, h.f3⟩ | exact ⟨_, h.f4⟩ | exact ⟨_, h.f5⟩ | exact ⟨_, h.f6⟩ | exact ⟨_, h.f7⟩ | exact ⟨_, h.f8⟩ | exact ⟨_, h.f9⟩ | exact ⟨_, h.f10⟩ | exact ⟨_, h.f11⟩ | exact ⟨_, h.f12⟩ | exact ⟨_, h.f13⟩ | exact ⟨_, h.f14⟩ | exact ⟨_, h.f15⟩)⟩
  refine wpAnyG_pure (i := 0) (oi := ⟨some 5, _, _, _, _, _⟩) (v := ?_) rfl (by kernel_rfl) (by kernel_rfl) (by kernel_rfl) (by rfl) (fun _ _ _ h => h) (by rfl) ?_ ?_
  rotate_left
  · intro w
    go_simp
    first | done | with_reducible rfl
  try simp only [Act.put, List.setIfInBounds_toArray, List.set_cons_zero, List.set_cons_succ]
  refine wpAnyG_pure (i := 1) (oi := ⟨some 6, _, _, _, _, _⟩) (v := ?_) rfl (by kernel_rfl) (by kernel_rfl) (by kernel_rfl) (by rfl) (fun _ _ _ h => h) (by rfl) ?_ ?_
  rotate_left
  · intro w
    go_simp
    first | done | with_reducible rfl
  try simp only [Act.put, List.setIfInBounds_toArray, List.set_cons_zero, List.set_cons_succ]
  refine wpAnyG_pure (i := 2) (oi := ⟨some 7, _, _, _, _, _⟩) (v := ?_) rfl (by kernel_rfl) (by kernel_rfl) (by kernel_rfl) (by rfl) (fun _ _ _ h => h) (by rfl) ?_ ?_
  rotate_left
  · intro w
    go_simp
    first | done | with_reducible rfl
  try simp only [Act.put, List.setIfInBounds_toArray, List.set_cons_zero, List.set_cons_succ]
  refine wpAnyG_pure (i := 3) (oi := ⟨some 8, _, _, _, _, _⟩) (v := ?_) rfl (by kernel_rfl) (by kernel_rfl) (by kernel_rfl) (by rfl) (fun _ _ _ h => h) (by rfl) ?_ ?_
  rotate_left
  · intro w
    go_simp
    first | done | with_reducible rfl
  try simp only [Act.put, List.setIfInBounds_toArray, List.set_cons_zero, List.set_cons_succ]
  refine wpAnyG_load (i := 4) (oi := ⟨some 9, _, _, _, _, _⟩) (v := ?_) rfl (by kernel_rfl) (by kernel_rfl) (by kernel_rfl) (by rfl) (fun _ _ _ h => h) (by rfl) ?_ (by assumption) ?_
  rotate_left
  · intro w hS
    try dsimp only at hS
    go_simp
    first | done | with_reducible rfl
  try simp only [Act.put, List.setIfInBounds_toArray, List.set_cons_zero, List.set_cons_succ]
  refine wpAnyG_pure (i := 5) (oi := ⟨some 10, _, _, _, _, _⟩) (v := ?_) rfl (by kernel_rfl) (by kernel_rfl) (by kernel_rfl) (by rfl) (fun _ _ _ h => h) (by rfl) ?_ ?_
  rotate_left
  · intro w
    go_simp
    first | done | with_reducible rfl
  try simp only [Act.put, List.setIfInBounds_toArray, List.set_cons_zero, List.set_cons_succ]
  refine wpAnyG_load (i := 6) (oi := ⟨some 11, _, _, _, _, _⟩) (v := ?_) rfl (by kernel_rfl) (by kernel_rfl) (by kernel_rfl) (by rfl) (fun _ _ _ h => h) (by rfl) ?_ (by assumption) ?_
  rotate_left
  · intro w hS
    try dsimp only at hS
    go_simp
    first | done | with_reducible rfl
  try simp only [Act.put, List.setIfInBounds_toArray, List.set_cons_zero, List.set_cons_succ]
  refine wpAnyG_keep (i := 7) (oi := ⟨some 12, _, _, _, _, _⟩) (by kernel_rfl) rfl (fun K hK => ?_)
  rw [if_pos (by rfl)]
  have h0 := h
  have h := h.alloc (.cells #[.slice A p.links.length c] LIT)
  go_simp
  refine hK.out _ _ ?_ (fun hS => ?_)
  · exact ⟨HB2.out _ (by first | exact ⟨_, h⟩ | exact ⟨_, h.f1⟩ | exact ⟨_, h.f2⟩ | exact ⟨_, h.f3⟩ | exact ⟨_, h.f4⟩ | exact ⟨_, h.f5⟩ | exact ⟨_, h.f6⟩ | exact ⟨_, h.f7⟩ | exact ⟨_, h.f8⟩ | exact ⟨_, h.f9⟩ | exact ⟨_, h.f10⟩ | exact ⟨_, h.f11⟩ | exact ⟨_, h.f12⟩ | exact ⟨_, h.f13⟩ | exact ⟨_, h.f14⟩ | exact ⟨_, h.f15⟩), HG.out _ (by first | exact ⟨_, h⟩ | exact ⟨_, h.f1⟩ | exact ⟨_, h.f2⟩ | exact ⟨_, h.f3⟩ | exact ⟨_, h.f4⟩ | exact ⟨_, h.f5⟩ | exact ⟨_, h.f6⟩ | exact ⟨_, h.f7⟩ | exact ⟨_, h.f8⟩ | exact ⟨_, h.f9⟩ | exact ⟨_, h.f10⟩ | exact ⟨_, h.f11⟩ | exact ⟨_, h.f12⟩ | exact ⟨_, h.f13⟩ | exact ⟨_, h.f14⟩ | exact ⟨_, h.f15⟩)⟩
  clear hK K
  try simp only [Act.put, List.setIfInBounds_toArray, List.set_cons_zero, List.set_cons_succ]
  refine wpAnyG_keep (i := 8) (oi := ⟨some 13, _, _, _, _, _⟩) (by kernel_rfl) rfl (fun K hK => ?_)
  rw [if_pos (by rfl)]
  clear h
  obtain ⟨v6, w6, hap, h⟩ := lst_append_new (P := Tryz.prog) (t := LLIT) (ty := LLIT) llit_u sit_info (by rfl) h0 #[.slice A p.links.length c] 1 rfl (by simp [Value.oneCell']) (by unfold maxLen; rw [List.length_map]; omega) (by rw [List.length_map]; omega)
  refine wp_append_run hap rfl rfl rfl ?_
  obtain ⟨B2, d2, rfl, -⟩ := h.lstSlice
  have e9 : (B.n.map Rc.v ++ (#[.slice A p.links.length c] : Array Value).toList).length = B.n.length + 1 := by simp
  rw [e9] at h ⊢
  refine hK.out _ _ ?_ (fun hS => ?_)
  · exact ⟨HB2.out _ (by first | exact ⟨_, h⟩ | exact ⟨_, h.f1⟩ | exact ⟨_, h.f2⟩ | exact ⟨_, h.f3⟩ | exact ⟨_, h.f4⟩ | exact ⟨_, h.f5⟩ | exact ⟨_, h.f6⟩ | exact ⟨_, h.f7⟩ | exact ⟨_, h.f8⟩ | exact ⟨_, h.f9⟩ | exact ⟨_, h.f10⟩ | exact ⟨_, h.f11⟩ | exact ⟨_, h.f12⟩ | exact ⟨_, h.f13⟩ | exact ⟨_, h.f14⟩ | exact ⟨_, h.f15⟩), HG.out _ (by first | exact ⟨_, h⟩ | exact ⟨_, h.f1⟩ | exact ⟨_, h.f2⟩ | exact ⟨_, h.f3⟩ | exact ⟨_, h.f4⟩ | exact ⟨_, h.f5⟩ | exact ⟨_, h.f6⟩ | exact ⟨_, h.f7⟩ | exact ⟨_, h.f8⟩ | exact ⟨_, h.f9⟩ | exact ⟨_, h.f10⟩ | exact ⟨_, h.f11⟩ | exact ⟨_, h.f12⟩ | exact ⟨_, h.f13⟩ | exact ⟨_, h.f14⟩ | exact ⟨_, h.f15⟩)⟩
  clear hK K
  try simp only [Act.put, List.setIfInBounds_toArray, List.set_cons_zero, List.set_cons_succ]
  refine wpAnyG_pure (i := 9) (oi := ⟨some 14, _, _, _, _, _⟩) (v := ?_) rfl (by kernel_rfl) (by kernel_rfl) (by kernel_rfl) (by rfl) (fun _ _ _ h => h) (by rfl) ?_ ?_
  rotate_left
  · intro w
    go_simp
    first | done | with_reducible rfl
  try simp only [Act.put, List.setIfInBounds_toArray, List.set_cons_zero, List.set_cons_succ]
  refine wpAnyG_pure (i := 10) (oi := ⟨some 15, _, _, _, _, _⟩) (v := ?_) rfl (by kernel_rfl) (by kernel_rfl) (by kernel_rfl) (by rfl) (fun _ _ _ h => h) (by rfl) ?_ ?_
  rotate_left
  · intro w
    go_simp
    first | done | with_reducible rfl
  try simp only [Act.put, List.setIfInBounds_toArray, List.set_cons_zero, List.set_cons_succ]
  refine wpAnyG_break (i := 11) (oi := ⟨none, _, _, _, _, _⟩) (by kernel_rfl) rfl (by kernel_rfl) (fun K hK => ?_)
  rw [if_pos (by rfl)]
  first | have h := (h : Own _ _ (Hp.blk b BKT _ :: _)) | have h := (h.f1 : Own _ _ (Hp.blk b BKT _ :: _)) | have h := (h.f2 : Own _ _ (Hp.blk b BKT _ :: _)) | have h := (h.f3 : Own _ _ (Hp.blk b BKT _ :: _)) | have h := (h.f4 : Own _ _ (Hp.blk b BKT _ :: _)) | have h := (h.f5 : Own _ _ (Hp.blk b BKT _ :: _)) | have h := (h.f6 : Own _ _ (Hp.blk b BKT _ :: _)) | have h := (h.f7 : Own _ _ (Hp.blk b BKT _ :: _)) | have h := (h.f8 : Own _ _ (Hp.blk b BKT _ :: _)) | have h := (h.f9 : Own _ _ (Hp.blk b BKT _ :: _)) | have h := (h.f10 : Own _ _ (Hp.blk b BKT _ :: _)) | have h := (h.f11 : Own _ _ (Hp.blk b BKT _ :: _)) | have h := (h.f12 : Own _ _ (Hp.blk b BKT _ :: _)) | have h := (h.f13 : Own _ _ (Hp.blk b BKT _ :: _)) | have h := (h.f14 : Own _ _ (Hp.blk b BKT _ :: _)) | have h := (h.f15 : Own _ _ (Hp.blk b BKT _ :: _))
  have f5 := h.cell 2
  have f6 := h.frozen 2
  have h := h.set 2 (.slice B2 (B.n.length + 1) d2)
  go_simp
  refine hK.out _ _ ?_
  clear hK K
  try simp only [Act.put]
  refine wpAnyG_done (by kernel_rfl) ?_ _
  refine NoPanic.normal ?_
  have h : Own E _ (Hp.blk b BKT #[q0, q1, .slice B2 (B.n.length + 1) d2, .slice A3 B.n.length c3] :: _) := h
  generalize World.setCell _ _ _ = w22 at h ⊢
  clear HB2
  go_wp2_with fail
  have HB3 : Hid (∀ w', (∃ L', Own E w' (Hp.blk b BKT #[q0, q1, .slice B2 (B.n.length + 1) d2, .slice A3 B.n.length c3] :: L')) → w'.cell? ⟨b, 3, none⟩ = some (.slice A3 B.n.length c3)) := Lib.hid fun w' hw => by
    obtain ⟨_, hw⟩ := hw
    exact hw.cell 3
  have h := h.drew
  refine wp_region_text [4, 7] (fun w' => w'.cell? ⟨b, 3, none⟩ = some (.slice A3 B.n.length c3) ∧ w'.cell? ⟨g, 3, none⟩ = some (.slice A p.links.length c)) (by kernel_rfl) ?_ (fun hS => ?_)
  · exact ⟨HB3.out _ (by first | exact ⟨_, h⟩ | exact ⟨_, h.f1⟩ | exact ⟨_, h.f2⟩ | exact ⟨_, h.f3⟩ | exact ⟨_, h.f4⟩ | exact ⟨_, h.f5⟩ | exact ⟨_, h.f6⟩ | exact ⟨_, h.f7⟩ | exact ⟨_, h.f8⟩ | exact ⟨_, h.f9⟩ | exact ⟨_, h.f10⟩ | exact ⟨_, h.f11⟩ | exact ⟨_, h.f12⟩ | exact ⟨_, h.f13⟩ | exact ⟨_, h.f14⟩ | exact ⟨_, h.f15⟩), HG.out _ (by first | exact ⟨_, h⟩ | exact ⟨_, h.f1⟩ | exact ⟨_, h.f2⟩ | exact ⟨_, h.f3⟩ | exact ⟨_, h.f4⟩ | exact ⟨_, h.f5⟩ | exact ⟨_, h.f6⟩ | exact ⟨_, h.f7⟩ | exact ⟨_, h.f8⟩ | exact ⟨_, h.f9⟩ | exact ⟨_, h.f10⟩ | exact ⟨_, h.f11⟩ | exact ⟨_, h.f12⟩ | exact ⟨_, h.f13⟩ | exact ⟨_, h.f14⟩ | exact ⟨_, h.f15⟩)⟩
  refine wpAnyG_pure (i := 0) (oi := ⟨some 16, _, _, _, _, _⟩) (v := ?_) rfl (by kernel_rfl) (by kernel_rfl) (by kernel_rfl) (by rfl) (fun _ _ _ h => h) (by rfl) ?_ ?_
  rotate_left
  · intro w
    go_simp
    first | done | with_reducible rfl
  try simp only [Act.put, List.setIfInBounds_toArray, List.set_cons_zero, List.set_cons_succ]
  refine wpAnyG_pure (i := 1) (oi := ⟨some 17, _, _, _, _, _⟩) (v := ?_) rfl (by kernel_rfl) (by kernel_rfl) (by kernel_rfl) (by rfl) (fun _ _ _ h => h) (by rfl) ?_ ?_
  rotate_left
  · intro w
    go_simp
    first | done | with_reducible rfl
  try simp only [Act.put, List.setIfInBounds_toArray, List.set_cons_zero, List.set_cons_succ]
  refine wpAnyG_pure (i := 2) (oi := ⟨some 18, _, _, _, _, _⟩) (v := ?_) rfl (by kernel_rfl) (by kernel_rfl) (by kernel_rfl) (by rfl) (fun _ _ _ h => h) (by rfl) ?_ ?_
  rotate_left
  · intro w
    go_simp
    first | done | with_reducible rfl
  try simp only [Act.put, List.setIfInBounds_toArray, List.set_cons_zero, List.set_cons_succ]
  refine wpAnyG_pure (i := 3) (oi := ⟨some 19, _, _, _, _, _⟩) (v := ?_) rfl (by kernel_rfl) (by kernel_rfl) (by kernel_rfl) (by rfl) (fun _ _ _ h => h) (by rfl) ?_ ?_
  rotate_left
  · intro w
    go_simp
    first | done | with_reducible rfl
  try simp only [Act.put, List.setIfInBounds_toArray, List.set_cons_zero, List.set_cons_succ]
  refine wpAnyG_load (i := 4) (oi := ⟨some 20, _, _, _, _, _⟩) (v := ?_) rfl (by kernel_rfl) (by kernel_rfl) (by kernel_rfl) (by rfl) (fun _ _ _ h => h) (by rfl) ?_ (by assumption) ?_
  rotate_left
  · intro w hS
    try dsimp only at hS
    go_simp
    first | done | with_reducible rfl
  try simp only [Act.put, List.setIfInBounds_toArray, List.set_cons_zero, List.set_cons_succ]
  refine wpAnyG_pure (i := 5) (oi := ⟨some 21, _, _, _, _, _⟩) (v := ?_) rfl (by kernel_rfl) (by kernel_rfl) (by kernel_rfl) (by rfl) (fun _ _ _ h => h) (by rfl) ?_ ?_
  rotate_left
  · intro w
    go_simp
    first | done | with_reducible rfl
  try simp only [Act.put, List.setIfInBounds_toArray, List.set_cons_zero, List.set_cons_succ]
  refine wpAnyG_pure (i := 6) (oi := ⟨some 22, _, _, _, _, _⟩) (v := ?_) rfl (by kernel_rfl) (by kernel_rfl) (by kernel_rfl) (by rfl) (fun _ _ _ h => h) (by rfl) ?_ ?_
  rotate_left
  · intro w
    go_simp
    first | done | with_reducible rfl
  try simp only [Act.put, List.setIfInBounds_toArray, List.set_cons_zero, List.set_cons_succ]
  refine wpAnyG_load (i := 7) (oi := ⟨some 23, _, _, _, _, _⟩) (v := ?_) rfl (by kernel_rfl) (by kernel_rfl) (by kernel_rfl) (by rfl) (fun _ _ _ h => h) (by rfl) ?_ (by assumption) ?_
  rotate_left
  · intro w hS
    try dsimp only at hS
    go_simp
    first | done | with_reducible rfl
  try simp only [Act.put, List.setIfInBounds_toArray, List.set_cons_zero, List.set_cons_succ]
  refine wpAnyG_keep (i := 8) (oi := ⟨some 24, _, _, _, _, _⟩) (by kernel_rfl) rfl (fun K hK => ?_)
  rw [if_pos (by rfl)]
  first | have h := (h : Own _ _ (Hp.ints (.slice A p.links.length c) p.links :: _)) | have h := (h.f1 : Own _ _ (Hp.ints (.slice A p.links.length c) p.links :: _)) | have h := (h.f2 : Own _ _ (Hp.ints (.slice A p.links.length c) p.links :: _)) | have h := (h.f3 : Own _ _ (Hp.ints (.slice A p.links.length c) p.links :: _)) | have h := (h.f4 : Own _ _ (Hp.ints (.slice A p.links.length c) p.links :: _)) | have h := (h.f5 : Own _ _ (Hp.ints (.slice A p.links.length c) p.links :: _)) | have h := (h.f6 : Own _ _ (Hp.ints (.slice A p.links.length c) p.links :: _)) | have h := (h.f7 : Own _ _ (Hp.ints (.slice A p.links.length c) p.links :: _)) | have h := (h.f8 : Own _ _ (Hp.ints (.slice A p.links.length c) p.links :: _)) | have h := (h.f9 : Own _ _ (Hp.ints (.slice A p.links.length c) p.links :: _)) | have h := (h.f10 : Own _ _ (Hp.ints (.slice A p.links.length c) p.links :: _)) | have h := (h.f11 : Own _ _ (Hp.ints (.slice A p.links.length c) p.links :: _)) | have h := (h.f12 : Own _ _ (Hp.ints (.slice A p.links.length c) p.links :: _)) | have h := (h.f13 : Own _ _ (Hp.ints (.slice A p.links.length c) p.links :: _)) | have h := (h.f14 : Own _ _ (Hp.ints (.slice A p.links.length c) p.links :: _)) | have h := (h.f15 : Own _ _ (Hp.ints (.slice A p.links.length c) p.links :: _))
  have hrd := h.lstRdC
  obtain ⟨v7, w7, hap, h⟩ := lst_append (P := Tryz.prog) (t := LIT) (ty := LIT) lit_u it_info (by rfl) (h.emptyLst IT none) A p.links.length c (p.links.map VI) (by rw [List.length_map]) hrd (VI_one _) (by unfold maxLen; simp; omega) (by simp; omega)
  rw [List.nil_append] at h
  clear hrd
  refine wp_append_run hap rfl rfl rfl ?_
  obtain ⟨A7, c7, rfl, -⟩ := h.lstSlice
  rw [List.length_map] at h ⊢
  refine hK.out _ _ ?_ (fun hS => ?_)
  · exact ⟨HB3.out _ (by first | exact ⟨_, h⟩ | exact ⟨_, h.f1⟩ | exact ⟨_, h.f2⟩ | exact ⟨_, h.f3⟩ | exact ⟨_, h.f4⟩ | exact ⟨_, h.f5⟩ | exact ⟨_, h.f6⟩ | exact ⟨_, h.f7⟩ | exact ⟨_, h.f8⟩ | exact ⟨_, h.f9⟩ | exact ⟨_, h.f10⟩ | exact ⟨_, h.f11⟩ | exact ⟨_, h.f12⟩ | exact ⟨_, h.f13⟩ | exact ⟨_, h.f14⟩ | exact ⟨_, h.f15⟩), HG.out _ (by first | exact ⟨_, h⟩ | exact ⟨_, h.f1⟩ | exact ⟨_, h.f2⟩ | exact ⟨_, h.f3⟩ | exact ⟨_, h.f4⟩ | exact ⟨_, h.f5⟩ | exact ⟨_, h.f6⟩ | exact ⟨_, h.f7⟩ | exact ⟨_, h.f8⟩ | exact ⟨_, h.f9⟩ | exact ⟨_, h.f10⟩ | exact ⟨_, h.f11⟩ | exact ⟨_, h.f12⟩ | exact ⟨_, h.f13⟩ | exact ⟨_, h.f14⟩ | exact ⟨_, h.f15⟩)⟩
  clear hK K
  try simp only [Act.put, List.setIfInBounds_toArray, List.set_cons_zero, List.set_cons_succ]
  refine wpAnyG_keep (i := 9) (oi := ⟨some 25, _, _, _, _, _⟩) (by kernel_rfl) rfl (fun K hK => ?_)
  rw [if_pos (by rfl)]
  first | have h := (h : Own _ _ (Hp.lst LIT (.slice A3 B.n.length c3) (B.n.map Rc.wv) :: _)) | have h := (h.f1 : Own _ _ (Hp.lst LIT (.slice A3 B.n.length c3) (B.n.map Rc.wv) :: _)) | have h := (h.f2 : Own _ _ (Hp.lst LIT (.slice A3 B.n.length c3) (B.n.map Rc.wv) :: _)) | have h := (h.f3 : Own _ _ (Hp.lst LIT (.slice A3 B.n.length c3) (B.n.map Rc.wv) :: _)) | have h := (h.f4 : Own _ _ (Hp.lst LIT (.slice A3 B.n.length c3) (B.n.map Rc.wv) :: _)) | have h := (h.f5 : Own _ _ (Hp.lst LIT (.slice A3 B.n.length c3) (B.n.map Rc.wv) :: _)) | have h := (h.f6 : Own _ _ (Hp.lst LIT (.slice A3 B.n.length c3) (B.n.map Rc.wv) :: _)) | have h := (h.f7 : Own _ _ (Hp.lst LIT (.slice A3 B.n.length c3) (B.n.map Rc.wv) :: _)) | have h := (h.f8 : Own _ _ (Hp.lst LIT (.slice A3 B.n.length c3) (B.n.map Rc.wv) :: _)) | have h := (h.f9 : Own _ _ (Hp.lst LIT (.slice A3 B.n.length c3) (B.n.map Rc.wv) :: _)) | have h := (h.f10 : Own _ _ (Hp.lst LIT (.slice A3 B.n.length c3) (B.n.map Rc.wv) :: _)) | have h := (h.f11 : Own _ _ (Hp.lst LIT (.slice A3 B.n.length c3) (B.n.map Rc.wv) :: _)) | have h := (h.f12 : Own _ _ (Hp.lst LIT (.slice A3 B.n.length c3) (B.n.map Rc.wv) :: _)) | have h := (h.f13 : Own _ _ (Hp.lst LIT (.slice A3 B.n.length c3) (B.n.map Rc.wv) :: _)) | have h := (h.f14 : Own _ _ (Hp.lst LIT (.slice A3 B.n.length c3) (B.n.map Rc.wv) :: _)) | have h := (h.f15 : Own _ _ (Hp.lst LIT (.slice A3 B.n.length c3) (B.n.map Rc.wv) :: _))
  have h0 := h
  have h := h.alloc (.cells #[.slice A7 p.links.length c7] LIT)
  go_simp
  refine hK.out _ _ ?_ (fun hS => ?_)
  · exact ⟨HB3.out _ (by first | exact ⟨_, h⟩ | exact ⟨_, h.f1⟩ | exact ⟨_, h.f2⟩ | exact ⟨_, h.f3⟩ | exact ⟨_, h.f4⟩ | exact ⟨_, h.f5⟩ | exact ⟨_, h.f6⟩ | exact ⟨_, h.f7⟩ | exact ⟨_, h.f8⟩ | exact ⟨_, h.f9⟩ | exact ⟨_, h.f10⟩ | exact ⟨_, h.f11⟩ | exact ⟨_, h.f12⟩ | exact ⟨_, h.f13⟩ | exact ⟨_, h.f14⟩ | exact ⟨_, h.f15⟩), HG.out _ (by first | exact ⟨_, h⟩ | exact ⟨_, h.f1⟩ | exact ⟨_, h.f2⟩ | exact ⟨_, h.f3⟩ | exact ⟨_, h.f4⟩ | exact ⟨_, h.f5⟩ | exact ⟨_, h.f6⟩ | exact ⟨_, h.f7⟩ | exact ⟨_, h.f8⟩ | exact ⟨_, h.f9⟩ | exact ⟨_, h.f10⟩ | exact ⟨_, h.f11⟩ | exact ⟨_, h.f12⟩ | exact ⟨_, h.f13⟩ | exact ⟨_, h.f14⟩ | exact ⟨_, h.f15⟩)⟩
  clear hK K
  try simp only [Act.put, List.setIfInBounds_toArray, List.set_cons_zero, List.set_cons_succ]
  refine wpAnyG_keep (i := 10) (oi := ⟨some 26, _, _, _, _, _⟩) (by kernel_rfl) rfl (fun K hK => ?_)
  rw [if_pos (by rfl)]
  clear h
  obtain ⟨v6, w6, hap, h⟩ := lst_append_new (P := Tryz.prog) (t := LLIT) (ty := LLIT) llit_u sit_info (by rfl) h0 #[.slice A7 p.links.length c7] 1 rfl (by simp [Value.oneCell']) (by unfold maxLen; rw [List.length_map]; omega) (by rw [List.length_map]; omega)
  refine wp_append_run hap rfl rfl rfl ?_
  obtain ⟨B3, d3, rfl, -⟩ := h.lstSlice
  have e9 : (B.n.map Rc.wv ++ (#[.slice A7 p.links.length c7] : Array Value).toList).length = B.n.length + 1 := by simp
  rw [e9] at h ⊢
  refine hK.out _ _ ?_ (fun hS => ?_)
  · exact ⟨HB3.out _ (by first | exact ⟨_, h⟩ | exact ⟨_, h.f1⟩ | exact ⟨_, h.f2⟩ | exact ⟨_, h.f3⟩ | exact ⟨_, h.f4⟩ | exact ⟨_, h.f5⟩ | exact ⟨_, h.f6⟩ | exact ⟨_, h.f7⟩ | exact ⟨_, h.f8⟩ | exact ⟨_, h.f9⟩ | exact ⟨_, h.f10⟩ | exact ⟨_, h.f11⟩ | exact ⟨_, h.f12⟩ | exact ⟨_, h.f13⟩ | exact ⟨_, h.f14⟩ | exact ⟨_, h.f15⟩), HG.out _ (by first | exact ⟨_, h⟩ | exact ⟨_, h.f1⟩ | exact ⟨_, h.f2⟩ | exact ⟨_, h.f3⟩ | exact ⟨_, h.f4⟩ | exact ⟨_, h.f5⟩ | exact ⟨_, h.f6⟩ | exact ⟨_, h.f7⟩ | exact ⟨_, h.f8⟩ | exact ⟨_, h.f9⟩ | exact ⟨_, h.f10⟩ | exact ⟨_, h.f11⟩ | exact ⟨_, h.f12⟩ | exact ⟨_, h.f13⟩ | exact ⟨_, h.f14⟩ | exact ⟨_, h.f15⟩)⟩
  clear hK K
  try simp only [Act.put, List.setIfInBounds_toArray, List.set_cons_zero, List.set_cons_succ]
  refine wpAnyG_pure (i := 11) (oi := ⟨some 27, _, _, _, _, _⟩) (v := ?_) rfl (by kernel_rfl) (by kernel_rfl) (by kernel_rfl) (by rfl) (fun _ _ _ h => h) (by rfl) ?_ ?_
  rotate_left
  · intro w
    go_simp
    first | done | with_reducible rfl
  try simp only [Act.put, List.setIfInBounds_toArray, List.set_cons_zero, List.set_cons_succ]
  refine wpAnyG_pure (i := 12) (oi := ⟨some 28, _, _, _, _, _⟩) (v := ?_) rfl (by kernel_rfl) (by kernel_rfl) (by kernel_rfl) (by rfl) (fun _ _ _ h => h) (by rfl) ?_ ?_
  rotate_left
  · intro w
    go_simp
    first | done | with_reducible rfl
  try simp only [Act.put, List.setIfInBounds_toArray, List.set_cons_zero, List.set_cons_succ]
  refine wpAnyG_break (i := 13) (oi := ⟨none, _, _, _, _, _⟩) (by kernel_rfl) rfl (by kernel_rfl) (fun K hK => ?_)
  rw [if_pos (by rfl)]
  first | have h := (h : Own _ _ (Hp.blk b BKT _ :: _)) | have h := (h.f1 : Own _ _ (Hp.blk b BKT _ :: _)) | have h := (h.f2 : Own _ _ (Hp.blk b BKT _ :: _)) | have h := (h.f3 : Own _ _ (Hp.blk b BKT _ :: _)) | have h := (h.f4 : Own _ _ (Hp.blk b BKT _ :: _)) | have h := (h.f5 : Own _ _ (Hp.blk b BKT _ :: _)) | have h := (h.f6 : Own _ _ (Hp.blk b BKT _ :: _)) | have h := (h.f7 : Own _ _ (Hp.blk b BKT _ :: _)) | have h := (h.f8 : Own _ _ (Hp.blk b BKT _ :: _)) | have h := (h.f9 : Own _ _ (Hp.blk b BKT _ :: _)) | have h := (h.f10 : Own _ _ (Hp.blk b BKT _ :: _)) | have h := (h.f11 : Own _ _ (Hp.blk b BKT _ :: _)) | have h := (h.f12 : Own _ _ (Hp.blk b BKT _ :: _)) | have h := (h.f13 : Own _ _ (Hp.blk b BKT _ :: _)) | have h := (h.f14 : Own _ _ (Hp.blk b BKT _ :: _)) | have h := (h.f15 : Own _ _ (Hp.blk b BKT _ :: _))
  have f5 := h.cell 3
  have f6 := h.frozen 3
  have h := h.set 3 (.slice B3 (B.n.length + 1) d3)
  go_simp
  refine hK.out _ _ ?_
  clear hK K
  try simp only [Act.put]
  refine wpAnyG_done (by kernel_rfl) ?_ _
  refine NoPanic.normal ?_
  have h : Own E _ (Hp.blk b BKT #[q0, q1, .slice B2 (B.n.length + 1) d2, .slice B3 (B.n.length + 1) d3] :: _) := h
  generalize World.setCell _ _ _ = w23 at h ⊢
  clear HB3
  go_wp2_with fail
  go_end0
  refine ⟨rfl, Rc.mk (.slice A p.links.length c) (.slice A7 p.links.length c7) p.links, rfl, ?_⟩
  first | have h := (h : Own _ _ (Hp.fams B :: _)) | have h := (h.f1 : Own _ _ (Hp.fams B :: _)) | have h := (h.f2 : Own _ _ (Hp.fams B :: _)) | have h := (h.f3 : Own _ _ (Hp.fams B :: _)) | have h := (h.f4 : Own _ _ (Hp.fams B :: _)) | have h := (h.f5 : Own _ _ (Hp.fams B :: _)) | have h := (h.f6 : Own _ _ (Hp.fams B :: _)) | have h := (h.f7 : Own _ _ (Hp.fams B :: _)) | have h := (h.f8 : Own _ _ (Hp.fams B :: _)) | have h := (h.f9 : Own _ _ (Hp.fams B :: _)) | have h := (h.f10 : Own _ _ (Hp.fams B :: _)) | have h := (h.f11 : Own _ _ (Hp.fams B :: _)) | have h := (h.f12 : Own _ _ (Hp.fams B :: _)) | have h := (h.f13 : Own _ _ (Hp.fams B :: _)) | have h := (h.f14 : Own _ _ (Hp.fams B :: _)) | have h := (h.f15 : Own _ _ (Hp.fams B :: _))
  first | have h := (h : Own _ _ (Hp.ints (.slice A7 p.links.length c7) p.links :: _)) | have h := (h.f1 : Own _ _ (Hp.ints (.slice A7 p.links.length c7) p.links :: _)) | have h := (h.f2 : Own _ _ (Hp.ints (.slice A7 p.links.length c7) p.links :: _)) | have h := (h.f3 : Own _ _ (Hp.ints (.slice A7 p.links.length c7) p.links :: _)) | have h := (h.f4 : Own _ _ (Hp.ints (.slice A7 p.links.length c7) p.links :: _)) | have h := (h.f5 : Own _ _ (Hp.ints (.slice A7 p.links.length c7) p.links :: _)) | have h := (h.f6 : Own _ _ (Hp.ints (.slice A7 p.links.length c7) p.links :: _)) | have h := (h.f7 : Own _ _ (Hp.ints (.slice A7 p.links.length c7) p.links :: _)) | have h := (h.f8 : Own _ _ (Hp.ints (.slice A7 p.links.length c7) p.links :: _)) | have h := (h.f9 : Own _ _ (Hp.ints (.slice A7 p.links.length c7) p.links :: _)) | have h := (h.f10 : Own _ _ (Hp.ints (.slice A7 p.links.length c7) p.links :: _)) | have h := (h.f11 : Own _ _ (Hp.ints (.slice A7 p.links.length c7) p.links :: _)) | have h := (h.f12 : Own _ _ (Hp.ints (.slice A7 p.links.length c7) p.links :: _)) | have h := (h.f13 : Own _ _ (Hp.ints (.slice A7 p.links.length c7) p.links :: _)) | have h := (h.f14 : Own _ _ (Hp.ints (.slice A7 p.links.length c7) p.links :: _)) | have h := (h.f15 : Own _ _ (Hp.ints (.slice A7 p.links.length c7) p.links :: _))
  first | have h := (h : Own _ _ (Hp.ints (.slice A p.links.length c) p.links :: _)) | have h := (h.f1 : Own _ _ (Hp.ints (.slice A p.links.length c) p.links :: _)) | have h := (h.f2 : Own _ _ (Hp.ints (.slice A p.links.length c) p.links :: _)) | have h := (h.f3 : Own _ _ (Hp.ints (.slice A p.links.length c) p.links :: _)) | have h := (h.f4 : Own _ _ (Hp.ints (.slice A p.links.length c) p.links :: _)) | have h := (h.f5 : Own _ _ (Hp.ints (.slice A p.links.length c) p.links :: _)) | have h := (h.f6 : Own _ _ (Hp.ints (.slice A p.links.length c) p.links :: _)) | have h := (h.f7 : Own _ _ (Hp.ints (.slice A p.links.length c) p.links :: _)) | have h := (h.f8 : Own _ _ (Hp.ints (.slice A p.links.length c) p.links :: _)) | have h := (h.f9 : Own _ _ (Hp.ints (.slice A p.links.length c) p.links :: _)) | have h := (h.f10 : Own _ _ (Hp.ints (.slice A p.links.length c) p.links :: _)) | have h := (h.f11 : Own _ _ (Hp.ints (.slice A p.links.length c) p.links :: _)) | have h := (h.f12 : Own _ _ (Hp.ints (.slice A p.links.length c) p.links :: _)) | have h := (h.f13 : Own _ _ (Hp.ints (.slice A p.links.length c) p.links :: _)) | have h := (h.f14 : Own _ _ (Hp.ints (.slice A p.links.length c) p.links :: _)) | have h := (h.f15 : Own _ _ (Hp.ints (.slice A p.links.length c) p.links :: _))
  have h := HFIN.out _ _ (Rc.mk (.slice A p.links.length c) (.slice A7 p.links.length c7) p.links) h
  first | have h := (h : Own _ _ (Hp.blk g PT _ :: _)) | have h := (h.f1 : Own _ _ (Hp.blk g PT _ :: _)) | have h := (h.f2 : Own _ _ (Hp.blk g PT _ :: _)) | have h := (h.f3 : Own _ _ (Hp.blk g PT _ :: _)) | have h := (h.f4 : Own _ _ (Hp.blk g PT _ :: _)) | have h := (h.f5 : Own _ _ (Hp.blk g PT _ :: _)) | have h := (h.f6 : Own _ _ (Hp.blk g PT _ :: _)) | have h := (h.f7 : Own _ _ (Hp.blk g PT _ :: _)) | have h := (h.f8 : Own _ _ (Hp.blk g PT _ :: _)) | have h := (h.f9 : Own _ _ (Hp.blk g PT _ :: _)) | have h := (h.f10 : Own _ _ (Hp.blk g PT _ :: _)) | have h := (h.f11 : Own _ _ (Hp.blk g PT _ :: _)) | have h := (h.f12 : Own _ _ (Hp.blk g PT _ :: _)) | have h := (h.f13 : Own _ _ (Hp.blk g PT _ :: _)) | have h := (h.f14 : Own _ _ (Hp.blk g PT _ :: _)) | have h := (h.f15 : Own _ _ (Hp.blk g PT _ :: _))
  have h := h.drop
  have e3 : B.n.map Rc.v ++ (#[.slice A p.links.length c] : Array Value).toList = (B.n ++ [Rc.mk (.slice A p.links.length c) (.slice A7 p.links.length c7) p.links]).map Rc.v := by simp
  have e4 : B.n.map Rc.wv ++ (#[.slice A7 p.links.length c7] : Array Value).toList = (B.n ++ [Rc.mk (.slice A p.links.length c) (.slice A7 p.links.length c7) p.links]).map Rc.wv := by simp
  rw [e3, e4] at h
  have h : Own E _ (Hp.blk b BKT _ :: Hp.lst LST q0 _ :: Hp.lst LST q1 _ :: Hp.lst LIT (.slice B2 (B.n.length + 1) d2) _ :: Hp.lst LIT (.slice B3 (B.n.length + 1) d3) _ :: Hp.fams _ :: Hp.ro S :: L) := h.ac (by simp only [Hp.all] <;> ac_rfl)
  exact h.toBk
end
end Go.Proofs.YtbclmmneiphcaaaGreatDoor
