/- slices.Insert of one bucket at the head: the walk. -/
import Derived.Test.YtnbpbonpcbemdaaLim8
namespace Go.Proofs.Ytnbpbonpcbemdaa
open Go.RowKit
section
variable {E : World} {L : List Hp}
theorem Own.shape {g : Nat} {t : TypeId} {cur : Array Value} {w : World} (h : Own E w (Hp.mk g t cur :: L)) (hc : 0 < cur.size) : ∃ tB k, k ≠ 0 ∧ w.shape? g = some (tB, k) := by
  obtain ⟨e, n, h1, h2, -⟩ := World.shape?_of_cell? (w := w) (a := ⟨g, 0, none⟩) (v := cur[0]) (by rw [h.mcell, Array.getElem?_eq_getElem hc])
  exact ⟨e, n, by have : 0 < n := h2; omega, h1⟩
theorem Own.bshape {g : Nat} {t : TypeId} {cur : Array Value} {w : World} (h : Own E w (Hp.blk g t cur :: L)) : w.shape? g = some (t, cur.size) := by
  unfold World.shape?; rw [h.at_]
theorem Own.bplain {g : Nat} {t : TypeId} {cur : Array Value} {w : World} (h : Own E w (Hp.blk g t cur :: L)) (k : Nat) : w.frozen? ⟨g, k, none⟩ = false := by
  unfold World.frozen?; rw [h.at_]; simp
theorem Own.mne {b c : Nat} {t t2 : TypeId} {cs ds : Array Value} {w : World} (h : Own E w (Hp.mk b t cs :: Hp.blk c t2 ds :: L)) : b ≠ c := by
  obtain ⟨fr, -, h⟩ := h.ofMk
  exact h.ne
set_option maxHeartbeats 8000000 in
theorem insert_any (l : List Bkt) (x : Bkt) (v : Value) (gv : Nat) (w : World) (hl : l.length ≤ 1000) (h : Own E w (Hp.row BKT 3 v l.length (l.flatMap enB) :: Hp.blk gv BKT #[.string x.name, .float .f32 x.level, .int .i64 x.at_] :: L)) :
    Calls Try.prog 28 #[v, .int .i64 0, .slice (some ⟨gv, 0, none⟩) 1 1] w fun e w' => ∃ v', e = .returned v' ∧ Own E w' (Hp.row BKT 3 v' (x :: l).length ((x :: l).flatMap enB) :: Hp.blk gv BKT #[.string x.name, .float .f32 x.level, .int .i64 x.at_] :: L) := by
  have hxr : RdC w (some ⟨gv, 0, none⟩) (enB x) := h.f1.rdc 0 (enB x) (fun j u hu => by simpa using hu)
  by_cases hl0 : l = []
  · subst hl0
    obtain ⟨A, c, rfl⟩ := h.lrow
    obtain ⟨v', w2, hap, h2, -⟩ := sl_append (P := Try.prog) (t := LBT) (ty := LBT) (by kernel_rfl) bt_info rfl (by omega) h (some ⟨gv, 0, none⟩) 1 1 (enB x) rfl hxr (enB_all1 x) (by decide) (by decide)
    have H := Lib.hid h2
    clear h h2 hxr
    go_enter Try.func28, Try.ntmps28
    go_wp2_with (with_reducible refine at_slot (k := some 25) ?_; refine wpList_append_run (o := ⟨some 25, _, _, _, _, _⟩) hap rfl rfl rfl rfl ?_; clear hap)
    go_ret
    exact ⟨_, rfl, H.out⟩
  obtain ⟨i, hi, hzz⟩ := Option.map_eq_some_iff.1 bt_info
  simp only [Prod.mk.injEq] at hzz
  obtain ⟨hz, hsize, hby⟩ := hzz
  have hn0 : 0 < l.length := List.length_pos_iff.2 hl0
  obtain ⟨-, ⟨_, h0, _, _⟩ | ⟨g, c, cur, hv, hnc, hcm, hcs, htk, ho⟩⟩ := h.rowForm
  · omega
  subst hv
  have hne := ho.mne
  obtain ⟨xs, hxs⟩ : ∃ xs, xs = l.flatMap enB := ⟨_, rfl⟩
  obtain ⟨n, hn⟩ : ∃ n, n = l.length := ⟨_, rfl⟩
  have hxl : xs.length = n * i.size := by rw [hxs, flat_len, hn, hsize]
  have hx1 : ∀ u ∈ xs, u.oneCell' = true := by rw [hxs]; exact flat_all1 l
  have hfl : (x :: l).flatMap enB = enB x ++ xs := by rw [List.flatMap_cons, hxs]
  have hll : (x :: l).length = n + 1 := by rw [hn]; rfl
  rw [hfl, hll]
  rw [← hxs] at htk
  rw [← hn] at hnc htk hn0 hl ⊢
  have hcell : ∀ w', Own E w' (Hp.mk g BKT cur :: Hp.blk gv BKT #[.string x.name, .float .f32 x.level, .int .i64 x.at_] :: L) → ∀ j u, xs[j]? = some u → w'.cell? ((⟨g, 0, none⟩ : Addr).add j) = some u := fun w' ho j u hu => by
    rw [add_eq, ho.mcell, ← Array.getElem?_toList, Nat.zero_add]
    rw [← htk, List.getElem?_take] at hu
    split at hu
    · exact hu
    · cases hu
  have hcell' : ∀ w' M, Own E w' (Hp.mk g BKT cur :: M) → ∀ j u, xs[j]? = some u → w'.cell? ((⟨g, 0, none⟩ : Addr).add j) = some u := fun w' M ho j u hu => by
    rw [add_eq, ho.mcell, ← Array.getElem?_toList, Nat.zero_add]
    rw [← htk, List.getElem?_take] at hu
    split at hu
    · exact hu
    · cases hu
  have hxc : ∀ w' M, Own E w' (Hp.blk gv BKT #[.string x.name, .float .f32 x.level, .int .i64 x.at_] :: M) → ∀ j u, (enB x)[j]? = some u → w'.cell? ((⟨gv, 0, none⟩ : Addr).add j) = some u := fun w' M ho j u hu => by
    rw [add_eq, Nat.zero_add, ho.cell]
    simpa using hu
  have hx3 : (enB x).length = 1 * i.size := by rw [hsize]; rfl
  have hc2 := hcm
  unfold maxLen at hcm
  have j0 : ((n : Int) == 0) = false := by rw [beq_eq_false_iff_ne]; omega
  have j1 : ¬ (0 : Int) = n := by omega
  have j2 : (0 : Int) ≤ (n : Int) + 1 := by omega
  have j3 : (1 : Int) ≤ (n : Int) + 1 := by omega
  have j4 : (0 : Int) ≤ (n : Int) := by omega
  have jw1 : IntKind.i64.wrap (1 : Int) = 1 := rfl
  have jw : IntKind.i64.wrap ((n : Int) + 1) = (n : Int) + 1 := IntWalk.i64_in _ (by omega)
  by_cases hroom : n + 1 ≤ c
  · have k1 : ¬ (c : Int) < (n : Int) + 1 := by omega
    have k2 : (n : Int) + 1 ≤ c := by omega
    have k3 : n + 1 ≤ c := hroom
    have k4 : ¬ c = 1 := by omega
    have k5 : ¬ c = 0 := by omega
    have hm3 : 3 + xs.length ≤ cur.size := by rw [hxl, hsize, hcs]; omega
    have hcp1 := fun dc sc ty => sl_copyM (P := Try.prog) (t := LBT) (ty := ty) (off := 3) (by kernel_rfl) hi ho.drew n dc (n + 1) sc n ⟨g, 0, none⟩ xs (Nat.min_eq_right (by omega)) hxl (hcell _ ho.drew) hx1 hm3
    have ho2 := ho.drew.msetCells xs 3
    obtain ⟨w2, hw2⟩ : ∃ w2, w2 = w.drew.setCells g 3 xs := ⟨_, rfl⟩
    rw [← hw2] at hcp1 ho2
    have hcp2 := fun dc ty => sl_copyM (P := Try.prog) (t := LBT) (ty := ty) (off := 0) (by kernel_rfl) hi ho2 (n + 1) dc 1 1 1 ⟨gv, 0, none⟩ (enB x) (Nat.min_eq_left (by omega)) hx3 (hxc _ _ ho2.f1) (enB_all1 x) (by rw [putArr_size, hx3, hsize, hcs]; omega)
    have ho3 := ho2.msetCells (enB x) 0
    have hfin : (putArr (putArr cur 3 xs) 0 (enB x)).toList.take ((n + 1) * 3) = enB x ++ xs := by
      have s1 : putArr cur 3 xs = (splice cur.toList 3 xs).toArray := by
        have := putArr_splice cur.toList xs 3 (by simpa using hm3)
        rwa [toArr] at this
      have l2 : cur.toList.length = c * 3 := by simpa using hcs
      have l1 : (splice cur.toList 3 xs).length = c * 3 := by rw [splice_len _ _ _ (by simpa using hm3), l2]
      rw [s1, putArr_splice _ _ _ (by rw [l1, hx3, hsize]; omega)]
      show List.take _ (splice _ _ _) = _
      have e0 : splice (splice cur.toList 3 xs) 0 (enB x) = enB x ++ (splice cur.toList 3 xs).drop 3 := by
        unfold splice; simp
      have e1 : (n + 1) * 3 = (enB x).length + n * 3 := by show _ = 3 + _; omega
      rw [e0, e1, List.take_length_add_append]
      congr 1
      have e2 : splice cur.toList 3 xs = cur.toList.take 3 ++ (xs ++ cur.toList.drop (3 + xs.length)) := by
        unfold splice; first | rfl | rw [List.append_assoc]
      have e3 : (cur.toList.take 3).length = 3 := by rw [List.length_take, l2]; omega
      rw [e2]
      have e4 : ∀ R : List Value, (cur.toList.take 3 ++ R).drop 3 = R := fun R => by
        have := List.drop_left (l₁ := cur.toList.take 3) (l₂ := R)
        rwa [e3] at this
      rw [e4]
      have e5 : n * 3 = xs.length := by rw [hxl, hsize]
      rw [e5]
      exact List.take_left
    have hrow := ho3.mtoRow 3 (n + 1) c (by omega) hc2 (by rw [putArr_size, putArr_size, hcs])
    rw [hfin] at hrow
    obtain ⟨tB, kB, hkB, hsb⟩ := ho.shape (by rw [hcs]; omega)
    have hsa := ho.f1.bshape
    have hov : ∀ lb cb, (callFunc 42 #[.slice (some ⟨gv, 0, none⟩) 1 1, .slice (some ⟨g, 3, none⟩) lb cb]).run Try.prog w = .ok (.value (.bool false)) w := fun lb cb => by
      rw [run_callFunc_extern (fn := Try.f42) (by kernel_rfl) (by kernel_rfl) (by kernel_rfl) (by kernel_rfl) (e := Extern.SlicesOverlaps.overlaps #[LBT, LBT] #[4]) (by kernel_rfl),
        Lib.run_overlaps_apart w LBT 4 BKT (by kernel_rfl) 3 (fun w => by simp [sizeOf, typeInfo, hi, hsize]) ⟨gv, 0, none⟩ ⟨g, 3, none⟩ 1 1 lb cb (by exact fun e => hne e.symm) BKT tB 3 kB hsa hsb hkB (ho.f1.bplain 0) (ho.f1.bplain 3)]
      rfl
    have HROW := Lib.hid hrow
    have HC1 := Lib.hid hcp1
    have HC2 := Lib.hid hcp2
    clear hfin hrow hcp1 hcp2 ho2 ho3 hcell hcell' hxc hxl hx1 hx3 htk ho hw2 hxs hn hz hsize hby hi hcs h hxr hm3 hfl hll hsa hsb hkB
    go_enter Try.func28, Try.ntmps28
    go_wp2_with (simp only [hov])
    refine wp_region_text [] (fun _ => True) (by kernel_rfl) ?_ (fun hS => ?_)
    · trivial
    refine wpAnyG_pure (i := 0) (oi := ⟨some 69, _, _, _, _, _⟩) (v := ?_) rfl (by kernel_rfl) (by kernel_rfl) (by kernel_rfl) (by rfl) (fun _ _ _ h => h) (by rfl) ?_ ?_
    rotate_left
    · intro w
      go_simp
      first | done | with_reducible rfl
    try simp only [Act.put, List.setIfInBounds_toArray, List.set_cons_zero, List.set_cons_succ]
    refine wpAnyG_pure (i := 1) (oi := ⟨some 70, _, _, _, _, _⟩) (v := ?_) rfl (by kernel_rfl) (by kernel_rfl) (by kernel_rfl) (by rfl) (fun _ _ _ h => h) (by rfl) ?_ ?_
    rotate_left
    · intro w
      go_simp
      first | done | with_reducible rfl
    try simp only [Act.put, List.setIfInBounds_toArray, List.set_cons_zero, List.set_cons_succ]
    refine wpAnyG_pure (i := 2) (oi := ⟨some 71, _, _, _, _, _⟩) (v := ?_) rfl (by kernel_rfl) (by kernel_rfl) (by kernel_rfl) (by rfl) (fun _ _ _ h => h) (by rfl) ?_ ?_
    rotate_left
    · intro w
      go_simp
      first | done | with_reducible rfl
    try simp only [Act.put, List.setIfInBounds_toArray, List.set_cons_zero, List.set_cons_succ]
    refine wpAnyG_pure (i := 3) (oi := ⟨some 72, _, _, _, _, _⟩) (v := ?_) rfl (by kernel_rfl) (by kernel_rfl) (by kernel_rfl) (by rfl) (fun _ _ _ h => h) (by rfl) ?_ ?_
    rotate_left
    · intro w
      go_simp
      first | done | with_reducible rfl
    try simp only [Act.put, List.setIfInBounds_toArray, List.set_cons_zero, List.set_cons_succ]
    refine wpAnyG_pure (i := 4) (oi := ⟨some 73, _, _, _, _, _⟩) (v := ?_) rfl (by kernel_rfl) (by kernel_rfl) (by kernel_rfl) (by rfl) (fun _ _ _ h => h) (by rfl) ?_ ?_
    rotate_left
    · intro w
      go_simp
      first | done | with_reducible rfl
    try simp only [Act.put, List.setIfInBounds_toArray, List.set_cons_zero, List.set_cons_succ]
    refine wpAnyG_pure (i := 5) (oi := ⟨some 74, _, _, _, _, _⟩) (v := ?_) rfl (by kernel_rfl) (by kernel_rfl) (by kernel_rfl) (by rfl) (fun _ _ _ h => h) (by rfl) ?_ ?_
    rotate_left
    · intro w
      go_simp
      first | done | with_reducible rfl
    try simp only [Act.put, List.setIfInBounds_toArray, List.set_cons_zero, List.set_cons_succ]
    refine wpAnyG_pure (i := 6) (oi := ⟨some 75, _, _, _, _, _⟩) (v := ?_) rfl (by kernel_rfl) (by kernel_rfl) (by kernel_rfl) (by rfl) (fun _ _ _ h => h) (by rfl) ?_ ?_
    rotate_left
    · intro w
      go_simp
      first | done | with_reducible rfl
    try simp only [Act.put, List.setIfInBounds_toArray, List.set_cons_zero, List.set_cons_succ]
    refine wpAnyG_pure (i := 7) (oi := ⟨some 76, _, _, _, _, _⟩) (v := ?_) rfl (by kernel_rfl) (by kernel_rfl) (by kernel_rfl) (by rfl) (fun _ _ _ h => h) (by rfl) ?_ ?_
    rotate_left
    · intro w
      go_simp
      first | done | with_reducible rfl
    try simp only [Act.put, List.setIfInBounds_toArray, List.set_cons_zero, List.set_cons_succ]
    refine wpAnyG_keep (i := 8) (oi := ⟨some 77, _, _, _, _, _⟩) (by kernel_rfl) rfl (fun K hK => ?_)
    rw [if_pos (by rfl)]
    refine wp_copy_run (HC1.out _ _ _) rfl rfl rfl ?_
    refine hK.out _ _ ?_ (fun hS => ?_)
    · trivial
    clear hK K
    try simp only [Act.put, List.setIfInBounds_toArray, List.set_cons_zero, List.set_cons_succ]
    refine wpAnyG_done (by kernel_rfl) ?_ _
    refine NoPanic.normal ?_
    go_wp2_with (with_reducible refine at_slot (k := some 82) ?_; refine wpList_copy_run (o := ⟨some 82, _, _, _, _, _⟩) (HC2.out _ _) rfl rfl rfl rfl ?_)
    go_ret
    exact ⟨_, rfl, HROW.out⟩
  · obtain rfl : c = n := by omega
    have k1 : (c : Int) < (c : Int) + 1 := by omega
    have hgr := fun ty => Lib.run_append_grow_zeros (P := Try.prog) w LBT 3 ty BKT i _ .i64 .i64 (by kernel_rfl) (by kernel_rfl) hi hz (some ⟨g, 0, none⟩) 0 c [] (run_firstCells_some (P := Try.prog) w.drew i.size 0 ⟨g, 0, none⟩ 0 c [] (by simp) (by intro j u hu; simp at hu)) (c + 1) (by omega) (by rw [hsize]; omega) (by omega) (by omega) (by rw [hby]; omega) (growslice_fits (by omega) (by rw [hby]; omega))
    have hge := grownCap_ge w (0 + (c + 1)) c BKT
    have hgm := grownCap_le_maxLen w (0 + (c + 1)) c BKT (by unfold maxLen; omega)
    generalize grownCap w (0 + (c + 1)) c BKT = gc at *
    obtain ⟨Z, hZ⟩ : ∃ Z : Array Value, Z = #[] ++ Builtin.zeroCells (Value.agg #[.string ⟨#[]⟩, .float .f32 0, .int .i64 0]).cells (c + 1) ++ Builtin.zeroCells (Value.agg #[.string ⟨#[]⟩, .float .f32 0, .int .i64 0]).cells (gc - (0 + (c + 1))) := ⟨_, rfl⟩
    have hZs : Z.size = gc * 3 := by
      rw [hZ]
      simp only [Array.size_append, size_zeroCells]
      show 0 + (c + 1) * 3 + (gc - (0 + (c + 1))) * 3 = gc * 3
      omega
    have hgr2 : ∀ ty, (Builtin.append_ #[LBT, 3] ty #[.slice (some ⟨g, 0, none⟩) 0 c, .int .i64 ((c : Int) + 1)]).run Try.prog w = .ok (.slice (some ⟨w.heap.size, 0, none⟩) (c + 1) gc) (w.drew.alloc (.cells Z BKT)) := fun ty => by
      have e := hgr ty
      rw [Nat.zero_add] at e
      rw [hZ, Nat.zero_add]
      exact e
    have h2 : Own E (w.drew.alloc (.cells Z BKT)) (Hp.blk w.heap.size BKT Z :: Hp.mk g BKT cur :: Hp.blk gv BKT #[.string x.name, .float .f32 x.level, .int .i64 x.at_] :: L) := ho.drew.alloc _
    obtain ⟨wA, hwA⟩ : ∃ wA, wA = w.drew.alloc (.cells Z BKT) := ⟨_, rfl⟩
    obtain ⟨g2, hg2⟩ : ∃ g2, g2 = w.heap.size := ⟨_, rfl⟩
    rw [← hwA] at hgr2 h2
    rw [← hg2] at hgr2 h2
    have h2 := h2.toMk
    have hcp1 := fun dc ty => sl_copyM (P := Try.prog) (t := LBT) (ty := ty) (off := 0) (by kernel_rfl) hi h2 (c + 1) dc 1 1 1 ⟨gv, 0, none⟩ (enB x) (Nat.min_eq_left (by omega)) hx3 (hxc _ _ h2.f2) (enB_all1 x) (by rw [hx3, hsize, hZs]; omega)
    have h3 := h2.msetCells (enB x) 0
    obtain ⟨wB, hwB⟩ : ∃ wB, wB = wA.setCells g2 0 (enB x) := ⟨_, rfl⟩
    rw [← hwB] at hcp1 h3
    have hcp2 := fun dc sc ty => sl_copyM (P := Try.prog) (t := LBT) (ty := ty) (off := 3) (by kernel_rfl) hi h3.drew c dc c sc c ⟨g, 0, none⟩ xs (Nat.min_eq_left (by omega)) hxl (hcell' _ _ h3.drew.f1) hx1 (by rw [putArr_size, hxl, hsize, hZs]; omega)
    have h4 := h3.drew.msetCells xs 3
    have hfin : (putArr (putArr Z 0 (enB x)) 3 xs).toList.take ((c + 1) * 3) = enB x ++ xs := by
      have l2 : Z.toList.length = gc * 3 := by simpa using hZs
      have e3 : (enB x).length = 3 := rfl
      have s1 : putArr Z 0 (enB x) = (splice Z.toList 0 (enB x)).toArray := by
        have := putArr_splice Z.toList (enB x) 0 (by rw [e3, l2]; omega)
        rwa [toArr] at this
      have l1 : (splice Z.toList 0 (enB x)).length = gc * 3 := by rw [splice_len _ _ _ (by rw [e3, l2]; omega), l2]
      have l3 : xs.length = c * 3 := by rw [hxl, hsize]
      rw [s1, putArr_splice _ _ _ (by rw [l1, l3]; omega)]
      show List.take _ (splice _ _ _) = _
      have e1 : (c + 1) * 3 = 3 + xs.length := by rw [l3]; omega
      rw [e1, splice_take _ _ _ (by rw [l1]; omega)]
      refine congrArg (· ++ xs) ?_
      have e4 := splice_take Z.toList (enB x) 0 (by omega)
      rw [e3, Nat.zero_add] at e4
      rw [e4]; rfl
    have hrow := h4.mtoRow 3 (c + 1) gc (by omega) hgm (by rw [putArr_size, putArr_size, hZs])
    rw [hfin] at hrow
    have hrow := hrow.f1.drop
    have HROW := Lib.hid hrow
    have HC1 := Lib.hid hcp1
    have HC2 := Lib.hid hcp2
    have HG := Lib.hid hgr2
    have k4 : ¬ gc = 1 := by omega
    have k6 : (0 : Int) ≤ (gc : Int) := by omega
    clear hfin hrow hcp1 hcp2 h2 h3 h4 hcell' hcell hxc hxl hx1 hx3 htk ho hwA hwB hxs hn hz hsize hby hi hcs h hxr hfl hll hgr hgr2 hZ hZs hg2 hge hgm
    go_enter Try.func28, Try.ntmps28
    go_wp2_with (first | (with_reducible refine at_slot (k := some 40) ?_; refine wpList_append_run (o := ⟨some 40, _, _, _, _, _⟩) (HG.out _) rfl rfl rfl rfl ?_) | (with_reducible refine at_slot (k := some 45) ?_; refine wpList_copy_run (o := ⟨some 45, _, _, _, _, _⟩) (HC1.out _ _) rfl rfl rfl rfl ?_))
    refine wp_region_text [] (fun _ => True) (by kernel_rfl) ?_ (fun hS => ?_)
    · trivial
    refine wpAnyG_pure (i := 0) (oi := ⟨some 46, _, _, _, _, _⟩) (v := ?_) rfl (by kernel_rfl) (by kernel_rfl) (by kernel_rfl) (by rfl) (fun _ _ _ h => h) (by rfl) ?_ ?_
    rotate_left
    · intro w
      go_simp
      first | done | with_reducible rfl
    try simp only [Act.put, List.setIfInBounds_toArray, List.set_cons_zero, List.set_cons_succ]
    refine wpAnyG_pure (i := 1) (oi := ⟨some 47, _, _, _, _, _⟩) (v := ?_) rfl (by kernel_rfl) (by kernel_rfl) (by kernel_rfl) (by rfl) (fun _ _ _ h => h) (by rfl) ?_ ?_
    rotate_left
    · intro w
      go_simp
      first | done | with_reducible rfl
    try simp only [Act.put, List.setIfInBounds_toArray, List.set_cons_zero, List.set_cons_succ]
    refine wpAnyG_pure (i := 2) (oi := ⟨some 48, _, _, _, _, _⟩) (v := ?_) rfl (by kernel_rfl) (by kernel_rfl) (by kernel_rfl) (by rfl) (fun _ _ _ h => h) (by rfl) ?_ ?_
    rotate_left
    · intro w
      go_simp
      first | done | with_reducible rfl
    try simp only [Act.put, List.setIfInBounds_toArray, List.set_cons_zero, List.set_cons_succ]
    refine wpAnyG_pure (i := 3) (oi := ⟨some 49, _, _, _, _, _⟩) (v := ?_) rfl (by kernel_rfl) (by kernel_rfl) (by kernel_rfl) (by rfl) (fun _ _ _ h => h) (by rfl) ?_ ?_
    rotate_left
    · intro w
      go_simp
      first | done | with_reducible rfl
    try simp only [Act.put, List.setIfInBounds_toArray, List.set_cons_zero, List.set_cons_succ]
    refine wpAnyG_pure (i := 4) (oi := ⟨some 50, _, _, _, _, _⟩) (v := ?_) rfl (by kernel_rfl) (by kernel_rfl) (by kernel_rfl) (by rfl) (fun _ _ _ h => h) (by rfl) ?_ ?_
    rotate_left
    · intro w
      go_simp
      first | done | with_reducible rfl
    try simp only [Act.put, List.setIfInBounds_toArray, List.set_cons_zero, List.set_cons_succ]
    refine wpAnyG_pure (i := 5) (oi := ⟨some 51, _, _, _, _, _⟩) (v := ?_) rfl (by kernel_rfl) (by kernel_rfl) (by kernel_rfl) (by rfl) (fun _ _ _ h => h) (by rfl) ?_ ?_
    rotate_left
    · intro w
      go_simp
      first | done | with_reducible rfl
    try simp only [Act.put, List.setIfInBounds_toArray, List.set_cons_zero, List.set_cons_succ]
    refine wpAnyG_pure (i := 6) (oi := ⟨some 52, _, _, _, _, _⟩) (v := ?_) rfl (by kernel_rfl) (by kernel_rfl) (by kernel_rfl) (by rfl) (fun _ _ _ h => h) (by rfl) ?_ ?_
    rotate_left
    · intro w
      go_simp
      first | done | with_reducible rfl
    try simp only [Act.put, List.setIfInBounds_toArray, List.set_cons_zero, List.set_cons_succ]
    refine wpAnyG_pure (i := 7) (oi := ⟨some 53, _, _, _, _, _⟩) (v := ?_) rfl (by kernel_rfl) (by kernel_rfl) (by kernel_rfl) (by rfl) (fun _ _ _ h => h) (by rfl) ?_ ?_
    rotate_left
    · intro w
      go_simp
      first | done | with_reducible rfl
    try simp only [Act.put, List.setIfInBounds_toArray, List.set_cons_zero, List.set_cons_succ]
    refine wpAnyG_keep (i := 8) (oi := ⟨some 54, _, _, _, _, _⟩) (by kernel_rfl) rfl (fun K hK => ?_)
    rw [if_pos (by rfl)]
    refine wp_copy_run (HC2.out _ _ _) rfl rfl rfl ?_
    refine hK.out _ _ ?_ (fun hS => ?_)
    · trivial
    clear hK K
    try simp only [Act.put, List.setIfInBounds_toArray, List.set_cons_zero, List.set_cons_succ]
    refine wpAnyG_done (by kernel_rfl) ?_ _
    refine NoPanic.normal ?_
    go_wp2_with fail
    go_ret
    exact ⟨_, rfl, HROW.out⟩
end
end Go.Proofs.Ytnbpbonpcbemdaa
