/- slices.Delete of one bucket: the walk. -/
import Derived.Test.YtnbpbonpcbemdaaLim7
namespace Go.Proofs.Ytnbpbonpcbemdaa
open Go.RowKit
theorem flat_all1 (l : List Bkt) : ∀ u ∈ l.flatMap enB, u.oneCell' = true := fun u hu => by
  obtain ⟨x, -, hx⟩ := List.mem_flatMap.1 hu
  exact enB_all1 x u hx
theorem toArr (cs : Array Value) : cs.toList.toArray = cs := by simp
section
variable {E : World} {L : List Hp}
abbrev LBT : TypeId := 55
theorem bt_info : (Try.prog.info? BKT).map (fun i => (i.zero, i.size, i.bytes)) = some (some (.agg #[.string ⟨#[]⟩, .float .f32 0, .int .i64 0]), 3, 32) := by kernel_rfl
set_option maxHeartbeats 8000000 in
theorem delete_any (l : List Bkt) (A : Option Addr) (c k : Nat) (w : World) (hl : l.length ≤ 1000) (hk : k < l.length) (h : Own E w (Hp.row BKT 3 (.slice A l.length c) l.length (l.flatMap enB) :: L)) :
    Calls Try.prog 27 #[.slice A l.length c, .int .i64 k, .int .i64 ((k : Int) + 1)] w fun e w' => ∃ v', e = .returned v' ∧ Own E w' (Hp.row BKT 3 v' (l.eraseIdx k).length ((l.eraseIdx k).flatMap enB) :: L) := by
  obtain ⟨i, hi, hzz⟩ := Option.map_eq_some_iff.1 bt_info
  simp only [Prod.mk.injEq] at hzz
  obtain ⟨hz, hsize, hby⟩ := hzz
  obtain ⟨-, ⟨_, h0, _, _⟩ | ⟨g, cap, cur, hv, hnc, hcm, hcs, htk, ho⟩⟩ := h.rowForm
  · omega
  injection hv with hA hn' hc
  subst hA
  subst hc
  obtain ⟨m, hm⟩ : ∃ m, l.length = k + 1 + m := ⟨l.length - (k + 1), by omega⟩
  have hcap : k + 1 + m ≤ c := by omega
  have hfe := flat_erase l k hk
  have hel : (l.eraseIdx k).length = k + m := by rw [List.length_eraseIdx_of_lt hk]; omega
  rw [hm] at htk ⊢
  have hc2 : c ≤ maxLen := hcm
  unfold maxLen at hcm
  obtain ⟨xs, hxs⟩ : ∃ xs, xs = l.flatMap enB := ⟨_, rfl⟩
  have hxl : xs.length = (k + 1 + m) * 3 := by rw [hxs, flat_len, hm]
  have hx1 : ∀ u ∈ xs, u.oneCell' = true := by rw [hxs]; exact flat_all1 l
  rw [← hxs] at htk hfe
  have hnl : (xs.drop ((k + 1) * 3)).length = m * i.size := by rw [List.length_drop, hxl, hsize]; omega
  have hn1 : ∀ u ∈ xs.drop ((k + 1) * 3), u.oneCell' = true := fun u hu => hx1 u (List.mem_of_mem_drop hu)
  have hcell : ∀ ad : Addr, (m = 0 ∨ ad = ⟨g, (k + 1) * 3, none⟩) → ∀ j u, (xs.drop ((k + 1) * 3))[j]? = some u → w.drew.cell? (ad.add j) = some u := fun ad had j u hu => by
    rcases had with h0 | rfl
    · have := (List.getElem?_eq_some_iff.1 hu).1
      rw [hnl, h0] at this
      omega
    · rw [add_eq, ho.drew.mcell, ← Array.getElem?_toList]
      rw [List.getElem?_drop, ← htk, List.getElem?_take] at hu
      split at hu
      · exact hu
      · cases hu
  have hk3 : k * 3 + (xs.drop ((k + 1) * 3)).length ≤ cur.size := by rw [hnl, hsize, hcs]; omega
  have hap := fun ad had cc ty => run_append_roomM (P := Try.prog) (ty := ty) (t := LBT) (sLen := k) (sCap := c) (by kernel_rfl) hi ho.drew ad m cc (xs.drop ((k + 1) * 3)) hnl (hcell ad had) hn1 (by omega) (by rw [hsize]; exact hk3)
  have ho2 := ho.drew.msetCells (xs.drop ((k + 1) * 3)) (k * 3)
  rw [hsize] at hap
  obtain ⟨w2, hw2⟩ : ∃ w2, w2 = w.drew.setCells g (k * 3) (xs.drop ((k + 1) * 3)) := ⟨_, rfl⟩
  rw [← hw2] at hap ho2
  have hzl : ([.string ⟨#[]⟩, .float .f32 0, .int .i64 0] : List Value).length = 3 := rfl
  have hcl := fun cc ty => sl_clearM (P := Try.prog) (t := LBT) (ty := ty) (off := (k + m) * 3) (by kernel_rfl) hi hz ho2 1 cc [.string ⟨#[]⟩, .float .f32 0, .int .i64 0] (by omega) (by kernel_rfl) (enB_all1 ⟨⟨#[]⟩, 0, 0⟩) (by rw [putArr_size, hzl, hcs]; omega)
  have ho3 := ho2.msetCells [.string ⟨#[]⟩, .float .f32 0, .int .i64 0] ((k + m) * 3)
  have hfin : (putArr (putArr cur (k * 3) (xs.drop ((k + 1) * 3))) ((k + m) * 3) [.string ⟨#[]⟩, .float .f32 0, .int .i64 0]).toList.take ((k + m) * 3) = (l.eraseIdx k).flatMap enB := by
    have s1 : putArr cur (k * 3) (xs.drop ((k + 1) * 3)) = (splice cur.toList (k * 3) (xs.drop ((k + 1) * 3))).toArray := by
      have := putArr_splice cur.toList (xs.drop ((k + 1) * 3)) (k * 3) (by simpa using hk3)
      rwa [toArr] at this
    have l1 : (splice cur.toList (k * 3) (xs.drop ((k + 1) * 3))).length = cur.toList.length := splice_len _ _ _ (by simpa using hk3)
    have l2 : cur.toList.length = c * 3 := by simpa using hcs
    rw [s1, putArr_splice _ _ _ (by rw [l1, l2, hzl]; omega)]
    show List.take _ (splice _ _ _) = _
    rw [splice_pre _ _ _ (by rw [l1, l2]; omega)]
    have e1 : (k + m) * 3 = k * 3 + (xs.drop ((k + 1) * 3)).length := by rw [hnl, hsize]; omega
    rw [e1, splice_take _ _ _ (by rw [l2]; omega), ← hfe]
    congr 1
    rw [← htk, List.take_take]
    congr 1
    omega
  have hrow := ho3.mtoRow 3 (k + m) c (by omega) hc2 (by rw [putArr_size, putArr_size, hcs])
  rw [hfin] at hrow
  rw [hel]
  have HROW := Lib.hid hrow
  rw [show (1 : Nat) = k + 1 + m - (k + m) by omega] at hcl
  have HCL := Lib.hid hcl
  have HAP := Lib.hid hap
  clear hfin hrow hcl hap ho2 ho3 hcell hn1 hnl hk3 hx1 hxl hfe htk ho hel hw2 hxs hz hsize hby hi hcs h hzl
  have j1 : (0 : Int) ≤ k := by omega
  have j2 : (k : Int) ≤ k + 1 := by omega
  have j3 : ¬ (k : Int) = k + 1 := by omega
  have j4 : k ≤ c := by omega
  have j5 : (0 : Int) ≤ (k : Int) + 1 := by omega
  have j6 : (k : Int) + 1 ≤ (k : Int) + 1 + m := by omega
  have j7 : (0 : Int) ≤ (k : Int) + m := by omega
  have j8 : (k : Int) + m ≤ (k : Int) + 1 + m := by omega
  by_cases hck : c = k + 1
  · obtain rfl : m = 0 := by omega
    subst hck
    have hap0 := fun cc ty => HAP.out ⟨g, 0, none⟩ (.inl rfl) cc ty
    have hcl0 := HCL.out (k + 1 - k) 0
    have hrow0 := HROW.out
    simp only [Nat.add_zero] at hap0 hcl0 hrow0 ⊢
    rw [show k + 1 - k = 1 by omega] at hcl0
    have HAP0 := Lib.hid hap0
    have HROW0 := Lib.hid hrow0
    clear hap0 hrow0 HAP HCL HROW hcap j6 j7 j8 hm
    have j9 : (k : Int) ≤ k + 1 := by omega
    go_enter Try.func27, Try.ntmps27
    go_wp2_with fail
    refine wp_region_text [] (fun _ => True) (by kernel_rfl) ?_ (fun hS => ?_)
    · trivial
    refine wpAnyG_pure (i := 0) (oi := ⟨some 20, _, _, _, _, _⟩) (v := ?_) rfl (by kernel_rfl) (by kernel_rfl) (by kernel_rfl) (by rfl) (fun _ _ _ h => h) (by rfl) ?_ ?_
    rotate_left
    · intro w
      go_simp
      first | done | with_reducible rfl
    try simp only [Act.put, List.setIfInBounds_toArray, List.set_cons_zero, List.set_cons_succ]
    refine wpAnyG_pure (i := 1) (oi := ⟨some 21, _, _, _, _, _⟩) (v := ?_) rfl (by kernel_rfl) (by kernel_rfl) (by kernel_rfl) (by rfl) (fun _ _ _ h => h) (by rfl) ?_ ?_
    rotate_left
    · intro w
      go_simp
      first | done | with_reducible rfl
    try simp only [Act.put, List.setIfInBounds_toArray, List.set_cons_zero, List.set_cons_succ]
    refine wpAnyG_pure (i := 2) (oi := ⟨some 22, _, _, _, _, _⟩) (v := ?_) rfl (by kernel_rfl) (by kernel_rfl) (by kernel_rfl) (by rfl) (fun _ _ _ h => h) (by rfl) ?_ ?_
    rotate_left
    · intro w
      go_simp
      first | done | with_reducible rfl
    try simp only [Act.put, List.setIfInBounds_toArray, List.set_cons_zero, List.set_cons_succ]
    refine wpAnyG_pure (i := 3) (oi := ⟨some 23, _, _, _, _, _⟩) (v := ?_) rfl (by kernel_rfl) (by kernel_rfl) (by kernel_rfl) (by rfl) (fun _ _ _ h => h) (by rfl) ?_ ?_
    rotate_left
    · intro w
      go_simp
      first | done | with_reducible rfl
    try simp only [Act.put, List.setIfInBounds_toArray, List.set_cons_zero, List.set_cons_succ]
    refine wpAnyG_pure (i := 4) (oi := ⟨some 24, _, _, _, _, _⟩) (v := ?_) rfl (by kernel_rfl) (by kernel_rfl) (by kernel_rfl) (by rfl) (fun _ _ _ h => h) (by rfl) ?_ ?_
    rotate_left
    · intro w
      go_simp
      first | done | with_reducible rfl
    try simp only [Act.put, List.setIfInBounds_toArray, List.set_cons_zero, List.set_cons_succ]
    refine wpAnyG_pure (i := 5) (oi := ⟨some 25, _, _, _, _, _⟩) (v := ?_) rfl (by kernel_rfl) (by kernel_rfl) (by kernel_rfl) (by rfl) (fun _ _ _ h => h) (by rfl) ?_ ?_
    rotate_left
    · intro w
      go_simp
      first | done | with_reducible rfl
    try simp only [Act.put, List.setIfInBounds_toArray, List.set_cons_zero, List.set_cons_succ]
    refine wpAnyG_keep (i := 6) (oi := ⟨some 26, _, _, _, _, _⟩) (by kernel_rfl) rfl (fun K hK => ?_)
    rw [if_pos (by rfl)]
    refine wp_append_run (HAP0.out _ _) rfl rfl rfl ?_
    refine hK.out _ _ ?_ (fun hS => ?_)
    · trivial
    clear hK K
    try simp only [Act.put, List.setIfInBounds_toArray, List.set_cons_zero, List.set_cons_succ]
    refine wpAnyG_pure (i := 7) (oi := ⟨some 0, _, _, _, _, _⟩) (v := ?_) rfl (by kernel_rfl) (by kernel_rfl) (by kernel_rfl) (by rfl) (fun _ _ _ h => h) (by rfl) ?_ ?_
    rotate_left
    · intro w
      go_simp
      first | done | with_reducible rfl
    try simp only [Act.put, List.setIfInBounds_toArray, List.set_cons_zero]
    refine wpAnyG_done (by kernel_rfl) ?_ _
    refine NoPanic.normal ?_
    go_wp2_with fail
    go_ret
    exact ⟨_, rfl, HROW0.out⟩
  · go_enter Try.func27, Try.ntmps27
    go_wp2_with fail
    refine wp_region_text [] (fun _ => True) (by kernel_rfl) ?_ (fun hS => ?_)
    · trivial
    refine wpAnyG_pure (i := 0) (oi := ⟨some 20, _, _, _, _, _⟩) (v := ?_) rfl (by kernel_rfl) (by kernel_rfl) (by kernel_rfl) (by rfl) (fun _ _ _ h => h) (by rfl) ?_ ?_
    rotate_left
    · intro w
      go_simp
      first | done | with_reducible rfl
    try simp only [Act.put, List.setIfInBounds_toArray, List.set_cons_zero, List.set_cons_succ]
    refine wpAnyG_pure (i := 1) (oi := ⟨some 21, _, _, _, _, _⟩) (v := ?_) rfl (by kernel_rfl) (by kernel_rfl) (by kernel_rfl) (by rfl) (fun _ _ _ h => h) (by rfl) ?_ ?_
    rotate_left
    · intro w
      go_simp
      first | done | with_reducible rfl
    try simp only [Act.put, List.setIfInBounds_toArray, List.set_cons_zero, List.set_cons_succ]
    refine wpAnyG_pure (i := 2) (oi := ⟨some 22, _, _, _, _, _⟩) (v := ?_) rfl (by kernel_rfl) (by kernel_rfl) (by kernel_rfl) (by rfl) (fun _ _ _ h => h) (by rfl) ?_ ?_
    rotate_left
    · intro w
      go_simp
      first | done | with_reducible rfl
    try simp only [Act.put, List.setIfInBounds_toArray, List.set_cons_zero, List.set_cons_succ]
    refine wpAnyG_pure (i := 3) (oi := ⟨some 23, _, _, _, _, _⟩) (v := ?_) rfl (by kernel_rfl) (by kernel_rfl) (by kernel_rfl) (by rfl) (fun _ _ _ h => h) (by rfl) ?_ ?_
    rotate_left
    · intro w
      go_simp
      first | done | with_reducible rfl
    try simp only [Act.put, List.setIfInBounds_toArray, List.set_cons_zero, List.set_cons_succ]
    refine wpAnyG_pure (i := 4) (oi := ⟨some 24, _, _, _, _, _⟩) (v := ?_) rfl (by kernel_rfl) (by kernel_rfl) (by kernel_rfl) (by rfl) (fun _ _ _ h => h) (by rfl) ?_ ?_
    rotate_left
    · intro w
      go_simp
      first | done | with_reducible rfl
    try simp only [Act.put, List.setIfInBounds_toArray, List.set_cons_zero, List.set_cons_succ]
    refine wpAnyG_pure (i := 5) (oi := ⟨some 25, _, _, _, _, _⟩) (v := ?_) rfl (by kernel_rfl) (by kernel_rfl) (by kernel_rfl) (by rfl) (fun _ _ _ h => h) (by rfl) ?_ ?_
    rotate_left
    · intro w
      go_simp
      first | done | with_reducible rfl
    try simp only [Act.put, List.setIfInBounds_toArray, List.set_cons_zero, List.set_cons_succ]
    refine wpAnyG_keep (i := 6) (oi := ⟨some 26, _, _, _, _, _⟩) (by kernel_rfl) rfl (fun K hK => ?_)
    rw [if_pos (by rfl)]
    refine wp_append_run (HAP.out _ (.inr rfl) _ _) rfl rfl rfl ?_
    refine hK.out _ _ ?_ (fun hS => ?_)
    · trivial
    clear hK K
    try simp only [Act.put, List.setIfInBounds_toArray, List.set_cons_zero, List.set_cons_succ]
    refine wpAnyG_pure (i := 7) (oi := ⟨some 0, _, _, _, _, _⟩) (v := ?_) rfl (by kernel_rfl) (by kernel_rfl) (by kernel_rfl) (by rfl) (fun _ _ _ h => h) (by rfl) ?_ ?_
    rotate_left
    · intro w
      go_simp
      first | done | with_reducible rfl
    try simp only [Act.put, List.setIfInBounds_toArray, List.set_cons_zero]
    refine wpAnyG_done (by kernel_rfl) ?_ _
    refine NoPanic.normal ?_
    have hc3 := HCL.out (c - (k + m)) 0
    go_wp2_with fail
    go_ret
    exact ⟨_, rfl, HROW.out⟩
end
end Go.Proofs.Ytnbpbonpcbemdaa
