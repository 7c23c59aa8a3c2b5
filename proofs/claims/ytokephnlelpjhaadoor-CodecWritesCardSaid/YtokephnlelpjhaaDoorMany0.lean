/- latchkeylaw02.many, of kind 0 (int). Printed by gen_many.py. -/
import Derived.Test.YtokephnlelpjhaaDoorManyBase
namespace Go.Proofs.YtokephnlelpjhaaDoor
open Go.RowKit
section
variable {E : World} {L : List Hp}
set_option maxRecDepth 100000 in
set_option maxHeartbeats 4000000 in
theorem many_0 {S : Ph} (b xb : Nat) (l : List UInt8) (e : Int) (kd on sz nn : Int) (ss : ByteArray) (A : Option Addr) (ln cp : Nat) (zs : List Int) (w : World) (hq : pickN nn 6 = 0) (hnn : -9223372036854775808 ≤ nn ∧ nn ≤ 9223372036854775807)
    (hr : Rds S 1 enI A ln zs) (hz : ∀ z ∈ zs, i64B z) (hn : ln ≤ 2147483000) (hl : l.length + 8 * ln + 100 ≤ 140737488355328) (h : Own E w (Hp.wtr b l e :: Hp.xwr xb l e :: Hp.ro S :: L)) :
    Calls Tryd.prog 19 #[.pointer (some ⟨b, 0, none⟩), .pointer (some ⟨xb, 0, none⟩), .agg (enStep ⟨kd, on, sz, nn, ss, A, ln, cp, zs⟩).toArray] w fun ev w' => ev = .returned (.bool true) ∧ Own E w' (Hp.wtr b (wMany (l, e) sz zs).1 (wMany (l, e) sz zs).2 :: Hp.xwr xb (wMany (l, e) sz zs).1 (wMany (l, e) sz zs).2 :: Hp.ro S :: L) := by
  obtain ⟨ys, hys⟩ : ∃ ys, ys = zs := ⟨_, rfl⟩
  rw [← hys]
  have hyl : ys.length = ln := by rw [hys]; exact hr.1
  have hyr : ∀ y ∈ ys, -9223372036854775808 ≤ y ∧ y ≤ 9223372036854775807 := fun y hy => by
    rw [hys] at hy
    exact hz y hy
  have hyz : ∀ (j : Nat) (z : Int), zs[j]? = some z → ys[j]? = some z := fun j z hj => by
    rw [hys, hj]
  have h1 : Own E (w.alloc (.cells (enStep ⟨kd, on, sz, nn, ss, A, ln, cp, zs⟩).toArray OPT)) (Hp.blk w.heap.size OPT (enStep ⟨kd, on, sz, nn, ss, A, ln, cp, zs⟩).toArray :: Hp.wtr b l e :: Hp.xwr xb l e :: Hp.ro S :: L) := h.alloc _
  obtain ⟨g, hg⟩ : ∃ g, g = w.heap.size := ⟨_, rfl⟩
  obtain ⟨w1, hw1⟩ : ∃ v, v = w.alloc (.cells (enStep ⟨kd, on, sz, nn, ss, A, ln, cp, zs⟩).toArray OPT) := ⟨_, rfl⟩
  rw [← hg, ← hw1] at h1
  obtain ⟨w2, hmk0, -, -, h2⟩ := sl_make (P := Tryd.prog) (T := 31) (e := 3) (z := .int .i64 0) (bytes := 8) (by kernel_rfl) (by kernel_rfl) rfl .i64 .i64 (ln + 2) (ln + 2) (by omega) (by omega) (by unfold maxLen; omega) h1
  have hmk : (Instr.makeSlice 31 (.int .i64 ((ln : Int) + 2)) (.int .i64 ((ln : Int) + 2))).run Tryd.prog w1 = .ok (.slice (some ⟨w1.heap.size, 0, none⟩) (ln + 2) (ln + 2)) w2 := hmk0
  clear hmk0
  generalize w1.heap.size = gs at *
  have c5 : w2.cell? ⟨g, 5, none⟩ = some (.slice A ln cp) := h2.f1.cell 5
  have hrd : RdC w2 A (zs.map (Value.int .i64)) := by
    have q := (hr.sub h2.f4.sub).rdc
    rw [flat_ints] at q
    exact q
  obtain ⟨w3, hcp, h3⟩ := sl_copy (P := Tryd.prog) (dT := 31) (sT := 31) (ty := 3) (elem := 3) (by kernel_rfl) (by kernel_rfl) (off := 0) h2 (some ⟨gs, 0, none⟩) A (ln + 2) (ln + 2) ln cp (zs.map (Value.int .i64)) (by rw [List.length_map, hr.1]; exact (Nat.min_eq_left (by omega)).symm) (fun _ => rfl) hrd (by rw [List.length_map, List.length_replicate, hr.1]; omega) (ints_one zs)
  have e0 : splice (List.replicate (ln + 2) (Value.int .i64 0)) 0 (zs.map (Value.int .i64)) = zs.map (Value.int .i64) ++ [.int .i64 0, .int .i64 0] := by
    unfold splice
    rw [List.length_map, hr.1, List.drop_replicate, Nat.zero_add, Nat.add_sub_cancel_left]
    rfl
  rw [e0] at h3
  obtain ⟨cs, hcsd⟩ : ∃ cs, cs = (zs.map (Value.int .i64) ++ [Value.int .i64 0, .int .i64 0]).toArray := ⟨_, rfl⟩
  rw [← hcsd] at h3
  have hcs : ∀ (j : Nat) (y : Int), ys[j]? = some y → cs[j]? = some (Value.int .i64 y) := fun j y hj => by
    have hjl : j < (zs.map (Value.int .i64)).length := by
      rw [List.length_map, ← hys]
      exact (List.getElem?_eq_some_iff.1 hj).1
    rw [hcsd, List.getElem?_toArray, List.getElem?_append_left hjl, List.getElem?_map, ← hys, hj]
    rfl
  have hcn : cs[ln]? = some (Value.int .i64 0) := by
    rw [hcsd, List.getElem?_toArray, List.getElem?_append_right (by rw [List.length_map, hr.1]; exact Nat.le_refl _), List.length_map, hr.1, Nat.sub_self]
    rfl
  have hcn1 : cs[ln + 1]? = some (Value.int .i64 0) := by
    rw [hcsd, List.getElem?_toArray, List.getElem?_append_right (by rw [List.length_map, hr.1]; omega), List.length_map, hr.1, Nat.add_sub_cancel_left]
    rfl
  have HQ := Lib.hid hq
  have H3 := Lib.hid h3
  have HL := Lib.hid hl
  have HR := Lib.hid hr
  have HYR := Lib.hid hyr
  have HYZ := Lib.hid hyz
  have HCS := Lib.hid hcs
  have HCN := Lib.hid hcn
  have HCN1 := Lib.hid hcn1
  have HZ := Lib.hid hz
  clear hq h h1 h2 h3 hl hr hyr hyz hcs hcn hcn1 hz hcsd e0 hrd hys
  have i5 : (ln : Int) ≤ (ln : Int) + 2 := by omega
  go_enter Tryd.func19, Tryd.ntmps19
  go_wp2_with fail
  rw [← hg, ← hw1]
  clear hg hw1
  refine (pick_any nn 6 _ hnn (by omega) (by omega)).mono ?_
  rintro ev w4 ⟨rfl, rfl⟩
  rw [HQ.out]
  go_wp2_with (first | (with_reducible refine at_slot (k := some 87) ?_; refine wpList_make_run (o := ⟨some 87, _, _, _, _, _⟩) hmk rfl rfl rfl rfl ?_; clear hmk) | (with_reducible refine at_slot (k := some 91) ?_; refine wpList_copy_run (o := ⟨some 91, _, _, _, _, _⟩) hcp rfl rfl rfl rfl ?_; clear hcp))
  clear c5
  refine wp_region_text [2] (fun w' => w'.cell? ⟨g, 2, none⟩ = some (.int .i64 sz)) (by kernel_rfl) ?_ (fun hS => ?_)
  · exact H3.out.drew.f1.cell 2
  refine wpAnyG_pure (i := 0) (oi := ⟨some 92, _, _, _, _, _⟩) (v := ?_) rfl (by kernel_rfl) (by kernel_rfl) (by kernel_rfl) (by rfl) (fun _ _ _ h => h) (by rfl) ?_ ?_
  rotate_left
  · intro w
    go_simp
    first | done | with_reducible rfl
  try simp only [Act.put, List.setIfInBounds_toArray, List.set_cons_zero, List.set_cons_succ]
  refine wpAnyG_pure (i := 1) (oi := ⟨some 93, _, _, _, _, _⟩) (v := ?_) rfl (by kernel_rfl) (by kernel_rfl) (by kernel_rfl) (by rfl) (fun _ _ _ h => h) (by rfl) ?_ ?_
  rotate_left
  · intro w
    go_simp
    first | done | with_reducible rfl
  try simp only [Act.put, List.setIfInBounds_toArray, List.set_cons_zero, List.set_cons_succ]
  refine wpAnyG_load (i := 2) (oi := ⟨some 94, _, _, _, _, _⟩) (v := ?_) rfl (by kernel_rfl) (by kernel_rfl) (by kernel_rfl) (by rfl) (fun _ _ _ h => h) (by rfl) ?_ (by assumption) ?_
  rotate_left
  · intro w hS
    try dsimp only at hS
    go_simp
    first | done | with_reducible rfl
  try simp only [Act.put, List.setIfInBounds_toArray, List.set_cons_zero, List.set_cons_succ]
  refine wpAnyG_pure (i := 3) (oi := ⟨some 95, _, _, _, _, _⟩) (v := ?_) rfl (by kernel_rfl) (by kernel_rfl) (by kernel_rfl) (by rfl) (fun _ _ _ h => h) (by rfl) ?_ ?_
  rotate_left
  · intro w
    go_simp
    first | done | with_reducible rfl
  try simp only [Act.put, List.setIfInBounds_toArray, List.set_cons_zero, List.set_cons_succ]
  refine wpAnyG_pure (i := 4) (oi := ⟨some 96, _, _, _, _, _⟩) (v := ?_) rfl (by kernel_rfl) (by kernel_rfl) (by kernel_rfl) (by rfl) (fun _ _ _ h => h) (by rfl) ?_ ?_
  rotate_left
  · intro w
    go_simp
    first | done | with_reducible rfl
  try simp only [Act.put, List.setIfInBounds_toArray, List.set_cons_zero, List.set_cons_succ]
  refine wpAnyG_pure (i := 5) (oi := ⟨some 97, _, _, _, _, _⟩) (v := ?_) rfl (by kernel_rfl) (by kernel_rfl) (by kernel_rfl) (by rfl) (fun _ _ _ h => h) (by rfl) ?_ ?_
  rotate_left
  · intro w
    go_simp
    first | done | with_reducible rfl
  try simp only [Act.put, List.setIfInBounds_toArray, List.set_cons_zero, List.set_cons_succ]
  refine wpAnyG_keep (i := 6) (oi := ⟨some 98, _, _, _, _, _⟩) (by kernel_rfl) rfl (fun K hK => ?_)
  rw [if_pos (by rfl)]
  go_simp
  refine (numbers_int b l e sz gs ln (ln + 2) cs ys _ hyl HCS.out HYR.out (by omega) (by have := HL.out; omega) H3.out.drew.f2).mono ?_
  rintro ev w5 ⟨rfl, h4⟩
  refine hK.out _ _ ?_ (fun hS => ?_)
  · exact h4.f2.cell 2
  clear hK K
  try simp only [Act.put, List.setIfInBounds_toArray, List.set_cons_zero, List.set_cons_succ]
  refine wpAnyG_done (by kernel_rfl) ?_ _
  refine NoPanic.normal ?_
  have H4 := Lib.hid h4
  clear H3 h4
  go_wp2_with fail
  go_loopw [8, 10] (fun okv i wr => ∃ m : Nat, m ≤ ln ∧ okv = .bool true ∧ i = .int .i64 m ∧ Own E wr (Hp.xwr xb (wMany (l, e) sz (ys.take m)).1 (wMany (l, e) sz (ys.take m)).2 :: Hp.blk gs 3 cs :: Hp.blk g OPT (enStep ⟨kd, on, sz, nn, ss, A, ln, cp, zs⟩).toArray :: Hp.wtr b (wMany (l, e) sz ys).1 (wMany (l, e) sz ys).2 :: Hp.ro S :: L)) (fun _ i _ => ln - (intOf i).toNat)
  case atStart => exact ⟨0, by omega, rfl, rfl, H4.out.ac (by simp only [Hp.all]; ac_rfl)⟩
  case round =>
    obtain ⟨m, hm, rfl, rfl, hw⟩ := hrel
    clear H4
    by_cases hlt : m < ln
    · obtain ⟨z, ga, off, hzj, rfl, hc⟩ := HR.out.get1 hlt
      have hyj := HYZ.out m z hzj
      obtain ⟨y, hyw⟩ : ∃ y : Int, z = y := ⟨_, rfl⟩
      rw [hyw] at hyj
      have hyb := HYR.out y (List.mem_of_getElem? hyj)
      have HC : Hid (∀ w' l2 e2, Own E w' (Hp.xwr xb l2 e2 :: Hp.blk gs 3 cs :: Hp.blk g OPT (enStep ⟨kd, on, sz, nn, ss, some ⟨ga, off, none⟩, ln, cp, zs⟩).toArray :: Hp.wtr b (wMany (l, e) sz ys).1 (wMany (l, e) sz ys).2 :: Hp.ro S :: L) →
          w'.cell? ⟨gs, m, none⟩ = some (.int .i64 y) ∧ w'.cell? ⟨g, 5, none⟩ = some (.slice (some ⟨ga, off, none⟩) ln cp) ∧ w'.cell? ⟨ga, off + m, none⟩ = some (.int .i64 z) ∧ w'.cell? ⟨g, 2, none⟩ = some (.int .i64 sz)) := Lib.hid fun w' l2 e2 hq =>
        ⟨(hq.f1.cell m).trans (HCS.out m y hyj), hq.f2.cell 5, hq.f4.rd (hc _ rfl), hq.f2.cell 2⟩
      have hst := wMany_snoc (l, e) sz ys m y hyj
      have hsl := wMany_take_len sz ys m (l, e)
      obtain ⟨l1, e1, he1⟩ : ∃ l1 e1, wMany (l, e) sz (ys.take m) = (l1, e1) := ⟨_, _, rfl⟩
      obtain ⟨l2, e2, he2⟩ : ∃ l2 e2, wMany (l, e) sz (ys.take (m + 1)) = (l2, e2) := ⟨_, _, rfl⟩
      rw [he1] at hw hst hsl
      rw [he2] at hst
      have HW := Lib.hid hw
      have HST := Lib.hid hst
      have HE2 := Lib.hid he2
      have HSL : Hid (l1.length + 8 ≤ 140737488355328) := Lib.hid (by have := HL.out; dsimp only at hsl; omega)
      have j0 : (0 : Int) ≤ m := by omega
      have j1 : (m : Int) < ln := by omega
      have j2 : (m : Int) < (ln : Int) + 2 := by omega
      subst hyw
      clear hw hst hsl he1 he2 hc hzj hyj
      go_wp2_with fail
      refine wp_region_text [5, 7, 10] (fun w' => w'.cell? ⟨gs, m, none⟩ = some (.int .i64 z) ∧ w'.cell? ⟨g, 5, none⟩ = some (.slice (some ⟨ga, off, none⟩) ln cp) ∧ w'.cell? ⟨ga, off + m, none⟩ = some (.int .i64 z)) (by kernel_rfl) ?_ (fun hS => ?_)
      · exact ⟨(HC.out _ _ _ HW.out.drew).1, (HC.out _ _ _ HW.out.drew).2.1, (HC.out _ _ _ HW.out.drew).2.2.1⟩
      refine wpAnyG_pure (i := 0) (oi := ⟨some 104, _, _, _, _, _⟩) (v := ?_) rfl (by kernel_rfl) (by kernel_rfl) (by kernel_rfl) (by rfl) (fun _ _ _ h => h) (by rfl) ?_ ?_
      rotate_left
      · intro w
        go_simp
        first | done | with_reducible rfl
      try simp only [Act.put, List.setIfInBounds_toArray, List.set_cons_zero, List.set_cons_succ]
      refine wpAnyG_pure (i := 1) (oi := ⟨some 105, _, _, _, _, _⟩) (v := ?_) rfl (by kernel_rfl) (by kernel_rfl) (by kernel_rfl) (by rfl) (fun _ _ _ h => h) (by rfl) ?_ ?_
      rotate_left
      · intro w
        go_simp
        first | done | with_reducible rfl
      try simp only [Act.put, List.setIfInBounds_toArray, List.set_cons_zero, List.set_cons_succ]
      refine wpAnyG_pure (i := 2) (oi := ⟨some 106, _, _, _, _, _⟩) (v := ?_) rfl (by kernel_rfl) (by kernel_rfl) (by kernel_rfl) (by rfl) (fun _ _ _ h => h) (by rfl) ?_ ?_
      rotate_left
      · intro w
        go_simp
        first | done | with_reducible rfl
      try simp only [Act.put, List.setIfInBounds_toArray, List.set_cons_zero, List.set_cons_succ]
      refine wpAnyG_pure (i := 3) (oi := ⟨some 107, _, _, _, _, _⟩) (v := ?_) rfl (by kernel_rfl) (by kernel_rfl) (by kernel_rfl) (by rfl) (fun _ _ _ h => h) (by rfl) ?_ ?_
      rotate_left
      · intro w
        go_simp
        first | done | with_reducible rfl
      try simp only [Act.put, List.setIfInBounds_toArray, List.set_cons_zero, List.set_cons_succ]
      refine wpAnyG_pure (i := 4) (oi := ⟨some 108, _, _, _, _, _⟩) (v := ?_) rfl (by kernel_rfl) (by kernel_rfl) (by kernel_rfl) (by rfl) (fun _ _ _ h => h) (by rfl) ?_ ?_
      rotate_left
      · intro w
        go_simp
        first | done | with_reducible rfl
      try simp only [Act.put, List.setIfInBounds_toArray, List.set_cons_zero, List.set_cons_succ]
      refine wpAnyG_load (i := 5) (oi := ⟨some 109, _, _, _, _, _⟩) (v := ?_) rfl (by kernel_rfl) (by kernel_rfl) (by kernel_rfl) (by rfl) (fun _ _ _ h => h) (by rfl) ?_ (by assumption) ?_
      rotate_left
      · intro w hS
        try dsimp only at hS
        go_simp
        first | done | with_reducible rfl
      try simp only [Act.put, List.setIfInBounds_toArray, List.set_cons_zero, List.set_cons_succ]
      refine wpAnyG_pure (i := 6) (oi := ⟨some 110, _, _, _, _, _⟩) (v := ?_) rfl (by kernel_rfl) (by kernel_rfl) (by kernel_rfl) (by rfl) (fun _ _ _ h => h) (by rfl) ?_ ?_
      rotate_left
      · intro w
        go_simp
        first | done | with_reducible rfl
      try simp only [Act.put, List.setIfInBounds_toArray, List.set_cons_zero, List.set_cons_succ]
      refine wpAnyG_load (i := 7) (oi := ⟨some 111, _, _, _, _, _⟩) (v := ?_) rfl (by kernel_rfl) (by kernel_rfl) (by kernel_rfl) (by rfl) (fun _ _ _ h => h) (by rfl) ?_ (by assumption) ?_
      rotate_left
      · intro w hS
        try dsimp only at hS
        go_simp
        first | done | with_reducible rfl
      try simp only [Act.put, List.setIfInBounds_toArray, List.set_cons_zero, List.set_cons_succ]
      refine wpAnyG_pure (i := 8) (oi := ⟨some 112, _, _, _, _, _⟩) (v := ?_) rfl (by kernel_rfl) (by kernel_rfl) (by kernel_rfl) (by rfl) (fun _ _ _ h => h) (by rfl) ?_ ?_
      rotate_left
      · intro w
        go_simp
        first | done | with_reducible rfl
      try simp only [Act.put, List.setIfInBounds_toArray, List.set_cons_zero, List.set_cons_succ]
      refine wpAnyG_pure (i := 9) (oi := ⟨some 113, _, _, _, _, _⟩) (v := ?_) rfl (by kernel_rfl) (by kernel_rfl) (by kernel_rfl) (by rfl) (fun _ _ _ h => h) (by rfl) ?_ ?_
      rotate_left
      · intro w
        go_simp
        first | done | with_reducible rfl
      try simp only [Act.put, List.setIfInBounds_toArray, List.set_cons_zero, List.set_cons_succ]
      refine wpAnyG_load (i := 10) (oi := ⟨some 114, _, _, _, _, _⟩) (v := ?_) rfl (by kernel_rfl) (by kernel_rfl) (by kernel_rfl) (by rfl) (fun _ _ _ h => h) (by rfl) ?_ (by assumption) ?_
      rotate_left
      · intro w hS
        try dsimp only at hS
        go_simp
        first | done | with_reducible rfl
      try simp only [Act.put, List.setIfInBounds_toArray, List.set_cons_zero, List.set_cons_succ]
      refine wpAnyG_pure (i := 11) (oi := ⟨some 115, _, _, _, _, _⟩) (v := ?_) rfl (by kernel_rfl) (by kernel_rfl) (by kernel_rfl) (by rfl) (fun _ _ _ h => h) (by rfl) ?_ ?_
      rotate_left
      · intro w
        go_simp
        first | done | with_reducible rfl
      try simp only [Act.put, List.setIfInBounds_toArray, List.set_cons_zero, List.set_cons_succ]
      refine wpAnyG_pure (i := 12) (oi := ⟨some 116, _, _, _, _, _⟩) (v := ?_) rfl (by kernel_rfl) (by kernel_rfl) (by kernel_rfl) (by rfl) (fun _ _ _ h => h) (by rfl) ?_ ?_
      rotate_left
      · intro w
        go_simp
        first | done | with_reducible rfl
      try simp only [Act.put, List.setIfInBounds_toArray, List.set_cons_zero, List.set_cons_succ]
      refine wpAnyG_pure (i := 13) (oi := ⟨some 8, _, _, _, _, _⟩) (v := ?_) rfl (by kernel_rfl) (by kernel_rfl) (by kernel_rfl) (by rfl) (fun _ _ _ h => h) (by rfl) ?_ ?_
      rotate_left
      · intro w
        go_simp
        first | done | with_reducible rfl
      try simp only [Act.put, List.setIfInBounds_toArray, List.set_cons_zero, List.set_cons_succ]
      refine wpAnyG_done (by kernel_rfl) ?_ _
      refine NoPanic.normal ?_
      go_wp2_with fail
      refine wp_region_text [2, 4, 7] (fun w' => w'.cell? ⟨g, 5, none⟩ = some (.slice (some ⟨ga, off, none⟩) ln cp) ∧ w'.cell? ⟨ga, off + m, none⟩ = some (.int .i64 z) ∧ w'.cell? ⟨g, 2, none⟩ = some (.int .i64 sz)) (by kernel_rfl) ?_ (fun hS => ?_)
      · exact (HC.out _ _ _ HW.out.drew.drew).2
      refine wpAnyG_pure (i := 0) (oi := ⟨some 117, _, _, _, _, _⟩) (v := ?_) rfl (by kernel_rfl) (by kernel_rfl) (by kernel_rfl) (by rfl) (fun _ _ _ h => h) (by rfl) ?_ ?_
      rotate_left
      · intro w
        go_simp
        first | done | with_reducible rfl
      try simp only [Act.put, List.setIfInBounds_toArray, List.set_cons_zero, List.set_cons_succ]
      refine wpAnyG_pure (i := 1) (oi := ⟨some 118, _, _, _, _, _⟩) (v := ?_) rfl (by kernel_rfl) (by kernel_rfl) (by kernel_rfl) (by rfl) (fun _ _ _ h => h) (by rfl) ?_ ?_
      rotate_left
      · intro w
        go_simp
        first | done | with_reducible rfl
      try simp only [Act.put, List.setIfInBounds_toArray, List.set_cons_zero, List.set_cons_succ]
      refine wpAnyG_load (i := 2) (oi := ⟨some 119, _, _, _, _, _⟩) (v := ?_) rfl (by kernel_rfl) (by kernel_rfl) (by kernel_rfl) (by rfl) (fun _ _ _ h => h) (by rfl) ?_ (by assumption) ?_
      rotate_left
      · intro w hS
        try dsimp only at hS
        go_simp
        first | done | with_reducible rfl
      try simp only [Act.put, List.setIfInBounds_toArray, List.set_cons_zero, List.set_cons_succ]
      refine wpAnyG_pure (i := 3) (oi := ⟨some 120, _, _, _, _, _⟩) (v := ?_) rfl (by kernel_rfl) (by kernel_rfl) (by kernel_rfl) (by rfl) (fun _ _ _ h => h) (by rfl) ?_ ?_
      rotate_left
      · intro w
        go_simp
        first | done | with_reducible rfl
      try simp only [Act.put, List.setIfInBounds_toArray, List.set_cons_zero, List.set_cons_succ]
      refine wpAnyG_load (i := 4) (oi := ⟨some 121, _, _, _, _, _⟩) (v := ?_) rfl (by kernel_rfl) (by kernel_rfl) (by kernel_rfl) (by rfl) (fun _ _ _ h => h) (by rfl) ?_ (by assumption) ?_
      rotate_left
      · intro w hS
        try dsimp only at hS
        go_simp
        first | done | with_reducible rfl
      try simp only [Act.put, List.setIfInBounds_toArray, List.set_cons_zero, List.set_cons_succ]
      refine wpAnyG_pure (i := 5) (oi := ⟨some 122, _, _, _, _, _⟩) (v := ?_) rfl (by kernel_rfl) (by kernel_rfl) (by kernel_rfl) (by rfl) (fun _ _ _ h => h) (by rfl) ?_ ?_
      rotate_left
      · intro w
        go_simp
        first | done | with_reducible rfl
      try simp only [Act.put, List.setIfInBounds_toArray, List.set_cons_zero, List.set_cons_succ]
      refine wpAnyG_pure (i := 6) (oi := ⟨some 123, _, _, _, _, _⟩) (v := ?_) rfl (by kernel_rfl) (by kernel_rfl) (by kernel_rfl) (by rfl) (fun _ _ _ h => h) (by rfl) ?_ ?_
      rotate_left
      · intro w
        go_simp
        first | done | with_reducible rfl
      try simp only [Act.put, List.setIfInBounds_toArray, List.set_cons_zero, List.set_cons_succ]
      refine wpAnyG_load (i := 7) (oi := ⟨some 124, _, _, _, _, _⟩) (v := ?_) rfl (by kernel_rfl) (by kernel_rfl) (by kernel_rfl) (by rfl) (fun _ _ _ h => h) (by rfl) ?_ (by assumption) ?_
      rotate_left
      · intro w hS
        try dsimp only at hS
        go_simp
        first | done | with_reducible rfl
      try simp only [Act.put, List.setIfInBounds_toArray, List.set_cons_zero, List.set_cons_succ]
      refine wpAnyG_keep (i := 8) (oi := ⟨some 125, _, _, _, _, _⟩) (by kernel_rfl) rfl (fun K hK => ?_)
      rw [if_pos (by rfl)]
      go_simp
      refine (xwnum_any xb l1 e1 sz z l2 e2 _ HST.out.symm hyb.2 HSL.out HW.out.drew.drew).mono ?_
      rintro ev w6 ⟨rfl, h5⟩
      refine hK.out _ _ ?_ (fun hS => ?_)
      · exact (HC.out _ _ _ h5).2
      clear hK K
      try simp only [Act.put, List.setIfInBounds_toArray, List.set_cons_zero, List.set_cons_succ]
      refine wpAnyG_done (by kernel_rfl) ?_ _
      refine NoPanic.normal ?_
      have H5 := Lib.hid h5
      clear h5
      go_wp2_with fail
      go_roundw
      case rel => exact ⟨m + 1, by omega, rfl, by go_num, by rw [HE2.out]; exact H5.out⟩
      case measure => simp [intOf]; omega
    · obtain rfl : m = ln := by omega
      rw [List.take_of_length_le (by omega)] at hw
      have cn : wr.cell? ⟨gs, m, none⟩ = some (.int .i64 0) := (hw.f1.cell m).trans HCN.out
      have cn1 : wr.cell? ⟨gs, m + 1, none⟩ = some (.int .i64 0) := (hw.f1.cell (m + 1)).trans HCN1.out
      have m0 : (0 : Int) ≤ m := by omega
      have m1 : (m : Int) < (m : Int) + 2 := by omega
      have m2 : (m : Int) + 1 < (m : Int) + 2 := by omega
      have m3 : (0 : Int) ≤ (m : Int) + 1 := by omega
      have m4 : ((m : Int) + 1).toNat = m + 1 := by omega
      have HW := Lib.hid (hw.f1.drop.f1.drop.f1)
      clear hw
      go_wp2_with fail
      go_ret
      exact ⟨rfl, HW.out⟩
end
end Go.Proofs.YtokephnlelpjhaaDoor
