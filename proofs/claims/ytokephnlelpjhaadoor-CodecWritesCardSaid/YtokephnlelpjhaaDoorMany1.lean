/- latchkeylaw02.many, of kind 1 (int32). Printed by gen_many.py. -/
import Derived.Test.YtokephnlelpjhaaDoorManyBase
namespace Go.Proofs.YtokephnlelpjhaaDoor
open Go.RowKit
section
variable {E : World} {L : List Hp}
set_option maxRecDepth 100000 in
set_option maxHeartbeats 4000000 in
theorem many_1 {S : Ph} (b xb : Nat) (l : List UInt8) (e : Int) (kd on sz nn : Int) (ss : ByteArray) (A : Option Addr) (ln cp : Nat) (zs : List Int) (w : World) (hq : pickN nn 6 = 1) (hnn : -9223372036854775808 ≤ nn ∧ nn ≤ 9223372036854775807)
    (hr : Rds S 1 enI A ln zs) (hz : ∀ z ∈ zs, i64B z) (hn : ln ≤ 2147483000) (hl : l.length + 8 * ln + 100 ≤ 140737488355328) (h : Own E w (Hp.wtr b l e :: Hp.xwr xb l e :: Hp.ro S :: L)) :
    Calls Tryd.prog 19 #[.pointer (some ⟨b, 0, none⟩), .pointer (some ⟨xb, 0, none⟩), .agg (enStep ⟨kd, on, sz, nn, ss, A, ln, cp, zs⟩).toArray] w fun ev w' => ev = .returned (.bool true) ∧ Own E w' (Hp.wtr b (wMany (l, e) sz (zs.map IntKind.i32.wrap)).1 (wMany (l, e) sz (zs.map IntKind.i32.wrap)).2 :: Hp.xwr xb (wMany (l, e) sz (zs.map IntKind.i32.wrap)).1 (wMany (l, e) sz (zs.map IntKind.i32.wrap)).2 :: Hp.ro S :: L) := by
  obtain ⟨ys, hys⟩ : ∃ ys, ys = (zs.map IntKind.i32.wrap) := ⟨_, rfl⟩
  rw [← hys]
  have hyl : ys.length = ln := by rw [hys, List.length_map]; exact hr.1
  have hyr : ∀ y ∈ ys, -9223372036854775808 ≤ y ∧ y ≤ 9223372036854775807 := fun y hy => by
    rw [hys] at hy
    obtain ⟨z, _, rfl⟩ := List.mem_map.1 hy
    exact rng_i32 z
  have hyz : ∀ (j : Nat) (z : Int), zs[j]? = some z → ys[j]? = some (IntKind.i32.wrap z) := fun j z hj => by
    rw [hys, List.getElem?_map, hj]; rfl
  have h1 : Own E (w.alloc (.cells (enStep ⟨kd, on, sz, nn, ss, A, ln, cp, zs⟩).toArray OPT)) (Hp.blk w.heap.size OPT (enStep ⟨kd, on, sz, nn, ss, A, ln, cp, zs⟩).toArray :: Hp.wtr b l e :: Hp.xwr xb l e :: Hp.ro S :: L) := h.alloc _
  obtain ⟨g, hg⟩ : ∃ g, g = w.heap.size := ⟨_, rfl⟩
  obtain ⟨w1, hw1⟩ : ∃ v, v = w.alloc (.cells (enStep ⟨kd, on, sz, nn, ss, A, ln, cp, zs⟩).toArray OPT) := ⟨_, rfl⟩
  rw [← hg, ← hw1] at h1
  obtain ⟨w2, hmk0, -, -, h2⟩ := sl_make (P := Tryd.prog) (T := 79) (e := 21) (z := .int .i32 0) (bytes := 4) (by kernel_rfl) (by kernel_rfl) rfl .i64 .i64 ln ln (by omega) (by omega) (by unfold maxLen; omega) h1
  have hmk : (Instr.makeSlice 79 (.int .i64 (ln : Int)) (.int .i64 (ln : Int))).run Tryd.prog w1 = .ok (.slice (some ⟨w1.heap.size, 0, none⟩) ln ln) w2 := hmk0
  clear hmk0
  generalize w1.heap.size = gs at *
  have e0 : (List.replicate ln (Value.int .i32 0)).toArray = (fillC (Value.int .i32) (.int .i32 0) ys 0).toArray := by rw [fill_zero, hyl]
  rw [e0] at h2
  have hcs : ∀ (j : Nat) (y : Int), ys[j]? = some y → (ys.map (Value.int .i32)).toArray[j]? = some (Value.int .i32 y) := fun j y hj => by
    rw [List.getElem?_toArray, List.getElem?_map, hj]
    rfl
  have HQ := Lib.hid hq
  have H2 := Lib.hid h2
  have HL := Lib.hid hl
  have HR := Lib.hid hr
  have HYR := Lib.hid hyr
  have HYZ := Lib.hid hyz
  have HCS := Lib.hid hcs
  have HZ := Lib.hid hz
  clear hq h h1 h2 hl hr hyr hyz hcs hz e0 hys
  go_enter Tryd.func19, Tryd.ntmps19
  go_wp2_with fail
  rw [← hg, ← hw1]
  clear hg hw1
  refine (pick_any nn 6 _ hnn (by omega) (by omega)).mono ?_
  rintro ev w4 ⟨rfl, rfl⟩
  rw [HQ.out]
  go_wp2_with (with_reducible refine at_slot (k := some 145) ?_; refine wpList_make_run (o := ⟨some 145, _, _, _, _, _⟩) hmk rfl rfl rfl rfl ?_; clear hmk)
  go_loopw [12] (fun i wr => ∃ j : Nat, j ≤ ln ∧ i = .int .i64 j ∧ Own E wr (Hp.blk gs 21 (fillC (Value.int .i32) (.int .i32 0) ys j).toArray :: Hp.blk g OPT (enStep ⟨kd, on, sz, nn, ss, A, ln, cp, zs⟩).toArray :: Hp.wtr b l e :: Hp.xwr xb l e :: Hp.ro S :: L)) (fun i _ => ln - (intOf i).toNat)
  case atStart => exact ⟨0, by omega, rfl, H2.out⟩
  case round =>
    obtain ⟨j, hj, rfl, hw⟩ := hrel
    clear H2
    by_cases hlt : j < ln
    · obtain ⟨z, ga, off, hzj, rfl, hc⟩ := HR.out.get1 hlt
      have cA : wr.cell? ⟨ga, off + j, none⟩ = some (.int .i64 z) := hw.f4.rd (hc _ rfl)
      have c5 : wr.cell? ⟨g, 5, none⟩ = some (.slice (some ⟨ga, off, none⟩) ln cp) := hw.f1.cell 5
      have hyj := HYZ.out j z hzj
      obtain ⟨y, hyw⟩ : ∃ y : Int, IntKind.i32.wrap z = y := ⟨_, rfl⟩
      rw [hyw] at hyj
      have c1 : wr.cell? ⟨gs, j, none⟩ = some (.int .i32 0) := (hw.cell j).trans (fill_get _ _ ys j (by omega))
      have f1 := hw.frozen j
      have h3 := hw.set j (.int .i32 y)
      rw [fill_set (Value.int .i32) (.int .i32 0) ys j y hyj] at h3
      have H3 := Lib.hid h3
      have j0 : (0 : Int) ≤ j := by omega
      have j1 : (j : Int) < ln := by omega
      clear hw h3 hc hzj hyj
      go_wp2_with fail
      go_roundw
      case rel => exact ⟨j + 1, by omega, by go_num, H3.out⟩
      case measure => simp [intOf]; omega
    · obtain rfl : j = ln := by omega
      have e1 : (fillC (Value.int .i32) (.int .i32 0) ys j).toArray = (ys.map (Value.int .i32)).toArray := by rw [← hyl, fill_all]
      rw [e1] at hw
      obtain ⟨cs, hcsd⟩ : ∃ cs, cs = (ys.map (Value.int .i32)).toArray := ⟨_, rfl⟩
      rw [← hcsd] at hw
      have HCS2 := HCS.out
      rw [← hcsd] at HCS2
      have HCS3 := Lib.hid HCS2
      have c2 : wr.cell? ⟨g, 2, none⟩ = some (.int .i64 sz) := hw.f1.cell 2
      have HW := Lib.hid hw.f2
      clear hw e1 hcsd HCS2 HCS
      go_wp2_with fail
      refine (numbers_int32 b l e sz gs j j cs ys _ hyl HCS3.out HYR.out (by omega) (by have := HL.out; omega) HW.out).mono ?_
      rintro ev w5 ⟨rfl, h4⟩
      have H4 := Lib.hid h4
      clear HW h4 c2
      go_wp2_with fail
      go_loopw [8, 13] (fun okv i wr => ∃ m : Nat, m ≤ j ∧ okv = .bool true ∧ i = .int .i64 m ∧ Own E wr (Hp.xwr xb (wMany (l, e) sz (ys.take m)).1 (wMany (l, e) sz (ys.take m)).2 :: Hp.blk gs 21 cs :: Hp.blk g OPT (enStep ⟨kd, on, sz, nn, ss, A, j, cp, zs⟩).toArray :: Hp.wtr b (wMany (l, e) sz ys).1 (wMany (l, e) sz ys).2 :: Hp.ro S :: L)) (fun _ i _ => j - (intOf i).toNat)
      case atStart => exact ⟨0, by omega, rfl, rfl, H4.out.ac (by simp only [Hp.all]; ac_rfl)⟩
      case round =>
        obtain ⟨m, hm, rfl, rfl, hw⟩ := hrel
        clear H4
        by_cases hlt : m < j
        · obtain ⟨z, ga, off, hzj, rfl, hc⟩ := HR.out.get1 hlt
          have hyj := HYZ.out m z hzj
          obtain ⟨y, hyw⟩ : ∃ y : Int, IntKind.i32.wrap z = y := ⟨_, rfl⟩
          rw [hyw] at hyj
          have hyb := HYR.out y (List.mem_of_getElem? hyj)
          have HC : Hid (∀ w' l2 e2, Own E w' (Hp.xwr xb l2 e2 :: Hp.blk gs 21 cs :: Hp.blk g OPT (enStep ⟨kd, on, sz, nn, ss, some ⟨ga, off, none⟩, j, cp, zs⟩).toArray :: Hp.wtr b (wMany (l, e) sz ys).1 (wMany (l, e) sz ys).2 :: Hp.ro S :: L) →
              w'.cell? ⟨gs, m, none⟩ = some (.int .i32 y) ∧ w'.cell? ⟨g, 5, none⟩ = some (.slice (some ⟨ga, off, none⟩) j cp) ∧ w'.cell? ⟨ga, off + m, none⟩ = some (.int .i64 z) ∧ w'.cell? ⟨g, 2, none⟩ = some (.int .i64 sz)) := Lib.hid fun w' l2 e2 hq =>
            ⟨(hq.f1.cell m).trans (HCS3.out m y hyj), hq.f2.cell 5, hq.f4.rd (hc _ rfl), hq.f2.cell 2⟩
          have hst := wMany_snoc (l, e) sz ys m y hyj
          have hsl := wMany_take_len sz ys m (l, e)
          obtain ⟨l1, e1, he1⟩ : ∃ l1 e1, wMany (l, e) sz (ys.take m) = (l1, e1) := ⟨_, _, rfl⟩
          obtain ⟨l2, e2, he2⟩ : ∃ l2 e2, wMany (l, e) sz (ys.take (m + 1)) = (l2, e2) := ⟨_, _, rfl⟩
          rw [he1] at hw hst hsl
          rw [he2] at hst
          have HW := Lib.hid hw
          have HST := Lib.hid hst
          have HE2 := Lib.hid he2
          have HSL : Hid (l1.length + 8 ≤ 140737488355328) := Lib.hid (by have := HL.out; dsimp only at hsl; omega)
          have j0 : (0 : Int) ≤ m := by omega
          have j1 : (m : Int) < j := by omega
          have hyw2 : IntKind.i64.wrap y = y := IntWalk.i64_in y hyb
          clear hw hst hsl he1 he2 hc hzj hyj
          go_wp2_with fail
          refine wp_region_text [5, 7, 10] (fun w' => w'.cell? ⟨gs, m, none⟩ = some (.int .i32 y) ∧ w'.cell? ⟨g, 5, none⟩ = some (.slice (some ⟨ga, off, none⟩) j cp) ∧ w'.cell? ⟨ga, off + m, none⟩ = some (.int .i64 z)) (by kernel_rfl) ?_ (fun hS => ?_)
          · exact ⟨(HC.out _ _ _ HW.out.drew).1, (HC.out _ _ _ HW.out.drew).2.1, (HC.out _ _ _ HW.out.drew).2.2.1⟩
          refine wpAnyG_pure (i := 0) (oi := ⟨some 170, _, _, _, _, _⟩) (v := ?_) rfl (by kernel_rfl) (by kernel_rfl) (by kernel_rfl) (by rfl) (fun _ _ _ h => h) (by rfl) ?_ ?_
          rotate_left
          · intro w
            go_simp
            first | done | with_reducible rfl
          try simp only [Act.put, List.setIfInBounds_toArray, List.set_cons_zero, List.set_cons_succ]
          refine wpAnyG_pure (i := 1) (oi := ⟨some 171, _, _, _, _, _⟩) (v := ?_) rfl (by kernel_rfl) (by kernel_rfl) (by kernel_rfl) (by rfl) (fun _ _ _ h => h) (by rfl) ?_ ?_
          rotate_left
          · intro w
            go_simp
            first | done | with_reducible rfl
          try simp only [Act.put, List.setIfInBounds_toArray, List.set_cons_zero, List.set_cons_succ]
          refine wpAnyG_pure (i := 2) (oi := ⟨some 172, _, _, _, _, _⟩) (v := ?_) rfl (by kernel_rfl) (by kernel_rfl) (by kernel_rfl) (by rfl) (fun _ _ _ h => h) (by rfl) ?_ ?_
          rotate_left
          · intro w
            go_simp
            first | done | with_reducible rfl
          try simp only [Act.put, List.setIfInBounds_toArray, List.set_cons_zero, List.set_cons_succ]
          refine wpAnyG_pure (i := 3) (oi := ⟨some 173, _, _, _, _, _⟩) (v := ?_) rfl (by kernel_rfl) (by kernel_rfl) (by kernel_rfl) (by rfl) (fun _ _ _ h => h) (by rfl) ?_ ?_
          rotate_left
          · intro w
            go_simp
            first | done | with_reducible rfl
          try simp only [Act.put, List.setIfInBounds_toArray, List.set_cons_zero, List.set_cons_succ]
          refine wpAnyG_pure (i := 4) (oi := ⟨some 174, _, _, _, _, _⟩) (v := ?_) rfl (by kernel_rfl) (by kernel_rfl) (by kernel_rfl) (by rfl) (fun _ _ _ h => h) (by rfl) ?_ ?_
          rotate_left
          · intro w
            go_simp
            first | done | with_reducible rfl
          try simp only [Act.put, List.setIfInBounds_toArray, List.set_cons_zero, List.set_cons_succ]
          refine wpAnyG_load (i := 5) (oi := ⟨some 175, _, _, _, _, _⟩) (v := ?_) rfl (by kernel_rfl) (by kernel_rfl) (by kernel_rfl) (by rfl) (fun _ _ _ h => h) (by rfl) ?_ (by assumption) ?_
          rotate_left
          · intro w hS
            try dsimp only at hS
            go_simp
            first | done | with_reducible rfl
          try simp only [Act.put, List.setIfInBounds_toArray, List.set_cons_zero, List.set_cons_succ]
          refine wpAnyG_pure (i := 6) (oi := ⟨some 176, _, _, _, _, _⟩) (v := ?_) rfl (by kernel_rfl) (by kernel_rfl) (by kernel_rfl) (by rfl) (fun _ _ _ h => h) (by rfl) ?_ ?_
          rotate_left
          · intro w
            go_simp
            first | done | with_reducible rfl
          try simp only [Act.put, List.setIfInBounds_toArray, List.set_cons_zero, List.set_cons_succ]
          refine wpAnyG_load (i := 7) (oi := ⟨some 177, _, _, _, _, _⟩) (v := ?_) rfl (by kernel_rfl) (by kernel_rfl) (by kernel_rfl) (by rfl) (fun _ _ _ h => h) (by rfl) ?_ (by assumption) ?_
          rotate_left
          · intro w hS
            try dsimp only at hS
            go_simp
            first | done | with_reducible rfl
          try simp only [Act.put, List.setIfInBounds_toArray, List.set_cons_zero, List.set_cons_succ]
          refine wpAnyG_pure (i := 8) (oi := ⟨some 178, _, _, _, _, _⟩) (v := ?_) rfl (by kernel_rfl) (by kernel_rfl) (by kernel_rfl) (by rfl) (fun _ _ _ h => h) (by rfl) ?_ ?_
          rotate_left
          · intro w
            go_simp
            first | done | with_reducible rfl
          try simp only [Act.put, List.setIfInBounds_toArray, List.set_cons_zero, List.set_cons_succ]
          refine wpAnyG_pure (i := 9) (oi := ⟨some 179, _, _, _, _, _⟩) (v := ?_) rfl (by kernel_rfl) (by kernel_rfl) (by kernel_rfl) (by rfl) (fun _ _ _ h => h) (by rfl) ?_ ?_
          rotate_left
          · intro w
            go_simp
            first | done | with_reducible rfl
          try simp only [Act.put, List.setIfInBounds_toArray, List.set_cons_zero, List.set_cons_succ]
          refine wpAnyG_load (i := 10) (oi := ⟨some 180, _, _, _, _, _⟩) (v := ?_) rfl (by kernel_rfl) (by kernel_rfl) (by kernel_rfl) (by rfl) (fun _ _ _ h => h) (by rfl) ?_ (by assumption) ?_
          rotate_left
          · intro w hS
            try dsimp only at hS
            go_simp
            first | done | with_reducible rfl
          try simp only [Act.put, List.setIfInBounds_toArray, List.set_cons_zero, List.set_cons_succ]
          refine wpAnyG_pure (i := 11) (oi := ⟨some 181, _, _, _, _, _⟩) (v := ?_) rfl (by kernel_rfl) (by kernel_rfl) (by kernel_rfl) (by rfl) (fun _ _ _ h => h) (by rfl) ?_ ?_
          rotate_left
          · intro w
            go_simp
            first | done | with_reducible rfl
          try simp only [Act.put, List.setIfInBounds_toArray, List.set_cons_zero, List.set_cons_succ]
          refine wpAnyG_pure (i := 12) (oi := ⟨some 182, _, _, _, _, _⟩) (v := ?_) rfl (by kernel_rfl) (by kernel_rfl) (by kernel_rfl) (by rfl) (fun _ _ _ h => h) (by rfl) ?_ ?_
          rotate_left
          · intro w
            go_simp
            first | done | with_reducible rfl
          try simp only [Act.put, List.setIfInBounds_toArray, List.set_cons_zero, List.set_cons_succ]
          refine wpAnyG_pure (i := 13) (oi := ⟨some 183, _, _, _, _, _⟩) (v := ?_) rfl (by kernel_rfl) (by kernel_rfl) (by kernel_rfl) (by rfl) (fun _ _ _ h => h) (by rfl) ?_ ?_
          rotate_left
          · intro w
            go_simp
            first | done | with_reducible rfl
          try simp only [Act.put, List.setIfInBounds_toArray, List.set_cons_zero, List.set_cons_succ]
          refine wpAnyG_pure (i := 14) (oi := ⟨some 8, _, _, _, _, _⟩) (v := ?_) rfl (by kernel_rfl) (by kernel_rfl) (by kernel_rfl) (by rfl) (fun _ _ _ h => h) (by rfl) ?_ ?_
          rotate_left
          · intro w
            go_simp
            first | done | with_reducible rfl
          try simp only [Act.put, List.setIfInBounds_toArray, List.set_cons_zero, List.set_cons_succ]
          refine wpAnyG_done (by kernel_rfl) ?_ _
          refine NoPanic.normal ?_
          go_wp2_with fail
          refine wp_region_text [2, 4, 7] (fun w' => w'.cell? ⟨g, 5, none⟩ = some (.slice (some ⟨ga, off, none⟩) j cp) ∧ w'.cell? ⟨ga, off + m, none⟩ = some (.int .i64 z) ∧ w'.cell? ⟨g, 2, none⟩ = some (.int .i64 sz)) (by kernel_rfl) ?_ (fun hS => ?_)
          · exact (HC.out _ _ _ HW.out.drew.drew).2
          refine wpAnyG_pure (i := 0) (oi := ⟨some 184, _, _, _, _, _⟩) (v := ?_) rfl (by kernel_rfl) (by kernel_rfl) (by kernel_rfl) (by rfl) (fun _ _ _ h => h) (by rfl) ?_ ?_
          rotate_left
          · intro w
            go_simp
            first | done | with_reducible rfl
          try simp only [Act.put, List.setIfInBounds_toArray, List.set_cons_zero, List.set_cons_succ]
          refine wpAnyG_pure (i := 1) (oi := ⟨some 185, _, _, _, _, _⟩) (v := ?_) rfl (by kernel_rfl) (by kernel_rfl) (by kernel_rfl) (by rfl) (fun _ _ _ h => h) (by rfl) ?_ ?_
          rotate_left
          · intro w
            go_simp
            first | done | with_reducible rfl
          try simp only [Act.put, List.setIfInBounds_toArray, List.set_cons_zero, List.set_cons_succ]
          refine wpAnyG_load (i := 2) (oi := ⟨some 186, _, _, _, _, _⟩) (v := ?_) rfl (by kernel_rfl) (by kernel_rfl) (by kernel_rfl) (by rfl) (fun _ _ _ h => h) (by rfl) ?_ (by assumption) ?_
          rotate_left
          · intro w hS
            try dsimp only at hS
            go_simp
            first | done | with_reducible rfl
          try simp only [Act.put, List.setIfInBounds_toArray, List.set_cons_zero, List.set_cons_succ]
          refine wpAnyG_pure (i := 3) (oi := ⟨some 187, _, _, _, _, _⟩) (v := ?_) rfl (by kernel_rfl) (by kernel_rfl) (by kernel_rfl) (by rfl) (fun _ _ _ h => h) (by rfl) ?_ ?_
          rotate_left
          · intro w
            go_simp
            first | done | with_reducible rfl
          try simp only [Act.put, List.setIfInBounds_toArray, List.set_cons_zero, List.set_cons_succ]
          refine wpAnyG_load (i := 4) (oi := ⟨some 188, _, _, _, _, _⟩) (v := ?_) rfl (by kernel_rfl) (by kernel_rfl) (by kernel_rfl) (by rfl) (fun _ _ _ h => h) (by rfl) ?_ (by assumption) ?_
          rotate_left
          · intro w hS
            try dsimp only at hS
            go_simp
            first | done | with_reducible rfl
          try simp only [Act.put, List.setIfInBounds_toArray, List.set_cons_zero, List.set_cons_succ]
          refine wpAnyG_pure (i := 5) (oi := ⟨some 189, _, _, _, _, _⟩) (v := ?_) rfl (by kernel_rfl) (by kernel_rfl) (by kernel_rfl) (by rfl) (fun _ _ _ h => h) (by rfl) ?_ ?_
          rotate_left
          · intro w
            go_simp
            first | done | with_reducible rfl
          try simp only [Act.put, List.setIfInBounds_toArray, List.set_cons_zero, List.set_cons_succ]
          refine wpAnyG_pure (i := 6) (oi := ⟨some 190, _, _, _, _, _⟩) (v := ?_) rfl (by kernel_rfl) (by kernel_rfl) (by kernel_rfl) (by rfl) (fun _ _ _ h => h) (by rfl) ?_ ?_
          rotate_left
          · intro w
            go_simp
            first | done | with_reducible rfl
          try simp only [Act.put, List.setIfInBounds_toArray, List.set_cons_zero, List.set_cons_succ]
          refine wpAnyG_load (i := 7) (oi := ⟨some 191, _, _, _, _, _⟩) (v := ?_) rfl (by kernel_rfl) (by kernel_rfl) (by kernel_rfl) (by rfl) (fun _ _ _ h => h) (by rfl) ?_ (by assumption) ?_
          rotate_left
          · intro w hS
            try dsimp only at hS
            go_simp
            first | done | with_reducible rfl
          try simp only [Act.put, List.setIfInBounds_toArray, List.set_cons_zero, List.set_cons_succ]
          refine wpAnyG_pure (i := 8) (oi := ⟨some 192, _, _, _, _, _⟩) (v := ?_) rfl (by kernel_rfl) (by kernel_rfl) (by kernel_rfl) (by rfl) (fun _ _ _ h => h) (by rfl) ?_ ?_
          rotate_left
          · intro w
            go_simp
            first | done | with_reducible rfl
          try simp only [Act.put, List.setIfInBounds_toArray, List.set_cons_zero, List.set_cons_succ]
          refine wpAnyG_pure (i := 9) (oi := ⟨some 193, _, _, _, _, _⟩) (v := ?_) rfl (by kernel_rfl) (by kernel_rfl) (by kernel_rfl) (by rfl) (fun _ _ _ h => h) (by rfl) ?_ ?_
          rotate_left
          · intro w
            go_simp
            first | done | with_reducible rfl
          try simp only [Act.put, List.setIfInBounds_toArray, List.set_cons_zero, List.set_cons_succ]
          refine wpAnyG_keep (i := 10) (oi := ⟨some 194, _, _, _, _, _⟩) (by kernel_rfl) rfl (fun K hK => ?_)
          rw [if_pos (by rfl)]
          go_simp
          refine (xwnum_any xb l1 e1 sz y l2 e2 _ HST.out.symm hyb.2 HSL.out HW.out.drew.drew).mono ?_
          rintro ev w6 ⟨rfl, h5⟩
          refine hK.out _ _ ?_ (fun hS => ?_)
          · exact (HC.out _ _ _ h5).2
          clear hK K
          try simp only [Act.put, List.setIfInBounds_toArray, List.set_cons_zero, List.set_cons_succ]
          refine wpAnyG_done (by kernel_rfl) ?_ _
          refine NoPanic.normal ?_
          have H5 := Lib.hid h5
          clear h5
          go_wp2_with fail
          go_roundw
          case rel => exact ⟨m + 1, by omega, rfl, by go_num, by rw [HE2.out]; exact H5.out⟩
          case measure => simp [intOf]; omega
        · obtain rfl : m = j := by omega
          rw [List.take_of_length_le (by omega)] at hw
          have HW := Lib.hid (hw.f1.drop.f1.drop.f1)
          clear hw
          go_wp2_with fail
          go_ret
          exact ⟨rfl, HW.out⟩
end
end Go.Proofs.YtokephnlelpjhaaDoor
