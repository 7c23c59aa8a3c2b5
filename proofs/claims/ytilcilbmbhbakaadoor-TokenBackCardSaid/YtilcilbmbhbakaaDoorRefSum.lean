/- latchkeyref01: first, table, big, filled, Sum. -/
import Derived.Test.YtilcilbmbhbakaaDoorRefBlock
import Derived.Test.YtilcilbmbhbakaaDoorPkg
namespace Go.Proofs.YtilcilbmbhbakaaDoor
open Go.RowKit
theorem run_allocI64 (w : World) : (Instr.alloc I64A true (.tuple #[])).run Tryd.prog w = .ok (.pointer (some ⟨w.heap.size, 0, none⟩)) (w.alloc (.cells (zi 64).toArray I64A)) := by kernel_rfl
theorem run_allocI8 (w : World) : (Instr.alloc I8 true (.tuple #[])).run Tryd.prog w = .ok (.pointer (some ⟨w.heap.size, 0, none⟩)) (w.alloc (.cells (zi 8).toArray I8)) := by kernel_rfl
set_option maxRecDepth 100000 in
set_option maxHeartbeats 1000000 in
theorem table_any {E : World} {L : List Hp} (w : World) (h : Own E w L) :
    Calls Tryd.prog 53 #[] w fun e w' => e = .returned (.agg KI.toArray) ∧ Own E w' L := by
  have h1 : Own E (w.alloc (.cells (zi 64).toArray I64A)) (Hp.blk w.heap.size I64A (zi 64).toArray :: L) := h.alloc _
  go_enter Tryd.func53, Tryd.ntmps53
  go_upto_region 1 with (fail)
  refine wp_region_list ?_
  refine wpList_yield (v := .agg KI.toArray) (w' := w.alloc (.cells (zi 64).toArray I64A)) (by kernel_rfl) rfl ?_
  refine wpList_store_arr h1 0 KI (by simp [zi, K_length]) (V64_one _) (sizeI64 _ K_length) rfl rfl rfl rfl ?_
  intro w2 h2
  unfold zi at h2
  rw [putArr_zero _ _ (by simp [K_length])] at h2
  go_wp2_with fail
  exact bodyPost_ret (results_arr Tryd.results53 rfl h2 (d0 := .array 64 3) (by kernel_rfl) rfl (sizeI64 _ K_length)) rfl ⟨rfl, h2.drop⟩
set_option maxHeartbeats 1000000 in
theorem reffirst_any {E : World} {L : List Hp} (w : World) (h : Own E w L) :
    Calls Tryd.prog 52 #[] w fun e w' => e = .returned (.agg (SI Sha.H0).toArray) ∧ Own E w' L := by
  have h1 : Own E (w.alloc (.cells (zi 8).toArray I8)) (Hp.blk w.heap.size I8 (zi 8).toArray :: L) := h.alloc _
  go_enter Tryd.func52, Tryd.ntmps52
  go_upto_region 1 with (fail)
  refine wp_region_list ?_
  refine wpList_yield (v := .agg (SI Sha.H0).toArray) (w' := w.alloc (.cells (zi 8).toArray I8)) (by kernel_rfl) rfl ?_
  refine wpList_store_arr h1 0 (SI Sha.H0) (by simp [zi, H0_length]) (V64_one _) (sizeI8 _ H0_length) rfl rfl rfl rfl ?_
  intro w2 h2
  unfold zi at h2
  rw [putArr_zero _ _ (by simp [H0_length])] at h2
  go_wp2_with fail
  exact bodyPost_ret (results_arr Tryd.results52 rfl h2 (d0 := .array 8 3) (by kernel_rfl) rfl (sizeI8 _ H0_length)) rfl ⟨rfl, h2.drop⟩
theorem lset_mid' {α : Type} (A B : List α) (x u : α) (k : Nat) (hk : A.length = k) : (A ++ ([x] ++ B)).set k u = A ++ u :: B := by
  subst hk; simp
def tailOf (F : List UInt8) (i : Nat) : List UInt8 := List.replicate (F.length - i) 0 ++ F.drop (F.length - i)
theorem tailOf_set (F : List UInt8) (i j : Nat) (h : i + j + 1 = F.length) : ((tailOf F i).map V8').set j (V8' (F.getD j 0)) = (tailOf F (i + 1)).map V8' := by
  have e1 : F.length - i = j + 1 := by omega
  have e2 : F.length - (i + 1) = j := by omega
  have e3 : F.drop j = F.getD j 0 :: F.drop (j + 1) := by
    rw [List.drop_eq_getElem_cons (by omega)]; simp [List.getD, show j < F.length by omega]
  unfold tailOf
  rw [e1, e2, e3, List.replicate_succ', List.append_assoc, ← List.map_set]
  congr 1
  exact lset_mid' _ _ _ _ _ (by simp)
theorem tailOf_all (F : List UInt8) : tailOf F F.length = F := by simp [tailOf]
set_option maxRecDepth 100000 in
set_option maxHeartbeats 2000000 in
theorem big4_any {E : World} {L : List Hp} (n : Int) (F : List UInt8) (hF : F.length = 4) (h0 : n % 256 = ((F.getD 3 0).toNat : Int)) (h1 : n / 256 % 256 = ((F.getD 2 0).toNat : Int)) (h2 : n / 65536 % 256 = ((F.getD 1 0).toNat : Int)) (h3 : n / 16777216 % 256 = ((F.getD 0 0).toNat : Int)) (w : World) (h : Own E w L) :
    Calls Tryd.prog 55 #[.int .i64 n, .int .i64 4] w fun e w' => e = .returned (.string ⟨F.toArray⟩) ∧ Own E w' L := by
  obtain ⟨w1, hmk0, -, h1, -⟩ := sl_make (P := Tryd.prog) (T := BT) (e := U8) (z := .int .u8 0) (bytes := 1) (by kernel_rfl) u8_info rfl .i64 .i64 4 4 (by omega) (by omega) (by unfold maxLen; omega) h
  have hmk : (Instr.makeSlice BT (.int .i64 4) (.int .i64 4)).run Tryd.prog w = .ok (.slice (some ⟨w.heap.size, 0, none⟩) 4 4) w1 := hmk0
  have h2 : Own E w1 (Hp.row U8 1 (.slice (some ⟨w.heap.size, 0, none⟩) 4 4) 4 ((tailOf F 0).map V8') :: L) := by
    have e : (tailOf F 0).map V8' = List.replicate 4 (.int .u8 0) := by
      unfold tailOf; rw [hF]; simp [List.drop_eq_nil_of_le (Nat.le_of_eq hF), List.replicate]
    rw [e]; exact h1
  have HF := Lib.hid hF
  have H2 := Lib.hid h2
  clear hmk0 h1 h2 h hF
  generalize w.heap.size = g at *
  go_enter Tryd.func55, Tryd.ntmps55
  go_wp2_with (refine wpList_make_run (o := ⟨some 8, _, _, _, _, _⟩) hmk rfl rfl rfl rfl ?_; clear hmk)
  go_loopw [6] (fun i wr => ∃ k : Nat, k ≤ 4 ∧ i = .int .i64 k ∧ Own E wr (Hp.row U8 1 (.slice (some ⟨g, 0, none⟩) 4 4) 4 ((tailOf F k).map V8') :: L)) (fun i _ => 4 - (intOf i).toNat)
  case atStart => exact ⟨0, by omega, rfl, H2.out⟩
  case round =>
    obtain ⟨k, hk, rfl, hw⟩ := hrel
    clear H2
    by_cases hlt : k < 4
    · rcases (by omega : k = 0 ∨ k = 1 ∨ k = 2 ∨ k = 3) with rfl | rfl | rfl | rfl
      · obtain ⟨g', hg, c1, f1, h3⟩ := hw.rowSet 3 (by omega) (V8' (F.getD 3 0))
        injection hg with hg
        injection hg with hg
        subst hg
        rw [tailOf_set F 0 3 (by rw [HF.out])] at h3
        have H3 := Lib.hid h3
        clear h3 hw hlt hk
        generalize F.getD 3 0 = y at *
        go_wp2_with fail
        go_roundw
        case rel => exact ⟨1, by omega, rfl, H3.out⟩
        case measure => simp [intOf]
      · obtain ⟨g', hg, c1, f1, h3⟩ := hw.rowSet 2 (by omega) (V8' (F.getD 2 0))
        injection hg with hg
        injection hg with hg
        subst hg
        rw [tailOf_set F 1 2 (by rw [HF.out])] at h3
        have H3 := Lib.hid h3
        clear h3 hw hlt hk
        generalize F.getD 2 0 = y at *
        go_wp2_with fail
        go_roundw
        case rel => exact ⟨2, by omega, rfl, H3.out⟩
        case measure => simp [intOf]
      · obtain ⟨g', hg, c1, f1, h3⟩ := hw.rowSet 1 (by omega) (V8' (F.getD 1 0))
        injection hg with hg
        injection hg with hg
        subst hg
        rw [tailOf_set F 2 1 (by rw [HF.out])] at h3
        have H3 := Lib.hid h3
        clear h3 hw hlt hk
        generalize F.getD 1 0 = y at *
        go_wp2_with fail
        go_roundw
        case rel => exact ⟨3, by omega, rfl, H3.out⟩
        case measure => simp [intOf]
      · obtain ⟨g', hg, c1, f1, h3⟩ := hw.rowSet 0 (by omega) (V8' (F.getD 0 0))
        injection hg with hg
        injection hg with hg
        subst hg
        rw [tailOf_set F 3 0 (by rw [HF.out])] at h3
        have H3 := Lib.hid h3
        clear h3 hw hlt hk
        generalize F.getD 0 0 = y at *
        go_wp2_with fail
        go_roundw
        case rel => exact ⟨4, by omega, rfl, H3.out⟩
        case measure => simp [intOf]
    · obtain rfl : k = 4 := by omega
      have e0 : tailOf F 4 = F := by have := tailOf_all F; rw [HF.out] at this; exact this
      rw [e0] at hw
      have hst := hw.rowString (P := Tryd.prog) (src := BT) (dst := ST) (e := U8) (by kernel_rfl) (by kernel_rfl) (by kernel_rfl)
      have HD := Lib.hid hw.drop
      clear hw e0 hlt
      go_wp2_with (refine wpList_conv_run (o := ⟨some 26, _, _, _, _, _⟩) hst rfl rfl rfl ?_; clear hst)
      go_ret
      exact ⟨rfl, HD.out⟩
set_option maxRecDepth 100000 in
set_option maxHeartbeats 2000000 in
theorem big8_any {E : World} {L : List Hp} (n : Int) (F : List UInt8) (hF : F.length = 8) (h0 : n % 256 = ((F.getD 7 0).toNat : Int)) (h1 : n / 256 % 256 = ((F.getD 6 0).toNat : Int)) (h2 : n / 65536 % 256 = ((F.getD 5 0).toNat : Int)) (h3 : n / 16777216 % 256 = ((F.getD 4 0).toNat : Int)) (h4 : n / 4294967296 % 256 = ((F.getD 3 0).toNat : Int)) (h5 : n / 1099511627776 % 256 = ((F.getD 2 0).toNat : Int)) (h6 : n / 281474976710656 % 256 = ((F.getD 1 0).toNat : Int)) (h7 : n / 72057594037927936 % 256 = ((F.getD 0 0).toNat : Int)) (w : World) (h : Own E w L) :
    Calls Tryd.prog 55 #[.int .i64 n, .int .i64 8] w fun e w' => e = .returned (.string ⟨F.toArray⟩) ∧ Own E w' L := by
  obtain ⟨w1, hmk0, -, h1, -⟩ := sl_make (P := Tryd.prog) (T := BT) (e := U8) (z := .int .u8 0) (bytes := 1) (by kernel_rfl) u8_info rfl .i64 .i64 8 8 (by omega) (by omega) (by unfold maxLen; omega) h
  have hmk : (Instr.makeSlice BT (.int .i64 8) (.int .i64 8)).run Tryd.prog w = .ok (.slice (some ⟨w.heap.size, 0, none⟩) 8 8) w1 := hmk0
  have h2 : Own E w1 (Hp.row U8 1 (.slice (some ⟨w.heap.size, 0, none⟩) 8 8) 8 ((tailOf F 0).map V8') :: L) := by
    have e : (tailOf F 0).map V8' = List.replicate 8 (.int .u8 0) := by
      unfold tailOf; rw [hF]; simp [List.drop_eq_nil_of_le (Nat.le_of_eq hF), List.replicate]
    rw [e]; exact h1
  have HF := Lib.hid hF
  have H2 := Lib.hid h2
  clear hmk0 h1 h2 h hF
  generalize w.heap.size = g at *
  go_enter Tryd.func55, Tryd.ntmps55
  go_wp2_with (refine wpList_make_run (o := ⟨some 8, _, _, _, _, _⟩) hmk rfl rfl rfl rfl ?_; clear hmk)
  go_loopw [6] (fun i wr => ∃ k : Nat, k ≤ 8 ∧ i = .int .i64 k ∧ Own E wr (Hp.row U8 1 (.slice (some ⟨g, 0, none⟩) 8 8) 8 ((tailOf F k).map V8') :: L)) (fun i _ => 8 - (intOf i).toNat)
  case atStart => exact ⟨0, by omega, rfl, H2.out⟩
  case round =>
    obtain ⟨k, hk, rfl, hw⟩ := hrel
    clear H2
    by_cases hlt : k < 8
    · rcases (by omega : k = 0 ∨ k = 1 ∨ k = 2 ∨ k = 3 ∨ k = 4 ∨ k = 5 ∨ k = 6 ∨ k = 7) with rfl | rfl | rfl | rfl | rfl | rfl | rfl | rfl
      · obtain ⟨g', hg, c1, f1, h3⟩ := hw.rowSet 7 (by omega) (V8' (F.getD 7 0))
        injection hg with hg
        injection hg with hg
        subst hg
        rw [tailOf_set F 0 7 (by rw [HF.out])] at h3
        have H3 := Lib.hid h3
        clear h3 hw hlt hk
        generalize F.getD 7 0 = y at *
        go_wp2_with fail
        go_roundw
        case rel => exact ⟨1, by omega, rfl, H3.out⟩
        case measure => simp [intOf]
      · obtain ⟨g', hg, c1, f1, h3⟩ := hw.rowSet 6 (by omega) (V8' (F.getD 6 0))
        injection hg with hg
        injection hg with hg
        subst hg
        rw [tailOf_set F 1 6 (by rw [HF.out])] at h3
        have H3 := Lib.hid h3
        clear h3 hw hlt hk
        generalize F.getD 6 0 = y at *
        go_wp2_with fail
        go_roundw
        case rel => exact ⟨2, by omega, rfl, H3.out⟩
        case measure => simp [intOf]
      · obtain ⟨g', hg, c1, f1, h3⟩ := hw.rowSet 5 (by omega) (V8' (F.getD 5 0))
        injection hg with hg
        injection hg with hg
        subst hg
        rw [tailOf_set F 2 5 (by rw [HF.out])] at h3
        have H3 := Lib.hid h3
        clear h3 hw hlt hk
        generalize F.getD 5 0 = y at *
        go_wp2_with fail
        go_roundw
        case rel => exact ⟨3, by omega, rfl, H3.out⟩
        case measure => simp [intOf]
      · obtain ⟨g', hg, c1, f1, h3⟩ := hw.rowSet 4 (by omega) (V8' (F.getD 4 0))
        injection hg with hg
        injection hg with hg
        subst hg
        rw [tailOf_set F 3 4 (by rw [HF.out])] at h3
        have H3 := Lib.hid h3
        clear h3 hw hlt hk
        generalize F.getD 4 0 = y at *
        go_wp2_with fail
        go_roundw
        case rel => exact ⟨4, by omega, rfl, H3.out⟩
        case measure => simp [intOf]
      · obtain ⟨g', hg, c1, f1, h3⟩ := hw.rowSet 3 (by omega) (V8' (F.getD 3 0))
        injection hg with hg
        injection hg with hg
        subst hg
        rw [tailOf_set F 4 3 (by rw [HF.out])] at h3
        have H3 := Lib.hid h3
        clear h3 hw hlt hk
        generalize F.getD 3 0 = y at *
        go_wp2_with fail
        go_roundw
        case rel => exact ⟨5, by omega, rfl, H3.out⟩
        case measure => simp [intOf]
      · obtain ⟨g', hg, c1, f1, h3⟩ := hw.rowSet 2 (by omega) (V8' (F.getD 2 0))
        injection hg with hg
        injection hg with hg
        subst hg
        rw [tailOf_set F 5 2 (by rw [HF.out])] at h3
        have H3 := Lib.hid h3
        clear h3 hw hlt hk
        generalize F.getD 2 0 = y at *
        go_wp2_with fail
        go_roundw
        case rel => exact ⟨6, by omega, rfl, H3.out⟩
        case measure => simp [intOf]
      · obtain ⟨g', hg, c1, f1, h3⟩ := hw.rowSet 1 (by omega) (V8' (F.getD 1 0))
        injection hg with hg
        injection hg with hg
        subst hg
        rw [tailOf_set F 6 1 (by rw [HF.out])] at h3
        have H3 := Lib.hid h3
        clear h3 hw hlt hk
        generalize F.getD 1 0 = y at *
        go_wp2_with fail
        go_roundw
        case rel => exact ⟨7, by omega, rfl, H3.out⟩
        case measure => simp [intOf]
      · obtain ⟨g', hg, c1, f1, h3⟩ := hw.rowSet 0 (by omega) (V8' (F.getD 0 0))
        injection hg with hg
        injection hg with hg
        subst hg
        rw [tailOf_set F 7 0 (by rw [HF.out])] at h3
        have H3 := Lib.hid h3
        clear h3 hw hlt hk
        generalize F.getD 0 0 = y at *
        go_wp2_with fail
        go_roundw
        case rel => exact ⟨8, by omega, rfl, H3.out⟩
        case measure => simp [intOf]
    · obtain rfl : k = 8 := by omega
      have e0 : tailOf F 8 = F := by have := tailOf_all F; rw [HF.out] at this; exact this
      rw [e0] at hw
      have hst := hw.rowString (P := Tryd.prog) (src := BT) (dst := ST) (e := U8) (by kernel_rfl) (by kernel_rfl) (by kernel_rfl)
      have HD := Lib.hid hw.drop
      clear hw e0 hlt
      go_wp2_with (refine wpList_conv_run (o := ⟨some 26, _, _, _, _, _⟩) hst rfl rfl rfl ?_; clear hst)
      go_ret
      exact ⟨rfl, HD.out⟩
end Go.Proofs.YtilcilbmbhbakaaDoor
