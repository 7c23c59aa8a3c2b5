/- The small functions of latchkeylaw01 over rows of texts: beyond, joined, lent, kept, backward. -/
import Derived.Test.YtldloociaoflkaaCuts
import Derived.Test.YtldloociaoflkaaRefMac
namespace Go.Proofs.Ytldloociaoflkaa
open Go.RowKit
abbrev spareB : ByteArray := ⟨#[115, 112, 97, 114, 101]⟩
theorem joined_len_le (xs : List ByteArray) : ∀ x ∈ xs, x.size ≤ (joined xs).length := by
  intro x hx
  unfold joined
  induction xs with
  | nil => cases hx
  | cons y l ih =>
    rw [List.flatMap_cons, List.length_append]
    have e : y.data.toList.length = y.size := rfl
    rcases List.mem_cons.1 hx with rfl | h
    · omega
    · have := ih h; omega
theorem joined_reverse_len (xs : List ByteArray) : (joined xs.reverse).length = (joined xs).length := by
  unfold joined
  rw [List.length_flatMap, List.length_flatMap]
  exact (List.Perm.map _ (List.reverse_perm xs)).sum_nat
def Small (m : Nat) (w : World) (e : Ending) (w' : World) : Prop := ∃ b : Bool, (b = false → m ≤ 2147483647) ∧ e = .returned (.bool b) ∧ w = w'
set_option maxHeartbeats 1000000 in
theorem beyond_any {E : World} {S : Ph} {L : List Hp} (key : ByteArray) (A : Option Addr) (n c : Nat) (xs : List ByteArray) (w : World) (hn : n ≤ maxLen) (hr : Rds S 1 enStr A n xs) (hk : key.size ≤ 9000000000000000000) (hz : ∀ x ∈ xs, x.size ≤ 9000000000000000000) (h : Own E w (Hp.ro S :: L)) :
    Calls Try.prog 11 #[.string key, .slice A n c] w fun e w' => Small (key.size + n + (joined xs).length) w e w' := by
  unfold maxLen at hn
  go_enter Try.func11, Try.ntmps11
  go_wp2_with fail
  go_loopw [5, 6] (fun m i wr => ∃ k j : Nat, k ≤ n ∧ i = .int .i64 k ∧ m = .int .i64 j ∧ j = key.size + k + (joined (xs.take k)).length ∧ j ≤ 9000000002147483648 ∧ wr = w) (fun _ i _ => n - (intOf i).toNat)
  case atStart => exact ⟨0, key.size, by omega, rfl, rfl, by simp [joined], by omega, rfl⟩
  case round =>
    obtain ⟨k, j, hkn, rfl, rfl, hj, hj2, rfl⟩ := hrel
    by_cases hlt : k < n
    · obtain ⟨x, g, off, hx, rfl, hc⟩ := hr.get1 hlt
      have c1 := h.rd (hc _ rfl)
      have ek := joined_snoc xs k x hx
      have hle := joined_le xs (k + 1)
      have hxs := hz x (List.mem_of_getElem? hx)
      have hkl : key.size + (k + 1) + (joined (xs.take (k + 1))).length = j + 1 + x.size := by
        rw [ek, List.length_append, hj]
        have e1 : x.data.toList.length = x.size := rfl
        omega
      by_cases hm : j ≤ 2147483647
      · have hm' : (j : Int) ≤ 2147483647 := by omega
        have HK := Lib.hid hkl
        clear hkl ek hle hj hc hx hr hz
        go_wp2_with fail
        go_roundw
        case rel => exact ⟨k + 1, j + 1 + x.size, by omega, by go_num, by go_num, HK.out.symm, by omega, trivial⟩
        case measure => simp [intOf]; omega
      · have hm' : ¬ (j : Int) ≤ 2147483647 := by omega
        have hm2 : (2147483647 : Int) < j := by omega
        clear hkl ek hle hj hc hx hr hz
        go_wp2_with fail
        go_ret
        exact ⟨true, by simp, rfl, rfl⟩
    · obtain rfl : k = n := by omega
      have e0 : xs.take k = xs := List.take_of_length_le (by have := hr.1; omega)
      rw [e0] at hj
      have HJ := Lib.hid hj
      clear hr hz hj e0
      by_cases hm : j ≤ 2147483647
      · have hm2 : ¬ (2147483647 : Int) < j := by omega
        go_wp2_with fail
        go_ret
        exact ⟨false, fun _ => by rw [← HJ.out]; exact hm, rfl, rfl⟩
      · have hm2 : (2147483647 : Int) < j := by omega
        go_wp2_with fail
        go_ret
        exact ⟨true, by simp, rfl, rfl⟩
set_option maxHeartbeats 1000000 in
theorem joined_any {E : World} {S : Ph} {L : List Hp} (A : Option Addr) (n c : Nat) (xs : List ByteArray) (w : World) (hn : n ≤ maxLen) (hr : Rds S 1 enStr A n xs) (hl : (joined xs).length ≤ 140737488355328) (h : Own E w (Hp.ro S :: L)) :
    Calls Try.prog 15 #[.slice A n c] w fun e w' => e = .returned (.string ⟨(joined xs).toArray⟩) ∧ Own E w' (Hp.ro S :: L) := by
  unfold maxLen at hn
  have HL := Lib.hid hl
  clear hl
  go_enter Try.func15, Try.ntmps15
  go_wp2_with fail
  have h0 := Lib.hid (h.nilRow U8 1)
  clear h
  go_loopw [3, 4] (fun v i wr => ∃ k : Nat, k ≤ n ∧ i = .int .i64 k ∧ Own E wr (Hp.row U8 1 v (joined (xs.take k)).length ((joined (xs.take k)).map V8') :: Hp.ro S :: L)) (fun _ i _ => n - (intOf i).toNat)
  case atStart => exact ⟨0, by omega, rfl, h0.out⟩
  case round =>
    obtain ⟨k, hkn, rfl, hw⟩ := hrel
    clear h0
    by_cases hlt : k < n
    · obtain ⟨x, g, off, hx, rfl, hc⟩ := hr.get1 hlt
      have c1 := hw.f1.rd (hc _ rfl)
      have ek := joined_snoc xs k x hx
      have hle := joined_le xs (k + 1)
      have e1 : x.data.toList.length = x.size := rfl
      have hb : (joined (xs.take k)).length + x.size ≤ 140737488355328 := by
        rw [ek, List.length_append] at hle
        have := HL.out
        omega
      obtain ⟨v', w5, hap, h5, -⟩ := sl_append_string (P := Try.prog) (t := BT) (u := ST) (ty := BT) (e := U8) (by kernel_rfl) (by kernel_rfl) u8_info hw x hb
      have h6 : Own E w5 (Hp.row U8 1 v' (joined (xs.take (k + 1))).length ((joined (xs.take (k + 1))).map V8') :: Hp.ro S :: L) := by
        rw [ek, List.length_append, e1, List.map_append]; exact h5
      have H6 := Lib.hid h6
      clear ek hle hb hw hc hx hr h5 h6 e1
      go_wp2_with (refine wpList_append_run (o := ⟨some 16, _, _, _, _, _⟩) hap rfl rfl rfl rfl ?_; clear hap)
      go_roundw
      case rel => exact ⟨k + 1, by omega, by go_num, H6.out⟩
      case measure => simp [intOf]; omega
    · obtain rfl : k = n := by omega
      have e0 : xs.take k = xs := List.take_of_length_le (by have := hr.1; omega)
      rw [e0] at hw
      have hst := hw.rowString (P := Try.prog) (src := BT) (dst := ST) (e := U8) (by kernel_rfl) (by kernel_rfl) (by kernel_rfl)
      have HD := Lib.hid hw.drop
      clear hlt e0 hr hw
      go_wp2_with (refine wpList_conv_run (o := ⟨some 18, _, _, _, _, _⟩) hst rfl rfl rfl ?_; clear hst)
      go_ret
      exact ⟨rfl, HD.out⟩
theorem flat_strs (xs : List ByteArray) : xs.flatMap enStr = xs.map Value.string := by
  induction xs with
  | nil => rfl
  | cons x l ih => rw [List.flatMap_cons, ih]; rfl
/-- What was lent, so far. -/
def lentSo (xs : List ByteArray) (k : Nat) : List Value := xs.map Value.string ++ (List.replicate k (Value.string spareB) ++ List.replicate (8 - k) (Value.string .empty))
theorem lentSo_len (xs : List ByteArray) (k : Nat) (h : k ≤ 8) : (lentSo xs k).length = xs.length + 8 := by
  unfold lentSo; simp; omega
theorem lentSo_get (xs : List ByteArray) (k n : Nat) (hn : xs.length = n) (h : k < 8) : (lentSo xs k).toArray[n + k]? = some (Value.string .empty) := by
  subst hn
  unfold lentSo
  have e : 8 - k = (8 - (k + 1)) + 1 := by omega
  rw [e, List.replicate_succ, ← List.append_assoc]
  exact get_mid _ _ _ _ (by simp)
theorem lentSo_set (xs : List ByteArray) (k n : Nat) (hn : xs.length = n) (h : k < 8) : (lentSo xs k).toArray.setIfInBounds (n + k) (Value.string spareB) = (lentSo xs (k + 1)).toArray := by
  subst hn
  unfold lentSo
  have e : 8 - k = (8 - (k + 1)) + 1 := by omega
  rw [e, List.replicate_succ, ← List.append_assoc, set_mid _ _ _ _ _ (by simp), List.replicate_succ']
  simp
set_option maxHeartbeats 1000000 in
theorem lent_any {E : World} {S : Ph} {L : List Hp} (A : Option Addr) (n c : Nat) (xs : List ByteArray) (w : World) (hn : n ≤ 2147483647) (hr : Rds S 1 enStr A n xs) (h : Own E w (Hp.ro S :: L)) :
    Calls Try.prog 13 #[.slice A n c] w fun e w' => ∃ g, e = .returned (.slice (some ⟨g, 0, none⟩) (n + 8) (n + 8)) ∧ Own E w' (Hp.blk g ST (lentSo xs 8).toArray :: Hp.ro S :: L) := by
  have hxl := hr.1
  obtain ⟨w1, hmk0, -, -, h1⟩ := sl_make (P := Try.prog) (T := SLT) (e := ST) (z := .string .empty) (bytes := 16) (by kernel_rfl) str_info rfl .i64 .i64 (n + 8) (n + 8) (by omega) (by omega) (by unfold maxLen; omega) h
  generalize w.heap.size = g at *
  have hmk : (Instr.makeSlice SLT (.int .i64 ((n : Int) + 8)) (.int .i64 ((n : Int) + 8))).run Try.prog w = .ok (.slice (some ⟨g, 0, none⟩) (n + 8) (n + 8)) w1 := hmk0
  have hrd : RdC w1 A (xs.map Value.string) := by
    have h2 := (hr.sub h1.f1.sub).rdc
    rw [flat_strs] at h2
    exact h2
  obtain ⟨w2, hcp, h2⟩ := sl_copy (P := Try.prog) (dT := SLT) (sT := SLT) (ty := 3) (elem := ST) (by kernel_rfl) (by kernel_rfl) (off := 0) h1 (some ⟨g, 0, none⟩) A (n + 8) (n + 8) n c (xs.map Value.string) (by rw [List.length_map, hxl]; exact (Nat.min_eq_left (by omega)).symm) (fun _ => rfl) hrd (by simp; omega) (strs_one xs)
  have e0 : splice (List.replicate (n + 8) (Value.string .empty)) 0 (xs.map Value.string) = lentSo xs 0 := by
    unfold splice lentSo
    rw [List.length_map, hxl, List.drop_replicate]
    simp
  rw [e0] at h2
  have H2 := Lib.hid h2
  clear h2 h1 e0 hmk0 hrd hr h
  go_enter Try.func13, Try.ntmps13
  go_wp2_with (first | (refine wpList_make_run (o := ⟨some 8, _, _, _, _, _⟩) hmk rfl rfl rfl rfl ?_; clear hmk) | (refine wpList_copy_run (o := ⟨some 11, _, _, _, _, _⟩) hcp rfl rfl rfl rfl ?_; clear hcp))
  go_loopw [4] (fun i wr => ∃ k : Nat, k ≤ 8 ∧ i = .int .i64 ((n + k : Nat) : Int) ∧ Own E wr (Hp.blk g ST (lentSo xs k).toArray :: Hp.ro S :: L)) (fun i _ => n + 8 - (intOf i).toNat)
  case atStart => exact ⟨0, by omega, rfl, H2.out⟩
  case round =>
    obtain ⟨k, hk8, rfl, hw⟩ := hrel
    clear H2
    by_cases hlt : k < 8
    · have c1 := hw.cell (n + k)
      rw [lentSo_get xs k n hxl hlt] at c1
      have f1 := hw.frozen (n + k)
      have h3 := hw.set (n + k) (.string spareB)
      rw [lentSo_set xs k n hxl hlt] at h3
      have H3 := Lib.hid h3
      clear h3 hw
      generalize hm : n + k = m at *
      have i1 : (0 : Int) ≤ (m : Int) := by omega
      have i2 : (m : Int) < n + 8 := by omega
      go_wp2_with fail
      go_roundw
      case rel => exact ⟨k + 1, by omega, by go_num, H3.out⟩
      case measure => simp [intOf]; omega
    · obtain rfl : k = 8 := by omega
      go_wp2_with fail
      go_ret
      exact ⟨g, rfl, hw⟩
set_option maxHeartbeats 1000000 in
theorem kept_any {E : World} {S T : Ph} {L : List Hp} (A B : Option Addr) (n c c' : Nat) (xs ys : List ByteArray) (w : World) (hn : n ≤ 2147483647) (hr : Rds S 1 enStr A (n + 8) ys) (hq : Rds T 1 enStr B n xs) (hy : ys = xs ++ List.replicate 8 spareB) (h : Own E w (Hp.ro S :: Hp.ro T :: L)) :
    Calls Try.prog 17 #[.slice A (n + 8) c, .slice B n c'] w fun e w' => e = .returned (.bool true) ∧ w = w' := by
  go_enter Try.func17, Try.ntmps17
  go_wp2_with fail
  go_loopw [5, 6] (fun i s wr => ∃ k : Nat, k ≤ n + 8 ∧ i = .int .i64 k ∧ wr = w) (fun i _ _ => n + 8 - (intOf i).toNat)
  case atStart => exact ⟨0, by omega, rfl, rfl⟩
  case round =>
    obtain ⟨k, hkn, rfl, rfl⟩ := hrel
    by_cases hlt : k < n + 8
    · obtain ⟨y, g, off, hx, rfl, hc⟩ := hr.get1 hlt
      have c1 := h.rd (hc _ rfl)
      by_cases hkk : k < n
      · obtain ⟨x, g2, off2, hx2, rfl, hc2⟩ := hq.get1 hkk
        have c2 := h.f1.rd (hc2 _ rfl)
        have e : y = x := by
          rw [hy, List.getElem?_append_left (by have := hq.1; omega), hx2] at hx
          injection hx with hx
          exact hx.symm
        subst e
        clear hx hx2 hc hc2 hr hq hy
        go_wp2_with fail
        go_roundw
        case rel => exact ⟨k + 1, by omega, by go_num, trivial⟩
        case measure => simp [intOf]; omega
      · have e : y = spareB := by
          rw [hy, List.getElem?_append_right (by have := hq.1; omega), List.getElem?_replicate, if_pos (by have := hq.1; omega)] at hx
          injection hx with hx
          exact hx.symm
        subst e
        clear hx hc hr hq hy
        go_wp2_with fail
        go_roundw
        case rel => exact ⟨k + 1, by omega, by go_num, trivial⟩
        case measure => simp [intOf]; omega
    · obtain rfl : k = n + 8 := by omega
      go_wp2_with fail
      go_ret
      exact ⟨rfl, rfl⟩
set_option maxHeartbeats 1000000 in
theorem backward_any {E : World} {S : Ph} {L : List Hp} (A : Option Addr) (n c : Nat) (xs : List ByteArray) (w : World) (hn : n ≤ 2147483647) (hr : Rds S 1 enStr A n xs) (h : Own E w (Hp.ro S :: L)) :
    Calls Try.prog 18 #[.slice A n c] w fun e w' => ∃ v, e = .returned v ∧ Own E w' (Hp.row ST 1 v n (xs.reverse.map Value.string) :: Hp.ro S :: L) := by
  have hxl := hr.1
  go_enter Try.func18, Try.ntmps18
  go_wp2_with fail
  have h0 := Lib.hid (h.nilRow ST 1)
  clear h
  go_loopw [3, 4] (fun v i wr => ∃ k : Nat, k ≤ n ∧ i = .int .i64 ((n : Int) - 1 - k) ∧ Own E wr (Hp.row ST 1 v k ((xs.reverse.take k).map Value.string) :: Hp.ro S :: L)) (fun _ i _ => (intOf i + 1).toNat)
  case atStart => exact ⟨0, by omega, by simp, by simpa using h0.out⟩
  case round =>
    obtain ⟨k, hkn, rfl, hw⟩ := hrel
    clear h0
    by_cases hlt : k < n
    · obtain ⟨x, g, off, hx, rfl, hc⟩ := hr.get1 (k := n - 1 - k) (by omega)
      have c1 := hw.f1.rd (hc _ rfl)
      have et : xs.reverse.take (k + 1) = xs.reverse.take k ++ [x] := by
        rw [List.take_add_one, List.getElem?_reverse (by omega), hxl, hx]; rfl
      obtain ⟨v', w5, hap, h5⟩ := add_str x (by omega) hw
      rw [← et] at h5
      have H5 := Lib.hid h5
      obtain ⟨m, hm⟩ : ∃ m : Nat, m = n - 1 - k := ⟨_, rfl⟩
      rw [← hm] at c1
      have hmi : (n : Int) - 1 - k = m := by omega
      have hmn : (m : Int) < n := by omega
      have hm0 : (0 : Int) ≤ m := by omega
      rw [hmi]
      have HM := Lib.hid hm
      have HMI := Lib.hid hmi
      clear hw hc hx hr et h5 hm hmi
      go_wp2_with (refine wpList_append_run (o := ⟨some 18, _, _, _, _, _⟩) hap rfl rfl rfl rfl ?_; clear hap)
      go_roundw
      case rel => exact ⟨k + 1, by omega, by have := HMI.out; go_num, H5.out⟩
      case measure => have := HMI.out; simp [intOf]; try omega
    · obtain rfl : k = n := by omega
      rw [List.take_of_length_le (by simp [hxl])] at hw
      have hneg : (k : Int) - 1 - k = -1 := by omega
      rw [hneg]
      clear hr hlt
      go_wp2_with fail
      go_ret
      exact ⟨_, rfl, hw⟩
end Go.Proofs.Ytldloociaoflkaa
