/- HashKeys. -/
import Derived.Test.YtldloociaoflkaaKnown
namespace Go.Proofs.Ytldloociaoflkaa
open Go.RowKit
theorem key_short (k : List UInt8) (h : k.length ≤ 64) : Sha.key k = k := by unfold Sha.key; rw [if_neg (by omega)]
theorem padded_more (k : List UInt8) (n : Nat) (x : UInt8) (h : k.length + n ≤ 64) : Sha.padded (k ++ List.replicate n 0) x = Sha.padded k x := by
  unfold Sha.padded
  rw [List.append_assoc, List.length_append, List.length_replicate, List.replicate_append_replicate]
  congr 4
  omega
theorem mac_more (k t : List UInt8) (n : Nat) (h : k.length + n ≤ 64) : Sha.mac (k ++ List.replicate n 0) t = Sha.mac k t := by
  unfold Sha.mac
  rw [key_short _ (by simp; omega), key_short k (by omega), padded_more _ _ _ h, padded_more _ _ _ h]
theorem mac_key (k t : List UInt8) : Sha.mac (Sha.key k) t = Sha.mac k t := by
  have h : (Sha.key k).length ≤ 64 := by
    unfold Sha.key
    split
    · rw [Sha.sum_length]; omega
    · omega
  unfold Sha.mac
  rw [key_short _ h]
theorem ret_i64 {a b : Int} (h : a = b) : Ending.returned (.int .i64 a) = .returned (.int .i64 b) := by rw [h]
def SomeNat (n : Int) (w : World) (e : Ending) (w' : World) : Prop := ∃ m : Nat, (m : Int) < n ∧ e = .returned (.int .i64 m) ∧ w = w'
theorem pick_any (c n : Int) (w : World) (hc : -9223372036854775808 ≤ c ∧ c ≤ 9223372036854775807) (hn : 0 < n) (hn2 : n ≤ 9223372036854775807) :
    Calls Try.prog 26 #[.int .i64 c, .int .i64 n] w (SomeNat n w) := by
  have h0 : (n == 0) = false := by rw [beq_eq_false_iff_ne]; omega
  by_cases h : c < 0
  · have e1 := Int.emod_nonneg (-(c + 1)) (show n ≠ 0 by omega)
    have e2 := Int.emod_lt_of_pos (-(c + 1)) hn
    obtain ⟨m, hm⟩ := Int.eq_ofNat_of_zero_le e1
    have h1 : 0 ≤ -(c + 1) := by omega
    have HM := Lib.hid hm
    rw [hm] at e2
    clear hm e1
    go_enter Try.func26, Try.ntmps26
    go_wp2
    go_ret
    exact ⟨m, e2, ret_i64 (by rw [← Int.neg_tmod, Int.tmod_eq_emod_of_nonneg h1, HM.out]), rfl⟩
  · have e1 := Int.emod_nonneg c (show n ≠ 0 by omega)
    have e2 := Int.emod_lt_of_pos c hn
    obtain ⟨m, hm⟩ := Int.eq_ofNat_of_zero_le e1
    have h1 : 0 ≤ c := by omega
    have HM := Lib.hid hm
    rw [hm] at e2
    clear hm e1
    go_enter Try.func26, Try.ntmps26
    go_wp2
    go_ret
    exact ⟨m, e2, ret_i64 HM.out, rfl⟩
set_option maxHeartbeats 1000000 in
theorem filled_any {E : World} {L : List Hp} (s : ByteArray) (x : UInt8) (vx : Int) (hvx : vx = (x.toNat : Int)) (w : World) (hs : s.size ≤ 64) (h : Own E w L) :
    Calls Try.prog 32 #[.string s, .int .u8 vx] w fun e w' => e = .returned (.string ⟨(Sha.padded s.data.toList x).toArray⟩) ∧ Own E w' L := by
  subst hvx
  obtain ⟨w1, hmk0, -, -, h1⟩ := sl_make (P := Try.prog) (T := BT) (e := U8) (z := .int .u8 0) (bytes := 1) (by kernel_rfl) u8_info rfl .i64 .i64 64 64 (by omega) (by omega) (by unfold maxLen; omega) h
  have hmk : (Instr.makeSlice BT (.int .i64 64) (.int .i64 64)).run Try.prog w = .ok (.slice (some ⟨w.heap.size, 0, none⟩) 64 64) w1 := hmk0
  clear hmk0
  generalize w.heap.size = g at *
  obtain ⟨w2, hcp, h2⟩ := sl_copy_string (P := Try.prog) (dT := BT) (sT := ST) (ty := 3) (elem := U8) (by kernel_rfl) (by kernel_rfl) (off := 0) h1 64 64 s hs (by simp; omega)
  obtain ⟨K, hK⟩ : ∃ K, K = s.data.toList ++ List.replicate (64 - s.data.toList.length) (0 : UInt8) := ⟨_, rfl⟩
  have hsz : s.data.toList.length = s.size := rfl
  have hKl : K.length = 64 := by rw [hK, List.length_append, List.length_replicate, hsz]; omega
  have e1 : splice (List.replicate 64 (Value.int .u8 0)) 0 (Lib.byteCells s.data.toList) = (crossed K x 0).map V8 := by
    unfold splice crossed
    have e2 : (Lib.byteCells s.data.toList) = s.data.toList.map V8 := rfl
    rw [e2, hK, List.length_map, hsz, List.drop_replicate]
    simp
  rw [e1] at h2
  have hfin : Sha.padded s.data.toList x = crossed K x 64 := by
    rw [crossed_all K x 64 (by omega), hK]; rfl
  have HF := Lib.hid hfin
  have HK := Lib.hid hKl
  have H2 := Lib.hid h2
  clear hK hKl hsz e1 hfin h1 h2
  go_enter Try.func32, Try.ntmps32
  go_wp2_with (first | (refine wpList_make_run (o := ⟨some 7, _, _, _, _, _⟩) hmk rfl rfl rfl rfl ?_; clear hmk) | (refine wpList_copy_run (o := ⟨some 10, _, _, _, _, _⟩) hcp rfl rfl rfl rfl ?_; clear hcp))
  go_loopw [6] (fun i wr => ∃ k : Nat, k ≤ 64 ∧ i = .int .i64 k ∧ Own E wr (Hp.blk g U8 ((crossed K x k).map V8).toArray :: L)) (fun i _ => 64 - (intOf i).toNat)
  case atStart => exact ⟨0, by omega, rfl, H2.out⟩
  case round =>
    obtain ⟨k, hk, rfl, hw⟩ := hrel
    clear H2
    by_cases hlt : k < 64
    · have hlk : k < K.length := by rw [HK.out]; exact hlt
      have c1 := hw.cell k
      rw [crossed_get K x k hlk] at c1
      have f1 := hw.frozen k
      have h3 := hw.set k (V8 (K[k] ^^^ x))
      rw [crossed_set K x k hlk] at h3
      have H3 := Lib.hid h3
      have hx := u8x K[k] x
      clear h3 hw
      generalize K[k] = y at *
      generalize y ^^^ x = z at *
      have i1 : (0 : Int) ≤ (k : Int) := by omega
      have i2 : (k : Int) < 64 := by omega
      clear hlk h
      go_wp2_with fail
      go_roundw
      case rel => exact ⟨k + 1, by omega, by go_num, H3.out⟩
      case measure => simp [intOf]; omega
    · obtain rfl : k = 64 := by omega
      have h4 := hw.toRow 1 64 64 (by omega) (by unfold maxLen; omega) (by simp [crossed_len, HK.out])
      have e3 : ((crossed K x 64).map V8).toArray.toList.take (64 * 1) = (Sha.padded s.data.toList x).map V8' := by
        rw [HF.out]
        exact List.take_of_length_le (by simp [crossed_len, HK.out])
      rw [e3] at h4
      have hst := h4.rowString (P := Try.prog) (src := BT) (dst := ST) (e := U8) (by kernel_rfl) (by kernel_rfl) (by kernel_rfl)
      have HD := Lib.hid h4.drop
      clear h4 hw e3 h hlt
      go_wp2_with (refine wpList_conv_run (o := ⟨some 25, _, _, _, _, _⟩) hst rfl rfl rfl ?_; clear hst)
      go_ret
      exact ⟨rfl, HD.out⟩


theorem joined_one (a : ByteArray) : joined [a] = a.data.toList := by simp [joined]
theorem joined_two (a b : ByteArray) : joined [a, b] = a.data.toList ++ b.data.toList := by simp [joined]

theorem str_eta (s : ByteArray) : (⟨s.data.toList.toArray⟩ : ByteArray) = s := rfl
theorem one_blk {E w : World} {L : List Hp} (h : Own E w L) (a : ByteArray) : Own E (w.alloc (.cells #[.string a] ST)) (Hp.obj w.heap.size (.cells #[.string a] ST) :: L) := h.alloc _
set_option maxHeartbeats 2000000 in
theorem keys_any {E : World} {L : List Hp} (key : ByteArray) (c : Int) (text : ByteArray) (w : World) (hk : key.size ≤ 140737488355328) (ht : text.size ≤ 140737488355328) (hc : -9223372036854775808 ≤ c ∧ c ≤ 9223372036854775807) (h : Own E w L) :
    Calls Try.prog 8 #[.string key, .int .i64 c, .string text] w fun e w' => e = .returned (.bool true) ∧ Own E w' L := by
  have Hk := Lib.hid hk
  have Ht := Lib.hid ht
  have Hc := Lib.hid hc
  obtain ⟨M, hM⟩ : ∃ M : ByteArray, M = ⟨(Sha.mac key.data.toList text.data.toList).toArray⟩ := ⟨_, rfl⟩
  obtain ⟨K, hK⟩ : ∃ K : ByteArray, K = ⟨(Sha.key key.data.toList).toArray⟩ := ⟨_, rfl⟩
  have hK2 : K.data.toList = Sha.key key.data.toList := by rw [hK]
  have hKs : K.size ≤ 64 := by
    have e : K.size = (Sha.key key.data.toList).length := by rw [hK]; rfl
    rw [e]
    unfold Sha.key
    split
    · rw [Sha.sum_length]; omega
    · omega
  have hjt : (joined [text]).length ≤ 140737488355328 := by rw [joined_one]; exact ht
  have HJ := Lib.hid hjt
  have hMK : M = ⟨(Sha.sum (Sha.padded K.data.toList 92 ++ Sha.sum (Sha.padded K.data.toList 54 ++ text.data.toList))).toArray⟩ := by rw [hM, hK2]; rfl
  have hMK2 : M = ⟨(Sha.mac K.data.toList text.data.toList).toArray⟩ := by rw [hM, hK2, mac_key]
  have HMK := Lib.hid hMK
  have HMK2 := Lib.hid hMK2
  have HM := Lib.hid hM
  have HK := Lib.hid hK
  clear hk ht hc hM hK hK2 hjt hMK hMK2
  have hpre : ∀ (Q : World → Prop), True := fun _ => trivial
  clear hpre
  by_cases hlong : 64 < key.size
  · go_enter Try.func8, Try.ntmps8
    go_wp2_with fail
    refine (known_any _ h).mono ?_
    rintro e w1 ⟨rfl, h1⟩
    go_wp2_with fail
    refine (mac_any key _ 1 1 [text] _ (by unfold maxLen; omega) (Rds.of_blk [text] rfl) Hk.out HJ.out (one_blk h1 text)).mono ?_
    rintro e w2 ⟨rfl, h2⟩
    rw [joined_one, ← HM.out]
    have h3 := h2.drop
    clear h2 h1 h
    go_wp2_with fail
    have hjk : (joined [key]).length ≤ 1152921504606846975 := by rw [joined_one]; exact Nat.le_trans Hk.out (by omega)
    refine (hsum_any _ 1 1 [key] _ (by unfold maxLen; omega) (Rds.of_blk [key] rfl) hjk (one_blk h3 key)).mono ?_
    rintro e w3 ⟨rfl, h4⟩
    have eK : (⟨(Sha.sum (joined [key])).toArray⟩ : ByteArray) = K := by
      rw [HK.out, joined_one]
      unfold Sha.key
      rw [if_pos (show 64 < key.data.toList.length from hlong)]
    rw [eK]
    have h5 := h4.drop
    clear h4 h3 eK hjk hlong
    have hK64 : ¬ (64 : Int) < K.size := by omega
    go_wp2_with fail
    refine (filled_any K 54 54 rfl _ hKs h5).mono ?_
    rintro e w4 ⟨rfl, h6⟩
    clear h5
    have hpl : ∀ x, (Sha.padded K.data.toList x).length = 64 := fun x => by
      have e : K.data.toList.length = K.size := rfl
      simp [Sha.padded]; omega
    have HP := Lib.hid hpl
    obtain ⟨p1, hp1⟩ : ∃ p : ByteArray, p = ⟨(Sha.padded K.data.toList 54).toArray⟩ := ⟨_, rfl⟩
    rw [← hp1]
    obtain ⟨I, hI⟩ : ∃ I : ByteArray, I = ⟨(Sha.sum (Sha.padded K.data.toList 54 ++ text.data.toList)).toArray⟩ := ⟨_, rfl⟩
    have hj1 : joined [p1, text] = Sha.padded K.data.toList 54 ++ text.data.toList := by rw [joined_two, hp1]
    have hl1 : (joined [p1, text]).length ≤ 1152921504606846975 := by
      rw [hj1, List.length_append, hpl]
      have e : text.data.toList.length = text.size := rfl
      have := Ht.out
      omega
    have h7 := h6.alloc (.cells #[.string p1, .string text] ST)
    have HJ1 := Lib.hid hj1
    have HI := Lib.hid hI
    have HL1 := Lib.hid hl1
    have HP1 := Lib.hid hp1
    clear hj1 hI hp1 hl1 hpl h6
    go_wp2_with fail
    refine (hsum_any _ 2 2 [p1, text] _ (by unfold maxLen; omega) (Rds.of_blk [p1, text] rfl) HL1.out h7).mono ?_
    rintro e w5 ⟨rfl, h8⟩
    rw [HJ1.out, ← HI.out]
    have h9 := h8.drop
    clear h8 h7 HJ1 HL1 HP1
    go_wp2_with fail
    refine (filled_any K 92 92 rfl _ hKs h9).mono ?_
    rintro e w6 ⟨rfl, h10⟩
    clear h9
    obtain ⟨p2, hp2⟩ : ∃ p : ByteArray, p = ⟨(Sha.padded K.data.toList 92).toArray⟩ := ⟨_, rfl⟩
    rw [← hp2]
    have hj2 : joined [p2, I] = Sha.padded K.data.toList 92 ++ Sha.sum (Sha.padded K.data.toList 54 ++ text.data.toList) := by rw [joined_two, hp2, HI.out]
    have hl2 : (joined [p2, I]).length ≤ 1152921504606846975 := by
      rw [hj2, List.length_append, HP.out, Sha.sum_length]; omega
    have h11 := h10.alloc (.cells #[.string p2, .string I] ST)
    have HJ2 := Lib.hid hj2
    have HL2 := Lib.hid hl2
    clear hj2 hp2 hl2 h10
    go_wp2_with fail
    refine (hsum_any _ 2 2 [p2, I] _ (by unfold maxLen; omega) (Rds.of_blk [p2, I] rfl) HL2.out h11).mono ?_
    rintro e w7 ⟨rfl, h12⟩
    have eM : (⟨(Sha.sum (joined [p2, I])).toArray⟩ : ByteArray) = M := by
      rw [HMK.out, HJ2.out]
    rw [eM]
    have h13 := h12.drop
    clear h12 h11 eM HJ2 HL2
    go_wp2_with fail
    have hKk : K.size ≤ 140737488355328 := by omega
    refine (mac_any K _ 1 1 [text] _ (by unfold maxLen; omega) (Rds.of_blk [text] rfl) hKk HJ.out (one_blk h13 text)).mono ?_
    rintro e w8 ⟨rfl, h14⟩
    have eM : (⟨(Sha.mac K.data.toList (joined [text])).toArray⟩ : ByteArray) = M := by
      rw [HMK2.out, joined_one]
    rw [eM]
    have h15 := h14.drop
    clear h14 h13 eM hKk
    go_wp2_with fail
    refine (pick_any c _ _ Hc.out (by omega) (by omega)).mono ?_
    rintro e w9 ⟨q, hq, rfl, rfl⟩
    obtain ⟨w10, hmk, -, h16, -⟩ := sl_make (P := Try.prog) (T := BT) (e := U8) (z := .int .u8 0) (bytes := 1) (by kernel_rfl) u8_info rfl .i64 .i64 q q (by omega) (by omega) (by unfold maxLen; omega) h15
    have h17 : Own E w10 (Hp.row U8 1 (.slice (some ⟨w8.heap.size, 0, none⟩) q q) q ((List.replicate q (0 : UInt8)).map V8') :: L) := by
      rw [List.map_replicate]; exact h16
    have hst := h17.rowString (P := Try.prog) (src := BT) (dst := ST) (e := U8) (by kernel_rfl) (by kernel_rfl) (by kernel_rfl)
    obtain ⟨Z, hZ⟩ : ∃ Z : ByteArray, Z = ⟨(List.replicate q (0 : UInt8)).toArray⟩ := ⟨_, rfl⟩
    rw [← hZ] at hst
    have H17 := Lib.hid h17.drop
    have hZs : Z.size = q := by rw [hZ]; simp [ByteArray.size]
    have hKZ : (K ++ Z).data.toList = K.data.toList ++ List.replicate q 0 := by rw [ByteArray.data_append, Array.toList_append, hZ]
    have HZ := Lib.hid hZ
    have HZs := Lib.hid hZs
    have hZb : Z.size ≤ 64 := by omega
    have HKZ := Lib.hid hKZ
    clear h16 h17 hZ hZs hKZ h15
    go_wp2_with (first | (refine wpList_make_run (o := ⟨some 57, _, _, _, _, _⟩) hmk rfl rfl rfl rfl ?_; clear hmk) | (refine wpList_conv_run (o := ⟨some 58, _, _, _, _, _⟩) hst rfl rfl rfl ?_; clear hst))
    have hKZs : (K ++ Z).size ≤ 140737488355328 := by rw [ByteArray.size_append, HZs.out]; omega
    refine (mac_any (K ++ Z) _ 1 1 [text] _ (by unfold maxLen; omega) (Rds.of_blk [text] rfl) hKZs HJ.out (one_blk H17.out text)).mono ?_
    rintro e w11 ⟨rfl, h18⟩
    have eM : (⟨(Sha.mac (K ++ Z).data.toList (joined [text])).toArray⟩ : ByteArray) = M := by
      have e : K.data.toList.length = K.size := rfl
      rw [HMK2.out, HKZ.out, joined_one, mac_more _ _ _ (by omega)]
    rw [eM]
    clear eM
    go_wp2_with fail
    go_ret
    exact ⟨rfl, h18.drop⟩
  · have eK : K = key := by
      rw [HK.out]
      unfold Sha.key
      rw [if_neg (show ¬ 64 < key.data.toList.length from hlong)]
    subst eK
    go_enter Try.func8, Try.ntmps8
    go_wp2_with fail
    refine (known_any _ h).mono ?_
    rintro e w1 ⟨rfl, h1⟩
    go_wp2_with fail
    refine (mac_any K _ 1 1 [text] _ (by unfold maxLen; omega) (Rds.of_blk [text] rfl) Hk.out HJ.out (one_blk h1 text)).mono ?_
    rintro e w2 ⟨rfl, h2⟩
    rw [joined_one, ← HM.out]
    have h5 := h2.drop
    clear h2 h1 h hlong
    have hK64 : ¬ (64 : Int) < K.size := by omega
    go_wp2_with fail
    refine (filled_any K 54 54 rfl _ hKs h5).mono ?_
    rintro e w4 ⟨rfl, h6⟩
    clear h5
    have hpl : ∀ x, (Sha.padded K.data.toList x).length = 64 := fun x => by
      have e : K.data.toList.length = K.size := rfl
      simp [Sha.padded]; omega
    have HP := Lib.hid hpl
    obtain ⟨p1, hp1⟩ : ∃ p : ByteArray, p = ⟨(Sha.padded K.data.toList 54).toArray⟩ := ⟨_, rfl⟩
    rw [← hp1]
    obtain ⟨I, hI⟩ : ∃ I : ByteArray, I = ⟨(Sha.sum (Sha.padded K.data.toList 54 ++ text.data.toList)).toArray⟩ := ⟨_, rfl⟩
    have hj1 : joined [p1, text] = Sha.padded K.data.toList 54 ++ text.data.toList := by rw [joined_two, hp1]
    have hl1 : (joined [p1, text]).length ≤ 1152921504606846975 := by
      rw [hj1, List.length_append, hpl]
      have e : text.data.toList.length = text.size := rfl
      have := Ht.out
      omega
    have h7 := h6.alloc (.cells #[.string p1, .string text] ST)
    have HJ1 := Lib.hid hj1
    have HI := Lib.hid hI
    have HL1 := Lib.hid hl1
    have HP1 := Lib.hid hp1
    clear hj1 hI hp1 hl1 hpl h6
    go_wp2_with fail
    refine (hsum_any _ 2 2 [p1, text] _ (by unfold maxLen; omega) (Rds.of_blk [p1, text] rfl) HL1.out h7).mono ?_
    rintro e w5 ⟨rfl, h8⟩
    rw [HJ1.out, ← HI.out]
    have h9 := h8.drop
    clear h8 h7 HJ1 HL1 HP1
    go_wp2_with fail
    refine (filled_any K 92 92 rfl _ hKs h9).mono ?_
    rintro e w6 ⟨rfl, h10⟩
    clear h9
    obtain ⟨p2, hp2⟩ : ∃ p : ByteArray, p = ⟨(Sha.padded K.data.toList 92).toArray⟩ := ⟨_, rfl⟩
    rw [← hp2]
    have hj2 : joined [p2, I] = Sha.padded K.data.toList 92 ++ Sha.sum (Sha.padded K.data.toList 54 ++ text.data.toList) := by rw [joined_two, hp2, HI.out]
    have hl2 : (joined [p2, I]).length ≤ 1152921504606846975 := by
      rw [hj2, List.length_append, HP.out, Sha.sum_length]; omega
    have h11 := h10.alloc (.cells #[.string p2, .string I] ST)
    have HJ2 := Lib.hid hj2
    have HL2 := Lib.hid hl2
    clear hj2 hp2 hl2 h10
    go_wp2_with fail
    refine (hsum_any _ 2 2 [p2, I] _ (by unfold maxLen; omega) (Rds.of_blk [p2, I] rfl) HL2.out h11).mono ?_
    rintro e w7 ⟨rfl, h12⟩
    have eM : (⟨(Sha.sum (joined [p2, I])).toArray⟩ : ByteArray) = M := by
      rw [HMK.out, HJ2.out]
    rw [eM]
    have h13 := h12.drop
    clear h12 h11 eM HJ2 HL2
    go_wp2_with fail
    have hKk : K.size ≤ 140737488355328 := by omega
    refine (mac_any K _ 1 1 [text] _ (by unfold maxLen; omega) (Rds.of_blk [text] rfl) hKk HJ.out (one_blk h13 text)).mono ?_
    rintro e w8 ⟨rfl, h14⟩
    have eM : (⟨(Sha.mac K.data.toList (joined [text])).toArray⟩ : ByteArray) = M := by
      rw [HMK2.out, joined_one]
    rw [eM]
    have h15 := h14.drop
    clear h14 h13 eM hKk
    go_wp2_with fail
    refine (pick_any c _ _ Hc.out (by omega) (by omega)).mono ?_
    rintro e w9 ⟨q, hq, rfl, rfl⟩
    obtain ⟨w10, hmk, -, h16, -⟩ := sl_make (P := Try.prog) (T := BT) (e := U8) (z := .int .u8 0) (bytes := 1) (by kernel_rfl) u8_info rfl .i64 .i64 q q (by omega) (by omega) (by unfold maxLen; omega) h15
    have h17 : Own E w10 (Hp.row U8 1 (.slice (some ⟨w8.heap.size, 0, none⟩) q q) q ((List.replicate q (0 : UInt8)).map V8') :: L) := by
      rw [List.map_replicate]; exact h16
    have hst := h17.rowString (P := Try.prog) (src := BT) (dst := ST) (e := U8) (by kernel_rfl) (by kernel_rfl) (by kernel_rfl)
    obtain ⟨Z, hZ⟩ : ∃ Z : ByteArray, Z = ⟨(List.replicate q (0 : UInt8)).toArray⟩ := ⟨_, rfl⟩
    rw [← hZ] at hst
    have H17 := Lib.hid h17.drop
    have hZs : Z.size = q := by rw [hZ]; simp [ByteArray.size]
    have hKZ : (K ++ Z).data.toList = K.data.toList ++ List.replicate q 0 := by rw [ByteArray.data_append, Array.toList_append, hZ]
    have HZ := Lib.hid hZ
    have HZs := Lib.hid hZs
    have hZb : Z.size ≤ 64 := by omega
    have HKZ := Lib.hid hKZ
    clear h16 h17 hZ hZs hKZ h15
    go_wp2_with (first | (refine wpList_make_run (o := ⟨some 57, _, _, _, _, _⟩) hmk rfl rfl rfl rfl ?_; clear hmk) | (refine wpList_conv_run (o := ⟨some 58, _, _, _, _, _⟩) hst rfl rfl rfl ?_; clear hst))
    have hKZs : (K ++ Z).size ≤ 140737488355328 := by rw [ByteArray.size_append, HZs.out]; omega
    refine (mac_any (K ++ Z) _ 1 1 [text] _ (by unfold maxLen; omega) (Rds.of_blk [text] rfl) hKZs HJ.out (one_blk H17.out text)).mono ?_
    rintro e w11 ⟨rfl, h18⟩
    have eM : (⟨(Sha.mac (K ++ Z).data.toList (joined [text])).toArray⟩ : ByteArray) = M := by
      have e : K.data.toList.length = K.size := rfl
      rw [HMK2.out, HKZ.out, joined_one, mac_more _ _ _ (by omega)]
    rw [eM]
    clear eM
    go_wp2_with fail
    go_ret
    exact ⟨rfl, h18.drop⟩
end Go.Proofs.Ytldloociaoflkaa
