/- TokenBack: true of any kinds, IDs and texts. -/
import Derived.Test.YtilcilbmbhbakaaDoorTok8
import Derived.Test.YtilcilbmbhbakaaDoorTok9
namespace Go.Proofs.YtilcilbmbhbakaaDoor
open Go.RowKit
theorem addsup_any (n m : Nat) (w : World) (hn : n ≤ 1000000000000000000) (hm : m ≤ 1000000000000000000) :
    Calls Tryd.prog 16 #[.int .i64 n, .int .i64 m] w fun e w' => w = w' ∧ ∃ z : Nat, z ≤ 4294967294 ∧ (z ≤ 2147483647 → n + m ≤ 2147483647) ∧ e = .returned (.int .i64 z) := by
  by_cases h1 : 2147483647 < n
  · have i1 : (2147483647 : Int) < n := by omega
    go_enter Tryd.func16, Tryd.ntmps16
    go_wp2_with fail
    go_ret
    exact ⟨rfl, 2147483648, by omega, by omega, rfl⟩
  by_cases h2 : 2147483647 < m
  · have i2 : (2147483647 : Int) < m := by omega
    go_enter Tryd.func16, Tryd.ntmps16
    go_wp2_with fail
    go_ret
    exact ⟨rfl, 2147483648, by omega, by omega, rfl⟩
  · have i1 : ¬ (2147483647 : Int) < n := by omega
    have i2 : ¬ (2147483647 : Int) < m := by omega
    go_enter Tryd.func16, Tryd.ntmps16
    go_wp2_with fail
    go_ret
    exact ⟨rfl, n + m, by omega, fun h => h, by go_num⟩
/-- pick: a number below n. -/
def pickN (c : Int) (n : Nat) : Nat := ((if c < 0 then -(c + 1) else c) % (n : Int)).toNat
theorem pickN_lt (c : Int) (n : Nat) (h : 0 < n) : pickN c n < n := by
  unfold pickN
  have := Int.emod_lt_of_pos (if c < 0 then -(c + 1) else c) (show (0 : Int) < n by omega)
  have := Int.emod_nonneg (if c < 0 then -(c + 1) else c) (show (n : Int) ≠ 0 by omega)
  omega
theorem pickN_eq (c : Int) (n : Nat) (h : 0 < n) : ((pickN c n : Nat) : Int) = (if c < 0 then -(c + 1) else c) % (n : Int) := by
  unfold pickN
  have := Int.emod_nonneg (if c < 0 then -(c + 1) else c) (show (n : Int) ≠ 0 by omega)
  omega
theorem pick_any (c : Int) (n : Nat) (w : World) (hc : -9223372036854775808 ≤ c ∧ c ≤ 9223372036854775807) (hn : 0 < n) (hn2 : n ≤ 9223372036854775807) :
    Calls Tryd.prog 11 #[.int .i64 c, .int .i64 n] w fun e w' => e = .returned (.int .i64 (pickN c n : Nat)) ∧ w = w' := by
  have h0 : ((n : Int) == 0) = false := by rw [beq_eq_false_iff_ne]; omega
  have hp := pickN_eq c n hn
  have hlt := pickN_lt c n hn
  obtain ⟨m, hm⟩ : ∃ m, m = pickN c n := ⟨_, rfl⟩
  rw [← hm] at hp hlt ⊢
  clear hm
  by_cases h : c < 0
  · rw [if_pos h] at hp
    have h1 : 0 ≤ -(c + 1) := by omega
    have HM := Lib.hid hp
    clear hp
    go_enter Tryd.func11, Tryd.ntmps11
    go_wp2
    go_ret
    exact ⟨ret_i64 (by rw [← Int.neg_tmod, Int.tmod_eq_emod_of_nonneg h1, HM.out]), rfl⟩
  · rw [if_neg h] at hp
    have HM := Lib.hid hp
    clear hp
    go_enter Tryd.func11, Tryd.ntmps11
    go_wp2
    go_ret
    exact ⟨ret_i64 HM.out.symm, rfl⟩
def sizedV (s : ByteArray) : ByteArray := if 24 < s.size then s.extract 0 24 else s ++ ⟨(List.replicate (24 - s.size) (0 : UInt8)).toArray⟩
theorem sizedV_size (s : ByteArray) : (sizedV s).size = 24 := by
  unfold sizedV
  by_cases h : 24 < s.size
  · rw [if_pos h, ByteArray.size_extract]; omega
  · have hl : (⟨(List.replicate (24 - s.size) (0 : UInt8)).toArray⟩ : ByteArray).size = 24 - s.size := by rw [mk_size, List.length_replicate]
    rw [if_neg h, ByteArray.size_append, hl]
    omega
section
variable {E : World} {L : List Hp}
set_option maxRecDepth 20000 in
theorem sized_any (s : ByteArray) (w : World) (h : Own E w L) :
    Calls Tryd.prog 12 #[.string s] w fun e w' => e = .returned (.string (sizedV s)) ∧ Own E w' L := by
  by_cases hc : 24 < s.size
  · have e0 : sizedV s = s.extract 0 24 := if_pos hc
    rw [e0]
    have i1 : (24 : Int) < s.size := by omega
    have i2 : (24 : Int) ≤ s.size := by omega
    go_enter Tryd.func12, Tryd.ntmps12
    go_wp2_with fail
    go_ret
    exact ⟨rfl, h⟩
  · obtain ⟨k, hk⟩ : ∃ k, k = 24 - s.size := ⟨_, rfl⟩
    have e0 : sizedV s = s ++ ⟨(List.replicate k (0 : UInt8)).toArray⟩ := by unfold sizedV; rw [if_neg hc, hk]
    rw [e0]
    obtain ⟨w1, hmk, -, h1, -⟩ := sl_make (P := Tryd.prog) (T := BT) (e := U8) (z := .int .u8 0) (bytes := 1) (by kernel_rfl) u8_info rfl .i64 .i64 k k (by omega) (by omega) (by unfold maxLen; omega) h
    have h1' : Own E w1 (Hp.row U8 1 (.slice (some ⟨w.heap.size, 0, none⟩) k k) k ((List.replicate k (0 : UInt8)).map V8') :: L) := by
      rw [List.map_replicate]
      exact h1
    have hst := h1'.rowString (P := Tryd.prog) (src := BT) (dst := ST) (e := U8) (by kernel_rfl) (by kernel_rfl) (by kernel_rfl)
    have H1 := Lib.hid h1'.drop
    have i1 : ¬ (24 : Int) < s.size := by omega
    have i3 : (24 : Int) - s.size = (k : Int) := by omega
    obtain ⟨Z, hZ⟩ : ∃ Z : ByteArray, Z = ⟨(List.replicate k (0 : UInt8)).toArray⟩ := ⟨_, rfl⟩
    have hzs : Z.size = k := by rw [hZ, mk_size, List.length_replicate]
    rw [← hZ] at hst ⊢
    have hcc : ¬ 9223372036854775807 < s.size + Z.size := by omega
    clear h h1 h1' hZ e0 hk
    go_enter Tryd.func12, Tryd.ntmps12
    go_wp2_with (first | (with_reducible refine at_slot (k := some 12) ?_; refine wpList_make_run (o := ⟨some 12, _, _, _, _, _⟩) hmk rfl rfl rfl rfl ?_; clear hmk) | (with_reducible refine at_slot (k := some 13) ?_; refine wpList_conv_run (o := ⟨some 13, _, _, _, _, _⟩) hst rfl rfl rfl ?_; clear hst))
    go_ret
    exact ⟨rfl, H1.out⟩
set_option maxRecDepth 100000 in
set_option maxHeartbeats 4000000 in
theorem back_any (kind id cut : Int) (secret more raw : ByteArray) (a0 a1 a2 : Addr) (w : World) (hk : -9223372036854775808 ≤ kind ∧ kind ≤ 9223372036854775807) (hi : -9223372036854775808 ≤ id ∧ id ≤ 9223372036854775807) (hc : -9223372036854775808 ≤ cut ∧ cut ≤ 9223372036854775807)
    (h1 : secret.size ≤ 140737488355328) (h2 : more.size ≤ 140737488355328) (h3 : raw.size ≤ 140737488355328) (hG : Sent E L a0 a1 a2) (h : Own E w L) :
    Calls Tryd.prog 6 #[.int .i64 kind, .int .i64 id, .string secret, .int .i64 cut, .string more, .string raw] w fun e w' => e = .returned (.bool true) ∧ Own E w' L := by
  have o1 : secret.size ≤ 1000000000000000000 := by omega
  have o2 : more.size ≤ 1000000000000000000 := by omega
  have o3 : raw.size ≤ 1000000000000000000 := by omega
  clear h1 h2 h3
  go_enter Tryd.func6, Tryd.ntmps6
  go_wp2_with fail
  refine (addsup_any more.size raw.size _ o2 o3).mono ?_
  rintro e w1 ⟨rfl, z, hz1, hz2, rfl⟩
  have HZ := Lib.hid hz2
  clear hz2
  go_wp2_with fail
  refine (addsup_any secret.size z _ o1 (by omega)).mono ?_
  rintro e w1 ⟨rfl, y, hy1, hy2, rfl⟩
  by_cases hcb : 2147483647 < y
  · have hci : (2147483647 : Int) < y := by omega
    go_wp2_with fail
    go_ret
    exact ⟨rfl, h⟩
  have hci : ¬ (2147483647 : Int) < y := by omega
  have hms : more.size ≤ 2147483647 := by
    have q1 := hy2 (by omega)
    have q2 := HZ.out (by omega)
    omega
  clear HZ hy2 hz1 hy1 o1 o2 o3 hcb
  go_wp2_with fail
  refine (awake_any a0 a1 a2 _ hG h).mono ?_
  rintro e w2 ⟨rfl, h2⟩
  clear h
  go_wp2_with fail
  refine (pick_any kind 2 _ hk (by omega) (by omega)).mono ?_
  rintro e w3 ⟨rfl, rfl⟩
  obtain ⟨q, hq⟩ : ∃ q, q = pickN kind 2 := ⟨_, rfl⟩
  have hq2 : q < 2 := by rw [hq]; exact pickN_lt _ _ (by omega)
  rw [← hq]
  clear hq
  have hkw : IntKind.i64.wrap (1 + (q : Int)) = 1 + (q : Int) := IntWalk.i64_in _ (by omega)
  go_wp2_with fail
  refine (pick_any id 4611686018427387904 _ hi (by omega) (by omega)).mono ?_
  rintro e w3 ⟨rfl, rfl⟩
  obtain ⟨r, hr⟩ : ∃ r, r = pickN id 4611686018427387904 := ⟨_, rfl⟩
  have hr2 : r < 4611686018427387904 := by rw [hr]; exact pickN_lt _ _ (by omega)
  rw [← hr]
  clear hr
  have hnw : IntKind.i64.wrap (1 + (r : Int)) = 1 + (r : Int) := IntWalk.i64_in _ (by omega)
  go_wp2_with fail
  refine (sized_any secret _ h2).mono ?_
  rintro e w4 ⟨rfl, h4⟩
  clear h2 hkw hnw
  obtain ⟨K, hK⟩ : ∃ K : Int, K = 1 + (q : Int) := ⟨_, rfl⟩
  have hK12 : K = 1 ∨ K = 2 := by omega
  obtain ⟨M, hM⟩ : ∃ M : Nat, M = 1 + r := ⟨_, rfl⟩
  have hM1 : 1 ≤ M := by omega
  have hM2 : M ≤ 4611686018427387904 := by omega
  rw [← hK, show 1 + (r : Int) = (M : Int) by omega]
  obtain ⟨zz, hzz⟩ : ∃ zz, zz = sizedV secret := ⟨_, rfl⟩
  have hzs : zz.size = 24 := by rw [hzz]; exact sizedV_size _
  rw [← hzz]
  have HZZ := Lib.hid hzz
  obtain ⟨T, hT⟩ : ∃ T, T = tokenT K M zz := ⟨_, rfl⟩
  have hTs : T.size = 52 := by rw [hT]; exact tokenT_size K M zz hK12 hzs
  have hTsi : (T.size : Int) = 52 := by omega
  have HMint : Hid (mintV K M zz = (T, 0)) := Lib.hid (by rw [hT]; exact mintV_ok K M zz hK12 hM1 hM2 hzs)
  have HP1 : Hid (parseV K T = ((M : Int), zz, 0)) := Lib.hid (by rw [hT]; exact parse_back K M zz hK12 hM1 hM2 hzs)
  have HP2 : Hid (parseV (3 - K) T = (0, ⟨#[]⟩, 170)) := Lib.hid (by rw [hT]; exact parse_kind K M zz hK12 hzs)
  have hpl : (pfx K).data.toList.length = 4 := (kind_two K hK12).1
  have hT4 : T.data.toList.take 4 = (pfx K).data.toList := by
    rw [hT, tokenT_data]
    exact List.take_left' hpl
  have HT4 := Lib.hid hT4
  have hw3 : IntKind.i64.wrap (3 - K) = 3 - K := IntWalk.i64_in _ (by omega)
  have HK12 := Lib.hid hK12
  have hKb : -9223372036854775808 ≤ K ∧ K ≤ 9223372036854775807 := by omega
  have hKb3 : -9223372036854775808 ≤ 3 - K ∧ 3 - K ≤ 9223372036854775807 := by omega
  have HKB := Lib.hid hKb
  have HKB3 := Lib.hid hKb3
  clear hzz hT hT4 hK hM hK12 hKb hKb3 hq2 hr2 hM1 hM2
  go_wp2_with fail
  refine (mint_any K M zz T 0 _ HMint.out h4).mono ?_
  rintro e w5 ⟨rfl, h5⟩
  go_wp2_with fail
  refine (parse_any K T a0 a1 a2 M zz 0 _ HP1.out HKB.out hG h5).mono ?_
  rintro e w6 ⟨rfl, h6⟩
  go_wp2_with fail
  refine (parse_any (3 - K) T a0 a1 a2 0 ⟨#[]⟩ 170 _ HP2.out HKB3.out hG h6).mono ?_
  rintro e w7 ⟨rfl, h7⟩
  go_wp2_with fail
  refine (sized_any secret _ h7).mono ?_
  rintro e w8 ⟨rfl, h8⟩
  rw [← HZZ.out]
  go_wp2_with fail
  refine (pick_any cut 52 _ hc (by omega) (by omega)).mono ?_
  rintro e w9 ⟨rfl, rfl⟩
  obtain ⟨j, hj⟩ : ∃ j, j = pickN cut 52 := ⟨_, rfl⟩
  have hj52 : j < 52 := by rw [hj]; exact pickN_lt _ _ (by omega)
  rw [← hj]
  clear hj
  have j0 : (0 : Int) ≤ j := by omega
  have j1 : (j : Int) ≤ 52 := by omega
  have hY : parseV K (T.extract 0 j) = (0, ⟨#[]⟩, 171) := by
    have hs : (T.extract 0 j).size = j := by rw [ByteArray.size_extract]; omega
    refine parse_form K _ HK12.out ?_ (by omega)
    show (frontB T j).data.toList.take 4 = _
    rw [front_data, List.take_take, hs, ← HT4.out, List.take_take, Nat.min_comm]
  have HY := Lib.hid hY
  clear hY
  go_wp2_with fail
  refine (parse_any K (T.extract 0 j) a0 a1 a2 0 ⟨#[]⟩ 171 _ HY.out HKB.out hG h8).mono ?_
  rintro e w10 ⟨rfl, h10⟩
  obtain ⟨X, hX⟩ : ∃ X : ByteArray, X = T ++ ⟨#[65]⟩ := ⟨_, rfl⟩
  have hXs : X.size = 53 := by rw [hX, ByteArray.size_append, hTs]; rfl
  have hX2 : parseV K (X ++ more) = (0, ⟨#[]⟩, 171) := by
    refine parse_form K _ HK12.out ?_ (by rw [ByteArray.size_append]; omega)
    rw [app_data, hX, app_data, List.append_assoc, List.take_append_of_le_length (by show 4 ≤ T.size; omega), HT4.out, List.take_of_length_le (by
      rw [ByteArray.size_append, ByteArray.size_append, hTs, hpl]
      omega)]
  have HX := Lib.hid hX
  have HX2 := Lib.hid hX2
  have hcc1 : ¬ 9223372036854775807 < T.size + 1 := by omega
  have hcc2 : ¬ 9223372036854775807 < X.size + more.size := by omega
  clear hX hX2
  go_wp2_with fail
  rw [← HX.out]
  refine (parse_any K (X ++ more) a0 a1 a2 0 ⟨#[]⟩ 171 _ HX2.out HKB.out hG h10).mono ?_
  rintro e w11 ⟨rfl, h11⟩
  obtain ⟨x, v, c, hraw⟩ : ∃ x v c, parseV K raw = (x, v, c) := ⟨_, _, _, rfl⟩
  have HRAW := Lib.hid hraw
  clear hraw
  go_wp2_with fail
  refine (parse_any K raw a0 a1 a2 x v c _ HRAW.out HKB.out hG h11).mono ?_
  rintro e w12 ⟨rfl, h12⟩
  by_cases hc0 : c = 0
  · subst hc0
    have HB := Lib.hid (mint_back K raw x v HK12.out HRAW.out)
    go_wp2_with fail
    refine (mint_any K x v raw 0 _ HB.out h12).mono ?_
    rintro e w13 ⟨rfl, h13⟩
    go_wp2_with fail
    go_ret
    exact ⟨rfl, h13⟩
  · have hcb : (c == 0) = false := by rw [beq_eq_false_iff_ne]; exact hc0
    have HTS : Hid (T.size ≤ 140737488355000) := Lib.hid (by omega)
    clear hc0
    go_wp2_with fail
    refine (hash_any T _ HTS.out h12).mono ?_
    rintro e w13 ⟨rfl, h13⟩
    have h14 : Own E (w13.alloc (.cells #[.string T] ST)) (Hp.ro (Ph.one w13.heap.size (.cells #[.string T] ST (0, 0))) :: L) := h13.alloc _
    have hr : Rds (Ph.one w13.heap.size (.cells #[.string T] ST (0, 0))) 1 enStr (some ⟨w13.heap.size, 0, none⟩) 1 [T] := Rds.of_blk [T] rfl
    have hj : joined [T] = T.data.toList := by unfold joined; simp
    have HD : Hid (⟨(Sha.sum (joined [T])).toArray⟩ = digest T) := Lib.hid (by rw [hj]; rfl)
    have H14 := Lib.hid h14
    have HR := Lib.hid hr
    have HJ : Hid ((joined [T]).length ≤ 1152921504606846975) := Lib.hid (by rw [hj]; show T.size ≤ _; have := HTS.out; omega)
    clear h12 h13 h14 hr hj
    go_wp2_with fail
    refine (hsum_any (some ⟨w13.heap.size, 0, none⟩) 1 1 [T] _ (by unfold maxLen; omega) HR.out HJ.out H14.out).mono ?_
    rintro e w15 ⟨rfl, h15⟩
    rw [HD.out]
    have H15 := Lib.hid h15.drop
    clear h15
    go_wp2_with fail
    go_ret
    exact ⟨rfl, H15.out⟩
end
end Go.Proofs.YtilcilbmbhbakaaDoor
