/- codec.sixes. -/
import Derived.Test.YtilcilbmbhbakaaDoorSixes
namespace Go.Proofs.YtilcilbmbhbakaaDoor
open Go.RowKit
abbrev sgOf (signs : ByteArray) (k : Nat) : UInt8 := signs.data.toList.getD k 0
theorem and63 (x : Nat) (hx : x < 9223372036854775808) : bits .and .i64 (x : Int) 63 = ((x % 64 : Nat) : Int) := by
  have h := i64_and_nat x 63 hx (by omega)
  rw [show x &&& 63 = x % 64 from Nat.and_two_pow_sub_one_eq_mod x 6] at h
  exact h
theorem low_or (h c : Nat) (hc : c < 256) (hh : h < 16777216) : bits .or .i64 ((h : Int) * 256) (c : Int) = ((h * 256 + c : Nat) : Int) := by
  rw [show (h : Int) * 256 = ((h * 256 : Nat) : Int) by omega]
  rw [i64_or_nat _ _ (by omega) (by omega)]
  have := Nat.shiftLeft_add_eq_or_of_lt (b := c) (i := 8) (by omega) h
  rw [Nat.shiftLeft_eq] at this
  rw [← this]
theorem wrap64_in (n : Int) (h : -9223372036854775808 ≤ n ∧ n ≤ 9223372036854775807) : wrap64 n = n := by unfold wrap64; omega
theorem mask (H q : Nat) (hH : H < 9223372036854775808) (hq : q ≤ 60) : bits .and .i64 (H : Int) (wrap64 (wrap64 (2 ^ q) - 1)) = ((H % 2 ^ q : Nat) : Int) := by
  have h1 : (2 : Nat) ^ q ≤ 2 ^ 60 := Nat.pow_le_pow_right (by omega) hq
  have h2 : 0 < (2 : Nat) ^ q := Nat.two_pow_pos q
  have e1 : ((2 : Int) ^ q) = ((2 ^ q : Nat) : Int) := by rw [Int.natCast_pow]; rfl
  have e2 : wrap64 ((2 : Int) ^ q) = ((2 ^ q : Nat) : Int) := by rw [e1]; exact wrap64_in _ (by omega)
  have e3 : wrap64 (((2 ^ q : Nat) : Int) - 1) = ((2 ^ q - 1 : Nat) : Int) := by
    rw [show ((2 ^ q : Nat) : Int) - 1 = ((2 ^ q - 1 : Nat) : Int) by omega]
    exact wrap64_in _ (by omega)
  rw [e2, e3, i64_and_nat _ _ hH (by omega), Nat.and_two_pow_sub_one_eq_mod]
theorem em_low (sg : Nat → UInt8) (H q : Nat) (hq : q < 6) : Six.em sg H q = [] := by
  match q, hq with
  | 0, _ | 1, _ | 2, _ | 3, _ | 4, _ | 5, _ => rfl
set_option maxRecDepth 100000 in
set_option maxHeartbeats 2000000 in
theorem sixes_any {E : World} {L : List Hp} (s signs : ByteArray) (w : World) (hsg : signs.size = 64) (hs : s.size ≤ 10000000000000) (h : Own E w L) :
    Calls Tryd.prog 45 #[.string s, .string signs] w fun e w' => e = .returned (.string ⟨(Six.enc (sgOf signs) 0 0 s.data.toList).toArray⟩) ∧ Own E w' L := by
  obtain ⟨cap, w1, hcv, h1⟩ := sl_to_bytes (P := Tryd.prog) (src := ST) (dst := BT) (e := U8) (by kernel_rfl) (by kernel_rfl) (by kernel_rfl) s (by unfold maxLen; omega) h
  generalize w.heap.size = g at *
  obtain ⟨T, hT⟩ : ∃ T, T = Six.enc (sgOf signs) 0 0 s.data.toList := ⟨_, rfl⟩
  rw [← hT]
  have hsl : s.data.toList.length = s.size := rfl
  have hTl : T.length ≤ 15000000000000 := by rw [hT, Six.enc_len, hsl]; omega
  have HS := Lib.hid hsl
  have HT := Lib.hid hT
  have HTl := Lib.hid hTl
  have H1 := Lib.hid (h1.nilRow U8 1)
  clear h1 h hsl hT hTl
  go_enter Tryd.func45, Tryd.ntmps45
  go_wp2_with (with_reducible refine at_slot (k := some 11) ?_; refine wpList_conv_run (o := ⟨some 11, _, _, _, _, _⟩) hcv rfl rfl rfl ?_; clear hcv)
  go_loopw [5, 6, 7, 13] (fun v a b i wr => ∃ (k h m : Nat) (o : List UInt8), k ≤ s.size ∧ i = .int .i64 k ∧ a = .int .i64 h ∧ b = .int .i64 m ∧ m < 6 ∧ h < 2 ^ m ∧ o ++ Six.enc (sgOf signs) h m (s.data.toList.drop k) = T ∧ Own E wr (Hp.row U8 1 v o.length (o.map V8') :: Hp.row U8 1 (.slice (some ⟨g, 0, none⟩) s.size cap) s.size (s.data.toList.map V8') :: L)) (fun _ _ _ i _ => s.size - (intOf i).toNat)
  case atStart => exact ⟨0, 0, 0, [], by omega, rfl, rfl, rfl, by omega, by omega, HT.out.symm, H1.out⟩
  case round =>
    obtain ⟨k, h, m, o, hk, rfl, rfl, rfl, hm, hh, ho, hw⟩ := hrel
    clear H1
    by_cases hlt : k < s.size
    · have hlk : k < s.data.toList.length := hlt
      obtain ⟨g', hg, c1, _⟩ := hw.f1.rowCells k (V8' s.data.toList[k]) (by rw [List.getElem?_map, List.getElem?_eq_getElem hlk]; rfl)
      injection hg with hg
      injection hg with hg
      subst hg
      rw [List.drop_eq_getElem_cons hlk, Six.encc] at ho
      have hh64 : h < 64 := Nat.lt_of_lt_of_le hh (Nat.le_trans (Nat.pow_le_pow_right (by omega) (show m ≤ 5 by omega)) (by omega))
      have HO := Lib.hid ho
      have HW := Lib.hid hw
      clear ho hw hh
      generalize s.data.toList[k] = c at *
      have hcl := c.toNat_lt
      have hor := low_or h c.toNat (by omega) (by omega)
      obtain ⟨H, hH⟩ : ∃ H, H = h * 256 + c.toNat := ⟨_, rfl⟩
      rw [← hH] at hor
      have hHb : H < 16384 := by omega
      have ho2 := HO.out
      rw [← hH] at ho2
      have HO2 := Lib.hid ho2
      clear ho2 HO hH
      clear hlk
      have i1 : (0 : Int) ≤ (k : Int) := by omega
      have i2 : (k : Int) < s.size := by omega
      go_wp2_with fail
      go_loopw [5, 7] (fun v b wr => ∃ (q : Nat) (o : List UInt8), q % 6 = (m + 8) % 6 ∧ q ≤ 13 ∧ b = .int .i64 q ∧ o ++ (Six.em (sgOf signs) H q ++ Six.enc (sgOf signs) (H % 2 ^ ((m + 8) % 6)) ((m + 8) % 6) (s.data.toList.drop (k + 1))) = T ∧ Own E wr (Hp.row U8 1 v o.length (o.map V8') :: Hp.row U8 1 (.slice (some ⟨g, 0, none⟩) s.size cap) s.size (s.data.toList.map V8') :: L)) (fun _ b _ => (intOf b).toNat)
      case atStart => exact ⟨m + 8, o, rfl, by omega, by go_num, HO2.out, HW.out⟩
      case round =>
        obtain ⟨q, o, hq1, hq2, rfl, ho, hw⟩ := hrel
        clear HW HO2
        by_cases h6 : 6 ≤ q
        · obtain ⟨p, rfl⟩ : ∃ p, q = p + 6 := ⟨q - 6, by omega⟩
          rw [show Six.em (sgOf signs) H (p + 6) = sgOf signs (H / 2 ^ p % 64) :: Six.em (sgOf signs) H p from rfl] at ho
          have HO := Lib.hid ho
          have HW := Lib.hid hw
          have HQ := Lib.hid hq1
          clear ho hw hq1
          have hp6 : ((p + 6 : Nat) : Int) - 6 = (p : Int) := by omega
          obtain ⟨x, hx⟩ : ∃ x, x = H / 2 ^ p % 64 := ⟨_, rfl⟩
          have hx64 : x < 64 := by omega
          have hand : bits .and .i64 ((H : Int) / 2 ^ p) 63 = (x : Int) := by
            have e : (H : Int) / 2 ^ p = ((H / 2 ^ p : Nat) : Int) := by rw [Int.natCast_ediv, Int.natCast_pow]; rfl
            rw [e, and63 _ (Nat.lt_of_le_of_lt (Nat.div_le_self _ _) (by omega)), hx]
          have hix := byte_index signs (x : Int) x rfl (by omega)
          have ho2 := HO.out
          rw [← hx] at ho2
          have HO2 := Lib.hid (show (o ++ [sgOf signs x]) ++ (Six.em (sgOf signs) H p ++ Six.enc (sgOf signs) (H % 2 ^ ((m + 8) % 6)) ((m + 8) % 6) (s.data.toList.drop (k + 1))) = T by rw [List.append_assoc]; exact ho2)
          have hol : o.length + 1 ≤ 140737488355328 := by
            have e := congrArg List.length ho2
            rw [List.length_append, List.length_append, List.length_cons] at e
            have := HTl.out
            omega
          generalize hy : signs.data.toList.getD x 0 = y at *
          obtain ⟨v', w5, hap, h5⟩ := add_u8 (y.toNat : Int) y rfl hol HW.out
          have H5 := Lib.hid h5
          have HY := Lib.hid hy
          have x0 : (0 : Int) ≤ (x : Int) := by omega
          have x1 : (x : Int) < 64 := by omega
          clear h5 hol ho2 HO HW hx hy
          go_wp2_with (with_reducible refine at_slot (k := some 36) ?_; refine wpList_append_run (o := ⟨some 36, _, _, _, _, _⟩) hap rfl rfl rfl rfl ?_; clear hap)
          go_roundw
          case rel => exact ⟨p, o ++ [y], by have := HQ.out; omega, by omega, by go_num, by rw [← HY.out]; exact HO2.out, by rw [List.length_append]; exact H5.out⟩
          case measure => simp [intOf]; omega
        · have HQ := Lib.hid hq1
          have hqm : q = (m + 8) % 6 := by omega
          have HM := Lib.hid hqm
          have HO := Lib.hid ho
          have HW := Lib.hid hw
          have hb6 : ¬ (6 : Int) ≤ (q : Int) := by omega
          clear hq1 hqm ho hw
          have HK := Lib.hid (mask H q (by omega) (by omega))
          go_wp2_with fail
          rw [HK.out]
          refine ⟨⟨k + 1, H % 2 ^ q, q, o, by omega, by go_num, rfl, rfl, by omega, Nat.mod_lt _ (Nat.two_pow_pos q), ?_, HW.out⟩, by simp [intOf]; omega⟩
          have h3 := HO.out
          rw [em_low _ _ _ (by omega), List.nil_append, ← HM.out] at h3
          exact h3
    · obtain rfl : k = s.size := by omega
      rw [List.drop_of_length_le (by rw [HS.out]; omega)] at ho
      have hh64 : h < 64 := Nat.lt_of_lt_of_le hh (Nat.le_trans (Nat.pow_le_pow_right (by omega) (show m ≤ 5 by omega)) (by omega))
      by_cases hm0 : 0 < m
      · rw [Six.enc0 _ _ _ hm0] at ho
        obtain ⟨x, hx⟩ : ∃ x, x = h * 2 ^ (6 - m) % 64 := ⟨_, rfl⟩
        have hx64 : x < 64 := by omega
        obtain ⟨p, hp⟩ : ∃ p, p = 6 - m := ⟨_, rfl⟩
        have hpi : (6 : Int) - m = p := by omega
        have HX := Lib.hid hx
        have HO := Lib.hid ho
        have HW := Lib.hid hw
        have HP := Lib.hid hp
        have hmi : (0 : Int) < m := by omega
        clear hx ho hw hp hh
        have hand : bits .and .i64 (wrap64 ((h : Int) * 2 ^ p)) 63 = (x : Int) := by
          have h1 : (2 : Nat) ^ p ≤ 2 ^ 6 := Nat.pow_le_pow_right (by omega) (by have := HP.out; omega)
          have e : (h : Int) * 2 ^ p = ((h * 2 ^ p : Nat) : Int) := by rw [Int.natCast_mul, Int.natCast_pow]; rfl
          have h2 : h * 2 ^ p ≤ 64 * 2 ^ 6 := Nat.mul_le_mul (by omega) h1
          rw [e, wrap64_in _ (by omega), and63 _ (by omega), HX.out, HP.out]
        have hix := byte_index signs (x : Int) x rfl (by omega)
        have ho2 := HO.out
        rw [← HX.out] at ho2
        have hol : o.length + 1 ≤ 140737488355328 := by
          have e := congrArg List.length ho2
          rw [List.length_append, List.length_singleton] at e
          have := HTl.out
          omega
        generalize hy : signs.data.toList.getD x 0 = y at *
        obtain ⟨v', w5, hap, h5⟩ := add_u8 (y.toNat : Int) y rfl hol HW.out
        have hst := h5.rowString (P := Tryd.prog) (src := BT) (dst := ST) (e := U8) (by kernel_rfl) (by kernel_rfl) (by kernel_rfl)
        have H5 := Lib.hid h5.drop.drop
        have x0 : (0 : Int) ≤ (x : Int) := by omega
        have x1 : (x : Int) < 64 := by omega
        rw [show o ++ [y] = T by rw [← hy]; exact ho2] at hst
        clear h5 hol ho2 HO HW hy
        go_wp2_with (first | (with_reducible refine at_slot (k := some 54) ?_; refine wpList_append_run (o := ⟨some 54, _, _, _, _, _⟩) hap rfl rfl rfl rfl ?_; clear hap) | (with_reducible refine at_slot (k := some 56) ?_; refine wpList_conv_run (o := ⟨some 56, _, _, _, _, _⟩) hst rfl rfl rfl ?_; clear hst))
        go_ret
        exact ⟨rfl, H5.out⟩
      · obtain rfl : m = 0 := by omega
        rw [Six.encz, List.append_nil] at ho
        subst ho
        have hst := hw.rowString (P := Tryd.prog) (src := BT) (dst := ST) (e := U8) (by kernel_rfl) (by kernel_rfl) (by kernel_rfl)
        have HW := Lib.hid hw.drop.drop
        clear hw hh
        go_wp2_with (with_reducible refine at_slot (k := some 56) ?_; refine wpList_conv_run (o := ⟨some 56, _, _, _, _, _⟩) hst rfl rfl rfl ?_; clear hst)
        go_ret
        exact ⟨rfl, HW.out⟩
end Go.Proofs.YtilcilbmbhbakaaDoor
