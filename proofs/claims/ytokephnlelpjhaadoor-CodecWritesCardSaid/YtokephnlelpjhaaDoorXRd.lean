/- The reference's Reader in every state: the same answers. -/
import Derived.Test.YtokephnlelpjhaaDoorRd
namespace Go.Proofs.YtokephnlelpjhaaDoor
open Go.RowKit
abbrev XRT : TypeId := 93
def Hp.xrd (b : Nat) (s : ByteArray) (e : Int) : Hp := Hp.blk b XRT #[.string s, .int .i64 e]
section
variable {E : World} {L : List Hp}
theorem xnewreader_any (s : ByteArray) (w : World) (h : Own E w L) :
    Calls Tryd.prog 24 #[.string s] w fun e w' => ∃ b, e = .returned (.pointer (some ⟨b, 0, none⟩)) ∧ Own E w' (Hp.xrd b s 0 :: L) := by
  go_enter Tryd.func24, Tryd.ntmps24
  go_wp2_with fail
  go_ret
  exact ⟨_, rfl, h.alloc (.cells #[.string s, .int .i64 0] XRT)⟩
theorem xahead_any (most : Nat) (w : World) :
    Calls Tryd.prog 57 #[.int .i64 most] w fun e w' => e = .returned (.int .i64 (ahead most : Nat)) ∧ w = w' := by
  by_cases h : 255 < most
  · have hi : (255 : Int) < most := by omega
    have e : ahead most = 2 := if_pos h
    rw [e]
    go_enter Tryd.func57, Tryd.ntmps57
    go_wp2_with fail
    go_ret
    exact ⟨rfl, rfl⟩
  · have hi : ¬ (255 : Int) < most := by omega
    have e : ahead most = 1 := if_neg h
    rw [e]
    go_enter Tryd.func57, Tryd.ntmps57
    go_wp2_with fail
    go_ret
    exact ⟨rfl, rfl⟩
/-- The reference's number: the second answer tells whether it stands below 2^63. -/
theorem xnumber_any (s : ByteArray) (w : World) (hs : s.size ≤ 8) :
    Calls Tryd.prog 68 #[.string s] w fun e w' => w = w' ∧ ((numL s.data.toList < 9223372036854775808 ∧ e = .returned (.tuple #[.int .i64 (numL s.data.toList : Nat), .bool true])) ∨ (9223372036854775808 ≤ numL s.data.toList ∧ e = .returned (.tuple #[.int .i64 0, .bool false]))) := by
  have hsl : s.data.toList.length = s.size := rfl
  have HS := Lib.hid hsl
  clear hsl
  go_enter Tryd.func68, Tryd.ntmps68
  go_wp2_with fail
  go_loopw [4, 5] (fun a i wr => ∃ k : Nat, k ≤ s.size ∧ i = .int .i64 k ∧ a = .int .i64 (numL (s.data.toList.take k) : Nat) ∧ numL (s.data.toList.take k) < 9223372036854775808 ∧ w = wr) (fun _ i _ => s.size - (intOf i).toNat)
  case atStart => exact ⟨0, by omega, rfl, rfl, by show (0 : Nat) < _; omega, rfl⟩
  case round =>
    obtain ⟨k, hk, rfl, rfl, hN, hw⟩ := hrel
    by_cases hlt : k < s.size
    · have hlk : k < s.data.toList.length := hlt
      have hst : numL (s.data.toList.take (k + 1)) = numL (s.data.toList.take k) * 256 + (s.data.toList[k]).toNat := by
        rw [← numL_snoc, List.take_add_one, List.getElem?_eq_getElem hlk]; rfl
      have hle := numL_le s.data.toList (k + 1)
      have hix := byte_index s k k rfl hlt
      rw [List.getD_eq_getElem?_getD, List.getElem?_eq_getElem hlk] at hix
      have hcl := (s.data.toList[k]).toNat_lt
      by_cases hbig : 36028797018963968 ≤ numL (s.data.toList.take k)
      · have hall : 9223372036854775808 ≤ numL s.data.toList := by omega
        have HA := Lib.hid hall
        have HW := Lib.hid hw
        clear hw hst hle hix hcl hall hlk
        generalize numL (s.data.toList.take k) = N at *
        have i2 : (k : Int) < s.size := by omega
        have i3 : (36028797018963968 : Int) ≤ N := by omega
        go_wp2_with fail
        go_ret2
        exact ⟨HW.out, .inr ⟨HA.out, rfl⟩⟩
      · have HSt := Lib.hid hst
        have HW := Lib.hid hw
        clear hw hst hle
        obtain ⟨c, hc⟩ : ∃ c : UInt8, c = s.data.toList[k] := ⟨_, rfl⟩
        rw [Option.getD_some, ← hc] at hix
        rw [← hc] at HSt hcl
        clear hc hlk
        generalize numL (s.data.toList.take k) = N at *
        have i1 : (0 : Int) ≤ (k : Int) := by omega
        have i2 : (k : Int) < s.size := by omega
        have i3 : ¬ (36028797018963968 : Int) ≤ N := by omega
        clear hN
        go_wp2_with fail
        go_roundw
        case rel => exact ⟨k + 1, by omega, by go_num, by rw [HSt.out, Nat.mul_comm]; go_num, by rw [HSt.out]; omega, HW.out⟩
        case measure => simp [intOf]; omega
    · obtain rfl : k = s.size := by omega
      have hfull : s.data.toList.take s.size = s.data.toList := List.take_of_length_le (by rw [HS.out]; omega)
      rw [hfull] at hN ⊢
      have HW := Lib.hid hw
      have HN := Lib.hid hN
      clear hw hN hfull
      go_wp2_with fail
      go_ret2
      exact ⟨HW.out, .inl ⟨HN.out, rfl⟩⟩
set_option maxRecDepth 20000 in
set_option maxHeartbeats 2000000 in
theorem xrnum_all (b : Nat) (s : ByteArray) (e n : Int) (v : Int) (s' : ByteArray) (e' : Int) (w : World) (hr : rNum s e n = (v, s', e')) (h : Own E w (Hp.xrd b s e :: L)) :
    Calls Tryd.prog 26 #[.pointer (some ⟨b, 0, none⟩), .int .i64 n] w fun ev w' => ev = .returned (.int .i64 v) ∧ Own E w' (Hp.xrd b s' e' :: L) := by
  unfold rNum at hr
  unfold Hp.xrd at h
  have c0 := h.cell 0
  have c1 := h.cell 1
  have f0 := h.frozen 0
  have f1 := h.frozen 1
  by_cases he : e ≠ 0
  · rw [if_pos he] at hr
    cases hr
    have H2 := Lib.hid (show Own E w (Hp.xrd b s e :: L) from h)
    clear h
    go_enter Tryd.func26, Tryd.ntmps26
    go_wp2_with fail
    go_ret
    exact ⟨rfl, H2.out⟩
  rw [if_neg he] at hr
  obtain rfl : e = 0 := Decidable.not_not.1 he
  clear he
  by_cases h1 : n < 1
  · rw [if_pos (.inl h1)] at hr
    cases hr
    have h2 := h.set 1 (.int .i64 1)
    have H2 := Lib.hid (show Own E (w.setCell ⟨b, 1, none⟩ (.int .i64 1)) (Hp.xrd b s 1 :: L) from h2)
    clear h h2
    go_enter Tryd.func26, Tryd.ntmps26
    go_wp2_with fail
    go_ret
    exact ⟨rfl, H2.out⟩
  by_cases h8 : 8 < n
  · rw [if_pos (.inr h8)] at hr
    cases hr
    have h2 := h.set 1 (.int .i64 1)
    have H2 := Lib.hid (show Own E (w.setCell ⟨b, 1, none⟩ (.int .i64 1)) (Hp.xrd b s 1 :: L) from h2)
    clear h h2
    go_enter Tryd.func26, Tryd.ntmps26
    go_wp2_with fail
    go_ret
    exact ⟨rfl, H2.out⟩
  rw [if_neg (by omega)] at hr
  by_cases hs : (s.size : Int) < n
  · rw [if_pos hs] at hr
    cases hr
    have h2 := h.set 1 (.int .i64 22)
    have H2 := Lib.hid (show Own E (w.setCell ⟨b, 1, none⟩ (.int .i64 22)) (Hp.xrd b s 22 :: L) from h2)
    clear h h2
    go_enter Tryd.func26, Tryd.ntmps26
    go_wp2_with fail
    go_ret
    exact ⟨rfl, H2.out⟩
  rw [if_neg hs] at hr
  obtain ⟨k, rfl⟩ : ∃ k : Nat, n = k := ⟨n.toNat, by omega⟩
  rw [Int.toNat_natCast] at hr
  have hfd := front_data s k
  have hfs := front_size s k (by omega)
  have hk8 : k ≤ 8 := by omega
  have hks : (k : Int) ≤ s.size := by omega
  rw [← hfd] at hr
  by_cases hb : 9223372036854775808 ≤ numL (frontB s k).data.toList
  · rw [if_pos hb] at hr
    cases hr
    have HB := Lib.hid hb
    clear hb hfd
    have h2 := h.set 1 (.int .i64 20)
    have H2 := Lib.hid (show Own E (w.setCell ⟨b, 1, none⟩ (.int .i64 20)) (Hp.xrd b s 20 :: L) from h2)
    clear h h2
    go_enter Tryd.func26, Tryd.ntmps26
    go_wp2_with fail
    refine (xnumber_any (frontB s k) _ (by omega)).mono ?_
    rintro e w1 ⟨rfl, hc⟩
    rcases hc with ⟨hc, -⟩ | ⟨-, rfl⟩
    · exact absurd HB.out (by omega)
    go_wp2_with fail
    go_ret
    exact ⟨rfl, H2.out⟩
  · rw [if_neg hb] at hr
    cases hr
    have h2 := h.set 0 (.string (restB s k))
    have H2 := Lib.hid (show Own E (w.setCell ⟨b, 0, none⟩ (.string (restB s k))) (Hp.xrd b (restB s k) 0 :: L) from h2)
    have hnum : ∀ w, Calls Tryd.prog 68 #[.string (frontB s k)] w fun e w' => w = w' ∧ e = .returned (.tuple #[.int .i64 (numL (frontB s k).data.toList : Nat), .bool true]) := fun w => by
      refine (xnumber_any (frontB s k) w (by omega)).mono ?_
      rintro e w' ⟨rfl, ⟨-, rfl⟩ | ⟨hc, -⟩⟩
      · exact ⟨rfl, rfl⟩
      · omega
    clear hb hfd h h2 hfs
    generalize numL (frontB s k).data.toList = N at *
    go_enter Tryd.func26, Tryd.ntmps26
    go_wp2_with fail
    refine (hnum _).mono ?_
    rintro e w1 ⟨rfl, rfl⟩
    clear hnum
    go_wp2_with fail
    go_ret
    exact ⟨rfl, H2.out⟩
set_option maxRecDepth 20000 in
set_option maxHeartbeats 2000000 in
theorem xrtext_all (b : Nat) (s : ByteArray) (e n : Int) (v s' : ByteArray) (e' : Int) (w : World) (hr : rText s e n = (v, s', e')) (hsz : s.size ≤ 1000000000000) (h : Own E w (Hp.xrd b s e :: L)) :
    Calls Tryd.prog 28 #[.pointer (some ⟨b, 0, none⟩), .int .i64 n] w fun ev w' => ev = .returned (.string v) ∧ Own E w' (Hp.xrd b s' e' :: L) := by
  unfold rText at hr
  unfold Hp.xrd at h
  have c0 := h.cell 0
  have c1 := h.cell 1
  have f0 := h.frozen 0
  have f1 := h.frozen 1
  by_cases he : e ≠ 0
  · rw [if_pos he] at hr
    cases hr
    have H2 := Lib.hid (show Own E w (Hp.xrd b s e :: L) from h)
    clear h
    go_enter Tryd.func28, Tryd.ntmps28
    go_wp2_with fail
    go_ret
    exact ⟨rfl, H2.out⟩
  rw [if_neg he] at hr
  obtain rfl : e = 0 := Decidable.not_not.1 he
  clear he
  by_cases h1 : n < 0
  · rw [if_pos (.inl h1)] at hr
    cases hr
    have h2 := h.set 1 (.int .i64 1)
    have H2 := Lib.hid (show Own E (w.setCell ⟨b, 1, none⟩ (.int .i64 1)) (Hp.xrd b s 1 :: L) from h2)
    clear h h2
    go_enter Tryd.func28, Tryd.ntmps28
    go_wp2_with fail
    go_ret
    exact ⟨rfl, H2.out⟩
  by_cases h8 : 65535 < n
  · rw [if_pos (.inr h8)] at hr
    cases hr
    have h2 := h.set 1 (.int .i64 1)
    have H2 := Lib.hid (show Own E (w.setCell ⟨b, 1, none⟩ (.int .i64 1)) (Hp.xrd b s 1 :: L) from h2)
    clear h h2
    go_enter Tryd.func28, Tryd.ntmps28
    go_wp2_with fail
    go_ret
    exact ⟨rfl, H2.out⟩
  rw [if_neg (by omega)] at hr
  obtain ⟨most, rfl⟩ : ∃ k : Nat, n = k := ⟨n.toNat, by omega⟩
  rw [Int.toNat_natCast] at hr
  have HM := Lib.hid (show most ≤ 65535 by omega)
  have ha2 : 1 ≤ ahead most ∧ ahead most ≤ 2 := by unfold ahead; split <;> omega
  have hah := xahead_any most
  generalize ahead most = a at *
  by_cases hsa : s.size < a
  · rw [if_pos hsa] at hr
    cases hr
    have i3 : (s.size : Int) < a := by omega
    have h2 := h.set 1 (.int .i64 22)
    have H2 := Lib.hid (show Own E (w.setCell ⟨b, 1, none⟩ (.int .i64 22)) (Hp.xrd b s 22 :: L) from h2)
    clear h h2
    go_enter Tryd.func28, Tryd.ntmps28
    go_wp2_with fail
    refine (hah _).mono ?_
    rintro e w1 ⟨rfl, rfl⟩
    clear hah
    go_wp2_with fail
    go_ret
    exact ⟨rfl, H2.out⟩
  rw [if_neg hsa] at hr
  have hfd := front_data s a
  have hfs := front_size s a (by omega)
  rw [← hfd] at hr
  have hml : numL (frontB s a).data.toList < 65536 := by
    have hb := numL_lt (frontB s a).data.toList
    rw [show (frontB s a).data.toList.length = (frontB s a).size from rfl, hfs] at hb
    have hb2 := Nat.lt_of_lt_of_le hb (Nat.pow_le_pow_right (by omega) ha2.2)
    omega
  have hnum : ∀ w, Calls Tryd.prog 68 #[.string (frontB s a)] w fun e w' => w = w' ∧ e = .returned (.tuple #[.int .i64 (numL (frontB s a).data.toList : Nat), .bool true]) := fun w => by
    refine (xnumber_any (frontB s a) w (by omega)).mono ?_
    rintro e w' ⟨rfl, ⟨-, rfl⟩ | ⟨hc, -⟩⟩
    · exact ⟨rfl, rfl⟩
    · omega
  clear hfd hfs
  generalize numL (frontB s a).data.toList = m at *
  have i3 : ¬ (s.size : Int) < a := by omega
  have i4 : (a : Int) ≤ s.size := by omega
  by_cases hmost : most < m
  · rw [if_pos hmost] at hr
    cases hr
    have i5 : (most : Int) < m := by omega
    have h2 := h.set 1 (.int .i64 21)
    have H2 := Lib.hid (show Own E (w.setCell ⟨b, 1, none⟩ (.int .i64 21)) (Hp.xrd b s 21 :: L) from h2)
    clear h h2
    go_enter Tryd.func28, Tryd.ntmps28
    go_wp2_with fail
    refine (hah _).mono ?_
    rintro e w1 ⟨rfl, rfl⟩
    go_wp2_with fail
    refine (hnum _).mono ?_
    rintro e w1 ⟨rfl, rfl⟩
    clear hah hnum
    go_wp2_with fail
    go_ret
    exact ⟨rfl, H2.out⟩
  rw [if_neg hmost] at hr
  have i5 : ¬ (most : Int) < m := by omega
  by_cases hfit : s.size < a + m
  · rw [if_pos hfit] at hr
    cases hr
    have i6 : (s.size : Int) - a < m := by omega
    have h2 := h.set 1 (.int .i64 22)
    have H2 := Lib.hid (show Own E (w.setCell ⟨b, 1, none⟩ (.int .i64 22)) (Hp.xrd b s 22 :: L) from h2)
    clear h h2
    go_enter Tryd.func28, Tryd.ntmps28
    go_wp2_with fail
    refine (hah _).mono ?_
    rintro e w1 ⟨rfl, rfl⟩
    go_wp2_with fail
    refine (hnum _).mono ?_
    rintro e w1 ⟨rfl, rfl⟩
    clear hah hnum
    go_wp2_with fail
    go_ret
    exact ⟨rfl, H2.out⟩
  · rw [if_neg hfit] at hr
    cases hr
    have i6 : ¬ (s.size : Int) - a < m := by omega
    obtain ⟨k, hk⟩ : ∃ k, k = a + m := ⟨_, rfl⟩
    have i7 : (a : Int) + m = (k : Int) := by omega
    have i8 : (a : Int) ≤ k := by omega
    have i9 : (k : Int) ≤ s.size := by omega
    have hak : restB (frontB s k) a = s.extract a k := by
      refine ByteArray.ext (Array.toList_inj.1 ?_)
      rw [rest_data, front_data, Lib.extract_data, List.drop_take]
    have h2 := h.set 0 (.string (restB s k))
    have H2 := Lib.hid (show Own E (w.setCell ⟨b, 0, none⟩ (.string (restB s k))) (Hp.xrd b (restB s k) 0 :: L) from h2)
    rw [← hk, hak]
    clear h h2 hak hk
    go_enter Tryd.func28, Tryd.ntmps28
    go_wp2_with fail
    refine (hah _).mono ?_
    rintro e w1 ⟨rfl, rfl⟩
    go_wp2_with fail
    refine (hnum _).mono ?_
    rintro e w1 ⟨rfl, rfl⟩
    clear hah hnum
    go_wp2_with fail
    go_ret
    exact ⟨rfl, H2.out⟩
set_option maxRecDepth 20000 in
theorem xrraw_all (b : Nat) (s : ByteArray) (e n : Int) (v s' : ByteArray) (e' : Int) (w : World) (hr : rRaw s e n = (v, s', e')) (h : Own E w (Hp.xrd b s e :: L)) :
    Calls Tryd.prog 30 #[.pointer (some ⟨b, 0, none⟩), .int .i64 n] w fun ev w' => ev = .returned (.string v) ∧ Own E w' (Hp.xrd b s' e' :: L) := by
  unfold rRaw at hr
  unfold Hp.xrd at h
  have c0 := h.cell 0
  have c1 := h.cell 1
  have f0 := h.frozen 0
  have f1 := h.frozen 1
  by_cases he : e ≠ 0
  · rw [if_pos he] at hr
    cases hr
    have H2 := Lib.hid (show Own E w (Hp.xrd b s e :: L) from h)
    clear h
    go_enter Tryd.func30, Tryd.ntmps30
    go_wp2_with fail
    go_ret
    exact ⟨rfl, H2.out⟩
  rw [if_neg he] at hr
  obtain rfl : e = 0 := Decidable.not_not.1 he
  clear he
  by_cases h1 : n < 0
  · rw [if_pos h1] at hr
    cases hr
    have h2 := h.set 1 (.int .i64 1)
    have H2 := Lib.hid (show Own E (w.setCell ⟨b, 1, none⟩ (.int .i64 1)) (Hp.xrd b s 1 :: L) from h2)
    clear h h2
    go_enter Tryd.func30, Tryd.ntmps30
    go_wp2_with fail
    go_ret
    exact ⟨rfl, H2.out⟩
  rw [if_neg h1] at hr
  by_cases hs : (s.size : Int) < n
  · rw [if_pos hs] at hr
    cases hr
    have h2 := h.set 1 (.int .i64 22)
    have H2 := Lib.hid (show Own E (w.setCell ⟨b, 1, none⟩ (.int .i64 22)) (Hp.xrd b s 22 :: L) from h2)
    clear h h2
    go_enter Tryd.func30, Tryd.ntmps30
    go_wp2_with fail
    go_ret
    exact ⟨rfl, H2.out⟩
  rw [if_neg hs] at hr
  obtain ⟨k, rfl⟩ : ∃ k : Nat, n = k := ⟨n.toNat, by omega⟩
  rw [Int.toNat_natCast] at hr
  cases hr
  have i9 : (k : Int) ≤ s.size := by omega
  have h2 := h.set 0 (.string (restB s k))
  have H2 := Lib.hid (show Own E (w.setCell ⟨b, 0, none⟩ (.string (restB s k))) (Hp.xrd b (restB s k) 0 :: L) from h2)
  clear h h2
  go_enter Tryd.func30, Tryd.ntmps30
  go_wp2_with fail
  go_ret
  exact ⟨rfl, H2.out⟩
theorem xrleft_all (b : Nat) (s : ByteArray) (e : Int) (w : World) (h : Own E w (Hp.xrd b s e :: L)) :
    Calls Tryd.prog 34 #[.pointer (some ⟨b, 0, none⟩)] w fun ev w' => ev = .returned (.int .i64 s.size) ∧ w = w' := by
  unfold Hp.xrd at h
  have c0 := h.cell 0
  clear h
  go_enter Tryd.func34, Tryd.ntmps34
  go_wp2_with fail
  go_ret
  exact ⟨rfl, rfl⟩
theorem xrdone_all (b : Nat) (s : ByteArray) (e : Int) (w : World) (h : Own E w (Hp.xrd b s e :: L)) :
    Calls Tryd.prog 32 #[.pointer (some ⟨b, 0, none⟩)] w fun ev w' => ev = .returned (.int .i64 (rDone s e)) ∧ w = w' := by
  unfold Hp.xrd at h
  have c0 := h.cell 0
  have c1 := h.cell 1
  clear h
  by_cases he : e ≠ 0
  · rw [show rDone s e = e from if_pos he]
    have he2 : (e == 0) = false := by rw [beq_eq_false_iff_ne]; exact he
    go_enter Tryd.func32, Tryd.ntmps32
    go_wp2_with fail
    go_ret
    exact ⟨rfl, rfl⟩
  obtain rfl : e = 0 := Decidable.not_not.1 he
  clear he
  by_cases hs : s.size = 0
  · rw [show rDone s 0 = 0 by unfold rDone; rw [if_neg (by omega), if_pos hs]]
    have hs0 : s = ⟨#[]⟩ := bytes_ext s [] (List.eq_nil_of_length_eq_zero hs)
    subst hs0
    clear hs
    go_enter Tryd.func32, Tryd.ntmps32
    go_wp2_with fail
    go_ret
    exact ⟨rfl, rfl⟩
  · rw [show rDone s 0 = 23 by unfold rDone; rw [if_neg (by omega), if_neg hs]]
    have hne : s.toList.isEmpty = false := text_some hs
    clear hs
    go_enter Tryd.func32, Tryd.ntmps32
    go_wp2_with fail
    go_ret
    exact ⟨rfl, rfl⟩
end
end Go.Proofs.YtokephnlelpjhaaDoor
