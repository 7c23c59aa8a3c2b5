/- codec.Reader in every state: Num, Text, Raw, Left, Done. -/
import Derived.Test.YtabibfabieghpaaGreatDoorWrong
namespace Go.Proofs.YtabibfabieghpaaGreatDoor
open Go.RowKit
/-- Num: the answer, what is left, what is wrong. -/
def rNum (s : ByteArray) (e n : Int) : Int × ByteArray × Int :=
  if e ≠ 0 then (0, s, e)
  else if n < 1 ∨ 8 < n then (0, s, 1)
  else if (s.size : Int) < n then (0, s, 22)
  else if 9223372036854775808 ≤ numL (s.data.toList.take n.toNat) then (0, s, 20)
  else ((numL (s.data.toList.take n.toNat) : Nat), restB s n.toNat, 0)
def rText (s : ByteArray) (e n : Int) : ByteArray × ByteArray × Int :=
  if e ≠ 0 then (⟨#[]⟩, s, e)
  else if n < 0 ∨ 65535 < n then (⟨#[]⟩, s, 1)
  else if s.size < ahead n.toNat then (⟨#[]⟩, s, 22)
  else if n.toNat < numL (s.data.toList.take (ahead n.toNat)) then (⟨#[]⟩, s, 21)
  else if s.size < ahead n.toNat + numL (s.data.toList.take (ahead n.toNat)) then (⟨#[]⟩, s, 22)
  else (restB (frontB s (ahead n.toNat + numL (s.data.toList.take (ahead n.toNat)))) (ahead n.toNat), restB s (ahead n.toNat + numL (s.data.toList.take (ahead n.toNat))), 0)
def rRaw (s : ByteArray) (e n : Int) : ByteArray × ByteArray × Int :=
  if e ≠ 0 then (⟨#[]⟩, s, e)
  else if n < 0 then (⟨#[]⟩, s, 1)
  else if (s.size : Int) < n then (⟨#[]⟩, s, 22)
  else (frontB s n.toNat, restB s n.toNat, 0)
def rDone (s : ByteArray) (e : Int) : Int := if e ≠ 0 then e else if s.size = 0 then 0 else 23
theorem text_some {s : ByteArray} (h : ¬ s.size = 0) : s.toList.isEmpty = false := by
  rw [ByteArray.toList_eq, List.isEmpty_eq_false_iff]
  intro e
  have : s.data.toList.length = s.size := rfl
  rw [e] at this
  simp at this
  omega
theorem numL_cons (c : UInt8) (l : List UInt8) : numL (c :: l) = c.toNat * 256 ^ l.length + numL l := by
  have h : ∀ (m : List UInt8) (n : Nat), m.foldl (fun n c => n * 256 + c.toNat) n = n * 256 ^ m.length + m.foldl (fun n c => n * 256 + c.toNat) 0 := by
    intro m
    induction m with
    | nil => intro n; simp
    | cons d m ih =>
      intro n
      show m.foldl _ (n * 256 + d.toNat) = n * 256 ^ (m.length + 1) + m.foldl _ (0 * 256 + d.toNat)
      rw [ih (n * 256 + d.toNat), ih (0 * 256 + d.toNat), Nat.add_mul, Nat.zero_mul, Nat.zero_add, Nat.pow_succ, Nat.mul_assoc, Nat.mul_comm 256, Nat.add_assoc]
  unfold numL
  rw [List.foldl_cons, h l (0 * 256 + c.toNat), Nat.zero_mul, Nat.zero_add]
theorem numL_big (l : List UInt8) (h : l.length = 8) : 9223372036854775808 ≤ numL l ↔ 127 < (l.getD 0 0).toNat := by
  obtain ⟨c, m, rfl⟩ : ∃ c m, l = c :: m := by cases l with | nil => cases h | cons c m => exact ⟨c, m, rfl⟩
  have hm : m.length = 7 := by simpa using h
  have hb := numL_lt m
  rw [numL_cons, hm] at *
  have e7 : (256 : Nat) ^ 7 = 72057594037927936 := by rfl
  rw [e7] at *
  show _ ↔ 127 < c.toNat
  omega
section
variable {E : World} {L : List Hp}
theorem Own.rdr_text {w : World} {b : Nat} {s : ByteArray} {e : Int} (h : Own E w (Hp.rdr b s e :: L)) : w.cell? ⟨b, 0, none⟩ = some (.string s) := by
  by_cases he : e = 0
  · subst he
    have h2 := h.ofRdr0
    unfold Hp.reader at h2
    exact h2.cell 0
  · obtain ⟨r, h2⟩ := h.ofRdr he
    unfold Hp.reader at h2
    exact h2.cell 0
theorem Own.rdr_wrong {w : World} {b : Nat} {s : ByteArray} {e : Int} (he : e ≠ 0) (h : Own E w (Hp.rdr b s e :: L)) : ∃ r, w.cell? ⟨b, 1, none⟩ = some (refV r) := by
  obtain ⟨r, h2⟩ := h.ofRdr he
  unfold Hp.reader at h2
  exact ⟨r, h2.cell 1⟩
theorem Own.rdr_right {w : World} {b : Nat} {s : ByteArray} (h : Own E w (Hp.rdr b s 0 :: L)) : w.cell? ⟨b, 1, none⟩ = some .nilIface := by
  have h2 := h.ofRdr0
  unfold Hp.reader at h2
  exact h2.cell 1
set_option maxRecDepth 20000 in
set_option maxHeartbeats 2000000 in
theorem rnum_all (b : Nat) (s : ByteArray) (e n : Int) (v : Int) (s' : ByteArray) (e' : Int) (w : World) (hr : rNum s e n = (v, s', e')) (h : Own E w (Hp.rdr b s e :: L)) :
    Calls Tryz.prog 121 #[.pointer (some ⟨b, 0, none⟩), .int .i64 n] w fun ev w' => ev = .returned (.int .i64 v) ∧ Own E w' (Hp.rdr b s' e' :: L) := by
  have c0 := h.rdr_text
  have H := Lib.hid h
  unfold rNum at hr
  by_cases he : e ≠ 0
  · rw [if_pos he] at hr
    cases hr
    obtain ⟨r, c1⟩ := h.rdr_wrong he
    clear h he
    go_enter Tryz.func121, Tryz.ntmps121
    go_wp2_with fail
    go_ret
    exact ⟨rfl, H.out⟩
  rw [if_neg he] at hr
  obtain rfl : e = 0 := Decidable.not_not.1 he
  have c1 := h.rdr_right
  clear h he
  by_cases h1 : n < 1
  · rw [if_pos (.inl h1)] at hr
    cases hr
    go_enter Tryz.func121, Tryz.ntmps121
    go_wp2_with fail
    refine (rrefuse_any b s 1 _ (by decide) H.out).mono ?_
    rintro e w1 ⟨rfl, h2⟩
    go_wp2_with fail
    go_ret
    exact ⟨rfl, h2⟩
  by_cases h8 : 8 < n
  · rw [if_pos (.inr h8)] at hr
    cases hr
    go_enter Tryz.func121, Tryz.ntmps121
    go_wp2_with fail
    refine (rrefuse_any b s 1 _ (by decide) H.out).mono ?_
    rintro e w1 ⟨rfl, h2⟩
    go_wp2_with fail
    go_ret
    exact ⟨rfl, h2⟩
  rw [if_neg (by omega)] at hr
  by_cases hs : (s.size : Int) < n
  · rw [if_pos hs] at hr
    cases hr
    go_enter Tryz.func121, Tryz.ntmps121
    go_wp2_with fail
    refine (rrefuse_any b s 22 _ (by decide) H.out).mono ?_
    rintro e w1 ⟨rfl, h2⟩
    go_wp2_with fail
    go_ret
    exact ⟨rfl, h2⟩
  rw [if_neg hs] at hr
  obtain ⟨k, rfl⟩ : ∃ k : Nat, n = k := ⟨n.toNat, by omega⟩
  rw [Int.toNat_natCast] at hr
  by_cases hk : k < 8
  · have hb := numL_lt (s.data.toList.take k)
    rw [List.length_take, Nat.min_eq_left (show k ≤ s.data.toList.length from by show k ≤ s.size; omega)] at hb
    have hb2 := Nat.lt_of_lt_of_le hb (Nat.pow_le_pow_right (by omega) (show k ≤ 7 by omega))
    rw [if_neg (by omega)] at hr
    cases hr
    refine (rnum_any b s k w (by omega) hk (by omega) H.out.ofRdr0).mono ?_
    rintro e w1 ⟨rfl, h2⟩
    exact ⟨rfl, h2.toRdr0⟩
  obtain rfl : k = 8 := by omega
  have hlen : (s.data.toList.take 8).length = 8 := by
    rw [List.length_take]
    exact Nat.min_eq_left (by show 8 ≤ s.size; omega)
  have hbig := numL_big _ hlen
  have hget : (s.data.toList.take 8).getD 0 0 = s.data.toList.getD 0 0 := by
    rw [List.getD_eq_getElem?_getD, List.getD_eq_getElem?_getD, List.getElem?_take]
    rfl
  rw [hget] at hbig
  have hix := byte_index s 0 0 rfl (by omega)
  obtain ⟨y, hy⟩ : ∃ y, y = (s.data.toList.getD 0 0).toNat := ⟨_, rfl⟩
  rw [← hy] at hbig hix
  clear hy hget hlen h1 h8
  by_cases hn : 127 < y
  · rw [if_pos (hbig.2 hn)] at hr
    cases hr
    have hni : (127 : Int) < y := by omega
    clear hbig hn
    go_enter Tryz.func121, Tryz.ntmps121
    go_wp2_with fail
    refine (rrefuse_any b s 20 _ (by decide) H.out).mono ?_
    rintro e w1 ⟨rfl, h2⟩
    go_wp2_with fail
    go_ret
    exact ⟨rfl, h2⟩
  · have hlt : numL (s.data.toList.take 8) < 9223372036854775808 := by
      refine Nat.lt_of_not_le fun hc => hn (hbig.1 hc)
    rw [if_neg (by omega)] at hr
    cases hr
    have hni : ¬ (127 : Int) < y := by omega
    have HF := Lib.hid (show numL (frontB s 8).data.toList < 9223372036854775808 by rw [front_data]; exact hlt)
    have HFd := Lib.hid (front_data s 8)
    have HFs := Lib.hid (front_size s 8 (by omega))
    have HS := Lib.hid (show 8 ≤ s.size by omega)
    clear hbig hn hlt
    go_enter Tryz.func121, Tryz.ntmps121
    go_wp2_with fail
    refine (take_any b .nilIface s 8 _ HS.out H.out.ofRdr0).mono ?_
    rintro e w1 ⟨rfl, h2⟩
    go_wp2_with fail
    refine (number_any (frontB s 8) _ (by rw [HFs.out]; omega) HF.out h2).mono ?_
    rintro e w2 ⟨rfl, h3⟩
    rw [HFd.out]
    go_wp2_with fail
    go_ret
    exact ⟨rfl, h3.toRdr0⟩
set_option maxRecDepth 20000 in
set_option maxHeartbeats 2000000 in
theorem rtext_all (b : Nat) (s : ByteArray) (e n : Int) (v s' : ByteArray) (e' : Int) (w : World) (hr : rText s e n = (v, s', e')) (hsz : s.size ≤ 1000000000000000) (h : Own E w (Hp.rdr b s e :: L)) :
    Calls Tryz.prog 133 #[.pointer (some ⟨b, 0, none⟩), .int .i64 n] w fun ev w' => ev = .returned (.string v) ∧ Own E w' (Hp.rdr b s' e' :: L) := by
  have c0 := h.rdr_text
  have H := Lib.hid h
  unfold rText at hr
  by_cases he : e ≠ 0
  · rw [if_pos he] at hr
    cases hr
    obtain ⟨r, c1⟩ := h.rdr_wrong he
    clear h he
    go_enter Tryz.func133, Tryz.ntmps133
    go_wp2_with fail
    go_ret
    exact ⟨rfl, H.out⟩
  rw [if_neg he] at hr
  obtain rfl : e = 0 := Decidable.not_not.1 he
  have c1 := h.rdr_right
  clear h he
  by_cases h1 : n < 0
  · rw [if_pos (.inl h1)] at hr
    cases hr
    go_enter Tryz.func133, Tryz.ntmps133
    go_wp2_with fail
    refine (rrefuse_any b s 1 _ (by decide) H.out).mono ?_
    rintro e w1 ⟨rfl, h2⟩
    go_wp2_with fail
    go_ret
    exact ⟨rfl, h2⟩
  by_cases h8 : 65535 < n
  · rw [if_pos (.inr h8)] at hr
    cases hr
    go_enter Tryz.func133, Tryz.ntmps133
    go_wp2_with fail
    refine (rrefuse_any b s 1 _ (by decide) H.out).mono ?_
    rintro e w1 ⟨rfl, h2⟩
    go_wp2_with fail
    go_ret
    exact ⟨rfl, h2⟩
  rw [if_neg (by omega)] at hr
  obtain ⟨most, rfl⟩ : ∃ k : Nat, n = k := ⟨n.toNat, by omega⟩
  rw [Int.toNat_natCast] at hr
  have hm : most ≤ 65535 := by omega
  have HM := Lib.hid hm
  clear hm
  have ha2 : 1 ≤ ahead most ∧ ahead most ≤ 2 := by unfold ahead; split <;> omega
  by_cases hsa : s.size < ahead most
  · rw [if_pos hsa] at hr
    cases hr
    go_enter Tryz.func133, Tryz.ntmps133
    go_wp2_with fail
    refine (length_any most _).mono ?_
    rintro e w1 ⟨rfl, rfl⟩
    generalize ahead most = a at *
    have i3 : (s.size : Int) < a := by omega
    go_wp2_with fail
    refine (rrefuse_any b s 22 _ (by decide) H.out).mono ?_
    rintro e w1 ⟨rfl, h2⟩
    go_wp2_with fail
    go_ret
    exact ⟨rfl, h2⟩
  rw [if_neg hsa] at hr
  obtain ⟨m, hmm⟩ : ∃ m, m = numL (s.data.toList.take (ahead most)) := ⟨_, rfl⟩
  rw [← hmm] at hr
  have hml : m < 65536 := by
    have hb := numL_lt (s.data.toList.take (ahead most))
    rw [List.length_take, Nat.min_eq_left (show ahead most ≤ s.data.toList.length from by show ahead most ≤ s.size; omega)] at hb
    have hb2 := Nat.lt_of_lt_of_le hb (Nat.pow_le_pow_right (by omega) ha2.2)
    omega
  by_cases hgood : ¬ most < m ∧ ¬ s.size < ahead most + m
  · rw [if_neg hgood.1, if_neg hgood.2] at hr
    cases hr
    refine (rtext_any b s most m w HM.out (by omega) hmm.symm (by omega) (by omega) hsz H.out.ofRdr0).mono ?_
    rintro e w1 ⟨rfl, h2⟩
    exact ⟨rfl, h2.toRdr0⟩
  have hf2 : numL (frontB s (ahead most)).data.toList = m := by rw [front_data]; exact hmm.symm
  have hfs := front_size s (ahead most) (by omega)
  have HF := Lib.hid hf2
  have HFs := Lib.hid hfs
  clear hf2 hfs hmm
  by_cases hmost : most < m
  · rw [if_pos hmost] at hr
    cases hr
    clear hgood
    go_enter Tryz.func133, Tryz.ntmps133
    go_wp2_with fail
    refine (length_any most _).mono ?_
    rintro e w1 ⟨rfl, rfl⟩
    generalize ahead most = a at *
    have i3 : ¬ (s.size : Int) < a := by omega
    have i4 : (a : Int) ≤ s.size := by omega
    go_wp2_with fail
    refine (number_any (frontB s a) _ (by rw [HFs.out]; omega) (by rw [HF.out]; omega) H.out).mono ?_
    rintro e w2 ⟨rfl, h2⟩
    rw [HF.out]
    have i5 : (most : Int) < m := by omega
    go_wp2_with fail
    refine (rrefuse_any b s 21 _ (by decide) h2).mono ?_
    rintro e w1 ⟨rfl, h3⟩
    go_wp2_with fail
    go_ret
    exact ⟨rfl, h3⟩
  · rw [if_neg hmost, if_pos (by omega)] at hr
    cases hr
    go_enter Tryz.func133, Tryz.ntmps133
    go_wp2_with fail
    refine (length_any most _).mono ?_
    rintro e w1 ⟨rfl, rfl⟩
    generalize ahead most = a at *
    have i3 : ¬ (s.size : Int) < a := by omega
    have i4 : (a : Int) ≤ s.size := by omega
    have i6 : (s.size : Int) - a < m := by omega
    clear hgood
    go_wp2_with fail
    refine (number_any (frontB s a) _ (by rw [HFs.out]; omega) (by rw [HF.out]; omega) H.out).mono ?_
    rintro e w2 ⟨rfl, h2⟩
    rw [HF.out]
    have i5 : ¬ (most : Int) < m := by omega
    have d0 := h2.rdr_text
    go_wp2_with fail
    refine (rrefuse_any b s 22 _ (by decide) h2).mono ?_
    rintro e w1 ⟨rfl, h3⟩
    go_wp2_with fail
    go_ret
    exact ⟨rfl, h3⟩
theorem rraw_all (b : Nat) (s : ByteArray) (e n : Int) (v s' : ByteArray) (e' : Int) (w : World) (hr : rRaw s e n = (v, s', e')) (h : Own E w (Hp.rdr b s e :: L)) :
    Calls Tryz.prog 131 #[.pointer (some ⟨b, 0, none⟩), .int .i64 n] w fun ev w' => ev = .returned (.string v) ∧ Own E w' (Hp.rdr b s' e' :: L) := by
  have c0 := h.rdr_text
  have H := Lib.hid h
  unfold rRaw at hr
  by_cases he : e ≠ 0
  · rw [if_pos he] at hr
    cases hr
    obtain ⟨r, c1⟩ := h.rdr_wrong he
    clear h he
    go_enter Tryz.func131, Tryz.ntmps131
    go_wp2_with fail
    go_ret
    exact ⟨rfl, H.out⟩
  rw [if_neg he] at hr
  obtain rfl : e = 0 := Decidable.not_not.1 he
  have c1 := h.rdr_right
  clear h he
  by_cases h1 : n < 0
  · rw [if_pos h1] at hr
    cases hr
    go_enter Tryz.func131, Tryz.ntmps131
    go_wp2_with fail
    refine (rrefuse_any b s 1 _ (by decide) H.out).mono ?_
    rintro e w1 ⟨rfl, h2⟩
    go_wp2_with fail
    go_ret
    exact ⟨rfl, h2⟩
  rw [if_neg h1] at hr
  by_cases hs : (s.size : Int) < n
  · rw [if_pos hs] at hr
    cases hr
    go_enter Tryz.func131, Tryz.ntmps131
    go_wp2_with fail
    refine (rrefuse_any b s 22 _ (by decide) H.out).mono ?_
    rintro e w1 ⟨rfl, h2⟩
    go_wp2_with fail
    go_ret
    exact ⟨rfl, h2⟩
  rw [if_neg hs] at hr
  obtain ⟨k, rfl⟩ : ∃ k : Nat, n = k := ⟨n.toNat, by omega⟩
  rw [Int.toNat_natCast] at hr
  cases hr
  go_enter Tryz.func131, Tryz.ntmps131
  go_wp2_with fail
  refine (take_any b .nilIface s k _ (by omega) H.out.ofRdr0).mono ?_
  rintro e w1 ⟨rfl, h2⟩
  go_wp2_with fail
  go_ret
  exact ⟨rfl, h2.toRdr0⟩
theorem rdone_all (b : Nat) (s : ByteArray) (e : Int) (w : World) (hG : Laid0 E L) (h : Own E w (Hp.rdr b s e :: L)) :
    Calls Tryz.prog 119 #[.pointer (some ⟨b, 0, none⟩)] w fun ev w' => ev = .returned (.int .i64 (rDone s e)) ∧ Own E w' (Hp.rdr b s e :: L) := by
  by_cases he : e ≠ 0
  · rw [show rDone s e = e from if_pos he]
    obtain ⟨r, hr⟩ := h.ofRdr he
    have c1 : w.cell? ⟨b, 1, none⟩ = some (refV r) := by
      have h2 := hr
      unfold Hp.reader at h2
      exact h2.cell 1
    have HE := Lib.hid he
    have H := Lib.hid hr
    clear h hr he
    go_enter Tryz.func119, Tryz.ntmps119
    go_wp2_with fail
    refine (told_any r e _ hG.cons H.out.f1).mono ?_
    rintro e w1 ⟨rfl, h2⟩
    go_wp2_with fail
    go_ret
    exact ⟨rfl, h2.f1.toRdr HE.out⟩
  obtain rfl : e = 0 := Decidable.not_not.1 he
  have c0 := h.rdr_text
  have c1 := h.rdr_right
  have H := Lib.hid h
  clear h he
  by_cases hs : s.size = 0
  · rw [show rDone s 0 = 0 by unfold rDone; rw [if_neg (by omega), if_pos hs]]
    have hs0 : s = ⟨#[]⟩ := bytes_ext s [] (List.eq_nil_of_length_eq_zero hs)
    subst hs0
    clear hs
    go_enter Tryz.func119, Tryz.ntmps119
    go_wp2_with fail
    go_ret
    exact ⟨rfl, H.out⟩
  · rw [show rDone s 0 = 23 by unfold rDone; rw [if_neg (by omega), if_neg hs]]
    have hne : s.toList.isEmpty = false := text_some hs
    clear hs
    go_enter Tryz.func119, Tryz.ntmps119
    go_wp2_with fail
    go_ret
    exact ⟨rfl, H.out⟩
end
end Go.Proofs.YtabibfabieghpaaGreatDoor
