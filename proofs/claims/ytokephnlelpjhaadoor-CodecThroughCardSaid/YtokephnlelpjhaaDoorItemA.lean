/- Items: read, whatever they are, and written. -/
import Derived.Test.YtokephnlelpjhaaDoorItemW
namespace Go.Proofs.YtokephnlelpjhaaDoor
open Go.RowKit
theorem rNum_val (s : ByteArray) (e : Int) (k : Nat) : ∃ m : Nat, (rNum s e k).1 = m ∧ m < 256 ^ k ∧ m < 9223372036854775808 := by
  have hp : 0 < 256 ^ k := Nat.pow_pos (by omega)
  unfold rNum
  by_cases he : e ≠ 0
  · rw [if_pos he]; exact ⟨0, rfl, hp, by omega⟩
  rw [if_neg he]
  by_cases h2 : (k : Int) < 1 ∨ 8 < (k : Int)
  · rw [if_pos h2]; exact ⟨0, rfl, hp, by omega⟩
  rw [if_neg h2]
  by_cases h3 : (s.size : Int) < k
  · rw [if_pos h3]; exact ⟨0, rfl, hp, by omega⟩
  rw [if_neg h3]
  by_cases h4 : 9223372036854775808 ≤ numL (s.data.toList.take (k : Int).toNat)
  · rw [if_pos h4]; exact ⟨0, rfl, hp, by omega⟩
  rw [if_neg h4]
  refine ⟨_, rfl, ?_, by omega⟩
  have hb := numL_lt (s.data.toList.take (k : Int).toNat)
  rw [List.length_take, Int.toNat_natCast] at hb
  rw [Int.toNat_natCast]
  exact Nat.lt_of_lt_of_le hb (Nat.pow_le_pow_right (by omega) (Nat.min_le_left _ _))
theorem rText_val (s : ByteArray) (e : Int) (k : Nat) : (rText s e k).1.size ≤ k := by
  unfold rText
  by_cases h1 : e ≠ 0
  · rw [if_pos h1]; exact Nat.zero_le _
  rw [if_neg h1]
  by_cases h2 : (k : Int) < 0 ∨ 65535 < (k : Int)
  · rw [if_pos h2]; exact Nat.zero_le _
  rw [if_neg h2]
  by_cases h3 : s.size < ahead (k : Int).toNat
  · rw [if_pos h3]; exact Nat.zero_le _
  rw [if_neg h3]
  by_cases h4 : (k : Int).toNat < numL (s.data.toList.take (ahead (k : Int).toNat))
  · rw [if_pos h4]; exact Nat.zero_le _
  rw [if_neg h4]
  by_cases h5 : s.size < ahead (k : Int).toNat + numL (s.data.toList.take (ahead (k : Int).toNat))
  · rw [if_pos h5]; exact Nat.zero_le _
  rw [if_neg h5]
  show (restB (frontB s _) _).size ≤ _
  rw [rest_size, front_size _ _ (by omega)]
  rw [Int.toNat_natCast] at h4 ⊢
  omega
theorem rRaw_val (s : ByteArray) (e : Int) (k : Nat) : (rRaw s e k).1.size ≤ s.size := by
  unfold rRaw
  by_cases h1 : e ≠ 0
  · rw [if_pos h1]; exact Nat.zero_le _
  rw [if_neg h1]
  by_cases h2 : (k : Int) < 0
  · rw [if_pos h2]; exact Nat.zero_le _
  rw [if_neg h2]
  by_cases h3 : (s.size : Int) < k
  · rw [if_pos h3]; exact Nat.zero_le _
  rw [if_neg h3]
  show (frontB s _).size ≤ _
  rw [front_size _ _ (by omega)]
  omega
section
variable {E : World} {L : List Hp}
set_option maxRecDepth 20000 in
set_option maxHeartbeats 2000000 in
theorem again_any (x : It) (b c : Nat) (l : List UInt8) (s : ByteArray) (e : Int) (s' : ByteArray) (e' : Int) (w : World) (hx : ItOk x) (hn : iNext x s e = (s', e')) (hsz : s.size ≤ 1000000000000) (hl : l.length + s.size + 70000 ≤ 140737488355328) (h : Own E w (Hp.rdr b s e :: Hp.writer c .nilIface l :: L)) :
    Calls Tryd.prog 38 #[itV x, .pointer (some ⟨b, 0, none⟩), .pointer (some ⟨c, 0, none⟩)] w fun ev w' => ev = .returned (.tuple #[]) ∧ Own E w' (Hp.rdr b s' e' :: Hp.writer c .nilIface (l ++ iAgain x s e) :: L) := by
  have h1 : Own E (w.alloc (.cells (enIt x).toArray ITT)) (Hp.blk w.heap.size ITT (enIt x).toArray :: Hp.rdr b s e :: Hp.writer c .nilIface l :: L) := h.alloc _
  obtain ⟨g, hg⟩ : ∃ g, g = w.heap.size := ⟨_, rfl⟩
  obtain ⟨w1, hw1⟩ : ∃ v, v = w.alloc (.cells (enIt x).toArray ITT) := ⟨_, rfl⟩
  rw [← hg, ← hw1] at h1
  have hq3 := pickN_lt x.kind 3 (by omega)
  obtain ⟨q, hq⟩ : ∃ q, q = pickN x.kind 3 := ⟨_, rfl⟩
  have HQ := Lib.hid hq
  rw [← hq] at hq3
  have hkq : iKind x = q := by unfold iKind; rw [hq]
  have HZ := Lib.hid hsz
  have HL := Lib.hid hl
  clear hq h hsz hl
  have HR : Hid (∀ w' s e l, Own E w' (Hp.blk g ITT (enIt x).toArray :: Hp.rdr b s e :: Hp.writer c .nilIface l :: L) → w'.rangeAt g 0 (enIt x) ∧ w'.cell? ⟨g, 4, none⟩ = some (.string x.s)) := Lib.hid fun w' s e l hw => ⟨hw.range 0 (enIt x) (fun j u hu => by simpa using hu), hw.cell 4⟩
  have H1 := Lib.hid h1
  rcases (by omega : q = 0 ∨ q = 1 ∨ q = 2) with rfl | rfl | rfl
  · have hsk := iSize_ok x
    obtain ⟨m, hm1, hm2, hm3⟩ := rNum_val s e (iSize x)
    obtain ⟨v, t, f, hr⟩ : ∃ v t f, rNum s e (iSize x) = (v, t, f) := ⟨_, _, _, rfl⟩
    unfold iNext at hn
    rw [if_pos hkq, hr] at hn
    cases hn
    have hag : iAgain x s e = byN (iSize x) m := by
      unfold iAgain
      rw [if_pos hkq, hm1, Int.toNat_natCast]
    rw [hag]
    rw [hr] at hm1
    obtain rfl : v = (m : Int) := hm1
    have HRR := Lib.hid hr
    have HS := Lib.hid hsk
    have HM2 := Lib.hid hm2
    have HM3 := Lib.hid hm3
    clear hkq h1 hr hag hm2 hsk hm3
    go_enter Tryd.func38, Tryd.ntmps38
    go_wp2_with fail
    rw [← hg, ← hw1]
    clear hg hw1
    refine (pick_any x.kind 3 _ hx.kind (by omega) (by omega)).mono ?_
    rintro e w2 ⟨rfl, rfl⟩
    rw [← HQ.out]
    go_wp2_with fail
    refine wp_region_text [1, 4] (fun w' => w'.rangeAt g 0 (enIt x)) (by kernel_rfl) ?_ (fun hS => ?_)
    · exact (HR.out _ _ _ _ H1.out.drew).1
    refine wpAnyG_pure (i := 0) (oi := ⟨some 18, _, _, _, _, _⟩) (v := ?_) rfl (by kernel_rfl) (by kernel_rfl) (by kernel_rfl) (by rfl) (fun _ _ _ h => h) (by rfl) ?_ ?_
    rotate_left
    · intro w
      go_simp
      first | done | with_reducible rfl
    try simp only [Act.put, List.setIfInBounds_toArray, List.set_cons_zero, List.set_cons_succ]
    refine wpAnyG_load (i := 1) (oi := ⟨some 19, _, _, _, _, _⟩) (v := (itV x)) rfl (by kernel_rfl) (by kernel_rfl) (by kernel_rfl) (by rfl) (fun _ _ _ h => h) (by rfl) ?_ (by assumption) ?_
    · intro w hS
      exact exec_load_mid ITT (.tmp 3) rfl g 0 (by rfl) (enIt x) _ hS Tryd.underlying57 rfl (by kernel_rfl)
    try simp only [Act.put, List.setIfInBounds_toArray, List.set_cons_zero, List.set_cons_succ]
    refine wpAnyG_pure (i := 3) (oi := ⟨some 21, _, _, _, _, _⟩) (v := ?_) rfl (by kernel_rfl) (by kernel_rfl) (by kernel_rfl) (by rfl) (fun _ _ _ h => h) (by rfl) ?_ ?_
    rotate_left
    · intro w
      go_simp
      first | done | with_reducible rfl
    try simp only [Act.put, List.setIfInBounds_toArray, List.set_cons_zero, List.set_cons_succ]
    refine wpAnyG_load (i := 4) (oi := ⟨some 22, _, _, _, _, _⟩) (v := (itV x)) rfl (by kernel_rfl) (by kernel_rfl) (by kernel_rfl) (by rfl) (fun _ _ _ h => h) (by rfl) ?_ (by assumption) ?_
    · intro w hS
      exact exec_load_mid ITT (.tmp 3) rfl g 0 (by rfl) (enIt x) _ hS Tryd.underlying57 rfl (by kernel_rfl)
    try simp only [Act.put, List.setIfInBounds_toArray, List.set_cons_zero, List.set_cons_succ]
    refine wpAnyG_keep (i := 2) (oi := ⟨some 20, _, _, _, _, _⟩) (by kernel_rfl) rfl (fun K hK => ?_)
    rw [if_pos (by rfl)]
    go_simp
    refine (isize_any x _ hx H1.out.drew).mono ?_
    rintro e w3 ⟨rfl, h2⟩
    refine hK.out _ _ ?_ (fun hS => ?_)
    · exact (HR.out _ _ _ _ h2).1
    clear hK K
    try simp only [Act.put, List.setIfInBounds_toArray, List.set_cons_zero, List.set_cons_succ]
    refine wpAnyG_keep (i := 5) (oi := ⟨some 23, _, _, _, _, _⟩) (by kernel_rfl) rfl (fun K hK => ?_)
    rw [if_pos (by rfl)]
    go_simp
    refine (isize_any x _ hx h2).mono ?_
    rintro e w3 ⟨rfl, h3⟩
    refine hK.out _ _ ?_ (fun hS => ?_)
    · exact (HR.out _ _ _ _ h3).1
    clear hK K
    try simp only [Act.put, List.setIfInBounds_toArray, List.set_cons_zero, List.set_cons_succ]
    refine wpAnyG_keep (i := 6) (oi := ⟨some 24, _, _, _, _, _⟩) (by kernel_rfl) rfl (fun K hK => ?_)
    rw [if_pos (by rfl)]
    go_simp
    refine (rnum_all b s _ (iSize x) m s' e' _ HRR.out h3.f1).mono ?_
    rintro e w4 ⟨rfl, h4⟩
    refine hK.out _ _ ?_ (fun hS => ?_)
    · exact (HR.out _ _ _ _ h4.f1).1
    clear hK K
    try simp only [Act.put, List.setIfInBounds_toArray, List.set_cons_zero, List.set_cons_succ]
    refine wpAnyG_keep (i := 7) (oi := ⟨some 25, _, _, _, _, _⟩) (by kernel_rfl) rfl (fun K hK => ?_)
    rw [if_pos (by rfl)]
    go_simp
    refine (wnum_any c .nilIface l (iSize x) m _ HS.out.1 HS.out.2 HM2.out HM3.out (by have := HL.out; omega) h4.f2).mono ?_
    rintro e w5 ⟨rfl, h5⟩
    refine hK.out _ _ ?_ (fun hS => ?_)
    · exact (HR.out _ _ _ _ h5.b2.f1).1
    clear hK K
    try simp only [Act.put, List.setIfInBounds_toArray, List.set_cons_zero, List.set_cons_succ]
    refine wpAnyG_done (by kernel_rfl) ?_ _
    refine NoPanic.normal ?_
    go_wp2_with fail
    go_end0
    exact ⟨rfl, h5.f1.f2.drop⟩
  · obtain ⟨v, t, f, hr⟩ : ∃ v t f, rText s e (iMost x) = (v, t, f) := ⟨_, _, _, rfl⟩
    have hval := rText_val s e (iMost x)
    unfold iNext at hn
    rw [if_neg (by omega), if_pos hkq, hr] at hn
    cases hn
    have hag : iAgain x s e = byN (ahead (iMost x)) v.size ++ v.data.toList := by
      unfold iAgain
      rw [if_neg (by omega), if_pos hkq, hr]
    rw [hag, ← List.append_assoc]
    rw [hr] at hval
    have hval' : v.size ≤ iMost x := hval
    have HV := Lib.hid hval'
    have HRR := Lib.hid hr
    clear hkq h1 hr hag hval hval'
    go_enter Tryd.func38, Tryd.ntmps38
    go_wp2_with fail
    rw [← hg, ← hw1]
    clear hg hw1
    refine (pick_any x.kind 3 _ hx.kind (by omega) (by omega)).mono ?_
    rintro e w2 ⟨rfl, rfl⟩
    rw [← HQ.out]
    go_wp2_with fail
    refine wp_region_text [1, 4] (fun w' => w'.rangeAt g 0 (enIt x)) (by kernel_rfl) ?_ (fun hS => ?_)
    · exact (HR.out _ _ _ _ H1.out.drew).1
    refine wpAnyG_pure (i := 0) (oi := ⟨some 28, _, _, _, _, _⟩) (v := ?_) rfl (by kernel_rfl) (by kernel_rfl) (by kernel_rfl) (by rfl) (fun _ _ _ h => h) (by rfl) ?_ ?_
    rotate_left
    · intro w
      go_simp
      first | done | with_reducible rfl
    try simp only [Act.put, List.setIfInBounds_toArray, List.set_cons_zero, List.set_cons_succ]
    refine wpAnyG_load (i := 1) (oi := ⟨some 29, _, _, _, _, _⟩) (v := (itV x)) rfl (by kernel_rfl) (by kernel_rfl) (by kernel_rfl) (by rfl) (fun _ _ _ h => h) (by rfl) ?_ (by assumption) ?_
    · intro w hS
      exact exec_load_mid ITT (.tmp 3) rfl g 0 (by rfl) (enIt x) _ hS Tryd.underlying57 rfl (by kernel_rfl)
    try simp only [Act.put, List.setIfInBounds_toArray, List.set_cons_zero, List.set_cons_succ]
    refine wpAnyG_pure (i := 3) (oi := ⟨some 31, _, _, _, _, _⟩) (v := ?_) rfl (by kernel_rfl) (by kernel_rfl) (by kernel_rfl) (by rfl) (fun _ _ _ h => h) (by rfl) ?_ ?_
    rotate_left
    · intro w
      go_simp
      first | done | with_reducible rfl
    try simp only [Act.put, List.setIfInBounds_toArray, List.set_cons_zero, List.set_cons_succ]
    refine wpAnyG_load (i := 4) (oi := ⟨some 32, _, _, _, _, _⟩) (v := (itV x)) rfl (by kernel_rfl) (by kernel_rfl) (by kernel_rfl) (by rfl) (fun _ _ _ h => h) (by rfl) ?_ (by assumption) ?_
    · intro w hS
      exact exec_load_mid ITT (.tmp 3) rfl g 0 (by rfl) (enIt x) _ hS Tryd.underlying57 rfl (by kernel_rfl)
    try simp only [Act.put, List.setIfInBounds_toArray, List.set_cons_zero, List.set_cons_succ]
    refine wpAnyG_keep (i := 2) (oi := ⟨some 30, _, _, _, _, _⟩) (by kernel_rfl) rfl (fun K hK => ?_)
    rw [if_pos (by rfl)]
    go_simp
    refine (imost_any x _ hx H1.out.drew).mono ?_
    rintro e w3 ⟨rfl, h2⟩
    refine hK.out _ _ ?_ (fun hS => ?_)
    · exact (HR.out _ _ _ _ h2).1
    clear hK K
    try simp only [Act.put, List.setIfInBounds_toArray, List.set_cons_zero, List.set_cons_succ]
    refine wpAnyG_keep (i := 5) (oi := ⟨some 33, _, _, _, _, _⟩) (by kernel_rfl) rfl (fun K hK => ?_)
    rw [if_pos (by rfl)]
    go_simp
    refine (imost_any x _ hx h2).mono ?_
    rintro e w3 ⟨rfl, h3⟩
    refine hK.out _ _ ?_ (fun hS => ?_)
    · exact (HR.out _ _ _ _ h3).1
    clear hK K
    try simp only [Act.put, List.setIfInBounds_toArray, List.set_cons_zero, List.set_cons_succ]
    refine wpAnyG_keep (i := 6) (oi := ⟨some 34, _, _, _, _, _⟩) (by kernel_rfl) rfl (fun K hK => ?_)
    rw [if_pos (by rfl)]
    go_simp
    refine (rtext_all b s _ (iMost x) v s' e' _ HRR.out HZ.out h3.f1).mono ?_
    rintro e w4 ⟨rfl, h4⟩
    refine hK.out _ _ ?_ (fun hS => ?_)
    · exact (HR.out _ _ _ _ h4.f1).1
    clear hK K
    try simp only [Act.put, List.setIfInBounds_toArray, List.set_cons_zero, List.set_cons_succ]
    refine wpAnyG_keep (i := 7) (oi := ⟨some 35, _, _, _, _, _⟩) (by kernel_rfl) rfl (fun K hK => ?_)
    rw [if_pos (by rfl)]
    go_simp
    refine (wtext_any c .nilIface l (iMost x) v _ (iMost_ok x) HV.out (by have := HL.out; omega) h4.f2).mono ?_
    rintro e w5 ⟨rfl, h5⟩
    refine hK.out _ _ ?_ (fun hS => ?_)
    · exact (HR.out _ _ _ _ h5.b2.f1).1
    clear hK K
    try simp only [Act.put, List.setIfInBounds_toArray, List.set_cons_zero, List.set_cons_succ]
    refine wpAnyG_done (by kernel_rfl) ?_ _
    refine NoPanic.normal ?_
    go_wp2_with fail
    go_end0
    exact ⟨rfl, h5.f1.f2.drop⟩
  · obtain ⟨v, t, f, hr⟩ : ∃ v t f, rRaw s e x.s.size = (v, t, f) := ⟨_, _, _, rfl⟩
    have hval := rRaw_val s e x.s.size
    unfold iNext at hn
    rw [if_neg (by omega), if_neg (by omega), hr] at hn
    cases hn
    have hag : iAgain x s e = v.data.toList := by
      unfold iAgain
      rw [if_neg (by omega), if_neg (by omega), hr]
    rw [hag]
    rw [hr] at hval
    have hval' : v.size ≤ s.size := hval
    have HV := Lib.hid hval'
    have HRR := Lib.hid hr
    have c4 := (HR.out _ _ _ _ h1).2
    clear hkq h1 hr hag hval hval'
    go_enter Tryd.func38, Tryd.ntmps38
    go_wp2_with fail
    rw [← hg, ← hw1]
    clear hg hw1
    refine (pick_any x.kind 3 _ hx.kind (by omega) (by omega)).mono ?_
    rintro e w2 ⟨rfl, rfl⟩
    rw [← HQ.out]
    go_wp2_with fail
    refine (rraw_all b s _ x.s.size v s' e' _ HRR.out H1.out.f1).mono ?_
    rintro e w3 ⟨rfl, h3⟩
    go_wp2_with fail
    refine (raw_any c .nilIface l v _ (by have := HL.out; have := HV.out; omega) h3.f2).mono ?_
    rintro e w5 ⟨rfl, h5⟩
    go_wp2_with fail
    go_end0
    exact ⟨rfl, h5.f1.f2.drop⟩
end
end Go.Proofs.YtokephnlelpjhaaDoor
