/- latchkeylaw02.CodecThrough: true of any items and texts. -/
import Derived.Test.YtokephnlelpjhaaDoorItemR
import Derived.Test.YtokephnlelpjhaaDoorItemA
namespace Go.Proofs.YtokephnlelpjhaaDoor
open Go.RowKit
def wt : List It → Nat
  | [] => 0
  | x :: l => 100 + x.s.size + wt l
theorem wt_app (a b : List It) : wt (a ++ b) = wt a + wt b := by
  induction a with
  | nil => simp [wt]
  | cons x l ih => simp only [List.cons_append, wt, ih]; omega
theorem wt_snoc (xs : List It) (k : Nat) (x : It) (h : xs[k]? = some x) : wt (xs.take (k + 1)) = wt (xs.take k) + (100 + x.s.size) := by
  rw [List.take_add_one, h, wt_app]
  simp [wt]
theorem wt_le (xs : List It) (k : Nat) : wt (xs.take k) ≤ wt xs := by
  have h := wt_app (xs.take k) (xs.drop k)
  rw [List.take_append_drop] at h
  omega
theorem wt_len (xs : List It) : 100 * xs.length ≤ wt xs := by
  induction xs with
  | nil => simp
  | cons m l ih => simp only [List.length_cons, wt]; omega
theorem wt_mem (xs : List It) : ∀ x ∈ xs, x.s.size ≤ wt xs := by
  induction xs with
  | nil => simp
  | cons m l ih =>
    intro x hx
    rcases List.mem_cons.1 hx with rfl | hx
    · simp only [wt]; omega
    · have := ih x hx; simp only [wt]; omega
theorem iBytes_len (x : It) : (iBytes x).length ≤ 100 + x.s.size := by
  have hs := iSize_ok x
  have ha := ahead_ok (iMost x)
  have hc := iCut_size x
  unfold iBytes
  by_cases h0 : iKind x = 0
  · rw [if_pos h0, byN_len]; omega
  rw [if_neg h0]
  by_cases h1 : iKind x = 1
  · rw [if_pos h1, List.length_append, byN_len, show (iCut x).data.toList.length = (iCut x).size from rfl]; omega
  · rw [if_neg h1, show x.s.data.toList.length = x.s.size from rfl]; omega
theorem allI_len (xs : List It) : (allI xs).length ≤ wt xs := by
  induction xs with
  | nil => simp [allI]
  | cons x l ih =>
    have e : allI (x :: l) = iBytes x ++ allI l := rfl
    have := iBytes_len x
    rw [e, List.length_append]
    simp only [wt]
    omega
theorem allI_snoc (xs : List It) (k : Nat) (x : It) (h : xs[k]? = some x) : allI (xs.take (k + 1)) = allI (xs.take k) ++ iBytes x := by
  unfold allI
  rw [List.take_add_one, h, List.flatMap_append]
  simp
theorem allI_drop (xs : List It) (k : Nat) (x : It) (h : xs[k]? = some x) : allI (xs.drop k) = iBytes x ++ allI (xs.drop (k + 1)) := by
  have hk := (List.getElem?_eq_some_iff.1 h).1
  rw [List.drop_eq_getElem_cons hk, (List.getElem?_eq_some_iff.1 h).2]
  rfl
set_option maxRecDepth 20000 in
set_option maxHeartbeats 2000000 in
theorem weight_any {E : World} {S : Ph} {L : List Hp} (A : Option Addr) (n c : Nat) (xs : List It) (w : World) (hn : n ≤ maxLen) (hr : Rds S 5 enIt A n xs) (hz : ∀ x ∈ xs, x.s.size ≤ 100000000000000000) (h : Own E w (Hp.ro S :: L)) :
    Calls Tryd.prog 35 #[.slice A n c] w fun e w' => Own E w' (Hp.ro S :: L) ∧ ∃ z : Nat, z ≤ 2147483648 ∧ (z ≤ 2147483647 → wt xs ≤ z) ∧ e = .returned (.int .i64 z) := by
  unfold maxLen at hn
  go_enter Tryd.func35, Tryd.ntmps35
  go_wp2_with fail
  go_loopw [3, 4] (fun m i wr => ∃ k j : Nat, k ≤ n ∧ i = .int .i64 k ∧ m = .int .i64 j ∧ j ≤ 2147483648 ∧ (j ≤ 2147483647 → wt (xs.take k) ≤ j) ∧ Own E wr (Hp.ro S :: L)) (fun _ i _ => n - (intOf i).toNat)
  case atStart => exact ⟨0, 0, by omega, rfl, rfl, by omega, by simp [wt], h⟩
  case round =>
    obtain ⟨k, j, hkn, rfl, rfl, hj2, hj, hw⟩ := hrel
    have HWR := Lib.hid hw
    by_cases hlt : k < n
    · by_cases hm : j ≤ 2147483647
      · obtain ⟨x, g, off, hx, rfl, hc⟩ := hr.get hlt
        have ek := wt_snoc xs k x hx
        have hxs := hz x (List.mem_of_getElem? hx)
        have hj' := hj hm
        have HC : Hid (∀ w', Own E w' (Hp.ro S :: L) → w'.cell? ⟨g, off + k * 5 + 4, none⟩ = some (.string x.s)) :=
          Lib.hid fun w' hw' => hw'.rd (hc 4 _ rfl)
        obtain ⟨a, ha⟩ : ∃ a, a = addN j 100 := ⟨_, rfl⟩
        have a1 : a ≤ 2147483648 := by rw [ha]; exact addN_top _ _
        have hfin : addN a x.s.size ≤ 2147483647 → wt (xs.take (k + 1)) ≤ addN a x.s.size := fun hh => by
          have q1 := addN_le a x.s.size hh
          have q2 := addN_small a x.s.size q1
          have q3 := addN_le j 100 (by omega)
          have q4 := addN_small j 100 q3
          rw [ek]
          omega
        have HF := Lib.hid hfin
        have HA := Lib.hid ha
        have hji : (j : Int) ≤ 2147483647 := by omega
        have hki : (k : Int) < n := by omega
        clear ek hx hr hz hj hj' hfin ha hc
        go_wp2_with fail
        refine wp_region_text [6] (fun w' => w'.cell? ⟨g, off + k * 5 + 4, none⟩ = some (.string x.s)) (by kernel_rfl) ?_ (fun hS => ?_)
        · exact HC.out _ hw
        refine wpAnyG_pure (i := 0) (oi := ⟨some 15, _, _, _, _, _⟩) (v := ?_) rfl (by kernel_rfl) (by kernel_rfl) (by kernel_rfl) (by rfl) (fun _ _ _ h => h) (by rfl) ?_ ?_
        rotate_left
        · intro w
          go_simp
          first | done | with_reducible rfl
        try simp only [Act.put, List.setIfInBounds_toArray, List.set_cons_zero, List.set_cons_succ]
        refine wpAnyG_pure (i := 2) (oi := ⟨some 17, _, _, _, _, _⟩) (v := ?_) rfl (by kernel_rfl) (by kernel_rfl) (by kernel_rfl) (by rfl) (fun _ _ _ h => h) (by rfl) ?_ ?_
        rotate_left
        · intro w
          go_simp
          first | done | with_reducible rfl
        try simp only [Act.put, List.setIfInBounds_toArray, List.set_cons_zero, List.set_cons_succ]
        refine wpAnyG_pure (i := 3) (oi := ⟨some 18, _, _, _, _, _⟩) (v := ?_) rfl (by kernel_rfl) (by kernel_rfl) (by kernel_rfl) (by rfl) (fun _ _ _ h => h) (by rfl) ?_ ?_
        rotate_left
        · intro w
          go_simp
          first | done | with_reducible rfl
        try simp only [Act.put, List.setIfInBounds_toArray, List.set_cons_zero, List.set_cons_succ]
        refine wpAnyG_pure (i := 4) (oi := ⟨some 19, _, _, _, _, _⟩) (v := ?_) rfl (by kernel_rfl) (by kernel_rfl) (by kernel_rfl) (by rfl) (fun _ _ _ h => h) (by rfl) ?_ ?_
        rotate_left
        · intro w
          go_simp
          first | done | with_reducible rfl
        try simp only [Act.put, List.setIfInBounds_toArray, List.set_cons_zero, List.set_cons_succ]
        refine wpAnyG_pure (i := 5) (oi := ⟨some 20, _, _, _, _, _⟩) (v := ?_) rfl (by kernel_rfl) (by kernel_rfl) (by kernel_rfl) (by rfl) (fun _ _ _ h => h) (by rfl) ?_ ?_
        rotate_left
        · intro w
          go_simp
          first | done | with_reducible rfl
        try simp only [Act.put, List.setIfInBounds_toArray, List.set_cons_zero, List.set_cons_succ]
        refine wpAnyG_load (i := 6) (oi := ⟨some 21, _, _, _, _, _⟩) (v := ?_) rfl (by kernel_rfl) (by kernel_rfl) (by kernel_rfl) (by rfl) (fun _ _ _ h => h) (by rfl) ?_ (by assumption) ?_
        rotate_left
        · intro w hS
          try dsimp only at hS
          go_simp
          first | done | with_reducible rfl
        try simp only [Act.put, List.setIfInBounds_toArray, List.set_cons_zero, List.set_cons_succ]
        refine wpAnyG_pure (i := 7) (oi := ⟨some 22, _, _, _, _, _⟩) (v := ?_) rfl (by kernel_rfl) (by kernel_rfl) (by kernel_rfl) (by rfl) (fun _ _ _ h => h) (by rfl) ?_ ?_
        rotate_left
        · intro w
          go_simp
          first | done | with_reducible rfl
        try simp only [Act.put, List.setIfInBounds_toArray, List.set_cons_zero, List.set_cons_succ]
        refine wpAnyG_keep (i := 1) (oi := ⟨some 16, _, _, _, _, _⟩) (by kernel_rfl) rfl (fun K hK => ?_)
        rw [if_pos (by rfl)]
        go_simp
        refine (add_any j 100 _ (by omega) (by omega)).mono ?_
        rintro e w1 ⟨rfl, rfl⟩
        rw [← HA.out]
        refine hK.out _ _ ?_ (fun hS => ?_)
        · exact HC.out _ hw
        clear hK K
        try simp only [Act.put, List.setIfInBounds_toArray, List.set_cons_zero, List.set_cons_succ]
        refine wpAnyG_keep (i := 8) (oi := ⟨some 23, _, _, _, _, _⟩) (by kernel_rfl) rfl (fun K hK => ?_)
        rw [if_pos (by rfl)]
        go_simp
        refine (add_any a x.s.size _ (by omega) (by omega)).mono ?_
        rintro e w1 ⟨rfl, rfl⟩
        refine hK.out _ _ ?_ (fun hS => ?_)
        · exact HC.out _ hw
        clear hK K
        try simp only [Act.put, List.setIfInBounds_toArray, List.set_cons_zero, List.set_cons_succ]
        refine wpAnyG_pure (i := 9) (oi := ⟨some 3, _, _, _, _, _⟩) (v := ?_) rfl (by kernel_rfl) (by kernel_rfl) (by kernel_rfl) (by rfl) (fun _ _ _ h => h) (by rfl) ?_ ?_
        rotate_left
        · intro w
          go_simp
          first | done | with_reducible rfl
        try simp only [Act.put, List.setIfInBounds_toArray, List.set_cons_zero, List.set_cons_succ]
        refine wpAnyG_done (by kernel_rfl) ?_ _
        refine NoPanic.normal ?_
        go_wp2_with fail
        go_roundw
        case rel => exact ⟨k + 1, addN a x.s.size, by omega, by go_num, rfl, addN_top _ _, HF.out, HWR.out.drew⟩
        case measure => simp [intOf]; omega
      · have hm' : ¬ (j : Int) ≤ 2147483647 := by omega
        have hki : (k : Int) < n := by omega
        have HJ := Lib.hid (show j ≤ 2147483648 ∧ (j ≤ 2147483647 → wt xs ≤ j) from ⟨hj2, fun hc => absurd hc hm⟩)
        clear hr hz hj hw
        go_wp2_with fail
        go_ret
        exact ⟨HWR.out, j, HJ.out.1, HJ.out.2, rfl⟩
    · obtain rfl : k = n := by omega
      have e0 : xs.take k = xs := List.take_of_length_le (by have := hr.1; omega)
      rw [e0] at hj
      have HJ := Lib.hid hj
      clear hr hz hj e0 hw
      go_wp2_with fail
      go_ret
      exact ⟨HWR.out, j, hj2, HJ.out, rfl⟩
/-- The Reader whose text is a byte short, before what is still to be read. -/
def ShortSt (T R : List UInt8) (s : ByteArray) (e : Int) : Prop := s.size ≤ T.length ∧ (T = [] ∨ e = 22 ∨ (e = 0 ∧ R ≠ [] ∧ s.data.toList = R.dropLast))
/-- The Reader of any text, and what was written of it. -/
def AgainSt (o : ByteArray) (k : Nat) (s : ByteArray) (e : Int) (l : List UInt8) : Prop := s.size ≤ o.size ∧ l.length + s.size ≤ o.size + 8 * k ∧ (e = 0 → o.data.toList = l ++ s.data.toList)
theorem rText_less (s : ByteArray) (e n : Int) : (rText s e n).2.1.size ≤ s.size := by
  by_cases hg : e = 0 ∧ (rText s e n).2.2 = 0
  · unfold rText at hg ⊢
    by_cases h1 : e ≠ 0
    · rw [if_pos h1]; exact Nat.le_refl _
    rw [if_neg h1] at hg ⊢
    by_cases h2 : n < 0 ∨ 65535 < n
    · rw [if_pos h2]; exact Nat.le_refl _
    rw [if_neg h2] at hg ⊢
    by_cases h3 : s.size < ahead n.toNat
    · rw [if_pos h3]; exact Nat.le_refl _
    rw [if_neg h3] at hg ⊢
    by_cases h4 : n.toNat < numL (s.data.toList.take (ahead n.toNat))
    · rw [if_pos h4]; exact Nat.le_refl _
    rw [if_neg h4] at hg ⊢
    by_cases h5 : s.size < ahead n.toNat + numL (s.data.toList.take (ahead n.toNat))
    · rw [if_pos h5]; exact Nat.le_refl _
    rw [if_neg h5]
    show (restB s _).size ≤ _
    rw [rest_size]
    exact Nat.sub_le _ _
  · have := rText_both s e n hg
    omega
theorem rRaw_less (s : ByteArray) (e n : Int) : (rRaw s e n).2.1.size ≤ s.size := by
  unfold rRaw
  by_cases h1 : e ≠ 0
  · rw [if_pos h1]; exact Nat.le_refl _
  rw [if_neg h1]
  by_cases h2 : n < 0
  · rw [if_pos h2]; exact Nat.le_refl _
  rw [if_neg h2]
  by_cases h3 : (s.size : Int) < n
  · rw [if_pos h3]; exact Nat.le_refl _
  rw [if_neg h3]
  show (restB s _).size ≤ _
  rw [rest_size]
  exact Nat.sub_le _ _
theorem iNext_less (x : It) (s : ByteArray) (e : Int) : (iNext x s e).1.size ≤ s.size := by
  unfold iNext
  by_cases h0 : iKind x = 0
  · rw [if_pos h0]; exact rNum_size' s e _
  rw [if_neg h0]
  by_cases h1 : iKind x = 1
  · rw [if_pos h1]; exact rText_less s e _
  · rw [if_neg h1]; exact rRaw_less s e _
theorem short_step (T R : List UInt8) (x : It) (s : ByteArray) (e : Int) (hx : ItOk x) (h : ShortSt T (iBytes x ++ R) s e) : ShortSt T R (iNext x s e).1 (iNext x s e).2 := by
  obtain ⟨h1, h2⟩ := h
  refine ⟨Nat.le_trans (iNext_less x s e) h1, ?_⟩
  rcases h2 with h2 | rfl | ⟨rfl, hne, hs⟩
  · exact .inl h2
  · exact .inr (.inl (by rw [wrong_item x s 22 (by omega)]))
  · by_cases hR : R = []
    · subst hR
      rw [List.append_nil] at hne hs
      have e1 : s = ⟨(iBytes x).dropLast.toArray⟩ := bytes_ext _ _ hs
      rw [e1]
      exact .inr (.inl (short_item x _ ((iBytes x).getLast hne) (List.dropLast_concat_getLast hne).symm))
    · rw [List.dropLast_append_of_ne_nil hR] at hs
      have e1 : s = ⟨(iBytes x ++ R.dropLast).toArray⟩ := bytes_ext _ _ hs
      rw [e1, (back_item x R.dropLast hx.n).1]
      exact .inr (.inr ⟨rfl, hR, rfl⟩)
theorem again_step (o : ByteArray) (k : Nat) (x : It) (s : ByteArray) (e : Int) (l : List UInt8) (h : AgainSt o k s e l) : AgainSt o (k + 1) (iNext x s e).1 (iNext x s e).2 (l ++ iAgain x s e) := by
  obtain ⟨h1, h2, h3⟩ := h
  have hl := again_len x s e
  refine ⟨Nat.le_trans (iNext_less x s e) h1, by rw [List.length_append]; omega, fun he => ?_⟩
  by_cases he0 : e = 0
  · subst he0
    rw [h3 rfl, List.append_assoc]
    congr 1
    exact again_item x s (iNext x s 0).1 (Prod.ext rfl he)
  · rw [wrong_item x s e he0] at he
    exact absurd he he0
set_option maxRecDepth 100000 in
set_option maxHeartbeats 8000000 in
theorem through_any {E : World} {S : Ph} {L : List Hp} (more other : ByteArray) (A : Option Addr) (n c : Nat) (xs : List It) (w : World) (hn : n ≤ maxLen) (hr : Rds S 5 enIt A n xs)
    (hz : ∀ x ∈ xs, x.s.size ≤ 100000000000000000) (hok : ∀ x ∈ xs, ItOk x) (h1 : more.size ≤ 140737488355328) (h2 : other.size ≤ 140737488355328) (hG : Laid0 E (Hp.ro S :: L)) (h : Own E w (Hp.ro S :: L)) :
    Calls Tryd.prog 5 #[.slice A n c, .string more, .string other] w fun e w' => e = .returned (.bool true) ∧ Own E w' (Hp.ro S :: L) := by
  have HR := Lib.hid hr
  have HK := Lib.hid hok
  obtain ⟨D, hD⟩ : ∃ D, D = addN more.size other.size := ⟨_, rfl⟩
  have hD1 : D ≤ 1000000000000000000 := by have := addN_top more.size other.size; omega
  have HD := Lib.hid hD
  have HZ := Lib.hid hz
  have HN := Lib.hid hn
  have o1 : more.size ≤ 1000000000000000000 := by omega
  have o2 : other.size ≤ 1000000000000000000 := by omega
  clear hr hok hD hz hn h1 h2
  go_enter Tryd.func5, Tryd.ntmps5
  go_wp2_with fail
  refine (weight_any A n c xs _ HN.out HR.out HZ.out h).mono ?_
  rintro e w1 ⟨h1, z, hz1, hz2, rfl⟩
  clear h
  have HZ2 := Lib.hid hz2
  clear hz2
  go_wp2_with fail
  refine (weight_any A n c xs _ HN.out HR.out HZ.out h1).mono ?_
  rintro e w2 ⟨h2, y, hy1, -, rfl⟩
  clear h1
  go_wp2_with fail
  refine (add_any z y _ (by omega) (by omega)).mono ?_
  rintro e w3 ⟨rfl, rfl⟩
  obtain ⟨D2, hD2⟩ : ∃ B, B = addN z y := ⟨_, rfl⟩
  have hD21 : D2 ≤ 2147483648 := by rw [hD2]; exact addN_top _ _
  rw [← hD2]
  have HD2 := Lib.hid hD2
  clear hD2
  go_wp2_with fail
  refine (add_any more.size other.size _ o1 o2).mono ?_
  rintro e w3 ⟨rfl, rfl⟩
  rw [← HD.out]
  go_wp2_with fail
  refine (add_any D2 D _ (by omega) hD1).mono ?_
  rintro e w3 ⟨rfl, rfl⟩
  obtain ⟨B, hB⟩ : ∃ B, B = addN D2 D := ⟨_, rfl⟩
  rw [← hB]
  by_cases hc : 2147483647 < B
  · have hci : (2147483647 : Int) < B := by omega
    go_wp2_with fail
    go_ret
    exact ⟨rfl, h2⟩
  have hci : ¬ (2147483647 : Int) < B := by omega
  have hfin : more.size ≤ 2147483647 ∧ other.size ≤ 2147483647 ∧ n ≤ 2147483647 ∧ wt xs ≤ 2147483647 := by
    have e1 := addN_le D2 D (by omega)
    have e2 := addN_le more.size other.size (by rw [← HD.out]; omega)
    have e2b := addN_le z y (by rw [← HD2.out]; omega)
    have e3 := HZ2.out (by omega)
    have e4 := wt_len xs
    have e5 := HR.out.1
    omega
  obtain ⟨q1, q2, q3, q4⟩ := hfin
  have HWT := Lib.hid q4
  clear hB hc o1 o2 hD1 HD HZ2 HZ hz1 HD2 hD21 hy1 q4
  go_wp2_with fail
  refine (awake_any _ h2).mono ?_
  rintro e w3 ⟨rfl, h3⟩
  clear h2
  go_wp2_with fail
  refine (newwriter_any _ h3).mono ?_
  rintro e w4 ⟨bw, rfl, h4⟩
  clear h3
  have H4 := Lib.hid h4
  clear h4
  go_wp2_with fail
  go_loopw [9] (fun i wr => ∃ k : Nat, k ≤ n ∧ i = .int .i64 k ∧ Own E wr (Hp.writer bw .nilIface (allI (xs.take k)) :: Hp.ro S :: L)) (fun i _ => n - (intOf i).toNat)
  case atStart => exact ⟨0, by omega, rfl, H4.out⟩
  case round =>
    obtain ⟨k, hkn, rfl, hw⟩ := hrel
    clear H4
    by_cases hlt : k < n
    · obtain ⟨x, gx, off, hx, rfl, hc⟩ := HR.out.get hlt
      have hxo := HK.out x (List.mem_of_getElem? hx)
      have hrange : wr.rangeAt gx (off + k * 5) (enIt x) := fun j u hu => hw.f1.rd (hc j u hu)
      have HX := Lib.hid (allI_snoc xs k x hx)
      have HLN : Hid ((allI (xs.take k)).length + x.s.size + 70000 ≤ 140737488355328) := Lib.hid (by
        have e1 := allI_len (xs.take k)
        have e2 := wt_le xs k
        have e3 := wt_mem xs x (List.mem_of_getElem? hx)
        have e4 := HWT.out
        omega)
      have HW := Lib.hid hw
      clear hx hc hw
      go_wp2_with (with_reducible refine at_slot (k := some 52) ?_; refine wpList_load_mid (op := ⟨some 52, _, _, _, _, _⟩) rfl ITT _ rfl gx (off + k * 5) rfl (enIt x) _ hrange Tryd.underlying57 rfl (by kernel_rfl) ?_; clear hrange)
      refine (writes_any x bw (allI (xs.take k)) _ hxo HLN.out HW.out).mono ?_
      rintro e w5 ⟨rfl, h5⟩
      rw [← HX.out] at h5
      have H5 := Lib.hid h5
      clear h5
      go_wp2_with fail
      go_roundw
      case rel => exact ⟨k + 1, by omega, by go_num, H5.out⟩
      case measure => simp [intOf]; omega
    · obtain rfl : k = n := by omega
      have e0 : xs.take k = xs := List.take_of_length_le (by have := HR.out.1; omega)
      rw [e0] at hw
      obtain ⟨T, hT⟩ : ∃ T : ByteArray, T = ⟨(allI xs).toArray⟩ := ⟨_, rfl⟩
      have hTd : T.data.toList = allI xs := by rw [hT]
      have hTs : T.size ≤ 2147483647 := by
        rw [hT, bytes_size]
        have e1 := allI_len xs
        have e4 := HWT.out
        omega
      have HT := Lib.hid hT
      have HTD := Lib.hid hTd
      clear e0 hT hTd
      go_wp2_with fail
      refine (wdone_any bw (allI xs) _ hw).mono ?_
      rintro e w5 ⟨rfl, h5⟩
      rw [← HT.out]
      clear hw
      go_wp2_with fail
      refine (newreader_any T _ h5.drop).mono ?_
      rintro e w6 ⟨br, rfl, h6⟩
      clear h5
      go_wp2_with fail
      refine (newreader_any (T ++ more) _ h6.toRdr0).mono ?_
      rintro e w7 ⟨bl, rfl, h7⟩
      have h7b := h7.toRdr0
      clear h6 h7
      obtain ⟨p, hp⟩ : ∃ p, p = T.size - 1 := ⟨_, rfl⟩
      have hmax : (if (T.size : Int) - 1 < 0 then 0 else (T.size : Int) - 1) = (p : Int) := by split <;> omega
      have i3 : (p : Int) ≤ T.size := by omega
      have i4 : (0 : Int) ≤ p := by omega
      have HP := Lib.hid hp
      clear hp
      go_wp2_with fail
      refine (newreader_any (T.extract 0 p) _ h7b).mono ?_
      rintro e w8 ⟨bs, rfl, h8⟩
      have h8b := h8.toRdr0
      clear h7b h8 hmax i3 i4
      go_wp2_with fail
      refine (newreader_any other _ h8b).mono ?_
      rintro e w9 ⟨ba, rfl, h9⟩
      have h9b := h9.toRdr0
      clear h8b h9
      go_wp2_with fail
      refine (newwriter_any _ h9b).mono ?_
      rintro e w10 ⟨bb, rfl, h10⟩
      clear h9b
      have H10 : Hid (Own E w10 (Hp.rdr br ⟨(allI (xs.drop 0)).toArray⟩ 0 :: Hp.rdr bl ⟨(allI (xs.drop 0) ++ more.data.toList).toArray⟩ 0 :: Hp.rdr bs (T.extract 0 p) 0 :: Hp.rdr ba other 0 :: Hp.writer bb .nilIface [] :: Hp.ro S :: L)) := Lib.hid (by
        have e1 : (⟨(allI (xs.drop 0)).toArray⟩ : ByteArray) = T := HT.out.symm
        have e2 : (⟨(allI (xs.drop 0) ++ more.data.toList).toArray⟩ : ByteArray) = T ++ more := by
          refine (bytes_ext _ _ ?_).symm
          rw [app_data, HTD.out]
          rfl
        rw [e1, e2]
        exact h10.ac (by simp only [Hp.all]; ac_rfl))
      have hS0 : ShortSt (allI xs) (allI (xs.drop 0)) (T.extract 0 p) 0 := by
        have hl : (allI xs).length = T.size := by rw [← HTD.out]; rfl
        refine ⟨by rw [hl, ByteArray.size_extract]; omega, ?_⟩
        by_cases hne : allI xs = []
        · exact .inl hne
        · refine .inr (.inr ⟨rfl, hne, ?_⟩)
          show (frontB T p).data.toList = (allI xs).dropLast
          rw [front_data, HTD.out, List.dropLast_eq_take, hl, HP.out]
      have hA0 : AgainSt other 0 other 0 [] := ⟨Nat.le_refl _, by simp, fun _ => rfl⟩
      have HS0 := Lib.hid hS0
      have HA0 := Lib.hid hA0
      clear h10 hS0 hA0
      go_wp2_with fail
      go_loopw [17] (fun i wr => ∃ (j : Nat) (sU : ByteArray) (eU : Int) (sA : ByteArray) (eA : Int) (lB : List UInt8), j ≤ k ∧ i = .int .i64 j ∧ ShortSt (allI xs) (allI (xs.drop j)) sU eU ∧ AgainSt other j sA eA lB ∧ Own E wr (Hp.rdr br ⟨(allI (xs.drop j)).toArray⟩ 0 :: Hp.rdr bl ⟨(allI (xs.drop j) ++ more.data.toList).toArray⟩ 0 :: Hp.rdr bs sU eU :: Hp.rdr ba sA eA :: Hp.writer bb .nilIface lB :: Hp.ro S :: L)) (fun i _ => k - (intOf i).toNat)
      case atStart => exact ⟨0, T.extract 0 p, 0, other, 0, [], by omega, rfl, HS0.out, HA0.out, H10.out⟩
      case round =>
        obtain ⟨j, sU, eU, sA, eA, lB, hjn, rfl, hS, hA, hw⟩ := hrel
        clear H10 HS0 HA0 HP
        have HSS := Lib.hid hS
        have HAA := Lib.hid hA
        clear hS hA
        by_cases hlj : j < k
        · obtain ⟨x, gx, off, hx, rfl, hc⟩ := HR.out.get hlj
          have hxo := HK.out x (List.mem_of_getElem? hx)
          have HC : Hid (∀ w' A0 A1 A2 A3 A4, Own E w' (A0 :: A1 :: A2 :: A3 :: A4 :: Hp.ro S :: L) → w'.rangeAt gx (off + j * 5) (enIt x)) := Lib.hid fun w' A0 A1 A2 A3 A4 hq => fun i u hu => hq.f5.rd (hc i u hu)
          have hdr := allI_drop xs j x hx
          have hS := HSS.out
          rw [hdr] at hw hS
          rw [List.append_assoc] at hw
          obtain ⟨R, hR⟩ : ∃ R, R = allI (xs.drop (j + 1)) := ⟨_, rfl⟩
          rw [← hR] at hw hS
          have hTl : (allI xs).length = T.size := by rw [← HTD.out]; rfl
          have b1 := back_item x R hxo.n
          have b2 := back_item x (R ++ more.data.toList) hxo.n
          have HB1 := Lib.hid b1
          have HB2 := Lib.hid b2
          have HS2 := Lib.hid (short_step _ R x sU eU hxo hS)
          have HA2 := Lib.hid (again_step other j x sA eA lB HAA.out)
          have HZ1 : Hid ((⟨(iBytes x ++ R).toArray⟩ : ByteArray).size ≤ 1000000000000 ∧ (⟨(iBytes x ++ (R ++ more.data.toList)).toArray⟩ : ByteArray).size ≤ 1000000000000) := Lib.hid (by
            have e1 := allI_len (xs.drop j)
            have e2 := wt_app (xs.take j) (xs.drop j)
            rw [List.take_append_drop] at e2
            have e4 := HWT.out
            rw [hdr, ← hR] at e1
            have e5 : more.data.toList.length = more.size := rfl
            rw [bytes_size, bytes_size]
            simp only [List.length_append] at e1 ⊢
            omega)
          have HZ2 : Hid (sU.size ≤ 1000000000000 ∧ sA.size ≤ 1000000000000 ∧ lB.length + sA.size + 70000 ≤ 140737488355328) := Lib.hid (by
            have e1 := hS.1
            have e2 := HAA.out
            have e3 := e2.1
            have e4 := e2.2.1
            omega)
          have hrange := HC.out _ _ _ _ _ _ hw
          have HR2 := Lib.hid hR
          have HW := Lib.hid hw
          clear b1 b2 hS hdr hTl hc hx hw hR
          go_wp2_with (with_reducible refine at_slot (k := some 105) ?_; refine wpList_load_mid (op := ⟨some 105, _, _, _, _, _⟩) rfl ITT _ rfl gx (off + j * 5) rfl (enIt x) _ hrange Tryd.underlying57 rfl (by kernel_rfl) ?_; clear hrange)
          refine (reads_any x br _ 0 _ _ _ hxo HB1.out.1 HZ1.out.1 HW.out).mono ?_
          rintro e v1 ⟨bb1, rfl, ht1, k1⟩
          obtain rfl : bb1 = true := ht1 HB1.out.2
          have hrange := HC.out _ _ _ _ _ _ k1
          have K1 := Lib.hid k1.f1
          clear ht1 k1
          go_wp2_with (with_reducible refine at_slot (k := some 111) ?_; refine wpList_load_mid (op := ⟨some 111, _, _, _, _, _⟩) rfl ITT _ rfl gx (off + j * 5) rfl (enIt x) _ hrange Tryd.underlying57 rfl (by kernel_rfl) ?_; clear hrange)
          refine (reads_any x bl _ 0 _ _ _ hxo HB2.out.1 HZ1.out.2 K1.out).mono ?_
          rintro e v2 ⟨bb2, rfl, ht2, k2⟩
          obtain rfl : bb2 = true := ht2 HB2.out.2
          have hrange := HC.out _ _ _ _ _ _ k2
          have K2 := Lib.hid k2.f2
          clear ht2 k2
          go_wp2_with (with_reducible refine at_slot (k := some 123) ?_; refine wpList_load_mid (op := ⟨some 123, _, _, _, _, _⟩) rfl ITT _ rfl gx (off + j * 5) rfl (enIt x) _ hrange Tryd.underlying57 rfl (by kernel_rfl) ?_; clear hrange)
          refine (reads_any x bs sU eU _ _ _ hxo rfl HZ2.out.1 K2.out).mono ?_
          rintro e v3 ⟨bb3, rfl, -, k3⟩
          have hrange := HC.out _ _ _ _ _ _ k3
          have K3 := Lib.hid (k3.f4.f4)
          clear k3
          go_wp2_with (with_reducible refine at_slot (k := some 129) ?_; refine wpList_load_mid (op := ⟨some 129, _, _, _, _, _⟩) rfl ITT _ rfl gx (off + j * 5) rfl (enIt x) _ hrange Tryd.underlying57 rfl (by kernel_rfl) ?_; clear hrange)
          refine (again_any x ba bb lB sA eA _ _ _ hxo rfl HZ2.out.2.1 HZ2.out.2.2 K3.out).mono ?_
          rintro e v4 ⟨rfl, k4⟩
          have K4 : Hid (Own E v4 (Hp.rdr br ⟨R.toArray⟩ 0 :: Hp.rdr bl ⟨(R ++ more.data.toList).toArray⟩ 0 :: Hp.rdr bs (iNext x sU eU).1 (iNext x sU eU).2 :: Hp.rdr ba (iNext x sA eA).1 (iNext x sA eA).2 :: Hp.writer bb .nilIface (lB ++ iAgain x sA eA) :: Hp.ro S :: L)) := Lib.hid (k4.ac (by simp only [Hp.all]; ac_rfl))
          clear k4
          go_wp2_with fail
          go_roundw
          case rel => exact ⟨j + 1, _, _, _, _, _, by omega, by go_num, by rw [← HR2.out]; exact HS2.out, HA2.out, by rw [← HR2.out]; exact K4.out⟩
          case measure => simp [intOf]; omega
        · obtain rfl : j = k := by omega
          have e0 : xs.drop j = [] := List.drop_of_length_le (by have := HR.out.1; omega)
          have hS := HSS.out
          have hA := HAA.out
          rw [e0] at hw hS
          obtain ⟨tr, htr⟩ : ∃ tr : ByteArray, tr = ⟨(allI ([] : List It)).toArray⟩ := ⟨_, rfl⟩
          have htl : (⟨(allI ([] : List It) ++ more.data.toList).toArray⟩ : ByteArray) = more := rfl
          rw [← htr, htl] at hw
          have z0 : tr.size = 0 := by rw [htr]; rfl
          have hd1 : rDone tr 0 = 0 := by unfold rDone; rw [if_neg (by omega), if_pos z0]
          have hU : T.size = 0 ∨ rDone sU eU = 22 := by
            rcases hS.2 with h0 | rfl | ⟨-, hne, -⟩
            · left
              rw [show T.size = T.data.toList.length from rfl, HTD.out, h0]
              rfl
            · exact .inr rfl
            · exact absurd rfl hne
          have hAny : rDone sA eA = 0 → (⟨lB.toArray⟩ : ByteArray) = other := fun hd => by
            unfold rDone at hd
            by_cases he : eA ≠ 0
            · rw [if_pos he] at hd; exact absurd hd he
            rw [if_neg he] at hd
            by_cases hs : sA.size = 0
            · have e1 := hA.2.2 (Decidable.not_not.1 he)
              have e2 : sA.data.toList = [] := List.eq_nil_of_length_eq_zero hs
              rw [e2, List.append_nil] at e1
              exact (bytes_ext _ _ e1).symm
            · rw [if_neg hs] at hd; cases hd
          have HW := Lib.hid hw
          have HU := Lib.hid hU
          have HAny := Lib.hid hAny
          have HD1 := Lib.hid hd1
          have hz0 : (tr.size : Int) = 0 := by omega
          obtain ⟨d, hd⟩ : ∃ d, d = rDone sA eA := ⟨_, rfl⟩
          obtain ⟨u, hu⟩ : ∃ u, u = rDone sU eU := ⟨_, rfl⟩
          have HDD := Lib.hid hd
          have HUU := Lib.hid hu
          clear e0 hS hA hw htl htr z0 hd1 hU hAny hd hu HSS HAA
          by_cases hm0 : more.size = 0
          · have hme : more = ⟨#[]⟩ := bytes_ext more [] (List.eq_nil_of_length_eq_zero hm0)
            subst hme
            have HM : Hid (rDone (⟨#[]⟩ : ByteArray) 0 = 0) := Lib.hid (by unfold rDone; rw [if_neg (by omega), if_pos hm0])
            clear hm0
            by_cases hT0 : T.size = 0
            · have hTe : T = ⟨#[]⟩ := bytes_ext T [] (List.eq_nil_of_length_eq_zero hT0)
              subst hTe
              go_wp2_with fail
              refine (rdone_all br tr 0 _ hG.cons.cons.cons.cons HW.out).mono ?_
              rintro e y1 ⟨rfl, k1⟩
              rw [HD1.out]
              have K1 := Lib.hid k1
              clear k1
              go_wp2_with fail
              refine (rleft_all br tr 0 _ K1.out).mono ?_
              rintro e y2 ⟨rfl, rfl⟩
              go_wp2_with fail
              refine (rdone_all bl ⟨#[]⟩ 0 _ hG.cons.cons.cons.cons K1.out.f1).mono ?_
              rintro e y2 ⟨rfl, k2⟩
              rw [HM.out]
              have K2 := Lib.hid k2
              clear k2
              go_wp2_with fail
              refine (rleft_all bl ⟨#[]⟩ 0 _ K2.out).mono ?_
              rintro e y3 ⟨rfl, rfl⟩
              go_wp2_with fail
              have K3 := Lib.hid K2.out.f2
              have K4 := Lib.hid K3.out.f4
              refine (wdone_any bb lB _ K4.out).mono ?_
              rintro e y4 ⟨rfl, k5⟩
              have K5 := Lib.hid k5.f4
              clear k5
              go_wp2_with fail
              refine (rdone_all ba sA eA _ hG.cons.cons.cons.cons K5.out).mono ?_
              rintro e y5 ⟨rfl, k6⟩
              rw [← HDD.out]
              have K6 := Lib.hid k6.drop.drop.drop.drop.drop
              clear k6
              by_cases hd0 : d = 0
              · subst hd0
                have hlo := HAny.out HDD.out.symm
                rw [hlo]
                clear hlo
                go_wp2_with fail
                go_ret
                exact ⟨rfl, K6.out⟩
              · have hdb : (d == 0) = false := by rw [beq_eq_false_iff_ne]; exact hd0
                go_wp2_with fail
                go_ret
                exact ⟨rfl, K6.out⟩
            · have hTe := text_some hT0
              have HU22 := Lib.hid (HU.out.resolve_left hT0)
              go_wp2_with fail
              refine (rdone_all br tr 0 _ hG.cons.cons.cons.cons HW.out).mono ?_
              rintro e y1 ⟨rfl, k1⟩
              rw [HD1.out]
              have K1 := Lib.hid k1
              clear k1
              go_wp2_with fail
              refine (rleft_all br tr 0 _ K1.out).mono ?_
              rintro e y2 ⟨rfl, rfl⟩
              go_wp2_with fail
              refine (rdone_all bl ⟨#[]⟩ 0 _ hG.cons.cons.cons.cons K1.out.f1).mono ?_
              rintro e y2 ⟨rfl, k2⟩
              rw [HM.out]
              have K2 := Lib.hid k2
              clear k2
              go_wp2_with fail
              refine (rleft_all bl ⟨#[]⟩ 0 _ K2.out).mono ?_
              rintro e y3 ⟨rfl, rfl⟩
              go_wp2_with fail
              have K3 := Lib.hid K2.out.f2
              refine (rdone_all bs sU eU _ hG.cons.cons.cons.cons K3.out).mono ?_
              rintro e y3 ⟨rfl, k3⟩
              rw [HU22.out]
              have K4 := Lib.hid k3.f4
              clear k3
              go_wp2_with fail
              refine (wdone_any bb lB _ K4.out).mono ?_
              rintro e y4 ⟨rfl, k5⟩
              have K5 := Lib.hid k5.f4
              clear k5
              go_wp2_with fail
              refine (rdone_all ba sA eA _ hG.cons.cons.cons.cons K5.out).mono ?_
              rintro e y5 ⟨rfl, k6⟩
              rw [← HDD.out]
              have K6 := Lib.hid k6.drop.drop.drop.drop.drop
              clear k6
              by_cases hd0 : d = 0
              · subst hd0
                have hlo := HAny.out HDD.out.symm
                rw [hlo]
                clear hlo
                go_wp2_with fail
                go_ret
                exact ⟨rfl, K6.out⟩
              · have hdb : (d == 0) = false := by rw [beq_eq_false_iff_ne]; exact hd0
                go_wp2_with fail
                go_ret
                exact ⟨rfl, K6.out⟩
          · have hme := text_some hm0
            have HM : Hid (rDone more 0 = 23) := Lib.hid (by unfold rDone; rw [if_neg (by omega), if_neg hm0])
            by_cases hT0 : T.size = 0
            · have hTe : T = ⟨#[]⟩ := bytes_ext T [] (List.eq_nil_of_length_eq_zero hT0)
              subst hTe
              go_wp2_with fail
              refine (rdone_all br tr 0 _ hG.cons.cons.cons.cons HW.out).mono ?_
              rintro e y1 ⟨rfl, k1⟩
              rw [HD1.out]
              have K1 := Lib.hid k1
              clear k1
              go_wp2_with fail
              refine (rleft_all br tr 0 _ K1.out).mono ?_
              rintro e y2 ⟨rfl, rfl⟩
              go_wp2_with fail
              refine (rdone_all bl more 0 _ hG.cons.cons.cons.cons K1.out.f1).mono ?_
              rintro e y2 ⟨rfl, k2⟩
              rw [HM.out]
              have K2 := Lib.hid k2
              clear k2
              go_wp2_with fail
              refine (rleft_all bl more 0 _ K2.out).mono ?_
              rintro e y3 ⟨rfl, rfl⟩
              go_wp2_with fail
              have K3 := Lib.hid K2.out.f2
              have K4 := Lib.hid K3.out.f4
              refine (wdone_any bb lB _ K4.out).mono ?_
              rintro e y4 ⟨rfl, k5⟩
              have K5 := Lib.hid k5.f4
              clear k5
              go_wp2_with fail
              refine (rdone_all ba sA eA _ hG.cons.cons.cons.cons K5.out).mono ?_
              rintro e y5 ⟨rfl, k6⟩
              rw [← HDD.out]
              have K6 := Lib.hid k6.drop.drop.drop.drop.drop
              clear k6
              by_cases hd0 : d = 0
              · subst hd0
                have hlo := HAny.out HDD.out.symm
                rw [hlo]
                clear hlo
                go_wp2_with fail
                go_ret
                exact ⟨rfl, K6.out⟩
              · have hdb : (d == 0) = false := by rw [beq_eq_false_iff_ne]; exact hd0
                go_wp2_with fail
                go_ret
                exact ⟨rfl, K6.out⟩
            · have hTe := text_some hT0
              have HU22 := Lib.hid (HU.out.resolve_left hT0)
              go_wp2_with fail
              refine (rdone_all br tr 0 _ hG.cons.cons.cons.cons HW.out).mono ?_
              rintro e y1 ⟨rfl, k1⟩
              rw [HD1.out]
              have K1 := Lib.hid k1
              clear k1
              go_wp2_with fail
              refine (rleft_all br tr 0 _ K1.out).mono ?_
              rintro e y2 ⟨rfl, rfl⟩
              go_wp2_with fail
              refine (rdone_all bl more 0 _ hG.cons.cons.cons.cons K1.out.f1).mono ?_
              rintro e y2 ⟨rfl, k2⟩
              rw [HM.out]
              have K2 := Lib.hid k2
              clear k2
              go_wp2_with fail
              refine (rleft_all bl more 0 _ K2.out).mono ?_
              rintro e y3 ⟨rfl, rfl⟩
              go_wp2_with fail
              have K3 := Lib.hid K2.out.f2
              refine (rdone_all bs sU eU _ hG.cons.cons.cons.cons K3.out).mono ?_
              rintro e y3 ⟨rfl, k3⟩
              rw [HU22.out]
              have K4 := Lib.hid k3.f4
              clear k3
              go_wp2_with fail
              refine (wdone_any bb lB _ K4.out).mono ?_
              rintro e y4 ⟨rfl, k5⟩
              have K5 := Lib.hid k5.f4
              clear k5
              go_wp2_with fail
              refine (rdone_all ba sA eA _ hG.cons.cons.cons.cons K5.out).mono ?_
              rintro e y5 ⟨rfl, k6⟩
              rw [← HDD.out]
              have K6 := Lib.hid k6.drop.drop.drop.drop.drop
              clear k6
              by_cases hd0 : d = 0
              · subst hd0
                have hlo := HAny.out HDD.out.symm
                rw [hlo]
                clear hlo
                go_wp2_with fail
                go_ret
                exact ⟨rfl, K6.out⟩
              · have hdb : (d == 0) = false := by rw [beq_eq_false_iff_ne]; exact hd0
                go_wp2_with fail
                go_ret
                exact ⟨rfl, K6.out⟩
end Go.Proofs.YtokephnlelpjhaaDoor
