/- The reference's Parse and Mint: the same answers. -/
import Derived.Test.YtilcilbmbhbakaaDoorTok5
namespace Go.Proofs.YtilcilbmbhbakaaDoor
open Go.RowKit
theorem byN_mod (k a b : Nat) : byN k (a * 256 ^ k + b) = byN k b := by
  induction k generalizing a b with
  | zero => rfl
  | succ k ih =>
    show UInt8.ofNat ((a * 256 ^ (k + 1) + b) / 256 ^ k) :: byN k (a * 256 ^ (k + 1) + b) = UInt8.ofNat (b / 256 ^ k) :: byN k b
    have e1 : a * 256 ^ (k + 1) + b = (a * 256) * 256 ^ k + b := by rw [Nat.pow_succ, Nat.mul_comm (256 ^ k) 256, ← Nat.mul_assoc]
    rw [e1, ih (a * 256) b]
    congr 1
    rw [Nat.mul_comm (a * 256), Nat.mul_add_div (Nat.pow_pos (by omega))]
    refine UInt8.toNat_inj.1 ?_
    rw [UInt8.toNat_ofNat', UInt8.toNat_ofNat']
    omega
theorem numL_byN (k m : Nat) : numL (byN k m) = m % 256 ^ k := by
  induction k with
  | zero => rw [Nat.pow_zero, Nat.mod_one]; rfl
  | succ k ih =>
    show numL (UInt8.ofNat (m / 256 ^ k) :: byN k m) = _
    have e := Nat.mod_pow_succ (x := m) (b := 256) (k := k)
    rw [numL_cons, byN_len, ih, UInt8.toNat_ofNat', e, Nat.mul_comm, Nat.add_comm]
theorem byN_numL (l : List UInt8) : byN l.length (numL l) = l := by
  induction l with
  | nil => rfl
  | cons c m ih =>
    rw [numL_cons]
    show UInt8.ofNat ((c.toNat * 256 ^ m.length + numL m) / 256 ^ m.length) :: byN m.length (c.toNat * 256 ^ m.length + numL m) = c :: m
    rw [byN_mod, ih, Nat.mul_comm, Nat.mul_add_div (Nat.pow_pos (by omega)), Nat.div_eq_of_lt (numL_lt m), Nat.add_zero]
    congr 1
    exact UInt8.ofNat_toNat
theorem laid_iff (k : Int) (b : List UInt8) (hb : b.length = 36) : b = laidT k (numL (b.take 8)) ((b.drop 8).take 24) ↔ b.drop 32 = byN 4 (Crc.crc ((pfx k).data.toList ++ b.take 32)).toNat := by
  have h8 : byN 8 (numL (b.take 8)) = b.take 8 := by
    have h := byN_numL (b.take 8)
    rw [List.length_take, hb] at h
    exact h
  have hf : frontT (numL (b.take 8)) ((b.drop 8).take 24) = b.take 32 := by
    unfold frontT
    rw [h8]
    have h := List.take_append_drop 8 (b.take 32)
    rw [List.take_take, List.drop_take] at h
    exact h
  unfold laidT
  rw [hf]
  constructor
  · intro h
    have h2 := List.take_append_drop 32 b
    rw [← h2] at h
    have h3 : (b.take 32 ++ b.drop 32).take 32 = b.take 32 := by rw [h2]
    rw [h3] at h
    exact List.append_cancel_left h
  · intro h
    rw [← h, List.take_append_drop]
section
variable {E : World} {L : List Hp}
set_option maxRecDepth 100000 in
set_option maxHeartbeats 4000000 in
theorem xparse_any (k : Int) (s : ByteArray) (id : Int) (v : ByteArray) (c : Int) (w : World) (hr : parseV k s = (id, v, c)) (h : Own E w L) :
    Calls Tryd.prog 9 #[.int .i64 k, .string s] w fun ev w' => ev = .returned (.tuple #[.int .i64 id, .string v, .int .i64 c]) ∧ Own E w' L := by
  unfold parseV at hr
  by_cases hkk : k ≠ 1 ∧ k ≠ 2
  · rw [if_pos hkk] at hr
    cases hr
    have e0 := pfx_none k hkk
    clear hkk
    go_enter Tryd.func9, Tryd.ntmps9
    go_wp2_with fail
    refine (xprefix_any k _).mono ?_
    rintro e w1 ⟨rfl, rfl⟩
    rw [e0]
    go_wp2_with fail
    go_ret3
    exact ⟨rfl, h⟩
  rw [if_neg hkk] at hr
  have hw3 : IntKind.i64.wrap (3 - k) = 3 - k := IntWalk.i64_in _ (by omega)
  have hp4 := pfx_four k hkk
  obtain ⟨p, hp⟩ : ∃ p, p = pfx k := ⟨_, rfl⟩
  rw [← hp] at hp4
  have hpe : p.toList.isEmpty = false := text_some (by omega)
  have HP := Lib.hid hp
  have H := Lib.hid h
  by_cases ho : begins s (pfx (3 - k))
  · have er : readT k s = (0, ⟨#[]⟩, 170) := by unfold readT; rw [if_pos ho]
    rw [er] at hr
    cases hr
    have HO := Lib.hid ho
    clear er ho h hp hkk
    go_enter Tryd.func9, Tryd.ntmps9
    go_wp2_with fail
    refine (xprefix_any k _).mono ?_
    rintro e w1 ⟨rfl, rfl⟩
    rw [← HP.out]
    go_wp2_with fail
    refine (xprefix_any (3 - k) _).mono ?_
    rintro e w1 ⟨rfl, rfl⟩
    go_wp2_with fail
    refine (xbegins_any s (pfx (3 - k)) _).mono ?_
    rintro e w1 ⟨rfl, hhas⟩
    obtain rfl : e = .returned (.bool true) := by
      rcases hhas with ⟨hb, rfl⟩ | ⟨hb, rfl⟩
      · exact rfl
      · exact absurd HO.out hb
    clear hhas
    go_wp2_with fail
    go_ret3
    exact ⟨rfl, H.out⟩
  have HO := Lib.hid ho
  by_cases hsz : s.size ≠ 52
  · have er : readT k s = (0, ⟨#[]⟩, 171) := by unfold readT; rw [if_neg ho, if_pos (.inl hsz)]
    rw [er] at hr
    cases hr
    have hszi : ((s.size : Int) != 52) = true := by rw [bne_iff_ne]; omega
    clear er ho h hp hkk hsz
    go_enter Tryd.func9, Tryd.ntmps9
    go_wp2_with fail
    refine (xprefix_any k _).mono ?_
    rintro e w1 ⟨rfl, rfl⟩
    rw [← HP.out]
    go_wp2_with fail
    refine (xprefix_any (3 - k) _).mono ?_
    rintro e w1 ⟨rfl, rfl⟩
    go_wp2_with fail
    refine (xbegins_any s (pfx (3 - k)) _).mono ?_
    rintro e w1 ⟨rfl, hhas⟩
    obtain rfl : e = .returned (.bool false) := by
      rcases hhas with ⟨hb, rfl⟩ | ⟨hb, rfl⟩
      · exact absurd hb HO.out
      · exact rfl
    clear hhas
    go_wp2_with fail
    refine (xbegins_any s p _).mono ?_
    rintro e w1 ⟨rfl, hm⟩
    obtain ⟨bb, rfl⟩ : ∃ bb, e = .returned (.bool bb) := by
      rcases hm with ⟨-, rfl⟩ | ⟨-, rfl⟩
      · exact ⟨_, rfl⟩
      · exact ⟨_, rfl⟩
    clear hm
    go_wp2_with fail
    go_ret3
    exact ⟨rfl, H.out⟩
  have hs52 : s.size = 52 := Decidable.not_not.1 hsz
  have hsi : (s.size : Int) = 52 := by omega
  by_cases hmine : ¬ begins s p
  · have er : readT k s = (0, ⟨#[]⟩, 171) := by unfold readT; rw [if_neg ho, if_pos (.inr (by rw [← hp]; exact hmine))]
    rw [er] at hr
    cases hr
    have HMINE := Lib.hid hmine
    clear er ho h hp hkk hsz hmine
    go_enter Tryd.func9, Tryd.ntmps9
    go_wp2_with fail
    refine (xprefix_any k _).mono ?_
    rintro e w1 ⟨rfl, rfl⟩
    rw [← HP.out]
    go_wp2_with fail
    refine (xprefix_any (3 - k) _).mono ?_
    rintro e w1 ⟨rfl, rfl⟩
    go_wp2_with fail
    refine (xbegins_any s (pfx (3 - k)) _).mono ?_
    rintro e w1 ⟨rfl, hhas⟩
    obtain rfl : e = .returned (.bool false) := by
      rcases hhas with ⟨hb, rfl⟩ | ⟨hb, rfl⟩
      · exact absurd hb HO.out
      · exact rfl
    clear hhas
    go_wp2_with fail
    refine (xbegins_any s p _).mono ?_
    rintro e w1 ⟨rfl, hm⟩
    obtain rfl : e = .returned (.bool false) := by
      rcases hm with ⟨hb, rfl⟩ | ⟨hb, rfl⟩
      · exact absurd hb HMINE.out
      · exact rfl
    clear hm
    go_wp2_with fail
    go_ret3
    exact ⟨rfl, H.out⟩
  have HMINE := Lib.hid (Decidable.not_not.1 hmine)
  have er0 : readT k s = match fromS namesB.data.toList (s.data.toList.drop 4) with
    | none => (0, ⟨#[]⟩, 171)
    | some b =>
      if numL (b.take 8) < 1 ∨ 4611686018427387904 < numL (b.take 8) then (0, ⟨#[]⟩, 171)
      else if b = laidT k (numL (b.take 8)) ((b.drop 8).take 24) then ((numL (b.take 8) : Nat), ⟨((b.drop 8).take 24).toArray⟩, 0) else (0, ⟨#[]⟩, 172) := by
    unfold readT
    rw [if_neg ho, if_neg (by rintro (hc | hc); exact hsz hc; exact hmine (by rw [hp]; exact hc))]
    rfl
  have hrd := rest_data s 4
  have hrs := rest_size s 4
  obtain ⟨r, hrr⟩ : ∃ r, r = restB s 4 := ⟨_, rfl⟩
  rw [← hrr] at hrd hrs
  rw [← hrd] at er0
  have HRR : Hid (s.extract 4 52 = r) := Lib.hid (by rw [hrr]; unfold restB; rw [hs52])
  have HRS : Hid (r.size ≤ 10000000000000) := Lib.hid (by omega)
  have hrlen : r.data.toList.length = 48 := by show r.size = 48; omega
  have hp4i : (p.size : Int) = 4 := by omega
  rw [er0] at hr
  clear hrr hrd hrs er0
  cases hfs : fromS namesB.data.toList r.data.toList with
  | none =>
    rw [hfs] at hr
    cases hr
    have HFS := Lib.hid hfs
    have hrv : readV none = .tuple #[.string ⟨#[]⟩, .int .i64 24] := rfl
    clear ho h hp hkk hsz hmine hfs hrlen
    go_enter Tryd.func9, Tryd.ntmps9
    go_wp2_with fail
    refine (xprefix_any k _).mono ?_
    rintro e w1 ⟨rfl, rfl⟩
    rw [← HP.out]
    go_wp2_with fail
    refine (xprefix_any (3 - k) _).mono ?_
    rintro e w1 ⟨rfl, rfl⟩
    go_wp2_with fail
    refine (xbegins_any s (pfx (3 - k)) _).mono ?_
    rintro e w1 ⟨rfl, hhas⟩
    obtain rfl : e = .returned (.bool false) := by
      rcases hhas with ⟨hb, rfl⟩ | ⟨hb, rfl⟩
      · exact absurd hb HO.out
      · exact rfl
    clear hhas
    go_wp2_with fail
    refine (xbegins_any s p _).mono ?_
    rintro e w1 ⟨rfl, hm⟩
    obtain rfl : e = .returned (.bool true) := by
      rcases hm with ⟨hb, rfl⟩ | ⟨hb, rfl⟩
      · exact rfl
      · exact absurd HMINE.out hb
    clear hm
    go_wp2_with fail
    rw [HRR.out]
    refine (reffrombase64_any r _ HRS.out H.out).mono ?_
    rintro e w2 ⟨rfl, h2⟩
    rw [HFS.out, hrv]
    go_wp2_with fail
    go_ret3
    exact ⟨rfl, h2⟩
  | some b =>
    rw [hfs] at hr
    dsimp only at hr
    have hbl : b.length = 36 := by
      have e1 := ((fromS_some _ _ _).1 hfs).2
      have e2 := congrArg List.length e1
      rw [Six.enc_len, hrlen] at e2
      omega
    have hiff := laid_iff k b hbl
    obtain ⟨B, hB⟩ : ∃ B : ByteArray, B = ⟨b.toArray⟩ := ⟨_, rfl⟩
    have hBd : B.data.toList = b := by rw [hB]
    have hBs : B.size = 36 := by show B.data.toList.length = 36; rw [hBd, hbl]
    have hBsi : (B.size : Int) = 36 := by omega
    have HRV : Hid (readV (fromS namesB.data.toList r.data.toList) = .tuple #[.string B, .int .i64 0]) := Lib.hid (by rw [hfs, hB]; rfl)
    have f8d := front_data B 8
    have f8s := front_size B 8 (by omega)
    have f32d := front_data B 32
    have f32s := front_size B 32 (by omega)
    have t4d := rest_data B 32
    rw [hBd] at f8d f32d t4d
    have e24 : B.extract 8 32 = ⟨((b.drop 8).take 24).toArray⟩ := bytes_ext _ _ (by
      rw [Lib.extract_data, hBd])
    obtain ⟨F8, hF8⟩ : ∃ x, x = B.extract 0 8 := ⟨_, rfl⟩
    obtain ⟨F32, hF32⟩ : ∃ x, x = B.extract 0 32 := ⟨_, rfl⟩
    obtain ⟨T4, hT4⟩ : ∃ x, x = B.extract 32 36 := ⟨_, rfl⟩
    obtain ⟨S24, hS24⟩ : ∃ x, x = B.extract 8 32 := ⟨_, rfl⟩
    have hT4r : T4 = restB B 32 := by rw [hT4]; unfold restB; rw [hBs]
    rw [← hT4r] at t4d
    rw [show frontB B 8 = F8 from hF8.symm] at f8d f8s
    rw [show frontB B 32 = F32 from hF32.symm] at f32d f32s
    rw [← hS24] at e24
    rw [← e24] at hr
    have HF8 := Lib.hid hF8
    have HF32 := Lib.hid hF32
    have HT4 := Lib.hid hT4
    have HS24 := Lib.hid hS24
    have hid8 : idV F8.data.toList = if numL (b.take 8) < 1 ∨ 4611686018427387904 < numL (b.take 8) then 0 else numL (b.take 8) := by
      unfold idV
      rw [f8d]
      split <;> split <;> omega
    obtain ⟨n, hn⟩ : ∃ n, n = numL (b.take 8) := ⟨_, rfl⟩
    rw [← hn] at hid8 hr hiff
    have hc : ¬ 9223372036854775807 < p.size + F32.size := by omega
    obtain ⟨X, hX⟩ : ∃ X : ByteArray, X = ⟨(byN 4 (Crc.crc (p ++ F32).data.toList).toNat).toArray⟩ := ⟨_, rfl⟩
    have HX := Lib.hid hX
    have hTX : T4 = X ↔ b = laidT k n ((b.drop 8).take 24) := by
      rw [hiff, ← t4d, ← hp, ← f32d, ← app_data]
      constructor
      · intro e
        rw [e, hX]
      · intro e
        rw [hX]
        exact bytes_ext _ _ e
    have HZ : Hid ((p ++ F32).size ≤ 1000000000000) := Lib.hid (by rw [ByteArray.size_append]; omega)
    have HF8S : Hid (F8.size ≤ 8) := Lib.hid (by omega)
    by_cases hbad : n < 1 ∨ 4611686018427387904 < n
    · rw [if_pos hbad] at hr
      cases hr
      have HI : Hid (idV F8.data.toList = 0) := Lib.hid (by rw [hid8, if_pos hbad])
      clear ho h hp hkk hsz hmine hfs hrlen hiff hB hBd f8d f32d t4d f8s e24 hF8 hF32 hT4 hS24 hT4r hid8 hn hX hTX hbad
      go_enter Tryd.func9, Tryd.ntmps9
      go_wp2_with fail
      refine (xprefix_any k _).mono ?_
      rintro e w1 ⟨rfl, rfl⟩
      rw [← HP.out]
      go_wp2_with fail
      refine (xprefix_any (3 - k) _).mono ?_
      rintro e w1 ⟨rfl, rfl⟩
      go_wp2_with fail
      refine (xbegins_any s (pfx (3 - k)) _).mono ?_
      rintro e w1 ⟨rfl, hhas⟩
      obtain rfl : e = .returned (.bool false) := by
        rcases hhas with ⟨hb, rfl⟩ | ⟨hb, rfl⟩
        · exact absurd hb HO.out
        · exact rfl
      clear hhas
      go_wp2_with fail
      refine (xbegins_any s p _).mono ?_
      rintro e w1 ⟨rfl, hm⟩
      obtain rfl : e = .returned (.bool true) := by
        rcases hm with ⟨hb, rfl⟩ | ⟨hb, rfl⟩
        · exact rfl
        · exact absurd HMINE.out hb
      clear hm
      go_wp2_with fail
      rw [HRR.out]
      refine (reffrombase64_any r _ HRS.out H.out).mono ?_
      rintro e w2 ⟨rfl, h2⟩
      rw [HRV.out]
      go_wp2_with fail
      rw [← HF8.out]
      refine (xid_any F8 _ HF8S.out).mono ?_
      rintro e w3 ⟨rfl, rfl⟩
      rw [HI.out]
      go_wp2_with fail
      go_ret3
      exact ⟨rfl, h2⟩
    rw [if_neg hbad] at hr
    have HI : Hid (idV F8.data.toList = n) := Lib.hid (by rw [hid8, if_neg hbad])
    have hn0 : ((n : Int) == 0) = false := by rw [beq_eq_false_iff_ne]; omega
    by_cases heq : b = laidT k n ((b.drop 8).take 24)
    · rw [if_pos heq] at hr
      cases hr
      have hEQ := hTX.2 heq
      have HEQ := Lib.hid hEQ
      clear ho h hp hkk hsz hmine hfs hrlen hiff hB hBd f8d f32d t4d f8s e24 hF8 hF32 hT4 hS24 hT4r hid8 hn hX hTX hbad heq hEQ
      go_enter Tryd.func9, Tryd.ntmps9
      go_wp2_with fail
      refine (xprefix_any k _).mono ?_
      rintro e w1 ⟨rfl, rfl⟩
      rw [← HP.out]
      go_wp2_with fail
      refine (xprefix_any (3 - k) _).mono ?_
      rintro e w1 ⟨rfl, rfl⟩
      go_wp2_with fail
      refine (xbegins_any s (pfx (3 - k)) _).mono ?_
      rintro e w1 ⟨rfl, hhas⟩
      obtain rfl : e = .returned (.bool false) := by
        rcases hhas with ⟨hb, rfl⟩ | ⟨hb, rfl⟩
        · exact absurd hb HO.out
        · exact rfl
      clear hhas
      go_wp2_with fail
      refine (xbegins_any s p _).mono ?_
      rintro e w1 ⟨rfl, hm⟩
      obtain rfl : e = .returned (.bool true) := by
        rcases hm with ⟨hb, rfl⟩ | ⟨hb, rfl⟩
        · exact rfl
        · exact absurd HMINE.out hb
      clear hm
      go_wp2_with fail
      rw [HRR.out]
      refine (reffrombase64_any r _ HRS.out H.out).mono ?_
      rintro e w2 ⟨rfl, h2⟩
      rw [HRV.out]
      go_wp2_with fail
      rw [← HF8.out]
      refine (xid_any F8 _ HF8S.out).mono ?_
      rintro e w3 ⟨rfl, rfl⟩
      rw [HI.out]
      go_wp2_with fail
      refine wp_region_text [] (fun _ => True) (by kernel_rfl) ?_ (fun hS => ?_)
      · trivial
      refine wpAnyG_pure (i := 0) (oi := ⟨some 53, _, _, _, _, _⟩) (v := ?_) rfl (by kernel_rfl) (by kernel_rfl) (by kernel_rfl) (by rfl) (fun _ _ _ h => h) (by rfl) ?_ ?_
      rotate_left
      · intro w
        go_simp
        first | done | with_reducible rfl
      try simp only [Act.put, List.setIfInBounds_toArray, List.set_cons_zero, List.set_cons_succ]
      refine wpAnyG_pure (i := 1) (oi := ⟨some 54, _, _, _, _, _⟩) (v := ?_) rfl (by kernel_rfl) (by kernel_rfl) (by kernel_rfl) (by rfl) (fun _ _ _ h => h) (by rfl) ?_ ?_
      rotate_left
      · intro w
        go_simp
        first | done | with_reducible rfl
      try simp only [Act.put, List.setIfInBounds_toArray, List.set_cons_zero, List.set_cons_succ]
      refine wpAnyG_pure (i := 2) (oi := ⟨some 55, _, _, _, _, _⟩) (v := ?_) rfl (by kernel_rfl) (by kernel_rfl) (by kernel_rfl) (by rfl) (fun _ _ _ h => h) (by rfl) ?_ ?_
      rotate_left
      · intro w
        go_simp
        first | done | with_reducible rfl
      try simp only [Act.put, List.setIfInBounds_toArray, List.set_cons_zero, List.set_cons_succ]
      refine wpAnyG_pure (i := 3) (oi := ⟨some 56, _, _, _, _, _⟩) (v := ?_) rfl (by kernel_rfl) (by kernel_rfl) (by kernel_rfl) (by rfl) (fun _ _ _ h => h) (by rfl) ?_ ?_
      rotate_left
      · intro w
        go_simp
        first | done | with_reducible rfl
      try simp only [Act.put, List.setIfInBounds_toArray, List.set_cons_zero, List.set_cons_succ]
      refine wpAnyG_pure (i := 4) (oi := ⟨some 57, _, _, _, _, _⟩) (v := ?_) rfl (by kernel_rfl) (by kernel_rfl) (by kernel_rfl) (by rfl) (fun _ _ _ h => h) (by rfl) ?_ ?_
      rotate_left
      · intro w
        go_simp
        first | done | with_reducible rfl
      try simp only [Act.put, List.setIfInBounds_toArray, List.set_cons_zero, List.set_cons_succ]
      refine wpAnyG_pure (i := 5) (oi := ⟨some 58, _, _, _, _, _⟩) (v := ?_) rfl (by kernel_rfl) (by kernel_rfl) (by kernel_rfl) (by rfl) (fun _ _ _ h => h) (by rfl) ?_ ?_
      rotate_left
      · intro w
        go_simp
        first | done | with_reducible rfl
      try simp only [Act.put, List.setIfInBounds_toArray, List.set_cons_zero, List.set_cons_succ]
      refine wpAnyG_keep (i := 6) (oi := ⟨some 59, _, _, _, _, _⟩) (by kernel_rfl) rfl (fun K hK => ?_)
      rw [if_pos (by rfl)]
      go_simp
      rw [← HF32.out]
      refine (xcheck_any (p ++ F32) _ HZ.out h2.drew).mono ?_
      rintro e w4 ⟨rfl, h4⟩
      rw [← HX.out, ← HEQ.out, HT4.out]
      refine hK.out _ _ ?_ (fun hS => ?_)
      · trivial
      clear hK K
      try simp only [Act.put, List.setIfInBounds_toArray, List.set_cons_zero, List.set_cons_succ]
      refine wpAnyG_pure (i := 7) (oi := ⟨some 60, _, _, _, _, _⟩) (v := ?_) rfl (by kernel_rfl) (by kernel_rfl) (by kernel_rfl) (by rfl) (fun _ _ _ h => h) (by rfl) ?_ ?_
      rotate_left
      · intro w
        go_simp
        first | done | with_reducible rfl
      try simp only [Act.put, List.setIfInBounds_toArray, List.set_cons_zero, List.set_cons_succ]
      refine wpAnyG_done (by kernel_rfl) ?_ _
      refine NoPanic.normal ?_
      go_wp2_with fail
      refine wp_region_text [] (fun _ => True) (by kernel_rfl) ?_ (fun hS => ?_)
      · trivial
      refine wpAnyG_pure (i := 0) (oi := ⟨some 61, _, _, _, _, _⟩) (v := ?_) rfl (by kernel_rfl) (by kernel_rfl) (by kernel_rfl) (by rfl) (fun _ _ _ h => h) (by rfl) ?_ ?_
      rotate_left
      · intro w
        go_simp
        first | done | with_reducible rfl
      try simp only [Act.put, List.setIfInBounds_toArray, List.set_cons_zero, List.set_cons_succ]
      refine wpAnyG_pure (i := 1) (oi := ⟨some 62, _, _, _, _, _⟩) (v := ?_) rfl (by kernel_rfl) (by kernel_rfl) (by kernel_rfl) (by rfl) (fun _ _ _ h => h) (by rfl) ?_ ?_
      rotate_left
      · intro w
        go_simp
        first | done | with_reducible rfl
      try simp only [Act.put, List.setIfInBounds_toArray, List.set_cons_zero, List.set_cons_succ]
      refine wpAnyG_pure (i := 2) (oi := ⟨some 63, _, _, _, _, _⟩) (v := ?_) rfl (by kernel_rfl) (by kernel_rfl) (by kernel_rfl) (by rfl) (fun _ _ _ h => h) (by rfl) ?_ ?_
      rotate_left
      · intro w
        go_simp
        first | done | with_reducible rfl
      try simp only [Act.put, List.setIfInBounds_toArray, List.set_cons_zero, List.set_cons_succ]
      refine wpAnyG_pure (i := 3) (oi := ⟨some 4, _, _, _, _, _⟩) (v := ?_) rfl (by kernel_rfl) (by kernel_rfl) (by kernel_rfl) (by rfl) (fun _ _ _ h => h) (by rfl) ?_ ?_
      rotate_left
      · intro w
        go_simp
        first | done | with_reducible rfl
      try simp only [Act.put, List.setIfInBounds_toArray, List.set_cons_zero, List.set_cons_succ]
      refine wpAnyG_pure (i := 4) (oi := ⟨some 5, _, _, _, _, _⟩) (v := ?_) rfl (by kernel_rfl) (by kernel_rfl) (by kernel_rfl) (by rfl) (fun _ _ _ h => h) (by rfl) ?_ ?_
      rotate_left
      · intro w
        go_simp
        first | done | with_reducible rfl
      try simp only [Act.put, List.setIfInBounds_toArray, List.set_cons_zero, List.set_cons_succ]
      refine wpAnyG_pure (i := 5) (oi := ⟨some 6, _, _, _, _, _⟩) (v := ?_) rfl (by kernel_rfl) (by kernel_rfl) (by kernel_rfl) (by rfl) (fun _ _ _ h => h) (by rfl) ?_ ?_
      rotate_left
      · intro w
        go_simp
        first | done | with_reducible rfl
      try simp only [Act.put, List.setIfInBounds_toArray, List.set_cons_zero, List.set_cons_succ]
      refine wpAnyG_done (by kernel_rfl) ?_ _
      refine NoPanic.normal ?_
      go_wp2_with fail
      go_ret3
      exact ⟨by rw [HS24.out]; rfl, h4.drew.drew⟩
    · rw [if_neg heq] at hr
      cases hr
      have hne : ((B.extract 32 36).toList == X.toList) = false := by
        rw [← hT4, Bool.eq_false_iff]
        exact fun e => heq (hTX.1 ((str_iff _ _).1 e))
      have HNE := Lib.hid hne
      clear ho h hp hkk hsz hmine hfs hrlen hiff hB hBd f8d f32d t4d f8s e24 hF8 hF32 hT4 hS24 hT4r hid8 hn hX hTX hbad heq hne
      go_enter Tryd.func9, Tryd.ntmps9
      go_wp2_with fail
      refine (xprefix_any k _).mono ?_
      rintro e w1 ⟨rfl, rfl⟩
      rw [← HP.out]
      go_wp2_with fail
      refine (xprefix_any (3 - k) _).mono ?_
      rintro e w1 ⟨rfl, rfl⟩
      go_wp2_with fail
      refine (xbegins_any s (pfx (3 - k)) _).mono ?_
      rintro e w1 ⟨rfl, hhas⟩
      obtain rfl : e = .returned (.bool false) := by
        rcases hhas with ⟨hb, rfl⟩ | ⟨hb, rfl⟩
        · exact absurd hb HO.out
        · exact rfl
      clear hhas
      go_wp2_with fail
      refine (xbegins_any s p _).mono ?_
      rintro e w1 ⟨rfl, hm⟩
      obtain rfl : e = .returned (.bool true) := by
        rcases hm with ⟨hb, rfl⟩ | ⟨hb, rfl⟩
        · exact rfl
        · exact absurd HMINE.out hb
      clear hm
      go_wp2_with fail
      rw [HRR.out]
      refine (reffrombase64_any r _ HRS.out H.out).mono ?_
      rintro e w2 ⟨rfl, h2⟩
      rw [HRV.out]
      go_wp2_with fail
      rw [← HF8.out]
      refine (xid_any F8 _ HF8S.out).mono ?_
      rintro e w3 ⟨rfl, rfl⟩
      rw [HI.out]
      go_wp2_with fail
      have hne := HNE.out
      refine wp_region_text [] (fun _ => True) (by kernel_rfl) ?_ (fun hS => ?_)
      · trivial
      refine wpAnyG_pure (i := 0) (oi := ⟨some 53, _, _, _, _, _⟩) (v := ?_) rfl (by kernel_rfl) (by kernel_rfl) (by kernel_rfl) (by rfl) (fun _ _ _ h => h) (by rfl) ?_ ?_
      rotate_left
      · intro w
        go_simp
        first | done | with_reducible rfl
      try simp only [Act.put, List.setIfInBounds_toArray, List.set_cons_zero, List.set_cons_succ]
      refine wpAnyG_pure (i := 1) (oi := ⟨some 54, _, _, _, _, _⟩) (v := ?_) rfl (by kernel_rfl) (by kernel_rfl) (by kernel_rfl) (by rfl) (fun _ _ _ h => h) (by rfl) ?_ ?_
      rotate_left
      · intro w
        go_simp
        first | done | with_reducible rfl
      try simp only [Act.put, List.setIfInBounds_toArray, List.set_cons_zero, List.set_cons_succ]
      refine wpAnyG_pure (i := 2) (oi := ⟨some 55, _, _, _, _, _⟩) (v := ?_) rfl (by kernel_rfl) (by kernel_rfl) (by kernel_rfl) (by rfl) (fun _ _ _ h => h) (by rfl) ?_ ?_
      rotate_left
      · intro w
        go_simp
        first | done | with_reducible rfl
      try simp only [Act.put, List.setIfInBounds_toArray, List.set_cons_zero, List.set_cons_succ]
      refine wpAnyG_pure (i := 3) (oi := ⟨some 56, _, _, _, _, _⟩) (v := ?_) rfl (by kernel_rfl) (by kernel_rfl) (by kernel_rfl) (by rfl) (fun _ _ _ h => h) (by rfl) ?_ ?_
      rotate_left
      · intro w
        go_simp
        first | done | with_reducible rfl
      try simp only [Act.put, List.setIfInBounds_toArray, List.set_cons_zero, List.set_cons_succ]
      refine wpAnyG_pure (i := 4) (oi := ⟨some 57, _, _, _, _, _⟩) (v := ?_) rfl (by kernel_rfl) (by kernel_rfl) (by kernel_rfl) (by rfl) (fun _ _ _ h => h) (by rfl) ?_ ?_
      rotate_left
      · intro w
        go_simp
        first | done | with_reducible rfl
      try simp only [Act.put, List.setIfInBounds_toArray, List.set_cons_zero, List.set_cons_succ]
      refine wpAnyG_pure (i := 5) (oi := ⟨some 58, _, _, _, _, _⟩) (v := ?_) rfl (by kernel_rfl) (by kernel_rfl) (by kernel_rfl) (by rfl) (fun _ _ _ h => h) (by rfl) ?_ ?_
      rotate_left
      · intro w
        go_simp
        first | done | with_reducible rfl
      try simp only [Act.put, List.setIfInBounds_toArray, List.set_cons_zero, List.set_cons_succ]
      refine wpAnyG_keep (i := 6) (oi := ⟨some 59, _, _, _, _, _⟩) (by kernel_rfl) rfl (fun K hK => ?_)
      rw [if_pos (by rfl)]
      go_simp
      rw [← HF32.out]
      refine (xcheck_any (p ++ F32) _ HZ.out h2.drew).mono ?_
      rintro e w4 ⟨rfl, h4⟩
      rw [← HX.out]
      refine hK.out _ _ ?_ (fun hS => ?_)
      · trivial
      clear hK K
      try simp only [Act.put, List.setIfInBounds_toArray, List.set_cons_zero, List.set_cons_succ]
      refine wpAnyG_pure (i := 7) (oi := ⟨some 60, _, _, _, _, _⟩) (v := ?_) rfl (by kernel_rfl) (by kernel_rfl) (by kernel_rfl) (by rfl) (fun _ _ _ h => h) (by rfl) ?_ ?_
      rotate_left
      · intro w
        go_simp
        first | done | with_reducible rfl
      try simp only [Act.put, List.setIfInBounds_toArray, List.set_cons_zero, List.set_cons_succ]
      refine wpAnyG_done (by kernel_rfl) ?_ _
      refine NoPanic.normal ?_
      go_wp2_with fail
      go_ret3
      exact ⟨rfl, h4⟩
end
end Go.Proofs.YtilcilbmbhbakaaDoor
