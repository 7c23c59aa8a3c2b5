/- The reference's Mint; Hash; TokenMints. -/
import Derived.Test.YtilcilbmbhbakaaDoorTok7
import Derived.Test.YtilcilbmbhbakaaDoorRefTop2
namespace Go.Proofs.YtilcilbmbhbakaaDoor
open Go.RowKit
section
variable {E : World} {L : List Hp}
set_option maxRecDepth 20000 in
set_option maxHeartbeats 1000000 in
theorem xmint_any (k id : Int) (s v : ByteArray) (e : Int) (w : World) (hr : mintV k id s = (v, e)) (h : Own E w L) :
    Calls Tryd.prog 13 #[.int .i64 k, .int .i64 id, .string s] w fun ev w' => ev = .returned (.tuple #[.string v, .int .i64 e]) ∧ Own E w' L := by
  unfold mintV at hr
  by_cases hk : k ≠ 1 ∧ k ≠ 2
  · rw [if_pos (.inl hk)] at hr
    cases hr
    have e0 := pfx_none k hk
    clear hk
    go_enter Tryd.func13, Tryd.ntmps13
    go_wp2_with fail
    refine (xprefix_any k _).mono ?_
    rintro e w1 ⟨rfl, rfl⟩
    rw [e0]
    go_wp2_with fail
    go_ret2
    exact ⟨rfl, h⟩
  have hp4 := pfx_four k hk
  obtain ⟨p, hp⟩ : ∃ p, p = pfx k := ⟨_, rfl⟩
  rw [← hp] at hp4
  have hpe : p.toList.isEmpty = false := text_some (by omega)
  have HP := Lib.hid hp
  by_cases h1 : id < 1
  · rw [if_pos (.inr (.inl h1))] at hr
    cases hr
    clear hk hp
    go_enter Tryd.func13, Tryd.ntmps13
    go_wp2_with fail
    refine (xprefix_any k _).mono ?_
    rintro e w1 ⟨rfl, rfl⟩
    rw [← HP.out]
    go_wp2_with fail
    go_ret2
    exact ⟨rfl, h⟩
  by_cases h2 : 4611686018427387904 < id
  · rw [if_pos (.inr (.inr (.inl h2)))] at hr
    cases hr
    clear hk hp
    go_enter Tryd.func13, Tryd.ntmps13
    go_wp2_with fail
    refine (xprefix_any k _).mono ?_
    rintro e w1 ⟨rfl, rfl⟩
    rw [← HP.out]
    go_wp2_with fail
    go_ret2
    exact ⟨rfl, h⟩
  by_cases h3 : s.size ≠ 24
  · rw [if_pos (.inr (.inr (.inr h3)))] at hr
    cases hr
    have h3i : ((s.size : Int) != 24) = true := by rw [bne_iff_ne]; omega
    clear hk hp h3
    go_enter Tryd.func13, Tryd.ntmps13
    go_wp2_with fail
    refine (xprefix_any k _).mono ?_
    rintro e w1 ⟨rfl, rfl⟩
    rw [← HP.out]
    go_wp2_with fail
    go_ret2
    exact ⟨rfl, h⟩
  · rw [if_neg (by omega)] at hr
    cases hr
    obtain ⟨m, rfl⟩ : ∃ m : Nat, id = m := ⟨id.toNat, by omega⟩
    rw [Int.toNat_natCast, ← hp]
    have hs24 : s.size = 24 := Decidable.not_not.1 h3
    have hsi : (s.size : Int) = 24 := by omega
    obtain ⟨N8, hN8⟩ : ∃ N8 : ByteArray, N8 = ⟨(byN 8 m).toArray⟩ := ⟨_, rfl⟩
    have n8s : N8.size = 8 := by rw [hN8, mk_size, byN_len]
    obtain ⟨F, hF⟩ : ∃ F, F = N8 ++ s := ⟨_, rfl⟩
    have hFs : F.size = 32 := by rw [hF, ByteArray.size_append, n8s, hs24]
    have hFd : F.data.toList = frontT m s.data.toList := by rw [hF, app_data, hN8]; rfl
    obtain ⟨X, hX⟩ : ∃ X : ByteArray, X = ⟨(byN 4 (Crc.crc (p ++ F).data.toList).toNat).toArray⟩ := ⟨_, rfl⟩
    have hXs : X.size = 4 := by rw [hX, mk_size, byN_len]
    have hB : (⟨(laidT k m s.data.toList).toArray⟩ : ByteArray) = F ++ X := by
      refine (bytes_ext _ _ ?_).symm
      rw [app_data, hFd, hX, app_data, hp, hFd]
      rfl
    rw [hB]
    obtain ⟨B, hBB⟩ : ∃ B, B = F ++ X := ⟨_, rfl⟩
    rw [← hBB]
    have hBs : B.size = 36 := by rw [hBB, ByteArray.size_append, hFs, hXs]
    have hbs : (b64 B).size = 48 := by rw [b64_size, hBs]
    have HBS := Lib.hid hBs
    obtain ⟨C, hC⟩ : ∃ C, C = b64 B := ⟨_, rfl⟩
    rw [← hC] at hbs ⊢
    have HC := Lib.hid hC
    have HN8 := Lib.hid hN8
    have HF := Lib.hid hF
    have HX := Lib.hid hX
    have HBB := Lib.hid hBB
    have hc1 : ¬ 9223372036854775807 < N8.size + s.size := by omega
    have hc2 : ¬ 9223372036854775807 < p.size + F.size := by omega
    have hc3 : ¬ 9223372036854775807 < F.size + X.size := by omega
    have hc4 : ¬ 9223372036854775807 < p.size + C.size := by omega
    have HZ : Hid ((p ++ F).size ≤ 1000000000000) := Lib.hid (by rw [ByteArray.size_append]; omega)
    clear hk hp h3 hN8 hF hFd hX hB hBB hBs hC
    go_enter Tryd.func13, Tryd.ntmps13
    go_wp2_with fail
    refine (xprefix_any k _).mono ?_
    rintro e w1 ⟨rfl, rfl⟩
    rw [← HP.out]
    go_wp2_with fail
    refine (xbig_any m 8 _ (by omega) h).mono ?_
    rintro e w2 ⟨rfl, h2⟩
    rw [← HN8.out]
    go_wp2_with fail
    rw [← HF.out]
    refine (xcheck_any (p ++ F) _ HZ.out h2).mono ?_
    rintro e w3 ⟨rfl, h3⟩
    rw [← HX.out]
    go_wp2_with fail
    rw [← HBB.out]
    refine (refbase64_any B _ (by rw [HBS.out]; omega) h3).mono ?_
    rintro e w4 ⟨rfl, h4⟩
    rw [← HC.out]
    go_wp2_with fail
    go_ret2
    exact ⟨rfl, h4⟩
def digest (s : ByteArray) : ByteArray := ⟨(Sha.sum s.data.toList).toArray⟩
theorem hash_any (s : ByteArray) (w : World) (hs : s.size ≤ 140737488355000) (h : Own E w L) :
    Calls Tryd.prog 14 #[.string s] w fun ev w' => ev = .returned (.string (digest s)) ∧ Own E w' L := by
  have h1 : Own E (w.alloc (.cells #[.string s] ST)) (Hp.ro (Ph.one w.heap.size (.cells #[.string s] ST (0, 0))) :: L) := h.alloc _
  have hr : Rds (Ph.one w.heap.size (.cells #[.string s] ST (0, 0))) 1 enStr (some ⟨w.heap.size, 0, none⟩) 1 [s] := Rds.of_blk [s] rfl
  have hj : joined [s] = s.data.toList := by unfold joined; simp
  have HD : Hid (⟨(Sha.sum (joined [s])).toArray⟩ = digest s) := Lib.hid (by rw [hj]; rfl)
  have H1 := Lib.hid h1
  have HR := Lib.hid hr
  have HJ : Hid ((joined [s]).length ≤ 1152921504606846975) := Lib.hid (by rw [hj]; show s.size ≤ _; omega)
  clear h h1 hr hj
  go_enter Tryd.func14, Tryd.ntmps14
  go_wp2_with fail
  refine (hsum_any (some ⟨w.heap.size, 0, none⟩) 1 1 [s] _ (by unfold maxLen; omega) HR.out HJ.out H1.out).mono ?_
  rintro e w2 ⟨rfl, h2⟩
  rw [HD.out]
  have H2 := Lib.hid h2.drop
  clear h2
  go_wp2_with fail
  go_ret
  exact ⟨rfl, H2.out⟩
theorem xhash_any (s : ByteArray) (w : World) (hs : s.size ≤ 140737488355000) (h : Own E w L) :
    Calls Tryd.prog 15 #[.string s] w fun ev w' => ev = .returned (.string (digest s)) ∧ Own E w' L := by
  go_enter Tryd.func15, Tryd.ntmps15
  go_wp2_with fail
  refine (refsum_any s _ hs h).mono ?_
  rintro e w2 ⟨rfl, h2⟩
  go_wp2_with fail
  go_ret
  exact ⟨rfl, h2⟩
theorem mintV_size (k id : Int) (s : ByteArray) : (mintV k id s).1.size ≤ 1000 := by
  unfold mintV
  split
  · exact Nat.zero_le _
  · have h := pfx_size k
    have hs : s.size = 24 := by omega
    have hl : (⟨(laidT k id.toNat s.data.toList).toArray⟩ : ByteArray).size = 36 := by
      rw [mk_size, laidT_len]
      show 12 + s.size = 36
      omega
    show (pfx k ++ b64 ⟨(laidT k id.toNat s.data.toList).toArray⟩).size ≤ _
    rw [ByteArray.size_append, b64_size, hl]
    omega
set_option maxRecDepth 20000 in
theorem mints_any (k id : Int) (s : ByteArray) (a0 a1 a2 : Addr) (w : World) (hG : Sent E L a0 a1 a2) (h : Own E w L) :
    Calls Tryd.prog 5 #[.int .i64 k, .int .i64 id, .string s] w fun e w' => e = .returned (.bool true) ∧ Own E w' L := by
  by_cases hc : 2147483647 < s.size
  · have hci : (2147483647 : Int) < s.size := by omega
    go_enter Tryd.func5, Tryd.ntmps5
    go_wp2_with fail
    go_ret
    exact ⟨rfl, h⟩
  have hci : ¬ (2147483647 : Int) < s.size := by omega
  obtain ⟨v, c, hr⟩ : ∃ v c, mintV k id s = (v, c) := ⟨_, _, rfl⟩
  have hvs : v.size ≤ 1000 := by
    have q := mintV_size k id s
    rw [hr] at q
    exact q
  have HR := Lib.hid hr
  have HV : Hid (v.size ≤ 140737488355000 ∧ s.size ≤ 140737488355000) := Lib.hid (by omega)
  clear hr hc hvs
  go_enter Tryd.func5, Tryd.ntmps5
  go_wp2_with fail
  refine (awake_any a0 a1 a2 _ hG h).mono ?_
  rintro e w1 ⟨rfl, h1⟩
  go_wp2_with fail
  refine (mint_any k id s v c _ HR.out h1).mono ?_
  rintro e w2 ⟨rfl, h2⟩
  go_wp2_with fail
  refine (xmint_any k id s v c _ HR.out h2).mono ?_
  rintro e w3 ⟨rfl, h3⟩
  go_wp2_with fail
  refine (hash_any v _ HV.out.1 h3).mono ?_
  rintro e w4 ⟨rfl, h4⟩
  go_wp2_with fail
  refine (xhash_any v _ HV.out.1 h4).mono ?_
  rintro e w5 ⟨rfl, h5⟩
  go_wp2_with fail
  refine (hash_any s _ HV.out.2 h5).mono ?_
  rintro e w6 ⟨rfl, h6⟩
  go_wp2_with fail
  refine (xhash_any s _ HV.out.2 h6).mono ?_
  rintro e w7 ⟨rfl, h7⟩
  go_wp2_with fail
  go_ret
  exact ⟨rfl, h7⟩
end
end Go.Proofs.YtilcilbmbhbakaaDoor
