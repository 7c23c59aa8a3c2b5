/- token.Mint; the reference's big, check, Mint. -/
import Derived.Test.YtilcilbmbhbakaaDoorTok1
import Derived.Test.YtilcilbmbhbakaaDoorRefCrc
namespace Go.Proofs.YtilcilbmbhbakaaDoor
open Go.RowKit
theorem b64_size (s : ByteArray) : (b64 s).size = (4 * s.size + 2) / 3 := Six.enc_len _ _
theorem frontT_len (n : Nat) (s : List UInt8) : (frontT n s).length = 8 + s.length := by unfold frontT; rw [List.length_append, byN_len]
theorem laidT_len (k : Int) (n : Nat) (s : List UInt8) : (laidT k n s).length = 12 + s.length := by unfold laidT; rw [List.length_append, byN_len, frontT_len]; omega
theorem mk_size (l : List UInt8) : (⟨l.toArray⟩ : ByteArray).size = l.length := by show l.toArray.size = _; simp
/-- Mint: the text, or ErrArg. -/
def mintV (k id : Int) (s : ByteArray) : ByteArray × Int :=
  if (k ≠ 1 ∧ k ≠ 2) ∨ id < 1 ∨ 4611686018427387904 < id ∨ s.size ≠ 24 then (⟨#[]⟩, 1) else (pfx k ++ b64 ⟨(laidT k id.toNat s.data.toList).toArray⟩, 0)
theorem pfx_none (k : Int) (h : k ≠ 1 ∧ k ≠ 2) : pfx k = ⟨#[]⟩ := by unfold pfx; rw [if_neg h.1, if_neg h.2]
theorem pfx_four (k : Int) (h : ¬ (k ≠ 1 ∧ k ≠ 2)) : (pfx k).size = 4 := by
  unfold pfx
  by_cases h1 : k = 1
  · rw [if_pos h1]; rfl
  · rw [if_neg h1, if_pos (by omega)]; rfl
section
variable {E : World} {L : List Hp}
set_option maxRecDepth 20000 in
set_option maxHeartbeats 1000000 in
theorem mint_any (k id : Int) (s v : ByteArray) (e : Int) (w : World) (hr : mintV k id s = (v, e)) (h : Own E w L) :
    Calls Tryd.prog 10 #[.int .i64 k, .int .i64 id, .string s] w fun ev w' => ev = .returned (.tuple #[.string v, .int .i64 e]) ∧ Own E w' L := by
  unfold mintV at hr
  by_cases hk : k ≠ 1 ∧ k ≠ 2
  · rw [if_pos (.inl hk)] at hr
    cases hr
    have e0 := pfx_none k hk
    clear hk
    go_enter Tryd.func10, Tryd.ntmps10
    go_wp2_with fail
    refine (prefix_any k _).mono ?_
    rintro e w1 ⟨rfl, rfl⟩
    rw [e0]
    go_wp2_with fail
    go_ret2
    exact ⟨rfl, h⟩
  have hp4 := pfx_four k hk
  obtain ⟨p, hp⟩ : ∃ p, p = pfx k := ⟨_, rfl⟩
  rw [← hp] at hp4
  have hpe : p.toList.isEmpty = false := text_some (by omega)
  have HP := Lib.hid hp
  by_cases h1 : id < 1
  · rw [if_pos (.inr (.inl h1))] at hr
    cases hr
    clear hk hp
    go_enter Tryd.func10, Tryd.ntmps10
    go_wp2_with fail
    refine (prefix_any k _).mono ?_
    rintro e w1 ⟨rfl, rfl⟩
    rw [← HP.out]
    go_wp2_with fail
    go_ret2
    exact ⟨rfl, h⟩
  by_cases h2 : 4611686018427387904 < id
  · rw [if_pos (.inr (.inr (.inl h2)))] at hr
    cases hr
    clear hk hp
    go_enter Tryd.func10, Tryd.ntmps10
    go_wp2_with fail
    refine (prefix_any k _).mono ?_
    rintro e w1 ⟨rfl, rfl⟩
    rw [← HP.out]
    go_wp2_with fail
    go_ret2
    exact ⟨rfl, h⟩
  by_cases h3 : s.size ≠ 24
  · rw [if_pos (.inr (.inr (.inr h3)))] at hr
    cases hr
    have h3i : ((s.size : Int) != 24) = true := by rw [bne_iff_ne]; omega
    clear hk hp h3
    go_enter Tryd.func10, Tryd.ntmps10
    go_wp2_with fail
    refine (prefix_any k _).mono ?_
    rintro e w1 ⟨rfl, rfl⟩
    rw [← HP.out]
    go_wp2_with fail
    go_ret2
    exact ⟨rfl, h⟩
  · rw [if_neg (by omega)] at hr
    cases hr
    obtain ⟨m, rfl⟩ : ∃ m : Nat, id = m := ⟨id.toNat, by omega⟩
    rw [Int.toNat_natCast, ← hp]
    have hs24 : s.size = 24 := Decidable.not_not.1 h3
    have hsi : (s.size : Int) = 24 := by omega
    obtain ⟨B, hB⟩ : ∃ B : ByteArray, B = ⟨(laidT k m s.data.toList).toArray⟩ := ⟨_, rfl⟩
    have hBs : B.size = 36 := by rw [hB, mk_size, laidT_len, show s.data.toList.length = s.size from rfl, hs24]
    have hbs : (b64 B).size = 48 := by rw [b64_size, hBs]
    rw [← hB]
    have HB := Lib.hid hB
    have HBS := Lib.hid hBs
    obtain ⟨C, hC⟩ : ∃ C, C = b64 B := ⟨_, rfl⟩
    rw [← hC] at hbs ⊢
    have HC := Lib.hid hC
    have hc : ¬ 9223372036854775807 < p.size + C.size := by omega
    have HM := Lib.hid (show m < 9223372036854775808 by omega)
    clear hk hp h3 hB hBs hC
    go_enter Tryd.func10, Tryd.ntmps10
    go_wp2_with fail
    refine (prefix_any k _).mono ?_
    rintro e w1 ⟨rfl, rfl⟩
    rw [← HP.out]
    go_wp2_with fail
    refine (prefix_any k _).mono ?_
    rintro e w1 ⟨rfl, rfl⟩
    rw [← HP.out]
    go_wp2_with fail
    refine (laid_any k m s _ HM.out (by omega) h).mono ?_
    rintro e w2 ⟨rfl, h2⟩
    rw [← HB.out]
    go_wp2_with fail
    refine (base64_any B _ (by rw [HBS.out]; omega) h2).mono ?_
    rintro e w3 ⟨rfl, h3⟩
    rw [← HC.out]
    go_wp2_with fail
    go_ret2
    exact ⟨rfl, h3⟩
theorem byN_snoc (k n : Nat) : byN (k + 1) n = byN k (n / 256) ++ [UInt8.ofNat (n % 256)] := by
  induction k with
  | zero =>
    show [UInt8.ofNat (n / 256 ^ 0)] = [UInt8.ofNat (n % 256)]
    rw [Nat.pow_zero, Nat.div_one]
    congr 1
    refine UInt8.toNat_inj.1 ?_
    rw [UInt8.toNat_ofNat', UInt8.toNat_ofNat']
    omega
  | succ k ih =>
    show UInt8.ofNat (n / 256 ^ (k + 1)) :: byN (k + 1) n = UInt8.ofNat (n / 256 / 256 ^ k) :: byN k (n / 256) ++ [UInt8.ofNat (n % 256)]
    rw [ih, Nat.pow_succ, Nat.mul_comm, ← Nat.div_div_eq_div_mul]
    rfl
theorem pow_bits (k : Nat) : (2 : Int) ^ (8 * k) = ((256 ^ k : Nat) : Int) := by
  rw [show (256 : Nat) = 2 ^ 8 by rfl, ← Nat.pow_mul, Int.natCast_pow]
  rfl
set_option maxRecDepth 20000 in
set_option maxHeartbeats 1000000 in
theorem xbig_any (n k : Nat) (w : World) (hk : k ≤ 8) (h : Own E w L) :
    Calls Tryd.prog 28 #[.int .i64 n, .int .i64 k] w fun ev w' => ev = .returned (.string ⟨(byN k n).toArray⟩) ∧ Own E w' L := by
  obtain ⟨w1, hmk, -, h1, -⟩ := sl_make (P := Tryd.prog) (T := BT) (e := U8) (z := .int .u8 0) (bytes := 1) (by kernel_rfl) u8_info rfl .i64 .i64 k k (by omega) (by omega) (by unfold maxLen; omega) h
  generalize w.heap.size = g at *
  have H1 := Lib.hid h1
  clear h h1
  go_enter Tryd.func28, Tryd.ntmps28
  go_wp2_with (with_reducible refine at_slot (k := some 8) ?_; refine wpList_make_run (o := ⟨some 8, _, _, _, _, _⟩) hmk rfl rfl rfl rfl ?_; clear hmk)
  go_loopw [6] (fun i wr => ∃ (j : Nat) (o : List UInt8), j ≤ k ∧ o.length = j ∧ i = .int .i64 j ∧ byN (k - j) (n / 256 ^ j) ++ o = byN k n ∧ Own E wr (Hp.row U8 1 (.slice (some ⟨g, 0, none⟩) k k) k (List.replicate (k - j) (.int .u8 0) ++ o.map V8') :: L)) (fun i _ => k - (intOf i).toNat)
  case atStart => exact ⟨0, [], by omega, rfl, rfl, by rw [List.append_nil, Nat.pow_zero, Nat.div_one]; rfl, by simpa using H1.out⟩
  case round =>
    obtain ⟨j, o, hj, ho, rfl, hby, hw⟩ := hrel
    clear H1
    by_cases hlt : j < k
    · obtain ⟨p, hp⟩ : ∃ p, k - j = p + 1 := ⟨k - j - 1, by omega⟩
      obtain ⟨m, hm⟩ : ∃ m, m = n / 256 ^ j := ⟨_, rfl⟩
      rw [← hm, hp] at hby
      rw [hp] at hw
      obtain ⟨_, e1, c1, f1, h2⟩ := hw.rowSet p (by omega) (V8' (UInt8.ofNat (m % 256)))
      injection e1 with e1
      injection e1 with e1
      subst e1
      have eset : (List.replicate (p + 1) (Value.int .u8 0) ++ o.map V8').set p (V8' (UInt8.ofNat (m % 256))) = List.replicate p (.int .u8 0) ++ (UInt8.ofNat (m % 256) :: o).map V8' := by
        rw [List.replicate_succ', List.append_assoc, List.set_append_right p _ (by rw [List.length_replicate]; exact Nat.le_refl _), List.length_replicate, Nat.sub_self]
        rfl
      rw [eset] at h2
      have hby2 : byN p (m / 256) ++ (UInt8.ofNat (m % 256) :: o) = byN k n := by
        rw [← hby, byN_snoc, List.append_assoc]
        rfl
      have hmd : m / 256 = n / 256 ^ (j + 1) := by rw [hm, Nat.div_div_eq_div_mul, ← Nat.pow_succ]
      obtain ⟨y, hy⟩ : ∃ y, y = UInt8.ofNat (m % 256) := ⟨_, rfl⟩
      have hsh : (n : Int) / 2 ^ (8 * j) = (m : Int) := by rw [pow_bits, hm, Int.natCast_ediv]
      have hyn : IntKind.u8.wrap (m : Int) = (y.toNat : Int) := by
        rw [IntKind.wrap_u8, hy, UInt8.toNat_ofNat']
        omega
      have hpk : k - (j + 1) = p := by omega
      rw [← hy] at h2 hby2
      rw [hmd] at hby2
      have H2 := Lib.hid h2
      have HB := Lib.hid hby2
      have HPK := Lib.hid hpk
      have ipk : (k : Int) - 1 - j = (p : Int) := by omega
      have p0 : (0 : Int) ≤ p := by omega
      have pk : (p : Int) < k := by omega
      have j0 : (0 : Int) ≤ j := by omega
      have jk : (j : Int) < k := by omega
      have ht8 : (8 * (j : Int)).toNat = 8 * j := by omega
      have hw8 : IntKind.i64.wrap (8 * (j : Int)) = 8 * (j : Int) := IntWalk.i64_in _ (by omega)
      clear hw h2 eset hby hby2 hy hm hmd hpk hp
      go_wp2_with fail
      go_roundw
      case rel => exact ⟨j + 1, y :: o, by omega, by rw [List.length_cons, ho], by go_num, by rw [HPK.out]; exact HB.out, by rw [HPK.out]; exact H2.out⟩
      case measure => simp [intOf]; try omega
    · obtain rfl : j = k := by omega
      rw [Nat.sub_self] at hby hw
      have ho2 : o = byN j n := hby
      subst ho2
      have hst := hw.rowString (P := Tryd.prog) (src := BT) (dst := ST) (e := U8) (l := byN j n) (by kernel_rfl) (by kernel_rfl) (by kernel_rfl)
      have HW := Lib.hid hw.drop
      clear hw hby
      go_wp2_with (with_reducible refine at_slot (k := some 26) ?_; refine wpList_conv_run (o := ⟨some 26, _, _, _, _, _⟩) hst rfl rfl rfl ?_; clear hst)
      go_ret
      exact ⟨rfl, HW.out⟩
theorem xcheck_any (s : ByteArray) (w : World) (hs : s.size ≤ 1000000000000) (h : Own E w L) :
    Calls Tryd.prog 25 #[.string s] w fun ev w' => ev = .returned (.string ⟨(byN 4 (Crc.crc s.data.toList).toNat).toArray⟩) ∧ Own E w' L := by
  obtain ⟨x, hx⟩ : ∃ x, x = Crc.crc s.data.toList := ⟨_, rfl⟩
  have hx6 : x.toNat < 4294967296 := x.isLt
  have hwt : IntKind.i64.wrap (tn x) = tn x := IntWalk.i64_in _ (by unfold tn; omega)
  have HX := Lib.hid hx
  rw [← hx]
  clear hx
  go_enter Tryd.func25, Tryd.ntmps25
  go_wp2_with fail
  refine (refcrc_any s _ (by unfold maxLen; omega)).mono ?_
  rintro ev w1 ⟨rfl, rfl⟩
  rw [← HX.out]
  go_wp2_with fail
  refine (xbig_any x.toNat 4 _ (by omega) h).mono ?_
  rintro ev w2 ⟨rfl, h2⟩
  go_wp2_with fail
  go_ret
  exact ⟨rfl, h2⟩
end
end Go.Proofs.YtilcilbmbhbakaaDoor
