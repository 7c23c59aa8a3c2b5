/- package token: prefix, laid, Mint; strings.HasPrefix and CutPrefix; the reference's prefix and begins. -/
import Derived.Test.YtilcilbmbhbakaaDoorRd
import Derived.Test.YtilcilbmbhbakaaDoorCrc
namespace Go.Proofs.YtilcilbmbhbakaaDoor
open Go.RowKit
abbrev lkr : ByteArray := ⟨#[108, 107, 114, 95]⟩
abbrev lkc : ByteArray := ⟨#[108, 107, 99, 95]⟩
/-- A kind's prefix. -/
def pfx (k : Int) : ByteArray := if k = 1 then lkr else if k = 2 then lkc else ⟨#[]⟩
theorem pfx_size (k : Int) : (pfx k).size ≤ 4 := by
  unfold pfx
  by_cases h1 : k = 1
  · rw [if_pos h1]; exact Nat.le_refl _
  rw [if_neg h1]
  by_cases h2 : k = 2
  · rw [if_pos h2]; exact Nat.le_refl _
  · rw [if_neg h2]; exact Nat.zero_le _
/-- Does a text begin so? -/
def begins (s p : ByteArray) : Prop := p.size ≤ s.size ∧ s.extract 0 p.size = p
section
variable {E : World} {L : List Hp}
theorem prefix_any (k : Int) (w : World) : Calls Tryd.prog 18 #[.int .i64 k] w fun e w' => e = .returned (.string (pfx k)) ∧ w = w' := by
  by_cases h1 : k = 1
  · subst h1
    go_enter Tryd.func18, Tryd.ntmps18
    go_wp2_with fail
    go_ret
    exact ⟨rfl, rfl⟩
  have b1 : (k == 1) = false := by simpa using h1
  by_cases h2 : k = 2
  · subst h2
    go_enter Tryd.func18, Tryd.ntmps18
    go_wp2_with fail
    go_ret
    exact ⟨rfl, rfl⟩
  have b2 : (k == 2) = false := by simpa using h2
  have e0 : pfx k = ⟨#[]⟩ := by unfold pfx; rw [if_neg h1, if_neg h2]
  rw [e0]
  clear h1 h2 e0
  go_enter Tryd.func18, Tryd.ntmps18
  go_wp2_with fail
  go_ret
  exact ⟨rfl, rfl⟩
theorem xprefix_any (k : Int) (w : World) : Calls Tryd.prog 21 #[.int .i64 k] w fun e w' => e = .returned (.string (pfx k)) ∧ w = w' := by
  by_cases h1 : k = 1
  · subst h1
    go_enter Tryd.func21, Tryd.ntmps21
    go_wp2_with fail
    go_ret
    exact ⟨rfl, rfl⟩
  have b1 : (k == 1) = false := by simpa using h1
  by_cases h2 : k = 2
  · subst h2
    go_enter Tryd.func21, Tryd.ntmps21
    go_wp2_with fail
    go_ret
    exact ⟨rfl, rfl⟩
  have b2 : (k == 2) = false := by simpa using h2
  have e0 : pfx k = ⟨#[]⟩ := by unfold pfx; rw [if_neg h1, if_neg h2]
  rw [e0]
  clear h1 h2 e0
  go_enter Tryd.func21, Tryd.ntmps21
  go_wp2_with fail
  go_ret
  exact ⟨rfl, rfl⟩
theorem str_iff (a b : ByteArray) : ((a.toList == b.toList) = true) ↔ a = b := by
  rw [ByteArray.toList_eq, ByteArray.toList_eq, beq_iff_eq]
  constructor
  · intro h
    exact ByteArray.ext (Array.toList_inj.1 h)
  · intro h; rw [h]
theorem hasprefix0_any (s p : ByteArray) (w : World) : Calls Tryd.prog 59 #[.string s, .string p] w fun e w' => w = w' ∧ ((begins s p ∧ e = .returned (.bool true)) ∨ (¬ begins s p ∧ e = .returned (.bool false))) := by
  by_cases hb : begins s p
  · have hi : (p.size : Int) ≤ s.size := by have := hb.1; omega
    have he : ((s.extract 0 p.size).toList == p.toList) = true := (str_iff _ _).2 hb.2
    have HB := Lib.hid hb
    clear hb
    go_enter Tryd.func59, Tryd.ntmps59
    go_wp2_with fail
    go_ret
    exact ⟨rfl, .inl ⟨HB.out, rfl⟩⟩
  · have HB := Lib.hid hb
    by_cases h : p.size ≤ s.size
    · have hi : (p.size : Int) ≤ s.size := by omega
      have he : ((s.extract 0 p.size).toList == p.toList) = false := by
        rw [Bool.eq_false_iff]
        exact fun e => hb ⟨h, (str_iff _ _).1 e⟩
      clear hb
      go_enter Tryd.func59, Tryd.ntmps59
      go_wp2_with fail
      go_ret
      exact ⟨rfl, .inr ⟨HB.out, rfl⟩⟩
    · have hi : ¬ (p.size : Int) ≤ s.size := by omega
      clear hb
      go_enter Tryd.func59, Tryd.ntmps59
      go_wp2_with fail
      go_ret
      exact ⟨rfl, .inr ⟨HB.out, rfl⟩⟩
theorem hasprefix_any (s p : ByteArray) (w : World) : Calls Tryd.prog 35 #[.string s, .string p] w fun e w' => w = w' ∧ ((begins s p ∧ e = .returned (.bool true)) ∨ (¬ begins s p ∧ e = .returned (.bool false))) := by
  go_enter Tryd.func35, Tryd.ntmps35
  go_wp2_with fail
  refine (hasprefix0_any s p _).mono ?_
  rintro e w1 ⟨rfl, ⟨hb, rfl⟩ | ⟨hb, rfl⟩⟩
  · have HB := Lib.hid hb
    clear hb
    go_wp2_with fail
    go_ret
    exact ⟨rfl, .inl ⟨HB.out, rfl⟩⟩
  · have HB := Lib.hid hb
    clear hb
    go_wp2_with fail
    go_ret
    exact ⟨rfl, .inr ⟨HB.out, rfl⟩⟩
theorem xbegins_any (s p : ByteArray) (w : World) : Calls Tryd.prog 22 #[.string s, .string p] w fun e w' => w = w' ∧ ((begins s p ∧ e = .returned (.bool true)) ∨ (¬ begins s p ∧ e = .returned (.bool false))) := by
  by_cases hb : begins s p
  · have hi : (p.size : Int) ≤ s.size := by have := hb.1; omega
    have he : ((s.extract 0 p.size).toList == p.toList) = true := (str_iff _ _).2 hb.2
    have HB := Lib.hid hb
    clear hb
    go_enter Tryd.func22, Tryd.ntmps22
    go_wp2_with fail
    go_ret
    exact ⟨rfl, .inl ⟨HB.out, rfl⟩⟩
  · have HB := Lib.hid hb
    by_cases h : p.size ≤ s.size
    · have hi : (p.size : Int) ≤ s.size := by omega
      have he : ((s.extract 0 p.size).toList == p.toList) = false := by
        rw [Bool.eq_false_iff]
        exact fun e => hb ⟨h, (str_iff _ _).1 e⟩
      clear hb
      go_enter Tryd.func22, Tryd.ntmps22
      go_wp2_with fail
      go_ret
      exact ⟨rfl, .inr ⟨HB.out, rfl⟩⟩
    · have hi : ¬ (p.size : Int) ≤ s.size := by omega
      clear hb
      go_enter Tryd.func22, Tryd.ntmps22
      go_wp2_with fail
      go_ret
      exact ⟨rfl, .inr ⟨HB.out, rfl⟩⟩
theorem cutprefix0_any (s p : ByteArray) (w : World) : Calls Tryd.prog 58 #[.string s, .string p] w fun e w' => w = w' ∧ ((begins s p ∧ e = .returned (.tuple #[.string (restB s p.size), .bool true])) ∨ (¬ begins s p ∧ e = .returned (.tuple #[.string s, .bool false]))) := by
  go_enter Tryd.func58, Tryd.ntmps58
  go_wp2_with fail
  refine (hasprefix0_any s p _).mono ?_
  rintro e w1 ⟨rfl, ⟨hb, rfl⟩ | ⟨hb, rfl⟩⟩
  · have hi : (p.size : Int) ≤ s.size := by have := hb.1; omega
    have HB := Lib.hid hb
    clear hb
    go_wp2_with fail
    go_ret2
    exact ⟨rfl, .inl ⟨HB.out, rfl⟩⟩
  · have HB := Lib.hid hb
    clear hb
    go_wp2_with fail
    go_ret2
    exact ⟨rfl, .inr ⟨HB.out, rfl⟩⟩
theorem cutprefix_any (s p : ByteArray) (w : World) : Calls Tryd.prog 34 #[.string s, .string p] w fun e w' => w = w' ∧ ((begins s p ∧ e = .returned (.tuple #[.string (restB s p.size), .bool true])) ∨ (¬ begins s p ∧ e = .returned (.tuple #[.string s, .bool false]))) := by
  go_enter Tryd.func34, Tryd.ntmps34
  go_wp2_with fail
  refine (cutprefix0_any s p _).mono ?_
  rintro e w1 ⟨rfl, ⟨hb, rfl⟩ | ⟨hb, rfl⟩⟩
  · have HB := Lib.hid hb
    clear hb
    go_wp2_with fail
    go_ret2
    exact ⟨rfl, .inl ⟨HB.out, rfl⟩⟩
  · have HB := Lib.hid hb
    clear hb
    go_wp2_with fail
    go_ret2
    exact ⟨rfl, .inr ⟨HB.out, rfl⟩⟩
end
/-- The front of a token's bytes, and all of them. -/
def frontT (n : Nat) (s : List UInt8) : List UInt8 := byN 8 n ++ s
def laidT (k : Int) (n : Nat) (s : List UInt8) : List UInt8 := frontT n s ++ byN 4 (Crc.crc ((pfx k).data.toList ++ frontT n s)).toNat
section
variable {E : World} {L : List Hp}
set_option maxRecDepth 20000 in
theorem laid_any (k : Int) (n : Nat) (s : ByteArray) (w : World) (hn : n < 9223372036854775808) (hs : s.size ≤ 1000000000000) (h : Own E w L) :
    Calls Tryd.prog 27 #[.int .i64 k, .int .i64 n, .string s] w fun e w' => e = .returned (.string ⟨(laidT k n s.data.toList).toArray⟩) ∧ Own E w' L := by
  have hn8 : n < 256 ^ 8 := Nat.lt_trans hn (by decide)
  obtain ⟨x, hx⟩ : ∃ x, x = Crc.crc ((pfx k).data.toList ++ frontT n s.data.toList) := ⟨_, rfl⟩
  have hx4 : x.toNat < 256 ^ 4 := x.isLt
  have hx6 : x.toNat < 4294967296 := x.isLt
  have hx5 : x.toNat < 9223372036854775808 := by omega
  obtain ⟨F, hF⟩ : ∃ F : ByteArray, F = ⟨(frontT n s.data.toList).toArray⟩ := ⟨_, rfl⟩
  have hFd : F.data.toList = frontT n s.data.toList := by rw [hF]
  have hFs : F.size = 8 + s.size := by
    show F.data.toList.length = _
    rw [hFd]
    unfold frontT
    rw [List.length_append, byN_len]
    rfl
  obtain ⟨p, hp⟩ : ∃ p, p = pfx k := ⟨_, rfl⟩
  have hps : p.size ≤ 4 := by rw [hp]; exact pfx_size k
  have hc : ¬ 9223372036854775807 < p.size + F.size := by omega
  have hwt : IntKind.i64.wrap (tn x) = tn x := IntWalk.i64_in _ (by unfold tn; omega)
  have HP := Lib.hid hp
  have HF := Lib.hid hF
  have HXX : Hid (Crc.crc (p ++ F).data.toList = x) := Lib.hid (by rw [hx, ← hFd, ← hp, ByteArray.data_append, Array.toList_append])
  have HL : Hid ((⟨(laidT k n s.data.toList).toArray⟩ : ByteArray) = ⟨(F.data.toList ++ byN 4 x.toNat).toArray⟩) := Lib.hid (by rw [hFd, hx]; rfl)
  have HFD := Lib.hid hFd
  have H := Lib.hid h
  have HN := Lib.hid hn
  have HN8 := Lib.hid hn8
  have HX4 := Lib.hid hx4
  have HX5 := Lib.hid hx5
  rw [HL.out]
  clear hp hF hFd hx h hn hn8 hx4 hx5 hx6
  go_enter Tryd.func27, Tryd.ntmps27
  go_wp2_with fail
  refine (newwriter_any _ H.out).mono ?_
  rintro e w1 ⟨b, rfl, h1⟩
  go_wp2_with fail
  refine (wnum_any b .nilIface [] 8 n _ (by omega) (by omega) HN8.out HN.out (by simp) h1).mono ?_
  rintro e w2 ⟨rfl, h2⟩
  clear h1
  go_wp2_with fail
  refine (raw_any b .nilIface ([] ++ byN 8 n) s _ (by rw [List.nil_append, byN_len]; omega) h2).mono ?_
  rintro e w3 ⟨rfl, h3⟩
  clear h2
  go_wp2_with fail
  refine (wdone_any b _ _ h3).mono ?_
  rintro e w4 ⟨rfl, h4⟩
  clear h3
  have e1 : (⟨([] ++ byN 8 n ++ s.data.toList).toArray⟩ : ByteArray) = F := by rw [HF.out]; rfl
  rw [e1]
  have h5 := h4.drop
  clear h4 e1
  go_wp2_with fail
  refine (newwriter_any _ h5).mono ?_
  rintro e w5 ⟨c, rfl, h6⟩
  clear h5
  go_wp2_with fail
  refine (raw_any c .nilIface [] F _ (by simp; omega) h6).mono ?_
  rintro e w6 ⟨rfl, h7⟩
  clear h6
  rw [List.nil_append] at h7
  go_wp2_with fail
  refine (prefix_any k _).mono ?_
  rintro e w7 ⟨rfl, rfl⟩
  rw [← HP.out]
  go_wp2_with fail
  refine (crc_any (p ++ F) _ (by rw [ByteArray.size_append]; unfold maxLen; omega) h7).mono ?_
  rintro e w8 ⟨rfl, h8⟩
  clear h7
  rw [HXX.out]
  go_wp2_with fail
  refine (wnum_any c .nilIface F.data.toList 4 x.toNat _ (by omega) (by omega) HX4.out HX5.out (by show F.size + 8 ≤ _; omega) h8).mono ?_
  rintro e w9 ⟨rfl, h9⟩
  clear h8
  go_wp2_with fail
  refine (wdone_any c _ _ h9).mono ?_
  rintro e w10 ⟨rfl, h10⟩
  have H10 := Lib.hid h10.drop
  clear h9 h10
  go_wp2_with fail
  go_ret
  exact ⟨rfl, H10.out⟩
end
end Go.Proofs.YtilcilbmbhbakaaDoor
