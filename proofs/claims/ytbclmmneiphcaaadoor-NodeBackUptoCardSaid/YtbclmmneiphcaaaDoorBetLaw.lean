/- latchkeylaw10.addsUp, NodeBetween. -/
import Derived.Test.YtbclmmneiphcaaaDoorAwake10
namespace Go.Proofs.YtbclmmneiphcaaaDoor
open Go.RowKit
theorem addsup_any (n m : Nat) (w : World) (hn : n ≤ 1000000000000000000) (hm : m ≤ 1000000000000000000) :
    Calls Tryd.prog 8 #[.int .i64 n, .int .i64 m] w fun e w' => w = w' ∧ ∃ z : Nat, z ≤ 4294967294 ∧ (z ≤ 2147483647 → z = n + m) ∧ e = .returned (.int .i64 z) := by
  by_cases h1 : 2147483647 < n
  · have i1 : (2147483647 : Int) < n := by omega
    go_enter Tryd.func8, Tryd.ntmps8
    go_wp2_with fail
    go_ret
    exact ⟨rfl, 2147483648, by omega, by omega, rfl⟩
  by_cases h2 : 2147483647 < m
  · have i2 : (2147483647 : Int) < m := by omega
    go_enter Tryd.func8, Tryd.ntmps8
    go_wp2_with fail
    go_ret
    exact ⟨rfl, 2147483648, by omega, by omega, rfl⟩
  · have i1 : ¬ (2147483647 : Int) < n := by omega
    have i2 : ¬ (2147483647 : Int) < m := by omega
    go_enter Tryd.func8, Tryd.ntmps8
    go_wp2_with fail
    go_ret
    exact ⟨rfl, n + m, by omega, fun _ => rfl, by go_num⟩
theorem less_short : ∀ (b : List UInt8) (i : Nat), Op.bytesLess b (b.take i) = false := less_pre
section
variable {E : World} {L : List Hp}
set_option maxRecDepth 100000 in
set_option maxHeartbeats 4000000 in
theorem nodebetween_any (a b : ByteArray) (w : World) (ha : a.size ≤ 1000000000000000000) (hb : b.size ≤ 1000000000000000000) (hG : Laid0 E L) (h : Own E w L) :
    Calls Tryd.prog 7 #[.string a, .string b] w fun e w' => e = .returned (.bool true) ∧ Own E w' L := by
  have HA := Lib.hid ha
  have HB := Lib.hid hb
  have HG := Lib.hid hG
  clear ha hb hG
  go_enter Tryd.func7, Tryd.ntmps7
  go_wp2_with fail
  refine (addsup_any a.size b.size _ HA.out HB.out).mono ?_
  rintro e w1 ⟨rfl, z, hz, hz2, rfl⟩
  have HZ := Lib.hid hz2
  clear hz2
  by_cases hcb : 2147483647 < z
  · have hci : (2147483647 : Int) < z := by omega
    go_wp2_with fail
    go_ret
    exact ⟨rfl, h⟩
  have hci : ¬ (2147483647 : Int) < z := by omega
  have hbs : b.size ≤ 1152921504606846976 := by have := HZ.out (by omega); omega
  have HBS := Lib.hid hbs
  clear hcb hbs hz
  go_wp2_with fail
  refine (awake_any _ HG.out h).mono ?_
  rintro e w2 ⟨rfl, h⟩
  by_cases hlt : slt a b = true
  · have e0 : betweenV a b = b.extract 0 (cpl a.data.toList b.data.toList + 1) := if_pos hlt
    obtain ⟨hm1, -⟩ := cpl_end a.data.toList b.data.toList hlt
    have hm1' : cpl a.data.toList b.data.toList < b.size := hm1
    have hhigh : slt a (b.extract 0 (cpl a.data.toList b.data.toList + 1)) = true := by unfold slt; rw [extract_front]; exact cpl_high _ _ hlt
    have hlow : slt a (b.extract 0 (cpl a.data.toList b.data.toList)) = false := by unfold slt; rw [extract_front]; exact cpl_low (Nat.le_refl _)
    have hpre : slt b (b.extract 0 (cpl a.data.toList b.data.toList + 1)) = false := by unfold slt; rw [extract_front]; exact less_pre _ _
    generalize cpl a.data.toList b.data.toList = m at *
    obtain ⟨K, hK⟩ : ∃ K, K = b.extract 0 (m + 1) := ⟨_, rfl⟩
    have hKs : K.size = m + 1 := by rw [hK, ByteArray.size_extract]; omega
    have hbK : b.extract 0 K.size = K := by rw [hKs]; exact hK.symm
    obtain ⟨M, hM⟩ : ∃ M, M = b.extract 0 m := ⟨_, rfl⟩
    rw [← hK] at hhigh hpre e0
    rw [← hM] at hlow
    -- how they stand
    have z1 : Op.bytesLess a.toList b.toList = true := by rw [slt_walk]; exact hlt
    have z2 : Op.bytesLess a.toList K.toList = true := by rw [slt_walk]; exact hhigh
    have z3 : Op.bytesLess b.toList K.toList = false := by rw [slt_walk]; exact hpre
    have z4 : Op.bytesLess K.toList a.toList = false := by rw [slt_walk]; exact slt_asymm hhigh
    have z5 : (K.toList == a.toList) = false := by
      rcases slt_tri a K with ⟨-, -, -, -, -, -, h7⟩ | ⟨h1, -⟩ | ⟨h1, -⟩
      · exact h7
      · rw [hhigh] at h1; cases h1
      · rw [hhigh] at h1; cases h1
    have z6 : Op.bytesLess a.toList M.toList = false := by rw [slt_walk]; exact hlow
    have z7 : (Op.bytesLess M.toList a.toList || (M.toList == a.toList)) = true := by
      rcases slt_tri a M with ⟨h1, -⟩ | ⟨-, -, -, -, h5, -, h7⟩ | ⟨-, -, -, -, h5, -, h7⟩
      · rw [hlow] at h1; cases h1
      · rw [h5, h7]; rfl
      · rw [h5]; rfl
    have z8 : Op.bytesLess b.toList a.toList = false := by rw [slt_walk]; exact slt_asymm hlt
    have j1 : (0 : Int) ≤ (m : Int) := by omega
    have j2 : (m : Int) + 1 ≤ b.size := by omega
    have j3 : (0 : Int) ≤ (m : Int) + 1 := by omega
    have j4 : ((m : Int) + 1).toNat = m + 1 := by omega
    have j5 : (m : Int) ≤ b.size := by omega
    have j6 : IntKind.i64.wrap ((m : Int) + 1 - 1) = (m : Int) := by rw [show (m : Int) + 1 - 1 = m by omega]; exact IntWalk.i64_in _ (by have := HB.out; omega)
    have hbet := between_any (L := L) (E := E) a b w2 HBS.out h
    rw [e0] at hbet
    have z9 : (K.toList == K.toList) = true := by simp
    have hKi : (K.size : Int) = (m : Int) + 1 := by omega
    have j7 : decide ((b.size : Int) < (m : Int) + 1) = false := by simp; omega
    have j8 : (m : Int) + 1 - 1 = m := by omega
    have j9 : wrap64 (m : Int) = (m : Int) := by have := HB.out; unfold wrap64; omega
    have hbK2 : b.extract 0 (m + 1) = K := hK.symm
    have hM2 := hM.symm
    clear hbK hM
    rcases slt_tri K b with ⟨-, -, -, y1, -, y2, -⟩ | ⟨-, -, -, y1, -, y2, -⟩ | ⟨-, y1, -⟩
    rotate_right
    · rw [hpre] at y1; cases y1
    all_goals
      clear hm1 hm1' hK e0 hlt hhigh hlow hpre h
      go_wp2_with fail
      refine hbet.mono ?_
      rintro e w3 ⟨rfl, h⟩
      clear hbet
      go_wp2_with fail
      go_ret
      exact ⟨rfl, h⟩
  · have e0 : betweenV a b = b := if_neg hlt
    have hbet := between_any (L := L) (E := E) a b w2 HBS.out h
    rw [e0] at hbet
    have z1 : Op.bytesLess a.toList b.toList = false := by rw [slt_walk]; simpa using hlt
    have z2 : (Op.bytesLess b.toList a.toList || (b.toList == a.toList)) = true := by
      rcases slt_tri a b with ⟨h1, -⟩ | ⟨-, -, -, -, h5, -, h7⟩ | ⟨-, -, -, -, h5, -, h7⟩
      · exact absurd h1 hlt
      · rw [h5, h7]; rfl
      · rw [h5]; rfl
    have z9 : (b.toList == b.toList) = true := by simp
    clear hlt e0 h
    go_wp2_with fail
    refine hbet.mono ?_
    rintro e w3 ⟨rfl, h⟩
    clear hbet
    go_wp2_with fail
    go_ret
    exact ⟨rfl, h⟩
end
end Go.Proofs.YtbclmmneiphcaaaDoor
