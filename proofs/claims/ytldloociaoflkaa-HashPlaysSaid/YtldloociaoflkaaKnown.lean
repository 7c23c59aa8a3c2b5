/- latchkeylaw01.known. -/
import Derived.Test.YtldloociaoflkaaKnownFacts
import Derived.Test.YtldloociaoflkaaPkg
import Derived.Test.YtldloociaoflkaaCrc
namespace Go.Proofs.Ytldloociaoflkaa
open Go.RowKit
theorem str_index (l : List UInt8) (k : Nat) (c : UInt8) (h : l.getD k 0 = c) (hk : k < l.length) (w : World) : (Instr.index ST (.string ⟨l.toArray⟩) (.int .i64 k)).run Try.prog w = .ok (.int .u8 c.toNat) w := by
  have hs : (⟨l.toArray⟩ : ByteArray).size = l.length := rfl
  have h0 : (0 : Int) ≤ (k : Int) := by omega
  have h1 : (k : Int) < (⟨l.toArray⟩ : ByteArray).size := by rw [hs]; omega
  have hc : l[k] = c := by rw [← h]; simp [List.getD, hk]
  rw [run_index_string (P := Try.prog) w ST _ .i64 _ (by kernel_rfl), dif_pos ⟨h0, h1⟩]
  have hg : (⟨l.toArray⟩ : ByteArray)[((k : Int)).toNat]'(by rw [hs]; simpa using hk) = c := by
    rw [← hc]; rfl
  rw [hg]
set_option maxHeartbeats 2000000 in
theorem known_any {E : World} {L : List Hp} (w : World) (h : Own E w L) :
    Calls Try.prog 12 #[] w fun e w' => e = .returned (.bool true) ∧ Own E w' L := by
  obtain ⟨a1, ha1⟩ : ∃ a : ByteArray, a = ⟨#[97]⟩ := ⟨_, rfl⟩
  obtain ⟨a2, ha2⟩ : ∃ a : ByteArray, a = ⟨#[98, 99]⟩ := ⟨_, rfl⟩
  obtain ⟨P, hP⟩ : ∃ P : ByteArray, P = ⟨(Sha.sum [97, 98, 99]).toArray⟩ := ⟨_, rfl⟩
  obtain ⟨M, hM⟩ : ∃ M : ByteArray, M = ⟨(Sha.mac [107, 101, 121] [108, 97, 116, 99, 104]).toArray⟩ := ⟨_, rfl⟩
  have hPs : P.size = 32 := by rw [hP]; rfl
  have hMs : M.size = 32 := by rw [hM]; rfl
  have i0 : ∀ W, (Instr.index ST (.string P) (.int .i64 0)).run Try.prog W = .ok (.int .u8 186) W := fun W => by rw [hP]; exact str_index _ 0 186 sum_known0 (by rw [Sha.sum_length]; omega) W
  have i1 : ∀ W, (Instr.index ST (.string P) (.int .i64 1)).run Try.prog W = .ok (.int .u8 120) W := fun W => by rw [hP]; exact str_index _ 1 120 sum_known1 (by rw [Sha.sum_length]; omega) W
  have i2 : ∀ W, (Instr.index ST (.string P) (.int .i64 31)).run Try.prog W = .ok (.int .u8 173) W := fun W => by rw [hP]; exact str_index _ 31 173 sum_known31 (by rw [Sha.sum_length]; omega) W
  have i3 : ∀ W, (Instr.index ST (.string M) (.int .i64 0)).run Try.prog W = .ok (.int .u8 21) W := fun W => by rw [hM]; exact str_index _ 0 21 mac_known0 (by rw [Sha.mac_length]; omega) W
  have i4 : ∀ W, (Instr.index ST (.string M) (.int .i64 31)).run Try.prog W = .ok (.int .u8 22) W := fun W => by rw [hM]; exact str_index _ 31 22 mac_known31 (by rw [Sha.mac_length]; omega) W
  have HP := Lib.hid hP
  have HM := Lib.hid hM
  clear hP hM ha1 ha2
  go_enter Try.func12, Try.ntmps12
  go_wp2_with fail
  refine (new_any _ h).mono ?_
  rintro e w1 ⟨b, rfl, h1⟩
  clear h
  go_wp2_with fail
  refine (hsum_any _ 3 3 [⟨#[97]⟩, ⟨#[]⟩, ⟨#[98, 99]⟩] _ (by unfold maxLen; omega) (Rds.of_blk [⟨#[97]⟩, ⟨#[]⟩, ⟨#[98, 99]⟩] rfl) (by simp [joined]) (h1.alloc (.cells #[.string ⟨#[97]⟩, .string ⟨#[]⟩, .string ⟨#[98, 99]⟩] ST))).mono ?_
  rintro e w2 ⟨rfl, h2⟩
  have eP : (⟨(Sha.sum (joined [⟨#[97]⟩, ⟨#[]⟩, ⟨#[98, 99]⟩])).toArray⟩ : ByteArray) = P := by rw [HP.out]; rfl
  rw [eP]
  clear eP h1
  have h3 := h2.drop
  clear h2
  go_wp2_with fail
  refine (write_any b [] ⟨#[97]⟩ _ (by simp; decide) h3).mono ?_
  rintro e w3 ⟨rfl, h4⟩
  clear h3
  go_wp2_with fail
  refine (copy_any b _ _ h4).mono ?_
  rintro e w4 ⟨c, rfl, h5⟩
  clear h4
  go_wp2_with fail
  refine (write_any c _ ⟨#[98, 99]⟩ _ (by decide) h5).mono ?_
  rintro e w5 ⟨rfl, h6⟩
  clear h5
  go_wp2_with fail
  refine (mac_any _ _ 2 2 [⟨#[108, 97, 116]⟩, ⟨#[99, 104]⟩] _ (by unfold maxLen; omega) (Rds.of_blk [⟨#[108, 97, 116]⟩, ⟨#[99, 104]⟩] rfl) (by decide) (by simp [joined]) (h6.alloc (.cells #[.string ⟨#[108, 97, 116]⟩, .string ⟨#[99, 104]⟩] ST))).mono ?_
  rintro e w6 ⟨rfl, h7⟩
  have eM : (⟨(Sha.mac (⟨#[107, 101, 121]⟩ : ByteArray).data.toList (joined [⟨#[108, 97, 116]⟩, ⟨#[99, 104]⟩])).toArray⟩ : ByteArray) = M := by rw [HM.out]; rfl
  rw [eM]
  clear eM h6
  have h8 := h7.drop
  clear h7
  go_wp2_with fail
  refine (sum_any c _ _ (by decide) h8).mono ?_
  rintro e w7 ⟨rfl, h9⟩
  have eP : (⟨(Sha.sum ([] ++ (⟨#[97]⟩ : ByteArray).data.toList ++ (⟨#[98, 99]⟩ : ByteArray).data.toList)).toArray⟩ : ByteArray) = P := by rw [HP.out]; rfl
  rw [eP]
  clear eP h8
  go_wp2_with fail
  refine (len_any b _ _ h9.f1).mono ?_
  rintro e w8 ⟨rfl, rfl⟩
  have e1 : ((([] ++ (⟨#[97]⟩ : ByteArray).data.toList).length : Nat) : Int) = 1 := rfl
  rw [e1]
  clear e1
  go_wp2_with fail
  refine (crc_any _ _ (by unfold maxLen; decide) h9).mono ?_
  rintro e w9 ⟨rfl, h10⟩
  have e2 : V32 (Crc.crc (⟨#[49, 50, 51, 52, 53, 54, 55, 56, 57]⟩ : ByteArray).data.toList) = .int .u32 3421780262 := by
    show Value.int .u32 (tn (Crc.crc [49, 50, 51, 52, 53, 54, 55, 56, 57])) = _
    rw [crc_known]
    simp [tn]
  rw [e2]
  clear e2 h9
  go_wp2_with fail
  refine (same_any _ _ _ (by unfold maxLen; decide) h10).mono ?_
  rintro e w10 ⟨rfl, h11⟩
  have e3 : sameB ⟨#[97]⟩ ⟨#[97]⟩ = true := rfl
  rw [e3]
  clear e3 h10
  go_wp2_with fail
  refine (same_any _ _ _ (by unfold maxLen; decide) h11).mono ?_
  rintro e w11 ⟨rfl, h12⟩
  have e3 : sameB ⟨#[97]⟩ ⟨#[98]⟩ = false := rfl
  rw [e3]
  clear e3 h11
  go_wp2_with fail
  go_ret
  exact ⟨rfl, h12.drop.drop⟩
end Go.Proofs.Ytldloociaoflkaa
