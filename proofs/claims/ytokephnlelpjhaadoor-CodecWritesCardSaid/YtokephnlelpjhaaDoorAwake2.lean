/- latchkeylaw02.awake. -/
import Derived.Test.YtokephnlelpjhaaDoorAwake
namespace Go.Proofs.YtokephnlelpjhaaDoor
open Go.RowKit
abbrev hiB : ByteArray := ⟨#[104, 105]⟩
abbrev allB : ByteArray := ⟨#[1, 44, 2, 104, 105]⟩
theorem k_write : ([] ++ byN 2 300) ++ byN (ahead 255) hiB.size ++ hiB.data.toList = allB.data.toList := by kernel_rfl
theorem k_read : fromS namesB.data.toList [89, 82] = none := by kernel_rfl
theorem k_b64 : b64 ⟨#[97]⟩ = ⟨#[89, 81]⟩ := by kernel_rfl
theorem k_std : std ⟨#[97]⟩ = ⟨#[89, 81, 61, 61]⟩ := by kernel_rfl
theorem k_hex : hexS ⟨#[0, 255]⟩ = ⟨#[48, 48, 102, 102]⟩ := by kernel_rfl
theorem k_num : numL (allB.data.toList.take 2) = 300 := by kernel_rfl
theorem k_rest : restB allB 2 = ⟨#[2, 104, 105]⟩ := by kernel_rfl
theorem k_len : numL ((⟨#[2, 104, 105]⟩ : ByteArray).data.toList.take (ahead 255)) = 2 := by kernel_rfl
theorem k_text : restB (frontB ⟨#[2, 104, 105]⟩ (ahead 255 + 2)) (ahead 255) = hiB := by kernel_rfl
theorem k_end : restB ⟨#[2, 104, 105]⟩ (ahead 255 + 2) = ⟨#[]⟩ := by kernel_rfl
set_option maxRecDepth 20000 in
set_option maxHeartbeats 1000000 in
theorem awake_any {E : World} {L : List Hp} (w : World) (h : Own E w L) :
    Calls Tryd.prog 9 #[] w fun e w' => e = .returned (.bool true) ∧ Own E w' L := by
  go_enter Tryd.func9, Tryd.ntmps9
  go_wp2_with fail
  refine (newwriter_any _ h).mono ?_
  rintro e w1 ⟨b, rfl, h1⟩
  go_wp2_with fail
  refine (newreader_any allB _ h1).mono ?_
  rintro e w2 ⟨r, rfl, h2⟩
  clear h h1
  go_wp2_with fail
  refine (wnum_any b .nilIface [] 2 300 _ (by omega) (by omega) (by omega) (by omega) (by simp) h2.f1).mono ?_
  rintro e w3 ⟨rfl, h3⟩
  clear h2
  go_wp2_with fail
  refine (wtext_any b .nilIface ([] ++ byN 2 300) 255 hiB _ (by omega) (by show 2 ≤ 255; omega) (by rw [List.length_append, byN_len]; simp) h3).mono ?_
  rintro e w4 ⟨rfl, h4⟩
  rw [k_write] at h4
  clear h3
  go_wp2_with fail
  refine (wdone_any b _ _ h4).mono ?_
  rintro e w5 ⟨rfl, h5⟩
  clear h4
  go_wp2_with fail
  refine (rnum_any r allB 2 _ (by omega) (by omega) (by show 2 ≤ 5; omega) h5.f1).mono ?_
  rintro e w6 ⟨rfl, h6⟩
  rw [k_num]
  rw [k_rest] at h6
  clear h5
  go_wp2_with fail
  refine (rtext_any r ⟨#[2, 104, 105]⟩ 255 2 _ (by omega) (by show 1 ≤ 3; omega) k_len (by omega) (by show 3 ≤ 3; omega) (by show 3 ≤ _; omega) h6).mono ?_
  rintro e w7 ⟨rfl, h7⟩
  rw [k_text]
  rw [k_end] at h7
  clear h6
  go_wp2_with fail
  refine (rdone_any r _ _ rfl h7).mono ?_
  rintro e w8 ⟨rfl, rfl⟩
  have h8 := h7.drop.drop
  clear h7
  go_wp2_with fail
  refine (frombase64_any ⟨#[89, 82]⟩ _ (by show 2 ≤ _; omega) h8).mono ?_
  rintro e w9 ⟨rfl, h9⟩
  rw [show (⟨#[89, 82]⟩ : ByteArray).data.toList = [89, 82] from rfl, k_read]
  clear h8
  dsimp only [readV]
  go_wp2_with fail
  refine (base64_any ⟨#[97]⟩ _ (by show 1 ≤ _; omega) h9).mono ?_
  rintro e w10 ⟨rfl, h10⟩
  rw [k_b64]
  go_wp2_with fail
  refine (standard_any ⟨#[97]⟩ _ (by show 1 ≤ _; omega) h10).mono ?_
  rintro e w11 ⟨rfl, h11⟩
  rw [k_std]
  go_wp2_with fail
  refine (hex_any ⟨#[0, 255]⟩ _ (by show 2 ≤ _; omega) h11).mono ?_
  rintro e w12 ⟨rfl, h12⟩
  rw [k_hex]
  go_wp2_with fail
  go_ret
  exact ⟨rfl, h12⟩
end Go.Proofs.YtokephnlelpjhaaDoor
