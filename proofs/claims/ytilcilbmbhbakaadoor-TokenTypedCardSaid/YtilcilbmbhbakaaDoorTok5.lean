/- The reference's id and Parse. -/
import Derived.Test.YtilcilbmbhbakaaDoorTok4
namespace Go.Proofs.YtilcilbmbhbakaaDoor
open Go.RowKit
/-- An ID of eight bytes; 0: none. -/
def idV (l : List UInt8) : Nat := if 4611686018427387904 < numL l then 0 else numL l
section
variable {E : World} {L : List Hp}
theorem xid_any (s : ByteArray) (w : World) (hs : s.size ≤ 8) :
    Calls Tryd.prog 24 #[.string s] w fun e w' => w = w' ∧ e = .returned (.int .i64 (idV s.data.toList : Nat)) := by
  have hsl : s.data.toList.length = s.size := rfl
  have HS := Lib.hid hsl
  clear hsl
  go_enter Tryd.func24, Tryd.ntmps24
  go_wp2_with fail
  go_loopw [3, 4] (fun a i wr => ∃ k : Nat, k ≤ s.size ∧ i = .int .i64 k ∧ a = .int .i64 (numL (s.data.toList.take k) : Nat) ∧ numL (s.data.toList.take k) ≤ 4611686018427388159 ∧ w = wr) (fun _ i _ => s.size - (intOf i).toNat)
  case atStart => exact ⟨0, by omega, rfl, rfl, by show (0 : Nat) ≤ _; omega, rfl⟩
  case round =>
    obtain ⟨k, hk, rfl, rfl, hN, hw⟩ := hrel
    by_cases hlt : k < s.size
    · have hlk : k < s.data.toList.length := hlt
      have hst : numL (s.data.toList.take (k + 1)) = numL (s.data.toList.take k) * 256 + (s.data.toList[k]).toNat := by
        rw [← numL_snoc, List.take_add_one, List.getElem?_eq_getElem hlk]; rfl
      have hle := numL_le s.data.toList (k + 1)
      have hix := byte_index s k k rfl hlt
      rw [List.getD_eq_getElem?_getD, List.getElem?_eq_getElem hlk] at hix
      have hcl := (s.data.toList[k]).toNat_lt
      by_cases hbig : 18014398509481984 < numL (s.data.toList.take k)
      · have hall : idV s.data.toList = 0 := by unfold idV; rw [if_pos (by omega)]
        have HA := Lib.hid hall
        have HW := Lib.hid hw
        clear hw hst hle hix hcl hall hlk
        generalize numL (s.data.toList.take k) = N at *
        have i2 : (k : Int) < s.size := by omega
        have i3 : (18014398509481984 : Int) < N := by omega
        go_wp2_with fail
        go_ret
        exact ⟨HW.out, by rw [HA.out]; rfl⟩
      · have HSt := Lib.hid hst
        have HW := Lib.hid hw
        clear hw hst hle
        obtain ⟨c, hc⟩ : ∃ c : UInt8, c = s.data.toList[k] := ⟨_, rfl⟩
        rw [Option.getD_some, ← hc] at hix
        rw [← hc] at HSt hcl
        clear hc hlk
        generalize numL (s.data.toList.take k) = N at *
        have i1 : (0 : Int) ≤ (k : Int) := by omega
        have i2 : (k : Int) < s.size := by omega
        have i3 : ¬ (18014398509481984 : Int) < N := by omega
        clear hN
        go_wp2_with fail
        go_roundw
        case rel => exact ⟨k + 1, by omega, by go_num, by rw [HSt.out, Nat.mul_comm]; go_num, by rw [HSt.out]; omega, HW.out⟩
        case measure => simp [intOf]; omega
    · obtain rfl : k = s.size := by omega
      have hfull : s.data.toList.take s.size = s.data.toList := List.take_of_length_le (by rw [HS.out]; omega)
      rw [hfull] at hN ⊢
      have HW := Lib.hid hw
      have HI : Hid (idV s.data.toList = if 4611686018427387904 < numL s.data.toList then 0 else numL s.data.toList) := Lib.hid rfl
      clear hw hfull
      generalize numL s.data.toList = N at *
      by_cases hb : 4611686018427387904 < N
      · have hbi : (4611686018427387904 : Int) < N := by omega
        have HJ : Hid (idV s.data.toList = 0) := Lib.hid (by rw [HI.out, if_pos hb])
        clear hb
        go_wp2_with fail
        go_ret
        exact ⟨HW.out, by rw [HJ.out]; rfl⟩
      · have hbi : ¬ (4611686018427387904 : Int) < N := by omega
        have HJ : Hid (idV s.data.toList = N) := Lib.hid (by rw [HI.out, if_neg hb])
        clear hb
        go_wp2_with fail
        go_ret
        exact ⟨HW.out, by rw [HJ.out]; rfl⟩
end
end Go.Proofs.YtilcilbmbhbakaaDoor
