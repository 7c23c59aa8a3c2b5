/- latchkeyref01.CRC. -/
import Derived.Test.YtilcilbmbhbakaaDoorWord64
import Derived.Test.YtilcilbmbhbakaaDoorCrc
namespace Go.Proofs.YtilcilbmbhbakaaDoor
open Go.RowKit
theorem ret_u32 {a b : Int} (h : a = b) : Ending.returned (.int .u32 a) = .returned (.int .u32 b) := by rw [h]
theorem wb_poly (x : BitVec 32) : bits .xor .i64 (tn x) 3988292384 = tn (x ^^^ 0xedb88320#32) := by
  have := wb_xor x 0xedb88320#32
  rwa [tn_poly] at this
theorem wb_low (x : BitVec 32) : bits .xor .i64 (tn x) 4294967295 = tn (~~~ x) := by
  have := wb_xor x (BitVec.allOnes 32)
  rw [tn_ones] at this
  rw [this]
  congr 1
  rw [BitVec.xor_allOnes]
set_option maxHeartbeats 1000000 in
theorem refcrc_any (s : ByteArray) (w : World) (hs : s.size ≤ maxLen) :
    Calls Tryd.prog 44 #[.string s] w fun e w' => e = .returned (V32 (Crc.crc s.data.toList)) ∧ w = w' := by
  unfold maxLen at hs
  have e0 : Value.int .i64 4294967295 = V64 (Crc.run (BitVec.allOnes 32) (s.data.toList.take 0)) := by
    show _ = Value.int .i64 (tn (BitVec.allOnes 32))
    rw [tn_ones]
  have E0 := Lib.hid e0
  clear e0
  go_enter Tryd.func44, Tryd.ntmps44
  go_wp2_with fail
  go_loop [3, 4] (fun r i => ∃ k : Nat, k ≤ s.size ∧ i = .int .i64 k ∧ r = V64 (Crc.run (BitVec.allOnes 32) (s.data.toList.take k))) (fun _ i => s.size - (intOf i).toNat)
  case atStart => exact ⟨0, by omega, rfl, E0.out⟩
  case round =>
    obtain ⟨k, hk, rfl, rfl⟩ := hrel
    clear E0
    by_cases hlt : k < s.size
    · have hlk : k < s.data.toList.length := hlt
      have es : s.data.toList.take (k + 1) = s.data.toList.take k ++ [s[k]] := by rw [List.take_add_one, List.getElem?_eq_getElem hlk]; rfl
      have er := crc_snoc (BitVec.allOnes 32) (s.data.toList.take k) s[k]
      rw [← es] at er
      have ER := Lib.hid er
      clear er es
      generalize Crc.run (BitVec.allOnes 32) (s.data.toList.take k) = x at *
      have i1 : (0 : Int) ≤ (k : Int) := by omega
      have i2 : (k : Int) < s.size := by omega
      go_wp2_with fail
      generalize s[k] = y at *
      go_loop [3, 5] (fun r i => ∃ j : Nat, j ≤ 8 ∧ i = .int .i64 j ∧ r = V64 (Crc.shs j (x ^^^ y.toBitVec.setWidth 32))) (fun _ i => 8 - (intOf i).toNat)
      case atStart => exact ⟨0, by omega, rfl, by rw [wrap_byte, wb_xor8]; rfl⟩
      case round =>
        obtain ⟨j, hj, rfl, rfl⟩ := hrel
        by_cases hlt2 : j < 8
        · have e1 : Crc.shs (j + 1) (x ^^^ y.toBitVec.setWidth 32) = Crc.sh (Crc.shs j (x ^^^ y.toBitVec.setWidth 32)) := rfl
          have E1 := Lib.hid e1
          clear e1
          generalize Crc.shs j (x ^^^ y.toBitVec.setWidth 32) = z at *
          have tz := tn_bd z
          by_cases hb : z &&& 1#32 = 1#32
          · have hz : (tn z % 2 == 1) = true := (tn_mod2 z).2 hb
            have e2 : Crc.sh z = (z >>> 1) ^^^ 0xedb88320#32 := by unfold Crc.sh; rw [if_pos hb]
            rw [e2] at E1
            clear hb e2
            go_wp2_with fail
            go_round
            case rel => exact ⟨j + 1, by omega, by go_num, by rw [E1.out, tn_half, wb_poly]⟩
            case measure => simp [intOf]; omega
          · have hz : (tn z % 2 == 1) = false := by
              cases h : (tn z % 2 == 1) with
              | false => rfl
              | true => exact absurd ((tn_mod2 z).1 h) hb
            have e2 : Crc.sh z = z >>> 1 := by unfold Crc.sh; rw [if_neg hb]
            rw [e2] at E1
            clear hb e2
            go_wp2_with fail
            go_round
            case rel => exact ⟨j + 1, by omega, by go_num, by rw [E1.out, tn_half]⟩
            case measure => simp [intOf]; omega
        · obtain rfl : j = 8 := by omega
          have e1 : Crc.shs 8 (x ^^^ y.toBitVec.setWidth 32) = Crc.step x y := rfl
          rw [e1, ← ER.out]
          clear e1 hlt2
          go_wp2_with fail
          go_round
          case rel => exact ⟨k + 1, by omega, by go_num, rfl⟩
          case measure => simp [intOf]; omega
    · obtain rfl : k = s.size := by omega
      have e0 : s.data.toList.take s.size = s.data.toList := List.take_of_length_le (Nat.le_refl _)
      rw [e0]
      have ef : ~~~ Crc.run (BitVec.allOnes 32) s.data.toList = Crc.crc s.data.toList := rfl
      have EF := Lib.hid ef
      clear e0 hlt ef
      generalize Crc.run (BitVec.allOnes 32) s.data.toList = x at *
      have tz := tn_bd (~~~ x)
      go_wp2_with fail
      go_ret
      exact ⟨ret_u32 (by rw [wb_low, ← EF.out]; omega), rfl⟩
end Go.Proofs.YtilcilbmbhbakaaDoor
