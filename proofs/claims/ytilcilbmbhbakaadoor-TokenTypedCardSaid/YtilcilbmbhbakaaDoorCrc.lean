/- hash.CRC, hash.Same. -/
import Derived.Test.YtilcilbmbhbakaaDoorBytes
import Derived.Test.YtilcilbmbhbakaaDoorRun
import Derived.Deep.QuietTactic
import Derived.BigQuiet
namespace Go.Proofs.YtilcilbmbhbakaaDoor
open Go.RowKit
attribute [local go_sem] vb_xor vb_and vb_or vb_of8 vb_not' vb_shr1
abbrev BT' : TypeId := 31
theorem tn_one (x : BitVec 32) : bits .and .u32 (tn x) 1 = tn (x &&& 1#32) := by
  have := vb_and x 1#32
  rwa [show tn 1#32 = 1 by simp [tn]] at this
theorem tn_1 : tn 1#32 = 1 := by simp [tn]
theorem tn_poly : tn 0xedb88320#32 = 3988292384 := by simp [tn]
theorem tn_ones : tn (BitVec.allOnes 32) = 4294967295 := by simp [tn]
theorem crc_snoc (r : BitVec 32) (l : List UInt8) (c : UInt8) : Crc.run r (l ++ [c]) = Crc.step (Crc.run r l) c := by simp [Crc.run]
set_option maxHeartbeats 1000000 in
theorem crc_any {E : World} {L : List Hp} (s : ByteArray) (w : World) (hs : s.size ≤ maxLen) (h : Own E w L) :
    Calls Tryd.prog 50 #[.string s] w fun e w' => e = .returned (V32 (Crc.crc s.data.toList)) ∧ Own E w' L := by
  obtain ⟨cap, w1, hcv, h1⟩ := sl_to_bytes (P := Tryd.prog) (src := 9) (dst := BT') (e := U8) (by kernel_rfl) (by kernel_rfl) (by kernel_rfl) s hs h
  unfold maxLen at hs
  generalize w.heap.size = g at *
  have e0 : Value.int .u32 4294967295 = V32 (Crc.run (BitVec.allOnes 32) (s.data.toList.take 0)) := by
    show _ = Value.int .u32 (tn (BitVec.allOnes 32))
    rw [tn_ones]
  have E0 := Lib.hid e0
  have H1 := Lib.hid h1
  clear h1 h e0
  go_enter Tryd.func50, Tryd.ntmps50
  go_wp2_with (refine wpList_conv_run (o := ⟨some 8, _, _, _, _, _⟩) hcv rfl rfl rfl ?_; clear hcv)
  go_loopw [3, 10] (fun r i wr => ∃ k : Nat, k ≤ s.size ∧ i = .int .i64 k ∧ r = V32 (Crc.run (BitVec.allOnes 32) (s.data.toList.take k)) ∧ Own E wr (Hp.row U8 1 (.slice (some ⟨g, 0, none⟩) s.size cap) s.size (s.data.toList.map V8') :: L)) (fun _ i _ => s.size - (intOf i).toNat)
  case atStart => exact ⟨0, by omega, rfl, E0.out, H1.out⟩
  case round =>
    obtain ⟨k, hk, rfl, rfl, hw⟩ := hrel
    clear H1 E0
    by_cases hlt : k < s.size
    · have hlk : k < s.data.toList.length := hlt
      obtain ⟨g', hg, c1, _⟩ := hw.rowCells k (V8' s.data.toList[k]) (by rw [List.getElem?_map, List.getElem?_eq_getElem hlk]; rfl)
      injection hg with hg
      injection hg with hg
      subst hg
      have es : s.data.toList.take (k + 1) = s.data.toList.take k ++ [s.data.toList[k]] := by rw [List.take_add_one, List.getElem?_eq_getElem hlk]; rfl
      have er := crc_snoc (BitVec.allOnes 32) (s.data.toList.take k) s.data.toList[k]
      rw [← es] at er
      have ER := Lib.hid er
      have HW := Lib.hid hw
      clear er es hw
      generalize Crc.run (BitVec.allOnes 32) (s.data.toList.take k) = x at *
      generalize s.data.toList[k] = y at *
      have i1 : (0 : Int) ≤ (k : Int) := by omega
      have i2 : (k : Int) < s.size := by omega
      clear hlk
      go_wp2_with fail
      go_loopw [3, 18] (fun r i wr => ∃ j : Nat, j ≤ 8 ∧ i = .int .i64 j ∧ r = V32 (Crc.shs j (x ^^^ y.toBitVec.setWidth 32)) ∧ Own E wr (Hp.row U8 1 (.slice (some ⟨g, 0, none⟩) s.size cap) s.size (s.data.toList.map V8') :: L)) (fun _ i _ => 8 - (intOf i).toNat)
      case atStart => exact ⟨0, by omega, rfl, rfl, HW.out⟩
      case round =>
        obtain ⟨j, hj, rfl, rfl, hv⟩ := hrel
        clear HW
        have HV := Lib.hid hv
        clear hv
        by_cases hlt2 : j < 8
        · have e1 : Crc.shs (j + 1) (x ^^^ y.toBitVec.setWidth 32) = Crc.sh (Crc.shs j (x ^^^ y.toBitVec.setWidth 32)) := rfl
          have E1 := Lib.hid e1
          clear e1
          generalize Crc.shs j (x ^^^ y.toBitVec.setWidth 32) = z at *
          by_cases hb : z &&& 1#32 = 1#32
          · have hz : (bits .and .u32 (tn z) 1 == 1) = true := by rw [tn_one, hb, tn_1]; rfl
            have e2 : Crc.sh z = (z >>> 1) ^^^ 0xedb88320#32 := by unfold Crc.sh; rw [if_pos hb]
            have e3 : bits .xor .u32 (tn (z >>> 1)) 3988292384 = tn ((z >>> 1) ^^^ 0xedb88320#32) := by
              have := vb_xor (z >>> 1) 0xedb88320#32
              rwa [tn_poly] at this
            rw [e2] at E1
            clear hb e2
            go_wp2_with fail
            go_roundw
            case rel => exact ⟨j + 1, by omega, by go_num, by rw [E1.out], HV.out⟩
            case measure => simp [intOf]; omega
          · have hz : (bits .and .u32 (tn z) 1 == 1) = false := by
              rw [tn_one, beq_eq_false_iff_ne]
              intro e
              refine hb (BitVec.eq_of_toNat_eq ?_)
              unfold tn at e
              have e5 : (1#32).toNat = 1 := rfl
              rw [e5]
              omega
            have e2 : Crc.sh z = z >>> 1 := by unfold Crc.sh; rw [if_neg hb]
            rw [e2] at E1
            clear hb e2
            go_wp2_with fail
            go_roundw
            case rel => exact ⟨j + 1, by omega, by go_num, by rw [E1.out], HV.out⟩
            case measure => simp [intOf]; omega
        · obtain rfl : j = 8 := by omega
          have e1 : Crc.shs 8 (x ^^^ y.toBitVec.setWidth 32) = Crc.step x y := rfl
          rw [e1, ← ER.out]
          clear e1 hlt2
          go_wp2_with fail
          go_roundw
          case rel => exact ⟨k + 1, by omega, by go_num, rfl, HV.out⟩
          case measure => simp [intOf]; omega
    · obtain rfl : k = s.size := by omega
      have e0 : s.data.toList.take s.size = s.data.toList := List.take_of_length_le (Nat.le_refl _)
      rw [e0]
      have HW := Lib.hid hw.drop
      have ef : ~~~ Crc.run (BitVec.allOnes 32) s.data.toList = Crc.crc s.data.toList := rfl
      have EF := Lib.hid ef
      clear hw e0 hlt ef
      generalize Crc.run (BitVec.allOnes 32) s.data.toList = x at *
      go_wp2_with fail
      go_ret
      exact ⟨by rw [← EF.out]; rfl, HW.out⟩

theorem u8x' (a b : UInt8) : bits .xor .u8 (a.toNat : Int) (b.toNat : Int) = ((a ^^^ b).toNat : Int) := by
  rw [u8_xor_nat _ _ a.toNat_lt b.toNat_lt, UInt8.toNat_xor]
theorem u8o (a b : UInt8) : bits .or .u8 (a.toNat : Int) (b.toNat : Int) = ((a ||| b).toNat : Int) := by
  rw [u8_or_nat _ _ a.toNat_lt b.toNat_lt, UInt8.toNat_or]
theorem or_zero (x y z : UInt8) : x ||| (y ^^^ z) = 0 ↔ x = 0 ∧ y = z := by
  rw [UInt8.or_eq_zero_iff, UInt8.xor_eq_zero_iff]
def sameB (a b : ByteArray) : Bool := decide (a.data.toList = b.data.toList)
end Go.Proofs.YtilcilbmbhbakaaDoor
