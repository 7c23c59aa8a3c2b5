/- The reference's by, ends, subjects of any numbers; its ParseIndex of any pair (printed by gen_xidx.py). -/
import Derived.Test.YtabibfabieghpaaGreatDoorPkz12
import Derived.Test.YtabibfabieghpaaGreatDoorPkXRdr
import Derived.Test.YtabibfabieghpaaGreatDoorPkIdx3
namespace Go.Proofs.YtabibfabieghpaaGreatDoor
open Go.RowKit
section
variable {E : World} {L : List Hp}
set_option maxRecDepth 20000 in
set_option maxHeartbeats 2000000 in
/-- The reference's by, of any number: some bytes. -/
theorem bysome_any (z : Int) (n : Nat) (w : World) (hn : n ≤ 8) (h : Own E w L) :
    Calls Tryz.prog 64 #[.int .i64 z, .int .i64 n] w fun e w' => ∃ t : ByteArray, t.size = n ∧ e = .returned (.string t) ∧ Own E w' L := by
  obtain ⟨w1, hmk, hw1, -, hb⟩ := sl_make (P := Tryz.prog) (T := BT) (e := U8) (by kernel_rfl) u8_info rfl .i64 .i64 n n (Nat.le_refl _) (by omega) (by unfold maxLen; omega) h
  generalize w.heap.size = g at *
  clear hw1
  have H := Lib.hid (show Own E w1 (Hp.blk g U8 (List.replicate n (.int .u8 0)).toArray :: L) from hb)
  clear hb h
  go_enter Tryz.func64, Tryz.ntmps64
  go_wp2_with (with_reducible refine at_slot (k := some 8) ?_; refine wpList_make_run (o := ⟨some 8, _, _, _, _, _⟩) hmk rfl rfl rfl rfl ?_; clear hmk)
  go_loopw [0, 6] (fun a i wr => ∃ (k : Nat) (q : Int) (l : List UInt8), k ≤ n ∧ a = .int .i64 q ∧ i = .int .i64 ((n : Int) - 1 - k) ∧ l.length = n ∧ Own E wr (Hp.blk g U8 (l.map V8').toArray :: L)) (fun a i _ => (intOf i + 1).toNat)
  case atStart =>
    refine ⟨0, z, List.replicate n 0, by omega, rfl, by go_num, by simp, ?_⟩
    have := H.out
    rw [List.map_replicate]
    exact this
  case round =>
    obtain ⟨k, q, l, hk, rfl, rfl, hl, hw⟩ := hrel
    clear H
    by_cases hlt : k < n
    · obtain ⟨j, hj⟩ : ∃ j : Nat, (n : Int) - 1 - k = j := ⟨n - 1 - k, by omega⟩
      obtain ⟨x, hx⟩ : ∃ x, bits .and .i64 q 255 = x := ⟨_, rfl⟩
      obtain ⟨y, hy⟩ : ∃ y : UInt8, IntKind.u8.wrap x = (y.toNat : Int) := ⟨UInt8.ofNat (x % 256).toNat, by rw [IntKind.wrap_u8, UInt8.toNat_ofNat']; omega⟩
      obtain ⟨⟨old, ho⟩, hf, hs⟩ := hw.put1 j (V8' y) (by rw [List.size_toArray, List.length_map]; omega)
      have hset : (l.map V8').toArray.setIfInBounds j (V8' y) = ((l.set j y).map V8').toArray := by
        rw [List.setIfInBounds_toArray, List.map_set]
      rw [hset] at hs
      have HS := Lib.hid hs
      have HL := Lib.hid (show (l.set j y).length = n by rw [List.length_set]; exact hl)
      rw [hj]
      have hjn2 : (j : Int) < n := by omega
      have hj0 : (0 : Int) ≤ j := by omega
      clear hw hs hset
      unfold V8' at HS
      go_wp2_with fail
      go_roundw
      case rel => exact ⟨k + 1, _, _, hlt, rfl, by go_num, HL.out, HS.out⟩
      case measure =>
        simp only [intOf]
        omega
    · obtain rfl : k = n := by omega
      have hrow := hw.toRow 1 k k (Nat.le_refl _) (by unfold maxLen; omega) (by rw [List.size_toArray, List.length_map]; omega)
      have el : (l.map V8').toArray.toList.take (k * 1) = l.map V8' := by
        rw [Nat.mul_one]
        exact List.take_of_length_le (by rw [List.length_map]; omega)
      rw [el] at hrow
      have hcv := hrow.rowString (P := Tryz.prog) (src := BT) (dst := ST) (by kernel_rfl) (by kernel_rfl) (by kernel_rfl)
      have HF := Lib.hid hrow.drop
      have HL := Lib.hid hl
      clear hw hrow el hl
      have hneg : (k : Int) - 1 - k = -1 := by omega
      rw [hneg]
      clear hneg
      go_wp2_with (with_reducible refine at_slot (k := some 24) ?_; refine wpList_conv_run (o := ⟨some 24, _, _, _, _, _⟩) hcv rfl rfl rfl ?_; clear hcv)
      go_ret
      exact ⟨_, by rw [fl_size]; exact HL.out, rfl, HF.out⟩
set_option maxRecDepth 20000 in
set_option maxHeartbeats 8000000 in
theorem endssome_any (b c : Int) (w : World) (h : Own E w L) :
    Calls Tryz.prog 106 #[.int .i64 b, .int .i64 c] w fun ev w' => ∃ t : ByteArray, ev = .returned (.agg #[.string t, .string ⟨#[]⟩]) ∧ Own E w' L := by
  obtain ⟨dd, hd, hrow⟩ := itt_u
  have H3 := Lib.hid (h.alloc (.cells #[.string ⟨#[]⟩, .string ⟨#[]⟩] ITT))
  have hb1 := fun wq (h : Own E wq (Hp.blk w.heap.size ITT #[.string ⟨#[]⟩, .string ⟨#[]⟩] :: L)) => bysome_any (E := E) b 6 wq (by omega) h
  have hb2 := fun wq (h : Own E wq (Hp.blk w.heap.size ITT #[.string ⟨#[]⟩, .string ⟨#[]⟩] :: L)) => bysome_any (E := E) c 8 wq (by omega) h
  simp only [show ((6 : Nat) : Int) = 6 from rfl, show ((8 : Nat) : Int) = 8 from rfl] at hb1 hb2
  have B1 := Lib.hid hb1
  have B2 := Lib.hid hb2
  clear hb1 hb2 h
  go_enter Tryz.func106, Tryz.ntmps106
  go_wp2_with (first
    | (with_reducible refine (B1.out _ H3.out).mono ?_; clear H3; rintro ev w2 ⟨p1, hp1, rfl, h⟩; have H3 := Lib.hid h; clear h; have q1 : ¬ 9223372036854775807 < 1 + p1.size := by omega)
    | (with_reducible refine (B2.out _ H3.out).mono ?_; clear H3; rintro ev w2 ⟨p2, hp2, rfl, h⟩; have H3 := Lib.hid h; clear h; have q2 : ¬ 9223372036854775807 < 1 + p1.size + p2.size := by omega)
    | (with_reducible refine at_slot (k := none) ?_; refine wpList_store_whole (o := ⟨none, _, _, _, _, _⟩) (cs := [.string ⟨#[]⟩, .string ⟨#[]⟩]) (vs := [.string (⟨#[120]⟩ ++ p1 ++ p2), .string ⟨#[]⟩]) H3.out rfl (pair_one _ _) (by kernel_rfl) rfl rfl rfl rfl ?_; clear H3; intro w7 h; have H9 := Lib.hid h; clear h))
  refine bodyPost_ret (results_arr rfl rfl H9.out hd hrow (by kernel_rfl)) rfl ?_
  exact ⟨_, rfl, H9.out.drop⟩
set_option maxRecDepth 20000 in
set_option maxHeartbeats 8000000 in
theorem subsome_any (su : ByteArray) (c : Int) (w : World) (hs : su.size ≤ 1000000000000000) (h : Own E w L) :
    Calls Tryz.prog 107 #[.string su, .int .i64 c] w fun ev w' => ∃ t : ByteArray, ev = .returned (.agg #[.string t, .string ⟨#[]⟩]) ∧ Own E w' L := by
  obtain ⟨dd, hd, hrow⟩ := itt_u
  have H3 := Lib.hid (h.alloc (.cells #[.string ⟨#[]⟩, .string ⟨#[]⟩] ITT))
  have hb2 := fun wq (h : Own E wq (Hp.blk w.heap.size ITT #[.string ⟨#[]⟩, .string ⟨#[]⟩] :: L)) => bysome_any (E := E) c 8 wq (by omega) h
  simp only [show ((8 : Nat) : Int) = 8 from rfl] at hb2
  have B2 := Lib.hid hb2
  have q1 : ¬ 9223372036854775807 < 1 + su.size := by omega
  have q2 : ¬ 9223372036854775807 < 1 + su.size + 1 := by omega
  clear hb2 h
  go_enter Tryz.func107, Tryz.ntmps107
  go_wp2_with (first
    | (with_reducible refine (B2.out _ H3.out).mono ?_; clear H3; rintro ev w2 ⟨p2, hp2, rfl, h⟩; have H3 := Lib.hid h; clear h; have q3 : ¬ 9223372036854775807 < 1 + su.size + 1 + p2.size := by omega)
    | (with_reducible refine at_slot (k := none) ?_; refine wpList_store_whole (o := ⟨none, _, _, _, _, _⟩) (cs := [.string ⟨#[]⟩, .string ⟨#[]⟩]) (vs := [.string (⟨#[115]⟩ ++ su ++ ⟨#[0]⟩ ++ p2), .string ⟨#[]⟩]) H3.out rfl (pair_one _ _) (by kernel_rfl) rfl rfl rfl rfl ?_; clear H3; intro w7 h; have H9 := Lib.hid h; clear h))
  refine bodyPost_ret (results_arr rfl rfl H9.out hd hrow (by kernel_rfl)) rfl ?_
  exact ⟨_, rfl, H9.out.drop⟩
end
end Go.Proofs.YtabibfabieghpaaGreatDoor
