/- codec.Reader: NewReader, take, number, Num, Text, Done, where nothing is wrong. -/
import Derived.Test.YtabibfabieghpaaGreatDoorWText
namespace Go.Proofs.YtabibfabieghpaaGreatDoor
open Go.RowKit
abbrev RT : TypeId := 180
def Hp.reader (b : Nat) (W : Value) (s : ByteArray) : Hp := Hp.blk b RT #[.string s, W]
/-- What bytes say, the highest first. -/
def numL (l : List UInt8) : Nat := l.foldl (fun n c => n * 256 + c.toNat) 0
theorem numL_snoc (l : List UInt8) (c : UInt8) : numL (l ++ [c]) = numL l * 256 + c.toNat := by unfold numL; rw [List.foldl_append]; rfl
theorem numL_le (l : List UInt8) (k : Nat) : numL (l.take k) ≤ numL l := by
  have h : ∀ (m : List UInt8) (n : Nat), n ≤ m.foldl (fun n c => n * 256 + c.toNat) n := by
    intro m
    induction m with
    | nil => intro n; exact Nat.le_refl _
    | cons c m ih => intro n; exact Nat.le_trans (by omega) (ih (n * 256 + c.toNat))
  have e : numL l = (l.drop k).foldl (fun n c => n * 256 + c.toNat) (numL (l.take k)) := by
    unfold numL
    rw [← List.foldl_append, List.take_append_drop]
  rw [e]
  exact h _ _
theorem byte_or (h c : Nat) (hc : c < 256) (hh : h * 256 < 9223372036854775808) : bits .or .i64 ((h : Int) * 256) (c : Int) = ((h * 256 + c : Nat) : Int) := by
  rw [show (h : Int) * 256 = ((h * 256 : Nat) : Int) by omega]
  rw [i64_or_nat _ _ hh (by omega)]
  have := Nat.shiftLeft_add_eq_or_of_lt (b := c) (i := 8) (by omega) h
  rw [Nat.shiftLeft_eq] at this
  rw [← this]
section
variable {E : World} {L : List Hp}
theorem newreader_any (s : ByteArray) (w : World) (h : Own E w L) :
    Calls Tryz.prog 118 #[.string s] w fun e w' => ∃ b, e = .returned (.pointer (some ⟨b, 0, none⟩)) ∧ Own E w' (Hp.reader b .nilIface s :: L) := by
  go_enter Tryz.func118, Tryz.ntmps118
  go_wp2_with fail
  go_ret
  exact ⟨_, rfl, h.alloc (.cells #[.string s, Value.nilIface] RT)⟩
set_option maxRecDepth 20000 in
theorem number_any (s : ByteArray) (w : World) (hs : s.size ≤ 1000000) (hn : numL s.data.toList < 9223372036854775808) (h : Own E w L) :
    Calls Tryz.prog 137 #[.string s] w fun e w' => e = .returned (.int .i64 (numL s.data.toList : Nat)) ∧ Own E w' L := by
  obtain ⟨cap, w1, hcv, h1⟩ := sl_to_bytes (P := Tryz.prog) (src := ST) (dst := BT) (e := U8) (by kernel_rfl) (by kernel_rfl) (by kernel_rfl) s (by unfold maxLen; omega) h
  generalize w.heap.size = g at *
  have hsl : s.data.toList.length = s.size := rfl
  have HS := Lib.hid hsl
  have HN := Lib.hid hn
  have H1 := Lib.hid h1
  clear h1 h hsl hn
  go_enter Tryz.func137, Tryz.ntmps137
  go_wp2_with (with_reducible refine at_slot (k := some 7) ?_; refine wpList_conv_run (o := ⟨some 7, _, _, _, _, _⟩) hcv rfl rfl rfl ?_; clear hcv)
  go_loopw [3, 9] (fun a i wr => ∃ k : Nat, k ≤ s.size ∧ i = .int .i64 k ∧ a = .int .i64 (numL (s.data.toList.take k) : Nat) ∧ Own E wr (Hp.row U8 1 (.slice (some ⟨g, 0, none⟩) s.size cap) s.size (s.data.toList.map V8') :: L)) (fun _ i _ => s.size - (intOf i).toNat)
  case atStart => exact ⟨0, by omega, rfl, rfl, H1.out⟩
  case round =>
    obtain ⟨k, hk, rfl, rfl, hw⟩ := hrel
    clear H1
    by_cases hlt : k < s.size
    · have hlk : k < s.data.toList.length := hlt
      obtain ⟨g', hg, c1, _⟩ := hw.rowCells k (V8' s.data.toList[k]) (by rw [List.getElem?_map, List.getElem?_eq_getElem hlk]; rfl)
      injection hg with hg
      injection hg with hg
      subst hg
      have hst : numL (s.data.toList.take (k + 1)) = numL (s.data.toList.take k) * 256 + (s.data.toList[k]).toNat := by
        rw [← numL_snoc, List.take_add_one, List.getElem?_eq_getElem hlk]; rfl
      have hle := numL_le s.data.toList (k + 1)
      have hb := HN.out
      have HSt := Lib.hid hst
      have HW := Lib.hid hw
      rw [hst] at hle
      have hN : numL (s.data.toList.take k) ≤ 36028797018963967 := by omega
      have hcl := (s.data.toList[k]).toNat_lt
      have hor := byte_or (numL (s.data.toList.take k)) (s.data.toList[k]).toNat (by omega) (by omega)
      clear hst hw hle hb
      generalize s.data.toList[k] = c at *
      generalize numL (s.data.toList.take k) = N at *
      clear hlk
      have i1 : (0 : Int) ≤ (k : Int) := by omega
      have i2 : (k : Int) < s.size := by omega
      go_wp2_with fail
      go_roundw
      case rel => exact ⟨k + 1, by omega, by go_num, by rw [HSt.out]; go_num, HW.out⟩
      case measure => simp [intOf]; omega
    · obtain rfl : k = s.size := by omega
      rw [List.take_of_length_le (by rw [HS.out]; omega)]
      have HW := Lib.hid hw.drop
      clear hw
      go_wp2_with fail
      go_ret
      exact ⟨rfl, HW.out⟩
end
end Go.Proofs.YtabibfabieghpaaGreatDoor
