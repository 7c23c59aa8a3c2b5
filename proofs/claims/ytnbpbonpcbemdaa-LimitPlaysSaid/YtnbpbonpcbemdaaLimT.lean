/- latchkeylaw24.name of any number, add; that a Real is a word. -/
import Derived.Test.YtnbpbonpcbemdaaLimS
import Derived.Test.YtnbpbonpcbemdaaLimD
namespace Go.Proofs.Ytnbpbonpcbemdaa
open Go.RowKit
def nmF (c : Int) (s : ByteArray) : ByteArray := if 20 ≤ c then s else nmS (pickN c 20)
theorem rawF_lt (x : Rl) : rawF x < 4294967296 := by
  have h : Fl.nn ((Ieee.single.div (floatOfInt .f32 x.n) (Fl.R (1 + pickN x.d 4096) 0)).getD 0) := by
    have hp4 := pickN_lt x.d 4096 (by omega)
    obtain ⟨f0, hdiv, hf0⟩ := Fl.div_int (Fl.ofInt_nn x.n) (show 1 ≤ 1 + pickN x.d 4096 by omega) (by omega)
    rw [hdiv]; exact hf0
  exact (Fl.iterF_nn x.e h (pickN x.e 41)).1
theorem neg_lt {b : Nat} (h : b < 4294967296) : Op.negFloat .f32 b < 4294967296 := Nat.xor_lt_two_pow (n := 32) h (by decide)
theorem realF_lt (x : Rl) : realF x < 4294967296 := by
  have h := rawF_lt x
  have h2 := neg_lt h
  unfold realF
  split
  · omega
  · split
    · omega
    · split
      · exact h2
      · split
        · omega
        · split
          · omega
          · exact h
section
variable {E : World} {L : List Hp}
set_option maxHeartbeats 4000000 in
theorem nameF_any (c0 : Int) (s : ByteArray) (w : World) (hb : -9223372036854775808 ≤ c0 ∧ c0 ≤ 9223372036854775807) (h : Own E w L) :
    Calls Try.prog 10 #[.int .i64 c0, .string s] w fun e w' => e = .returned (.string (nmF c0 s)) ∧ Own E w' L := by
  by_cases hc : 20 ≤ c0
  · have e : nmF c0 s = s := if_pos hc
    rw [e]
    have H := Lib.hid h
    clear h e
    go_enter Try.func10, Try.ntmps10
    go_wp2_with fail
    go_ret
    exact ⟨rfl, H.out⟩
  · have e : nmF c0 s = nmS (pickN c0 20) := if_neg hc
    rw [e]
    have kp := fun w => pick_any c0 20 w hb (by omega) (by omega)
    have hk := pickN_lt c0 20 (by omega)
    generalize pickN c0 20 = k at *
    have h2 := h.alloc (.cells #[.int .u8 (UInt8.ofNat (97 + k)).toNat] U8)
    have hrd : RdC (w.alloc (.cells #[.int .u8 (UInt8.ofNat (97 + k)).toNat] U8)) (some ⟨w.heap.size, 0, none⟩) ([UInt8.ofNat (97 + k)].map V8') := RdC.of_block h2.at_ _ (fun j u hu => by simpa [V8'] using hu)
    have hcv := sl_to_string (P := Try.prog) (src := BT) (dst := ST) (e := U8) (by kernel_rfl) (by kernel_rfl) (by kernel_rfl) (some ⟨w.heap.size, 0, none⟩) [UInt8.ofNat (97 + k)] 1 1 rfl hrd
    have e0 : IntKind.i64.wrap (97 + (k : Int)) = 97 + (k : Int) := IntWalk.i64_in _ (by omega)
    have e1 : IntKind.u8.wrap (97 + (k : Int)) = ((UInt8.ofNat (97 + k)).toNat : Int) := by
      rw [UInt8.toNat_ofNat', show (97 : Int) + k = ((97 + k : Nat) : Int) by omega]; simp [IntKind.wrap, IntKind.signed, IntKind.bits]
    have e3 : (⟨#[110]⟩ : ByteArray) ++ (⟨[UInt8.ofNat (97 + k)].toArray⟩ : ByteArray) = nmS k := by
      apply ByteArray.ext
      rw [ByteArray.data_append]; rfl
    obtain ⟨c, hcc⟩ : ∃ c, c = UInt8.ofNat (97 + k) := ⟨_, rfl⟩
    rw [← hcc] at h2 hcv e1 e3
    have H2 := Lib.hid h2.drop
    have E3 := Lib.hid e3
    clear h h2 hrd e3 hcc e
    go_enter Try.func10, Try.ntmps10
    go_wp2_with fail
    refine (kp _).mono ?_
    rintro e w1 ⟨rfl, rfl⟩
    go_wp2_with (with_reducible refine at_slot (k := some 13) ?_; refine wpList_conv_run (o := ⟨some 13, _, _, _, _, _⟩) hcv rfl rfl rfl ?_; clear hcv)
    go_ret
    exact ⟨congrArg (fun s => Ending.returned (.string s)) E3.out, H2.out⟩
end
theorem add_any (n m : Nat) (w : World) (hn : n ≤ 4611686018427380000) (hm : m ≤ 9223372036854775807) :
    Calls Try.prog 13 #[.int .i64 n, .int .i64 m] w fun e w' => ∃ z : Nat, e = .returned (.int .i64 z) ∧ ((z = n + m ∧ z ≤ 2147483647) ∨ (2147483647 < n + m ∧ z = 2147483648)) ∧ w = w' := by
  have j1 : IntKind.i64.wrap (2147483647 - (n : Int)) = 2147483647 - (n : Int) := IntWalk.i64_in _ (by omega)
  by_cases hc : 2147483647 < n + m
  · have i0 : (2147483647 : Int) - n < m := by omega
    go_enter Try.func13, Try.ntmps13
    go_wp2_with fail
    go_ret
    exact ⟨2147483648, rfl, .inr ⟨hc, rfl⟩, rfl⟩
  · have i0 : ¬ (2147483647 : Int) - n < m := by omega
    have j2 : IntKind.i64.wrap ((n : Int) + m) = (n : Int) + m := IntWalk.i64_in _ (by omega)
    go_enter Try.func13, Try.ntmps13
    go_wp2_with fail
    go_ret
    first | exact ⟨n + m, rfl, ⟨rfl, by omega⟩, rfl⟩
end Go.Proofs.Ytnbpbonpcbemdaa
