/- latchkeylaw02.add and latchkeylaw02.pick. -/
import Derived.Test.YtokephnlelpjhaaDoorStr
namespace Go.Proofs.YtokephnlelpjhaaDoor
open Go.RowKit
/-- A sum that stops one past the bound. -/
def addN (n m : Nat) : Nat := if 2147483647 < n + m then 2147483648 else n + m
theorem addN_le (n m : Nat) (h : addN n m ≤ 2147483647) : n + m ≤ 2147483647 := by
  unfold addN at h
  split at h <;> omega
theorem addN_small (n m : Nat) (h : n + m ≤ 2147483647) : addN n m = n + m := by
  unfold addN
  rw [if_neg (by omega)]
theorem addN_top (n m : Nat) : addN n m ≤ 2147483648 := by
  unfold addN
  split <;> omega
theorem addN_many (n m : Nat) (h : 2147483647 < n + m) : addN n m = 2147483648 := by
  unfold addN
  rw [if_pos h]
set_option maxRecDepth 4000 in
theorem add_any (n m : Nat) (w : World) (hn : n ≤ 1000000000000000000) (hm : m ≤ 1000000000000000000) :
    Calls Tryd.prog 22 #[.int .i64 n, .int .i64 m] w fun e w' => e = .returned (.int .i64 (addN n m : Nat)) ∧ w = w' := by
  by_cases hc : 2147483647 < n + m
  · rw [addN_many n m hc]
    go_enter Tryd.func22, Tryd.ntmps22
    go_wp2
    go_ret
    exact ⟨rfl, rfl⟩
  · rw [addN_small n m (by omega)]
    go_enter Tryd.func22, Tryd.ntmps22
    go_wp2
    go_ret
    exact ⟨ret_i64 (by omega), rfl⟩
/-- pick: a number below n. -/
def pickN (c : Int) (n : Nat) : Nat := ((if c < 0 then -(c + 1) else c) % (n : Int)).toNat
theorem pickN_lt (c : Int) (n : Nat) (h : 0 < n) : pickN c n < n := by
  unfold pickN
  have := Int.emod_lt_of_pos (if c < 0 then -(c + 1) else c) (show (0 : Int) < n by omega)
  have := Int.emod_nonneg (if c < 0 then -(c + 1) else c) (show (n : Int) ≠ 0 by omega)
  omega
theorem pickN_eq (c : Int) (n : Nat) (h : 0 < n) : ((pickN c n : Nat) : Int) = (if c < 0 then -(c + 1) else c) % (n : Int) := by
  unfold pickN
  have := Int.emod_nonneg (if c < 0 then -(c + 1) else c) (show (n : Int) ≠ 0 by omega)
  omega
theorem pick_any (c : Int) (n : Nat) (w : World) (hc : -9223372036854775808 ≤ c ∧ c ≤ 9223372036854775807) (hn : 0 < n) (hn2 : n ≤ 9223372036854775807) :
    Calls Tryd.prog 12 #[.int .i64 c, .int .i64 n] w fun e w' => e = .returned (.int .i64 (pickN c n : Nat)) ∧ w = w' := by
  have h0 : ((n : Int) == 0) = false := by rw [beq_eq_false_iff_ne]; omega
  have hp := pickN_eq c n hn
  have hlt := pickN_lt c n hn
  obtain ⟨m, hm⟩ : ∃ m, m = pickN c n := ⟨_, rfl⟩
  rw [← hm] at hp hlt ⊢
  clear hm
  by_cases h : c < 0
  · rw [if_pos h] at hp
    have h1 : 0 ≤ -(c + 1) := by omega
    have HM := Lib.hid hp
    clear hp
    go_enter Tryd.func12, Tryd.ntmps12
    go_wp2
    go_ret
    exact ⟨ret_i64 (by rw [← Int.neg_tmod, Int.tmod_eq_emod_of_nonneg h1, HM.out]), rfl⟩
  · rw [if_neg h] at hp
    have HM := Lib.hid hp
    clear hp
    go_enter Tryd.func12, Tryd.ntmps12
    go_wp2
    go_ret
    exact ⟨ret_i64 HM.out.symm, rfl⟩
end Go.Proofs.YtokephnlelpjhaaDoor
