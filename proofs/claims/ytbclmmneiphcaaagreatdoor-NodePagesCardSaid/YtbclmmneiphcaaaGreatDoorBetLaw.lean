/- latchkeylaw10.addsUp, NodeBetween. -/
import Derived.Test.YtbclmmneiphcaaaGreatDoorAwake10
namespace Go.Proofs.YtbclmmneiphcaaaGreatDoor
open Go.RowKit
theorem addsup_any (n m : Nat) (w : World) (hn : n ≤ 1000000000000000000) (hm : m ≤ 1000000000000000000) :
    Calls Tryz.prog 5 #[.int .i64 n, .int .i64 m] w fun e w' => w = w' ∧ ∃ z : Nat, z ≤ 4294967294 ∧ (z ≤ 2147483647 → z = n + m) ∧ e = .returned (.int .i64 z) := by
  by_cases h1 : 2147483647 < n
  · have i1 : (2147483647 : Int) < n := by omega
    go_enter Tryz.func5, Tryz.ntmps5
    go_wp2_with fail
    go_ret
    exact ⟨rfl, 2147483648, by omega, by omega, rfl⟩
  by_cases h2 : 2147483647 < m
  · have i2 : (2147483647 : Int) < m := by omega
    go_enter Tryz.func5, Tryz.ntmps5
    go_wp2_with fail
    go_ret
    exact ⟨rfl, 2147483648, by omega, by omega, rfl⟩
  · have i1 : ¬ (2147483647 : Int) < n := by omega
    have i2 : ¬ (2147483647 : Int) < m := by omega
    go_enter Tryz.func5, Tryz.ntmps5
    go_wp2_with fail
    go_ret
    exact ⟨rfl, n + m, by omega, fun _ => rfl, by go_num⟩
end Go.Proofs.YtbclmmneiphcaaaGreatDoor
