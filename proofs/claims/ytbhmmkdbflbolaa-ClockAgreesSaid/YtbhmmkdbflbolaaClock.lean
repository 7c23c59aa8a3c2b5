/- Contracts of package clock. -/
import Derived.Test.YtbhmmkdbflbolaaRows
import Derived.Test.YtbhmmkdbflbolaaSl
import Derived.WalkSpells
import Derived.WalkLawsBesides
namespace Go.Proofs.Ytbhmmkdbflbolaa
open Go.RowKit

def near (n : Int) : Int := min (max n 0) 1099511627776
theorem near_bd (n : Int) : 0 ≤ near n ∧ near n ≤ 1099511627776 := by unfold near; omega
theorem ret_int {k : IntKind} {a b : Int} (h : a = b) : Ending.returned (.int k a) = .returned (.int k b) := by rw [h]
theorem ret_bool {a b : Bool} (h : a = b) : Ending.returned (.bool a) = .returned (.bool b) := by rw [h]
def left (now fin : Int) : Int := max (near fin - near now) 0
def within (now start len : Int) : Bool := decide (near start ≤ near now) && decide (near now - near start < len)
def firstOf (l : List Int) : Int := l.foldl (fun o t => min o (near t)) 1099511627776

namespace Clock
theorem nearest (n : Int) (w : World) :
    Calls Try.prog 25 #[.int .i64 n] w fun e w' => e = .returned (.int .i64 (near n)) ∧ w = w' := by
  rcases (by omega : n < 0 ∨ 0 ≤ n ∧ n ≤ 1099511627776 ∨ 1099511627776 < n) with h | h | h
  all_goals
    go_enter Try.func25, Try.ntmps25
    go_wp2
    all_goals go_ret
    all_goals exact ⟨ret_int (by unfold near; omega), rfl⟩

set_option maxHeartbeats 400000 in
theorem add (t d : Int) (w : World) :
    Calls Try.prog 19 #[.int .i64 t, .int .i64 d] w fun e w' => e = .returned (.int .i64 (near (near t + d))) ∧ w = w' := by
  have hb := near_bd t
  go_enter Try.func19, Try.ntmps19
  go_wp2_with (go_at_call 25; refine (nearest _ _).mono ?_; rintro e w' ⟨rfl, rfl⟩)
  all_goals go_ret
  all_goals exact ⟨ret_int (by unfold near at *; omega), rfl⟩

set_option maxHeartbeats 400000 in
theorem left_ (t d : Int) (w : World) :
    Calls Try.prog 21 #[.int .i64 t, .int .i64 d] w fun e w' => e = .returned (.int .i64 (left t d)) ∧ w = w' := by
  have hb := near_bd t
  have hc := near_bd d
  rcases (by omega : near d - near t < 0 ∨ 0 ≤ near d - near t) with h | h
  all_goals
    go_enter Try.func21, Try.ntmps21
    go_wp2_with (go_at_call 25; refine (nearest _ _).mono ?_; rintro e w' ⟨rfl, rfl⟩)
    all_goals go_ret
    all_goals exact ⟨ret_int (by unfold left; omega), rfl⟩

set_option maxHeartbeats 400000 in
theorem within_ (t d n : Int) (w : World) :
    Calls Try.prog 23 #[.int .i64 t, .int .i64 d, .int .i64 n] w fun e w' => e = .returned (.bool (within t d n)) ∧ w = w' := by
  have hb := near_bd t
  have hc := near_bd d
  go_enter Try.func23, Try.ntmps23
  go_wp2_with (go_at_call 25; refine (nearest _ _).mono ?_; rintro e w' ⟨rfl, rfl⟩)
  all_goals go_ret
  all_goals exact ⟨ret_bool (by unfold within; simp; omega), rfl⟩

/-- The clock at b shows t. -/
abbrev T : TypeId := 43
def At (b : Nat) (t : Int) : Hp := Hp.blk b T #[.int .i64 t]

set_option maxHeartbeats 400000 in
theorem new {E : World} {L : List Hp} (n : Int) (w : World) (h : Own E w L) :
    Calls Try.prog 8 #[.int .i64 n] w fun e w' => ∃ b, e = .returned (.pointer (some ⟨b, 0, none⟩)) ∧ Own E w' (At b (near n) :: L) := by
  go_enter Try.func8, Try.ntmps8
  go_wp2_with (go_at_call 25; refine (nearest _ _).mono ?_; rintro e w' ⟨rfl, rfl⟩)
  go_ret
  exact ⟨_, rfl, h.alloc _⟩

set_option maxHeartbeats 400000 in
theorem now {E : World} {L : List Hp} (b : Nat) (t : Int) (w : World) (h : Own E w (At b t :: L)) :
    Calls Try.prog 10 #[.pointer (some ⟨b, 0, none⟩)] w fun e w' => e = .returned (.int .i64 t) ∧ w = w' := by
  have hc := h.cell 0
  go_enter Try.func10, Try.ntmps10
  go_wp2
  go_ret
  exact ⟨rfl, rfl⟩

set_option maxHeartbeats 400000 in
theorem see {E : World} {L : List Hp} (b : Nat) (t r : Int) (w : World) (h : Own E w (At b t :: L)) :
    Calls Try.prog 12 #[.pointer (some ⟨b, 0, none⟩), .int .i64 r] w fun e w' => e = .returned (.int .i64 (max t (near r))) ∧ Own E w' (At b (max t (near r)) :: L) := by
  have hc := h.cell 0
  have hf := h.frozen 0
  rcases (by omega : t < near r ∧ max t (near r) = near r ∨ near r ≤ t ∧ max t (near r) = t) with ⟨hl, hm⟩ | ⟨hl, hm⟩
  all_goals
    rw [hm]
    clear hm
    go_enter Try.func12, Try.ntmps12
    go_wp2_with (first | (go_at_call 25; refine (nearest _ _).mono ?_; rintro e w' ⟨rfl, rfl⟩) | (go_at_call 10; refine (now _ _ _ h).mono ?_; rintro e w' ⟨rfl, rfl⟩) | go_in)
    all_goals go_ret
    all_goals exact ⟨ret_int (by omega), h.set 0 _⟩

set_option maxHeartbeats 400000 in
theorem first (A : Option Addr) (n c : Nat) (zs : List Int) (w : World) (hn : n ≤ maxLen) (h : Rds (Ph.of w) 1 en64 A n zs) :
    Calls Try.prog 16 #[.slice A n c] w fun e w' => e = .returned (.int .i64 (firstOf zs)) ∧ w = w' := by
  unfold maxLen at hn
  have hl := h.1
  go_enter Try.func16, Try.ntmps16
  go_wp2_with fail
  go_loop [3, 8] (fun o i => ∃ k : Nat, k ≤ n ∧ i = .int .i64 k ∧ o = .int .i64 (firstOf (zs.take k))) (fun _ i => n - (intOf i).toNat)
  case atStart => exact ⟨0, Nat.zero_le _, rfl, rfl⟩
  case round =>
    obtain ⟨k, hk, rfl, rfl⟩ := hrel
    by_cases hlt : k < n
    · obtain ⟨x, b, off, hx, rfl, hc⟩ := h.at1 hlt
      have c0 := hc _ rfl
      clear hc h
      have hs : firstOf (zs.take (k + 1)) = min (firstOf (zs.take k)) (near x) := by
        unfold firstOf
        rw [List.take_add_one, hx]
        simp
      have Hs := Lib.hid hs
      clear hs
      clear hx
      have Hl := Lib.hid hl
      clear hl
      go_wp2_with (go_at_call 25; refine (nearest _ _).mono ?_; rintro e w' ⟨rfl, rfl⟩)
      go_round
      case rel => exact ⟨k + 1, by omega, by go_num, by rw [Hs.out]; exact congrArg (Value.int .i64) (by split <;> omega)⟩
      case measure => simp [intOf]; omega
    · go_wp2_with fail
      go_ret
      exact ⟨ret_int (by rw [List.take_of_length_le (by omega)]), rfl⟩
end Clock

end Go.Proofs.Ytbhmmkdbflbolaa
