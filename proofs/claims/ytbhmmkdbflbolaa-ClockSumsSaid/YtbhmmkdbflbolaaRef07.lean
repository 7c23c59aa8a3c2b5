/- Contracts of the reference of layer 7, and of the law's own small functions. -/
import Derived.Test.YtbhmmkdbflbolaaClock
import Derived.Deep.QuietTactic
import Derived.BigQuiet
namespace Go.Proofs.Ytbhmmkdbflbolaa
open Go.RowKit
namespace Ref07
theorem lawNearest (n : Int) (w : World) :
    Calls Try.prog 14 #[.int .i64 n] w fun e w' => e = .returned (.int .i64 (near n)) ∧ w = w' := by
  rcases (by omega : n < 0 ∨ 0 ≤ n ∧ n ≤ 1099511627776 ∨ 1099511627776 < n) with h | h | h
  all_goals
    go_enter Try.func14, Try.ntmps14
    go_wp2
    all_goals go_ret
    all_goals exact ⟨ret_int (by unfold near; omega), rfl⟩

set_option maxHeartbeats 400000 in
theorem nearest (n : Int) (w : World) :
    Calls Try.prog 26 #[.int .i64 n] w fun e w' => e = .returned (.int .i64 (near n)) ∧ w = w' := by
  go_enter Try.func26, Try.ntmps26
  go_wp2
  all_goals go_ret
  all_goals exact ⟨ret_int (by unfold near; omega), rfl⟩

set_option maxHeartbeats 400000 in
theorem add (t d : Int) (w : World) :
    Calls Try.prog 20 #[.int .i64 t, .int .i64 d] w fun e w' => e = .returned (.int .i64 (near (near t + d))) ∧ w = w' := by
  have hb := near_bd t
  go_enter Try.func20, Try.ntmps20
  go_wp2_with (go_at_call 26; refine (nearest _ _).mono ?_; rintro e w' ⟨rfl, rfl⟩)
  all_goals go_ret
  all_goals exact ⟨ret_int (by unfold near at *; omega), rfl⟩

set_option maxHeartbeats 400000 in
theorem left_ (t d : Int) (w : World) :
    Calls Try.prog 22 #[.int .i64 t, .int .i64 d] w fun e w' => e = .returned (.int .i64 (left t d)) ∧ w = w' := by
  have hb := near_bd t
  have hc := near_bd d
  go_enter Try.func22, Try.ntmps22
  go_wp2_with (go_at_call 26; refine (nearest _ _).mono ?_; rintro e w' ⟨rfl, rfl⟩)
  all_goals go_ret
  all_goals exact ⟨ret_int (by unfold left; omega), rfl⟩

set_option maxHeartbeats 400000 in
theorem within_ (t d n : Int) (w : World) :
    Calls Try.prog 24 #[.int .i64 t, .int .i64 d, .int .i64 n] w fun e w' => e = .returned (.bool (within t d n)) ∧ w = w' := by
  have hb := near_bd t
  have hc := near_bd d
  go_enter Try.func24, Try.ntmps24
  go_wp2_with (go_at_call 26; refine (nearest _ _).mono ?_; rintro e w' ⟨rfl, rfl⟩)
  all_goals go_ret
  all_goals exact ⟨ret_bool (by unfold within; simp; omega), rfl⟩

abbrev T : TypeId := 45
def At (b : Nat) (t : Int) : Hp := Hp.blk b T #[.int .i64 t]

set_option maxHeartbeats 400000 in
theorem new {E : World} {L : List Hp} (n : Int) (w : World) (h : Own E w L) :
    Calls Try.prog 9 #[.int .i64 n] w fun e w' => ∃ b, e = .returned (.pointer (some ⟨b, 0, none⟩)) ∧ Own E w' (At b (near n) :: L) := by
  go_enter Try.func9, Try.ntmps9
  go_wp2_with (go_at_call 26; refine (nearest _ _).mono ?_; rintro e w' ⟨rfl, rfl⟩)
  go_ret
  exact ⟨_, rfl, h.alloc _⟩

set_option maxHeartbeats 400000 in
theorem now {E : World} {L : List Hp} (b : Nat) (t : Int) (w : World) (h : Own E w (At b t :: L)) :
    Calls Try.prog 11 #[.pointer (some ⟨b, 0, none⟩)] w fun e w' => e = .returned (.int .i64 t) ∧ w = w' := by
  have hc := h.cell 0
  go_enter Try.func11, Try.ntmps11
  go_wp2
  go_ret
  exact ⟨rfl, rfl⟩

set_option maxHeartbeats 400000 in
theorem see {E : World} {L : List Hp} (b : Nat) (t r : Int) (w : World) (h : Own E w (At b t :: L)) :
    Calls Try.prog 13 #[.pointer (some ⟨b, 0, none⟩), .int .i64 r] w fun e w' => e = .returned (.int .i64 (max t (near r))) ∧ Own E w' (At b (max t (near r)) :: L) := by
  have hc := h.cell 0
  have hf := h.frozen 0
  rcases (by omega : t < near r ∧ max t (near r) = near r ∨ near r ≤ t ∧ max t (near r) = t) with ⟨hl, hm⟩ | ⟨hl, hm⟩
  all_goals
    rw [hm]
    clear hm
    go_enter Try.func13, Try.ntmps13
    go_wp2_with (go_at_call 26; refine (nearest _ _).mono ?_; rintro e w' ⟨rfl, rfl⟩)
    all_goals go_ret
    all_goals first | exact ⟨rfl, h.set 0 _⟩ | exact ⟨rfl, h⟩

set_option maxHeartbeats 400000 in
theorem first (A : Option Addr) (n c : Nat) (zs : List Int) (w : World) (hn : n ≤ maxLen) (h : Rds (Ph.of w) 1 en64 A n zs) :
    Calls Try.prog 18 #[.slice A n c] w fun e w' => e = .returned (.int .i64 (firstOf zs)) ∧ w = w' := by
  unfold maxLen at hn
  have hl := h.1
  go_enter Try.func18, Try.ntmps18
  go_wp2_with fail
  go_loop [3, 4] (fun o i => ∃ k : Nat, k ≤ n ∧ i = .int .i64 k ∧ o = .int .i64 (firstOf (zs.take k))) (fun _ i => n - (intOf i).toNat)
  case atStart => exact ⟨0, Nat.zero_le _, rfl, rfl⟩
  case round =>
    obtain ⟨k, hk, rfl, rfl⟩ := hrel
    by_cases hlt : k < n
    · obtain ⟨x, b, off, hx, rfl, hc⟩ := h.at1 hlt
      have c0 := hc _ rfl
      clear hc h
      have hs : firstOf (zs.take (k + 1)) = min (firstOf (zs.take k)) (near x) := by
        unfold firstOf
        rw [List.take_add_one, hx]
        simp
      have Hs := Lib.hid hs
      clear hs
      clear hx
      have Hl := Lib.hid hl
      clear hl
      go_wp2_with (go_at_call 26; refine (nearest _ _).mono ?_; rintro e w' ⟨rfl, rfl⟩)
      all_goals
        go_round
        case rel => exact ⟨k + 1, by omega, by go_num, by rw [Hs.out]; exact congrArg (Value.int .i64) (by omega)⟩
        case measure => simp [intOf]; omega
    · go_wp2_with fail
      go_ret
      exact ⟨ret_int (by rw [List.take_of_length_le (by omega)]), rfl⟩

set_option maxHeartbeats 400000 in
theorem awake {E : World} {L : List Hp} (w : World) (h : Own E w L) :
    Calls Try.prog 7 #[] w fun e w' => e = .returned (.bool true) ∧ Own E w' L := by
  go_enter Try.func7, Try.ntmps7
  go_wp2_with fail
  refine (Clock.new _ _ h).mono ?_
  rintro e w1 ⟨b, rfl, h1⟩
  go_wp2_with fail
  refine (Clock.see b _ _ _ h1).mono ?_
  rintro e w2 ⟨rfl, h2⟩
  go_wp2_with fail
  refine (Clock.see b _ _ _ h2).mono ?_
  rintro e w3 ⟨rfl, h3⟩
  have e1 : (max (max (near 5) (near 9)) (near 7) == (9 : Int)) = true := by decide
  have e2 : (max (near 5) (near 9) == (9 : Int)) = true := by decide
  go_wp2_with fail
  refine (Clock.add _ _ _).mono ?_
  rintro e w' ⟨rfl, rfl⟩
  have e3 : (near (near 10 + 5) == (15 : Int)) = true := by decide
  go_wp2_with fail
  refine (Clock.left_ _ _ _).mono ?_
  rintro e w' ⟨rfl, rfl⟩
  have e4 : (left 3 10 == (7 : Int)) = true := by decide
  go_wp2_with fail
  refine (Clock.within_ _ _ _ _).mono ?_
  rintro e w' ⟨rfl, rfl⟩
  have e5 : within 10 10 1 = true := by decide
  go_wp2
  go_ret
  exact ⟨ret_bool (by first | exact e5 | rfl), h3.drop⟩
end Ref07
end Go.Proofs.Ytbhmmkdbflbolaa
