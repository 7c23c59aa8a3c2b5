/- The law ClockPlays answers true, whatever it is given. -/
import Derived.Test.YtbhmmkdbflbolaaRef07
import Derived.Deep.RegionHeld3
import Derived.Deep.DrawnRows
namespace Go.Proofs.Ytbhmmkdbflbolaa
open Go.RowKit
attribute [local go_sem ↓] Go.wp_at_zero Go.wp_at_succ

structure Tick where
  other : Bool
  ask : Bool
  reading : Int
abbrev enTick (t : Tick) : List Value := [.bool t.other, .bool t.ask, .int .i64 t.reading]

set_option maxHeartbeats 1000000 in
theorem plays {E : World} {L : List Hp} {S : Ph} (fl fa : Int) (A : Option Addr) (n c : Nat) (ts : List Tick) (w : World) (hn : n ≤ maxLen) (hl : Rds S 3 enTick A n ts) (h : Own E w (Hp.ro S :: L)) :
    Calls Try.prog 3 #[.int .i64 fl, .int .i64 fa, .slice A n c] w fun e w' => e = .returned (.bool true) ∧ Own E w' (Hp.ro S :: L) := by
  unfold maxLen at hn
  go_enter Try.func3, Try.ntmps3
  go_wp2_with fail
  refine (Ref07.awake _ h).mono ?_
  rintro e w0 ⟨rfl, h0⟩
  go_wp2_with fail
  refine (Clock.new _ _ h0).mono ?_
  rintro e w1 ⟨b1, rfl, h1⟩
  go_wp2_with fail
  refine (Clock.new _ _ h1).mono ?_
  rintro e w2 ⟨b2, rfl, h2⟩
  go_wp2_with fail
  refine (Ref07.new _ _ h2).mono ?_
  rintro e w3 ⟨b3, rfl, h3⟩
  go_wp2_with fail
  refine (Ref07.new _ _ h3).mono ?_
  rintro e w4 ⟨b4, rfl, h4⟩
  clear h0 h1 h2 h3
  go_wp2_with fail
  go_loopw [12] (fun i wr => ∃ k : Nat, k ≤ n ∧ i = .int .i64 k ∧ ∃ ta tb : Int, Own E wr (Ref07.At b4 tb :: Ref07.At b3 ta :: Clock.At b2 tb :: Clock.At b1 ta :: Hp.ro S :: L))
    (fun i _ => n - (intOf i).toNat)
  case atStart => exact ⟨0, Nat.zero_le _, rfl, _, _, h4⟩
  case round =>
    obtain ⟨k, hk, rfl, ta, tb, hw⟩ := hrel
    clear h4 h
    by_cases hlt : k < n
    · obtain ⟨⟨o, a, r⟩, b, off, _, rfl, hc⟩ := hl.get hlt
      have c1 := hw.f4.rd (hc 0 _ rfl)
      have c2 := hw.f4.rd (hc 1 _ rfl)
      have c3 := hw.f4.rd (hc 2 _ rfl)
      simp only [Nat.add_zero] at c1
      have HS := Lib.hid (hc 2 _ rfl)
      clear hc hl
      cases o <;> cases a
      · go_wp2_with fail
        go_region_held3 (fun w' => w'.cell? ⟨b, off + k * 3 + 2, none⟩ = some (.int .i64 r)) (first | go_keep | exact g1.f4.rd HS.out | exact g2.f4.rd HS.out)
          (first | (go_at_call 12; refine (Clock.see b1 ta _ _ hw.f3.drew).mono ?_; rintro e w1 ⟨rfl, g1⟩) | (go_at_call 13; refine (Ref07.see b3 ta _ _ g1.f2).mono ?_; rintro e w2 ⟨rfl, g2⟩))
        go_wp2_with fail
        go_roundw
        case rel => exact ⟨k + 1, by omega, by go_num, _, _, g2.ac (by simp only [Hp.all]; ac_rfl)⟩
        case measure => simp [intOf]; omega
      · go_wp2_with (first | (go_at_call 10; refine (Clock.now b1 ta _ hw.f3).mono ?_; rintro e w1 ⟨rfl, rfl⟩) | (go_at_call 11; refine (Ref07.now b3 ta _ hw.f1).mono ?_; rintro e w2 ⟨rfl, rfl⟩))
        go_roundw
        case rel => exact ⟨k + 1, by omega, by go_num, _, _, hw⟩
        case measure => simp [intOf]; omega
      · go_wp2_with fail
        go_region_held3 (fun w' => w'.cell? ⟨b, off + k * 3 + 2, none⟩ = some (.int .i64 r)) (first | go_keep | exact g1.f4.rd HS.out | exact g2.f4.rd HS.out)
          (first | (go_at_call 12; refine (Clock.see b2 tb _ _ hw.f2.drew).mono ?_; rintro e w1 ⟨rfl, g1⟩) | (go_at_call 13; refine (Ref07.see b4 tb _ _ g1.f1).mono ?_; rintro e w2 ⟨rfl, g2⟩))
        go_wp2_with fail
        go_roundw
        case rel => exact ⟨k + 1, by omega, by go_num, _, _, g2.ac (by simp only [Hp.all]; ac_rfl)⟩
        case measure => simp [intOf]; omega
      · go_wp2_with (first | (go_at_call 10; refine (Clock.now b2 tb _ hw.f2).mono ?_; rintro e w1 ⟨rfl, rfl⟩) | (go_at_call 11; refine (Ref07.now b4 tb _ hw).mono ?_; rintro e w2 ⟨rfl, rfl⟩))
        go_roundw
        case rel => exact ⟨k + 1, by omega, by go_num, _, _, hw⟩
        case measure => simp [intOf]; omega
    · go_wp2_with fail
      refine (Clock.now b1 ta _ hw.f3).mono ?_
      rintro e w1 ⟨rfl, rfl⟩
      go_wp2_with fail
      refine (Ref07.now b3 ta _ hw.f1).mono ?_
      rintro e w1 ⟨rfl, rfl⟩
      go_wp2_with fail
      refine (Clock.now b2 tb _ hw.f2).mono ?_
      rintro e w1 ⟨rfl, rfl⟩
      go_wp2_with fail
      refine (Ref07.now b4 tb _ hw).mono ?_
      rintro e w1 ⟨rfl, rfl⟩
      go_wp2_with fail
      go_ret
      exact ⟨ret_bool (by simp), hw.drop.drop.drop.drop⟩
end Go.Proofs.Ytbhmmkdbflbolaa
