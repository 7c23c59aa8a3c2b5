/- codec.length, Writer.Text, where the text fits. -/
import Derived.Test.YtabibfabieghpaaGreatDoorWNum
namespace Go.Proofs.YtabibfabieghpaaGreatDoor
open Go.RowKit
def ahead (most : Nat) : Nat := if 255 < most then 2 else 1
theorem length_any (most : Nat) (w : World) :
    Calls Tryz.prog 146 #[.int .i64 most] w fun e w' => e = .returned (.int .i64 (ahead most : Nat)) ∧ w = w' := by
  by_cases h : 255 < most
  · have hi : (255 : Int) < most := by omega
    have e : ahead most = 2 := if_pos h
    rw [e]
    go_enter Tryz.func146, Tryz.ntmps146
    go_wp2_with fail
    go_ret
    exact ⟨rfl, rfl⟩
  · have hi : ¬ (255 : Int) < most := by omega
    have e : ahead most = 1 := if_neg h
    rw [e]
    go_enter Tryz.func146, Tryz.ntmps146
    go_wp2_with fail
    go_ret
    exact ⟨rfl, rfl⟩
section
variable {E : World} {L : List Hp}
theorem wtext_any (b : Nat) (W : Value) (l : List UInt8) (most : Nat) (s : ByteArray) (w : World) (hm : most ≤ 65535) (hs : s.size ≤ most) (hl : l.length + 70000 ≤ 140737488355328) (h : Own E w (Hp.writer b W l :: L)) :
    Calls Tryz.prog 132 #[.pointer (some ⟨b, 0, none⟩), .int .i64 most, .string s] w fun e w' => e = .returned (.tuple #[]) ∧ Own E w' (Hp.writer b W (l ++ byN (ahead most) s.size ++ s.data.toList) :: L) := by
  have m0 : ¬ (most : Int) < 0 := by omega
  have m1 : ¬ (65535 : Int) < most := by omega
  have m2 : ¬ (most : Int) < s.size := by omega
  have ha : 1 ≤ ahead most ∧ ahead most ≤ 8 ∧ s.size < 256 ^ ahead most := by
    unfold ahead
    split
    · exact ⟨by omega, by omega, by show s.size < 65536; omega⟩
    · exact ⟨by omega, by omega, by show s.size < 256; omega⟩
  have hll : (l ++ byN (ahead most) s.size).length + s.size ≤ 140737488355328 := by rw [List.length_append, byN_len]; omega
  have HLl := Lib.hid hll
  have HA := Lib.hid ha
  have hl8 : l.length + 8 ≤ 140737488355328 := by omega
  have HL8 := Lib.hid hl8
  clear hll ha hl hl8
  go_enter Tryz.func132, Tryz.ntmps132
  go_wp2_with fail
  refine (length_any most _).mono ?_
  rintro e w1 ⟨rfl, rfl⟩
  go_wp2_with fail
  refine (wnum_any b W l (ahead most) s.size _ HA.out.1 HA.out.2.1 HA.out.2.2 (by omega) HL8.out h).mono ?_
  rintro e w2 ⟨rfl, h2⟩
  go_wp2_with fail
  refine (raw_any b W (l ++ byN (ahead most) s.size) s _ HLl.out h2).mono ?_
  rintro e w3 ⟨rfl, h3⟩
  go_wp2_with fail
  go_end0
  exact ⟨rfl, h3⟩
end
end Go.Proofs.YtabibfabieghpaaGreatDoor
