/- Small questions on numbers and texts: record.isTime, isID, isGen, isDigest, flag; the reference's time, id. A name, in plain Lean; scope.named, the reference's Name. latchkeyref14.Name: 1 to 16 of a-z, 0-9, - _ . (turned from c24's LimN). strings.ContainsRune of "-_." at a rune from 128 to 255. scope.named: the program's names (its rounds printed by gen_named.py). -/
import Derived.Test.YtabibfabieghpaaGreatDoorPkz0
import Derived.Test.YtabibfabieghpaaGreatDoorPkRead
import Derived.Test.YtabibfabieghpaaGreatDoorPkz3
import Derived.WalkMore
namespace Go.Proofs.YtabibfabieghpaaGreatDoor
open Go.RowKit
/-- What lay there is there still. -/
theorem Own.ofBelow {E w w' : World} {L : List Hp} (h : Own E w L) (hb : Below w.heap.size w w') : Own E w' L := by
  obtain ⟨h1, h2, h3, x, hx, hL⟩ := h
  refine ⟨hb.os.trans h1, hb.tape.trans h2, hb.output.trans h3, x, fun k o hk => ?_, hL⟩
  have hk2 := hx k o hk
  obtain ⟨b1, b2, b3, b4, b5⟩ := hb
  rw [b5 k (lt_of_some hk2)]
  exact hk2
section
variable {E : World} {S : Ph} {L : List Hp}
theorem istime_any (n : Int) (w : World) : Calls Tryz.prog 70 #[.int .i64 n] w fun e w' => e = .returned (.bool (decide (0 ≤ n ∧ n ≤ 1099511627776))) ∧ w = w' := by
  by_cases h1 : 0 ≤ n
  · by_cases h2 : n ≤ 1099511627776
    · have e0 : decide (0 ≤ n ∧ n ≤ 1099511627776) = true := decide_eq_true ⟨h1, h2⟩
      rw [e0]
      clear e0
      go_enter Tryz.func70, Tryz.ntmps70
      go_wp2_with fail
      go_ret
      exact ⟨rfl, rfl⟩
    · have e0 : decide (0 ≤ n ∧ n ≤ 1099511627776) = false := decide_eq_false fun h => h2 h.2
      rw [e0]
      clear e0
      go_enter Tryz.func70, Tryz.ntmps70
      go_wp2_with fail
      go_ret
      exact ⟨rfl, rfl⟩
  · have e0 : decide (0 ≤ n ∧ n ≤ 1099511627776) = false := decide_eq_false fun h => h1 h.1
    rw [e0]
    clear e0
    go_enter Tryz.func70, Tryz.ntmps70
    go_wp2_with fail
    go_ret
    exact ⟨rfl, rfl⟩
theorem isid_any (n : Int) (w : World) : Calls Tryz.prog 73 #[.int .i64 n] w fun e w' => e = .returned (.bool (decide (1 ≤ n ∧ n ≤ 4611686018427387904))) ∧ w = w' := by
  by_cases h1 : 1 ≤ n
  · by_cases h2 : n ≤ 4611686018427387904
    · have e0 : decide (1 ≤ n ∧ n ≤ 4611686018427387904) = true := decide_eq_true ⟨h1, h2⟩
      rw [e0]
      clear e0
      go_enter Tryz.func73, Tryz.ntmps73
      go_wp2_with fail
      go_ret
      exact ⟨rfl, rfl⟩
    · have e0 : decide (1 ≤ n ∧ n ≤ 4611686018427387904) = false := decide_eq_false fun h => h2 h.2
      rw [e0]
      clear e0
      go_enter Tryz.func73, Tryz.ntmps73
      go_wp2_with fail
      go_ret
      exact ⟨rfl, rfl⟩
  · have e0 : decide (1 ≤ n ∧ n ≤ 4611686018427387904) = false := decide_eq_false fun h => h1 h.1
    rw [e0]
    clear e0
    go_enter Tryz.func73, Tryz.ntmps73
    go_wp2_with fail
    go_ret
    exact ⟨rfl, rfl⟩
theorem isgen_any (n : Int) (w : World) : Calls Tryz.prog 111 #[.int .i64 n] w fun e w' => e = .returned (.bool (decide (1 ≤ n ∧ n ≤ 1073741824))) ∧ w = w' := by
  by_cases h1 : 1 ≤ n
  · by_cases h2 : n ≤ 1073741824
    · have e0 : decide (1 ≤ n ∧ n ≤ 1073741824) = true := decide_eq_true ⟨h1, h2⟩
      rw [e0]
      clear e0
      go_enter Tryz.func111, Tryz.ntmps111
      go_wp2_with fail
      go_ret
      exact ⟨rfl, rfl⟩
    · have e0 : decide (1 ≤ n ∧ n ≤ 1073741824) = false := decide_eq_false fun h => h2 h.2
      rw [e0]
      clear e0
      go_enter Tryz.func111, Tryz.ntmps111
      go_wp2_with fail
      go_ret
      exact ⟨rfl, rfl⟩
  · have e0 : decide (1 ≤ n ∧ n ≤ 1073741824) = false := decide_eq_false fun h => h1 h.1
    rw [e0]
    clear e0
    go_enter Tryz.func111, Tryz.ntmps111
    go_wp2_with fail
    go_ret
    exact ⟨rfl, rfl⟩
theorem lasting_any (n : Int) (w : World) : Calls Tryz.prog 123 #[.int .i64 n] w fun e w' => e = .returned (.bool (decide (1 ≤ n ∧ n ≤ 1099511627776))) ∧ w = w' := by
  by_cases h1 : 1 ≤ n
  · by_cases h2 : n ≤ 1099511627776
    · have e0 : decide (1 ≤ n ∧ n ≤ 1099511627776) = true := decide_eq_true ⟨h1, h2⟩
      rw [e0]
      clear e0
      go_enter Tryz.func123, Tryz.ntmps123
      go_wp2_with fail
      go_ret
      exact ⟨rfl, rfl⟩
    · have e0 : decide (1 ≤ n ∧ n ≤ 1099511627776) = false := decide_eq_false fun h => h2 h.2
      rw [e0]
      clear e0
      go_enter Tryz.func123, Tryz.ntmps123
      go_wp2_with fail
      go_ret
      exact ⟨rfl, rfl⟩
  · have e0 : decide (1 ≤ n ∧ n ≤ 1099511627776) = false := decide_eq_false fun h => h1 h.1
    rw [e0]
    clear e0
    go_enter Tryz.func123, Tryz.ntmps123
    go_wp2_with fail
    go_ret
    exact ⟨rfl, rfl⟩
theorem xtime_any (n : Int) (w : World) : Calls Tryz.prog 72 #[.int .i64 n] w fun e w' => e = .returned (.bool (decide (0 ≤ n ∧ n ≤ 1099511627776))) ∧ w = w' := by
  by_cases h1 : 0 ≤ n
  · by_cases h2 : n ≤ 1099511627776
    · have e0 : decide (0 ≤ n ∧ n ≤ 1099511627776) = true := decide_eq_true ⟨h1, h2⟩
      rw [e0]
      clear e0
      go_enter Tryz.func72, Tryz.ntmps72
      go_wp2_with fail
      go_ret
      exact ⟨rfl, rfl⟩
    · have e0 : decide (0 ≤ n ∧ n ≤ 1099511627776) = false := decide_eq_false fun h => h2 h.2
      rw [e0]
      clear e0
      go_enter Tryz.func72, Tryz.ntmps72
      go_wp2_with fail
      go_ret
      exact ⟨rfl, rfl⟩
  · have e0 : decide (0 ≤ n ∧ n ≤ 1099511627776) = false := decide_eq_false fun h => h1 h.1
    rw [e0]
    clear e0
    go_enter Tryz.func72, Tryz.ntmps72
    go_wp2_with fail
    go_ret
    exact ⟨rfl, rfl⟩
theorem xid_any (n : Int) (w : World) : Calls Tryz.prog 76 #[.int .i64 n] w fun e w' => e = .returned (.bool (decide (1 ≤ n ∧ n ≤ 4611686018427387904))) ∧ w = w' := by
  by_cases h1 : 1 ≤ n
  · by_cases h2 : n ≤ 4611686018427387904
    · have e0 : decide (1 ≤ n ∧ n ≤ 4611686018427387904) = true := decide_eq_true ⟨h1, h2⟩
      rw [e0]
      clear e0
      go_enter Tryz.func76, Tryz.ntmps76
      go_wp2_with fail
      go_ret
      exact ⟨rfl, rfl⟩
    · have e0 : decide (1 ≤ n ∧ n ≤ 4611686018427387904) = false := decide_eq_false fun h => h2 h.2
      rw [e0]
      clear e0
      go_enter Tryz.func76, Tryz.ntmps76
      go_wp2_with fail
      go_ret
      exact ⟨rfl, rfl⟩
  · have e0 : decide (1 ≤ n ∧ n ≤ 4611686018427387904) = false := decide_eq_false fun h => h1 h.1
    rw [e0]
    clear e0
    go_enter Tryz.func76, Tryz.ntmps76
    go_wp2_with fail
    go_ret
    exact ⟨rfl, rfl⟩
theorem isdigest_any (s : ByteArray) (w : World) : Calls Tryz.prog 78 #[.string s] w fun e w' => e = .returned (.bool (decide (s.size = 32))) ∧ w = w' := by
  by_cases h1 : s.size = 32
  · have e0 : decide (s.size = 32) = true := decide_eq_true h1
    have h2 : ((s.size : Int) == 32) = true := by rw [beq_iff_eq]; omega
    rw [e0]
    clear e0 h1
    go_enter Tryz.func78, Tryz.ntmps78
    go_wp2_with fail
    go_ret
    exact ⟨rfl, rfl⟩
  · have e0 : decide (s.size = 32) = false := decide_eq_false h1
    have h2 : ((s.size : Int) == 32) = false := by rw [beq_eq_false_iff_ne]; omega
    rw [e0]
    clear e0 h1
    go_enter Tryz.func78, Tryz.ntmps78
    go_wp2_with fail
    go_ret
    exact ⟨rfl, rfl⟩
def flagV (b : Bool) (n : Int) : Int := if b then n else 0
theorem flag_any (b : Bool) (n : Int) (w : World) : Calls Tryz.prog 59 #[.bool b, .int .i64 n] w fun e w' => e = .returned (.int .i64 (flagV b n)) ∧ w = w' := by
  cases b
  · go_enter Tryz.func59, Tryz.ntmps59
    go_wp2_with fail
    go_ret
    exact ⟨rfl, rfl⟩
  · go_enter Tryz.func59, Tryz.ntmps59
    go_wp2_with fail
    go_ret
    exact ⟨rfl, rfl⟩
end
/- NAMES -/
def okC (c : UInt8) : Bool := (97 ≤ c.toNat && c.toNat ≤ 122) || (48 ≤ c.toNat && c.toNat ≤ 57) || c.toNat == 45 || c.toNat == 95 || c.toNat == 46
def nameB (s : ByteArray) : Bool := s.data.toList.all okC && decide (0 < s.size) && decide (s.size ≤ 16)
theorem all_bad {l : List UInt8} {k : Nat} (hk : k < l.length) (h : okC l[k] = false) : l.all okC = false := by
  cases e : l.all okC with
  | false => rfl
  | true => rw [List.all_eq_true.1 e l[k] (List.getElem_mem hk)] at h; cases h
end Go.Proofs.YtabibfabieghpaaGreatDoor
namespace Go.Proofs.YtabibfabieghpaaGreatDoor
open Go.RowKit
set_option maxHeartbeats 4000000 in
theorem xname_any (s : ByteArray) (w : World) (hs : s.size ≤ 1000000000000000000) :
    Calls Tryz.prog 77 #[.string s] w fun e w' => e = .returned (.bool (nameB s)) ∧ w = w' := by
  go_enter Tryz.func77, Tryz.ntmps77
  go_wp2_with fail
  go_loopw [3] (fun i wr => ∃ k : Nat, k ≤ s.size ∧ i = .int .i64 k ∧ (∀ j (hj : j < s.data.toList.length), j < k → okC s.data.toList[j] = true) ∧ w = wr) (fun i _ => s.size - (intOf i).toNat)
  case atStart => exact ⟨0, by omega, rfl, fun j _ hj => by omega, rfl⟩
  case round =>
    obtain ⟨k, hk, rfl, hall, rfl⟩ := hrel
    have HALL := Lib.hid hall
    clear hall
    by_cases hlt : k < s.size
    · have hlk : k < s.data.toList.length := hlt
      have HNEXT : Hid (okC s.data.toList[k] = true → ∀ j (hj : j < s.data.toList.length), j < k + 1 → okC s.data.toList[j] = true) := Lib.hid fun ho j hj hjk => by
        rcases Nat.lt_or_ge j k with h1 | h1
        · exact HALL.out j hj h1
        · obtain rfl : j = k := by omega
          exact ho
      have HBAD : Hid (okC s.data.toList[k] = false → nameB s = false) := Lib.hid fun hb => by
        unfold nameB; rw [all_bad hlk hb]; rfl
      have hix := byte_index s k k rfl hlt
      have hgd : s.data.toList.getD k 0 = s.data.toList[k] := by rw [List.getD_eq_getElem?_getD, List.getElem?_eq_getElem hlk]; rfl
      rw [hgd] at hix
      obtain ⟨c, hc0⟩ : ∃ c, c = s.data.toList[k] := ⟨_, rfl⟩
      rw [← hc0] at hix HNEXT HBAD
      clear hc0 hgd
      have hc := c.toNat_lt
      clear hlk
      have hlti : (k : Int) < s.size := by omega
      obtain ⟨x, hx⟩ : ∃ x, x = c.toNat := ⟨_, rfl⟩
      rw [← hx] at hix
      have HX := Lib.hid hx
      rw [← hx] at hc
      clear hx
      rcases (by omega : (0 ≤ x ∧ x ≤ 44) ∨ (45 ≤ x ∧ x ≤ 45) ∨ (46 ≤ x ∧ x ≤ 46) ∨ (47 ≤ x ∧ x ≤ 47) ∨ (48 ≤ x ∧ x ≤ 57) ∨ (58 ≤ x ∧ x ≤ 94) ∨ (95 ≤ x ∧ x ≤ 95) ∨ (96 ≤ x ∧ x ≤ 96) ∨ (97 ≤ x ∧ x ≤ 122) ∨ (123 ≤ x ∧ x ≤ 255)) with ⟨k1, k2⟩ | ⟨k1, k2⟩ | ⟨k1, k2⟩ | ⟨k1, k2⟩ | ⟨k1, k2⟩ | ⟨k1, k2⟩ | ⟨k1, k2⟩ | ⟨k1, k2⟩ | ⟨k1, k2⟩ | ⟨k1, k2⟩
      · have f1 : ¬ (97 : Int) ≤ x := by omega
        have f2 : (x : Int) ≤ 122 := by omega
        have f3 : ¬ (48 : Int) ≤ x := by omega
        have f4 : (x : Int) ≤ 57 := by omega
        have f5 : ((x : Int) != 45) = true := by rw [bne_iff_ne]; omega
        have f6 : ((x : Int) != 95) = true := by rw [bne_iff_ne]; omega
        have f7 : ((x : Int) != 46) = true := by rw [bne_iff_ne]; omega
        have hok : okC c = false := by
          have e := HX.out
          unfold okC
          simp only [← e, Bool.or_eq_false_iff, Bool.and_eq_false_iff, decide_eq_false_iff_not, beq_eq_false_iff_ne]
          omega
        have HN := Lib.hid (HBAD.out hok)
        clear k1 k2 hok HNEXT HBAD
        go_wp2_with fail
        go_ret
        exact ⟨by rw [HN.out]; rfl, rfl⟩
      · obtain rfl : x = 45 := by omega
        have hok : okC c = true := by
          have e := HX.out
          unfold okC
          rw [← e]; rfl
        have HN := Lib.hid (HNEXT.out hok)
        clear k1 k2 hok HNEXT HBAD
        go_wp2_with fail
        go_roundw
        case rel => exact ⟨k + 1, by omega, by go_num, HN.out, by first | rfl | trivial⟩
        case measure => simp [intOf]; omega
      · obtain rfl : x = 46 := by omega
        have hok : okC c = true := by
          have e := HX.out
          unfold okC
          rw [← e]; rfl
        have HN := Lib.hid (HNEXT.out hok)
        clear k1 k2 hok HNEXT HBAD
        go_wp2_with fail
        go_roundw
        case rel => exact ⟨k + 1, by omega, by go_num, HN.out, by first | rfl | trivial⟩
        case measure => simp [intOf]; omega
      · obtain rfl : x = 47 := by omega
        have hok : okC c = false := by
          have e := HX.out
          unfold okC
          rw [← e]; rfl
        have HN := Lib.hid (HBAD.out hok)
        clear k1 k2 hok HNEXT HBAD
        go_wp2_with fail
        go_ret
        exact ⟨by rw [HN.out]; rfl, rfl⟩
      · have f1 : ¬ (97 : Int) ≤ x := by omega
        have f2 : (x : Int) ≤ 122 := by omega
        have f3 : (48 : Int) ≤ x := by omega
        have f4 : (x : Int) ≤ 57 := by omega
        have f5 : ((x : Int) != 45) = true := by rw [bne_iff_ne]; omega
        have f6 : ((x : Int) != 95) = true := by rw [bne_iff_ne]; omega
        have f7 : ((x : Int) != 46) = true := by rw [bne_iff_ne]; omega
        have hok : okC c = true := by
          have e := HX.out
          unfold okC
          simp only [← e, Bool.or_eq_true, Bool.and_eq_true, decide_eq_true_eq, beq_iff_eq]
          omega
        have HN := Lib.hid (HNEXT.out hok)
        clear k1 k2 hok HNEXT HBAD
        go_wp2_with fail
        go_roundw
        case rel => exact ⟨k + 1, by omega, by go_num, HN.out, by first | rfl | trivial⟩
        case measure => simp [intOf]; omega
      · have f1 : ¬ (97 : Int) ≤ x := by omega
        have f2 : (x : Int) ≤ 122 := by omega
        have f3 : (48 : Int) ≤ x := by omega
        have f4 : ¬ (x : Int) ≤ 57 := by omega
        have f5 : ((x : Int) != 45) = true := by rw [bne_iff_ne]; omega
        have f6 : ((x : Int) != 95) = true := by rw [bne_iff_ne]; omega
        have f7 : ((x : Int) != 46) = true := by rw [bne_iff_ne]; omega
        have hok : okC c = false := by
          have e := HX.out
          unfold okC
          simp only [← e, Bool.or_eq_false_iff, Bool.and_eq_false_iff, decide_eq_false_iff_not, beq_eq_false_iff_ne]
          omega
        have HN := Lib.hid (HBAD.out hok)
        clear k1 k2 hok HNEXT HBAD
        go_wp2_with fail
        go_ret
        exact ⟨by rw [HN.out]; rfl, rfl⟩
      · obtain rfl : x = 95 := by omega
        have hok : okC c = true := by
          have e := HX.out
          unfold okC
          rw [← e]; rfl
        have HN := Lib.hid (HNEXT.out hok)
        clear k1 k2 hok HNEXT HBAD
        go_wp2_with fail
        go_roundw
        case rel => exact ⟨k + 1, by omega, by go_num, HN.out, by first | rfl | trivial⟩
        case measure => simp [intOf]; omega
      · obtain rfl : x = 96 := by omega
        have hok : okC c = false := by
          have e := HX.out
          unfold okC
          rw [← e]; rfl
        have HN := Lib.hid (HBAD.out hok)
        clear k1 k2 hok HNEXT HBAD
        go_wp2_with fail
        go_ret
        exact ⟨by rw [HN.out]; rfl, rfl⟩
      · have f1 : (97 : Int) ≤ x := by omega
        have f2 : (x : Int) ≤ 122 := by omega
        have f3 : (48 : Int) ≤ x := by omega
        have f4 : ¬ (x : Int) ≤ 57 := by omega
        have f5 : ((x : Int) != 45) = true := by rw [bne_iff_ne]; omega
        have f6 : ((x : Int) != 95) = true := by rw [bne_iff_ne]; omega
        have f7 : ((x : Int) != 46) = true := by rw [bne_iff_ne]; omega
        have hok : okC c = true := by
          have e := HX.out
          unfold okC
          simp only [← e, Bool.or_eq_true, Bool.and_eq_true, decide_eq_true_eq, beq_iff_eq]
          omega
        have HN := Lib.hid (HNEXT.out hok)
        clear k1 k2 hok HNEXT HBAD
        go_wp2_with fail
        go_roundw
        case rel => exact ⟨k + 1, by omega, by go_num, HN.out, by first | rfl | trivial⟩
        case measure => simp [intOf]; omega
      · have f1 : (97 : Int) ≤ x := by omega
        have f2 : ¬ (x : Int) ≤ 122 := by omega
        have f3 : (48 : Int) ≤ x := by omega
        have f4 : ¬ (x : Int) ≤ 57 := by omega
        have f5 : ((x : Int) != 45) = true := by rw [bne_iff_ne]; omega
        have f6 : ((x : Int) != 95) = true := by rw [bne_iff_ne]; omega
        have f7 : ((x : Int) != 46) = true := by rw [bne_iff_ne]; omega
        have hok : okC c = false := by
          have e := HX.out
          unfold okC
          simp only [← e, Bool.or_eq_false_iff, Bool.and_eq_false_iff, decide_eq_false_iff_not, beq_eq_false_iff_ne]
          omega
        have HN := Lib.hid (HBAD.out hok)
        clear k1 k2 hok HNEXT HBAD
        go_wp2_with fail
        go_ret
        exact ⟨by rw [HN.out]; rfl, rfl⟩
    · obtain rfl : k = s.size := by omega
      have hnb : nameB s = (decide (0 < s.size) && decide (s.size ≤ 16)) := by
        have e : s.data.toList.all okC = true := by
          rw [List.all_eq_true]
          intro x hx
          obtain ⟨j, hj, rfl⟩ := List.mem_iff_getElem.1 hx
          exact HALL.out j hj hj
        unfold nameB; rw [e, Bool.true_and]
      have HN := Lib.hid hnb
      have hlti : ¬ (s.size : Int) < s.size := by omega
      clear hnb HALL hlt hk
      rcases (by omega : s.size = 0 ∨ (0 < s.size ∧ s.size ≤ 16) ∨ 16 < s.size) with h0 | ⟨h0, h1⟩ | h0
      · have i0 : ¬ (1 : Int) ≤ s.size := by omega
        go_wp2_with fail
        go_ret
        exact ⟨by rw [HN.out, h0]; rfl, rfl⟩
      · have i0 : (1 : Int) ≤ s.size := by omega
        have i1 : (s.size : Int) ≤ 16 := by omega
        go_wp2_with fail
        go_ret
        exact ⟨by rw [HN.out, decide_eq_true h0, decide_eq_true h1]; rfl, rfl⟩
      · have i0 : (1 : Int) ≤ s.size := by omega
        have i1 : ¬ (s.size : Int) ≤ 16 := by omega
        go_wp2_with fail
        go_ret
        exact ⟨by rw [HN.out, decide_eq_false (show ¬ s.size ≤ 16 by omega), Bool.and_false]; rfl, rfl⟩
end Go.Proofs.YtabibfabieghpaaGreatDoor
namespace Go.Proofs.YtabibfabieghpaaGreatDoor
open Go.RowKit
def hy : ByteArray := { data := #[45, 95, 46] }
theorem convrune (r : Int) (w : World) (h0 : 128 ≤ r) (h1 : r < 256) : ∃ a b : UInt8, 128 ≤ b.toNat ∧ (convert 21 9 (.int .i32 r)).run Tryz.prog w = .ok (.string ⟨#[a, b]⟩) w := by
  refine ⟨UInt8.ofNat (0xC0 + r.toNat / 64), UInt8.ofNat (0x80 + r.toNat % 64), ?_, ?_⟩
  · rw [UInt8.toNat_ofNat']; omega
  · have e : Utf8.encode r = ⟨#[UInt8.ofNat (0xC0 + r.toNat / 64), UInt8.ofNat (0x80 + r.toNat % 64)]⟩ := by
      have hv : Utf8.valid r = true := by unfold Utf8.valid; simp only [Bool.or_eq_true, Bool.and_eq_true, decide_eq_true_eq]; omega
      unfold Utf8.encode
      rw [hv]
      have c1 : ¬ r.toNat < 0x80 := by omega
      have c2 : r.toNat < 0x800 := by omega
      simp only [if_true, if_neg c1, if_pos c2]
    unfold convert
    simp only [Sem.run_bind, run_underlying Tryz.underlying21, run_underlying Tryz.underlying9, Result.andThen_ok]
    unfold Conv.intToString
    rw [e]
    rfl
theorem validrune (r : Int) (w : World) (h0 : 128 ≤ r) (h1 : r < 256) : Calls Tryz.prog 176 #[.int .i32 r] w fun e w' => e = .returned (.bool true) ∧ w' = w := by
  go_enter Tryz.func176, Tryz.ntmps176
  have f1 : (0 : Int) ≤ r := by omega
  have f2 : r < 55296 := by omega
  go_wp2_with fail
  go_ret
  exact ⟨rfl, rfl⟩
section
variable {E : World} {L : List Hp}
set_option maxRecDepth 8000 in
set_option maxHeartbeats 4000000 in
theorem indexrune_hi (r : Int) (w : World) (h0 : 128 ≤ r) (h1 : r < 256) (h : Own E w L) : Calls Tryz.prog 162 #[.string hy, .int .i32 r] w fun e w' => e = .returned (.int .i64 (-1)) ∧ Own E w' L := by
  have e176 := fun w => validrune r w h0 h1
  have f1 : (0 : Int) ≤ r := by omega
  have f2 : ¬ r < 128 := by omega
  have f3 : (r == 65533) = false := by rw [beq_eq_false_iff_ne]; omega
  obtain ⟨a, b, hb, hc⟩ := convrune r w h0 h1
  go_enter Tryz.func162, Tryz.ntmps162
  have g1 : ((95 : Int) != (b.toNat : Int)) = true := by rw [bne_iff_ne]; omega
  have hm : ∀ w, Own E w L → Calls Tryz.prog 175 #[.string { data := #[46] }, .int .u8 b.toNat] w fun e w' => e = .returned (.int .i64 (-1)) ∧ Own E w' L := fun w hw => (Tryz.strings_IndexByte { data := #[46] } b.toNat w).mono fun e w' he => ⟨by
    rw [he.1]
    have hb2 : ((46 : UInt8) == b) = false := by
      rw [beq_eq_false_iff_ne]; rintro rfl; revert hb; decide
    have hb3 : (b.toNat : Int).toNat.toUInt8 = b := by
      rw [Int.toNat_natCast]; exact UInt8.ofNat_toNat
    rw [hb3]
    show Ending.returned (.int .i64 (Lib.indexByte [46] b)) = _
    simp only [Lib.indexByte, hb2, Bool.false_eq_true, if_false]
    rfl, he.2 ▸ hw⟩
  go_wp2_with (first | (refine (e176 _).mono ?_; rintro e w' ⟨rfl, rfl⟩; clear e176) | (refine wpList_conv_run (o := ⟨some 18, _, _, _, _, _⟩) hc rfl rfl rfl ?_; clear hc))
  go_step3
  go_wp2_with (refine wpList_conv_run (o := ⟨some 18, _, _, _, _, _⟩) hc rfl rfl rfl ?_; clear hc)
  go_loopw [9] (fun i wr => i = .int .i64 1 ∧ Own E wr L) (fun _ _ => 0)
  case atStart => exact ⟨rfl, h⟩
  case round =>
    obtain ⟨rfl, hw⟩ := hrel
    go_wp2_with fail
    go_step3
    have hx1 : ∀ w, (Instr.index ST (.string hy) (.int .i64 1)).run Tryz.prog w = .ok (.int .u8 (95 : Int)) w := fun w => byte_index hy 1 1 rfl (by decide) w
    have hx2 : ∀ w, (Instr.index ST (.string ⟨#[a, b]⟩) (.int .i64 1)).run Tryz.prog w = .ok (.int .u8 (b.toNat : Int)) w := fun w => byte_index (⟨#[a, b]⟩ : ByteArray) 1 1 rfl (by show 1 < 2; omega) w
    go_wp2_with fail
    refine wp_region_text [] (fun w => Own E w L) (by kernel_rfl) ?_ (fun hS => ?_)
    · exact hw.drew
    refine gp 0 (some 27) ?_
    refine gp 1 (some 28) ?_
    refine gq 2 (some 29) (.int .u8 95) ?_ ?_
    · intro w
      have hq := hx1 w; (try go_simp); first | done | with_reducible rfl
    refine gp 3 (some 30) ?_
    refine gp 4 (some 31) ?_
    refine gq 5 (some 32) (.int .u8 b.toNat) ?_ ?_
    · intro w
      have hq := hx2 w; (try go_simp); first | done | with_reducible rfl
    refine gp 6 (some 33) ?_
    refine wpAnyG_done (by kernel_rfl) ?_ _
    refine NoPanic.normal ?_
    clear hw
    have hw := hS
    clear hS
    generalize World.drew wr = wr at hw ⊢
    go_wp2_with fail
    refine wp_region_text [] (fun w => Own E w L) (by kernel_rfl) ?_ (fun hS => ?_)
    · exact hw.drew
    refine gp 0 (some 34) ?_
    refine gp 1 (some 35) ?_
    refine gq 2 (some 36) (.int .i64 2) ?_ ?_
    · intro w
      (try go_simp); first | done | rfl
    refine gq 3 (some 37) (.string ⟨#[46]⟩) ?_ ?_
    · intro w
      go_simp; first | done | rfl | (rw [if_pos ⟨by decide, by decide⟩]; rfl)
    refine gp 4 (some 38) ?_
    refine gp 5 (some 39) ?_
    refine gq 6 (some 40) (.int .u8 b.toNat) ?_ ?_
    · intro w
      have hq := hx2 w; (try go_simp); first | done | with_reducible rfl
    refine gk 7 (some 41) (fun K hK => ?_)
    rw [if_pos (by rfl)]
    go_simp
    refine (hm _ hS).mono ?_
    rintro e w2 ⟨rfl, hS⟩
    refine hK.out _ _ ?_ (fun hS => ?_)
    · exact hS
    clear hK K
    try simp only [Act.put, List.setIfInBounds_toArray, List.set_cons_zero, List.set_cons_succ]
    refine gp 8 (some 11) ?_
    refine wpAnyG_done (by kernel_rfl) ?_ _
    refine NoPanic.normal ?_
    clear hw
    go_wp2_with fail
    refine (show bodyPost Tryz.prog Tryz.f162 (fun e w' => e = .returned (.int .i64 (-1)) ∧ Own E w' L) Exit.ret _ _ from ?_)
    go_ret
    exact ⟨rfl, hS⟩
theorem rune_hi (r : Int) (w : World) (h0 : 128 ≤ r) (h1 : r < 256) (h : Own E w L) : Calls Tryz.prog 148 #[.string hy, .int .i32 r] w fun e w' => e = .returned (.bool false) ∧ Own E w' L := by
  have e162 := fun w hw => indexrune_hi (E := E) (L := L) r w h0 h1 hw
  go_enter Tryz.func148, Tryz.ntmps148
  go_wp2_with (refine (e162 _ h).mono ?_; rintro e w' ⟨rfl, h⟩)
  go_ret
  exact ⟨rfl, h⟩
end
end Go.Proofs.YtabibfabieghpaaGreatDoor
namespace Go.Proofs.YtabibfabieghpaaGreatDoor
open Go.RowKit
theorem hy_table : ∀ x : Fin 128, decide (0 ≤ Lib.indexByte [45, 95, 46] x.val.toUInt8) = (x.val == 45 || x.val == 95 || x.val == 46) := by decide +kernel
section
variable {E : World} {L : List Hp}
theorem rune_any (x : Nat) (hx : x < 256) (b : Bool) (hb : b = (x == 45 || x == 95 || x == 46)) (w : World) (h : Own E w L) :
    Calls Tryz.prog 148 #[.string hy, .int .i32 x] w fun e w' => e = .returned (.bool b) ∧ Own E w' L := by
  by_cases h1 : x < 128
  · refine (Tryz.strings_ContainsRune_ascii hy x w (by omega) (by omega)).mono ?_
    rintro e w' ⟨rfl, rfl⟩
    refine ⟨?_, h⟩
    rw [Int.toNat_natCast, hb]
    exact congrArg (fun z => Ending.returned (.bool z)) (hy_table ⟨x, h1⟩)
  · have e : b = false := by rw [hb, Bool.eq_iff_iff]; simp only [Bool.or_eq_true, beq_iff_eq, Bool.false_eq_true, iff_false]; omega
    rw [e]
    exact rune_hi x w (by omega) (by omega) h
theorem size_zero {s : ByteArray} (h : s.size = 0) : s = { data := #[] } := by
  obtain ⟨⟨l⟩⟩ := s
  cases l with
  | nil => rfl
  | cons a l => exact absurd h (by show ¬ (l.length + 1 = 0); omega)
set_option maxHeartbeats 4000000 in
theorem named_any (s : ByteArray) (w : World) (h : Own E w L) :
    Calls Tryz.prog 139 #[.string s] w fun e w' => e = .returned (.bool (nameB s)) ∧ Own E w' L := by
  go_enter Tryz.func139, Tryz.ntmps139
  rcases (by omega : s.size = 0 ∨ 16 < s.size ∨ (0 < s.size ∧ s.size ≤ 16)) with h0 | h0 | ⟨h0, h1⟩
  · obtain rfl := size_zero h0
    go_wp2_with fail
    go_ret
    exact ⟨rfl, h⟩
  · have hn : s.toList.isEmpty = false := text_some (by omega)
    have hg : (16 : Int) < s.size := by omega
    have hb : nameB s = false := by unfold nameB; rw [decide_eq_false (show ¬ s.size ≤ 16 by omega), Bool.and_false]
    go_wp2_with fail
    go_ret
    exact ⟨by rw [hb]; rfl, h⟩
  have hn : s.toList.isEmpty = false := text_some (by omega)
  have hg : ¬ (16 : Int) < s.size := by omega
  go_wp2_with fail
  clear hn hg
  go_loopw [14] (fun i wr => ∃ k : Nat, k ≤ s.size ∧ i = .int .i64 k ∧ (∀ j (hj : j < s.data.toList.length), j < k → okC s.data.toList[j] = true) ∧ Own E wr L) (fun i _ => s.size - (intOf i).toNat)
  case atStart => exact ⟨0, by omega, rfl, fun j _ hj => by omega, h⟩
  case round =>
    obtain ⟨k, hk, rfl, hall, hw⟩ := hrel
    clear h
    have HALL := Lib.hid hall
    clear hall
    by_cases hlt : k < s.size
    · have hlk : k < s.data.toList.length := hlt
      have HNEXT : Hid (okC s.data.toList[k] = true → ∀ j (hj : j < s.data.toList.length), j < k + 1 → okC s.data.toList[j] = true) := Lib.hid fun ho j hj hjk => by
        rcases Nat.lt_or_ge j k with h1 | h1
        · exact HALL.out j hj h1
        · obtain rfl : j = k := by omega
          exact ho
      have HBAD : Hid (okC s.data.toList[k] = false → nameB s = false) := Lib.hid fun hb => by
        unfold nameB; rw [all_bad hlk hb]; rfl
      have hix := byte_index s k k rfl hlt
      have hgd : s.data.toList.getD k 0 = s.data.toList[k] := by rw [List.getD_eq_getElem?_getD, List.getElem?_eq_getElem hlk]; rfl
      rw [hgd] at hix
      obtain ⟨c, hc0⟩ : ∃ c, c = s.data.toList[k] := ⟨_, rfl⟩
      rw [← hc0] at hix HNEXT HBAD
      clear hc0 hgd
      have hc := c.toNat_lt
      clear hlk
      have hlti : (k : Int) < s.size := by omega
      obtain ⟨x, hx⟩ : ∃ x, x = c.toNat := ⟨_, rfl⟩
      rw [← hx] at hix
      have HX := Lib.hid hx
      rw [← hx] at hc
      clear hx
      rcases (by omega : (0 ≤ x ∧ x ≤ 44) ∨ (45 ≤ x ∧ x ≤ 45) ∨ (46 ≤ x ∧ x ≤ 46) ∨ (47 ≤ x ∧ x ≤ 47) ∨ (48 ≤ x ∧ x ≤ 57) ∨ (58 ≤ x ∧ x ≤ 94) ∨ (95 ≤ x ∧ x ≤ 95) ∨ (96 ≤ x ∧ x ≤ 96) ∨ (97 ≤ x ∧ x ≤ 122) ∨ (123 ≤ x ∧ x ≤ 255)) with ⟨k1, k2⟩ | ⟨k1, k2⟩ | ⟨k1, k2⟩ | ⟨k1, k2⟩ | ⟨k1, k2⟩ | ⟨k1, k2⟩ | ⟨k1, k2⟩ | ⟨k1, k2⟩ | ⟨k1, k2⟩ | ⟨k1, k2⟩
      · have f1 : (x : Int) < 97 := by omega
        have f2 : ¬ (122 : Int) < x := by omega
        have f3 : (x : Int) < 48 := by omega
        have f4 : ¬ (57 : Int) < x := by omega
        have hrn := rune_any (E := E) (L := L) x (by omega) false (by rw [Bool.eq_iff_iff]; simp only [Bool.or_eq_true, beq_iff_eq, Bool.false_eq_true, false_iff]; omega) wr hw
        clear hw
        have hok : okC c = false := by
          have e := HX.out
          unfold okC
          simp only [← e, Bool.or_eq_false_iff, Bool.and_eq_false_iff, decide_eq_false_iff_not, beq_eq_false_iff_ne]
          omega
        have HN := Lib.hid (HBAD.out hok)
        clear k1 k2 hok HNEXT HBAD
        go_wp2_with (refine hrn.mono ?_; clear hrn; rintro e wr2 ⟨rfl, hw⟩)
        go_ret
        exact ⟨by rw [HN.out]; rfl, by assumption⟩
      · obtain rfl : x = 45 := by omega
        have hrn := rune_any (E := E) (L := L) 45 (by omega) true (by decide) wr hw
        clear hw
        have hok : okC c = true := by
          have e := HX.out
          unfold okC
          rw [← e]; rfl
        have HN := Lib.hid (HNEXT.out hok)
        clear k1 k2 hok HNEXT HBAD
        go_wp2_with (refine hrn.mono ?_; clear hrn; rintro e wr2 ⟨rfl, hw⟩)
        go_roundw
        case rel => exact ⟨k + 1, by omega, by go_num, HN.out, by assumption⟩
        case measure => simp [intOf]; omega
      · obtain rfl : x = 46 := by omega
        have hrn := rune_any (E := E) (L := L) 46 (by omega) true (by decide) wr hw
        clear hw
        have hok : okC c = true := by
          have e := HX.out
          unfold okC
          rw [← e]; rfl
        have HN := Lib.hid (HNEXT.out hok)
        clear k1 k2 hok HNEXT HBAD
        go_wp2_with (refine hrn.mono ?_; clear hrn; rintro e wr2 ⟨rfl, hw⟩)
        go_roundw
        case rel => exact ⟨k + 1, by omega, by go_num, HN.out, by assumption⟩
        case measure => simp [intOf]; omega
      · obtain rfl : x = 47 := by omega
        have hrn := rune_any (E := E) (L := L) 47 (by omega) false (by decide) wr hw
        clear hw
        have hok : okC c = false := by
          have e := HX.out
          unfold okC
          rw [← e]; rfl
        have HN := Lib.hid (HBAD.out hok)
        clear k1 k2 hok HNEXT HBAD
        go_wp2_with (refine hrn.mono ?_; clear hrn; rintro e wr2 ⟨rfl, hw⟩)
        go_ret
        exact ⟨by rw [HN.out]; rfl, by assumption⟩
      · have f1 : (x : Int) < 97 := by omega
        have f2 : ¬ (122 : Int) < x := by omega
        have f3 : ¬ (x : Int) < 48 := by omega
        have f4 : ¬ (57 : Int) < x := by omega
        have hok : okC c = true := by
          have e := HX.out
          unfold okC
          simp only [← e, Bool.or_eq_true, Bool.and_eq_true, decide_eq_true_eq, beq_iff_eq]
          omega
        have HN := Lib.hid (HNEXT.out hok)
        clear k1 k2 hok HNEXT HBAD
        go_wp2_with fail
        go_roundw
        case rel => exact ⟨k + 1, by omega, by go_num, HN.out, by assumption⟩
        case measure => simp [intOf]; omega
      · have f1 : (x : Int) < 97 := by omega
        have f2 : ¬ (122 : Int) < x := by omega
        have f3 : ¬ (x : Int) < 48 := by omega
        have f4 : (57 : Int) < x := by omega
        have hrn := rune_any (E := E) (L := L) x (by omega) false (by rw [Bool.eq_iff_iff]; simp only [Bool.or_eq_true, beq_iff_eq, Bool.false_eq_true, false_iff]; omega) wr hw
        clear hw
        have hok : okC c = false := by
          have e := HX.out
          unfold okC
          simp only [← e, Bool.or_eq_false_iff, Bool.and_eq_false_iff, decide_eq_false_iff_not, beq_eq_false_iff_ne]
          omega
        have HN := Lib.hid (HBAD.out hok)
        clear k1 k2 hok HNEXT HBAD
        go_wp2_with (refine hrn.mono ?_; clear hrn; rintro e wr2 ⟨rfl, hw⟩)
        go_ret
        exact ⟨by rw [HN.out]; rfl, by assumption⟩
      · obtain rfl : x = 95 := by omega
        have hrn := rune_any (E := E) (L := L) 95 (by omega) true (by decide) wr hw
        clear hw
        have hok : okC c = true := by
          have e := HX.out
          unfold okC
          rw [← e]; rfl
        have HN := Lib.hid (HNEXT.out hok)
        clear k1 k2 hok HNEXT HBAD
        go_wp2_with (refine hrn.mono ?_; clear hrn; rintro e wr2 ⟨rfl, hw⟩)
        go_roundw
        case rel => exact ⟨k + 1, by omega, by go_num, HN.out, by assumption⟩
        case measure => simp [intOf]; omega
      · obtain rfl : x = 96 := by omega
        have hrn := rune_any (E := E) (L := L) 96 (by omega) false (by decide) wr hw
        clear hw
        have hok : okC c = false := by
          have e := HX.out
          unfold okC
          rw [← e]; rfl
        have HN := Lib.hid (HBAD.out hok)
        clear k1 k2 hok HNEXT HBAD
        go_wp2_with (refine hrn.mono ?_; clear hrn; rintro e wr2 ⟨rfl, hw⟩)
        go_ret
        exact ⟨by rw [HN.out]; rfl, by assumption⟩
      · have f1 : ¬ (x : Int) < 97 := by omega
        have f2 : ¬ (122 : Int) < x := by omega
        have f3 : ¬ (x : Int) < 48 := by omega
        have f4 : (57 : Int) < x := by omega
        have hok : okC c = true := by
          have e := HX.out
          unfold okC
          simp only [← e, Bool.or_eq_true, Bool.and_eq_true, decide_eq_true_eq, beq_iff_eq]
          omega
        have HN := Lib.hid (HNEXT.out hok)
        clear k1 k2 hok HNEXT HBAD
        go_wp2_with fail
        go_roundw
        case rel => exact ⟨k + 1, by omega, by go_num, HN.out, by assumption⟩
        case measure => simp [intOf]; omega
      · have f1 : ¬ (x : Int) < 97 := by omega
        have f2 : (122 : Int) < x := by omega
        have f3 : ¬ (x : Int) < 48 := by omega
        have f4 : (57 : Int) < x := by omega
        have hrn := rune_any (E := E) (L := L) x (by omega) false (by rw [Bool.eq_iff_iff]; simp only [Bool.or_eq_true, beq_iff_eq, Bool.false_eq_true, false_iff]; omega) wr hw
        clear hw
        have hok : okC c = false := by
          have e := HX.out
          unfold okC
          simp only [← e, Bool.or_eq_false_iff, Bool.and_eq_false_iff, decide_eq_false_iff_not, beq_eq_false_iff_ne]
          omega
        have HN := Lib.hid (HBAD.out hok)
        clear k1 k2 hok HNEXT HBAD
        go_wp2_with (refine hrn.mono ?_; clear hrn; rintro e wr2 ⟨rfl, hw⟩)
        go_ret
        exact ⟨by rw [HN.out]; rfl, by assumption⟩
    · obtain rfl : k = s.size := by omega
      have hnb : nameB s = true := by
        have e : s.data.toList.all okC = true := by
          rw [List.all_eq_true]
          intro x hx
          obtain ⟨j, hj, rfl⟩ := List.mem_iff_getElem.1 hx
          exact HALL.out j hj hj
        unfold nameB; rw [e, Bool.true_and, decide_eq_true (show 0 < s.size by omega), decide_eq_true (show s.size ≤ 16 by omega)]; rfl
      have HN := Lib.hid hnb
      have hlti : ¬ (s.size : Int) < s.size := by omega
      clear hnb HALL hlt hk
      go_wp2_with fail
      go_ret
      exact ⟨by rw [HN.out]; rfl, hw⟩
end
end Go.Proofs.YtabibfabieghpaaGreatDoor
