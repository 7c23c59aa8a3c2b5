/- latchkeyref14.Name (printed by gen_xname.py). -/
import Derived.Test.YtnbpbonpcbemdaaLim3
namespace Go.Proofs.Ytnbpbonpcbemdaa
open Go.RowKit
set_option maxHeartbeats 4000000 in
theorem xname_any (s : ByteArray) (w : World) (hs : s.size ≤ 1000000000000000000) :
    Calls Try.prog 30 #[.string s] w fun e w' => e = .returned (.bool (nameB s)) ∧ w = w' := by
  go_enter Try.func30, Try.ntmps30
  go_wp2_with fail
  go_loopw [3] (fun i wr => ∃ k : Nat, k ≤ s.size ∧ i = .int .i64 k ∧ (∀ j (hj : j < s.data.toList.length), j < k → okC s.data.toList[j] = true) ∧ w = wr) (fun i _ => s.size - (intOf i).toNat)
  case atStart => exact ⟨0, by omega, rfl, fun j _ hj => by omega, rfl⟩
  case round =>
    obtain ⟨k, hk, rfl, hall, rfl⟩ := hrel
    have HALL := Lib.hid hall
    clear hall
    by_cases hlt : k < s.size
    · have hlk : k < s.data.toList.length := hlt
      have HNEXT : Hid (okC s.data.toList[k] = true → ∀ j (hj : j < s.data.toList.length), j < k + 1 → okC s.data.toList[j] = true) := Lib.hid fun ho j hj hjk => by
        rcases Nat.lt_or_ge j k with h1 | h1
        · exact HALL.out j hj h1
        · obtain rfl : j = k := by omega
          exact ho
      have HBAD : Hid (okC s.data.toList[k] = false → nameB s = false) := Lib.hid fun hb => by
        unfold nameB; rw [all_bad hlk hb]; rfl
      have hix := byte_index s k k rfl hlt
      have hgd : s.data.toList.getD k 0 = s.data.toList[k] := by rw [List.getD_eq_getElem?_getD, List.getElem?_eq_getElem hlk]; rfl
      rw [hgd] at hix
      obtain ⟨c, hc0⟩ : ∃ c, c = s.data.toList[k] := ⟨_, rfl⟩
      rw [← hc0] at hix HNEXT HBAD
      clear hc0 hgd
      have hc := c.toNat_lt
      clear hlk
      have hlti : (k : Int) < s.size := by omega
      obtain ⟨x, hx⟩ : ∃ x, x = c.toNat := ⟨_, rfl⟩
      rw [← hx] at hix
      have HX := Lib.hid hx
      rw [← hx] at hc
      clear hx
      rcases (by omega : (0 ≤ x ∧ x ≤ 44) ∨ (45 ≤ x ∧ x ≤ 45) ∨ (46 ≤ x ∧ x ≤ 46) ∨ (47 ≤ x ∧ x ≤ 47) ∨ (48 ≤ x ∧ x ≤ 57) ∨ (58 ≤ x ∧ x ≤ 94) ∨ (95 ≤ x ∧ x ≤ 95) ∨ (96 ≤ x ∧ x ≤ 96) ∨ (97 ≤ x ∧ x ≤ 122) ∨ (123 ≤ x ∧ x ≤ 255)) with ⟨k1, k2⟩ | ⟨k1, k2⟩ | ⟨k1, k2⟩ | ⟨k1, k2⟩ | ⟨k1, k2⟩ | ⟨k1, k2⟩ | ⟨k1, k2⟩ | ⟨k1, k2⟩ | ⟨k1, k2⟩ | ⟨k1, k2⟩
      · have f1 : ¬ (97 : Int) ≤ x := by omega
        have f2 : (x : Int) ≤ 122 := by omega
        have f3 : ¬ (48 : Int) ≤ x := by omega
        have f4 : (x : Int) ≤ 57 := by omega
        have f5 : ((x : Int) != 45) = true := by rw [bne_iff_ne]; omega
        have f6 : ((x : Int) != 95) = true := by rw [bne_iff_ne]; omega
        have f7 : ((x : Int) != 46) = true := by rw [bne_iff_ne]; omega
        have hok : okC c = false := by
          have e := HX.out
          unfold okC
          simp only [← e, Bool.or_eq_false_iff, Bool.and_eq_false_iff, decide_eq_false_iff_not, beq_eq_false_iff_ne]
          omega
        have HN := Lib.hid (HBAD.out hok)
        clear k1 k2 hok HNEXT HBAD
        go_wp2_with fail
        go_ret
        exact ⟨by rw [HN.out]; rfl, rfl⟩
      · obtain rfl : x = 45 := by omega
        have hok : okC c = true := by
          have e := HX.out
          unfold okC
          rw [← e]; rfl
        have HN := Lib.hid (HNEXT.out hok)
        clear k1 k2 hok HNEXT HBAD
        go_wp2_with fail
        go_roundw
        case rel => exact ⟨k + 1, by omega, by go_num, HN.out, by first | rfl | trivial⟩
        case measure => simp [intOf]; omega
      · obtain rfl : x = 46 := by omega
        have hok : okC c = true := by
          have e := HX.out
          unfold okC
          rw [← e]; rfl
        have HN := Lib.hid (HNEXT.out hok)
        clear k1 k2 hok HNEXT HBAD
        go_wp2_with fail
        go_roundw
        case rel => exact ⟨k + 1, by omega, by go_num, HN.out, by first | rfl | trivial⟩
        case measure => simp [intOf]; omega
      · obtain rfl : x = 47 := by omega
        have hok : okC c = false := by
          have e := HX.out
          unfold okC
          rw [← e]; rfl
        have HN := Lib.hid (HBAD.out hok)
        clear k1 k2 hok HNEXT HBAD
        go_wp2_with fail
        go_ret
        exact ⟨by rw [HN.out]; rfl, rfl⟩
      · have f1 : ¬ (97 : Int) ≤ x := by omega
        have f2 : (x : Int) ≤ 122 := by omega
        have f3 : (48 : Int) ≤ x := by omega
        have f4 : (x : Int) ≤ 57 := by omega
        have f5 : ((x : Int) != 45) = true := by rw [bne_iff_ne]; omega
        have f6 : ((x : Int) != 95) = true := by rw [bne_iff_ne]; omega
        have f7 : ((x : Int) != 46) = true := by rw [bne_iff_ne]; omega
        have hok : okC c = true := by
          have e := HX.out
          unfold okC
          simp only [← e, Bool.or_eq_true, Bool.and_eq_true, decide_eq_true_eq, beq_iff_eq]
          omega
        have HN := Lib.hid (HNEXT.out hok)
        clear k1 k2 hok HNEXT HBAD
        go_wp2_with fail
        go_roundw
        case rel => exact ⟨k + 1, by omega, by go_num, HN.out, by first | rfl | trivial⟩
        case measure => simp [intOf]; omega
      · have f1 : ¬ (97 : Int) ≤ x := by omega
        have f2 : (x : Int) ≤ 122 := by omega
        have f3 : (48 : Int) ≤ x := by omega
        have f4 : ¬ (x : Int) ≤ 57 := by omega
        have f5 : ((x : Int) != 45) = true := by rw [bne_iff_ne]; omega
        have f6 : ((x : Int) != 95) = true := by rw [bne_iff_ne]; omega
        have f7 : ((x : Int) != 46) = true := by rw [bne_iff_ne]; omega
        have hok : okC c = false := by
          have e := HX.out
          unfold okC
          simp only [← e, Bool.or_eq_false_iff, Bool.and_eq_false_iff, decide_eq_false_iff_not, beq_eq_false_iff_ne]
          omega
        have HN := Lib.hid (HBAD.out hok)
        clear k1 k2 hok HNEXT HBAD
        go_wp2_with fail
        go_ret
        exact ⟨by rw [HN.out]; rfl, rfl⟩
      · obtain rfl : x = 95 := by omega
        have hok : okC c = true := by
          have e := HX.out
          unfold okC
          rw [← e]; rfl
        have HN := Lib.hid (HNEXT.out hok)
        clear k1 k2 hok HNEXT HBAD
        go_wp2_with fail
        go_roundw
        case rel => exact ⟨k + 1, by omega, by go_num, HN.out, by first | rfl | trivial⟩
        case measure => simp [intOf]; omega
      · obtain rfl : x = 96 := by omega
        have hok : okC c = false := by
          have e := HX.out
          unfold okC
          rw [← e]; rfl
        have HN := Lib.hid (HBAD.out hok)
        clear k1 k2 hok HNEXT HBAD
        go_wp2_with fail
        go_ret
        exact ⟨by rw [HN.out]; rfl, rfl⟩
      · have f1 : (97 : Int) ≤ x := by omega
        have f2 : (x : Int) ≤ 122 := by omega
        have f3 : (48 : Int) ≤ x := by omega
        have f4 : ¬ (x : Int) ≤ 57 := by omega
        have f5 : ((x : Int) != 45) = true := by rw [bne_iff_ne]; omega
        have f6 : ((x : Int) != 95) = true := by rw [bne_iff_ne]; omega
        have f7 : ((x : Int) != 46) = true := by rw [bne_iff_ne]; omega
        have hok : okC c = true := by
          have e := HX.out
          unfold okC
          simp only [← e, Bool.or_eq_true, Bool.and_eq_true, decide_eq_true_eq, beq_iff_eq]
          omega
        have HN := Lib.hid (HNEXT.out hok)
        clear k1 k2 hok HNEXT HBAD
        go_wp2_with fail
        go_roundw
        case rel => exact ⟨k + 1, by omega, by go_num, HN.out, by first | rfl | trivial⟩
        case measure => simp [intOf]; omega
      · have f1 : (97 : Int) ≤ x := by omega
        have f2 : ¬ (x : Int) ≤ 122 := by omega
        have f3 : (48 : Int) ≤ x := by omega
        have f4 : ¬ (x : Int) ≤ 57 := by omega
        have f5 : ((x : Int) != 45) = true := by rw [bne_iff_ne]; omega
        have f6 : ((x : Int) != 95) = true := by rw [bne_iff_ne]; omega
        have f7 : ((x : Int) != 46) = true := by rw [bne_iff_ne]; omega
        have hok : okC c = false := by
          have e := HX.out
          unfold okC
          simp only [← e, Bool.or_eq_false_iff, Bool.and_eq_false_iff, decide_eq_false_iff_not, beq_eq_false_iff_ne]
          omega
        have HN := Lib.hid (HBAD.out hok)
        clear k1 k2 hok HNEXT HBAD
        go_wp2_with fail
        go_ret
        exact ⟨by rw [HN.out]; rfl, rfl⟩
    · obtain rfl : k = s.size := by omega
      have hnb : nameB s = (decide (0 < s.size) && decide (s.size ≤ 16)) := by
        have e : s.data.toList.all okC = true := by
          rw [List.all_eq_true]
          intro x hx
          obtain ⟨j, hj, rfl⟩ := List.mem_iff_getElem.1 hx
          exact HALL.out j hj hj
        unfold nameB; rw [e, Bool.true_and]
      have HN := Lib.hid hnb
      have hlti : ¬ (s.size : Int) < s.size := by omega
      clear hnb HALL hlt hk
      rcases (by omega : s.size = 0 ∨ (0 < s.size ∧ s.size ≤ 16) ∨ 16 < s.size) with h0 | ⟨h0, h1⟩ | h0
      · have i0 : ¬ (1 : Int) ≤ s.size := by omega
        go_wp2_with fail
        go_ret
        exact ⟨by rw [HN.out, h0]; rfl, rfl⟩
      · have i0 : (1 : Int) ≤ s.size := by omega
        have i1 : (s.size : Int) ≤ 16 := by omega
        go_wp2_with fail
        go_ret
        exact ⟨by rw [HN.out, decide_eq_true h0, decide_eq_true h1]; rfl, rfl⟩
      · have i0 : (1 : Int) ≤ s.size := by omega
        have i1 : ¬ (s.size : Int) ≤ 16 := by omega
        go_wp2_with fail
        go_ret
        exact ⟨by rw [HN.out, decide_eq_false (show ¬ s.size ≤ 16 by omega), Bool.and_false]; rfl, rfl⟩
end Go.Proofs.Ytnbpbonpcbemdaa
