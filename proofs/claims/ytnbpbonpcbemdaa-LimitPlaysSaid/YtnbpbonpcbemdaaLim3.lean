/- latchkeylaw24.near, name; limit.isName. -/
import Derived.Test.YtnbpbonpcbemdaaLim2
namespace Go.Proofs.Ytnbpbonpcbemdaa
open Go.RowKit
/-- a number from 0 to 2^20, and so many parts of it -/
def nearV (c d : Int) : Nat := Fl.Q (Fl.R (pickN c 1048576) 0) (Fl.R (1 + pickN d 1000) 0)
theorem nearV_le (c d : Int) : nearV c d ≤ Fl.R 1 60 :=
  Fl.Q_le _ _ (Fl.R_int_fin _ (by have := pickN_lt c 1048576 (by omega); omega)) (Fl.R_int_fin _ (by have := pickN_lt d 1000 (by omega); omega)) (Fl.V_int (by have := pickN_lt c 1048576 (by omega); omega)) (Fl.V_int1 (by omega))
theorem nearV_fin (c d : Int) : nearV c d < 2139095040 := Nat.lt_of_le_of_lt (nearV_le c d) Fl.big60
theorem near_any (c d : Int) (w : World) (hc : -9223372036854775808 ≤ c ∧ c ≤ 9223372036854775807) (hd : -9223372036854775808 ≤ d ∧ d ≤ 9223372036854775807) :
    Calls Try.prog 7 #[.int .i64 c, .int .i64 d] w fun e w' => e = .returned (.float .f32 (nearV c d)) ∧ w = w' := by
  have l1 := pickN_lt c 1048576 (by omega)
  have l2 := pickN_lt d 1000 (by omega)
  have hq : floatBits .quo .f32 (floatOfInt .f32 (pickN c 1048576 : Nat)) (floatOfInt .f32 (1 + (pickN d 1000 : Int))) = some (nearV c d) := by
    rw [show (1 + (pickN d 1000 : Int)) = ((1 + pickN d 1000 : Nat) : Int) by omega, Fl.ofInt, Fl.ofInt]
    refine Fl.div_pos _ _ (Fl.R_int_fin _ (by omega)) (Fl.R_int_fin _ (by omega)) ?_
    have := Fl.R_mono 0 (show 1 ≤ 1 + pickN d 1000 by omega)
    rw [Fl.one_rung] at this
    omega
  have kp := fun w => pick_any c 1048576 w hc (by omega) (by omega)
  have kq := fun w => pick_any d 1000 w hd (by omega) (by omega)
  generalize nearV c d = z at *
  generalize pickN c 1048576 = x at *
  generalize pickN d 1000 = y at *
  have p1 := fun t (w : World) => run_float_arith (P := Try.prog) w .quo t .f32 _ _ _ hq
  have j1 : IntKind.i64.wrap (1 + (y : Int)) = 1 + (y : Int) := IntWalk.i64_in _ (by omega)
  clear hq
  go_enter Try.func7, Try.ntmps7
  go_wp2_with fail
  refine (kp _).mono ?_
  rintro e w1 ⟨rfl, rfl⟩
  go_wp2_with fail
  refine (kq _).mono ?_
  rintro e w1 ⟨rfl, rfl⟩
  go_wp2_with fail
  go_ret
  exact ⟨rfl, rfl⟩
/-- a byte that may stand in a name -/
def okC (c : UInt8) : Bool := (97 ≤ c.toNat && c.toNat ≤ 122) || (48 ≤ c.toNat && c.toNat ≤ 57) || c.toNat == 45 || c.toNat == 95 || c.toNat == 46
def nameB (s : ByteArray) : Bool := s.data.toList.all okC && decide (0 < s.size) && decide (s.size ≤ 16)
theorem all_bad {l : List UInt8} {k : Nat} (hk : k < l.length) (h : okC l[k] = false) : l.all okC = false := by
  rw [List.all_eq_false]
  exact ⟨l[k], List.getElem_mem hk, by rw [h]; exact Bool.false_ne_true⟩
section
variable {E : World} {L : List Hp}
set_option maxHeartbeats 4000000 in
theorem isname_any (s : ByteArray) (w : World) (hs : s.size ≤ 1000000000000000000) (hm : s.size ≤ maxLen) (h : Own E w L) :
    Calls Try.prog 24 #[.string s] w fun e w' => e = .returned (.bool (nameB s)) ∧ Own E w' L := by
  have hsl : s.data.toList.length = s.size := rfl
  obtain ⟨cap, w1, hcv, h2⟩ := sl_to_bytes (P := Try.prog) (src := ST) (dst := 58) (e := 5) (by kernel_rfl) (by kernel_rfl) (by kernel_rfl) s hm h
  generalize w.heap.size = g at *
  have HS := Lib.hid hsl
  have H1 := Lib.hid h2
  clear hsl h h2
  go_enter Try.func24, Try.ntmps24
  go_wp2_with (with_reducible refine at_slot (k := some 8) ?_; refine wpList_conv_run (o := ⟨some 8, _, _, _, _, _⟩) hcv rfl rfl rfl ?_; clear hcv)
  go_loopw [10] (fun i wr => ∃ k : Nat, k ≤ s.size ∧ i = .int .i64 k ∧ (∀ j (hj : j < s.data.toList.length), j < k → okC s.data.toList[j] = true) ∧ Own E wr (Hp.row 5 1 (.slice (some ⟨g, 0, none⟩) s.size cap) s.size (s.data.toList.map V8') :: L)) (fun i _ => s.size - (intOf i).toNat)
  case atStart => exact ⟨0, by omega, rfl, fun j _ hj => by omega, H1.out⟩
  case round =>
    obtain ⟨k, hk, rfl, hall, hw⟩ := hrel
    clear H1
    have HALL := Lib.hid hall
    clear hall
    by_cases hlt : k < s.size
    · have hlk : k < s.data.toList.length := hlt
      obtain ⟨g', hg, c1, _⟩ := hw.rowCells k (V8' s.data.toList[k]) (by rw [List.getElem?_map, List.getElem?_eq_getElem hlk]; rfl)
      injection hg with hg
      injection hg with hg
      subst hg
      have HW := Lib.hid hw
      have HNEXT : Hid (okC s.data.toList[k] = true → ∀ j (hj : j < s.data.toList.length), j < k + 1 → okC s.data.toList[j] = true) := Lib.hid fun ho j hj hjk => by
        rcases Nat.lt_or_ge j k with h1 | h1
        · exact HALL.out j hj h1
        · obtain rfl : j = k := by omega
          exact ho
      have HBAD : Hid (okC s.data.toList[k] = false → nameB s = false) := Lib.hid fun hb => by
        unfold nameB; rw [all_bad hlk hb]; rfl
      clear hw
      have HOK := Lib.hid (rfl : okC s.data.toList[k] = okC s.data.toList[k])
      obtain ⟨c, hc0⟩ : ∃ c, c = s.data.toList[k] := ⟨_, rfl⟩
      rw [← hc0] at c1 HNEXT HBAD HOK
      clear hc0
      have hc := c.toNat_lt
      clear hlk
      have hlti : (k : Int) < s.size := by omega
      obtain ⟨x, hx⟩ : ∃ x, x = c.toNat := ⟨_, rfl⟩
      have hV : V8' c = .int .u8 (x : Int) := by rw [hx]
      rw [hV] at c1
      have HX := Lib.hid hx
      rw [← hx] at hc
      clear hx hV
      rcases (by omega : (0 ≤ x ∧ x ≤ 44) ∨ (45 ≤ x ∧ x ≤ 45) ∨ (46 ≤ x ∧ x ≤ 46) ∨ (47 ≤ x ∧ x ≤ 47) ∨ (48 ≤ x ∧ x ≤ 57) ∨ (58 ≤ x ∧ x ≤ 94) ∨ (95 ≤ x ∧ x ≤ 95) ∨ (96 ≤ x ∧ x ≤ 96) ∨ (97 ≤ x ∧ x ≤ 122) ∨ (123 ≤ x ∧ x ≤ 255)) with ⟨k1, k2⟩ | ⟨k1, k2⟩ | ⟨k1, k2⟩ | ⟨k1, k2⟩ | ⟨k1, k2⟩ | ⟨k1, k2⟩ | ⟨k1, k2⟩ | ⟨k1, k2⟩ | ⟨k1, k2⟩ | ⟨k1, k2⟩
      · have f1 : ¬ (97 : Int) ≤ x := by omega
        have f2 : (x : Int) ≤ 122 := by omega
        have f3 : ¬ (48 : Int) ≤ x := by omega
        have f4 : (x : Int) ≤ 57 := by omega
        have f5 : ((x : Int) != 45) = true := by rw [bne_iff_ne]; omega
        have f6 : ((x : Int) != 95) = true := by rw [bne_iff_ne]; omega
        have f7 : ((x : Int) != 46) = true := by rw [bne_iff_ne]; omega
        have hok : okC c = false := by
          have e := HX.out
          unfold okC
          simp only [← e, Bool.or_eq_false_iff, Bool.and_eq_false_iff, decide_eq_false_iff_not, beq_eq_false_iff_ne]
          omega
        have HN := Lib.hid (HBAD.out hok)
        clear k1 k2 hok HNEXT HBAD HOK
        go_wp2_with fail
        go_ret
        exact ⟨by rw [HN.out]; rfl, HW.out.drop⟩
      · obtain rfl : x = 45 := by omega
        have hok : okC c = true := by
          have e := HX.out
          unfold okC
          rw [← e]; rfl
        have HN := Lib.hid (HNEXT.out hok)
        clear k1 k2 hok HNEXT HBAD HOK
        go_wp2_with fail
        go_roundw
        case rel => exact ⟨k + 1, by omega, by go_num, HN.out, HW.out⟩
        case measure => simp [intOf]; omega
      · obtain rfl : x = 46 := by omega
        have hok : okC c = true := by
          have e := HX.out
          unfold okC
          rw [← e]; rfl
        have HN := Lib.hid (HNEXT.out hok)
        clear k1 k2 hok HNEXT HBAD HOK
        go_wp2_with fail
        go_roundw
        case rel => exact ⟨k + 1, by omega, by go_num, HN.out, HW.out⟩
        case measure => simp [intOf]; omega
      · obtain rfl : x = 47 := by omega
        have hok : okC c = false := by
          have e := HX.out
          unfold okC
          rw [← e]; rfl
        have HN := Lib.hid (HBAD.out hok)
        clear k1 k2 hok HNEXT HBAD HOK
        go_wp2_with fail
        go_ret
        exact ⟨by rw [HN.out]; rfl, HW.out.drop⟩
      · have f1 : ¬ (97 : Int) ≤ x := by omega
        have f2 : (x : Int) ≤ 122 := by omega
        have f3 : (48 : Int) ≤ x := by omega
        have f4 : (x : Int) ≤ 57 := by omega
        have f5 : ((x : Int) != 45) = true := by rw [bne_iff_ne]; omega
        have f6 : ((x : Int) != 95) = true := by rw [bne_iff_ne]; omega
        have f7 : ((x : Int) != 46) = true := by rw [bne_iff_ne]; omega
        have hok : okC c = true := by
          have e := HX.out
          unfold okC
          simp only [← e, Bool.or_eq_true, Bool.and_eq_true, decide_eq_true_eq, beq_iff_eq]
          omega
        have HN := Lib.hid (HNEXT.out hok)
        clear k1 k2 hok HNEXT HBAD HOK
        go_wp2_with fail
        go_roundw
        case rel => exact ⟨k + 1, by omega, by go_num, HN.out, HW.out⟩
        case measure => simp [intOf]; omega
      · have f1 : ¬ (97 : Int) ≤ x := by omega
        have f2 : (x : Int) ≤ 122 := by omega
        have f3 : (48 : Int) ≤ x := by omega
        have f4 : ¬ (x : Int) ≤ 57 := by omega
        have f5 : ((x : Int) != 45) = true := by rw [bne_iff_ne]; omega
        have f6 : ((x : Int) != 95) = true := by rw [bne_iff_ne]; omega
        have f7 : ((x : Int) != 46) = true := by rw [bne_iff_ne]; omega
        have hok : okC c = false := by
          have e := HX.out
          unfold okC
          simp only [← e, Bool.or_eq_false_iff, Bool.and_eq_false_iff, decide_eq_false_iff_not, beq_eq_false_iff_ne]
          omega
        have HN := Lib.hid (HBAD.out hok)
        clear k1 k2 hok HNEXT HBAD HOK
        go_wp2_with fail
        go_ret
        exact ⟨by rw [HN.out]; rfl, HW.out.drop⟩
      · obtain rfl : x = 95 := by omega
        have hok : okC c = true := by
          have e := HX.out
          unfold okC
          rw [← e]; rfl
        have HN := Lib.hid (HNEXT.out hok)
        clear k1 k2 hok HNEXT HBAD HOK
        go_wp2_with fail
        go_roundw
        case rel => exact ⟨k + 1, by omega, by go_num, HN.out, HW.out⟩
        case measure => simp [intOf]; omega
      · obtain rfl : x = 96 := by omega
        have hok : okC c = false := by
          have e := HX.out
          unfold okC
          rw [← e]; rfl
        have HN := Lib.hid (HBAD.out hok)
        clear k1 k2 hok HNEXT HBAD HOK
        go_wp2_with fail
        go_ret
        exact ⟨by rw [HN.out]; rfl, HW.out.drop⟩
      · have f1 : (97 : Int) ≤ x := by omega
        have f2 : (x : Int) ≤ 122 := by omega
        have f3 : (48 : Int) ≤ x := by omega
        have f4 : ¬ (x : Int) ≤ 57 := by omega
        have f5 : ((x : Int) != 45) = true := by rw [bne_iff_ne]; omega
        have f6 : ((x : Int) != 95) = true := by rw [bne_iff_ne]; omega
        have f7 : ((x : Int) != 46) = true := by rw [bne_iff_ne]; omega
        have hok : okC c = true := by
          have e := HX.out
          unfold okC
          simp only [← e, Bool.or_eq_true, Bool.and_eq_true, decide_eq_true_eq, beq_iff_eq]
          omega
        have HN := Lib.hid (HNEXT.out hok)
        clear k1 k2 hok HNEXT HBAD HOK
        go_wp2_with fail
        go_roundw
        case rel => exact ⟨k + 1, by omega, by go_num, HN.out, HW.out⟩
        case measure => simp [intOf]; omega
      · have f1 : (97 : Int) ≤ x := by omega
        have f2 : ¬ (x : Int) ≤ 122 := by omega
        have f3 : (48 : Int) ≤ x := by omega
        have f4 : ¬ (x : Int) ≤ 57 := by omega
        have f5 : ((x : Int) != 45) = true := by rw [bne_iff_ne]; omega
        have f6 : ((x : Int) != 95) = true := by rw [bne_iff_ne]; omega
        have f7 : ((x : Int) != 46) = true := by rw [bne_iff_ne]; omega
        have hok : okC c = false := by
          have e := HX.out
          unfold okC
          simp only [← e, Bool.or_eq_false_iff, Bool.and_eq_false_iff, decide_eq_false_iff_not, beq_eq_false_iff_ne]
          omega
        have HN := Lib.hid (HBAD.out hok)
        clear k1 k2 hok HNEXT HBAD HOK
        go_wp2_with fail
        go_ret
        exact ⟨by rw [HN.out]; rfl, HW.out.drop⟩
    · obtain rfl : k = s.size := by omega
      have hnb : nameB s = (decide (0 < s.size) && decide (s.size ≤ 16)) := by
        have e : s.data.toList.all okC = true := by
          rw [List.all_eq_true]
          intro x hx
          obtain ⟨j, hj, rfl⟩ := List.mem_iff_getElem.1 hx
          exact HALL.out j hj hj
        unfold nameB; rw [e, Bool.true_and]
      have HN := Lib.hid hnb
      have HW := Lib.hid hw.drop
      have hlti : ¬ (s.size : Int) < s.size := by omega
      clear hw hnb HALL hlt hk
      rcases (by omega : s.size = 0 ∨ (0 < s.size ∧ s.size ≤ 16) ∨ 16 < s.size) with h0 | ⟨h0, h1⟩ | h0
      · have i0 : ¬ (0 : Int) < s.size := by omega
        go_wp2_with fail
        go_ret
        exact ⟨by rw [HN.out, h0]; rfl, HW.out⟩
      · have i0 : (0 : Int) < s.size := by omega
        have i1 : (s.size : Int) ≤ 16 := by omega
        go_wp2_with fail
        go_ret
        exact ⟨by rw [HN.out, decide_eq_true h0, decide_eq_true h1]; rfl, HW.out⟩
      · have i0 : (0 : Int) < s.size := by omega
        have i1 : ¬ (s.size : Int) ≤ 16 := by omega
        go_wp2_with fail
        go_ret
        exact ⟨by rw [HN.out, decide_eq_false (show ¬ s.size ≤ 16 by omega), Bool.and_false]; rfl, HW.out⟩
end
end Go.Proofs.Ytnbpbonpcbemdaa
