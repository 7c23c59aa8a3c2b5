/- latchkeylaw10.short, place, size, pick. -/
import Derived.Test.YtbclmmneiphcaaaDoorMade0
import Derived.Test.YtbclmmneiphcaaaDoorWhole
namespace Go.Proofs.YtbclmmneiphcaaaDoor
open Go.RowKit
section
variable {E : World} {S : Ph} {L : List Hp}
set_option maxHeartbeats 2000000 in
theorem short_any (s : ByteArray) (n : Nat) (w : World) (h : Own E w L) :
    Calls Tryd.prog 76 #[.string s, .int .i64 n] w fun e w' => e = .returned (.string (shortB s n)) ∧ Own E w' L := by
  unfold shortB
  by_cases hn : n < s.size
  · have hni : (n : Int) < s.size := by omega
    have hn2 : n ≤ s.size := by omega
    have j0 : (0 : Int) ≤ (n : Int) := by omega
    have j1 : (n : Int) ≤ s.size := by omega
    rw [if_pos hn]
    clear hn
    go_enter Tryd.func76, Tryd.ntmps76
    go_wp2_with fail
    go_ret
    exact ⟨by go_num, h⟩
  · have hni : ¬ (n : Int) < s.size := by omega
    rw [if_neg hn]
    clear hn
    go_enter Tryd.func76, Tryd.ntmps76
    go_wp2_with fail
    go_ret
    exact ⟨rfl, h⟩
set_option maxHeartbeats 2000000 in
theorem pick10_any (c n : Int) (w : World) (hc : -9223372036854775808 ≤ c ∧ c ≤ 9223372036854775807) (hn : 0 < n) (hn2 : n ≤ 9223372036854775807) :
    Calls Tryd.prog 28 #[.int .i64 c, .int .i64 n] w fun e w' => ∃ m : Nat, (m : Int) < n ∧ e = .returned (.int .i64 m) ∧ w = w' := by
  have h0 : (n == 0) = false := by rw [beq_eq_false_iff_ne]; omega
  by_cases h : c < 0
  · have e1 := Int.emod_nonneg (-(c + 1)) (show n ≠ 0 by omega)
    have e2 := Int.emod_lt_of_pos (-(c + 1)) hn
    obtain ⟨m, hm⟩ := Int.eq_ofNat_of_zero_le e1
    have h1 : 0 ≤ -(c + 1) := by omega
    have HM := Lib.hid hm
    rw [hm] at e2
    clear hm e1
    go_enter Tryd.func28, Tryd.ntmps28
    go_wp2
    go_ret
    exact ⟨m, e2, ret_i64 (by rw [← Int.neg_tmod, Int.tmod_eq_emod_of_nonneg h1, HM.out]), rfl⟩
  · have e1 := Int.emod_nonneg c (show n ≠ 0 by omega)
    have e2 := Int.emod_lt_of_pos c hn
    obtain ⟨m, hm⟩ := Int.eq_ofNat_of_zero_le e1
    have h1 : 0 ≤ c := by omega
    have HM := Lib.hid hm
    rw [hm] at e2
    clear hm e1
    go_enter Tryd.func28, Tryd.ntmps28
    go_wp2
    go_ret
    exact ⟨m, e2, ret_i64 HM.out, rfl⟩
set_option maxRecDepth 100000 in
set_option maxHeartbeats 4000000 in
theorem place_any (A : Option Addr) (n c : Nat) (xs : List ByteArray) (key : ByteArray) (w : World) (hn : n ≤ 1000000000000000000) (hr : Rds S 1 enStr A n xs) (h : Own E w (Hp.ro S :: L)) :
    Calls Tryd.prog 77 #[.slice A n c, .string key] w fun e w' => e = .returned (.tuple #[.int .i64 (plN xs key : Nat), .bool (isAt xs (plN xs key) key)]) ∧ Own E w' (Hp.ro S :: L) := by
  have hm : plN xs key ≤ n := by have := plN_le xs key; have := hr.1; omega
  have hlt := fun i x h1 h2 => plN_lt (xs := xs) (key := key) (x := x) (i := i) h1 h2
  have hat := fun x h1 => plN_at (xs := xs) (key := key) (x := x) h1
  generalize plN xs key = m at *
  have HL := Lib.hid hlt
  have HA := Lib.hid hat
  clear hlt hat
  go_enter Tryd.func77, Tryd.ntmps77
  go_wp2_with fail
  go_loopw [6] (fun i wr => ∃ k : Nat, k ≤ m ∧ i = .int .i64 k ∧ Own E wr (Hp.ro S :: L)) (fun i _ => m - (intOf i).toNat)
  case atStart => exact ⟨0, by omega, rfl, h⟩
  case round =>
    obtain ⟨k, hk, rfl, hw⟩ := hrel
    clear h
    by_cases hlt : k < m
    · obtain ⟨x, b, off, hx, rfl, hc⟩ := hr.get1 (show k < n by omega)
      have hs := HL.out k x hlt hx
      have z1 : Op.bytesLess x.toList key.toList = true := by rw [slt_walk]; exact hs
      have c1 := hw.rd (hc _ rfl)
      have hkn : (k : Int) < n := by omega
      have HW := Lib.hid hw
      clear hx hc hw hs
      go_wp2_with fail
      go_roundw
      case rel => exact ⟨k + 1, by omega, by go_num, HW.out⟩
      case measure => simp [intOf]; omega
    · obtain rfl : k = m := by omega
      clear HL hk hlt
      by_cases hkn : k < n
      · obtain ⟨x, b, off, hx, rfl, hc⟩ := hr.get1 hkn
        have hs := HA.out x hx
        have z1 : Op.bytesLess x.toList key.toList = false := by rw [slt_walk]; exact hs
        have c1 := hw.rd (hc _ rfl)
        have hkni : (k : Int) < n := by omega
        have hd := hw.drew
        have d1 := hd.rd (hc _ rfl)
        have HD := Lib.hid hd
        have HX := Lib.hid hx
        clear hs hx hc hw hd HA
        by_cases hxk : x = key
        · have e2 : isAt xs k key = true := (isAt_some HX.out).2 hxk
          have E2 := Lib.hid e2
          have z3 : (x.toList == key.toList) = true := by rw [hxk]; simp
          clear hxk e2
          go_wp2_with fail
          refine wp_region_text [9] (fun w' => w'.cell? ⟨b, off + k, none⟩ = some (.string x)) (by kernel_rfl) ?_ (fun hS => ?_)
          · exact d1
          refine wpAnyG_pure (i := 0) (oi := ⟨some 21, _, _, _, _, _⟩) (v := ?_) rfl (by kernel_rfl) (by kernel_rfl) (by kernel_rfl) (by rfl) (fun _ _ _ h => h) (by rfl) ?_ ?_
          rotate_left
          · intro w
            go_simp
            first | done | with_reducible rfl
          try simp only [Act.put, List.setIfInBounds_toArray, List.set_cons_zero, List.set_cons_succ]
          refine wpAnyG_pure (i := 1) (oi := ⟨some 22, _, _, _, _, _⟩) (v := ?_) rfl (by kernel_rfl) (by kernel_rfl) (by kernel_rfl) (by rfl) (fun _ _ _ h => h) (by rfl) ?_ ?_
          rotate_left
          · intro w
            go_simp
            first | done | with_reducible rfl
          try simp only [Act.put, List.setIfInBounds_toArray, List.set_cons_zero, List.set_cons_succ]
          refine wpAnyG_pure (i := 2) (oi := ⟨some 23, _, _, _, _, _⟩) (v := ?_) rfl (by kernel_rfl) (by kernel_rfl) (by kernel_rfl) (by rfl) (fun _ _ _ h => h) (by rfl) ?_ ?_
          rotate_left
          · intro w
            go_simp
            first | done | with_reducible rfl
          try simp only [Act.put, List.setIfInBounds_toArray, List.set_cons_zero, List.set_cons_succ]
          refine wpAnyG_pure (i := 3) (oi := ⟨some 24, _, _, _, _, _⟩) (v := ?_) rfl (by kernel_rfl) (by kernel_rfl) (by kernel_rfl) (by rfl) (fun _ _ _ h => h) (by rfl) ?_ ?_
          rotate_left
          · intro w
            go_simp
            first | done | with_reducible rfl
          try simp only [Act.put, List.setIfInBounds_toArray, List.set_cons_zero, List.set_cons_succ]
          refine wpAnyG_pure (i := 4) (oi := ⟨some 25, _, _, _, _, _⟩) (v := ?_) rfl (by kernel_rfl) (by kernel_rfl) (by kernel_rfl) (by rfl) (fun _ _ _ h => h) (by rfl) ?_ ?_
          rotate_left
          · intro w
            go_simp
            first | done | with_reducible rfl
          try simp only [Act.put, List.setIfInBounds_toArray, List.set_cons_zero, List.set_cons_succ]
          refine wpAnyG_pure (i := 5) (oi := ⟨some 26, _, _, _, _, _⟩) (v := ?_) rfl (by kernel_rfl) (by kernel_rfl) (by kernel_rfl) (by rfl) (fun _ _ _ h => h) (by rfl) ?_ ?_
          rotate_left
          · intro w
            go_simp
            first | done | with_reducible rfl
          try simp only [Act.put, List.setIfInBounds_toArray, List.set_cons_zero, List.set_cons_succ]
          refine wpAnyG_pure (i := 6) (oi := ⟨some 27, _, _, _, _, _⟩) (v := ?_) rfl (by kernel_rfl) (by kernel_rfl) (by kernel_rfl) (by rfl) (fun _ _ _ h => h) (by rfl) ?_ ?_
          rotate_left
          · intro w
            go_simp
            first | done | with_reducible rfl
          try simp only [Act.put, List.setIfInBounds_toArray, List.set_cons_zero, List.set_cons_succ]
          refine wpAnyG_pure (i := 7) (oi := ⟨some 28, _, _, _, _, _⟩) (v := ?_) rfl (by kernel_rfl) (by kernel_rfl) (by kernel_rfl) (by rfl) (fun _ _ _ h => h) (by rfl) ?_ ?_
          rotate_left
          · intro w
            go_simp
            first | done | with_reducible rfl
          try simp only [Act.put, List.setIfInBounds_toArray, List.set_cons_zero, List.set_cons_succ]
          refine wpAnyG_pure (i := 8) (oi := ⟨some 29, _, _, _, _, _⟩) (v := ?_) rfl (by kernel_rfl) (by kernel_rfl) (by kernel_rfl) (by rfl) (fun _ _ _ h => h) (by rfl) ?_ ?_
          rotate_left
          · intro w
            go_simp
            first | done | with_reducible rfl
          try simp only [Act.put, List.setIfInBounds_toArray, List.set_cons_zero, List.set_cons_succ]
          refine wpAnyG_load (i := 9) (oi := ⟨some 30, _, _, _, _, _⟩) (v := ?_) rfl (by kernel_rfl) (by kernel_rfl) (by kernel_rfl) (by rfl) (fun _ _ _ h => h) (by rfl) ?_ (by assumption) ?_
          rotate_left
          · intro w hS
            try dsimp only at hS
            go_simp
            first | done | with_reducible rfl
          try simp only [Act.put, List.setIfInBounds_toArray, List.set_cons_zero, List.set_cons_succ]
          refine wpAnyG_pure (i := 10) (oi := ⟨some 31, _, _, _, _, _⟩) (v := ?_) rfl (by kernel_rfl) (by kernel_rfl) (by kernel_rfl) (by rfl) (fun _ _ _ h => h) (by rfl) ?_ ?_
          rotate_left
          · intro w
            go_simp
            first | done | with_reducible rfl
          try simp only [Act.put, List.setIfInBounds_toArray, List.set_cons_zero, List.set_cons_succ]
          refine wpAnyG_pure (i := 11) (oi := ⟨some 32, _, _, _, _, _⟩) (v := ?_) rfl (by kernel_rfl) (by kernel_rfl) (by kernel_rfl) (by rfl) (fun _ _ _ h => h) (by rfl) ?_ ?_
          rotate_left
          · intro w
            go_simp
            first | done | with_reducible rfl
          try simp only [Act.put, List.setIfInBounds_toArray, List.set_cons_zero, List.set_cons_succ]
          refine wpAnyG_pure (i := 12) (oi := ⟨some 33, _, _, _, _, _⟩) (v := ?_) rfl (by kernel_rfl) (by kernel_rfl) (by kernel_rfl) (by rfl) (fun _ _ _ h => h) (by rfl) ?_ ?_
          rotate_left
          · intro w
            go_simp
            first | done | with_reducible rfl
          try simp only [Act.put, List.setIfInBounds_toArray, List.set_cons_zero, List.set_cons_succ]
          refine wpAnyG_pure (i := 13) (oi := ⟨some 4, _, _, _, _, _⟩) (v := ?_) rfl (by kernel_rfl) (by kernel_rfl) (by kernel_rfl) (by rfl) (fun _ _ _ h => h) (by rfl) ?_ ?_
          rotate_left
          · intro w
            go_simp
            first | done | with_reducible rfl
          try simp only [Act.put, List.setIfInBounds_toArray, List.set_cons_zero, List.set_cons_succ]
          refine wpAnyG_pure (i := 14) (oi := ⟨some 5, _, _, _, _, _⟩) (v := ?_) rfl (by kernel_rfl) (by kernel_rfl) (by kernel_rfl) (by rfl) (fun _ _ _ h => h) (by rfl) ?_ ?_
          rotate_left
          · intro w
            go_simp
            first | done | with_reducible rfl
          try simp only [Act.put, List.setIfInBounds_toArray, List.set_cons_zero, List.set_cons_succ]
          refine wpAnyG_done (by kernel_rfl) ?_ _
          refine NoPanic.normal ?_
          go_wp2_with fail
          go_ret2
          exact ⟨ret_ib (by rw [E2.out]), HD.out⟩
        · have e2 : isAt xs k key = false := by
            cases e : isAt xs k key with
            | false => rfl
            | true => exact absurd ((isAt_some HX.out).1 e) hxk
          have E2 := Lib.hid e2
          have z3 : (x.toList == key.toList) = false := by
            rw [ByteArray.toList_eq, ByteArray.toList_eq, beq_eq_false_iff_ne]
            exact fun e => hxk (str_eq_of e)
          clear hxk e2
          go_wp2_with fail
          refine wp_region_text [9] (fun w' => w'.cell? ⟨b, off + k, none⟩ = some (.string x)) (by kernel_rfl) ?_ (fun hS => ?_)
          · exact d1
          refine wpAnyG_pure (i := 0) (oi := ⟨some 21, _, _, _, _, _⟩) (v := ?_) rfl (by kernel_rfl) (by kernel_rfl) (by kernel_rfl) (by rfl) (fun _ _ _ h => h) (by rfl) ?_ ?_
          rotate_left
          · intro w
            go_simp
            first | done | with_reducible rfl
          try simp only [Act.put, List.setIfInBounds_toArray, List.set_cons_zero, List.set_cons_succ]
          refine wpAnyG_pure (i := 1) (oi := ⟨some 22, _, _, _, _, _⟩) (v := ?_) rfl (by kernel_rfl) (by kernel_rfl) (by kernel_rfl) (by rfl) (fun _ _ _ h => h) (by rfl) ?_ ?_
          rotate_left
          · intro w
            go_simp
            first | done | with_reducible rfl
          try simp only [Act.put, List.setIfInBounds_toArray, List.set_cons_zero, List.set_cons_succ]
          refine wpAnyG_pure (i := 2) (oi := ⟨some 23, _, _, _, _, _⟩) (v := ?_) rfl (by kernel_rfl) (by kernel_rfl) (by kernel_rfl) (by rfl) (fun _ _ _ h => h) (by rfl) ?_ ?_
          rotate_left
          · intro w
            go_simp
            first | done | with_reducible rfl
          try simp only [Act.put, List.setIfInBounds_toArray, List.set_cons_zero, List.set_cons_succ]
          refine wpAnyG_pure (i := 3) (oi := ⟨some 24, _, _, _, _, _⟩) (v := ?_) rfl (by kernel_rfl) (by kernel_rfl) (by kernel_rfl) (by rfl) (fun _ _ _ h => h) (by rfl) ?_ ?_
          rotate_left
          · intro w
            go_simp
            first | done | with_reducible rfl
          try simp only [Act.put, List.setIfInBounds_toArray, List.set_cons_zero, List.set_cons_succ]
          refine wpAnyG_pure (i := 4) (oi := ⟨some 25, _, _, _, _, _⟩) (v := ?_) rfl (by kernel_rfl) (by kernel_rfl) (by kernel_rfl) (by rfl) (fun _ _ _ h => h) (by rfl) ?_ ?_
          rotate_left
          · intro w
            go_simp
            first | done | with_reducible rfl
          try simp only [Act.put, List.setIfInBounds_toArray, List.set_cons_zero, List.set_cons_succ]
          refine wpAnyG_pure (i := 5) (oi := ⟨some 26, _, _, _, _, _⟩) (v := ?_) rfl (by kernel_rfl) (by kernel_rfl) (by kernel_rfl) (by rfl) (fun _ _ _ h => h) (by rfl) ?_ ?_
          rotate_left
          · intro w
            go_simp
            first | done | with_reducible rfl
          try simp only [Act.put, List.setIfInBounds_toArray, List.set_cons_zero, List.set_cons_succ]
          refine wpAnyG_pure (i := 6) (oi := ⟨some 27, _, _, _, _, _⟩) (v := ?_) rfl (by kernel_rfl) (by kernel_rfl) (by kernel_rfl) (by rfl) (fun _ _ _ h => h) (by rfl) ?_ ?_
          rotate_left
          · intro w
            go_simp
            first | done | with_reducible rfl
          try simp only [Act.put, List.setIfInBounds_toArray, List.set_cons_zero, List.set_cons_succ]
          refine wpAnyG_pure (i := 7) (oi := ⟨some 28, _, _, _, _, _⟩) (v := ?_) rfl (by kernel_rfl) (by kernel_rfl) (by kernel_rfl) (by rfl) (fun _ _ _ h => h) (by rfl) ?_ ?_
          rotate_left
          · intro w
            go_simp
            first | done | with_reducible rfl
          try simp only [Act.put, List.setIfInBounds_toArray, List.set_cons_zero, List.set_cons_succ]
          refine wpAnyG_pure (i := 8) (oi := ⟨some 29, _, _, _, _, _⟩) (v := ?_) rfl (by kernel_rfl) (by kernel_rfl) (by kernel_rfl) (by rfl) (fun _ _ _ h => h) (by rfl) ?_ ?_
          rotate_left
          · intro w
            go_simp
            first | done | with_reducible rfl
          try simp only [Act.put, List.setIfInBounds_toArray, List.set_cons_zero, List.set_cons_succ]
          refine wpAnyG_load (i := 9) (oi := ⟨some 30, _, _, _, _, _⟩) (v := ?_) rfl (by kernel_rfl) (by kernel_rfl) (by kernel_rfl) (by rfl) (fun _ _ _ h => h) (by rfl) ?_ (by assumption) ?_
          rotate_left
          · intro w hS
            try dsimp only at hS
            go_simp
            first | done | with_reducible rfl
          try simp only [Act.put, List.setIfInBounds_toArray, List.set_cons_zero, List.set_cons_succ]
          refine wpAnyG_pure (i := 10) (oi := ⟨some 31, _, _, _, _, _⟩) (v := ?_) rfl (by kernel_rfl) (by kernel_rfl) (by kernel_rfl) (by rfl) (fun _ _ _ h => h) (by rfl) ?_ ?_
          rotate_left
          · intro w
            go_simp
            first | done | with_reducible rfl
          try simp only [Act.put, List.setIfInBounds_toArray, List.set_cons_zero, List.set_cons_succ]
          refine wpAnyG_pure (i := 11) (oi := ⟨some 32, _, _, _, _, _⟩) (v := ?_) rfl (by kernel_rfl) (by kernel_rfl) (by kernel_rfl) (by rfl) (fun _ _ _ h => h) (by rfl) ?_ ?_
          rotate_left
          · intro w
            go_simp
            first | done | with_reducible rfl
          try simp only [Act.put, List.setIfInBounds_toArray, List.set_cons_zero, List.set_cons_succ]
          refine wpAnyG_pure (i := 12) (oi := ⟨some 33, _, _, _, _, _⟩) (v := ?_) rfl (by kernel_rfl) (by kernel_rfl) (by kernel_rfl) (by rfl) (fun _ _ _ h => h) (by rfl) ?_ ?_
          rotate_left
          · intro w
            go_simp
            first | done | with_reducible rfl
          try simp only [Act.put, List.setIfInBounds_toArray, List.set_cons_zero, List.set_cons_succ]
          refine wpAnyG_pure (i := 13) (oi := ⟨some 4, _, _, _, _, _⟩) (v := ?_) rfl (by kernel_rfl) (by kernel_rfl) (by kernel_rfl) (by rfl) (fun _ _ _ h => h) (by rfl) ?_ ?_
          rotate_left
          · intro w
            go_simp
            first | done | with_reducible rfl
          try simp only [Act.put, List.setIfInBounds_toArray, List.set_cons_zero, List.set_cons_succ]
          refine wpAnyG_pure (i := 14) (oi := ⟨some 5, _, _, _, _, _⟩) (v := ?_) rfl (by kernel_rfl) (by kernel_rfl) (by kernel_rfl) (by rfl) (fun _ _ _ h => h) (by rfl) ?_ ?_
          rotate_left
          · intro w
            go_simp
            first | done | with_reducible rfl
          try simp only [Act.put, List.setIfInBounds_toArray, List.set_cons_zero, List.set_cons_succ]
          refine wpAnyG_done (by kernel_rfl) ?_ _
          refine NoPanic.normal ?_
          go_wp2_with fail
          go_ret2
          exact ⟨ret_ib (by rw [E2.out]), HD.out⟩
      · have hkni : ¬ (k : Int) < n := by omega
        have e2 : isAt xs k key = false := isAt_none (List.getElem?_eq_none (by have := hr.1; omega))
        have E2 := Lib.hid e2
        have hd := hw.drew
        have HD := Lib.hid hd
        clear hw hd HA e2
        go_wp2_with fail
        refine wp_region_text [] (fun w' => True) (by kernel_rfl) ?_ (fun hS => ?_)
        · trivial
        refine wpAnyG_pure (i := 0) (oi := ⟨some 21, _, _, _, _, _⟩) (v := ?_) rfl (by kernel_rfl) (by kernel_rfl) (by kernel_rfl) (by rfl) (fun _ _ _ h => h) (by rfl) ?_ ?_
        rotate_left
        · intro w
          go_simp
          first | done | with_reducible rfl
        try simp only [Act.put, List.setIfInBounds_toArray, List.set_cons_zero, List.set_cons_succ]
        refine wpAnyG_pure (i := 1) (oi := ⟨some 22, _, _, _, _, _⟩) (v := ?_) rfl (by kernel_rfl) (by kernel_rfl) (by kernel_rfl) (by rfl) (fun _ _ _ h => h) (by rfl) ?_ ?_
        rotate_left
        · intro w
          go_simp
          first | done | with_reducible rfl
        try simp only [Act.put, List.setIfInBounds_toArray, List.set_cons_zero, List.set_cons_succ]
        refine wpAnyG_pure (i := 2) (oi := ⟨some 23, _, _, _, _, _⟩) (v := ?_) rfl (by kernel_rfl) (by kernel_rfl) (by kernel_rfl) (by rfl) (fun _ _ _ h => h) (by rfl) ?_ ?_
        rotate_left
        · intro w
          go_simp
          first | done | with_reducible rfl
        try simp only [Act.put, List.setIfInBounds_toArray, List.set_cons_zero, List.set_cons_succ]
        refine wpAnyG_pure (i := 3) (oi := ⟨some 24, _, _, _, _, _⟩) (v := ?_) rfl (by kernel_rfl) (by kernel_rfl) (by kernel_rfl) (by rfl) (fun _ _ _ h => h) (by rfl) ?_ ?_
        rotate_left
        · intro w
          go_simp
          first | done | with_reducible rfl
        try simp only [Act.put, List.setIfInBounds_toArray, List.set_cons_zero, List.set_cons_succ]
        refine wpAnyG_pure (i := 4) (oi := ⟨some 25, _, _, _, _, _⟩) (v := ?_) rfl (by kernel_rfl) (by kernel_rfl) (by kernel_rfl) (by rfl) (fun _ _ _ h => h) (by rfl) ?_ ?_
        rotate_left
        · intro w
          go_simp
          first | done | with_reducible rfl
        try simp only [Act.put, List.setIfInBounds_toArray, List.set_cons_zero, List.set_cons_succ]
        refine wpAnyG_pure (i := 5) (oi := ⟨some 26, _, _, _, _, _⟩) (v := ?_) rfl (by kernel_rfl) (by kernel_rfl) (by kernel_rfl) (by rfl) (fun _ _ _ h => h) (by rfl) ?_ ?_
        rotate_left
        · intro w
          go_simp
          first | done | with_reducible rfl
        try simp only [Act.put, List.setIfInBounds_toArray, List.set_cons_zero, List.set_cons_succ]
        refine wpAnyG_skip (i := 6) (oi := ⟨some 27, _, _, _, _, _⟩) rfl (by kernel_rfl) (by kernel_rfl) (by kernel_rfl) (by rfl) (fun _ _ _ h => h) (by rfl) ?_
        try simp only [Act.put, List.setIfInBounds_toArray, List.set_cons_zero, List.set_cons_succ]
        refine wpAnyG_skip (i := 7) (oi := ⟨some 28, _, _, _, _, _⟩) rfl (by kernel_rfl) (by kernel_rfl) (by kernel_rfl) (by rfl) (fun _ _ _ h => h) (by rfl) ?_
        try simp only [Act.put, List.setIfInBounds_toArray, List.set_cons_zero, List.set_cons_succ]
        refine wpAnyG_skip (i := 8) (oi := ⟨some 29, _, _, _, _, _⟩) rfl (by kernel_rfl) (by kernel_rfl) (by kernel_rfl) (by rfl) (fun _ _ _ h => h) (by rfl) ?_
        try simp only [Act.put, List.setIfInBounds_toArray, List.set_cons_zero, List.set_cons_succ]
        refine wpAnyG_skip (i := 9) (oi := ⟨some 30, _, _, _, _, _⟩) rfl (by kernel_rfl) (by kernel_rfl) (by kernel_rfl) (by rfl) (fun _ _ _ h => h) (by rfl) ?_
        try simp only [Act.put, List.setIfInBounds_toArray, List.set_cons_zero, List.set_cons_succ]
        refine wpAnyG_skip (i := 10) (oi := ⟨some 31, _, _, _, _, _⟩) rfl (by kernel_rfl) (by kernel_rfl) (by kernel_rfl) (by rfl) (fun _ _ _ h => h) (by rfl) ?_
        try simp only [Act.put, List.setIfInBounds_toArray, List.set_cons_zero, List.set_cons_succ]
        refine wpAnyG_skip (i := 11) (oi := ⟨some 32, _, _, _, _, _⟩) rfl (by kernel_rfl) (by kernel_rfl) (by kernel_rfl) (by rfl) (fun _ _ _ h => h) (by rfl) ?_
        try simp only [Act.put, List.setIfInBounds_toArray, List.set_cons_zero, List.set_cons_succ]
        refine wpAnyG_pure (i := 12) (oi := ⟨some 33, _, _, _, _, _⟩) (v := ?_) rfl (by kernel_rfl) (by kernel_rfl) (by kernel_rfl) (by rfl) (fun _ _ _ h => h) (by rfl) ?_ ?_
        rotate_left
        · intro w
          go_simp
          first | done | with_reducible rfl
        try simp only [Act.put, List.setIfInBounds_toArray, List.set_cons_zero, List.set_cons_succ]
        refine wpAnyG_pure (i := 13) (oi := ⟨some 4, _, _, _, _, _⟩) (v := ?_) rfl (by kernel_rfl) (by kernel_rfl) (by kernel_rfl) (by rfl) (fun _ _ _ h => h) (by rfl) ?_ ?_
        rotate_left
        · intro w
          go_simp
          first | done | with_reducible rfl
        try simp only [Act.put, List.setIfInBounds_toArray, List.set_cons_zero, List.set_cons_succ]
        refine wpAnyG_pure (i := 14) (oi := ⟨some 5, _, _, _, _, _⟩) (v := ?_) rfl (by kernel_rfl) (by kernel_rfl) (by kernel_rfl) (by rfl) (fun _ _ _ h => h) (by rfl) ?_ ?_
        rotate_left
        · intro w
          go_simp
          first | done | with_reducible rfl
        try simp only [Act.put, List.setIfInBounds_toArray, List.set_cons_zero, List.set_cons_succ]
        refine wpAnyG_done (by kernel_rfl) ?_ _
        refine NoPanic.normal ?_
        go_wp2_with fail
        go_ret2
        exact ⟨ret_ib (by rw [E2.out]), HD.out⟩
set_option maxRecDepth 100000 in
set_option maxHeartbeats 4000000 in
theorem lsize_any (v : Nv) (n : Nd) (w : World) (hb : n.bulk ≤ 1125899906842624) (hi : NdIn S v n) (h : Own E w (Hp.ro S :: L)) :
    Calls Tryd.prog 32 #[v.val n] w fun e w' => e = .returned (.int .i64 (n.sizeW : Nat)) ∧ Own E w' (Hp.ro S :: L) := by
  obtain ⟨leaf, ks, vs, ls⟩ := n
  obtain ⟨a1, c1, a2, c2, a3, c3⟩ := v
  obtain ⟨r1, r2, -, -, -, -, -, -, -⟩ := hi
  have hsz : Nd.sizeW ⟨leaf, ks, vs, ls⟩ = 4 * ls.length + (sumSz ks + ks.length) + (sumSz vs + vs.length) := rfl
  rw [hsz]
  have hb2 : sumSz ks + sumSz vs + ks.length + vs.length + ls.length ≤ 1125899906842624 := hb
  clear hb hsz
  dsimp only [Nv.val] at r1 r2 ⊢
  have hle : ∀ k, sumSz (ks.take k) ≤ sumSz ks := sumSz_le ks
  have hle2 : ∀ k, sumSz (vs.take k) ≤ sumSz vs := sumSz_le vs
  have hall : sumSz (ks.take ks.length) = sumSz ks := by rw [List.take_length]
  have hall2 : sumSz (vs.take vs.length) = sumSz vs := by rw [List.take_length]
  generalize ks.length = nk at *
  generalize vs.length = nv at *
  generalize ls.length = nl at *
  generalize sumSz ks = sk at *
  generalize sumSz vs = sv at *
  have HLE := Lib.hid hle
  have HLE2 := Lib.hid hle2
  have HALL := Lib.hid hall
  have HALL2 := Lib.hid hall2
  have HB := Lib.hid hb2
  have hbk : nk ≤ 1125899906842624 ∧ nv ≤ 1125899906842624 ∧ nl ≤ 1125899906842624 := by omega
  obtain ⟨hbk1, hbk2, hbk3⟩ := hbk
  have j0 : IntKind.i64.wrap (4 * (nl : Int)) = ((4 * nl : Nat) : Int) := IntWalk.i64_in _ (by omega)
  clear hle hle2 hall hall2 hb2
  have h1 := h.alloc (.cells #[.bool leaf, .slice a1 nk c1, .slice a2 nv c2, .slice a3 nl c3] NT)
  go_enter Tryd.func32, Tryd.ntmps32
  go_wp2_with fail
  generalize hg : w.heap.size = g at h1 ⊢
  have H1 := Lib.hid h1
  clear h h1 hg
  go_loopw [3, 4] (fun sz i wr => ∃ k s : Nat, k ≤ nk ∧ i = .int .i64 k ∧ s = 4 * nl + (sumSz (ks.take k) + k) ∧ sz = .int .i64 s ∧ Own E wr (Hp.blk g NT #[.bool leaf, .slice a1 nk c1, .slice a2 nv c2, .slice a3 nl c3] :: Hp.ro S :: L)) (fun _ i _ => nk - (intOf i).toNat)
  case atStart => exact ⟨0, 4 * nl, by omega, rfl, by simp [sumSz], by go_num, H1.out⟩
  case round =>
    obtain ⟨k, s, hk, rfl, hs, rfl, hw⟩ := hrel
    clear H1
    have HS := Lib.hid hs
    have hsb : s ≤ 4 * nl + (sk + nk) := by have := HS.out; have := HLE.out k; omega
    have hsb2 : s ≤ 10 * 1125899906842624 := by have := HB.out; omega
    clear hs
    have f1 : wr.cell? ⟨g, 1, none⟩ = some (.slice a1 nk c1) := hw.cell 1
    have f2 : wr.cell? ⟨g, 2, none⟩ = some (.slice a2 nv c2) := hw.cell 2
    by_cases hlt : k < nk
    · obtain ⟨x, b, off, hx, rfl, hc⟩ := r1.get1 hlt
      have c1 := hw.f1.rd (hc _ rfl)
      have hs2 : s + 1 + x.size = 4 * nl + (sumSz (ks.take (k + 1)) + (k + 1)) := by rw [sumSz_take ks k x hx]; have := HS.out; omega
      have hs3 : s + 1 + x.size ≤ 10 * 1125899906842624 := by have := HLE.out (k + 1); have := HB.out; omega
      have HS2 := Lib.hid hs2
      clear hc hx hs2
      have j1 : IntKind.i64.wrap ((s : Int) + 1) = ((s + 1 : Nat) : Int) := IntWalk.i64_in _ (by omega)
      have j2 : IntKind.i64.wrap (((s + 1 : Nat) : Int) + x.size) = ((s + 1 + x.size : Nat) : Int) := IntWalk.i64_in _ (by omega)
      have hkn : (k : Int) < nk := by omega
      go_wp2_with fail
      go_roundw
      case rel => exact ⟨k + 1, s + 1 + x.size, by omega, by go_num, HS2.out, rfl, hw⟩
      case measure => simp [intOf]; omega
    · obtain rfl : k = nk := by omega
      have hsk : s = 4 * nl + (sk + k) := by rw [HS.out, HALL.out]
      have HSK := Lib.hid hsk
      clear HLE hlt hk hsb HS hsk
      have HW := Lib.hid hw
      clear hw
      go_wp2_with fail
      go_loopw [3, 5] (fun sz i wr => ∃ j s2 : Nat, j ≤ nv ∧ i = .int .i64 j ∧ s2 = s + (sumSz (vs.take j) + j) ∧ sz = .int .i64 s2 ∧ Own E wr (Hp.blk g NT #[.bool leaf, .slice a1 k c1, .slice a2 nv c2, .slice a3 nl c3] :: Hp.ro S :: L)) (fun _ i _ => nv - (intOf i).toNat)
      case atStart => exact ⟨0, s, by omega, rfl, by simp [sumSz], rfl, HW.out⟩
      case round =>
        clear f1 f2
        obtain ⟨j, s2, hj, rfl, hs, rfl, hw⟩ := hrel
        clear HW
        have HS := Lib.hid hs
        have hsb : s2 ≤ s + (sv + nv) := by have := HS.out; have := HLE2.out j; omega
        have hsb3 : s2 ≤ 20 * 1125899906842624 := by have := HB.out; omega
        clear hs
        have f2 : wr.cell? ⟨g, 2, none⟩ = some (.slice a2 nv c2) := hw.cell 2
        by_cases hlt : j < nv
        · obtain ⟨x, b, off, hx, rfl, hc⟩ := r2.get1 hlt
          have c1 := hw.f1.rd (hc _ rfl)
          have hs2 : s2 + 1 + x.size = s + (sumSz (vs.take (j + 1)) + (j + 1)) := by rw [sumSz_take vs j x hx]; have := HS.out; omega
          have hs3 : s2 + 1 + x.size ≤ 20 * 1125899906842624 := by have := HLE2.out (j + 1); have := HB.out; omega
          have HS2 := Lib.hid hs2
          clear hc hx hs2
          have j1 : IntKind.i64.wrap ((s2 : Int) + 1) = ((s2 + 1 : Nat) : Int) := IntWalk.i64_in _ (by omega)
          have j2 : IntKind.i64.wrap (((s2 + 1 : Nat) : Int) + x.size) = ((s2 + 1 + x.size : Nat) : Int) := IntWalk.i64_in _ (by omega)
          have hkn : (j : Int) < nv := by omega
          go_wp2_with fail
          go_roundw
          case rel => exact ⟨j + 1, s2 + 1 + x.size, by omega, by go_num, HS2.out, rfl, hw⟩
          case measure => simp [intOf]; omega
        · obtain rfl : j = nv := by omega
          have hfin : s2 = 4 * nl + (sk + k) + (sv + j) := by rw [HS.out, HALL2.out, HSK.out]
          have HF := Lib.hid hfin
          have HW := Lib.hid hw
          clear hw hfin HS HLE2 hlt hj
          go_wp2_with fail
          go_ret
          exact ⟨ret_i64 (by rw [HF.out]), HW.out.drop⟩
end
end Go.Proofs.YtbclmmneiphcaaaDoor
