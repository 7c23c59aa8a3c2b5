/- limit.Names, with what it says; latchkeylaw24.texts, names, add. -/
import Derived.Test.YtnbpbonpcbemdaaLimO
namespace Go.Proofs.Ytnbpbonpcbemdaa
open Go.RowKit
attribute [local go_sem] run_store_float
section
variable {E : World} {L : List Hp}
set_option maxHeartbeats 8000000 in
theorem names2_any (b rate burst : Nat) (l : List Bkt) (w : World) (hl : l.length ≤ 1000) (h : Own E w (Hp.lim b rate burst l :: L)) :
    Calls Try.prog 19 #[.pointer (some ⟨b, 0, none⟩)] w fun e w' => ∃ v, e = .returned v ∧ Own E w' (Hp.row ST 1 v l.length (nmsV l) :: Hp.lim b rate burst l :: L) := by
  obtain ⟨v, h⟩ := h.ofLim
  obtain ⟨A, c, rfl⟩ := h.f1.lrow
  have c2 : w.cell? ⟨b, 2, none⟩ = some (.slice A l.length c) := h.cell 2
  have h0 := h.nilRow ST 1
  have H := Lib.hid h0
  clear h h0
  go_enter Try.func19, Try.ntmps19
  go_wp2_with fail
  clear c2
  go_loopw [3, 11] (fun out i wr => ∃ k : Nat, k ≤ l.length ∧ i = .int .i64 k ∧ Own E wr (Hp.row ST 1 out k ((l.take k).map fun x => .string x.name) :: Hp.blk b LIMT #[.float .f32 rate, .float .f32 burst, .slice A l.length c] :: Hp.row BKT 3 (.slice A l.length c) l.length (l.flatMap enB) :: L)) (fun _ i _ => l.length - (intOf i).toNat)
  case atStart => exact ⟨0, by omega, rfl, H.out⟩
  case round =>
    obtain ⟨k, hk, rfl, hw⟩ := hrel
    clear H
    obtain ⟨A2, c3, rfl⟩ := hw.rowSlice
    by_cases hlt : k < l.length
    · have hlti : (k : Int) < l.length := by omega
      obtain ⟨x, hx⟩ : ∃ x, l[k]? = some x := ⟨_, List.getElem?_eq_getElem hlt⟩
      obtain ⟨g, rfl, d0, d1, d2⟩ := hw.f2.lcell k x hx
      have h1 := (hw.alloc (.cells #[.string x.name, .float .f32 x.level, .int .i64 x.at_] BKT)).f1
      obtain ⟨v', w5, hap, h5, -⟩ := sl_append_new (P := Try.prog) (t := LST) (ty := LST) (by kernel_rfl) st_info rfl (by omega) h1 #[.string x.name] 1 rfl (by simp [Value.oneCell']) (by unfold maxLen; omega) (by omega)
      have et : ((l.take k).map fun x => Value.string x.name) ++ (#[Value.string x.name] : Array Value).toList = (l.take (k + 1)).map fun x => Value.string x.name := by
        rw [List.take_add_one, hx, List.map_append]; rfl
      rw [et] at h5
      rw [alloc_size] at hap
      have h6 := h5.f1.drop
      have H6 := Lib.hid h6
      clear hw h1 h5 h6 et hx
      go_wp2_with (with_reducible refine at_slot (k := some 19) ?_; refine wpList_append_run (o := ⟨some 19, _, _, _, _, _⟩) hap rfl rfl rfl rfl ?_; clear hap)
      go_roundw
      case rel => exact ⟨k + 1, by omega, by go_num, H6.out⟩
      case measure => simp [intOf]; omega
    · obtain rfl : k = l.length := by omega
      have hlti : ¬ (l.length : Int) < l.length := by omega
      rw [List.take_of_length_le (Nat.le_refl _)] at hw
      have H := Lib.hid ((Own.toLim hw.f2.f2).f1)
      clear hw hlt hk
      go_wp2_with fail
      go_ret
      first | exact ⟨_, rfl, H.out⟩ | exact ⟨rfl, H.out⟩ | exact H.out
set_option maxHeartbeats 4000000 in
theorem texts_own (A B : Option Addr) (n c d : Nat) (xs : List Bkt) (w : World) (hn : n = xs.length) (hm : n ≤ 1000) (h : Own E w (Hp.row ST 1 (.slice A n c) n (nmsV xs) :: Hp.row ST 1 (.slice B n d) n (nmsV xs) :: L)) :
    Calls Try.prog 37 #[.slice A n c, .slice B n d] w fun e w' => e = .returned (.bool true) ∧ Own E w' (Hp.row ST 1 (.slice A n c) n (nmsV xs) :: Hp.row ST 1 (.slice B n d) n (nmsV xs) :: L) := by
  have H := Lib.hid h
  have HN := Lib.hid hn
  clear h hn
  go_enter Try.func37, Try.ntmps37
  go_wp2_with fail
  go_loopw [5] (fun i wr => ∃ k : Nat, k ≤ n ∧ i = .int .i64 k ∧ Own E wr (Hp.row ST 1 (.slice A n c) n (nmsV xs) :: Hp.row ST 1 (.slice B n d) n (nmsV xs) :: L)) (fun i _ => n - (intOf i).toNat)
  case atStart => exact ⟨0, by omega, rfl, H.out⟩
  case round =>
    obtain ⟨k, hk, rfl, hw⟩ := hrel
    clear H
    by_cases hlt : k < n
    · have hlti : (k : Int) < n := by omega
      have hkx : k < xs.length := by rw [← HN.out]; exact hlt
      have hx : (nmsV xs)[k]? = some (.string xs[k].name) := by rw [List.getElem?_map, List.getElem?_eq_getElem hkx]; rfl
      generalize xs[k].name = s at *
      obtain ⟨g1, rfl, d1, -⟩ := hw.rowCells k _ hx
      obtain ⟨g2, rfl, d2, -⟩ := hw.f1.rowCells k _ hx
      have he : (s.toList != s.toList) = false := by simp
      have h := hw.drew
      have HC : Hid (∀ w', (∃ L', Own E w' (Hp.row ST 1 (.slice (some ⟨g1, 0, none⟩) n c) n (nmsV xs) :: Hp.row ST 1 (.slice (some ⟨g2, 0, none⟩) n d) n (nmsV xs) :: L')) → w'.cell? ⟨g1, k, none⟩ = some (.string s) ∧ w'.cell? ⟨g2, k, none⟩ = some (.string s)) := Lib.hid fun w' hw' => by
        obtain ⟨_, hw'⟩ := hw'
        obtain ⟨_, e1, q1, -⟩ := hw'.rowCells k _ hx
        obtain ⟨_, e2, q2, -⟩ := hw'.f1.rowCells k _ hx
        injection e1 with e1
        injection e1 with e1
        injection e2 with e2
        injection e2 with e2
        subst e1
        subst e2
        exact ⟨q1, q2⟩
      clear hw d1 d2 hx hkx
      go_wp2_with fail
      refine wp_region_text [3, 7] (fun w' => w'.cell? ⟨g1, k, none⟩ = some (.string s) ∧ w'.cell? ⟨g2, k, none⟩ = some (.string s)) (by kernel_rfl) ?_ (fun hS => ?_)
      · exact HC.out _ ⟨_, h⟩
      refine wpAnyG_pure (i := 0) (oi := ⟨some 17, _, _, _, _, _⟩) (v := ?_) rfl (by kernel_rfl) (by kernel_rfl) (by kernel_rfl) (by rfl) (fun _ _ _ h => h) (by rfl) ?_ ?_
      rotate_left
      · intro w
        go_simp
        first | done | with_reducible rfl
      try simp only [Act.put, List.setIfInBounds_toArray, List.set_cons_zero, List.set_cons_succ]
      refine wpAnyG_pure (i := 1) (oi := ⟨some 18, _, _, _, _, _⟩) (v := ?_) rfl (by kernel_rfl) (by kernel_rfl) (by kernel_rfl) (by rfl) (fun _ _ _ h => h) (by rfl) ?_ ?_
      rotate_left
      · intro w
        go_simp
        first | done | with_reducible rfl
      try simp only [Act.put, List.setIfInBounds_toArray, List.set_cons_zero, List.set_cons_succ]
      refine wpAnyG_pure (i := 2) (oi := ⟨some 19, _, _, _, _, _⟩) (v := ?_) rfl (by kernel_rfl) (by kernel_rfl) (by kernel_rfl) (by rfl) (fun _ _ _ h => h) (by rfl) ?_ ?_
      rotate_left
      · intro w
        go_simp
        first | done | with_reducible rfl
      try simp only [Act.put, List.setIfInBounds_toArray, List.set_cons_zero, List.set_cons_succ]
      refine wpAnyG_load (i := 3) (oi := ⟨some 20, _, _, _, _, _⟩) (v := ?_) rfl (by kernel_rfl) (by kernel_rfl) (by kernel_rfl) (by rfl) (fun _ _ _ h => h) (by rfl) ?_ (by assumption) ?_
      rotate_left
      · intro w hS
        try dsimp only at hS
        go_simp
        first | done | with_reducible rfl
      try simp only [Act.put, List.setIfInBounds_toArray, List.set_cons_zero, List.set_cons_succ]
      refine wpAnyG_pure (i := 4) (oi := ⟨some 21, _, _, _, _, _⟩) (v := ?_) rfl (by kernel_rfl) (by kernel_rfl) (by kernel_rfl) (by rfl) (fun _ _ _ h => h) (by rfl) ?_ ?_
      rotate_left
      · intro w
        go_simp
        first | done | with_reducible rfl
      try simp only [Act.put, List.setIfInBounds_toArray, List.set_cons_zero, List.set_cons_succ]
      refine wpAnyG_pure (i := 5) (oi := ⟨some 22, _, _, _, _, _⟩) (v := ?_) rfl (by kernel_rfl) (by kernel_rfl) (by kernel_rfl) (by rfl) (fun _ _ _ h => h) (by rfl) ?_ ?_
      rotate_left
      · intro w
        go_simp
        first | done | with_reducible rfl
      try simp only [Act.put, List.setIfInBounds_toArray, List.set_cons_zero, List.set_cons_succ]
      refine wpAnyG_pure (i := 6) (oi := ⟨some 23, _, _, _, _, _⟩) (v := ?_) rfl (by kernel_rfl) (by kernel_rfl) (by kernel_rfl) (by rfl) (fun _ _ _ h => h) (by rfl) ?_ ?_
      rotate_left
      · intro w
        go_simp
        first | done | with_reducible rfl
      try simp only [Act.put, List.setIfInBounds_toArray, List.set_cons_zero, List.set_cons_succ]
      refine wpAnyG_load (i := 7) (oi := ⟨some 24, _, _, _, _, _⟩) (v := ?_) rfl (by kernel_rfl) (by kernel_rfl) (by kernel_rfl) (by rfl) (fun _ _ _ h => h) (by rfl) ?_ (by assumption) ?_
      rotate_left
      · intro w hS
        try dsimp only at hS
        go_simp
        first | done | with_reducible rfl
      try simp only [Act.put, List.setIfInBounds_toArray, List.set_cons_zero, List.set_cons_succ]
      refine wpAnyG_pure (i := 8) (oi := ⟨some 25, _, _, _, _, _⟩) (v := ?_) rfl (by kernel_rfl) (by kernel_rfl) (by kernel_rfl) (by rfl) (fun _ _ _ h => h) (by rfl) ?_ ?_
      rotate_left
      · intro w
        go_simp
        first | done | with_reducible rfl
      try simp only [Act.put, List.setIfInBounds_toArray, List.set_cons_zero, List.set_cons_succ]
      refine wpAnyG_done (by kernel_rfl) ?_ _
      refine NoPanic.normal ?_
      have H := Lib.hid h
      clear h
      go_wp2_with fail
      go_roundw
      case rel => exact ⟨k + 1, by omega, by go_num, H.out⟩
      case measure => simp [intOf]; omega
    · obtain rfl : k = n := by omega
      have hlti : ¬ (k : Int) < k := by omega
      have H := Lib.hid hw
      clear hw hlt hk
      go_wp2_with fail
      go_ret
      exact ⟨rfl, H.out⟩
end
end Go.Proofs.Ytnbpbonpcbemdaa
