/- limit.Take. -/
import Derived.Test.YtnbpbonpcbemdaaLimA
namespace Go.Proofs.Ytnbpbonpcbemdaa
open Go.RowKit
attribute [local go_sem] run_store_float
section
variable {E : World} {L : List Hp}
set_option maxHeartbeats 8000000 in
theorem take_any (b rate burst cost : Nat) (l : List Bkt) (s : ByteArray) (now : Int) (w : World) (hr : Fl.Pr rate) (hb : burst < 2139095040) (hc : Fl.Pr cost) (hs : s.size ≤ 1000000000000000000) (hnm : nameB s = true) (hok : LimOk burst l) (h : Own E w (Hp.lim b rate burst l :: L)) :
    Calls Try.prog 12 #[.pointer (some ⟨b, 0, none⟩), .string s, .float .f32 cost, .int .i64 now] w fun e w' =>
      (hasN rate burst l s now < Fl.Z cost ∧ (∃ W : Nat, e = .returned (.tuple #[.int .i64 W, .int .i64 241]) ∧ IsWait (fun d => enoughB rate burst (ofN burst l s (nearN now)).level cost ((nearN now - (ofN burst l s (nearN now)).at_).toNat + d)) W) ∧ Own E w' (Hp.lim b rate burst l :: L)) ∨
      (Fl.Z cost ≤ hasN rate burst l s now ∧ e = .returned (.tuple #[.int .i64 0, .int .i64 0]) ∧ Own E w' (Hp.lim b rate burst (tookN rate burst l s cost now) :: L)) := by
  have hn := nearN_in now
  have ho := ofN_ok (s := s) hok hn
  have hlen := hok.len
  have k1 := fun w => nearest_any now w
  have k0 := fun w M hw => isname_any (E := E) (L := M) s w hs (by unfold maxLen; omega) hw
  have kp := fun w => proper_ok cost w hc
  have k2 := fun w M hw => of_any (E := E) (L := M) b rate burst l s (nearN now) w (by omega) hw
  have k3 := fun w M hw => level_any (E := E) (L := M) b rate burst l (ofN burst l s (nearN now)) (nearN now) w hr (by omega) (by omega) ho.2 hn hw
  have k4 := fun w M hw => wait_any (E := E) (L := M) b rate burst cost (nearN now) l (ofN burst l s (nearN now)) w hr hb (by omega) hc ho.2 hn hw
  have k5 := fun w M hw => place_any (E := E) (L := M) b rate burst l s w (by omega) hw
  have hh : hasN rate burst l s now = levelN rate burst (ofN burst l s (nearN now)) (nearN now) := rfl
  have hle := hasN_le (rate := rate) (s := s) (now := now) hok
  have htk : tookN rate burst l s cost now = (⟨s, Fl.D (hasN rate burst l s now) (Fl.Z cost), max (nearN now) (ofN burst l s (nearN now)).at_⟩ :: dropN l s).take 16 := rfl
  rw [← hh] at k3
  generalize hasN rate burst l s now = lv at *
  generalize ofN burst l s (nearN now) = x at *
  generalize nearN now = t at *
  have hlt : (FloatKind.f32.format.order lv cost == some .lt) = decide (lv < Fl.Z cost) := by
    rw [Fl.lt_Z (.inl (by omega)) hc, Fl.Z_same (by omega)]
  have K1 := Lib.hid k1
  have K0 := Lib.hid k0
  have KP := Lib.hid kp
  have K2 := Lib.hid k2
  have K3 := Lib.hid k3
  have K4 := Lib.hid k4
  have K5 := Lib.hid k5
  have H := Lib.hid h
  have HH := Lib.hid hh
  have HTK := Lib.hid htk
  have HOKL := Lib.hid hok.len
  clear k0 k1 kp k2 k3 k4 k5 h hh hok htk
  go_enter Try.func12, Try.ntmps12
  go_wp2_with fail
  refine (K0.out _ _ H.out).mono ?_
  rintro e w1 ⟨rfl, h⟩
  clear H
  have H := Lib.hid h
  clear h
  rw [hnm]
  go_wp2_with fail
  refine (KP.out _).mono ?_
  rintro e w1 ⟨rfl, rfl⟩
  go_wp2_with fail
  refine (K1.out _).mono ?_
  rintro e w2 ⟨rfl, rfl⟩
  go_wp2_with fail
  refine (K2.out _ _ H.out).mono ?_
  rintro e w2 ⟨rfl, h⟩
  have h1 : Own E _ (Hp.blk w2.heap.size BKT #[.string x.name, .float .f32 x.level, .int .i64 x.at_] :: _) := h.alloc _
  obtain ⟨g, hg⟩ : ∃ g, g = w2.heap.size := ⟨_, rfl⟩
  rw [← hg] at h1
  clear H h
  have H := Lib.hid h1.f1
  clear h1
  go_wp2_with fail
  rw [← hg]
  clear hg
  refine (K3.out _ _ H.out).mono ?_
  rintro e w4 ⟨rfl, h⟩
  have p0 : w4.cell? ⟨g, 0, none⟩ = some (.string x.name) := h.f1.cell 0
  have p1 : w4.cell? ⟨g, 1, none⟩ = some (.float .f32 x.level) := h.f1.cell 1
  have p2 : w4.cell? ⟨g, 2, none⟩ = some (.int .i64 x.at_) := h.f1.cell 2
  clear H K0 KP K1 K2 K3
  have H := Lib.hid h
  clear h
  by_cases hcase : lv < Fl.Z cost
  · rw [decide_eq_true hcase] at hlt
    have HCA := Lib.hid hcase
    clear hcase
    go_wp2_with fail
    refine (K4.out _ _ H.out).mono ?_
    rintro e w4 ⟨⟨W, rfl, hW⟩, h⟩
    have HW := Lib.hid hW
    have H2 := Lib.hid h.f1.drop
    clear h hW
    go_wp2_with fail
    go_ret2
    exact .inl ⟨HCA.out, ⟨W, rfl, HW.out⟩, H2.out⟩
  · rw [decide_eq_false hcase] at hlt
    have hge : Fl.Z cost ≤ lv := by omega
    have hsub := Fl.sub_Z (x := lv) (by omega) hc hge
    have HGE := Lib.hid hge
    clear hcase hge K4 p0 p1
    generalize Fl.D lv (Fl.Z cost) = dv at *
    have hop := fun t (w : World) => run_float_arith (P := Try.prog) w .sub t .f32 lv cost dv hsub
    clear hsub
    have hmx : max t x.at_ = if t < x.at_ then x.at_ else t := by split <;> omega
    rw [hmx] at HTK
    clear hmx
    go_wp2_with fail
    refine (K5.out _ _ H.out).mono ?_
    rintro e w4 ⟨rfl, h⟩
    clear p2 H
    have hdl := dropN_len l s
    obtain ⟨l0, hl0⟩ : ∃ l0, l0 = dropN l s := ⟨_, rfl⟩
    rw [← hl0] at HTK hdl
    cases hf : findN l s with
    | none =>
      have hpi : placeI l s = -1 := by unfold placeI; rw [hf]
      obtain rfl : l0 = l := by rw [hl0]; unfold dropN; rw [hf]
      rw [hpi]
      have H := Lib.hid h
      clear hpi hf hl0 h
      go_wp2_with fail
      have h := H.out
      clear H
      obtain ⟨v, h⟩ := h.ofLim
      obtain ⟨A, c, rfl⟩ := h.f1.lrow
      have HC : Hid (∀ w', (∃ L', Own E w' (Hp.blk b LIMT #[.float .f32 rate, .float .f32 burst, .slice A l0.length c] :: Hp.blk g BKT #[.string x.name, .float .f32 x.level, .int .i64 x.at_] :: L')) → w'.cell? ⟨b, 2, none⟩ = some (.slice A l0.length c) ∧ w'.cell? ⟨g, 2, none⟩ = some (.int .i64 x.at_)) := Lib.hid fun w' hw => by
        obtain ⟨_, hw⟩ := hw
        exact ⟨hw.cell 2, hw.f1.cell 2⟩
      have h : Own E _ (Hp.blk b LIMT #[.float .f32 rate, .float .f32 burst, .slice A l0.length c] :: Hp.blk g BKT #[.string x.name, .float .f32 x.level, .int .i64 x.at_] :: Hp.row BKT 3 (.slice A l0.length c) l0.length (l0.flatMap enB) :: L) := h.ac (by simp only [Hp.all] <;> ac_rfl)
      have h := h.drew
      refine wp_region_text [4, 11] (fun w' => w'.cell? ⟨b, 2, none⟩ = some (.slice A l0.length c) ∧ w'.cell? ⟨g, 2, none⟩ = some (.int .i64 x.at_)) (by kernel_rfl) ?_ (fun hS => ?_)
      · exact HC.out _ ⟨_, h⟩
      refine wpAnyG_pure (i := 0) (oi := ⟨some 55, _, _, _, _, _⟩) (v := ?_) rfl (by kernel_rfl) (by kernel_rfl) (by kernel_rfl) (by rfl) (fun _ _ _ h => h) (by rfl) ?_ ?_
      rotate_left
      · intro w
        go_simp
        first | done | with_reducible rfl
      try simp only [Act.put, List.setIfInBounds_toArray, List.set_cons_zero, List.set_cons_succ]
      refine wpAnyG_pure (i := 1) (oi := ⟨some 56, _, _, _, _, _⟩) (v := ?_) rfl (by kernel_rfl) (by kernel_rfl) (by kernel_rfl) (by rfl) (fun _ _ _ h => h) (by rfl) ?_ ?_
      rotate_left
      · intro w
        go_simp
        first | done | with_reducible rfl
      try simp only [Act.put, List.setIfInBounds_toArray, List.set_cons_zero, List.set_cons_succ]
      refine wpAnyG_pure (i := 2) (oi := ⟨some 57, _, _, _, _, _⟩) (v := ?_) rfl (by kernel_rfl) (by kernel_rfl) (by kernel_rfl) (by rfl) (fun _ _ _ h => h) (by rfl) ?_ ?_
      rotate_left
      · intro w
        go_simp
        first | done | with_reducible rfl
      try simp only [Act.put, List.setIfInBounds_toArray, List.set_cons_zero, List.set_cons_succ]
      refine wpAnyG_pure (i := 3) (oi := ⟨some 58, _, _, _, _, _⟩) (v := ?_) rfl (by kernel_rfl) (by kernel_rfl) (by kernel_rfl) (by rfl) (fun _ _ _ h => h) (by rfl) ?_ ?_
      rotate_left
      · intro w
        go_simp
        first | done | with_reducible rfl
      try simp only [Act.put, List.setIfInBounds_toArray, List.set_cons_zero, List.set_cons_succ]
      refine wpAnyG_load (i := 4) (oi := ⟨some 59, _, _, _, _, _⟩) (v := ?_) rfl (by kernel_rfl) (by kernel_rfl) (by kernel_rfl) (by rfl) (fun _ _ _ h => h) (by rfl) ?_ (by assumption) ?_
      rotate_left
      · intro w hS
        try dsimp only at hS
        go_simp
        first | done | with_reducible rfl
      try simp only [Act.put, List.setIfInBounds_toArray, List.set_cons_zero, List.set_cons_succ]
      refine wpAnyG_pure (i := 5) (oi := ⟨some 60, _, _, _, _, _⟩) (v := ?_) rfl (by kernel_rfl) (by kernel_rfl) (by kernel_rfl) (by rfl) (fun _ _ _ h => h) (by rfl) ?_ ?_
      rotate_left
      · intro w
        go_simp
        first | done | with_reducible rfl
      try simp only [Act.put, List.setIfInBounds_toArray, List.set_cons_zero, List.set_cons_succ]
      refine wpAnyG_pure (i := 6) (oi := ⟨some 61, _, _, _, _, _⟩) (v := ?_) rfl (by kernel_rfl) (by kernel_rfl) (by kernel_rfl) (by rfl) (fun _ _ _ h => h) (by rfl) ?_ ?_
      rotate_left
      · intro w
        go_simp
        first | done | with_reducible rfl
      try simp only [Act.put, List.setIfInBounds_toArray, List.set_cons_zero, List.set_cons_succ]
      refine wpAnyG_pure (i := 7) (oi := ⟨some 62, _, _, _, _, _⟩) (v := ?_) rfl (by kernel_rfl) (by kernel_rfl) (by kernel_rfl) (by rfl) (fun _ _ _ h => h) (by rfl) ?_ ?_
      rotate_left
      · intro w
        go_simp
        first | done | with_reducible rfl
      try simp only [Act.put, List.setIfInBounds_toArray, List.set_cons_zero, List.set_cons_succ]
      refine wpAnyG_pure (i := 8) (oi := ⟨some 63, _, _, _, _, _⟩) (v := ?_) rfl (by kernel_rfl) (by kernel_rfl) (by kernel_rfl) (by rfl) (fun _ _ _ h => h) (by rfl) ?_ ?_
      rotate_left
      · intro w
        go_simp
        first | done | with_reducible rfl
      try simp only [Act.put, List.setIfInBounds_toArray, List.set_cons_zero, List.set_cons_succ]
      refine wpAnyG_pure (i := 9) (oi := ⟨some 64, _, _, _, _, _⟩) (v := ?_) rfl (by kernel_rfl) (by kernel_rfl) (by kernel_rfl) (by rfl) (fun _ _ _ h => h) (by rfl) ?_ ?_
      rotate_left
      · intro w
        go_simp
        first | done | with_reducible rfl
      try simp only [Act.put, List.setIfInBounds_toArray, List.set_cons_zero, List.set_cons_succ]
      refine wpAnyG_pure (i := 10) (oi := ⟨some 65, _, _, _, _, _⟩) (v := ?_) rfl (by kernel_rfl) (by kernel_rfl) (by kernel_rfl) (by rfl) (fun _ _ _ h => h) (by rfl) ?_ ?_
      rotate_left
      · intro w
        go_simp
        first | done | with_reducible rfl
      try simp only [Act.put, List.setIfInBounds_toArray, List.set_cons_zero, List.set_cons_succ]
      refine wpAnyG_load (i := 11) (oi := ⟨some 66, _, _, _, _, _⟩) (v := ?_) rfl (by kernel_rfl) (by kernel_rfl) (by kernel_rfl) (by rfl) (fun _ _ _ h => h) (by rfl) ?_ (by assumption) ?_
      rotate_left
      · intro w hS
        try dsimp only at hS
        go_simp
        first | done | with_reducible rfl
      try simp only [Act.put, List.setIfInBounds_toArray, List.set_cons_zero, List.set_cons_succ]
      refine wpAnyG_pure (i := 12) (oi := ⟨some 67, _, _, _, _, _⟩) (v := ?_) rfl (by kernel_rfl) (by kernel_rfl) (by kernel_rfl) (by rfl) (fun _ _ _ h => h) (by rfl) ?_ ?_
      rotate_left
      · intro w
        go_simp
        first | done | with_reducible rfl
      try simp only [Act.put, List.setIfInBounds_toArray, List.set_cons_zero, List.set_cons_succ]
      refine wpAnyG_pure (i := 13) (oi := ⟨some 68, _, _, _, _, _⟩) (v := ?_) rfl (by kernel_rfl) (by kernel_rfl) (by kernel_rfl) (by rfl) (fun _ _ _ h => h) (by rfl) ?_ ?_
      rotate_left
      · intro w
        go_simp
        first | done | with_reducible rfl
      try simp only [Act.put, List.setIfInBounds_toArray, List.set_cons_zero, List.set_cons_succ]
      refine wpAnyG_keep (i := 14) (oi := ⟨some 69, _, _, _, _, _⟩) (by kernel_rfl) rfl (fun K hK => ?_)
      rw [if_pos (by rfl)]
      have h := h.alloc (.cells #[.string s, .float .f32 dv, .int .i64 (if t < x.at_ then x.at_ else t)] BKT)
      go_simp
      refine hK.out _ _ ?_ (fun hS => ?_)
      · exact HC.out _ ⟨_, h.f2.f2⟩
      clear hK K
      try simp only [Act.put, List.setIfInBounds_toArray, List.set_cons_zero, List.set_cons_succ]
      refine wpAnyG_keep (i := 15) (oi := ⟨some 70, _, _, _, _, _⟩) (by kernel_rfl) rfl (fun K hK => ?_)
      rw [if_pos (by rfl)]
      go_simp
      refine (insert_any l0 ⟨s, dv, if t < x.at_ then x.at_ else t⟩ _ _ _ (by omega) h.f3).mono ?_
      rintro e w5 ⟨v', rfl, h⟩
      obtain ⟨A2, c2, rfl⟩ := h.lrow
      have eln : (⟨s, dv, if t < x.at_ then x.at_ else t⟩ :: l0 : List Bkt).length = l0.length + 1 := rfl
      rw [eln] at h ⊢
      refine hK.out _ _ ?_ (fun hS => ?_)
      · exact HC.out _ ⟨_, h.f3.f3⟩
      clear hK K
      try simp only [Act.put, List.setIfInBounds_toArray, List.set_cons_zero, List.set_cons_succ]
      refine wpAnyG_pure (i := 16) (oi := ⟨some 71, _, _, _, _, _⟩) (v := ?_) rfl (by kernel_rfl) (by kernel_rfl) (by kernel_rfl) (by rfl) (fun _ _ _ h => h) (by rfl) ?_ ?_
      rotate_left
      · intro w
        go_simp
        first | done | with_reducible rfl
      try simp only [Act.put, List.setIfInBounds_toArray, List.set_cons_zero, List.set_cons_succ]
      refine wpAnyG_pure (i := 17) (oi := ⟨some 72, _, _, _, _, _⟩) (v := ?_) rfl (by kernel_rfl) (by kernel_rfl) (by kernel_rfl) (by rfl) (fun _ _ _ h => h) (by rfl) ?_ ?_
      rotate_left
      · intro w
        go_simp
        first | done | with_reducible rfl
      try simp only [Act.put, List.setIfInBounds_toArray, List.set_cons_zero, List.set_cons_succ]
      refine wpAnyG_break (i := 18) (oi := ⟨none, _, _, _, _, _⟩) (by kernel_rfl) rfl (by kernel_rfl) (fun K hK => ?_)
      rw [if_pos (by rfl)]
      have h : Own E _ (Hp.blk b LIMT #[.float .f32 rate, .float .f32 burst, .slice A l0.length c] :: Hp.row BKT 3 (.slice A2 (l0.length + 1) c2) (l0.length + 1) ((⟨s, dv, if t < x.at_ then x.at_ else t⟩ :: l0 : List Bkt).flatMap enB) :: Hp.blk _ BKT #[.string s, .float .f32 dv, .int .i64 (if t < x.at_ then x.at_ else t)] :: Hp.blk g BKT #[.string x.name, .float .f32 x.level, .int .i64 x.at_] :: L) := h.f2
      have f5 := h.cell 2
      have f6 := h.frozen 2
      have h := h.set 2 (.slice A2 (l0.length + 1) c2)
      go_simp
      refine hK.out _ _ ?_
      clear hK K
      try simp only [Act.put]
      refine wpAnyG_done (by kernel_rfl) ?_ _
      refine NoPanic.normal ?_
      generalize (if t < x.at_ then x.at_ else t) = mx at *
      have h : Own E _ (Hp.blk b LIMT #[.float .f32 rate, .float .f32 burst, .slice A2 (l0.length + 1) c2] :: Hp.row BKT 3 (.slice A2 (l0.length + 1) c2) (l0.length + 1) ((⟨s, dv, mx⟩ :: l0 : List Bkt).flatMap enB) :: Hp.blk _ BKT #[.string s, .float .f32 dv, .int .i64 mx] :: Hp.blk g BKT #[.string x.name, .float .f32 x.level, .int .i64 x.at_] :: L) := h
      generalize World.setCell _ _ _ = w20 at h ⊢
      have hcc : l0.length + 1 ≤ c2 := by
        obtain ⟨-, ⟨_, h0, _, _⟩ | ⟨_, _, _, hv, h3, _⟩⟩ := h.f1.rowForm
        · omega
        · injection hv with _ _ hc; omega
      have h := h.drew
      by_cases h16 : l0.length + 1 ≤ 16
      · have C1 := Lib.hid (show (if (16 : Int) < (l0.length : Int) + 1 then (16 : Int) else (l0.length : Int) + 1) = (l0.length : Int) + 1 from if_neg (by omega))
        have c3 : (0 : Int) ≤ (l0.length : Int) + 1 := by omega
        have c4 : ((l0.length : Int) + 1).toNat = l0.length + 1 := by omega
        have c5 : (l0.length : Int) + 1 ≤ c2 := by omega
        go_wp2_with fail
        refine wp_region_text [4, 8] (fun w' => w'.cell? ⟨b, 2, none⟩ = some (.slice A2 (l0.length + 1) c2)) (by kernel_rfl) ?_ (fun hS => ?_)
        · exact h.cell 2
        refine wpAnyG_pure (i := 0) (oi := ⟨some 73, _, _, _, _, _⟩) (v := ?_) rfl (by kernel_rfl) (by kernel_rfl) (by kernel_rfl) (by rfl) (fun _ _ _ h => h) (by rfl) ?_ ?_
        rotate_left
        · intro w
          go_simp
          first | done | with_reducible rfl
        try simp only [Act.put, List.setIfInBounds_toArray, List.set_cons_zero, List.set_cons_succ]
        refine wpAnyG_pure (i := 1) (oi := ⟨some 74, _, _, _, _, _⟩) (v := ?_) rfl (by kernel_rfl) (by kernel_rfl) (by kernel_rfl) (by rfl) (fun _ _ _ h => h) (by rfl) ?_ ?_
        rotate_left
        · intro w
          go_simp
          first | done | with_reducible rfl
        try simp only [Act.put, List.setIfInBounds_toArray, List.set_cons_zero, List.set_cons_succ]
        refine wpAnyG_pure (i := 2) (oi := ⟨some 75, _, _, _, _, _⟩) (v := ?_) rfl (by kernel_rfl) (by kernel_rfl) (by kernel_rfl) (by rfl) (fun _ _ _ h => h) (by rfl) ?_ ?_
        rotate_left
        · intro w
          go_simp
          first | done | with_reducible rfl
        try simp only [Act.put, List.setIfInBounds_toArray, List.set_cons_zero, List.set_cons_succ]
        refine wpAnyG_pure (i := 3) (oi := ⟨some 76, _, _, _, _, _⟩) (v := ?_) rfl (by kernel_rfl) (by kernel_rfl) (by kernel_rfl) (by rfl) (fun _ _ _ h => h) (by rfl) ?_ ?_
        rotate_left
        · intro w
          go_simp
          first | done | with_reducible rfl
        try simp only [Act.put, List.setIfInBounds_toArray, List.set_cons_zero, List.set_cons_succ]
        refine wpAnyG_load (i := 4) (oi := ⟨some 77, _, _, _, _, _⟩) (v := ?_) rfl (by kernel_rfl) (by kernel_rfl) (by kernel_rfl) (by rfl) (fun _ _ _ h => h) (by rfl) ?_ (by assumption) ?_
        rotate_left
        · intro w hS
          try dsimp only at hS
          go_simp
          first | done | with_reducible rfl
        try simp only [Act.put, List.setIfInBounds_toArray, List.set_cons_zero, List.set_cons_succ]
        refine wpAnyG_pure (i := 5) (oi := ⟨some 78, _, _, _, _, _⟩) (v := ?_) rfl (by kernel_rfl) (by kernel_rfl) (by kernel_rfl) (by rfl) (fun _ _ _ h => h) (by rfl) ?_ ?_
        rotate_left
        · intro w
          go_simp
          first | done | with_reducible rfl
        try simp only [Act.put, List.setIfInBounds_toArray, List.set_cons_zero, List.set_cons_succ]
        refine wpAnyG_pure (i := 6) (oi := ⟨some 79, _, _, _, _, _⟩) (v := ?_) rfl (by kernel_rfl) (by kernel_rfl) (by kernel_rfl) (by rfl) (fun _ _ _ h => h) (by rfl) ?_ ?_
        rotate_left
        · intro w
          go_simp
          first | done | with_reducible rfl
        try simp only [Act.put, List.setIfInBounds_toArray, List.set_cons_zero, List.set_cons_succ]
        refine wpAnyG_pure (i := 7) (oi := ⟨some 80, _, _, _, _, _⟩) (v := ?_) rfl (by kernel_rfl) (by kernel_rfl) (by kernel_rfl) (by rfl) (fun _ _ _ h => h) (by rfl) ?_ ?_
        rotate_left
        · intro w
          go_simp
          first | done | with_reducible rfl
        try simp only [Act.put, List.setIfInBounds_toArray, List.set_cons_zero, List.set_cons_succ]
        refine wpAnyG_load (i := 8) (oi := ⟨some 81, _, _, _, _, _⟩) (v := ?_) rfl (by kernel_rfl) (by kernel_rfl) (by kernel_rfl) (by rfl) (fun _ _ _ h => h) (by rfl) ?_ (by assumption) ?_
        rotate_left
        · intro w hS
          try dsimp only at hS
          go_simp
          first | done | with_reducible rfl
        try simp only [Act.put, List.setIfInBounds_toArray, List.set_cons_zero, List.set_cons_succ]
        refine wpAnyG_pure (i := 9) (oi := ⟨some 82, _, _, _, _, _⟩) (v := ?_) rfl (by kernel_rfl) (by kernel_rfl) (by kernel_rfl) (by rfl) (fun _ _ _ h => h) (by rfl) ?_ ?_
        rotate_left
        · intro w
          go_simp
          first | done | with_reducible rfl
        try simp only [Act.put, List.setIfInBounds_toArray, List.set_cons_zero, List.set_cons_succ]
        refine wpAnyG_pure (i := 10) (oi := ⟨some 83, _, _, _, _, _⟩) (v := (.int .i64 ((l0.length : Int) + 1))) rfl (by kernel_rfl) (by kernel_rfl) (by kernel_rfl) (by rfl) (fun _ _ _ h => h) (by rfl) ?_ ?_
        · intro w
          go_simp; omega
        try simp only [Act.put, List.setIfInBounds_toArray, List.set_cons_zero, List.set_cons_succ]
        refine wpAnyG_pure (i := 11) (oi := ⟨some 84, _, _, _, _, _⟩) (v := ?_) rfl (by kernel_rfl) (by kernel_rfl) (by kernel_rfl) (by rfl) (fun _ _ _ h => h) (by rfl) ?_ ?_
        rotate_left
        · intro w
          go_simp
          first | done | with_reducible rfl
        try simp only [Act.put, List.setIfInBounds_toArray, List.set_cons_zero, List.set_cons_succ]
        refine wpAnyG_pure (i := 12) (oi := ⟨some 85, _, _, _, _, _⟩) (v := ?_) rfl (by kernel_rfl) (by kernel_rfl) (by kernel_rfl) (by rfl) (fun _ _ _ h => h) (by rfl) ?_ ?_
        rotate_left
        · intro w
          go_simp
          first | done | with_reducible rfl
        try simp only [Act.put, List.setIfInBounds_toArray, List.set_cons_zero, List.set_cons_succ]
        refine wpAnyG_pure (i := 13) (oi := ⟨some 86, _, _, _, _, _⟩) (v := ?_) rfl (by kernel_rfl) (by kernel_rfl) (by kernel_rfl) (by rfl) (fun _ _ _ h => h) (by rfl) ?_ ?_
        rotate_left
        · intro w
          go_simp
          first | done | with_reducible rfl
        try simp only [Act.put, List.setIfInBounds_toArray, List.set_cons_zero, List.set_cons_succ]
        refine wpAnyG_break (i := 14) (oi := ⟨none, _, _, _, _, _⟩) (by kernel_rfl) rfl (by kernel_rfl) (fun K hK => ?_)
        rw [if_pos (by rfl)]
        have f5 := h.cell 2
        have f6 := h.frozen 2
        have h := h.set 2 (.slice A2 (l0.length + 1) c2)
        go_simp
        refine hK.out _ _ ?_
        clear hK K
        try simp only [Act.put]
        refine wpAnyG_done (by kernel_rfl) ?_ _
        refine NoPanic.normal ?_
        have h : Own E _ (Hp.blk b LIMT #[.float .f32 rate, .float .f32 burst, .slice A2 (l0.length + 1) c2] :: Hp.row BKT 3 (.slice A2 (l0.length + 1) c2) (l0.length + 1) ((⟨s, dv, mx⟩ :: l0 : List Bkt).flatMap enB) :: Hp.blk _ BKT #[.string s, .float .f32 dv, .int .i64 mx] :: Hp.blk g BKT #[.string x.name, .float .f32 x.level, .int .i64 x.at_] :: L) := h
        obtain ⟨w21, hw21⟩ : ∃ w', w' = w20.drew.setCell ⟨b, 2, none⟩ (.slice A2 (l0.length + 1) c2) := ⟨_, rfl⟩
        rw [← hw21] at h
        have hq := (h.f1.rowCut (m := l0.length + 1) (by omega))
        rw [flat_take] at hq
        have hq : Own E _ (Hp.blk b LIMT #[.float .f32 rate, .float .f32 burst, .slice A2 (l0.length + 1) c2] :: Hp.row BKT 3 (.slice A2 (l0.length + 1) c2) (l0.length + 1) (((⟨s, dv, mx⟩ :: l0 : List Bkt).take (l0.length + 1)).flatMap enB) :: L) := hq.f1.f2.drop.f2.drop
        have elen : l0.length + 1 = ((⟨s, dv, mx⟩ :: l0 : List Bkt).take 16).length := by rw [List.length_take]; show _ = min 16 (l0.length + 1); omega
        have etk : (⟨s, dv, mx⟩ :: l0 : List Bkt).take (l0.length + 1) = (⟨s, dv, mx⟩ :: l0 : List Bkt).take 16 := by
          rw [List.take_of_length_le (by show l0.length + 1 ≤ _; omega), List.take_of_length_le (by show l0.length + 1 ≤ _; omega)]
        rw [etk] at hq
        have hq2 : Own E w21 (Hp.lim b rate burst ((⟨s, dv, mx⟩ :: l0 : List Bkt).take 16) :: L) := by
          refine Own.toLim (v := .slice A2 (l0.length + 1) c2) ?_
          rw [← elen]
          exact hq
        rw [← HTK.out] at hq2
        have HQ := Lib.hid hq2
        repeat clear h
        clear hq hq2 elen etk
        have HW21 := Lib.hid hw21
        clear hw21
        go_wp2_with fail
        go_ret2
        have hq3 := HQ.out
        rw [HW21.out] at hq3
        exact .inr ⟨HGE.out, rfl, hq3⟩
      · have C1 := Lib.hid (show (if (16 : Int) < (l0.length : Int) + 1 then (16 : Int) else (l0.length : Int) + 1) = 16 from if_pos (by omega))
        have c5 : 16 ≤ c2 := by omega
        have c6 : (16 : Int) ≤ c2 := by omega
        go_wp2_with fail
        refine wp_region_text [4, 8] (fun w' => w'.cell? ⟨b, 2, none⟩ = some (.slice A2 (l0.length + 1) c2)) (by kernel_rfl) ?_ (fun hS => ?_)
        · exact h.cell 2
        refine wpAnyG_pure (i := 0) (oi := ⟨some 73, _, _, _, _, _⟩) (v := ?_) rfl (by kernel_rfl) (by kernel_rfl) (by kernel_rfl) (by rfl) (fun _ _ _ h => h) (by rfl) ?_ ?_
        rotate_left
        · intro w
          go_simp
          first | done | with_reducible rfl
        try simp only [Act.put, List.setIfInBounds_toArray, List.set_cons_zero, List.set_cons_succ]
        refine wpAnyG_pure (i := 1) (oi := ⟨some 74, _, _, _, _, _⟩) (v := ?_) rfl (by kernel_rfl) (by kernel_rfl) (by kernel_rfl) (by rfl) (fun _ _ _ h => h) (by rfl) ?_ ?_
        rotate_left
        · intro w
          go_simp
          first | done | with_reducible rfl
        try simp only [Act.put, List.setIfInBounds_toArray, List.set_cons_zero, List.set_cons_succ]
        refine wpAnyG_pure (i := 2) (oi := ⟨some 75, _, _, _, _, _⟩) (v := ?_) rfl (by kernel_rfl) (by kernel_rfl) (by kernel_rfl) (by rfl) (fun _ _ _ h => h) (by rfl) ?_ ?_
        rotate_left
        · intro w
          go_simp
          first | done | with_reducible rfl
        try simp only [Act.put, List.setIfInBounds_toArray, List.set_cons_zero, List.set_cons_succ]
        refine wpAnyG_pure (i := 3) (oi := ⟨some 76, _, _, _, _, _⟩) (v := ?_) rfl (by kernel_rfl) (by kernel_rfl) (by kernel_rfl) (by rfl) (fun _ _ _ h => h) (by rfl) ?_ ?_
        rotate_left
        · intro w
          go_simp
          first | done | with_reducible rfl
        try simp only [Act.put, List.setIfInBounds_toArray, List.set_cons_zero, List.set_cons_succ]
        refine wpAnyG_load (i := 4) (oi := ⟨some 77, _, _, _, _, _⟩) (v := ?_) rfl (by kernel_rfl) (by kernel_rfl) (by kernel_rfl) (by rfl) (fun _ _ _ h => h) (by rfl) ?_ (by assumption) ?_
        rotate_left
        · intro w hS
          try dsimp only at hS
          go_simp
          first | done | with_reducible rfl
        try simp only [Act.put, List.setIfInBounds_toArray, List.set_cons_zero, List.set_cons_succ]
        refine wpAnyG_pure (i := 5) (oi := ⟨some 78, _, _, _, _, _⟩) (v := ?_) rfl (by kernel_rfl) (by kernel_rfl) (by kernel_rfl) (by rfl) (fun _ _ _ h => h) (by rfl) ?_ ?_
        rotate_left
        · intro w
          go_simp
          first | done | with_reducible rfl
        try simp only [Act.put, List.setIfInBounds_toArray, List.set_cons_zero, List.set_cons_succ]
        refine wpAnyG_pure (i := 6) (oi := ⟨some 79, _, _, _, _, _⟩) (v := ?_) rfl (by kernel_rfl) (by kernel_rfl) (by kernel_rfl) (by rfl) (fun _ _ _ h => h) (by rfl) ?_ ?_
        rotate_left
        · intro w
          go_simp
          first | done | with_reducible rfl
        try simp only [Act.put, List.setIfInBounds_toArray, List.set_cons_zero, List.set_cons_succ]
        refine wpAnyG_pure (i := 7) (oi := ⟨some 80, _, _, _, _, _⟩) (v := ?_) rfl (by kernel_rfl) (by kernel_rfl) (by kernel_rfl) (by rfl) (fun _ _ _ h => h) (by rfl) ?_ ?_
        rotate_left
        · intro w
          go_simp
          first | done | with_reducible rfl
        try simp only [Act.put, List.setIfInBounds_toArray, List.set_cons_zero, List.set_cons_succ]
        refine wpAnyG_load (i := 8) (oi := ⟨some 81, _, _, _, _, _⟩) (v := ?_) rfl (by kernel_rfl) (by kernel_rfl) (by kernel_rfl) (by rfl) (fun _ _ _ h => h) (by rfl) ?_ (by assumption) ?_
        rotate_left
        · intro w hS
          try dsimp only at hS
          go_simp
          first | done | with_reducible rfl
        try simp only [Act.put, List.setIfInBounds_toArray, List.set_cons_zero, List.set_cons_succ]
        refine wpAnyG_pure (i := 9) (oi := ⟨some 82, _, _, _, _, _⟩) (v := ?_) rfl (by kernel_rfl) (by kernel_rfl) (by kernel_rfl) (by rfl) (fun _ _ _ h => h) (by rfl) ?_ ?_
        rotate_left
        · intro w
          go_simp
          first | done | with_reducible rfl
        try simp only [Act.put, List.setIfInBounds_toArray, List.set_cons_zero, List.set_cons_succ]
        refine wpAnyG_pure (i := 10) (oi := ⟨some 83, _, _, _, _, _⟩) (v := (.int .i64 (16))) rfl (by kernel_rfl) (by kernel_rfl) (by kernel_rfl) (by rfl) (fun _ _ _ h => h) (by rfl) ?_ ?_
        · intro w
          go_simp; omega
        try simp only [Act.put, List.setIfInBounds_toArray, List.set_cons_zero, List.set_cons_succ]
        refine wpAnyG_pure (i := 11) (oi := ⟨some 84, _, _, _, _, _⟩) (v := ?_) rfl (by kernel_rfl) (by kernel_rfl) (by kernel_rfl) (by rfl) (fun _ _ _ h => h) (by rfl) ?_ ?_
        rotate_left
        · intro w
          go_simp
          first | done | with_reducible rfl
        try simp only [Act.put, List.setIfInBounds_toArray, List.set_cons_zero, List.set_cons_succ]
        refine wpAnyG_pure (i := 12) (oi := ⟨some 85, _, _, _, _, _⟩) (v := ?_) rfl (by kernel_rfl) (by kernel_rfl) (by kernel_rfl) (by rfl) (fun _ _ _ h => h) (by rfl) ?_ ?_
        rotate_left
        · intro w
          go_simp
          first | done | with_reducible rfl
        try simp only [Act.put, List.setIfInBounds_toArray, List.set_cons_zero, List.set_cons_succ]
        refine wpAnyG_pure (i := 13) (oi := ⟨some 86, _, _, _, _, _⟩) (v := ?_) rfl (by kernel_rfl) (by kernel_rfl) (by kernel_rfl) (by rfl) (fun _ _ _ h => h) (by rfl) ?_ ?_
        rotate_left
        · intro w
          go_simp
          first | done | with_reducible rfl
        try simp only [Act.put, List.setIfInBounds_toArray, List.set_cons_zero, List.set_cons_succ]
        refine wpAnyG_break (i := 14) (oi := ⟨none, _, _, _, _, _⟩) (by kernel_rfl) rfl (by kernel_rfl) (fun K hK => ?_)
        rw [if_pos (by rfl)]
        have f5 := h.cell 2
        have f6 := h.frozen 2
        have h := h.set 2 (.slice A2 (16) c2)
        go_simp
        refine hK.out _ _ ?_
        clear hK K
        try simp only [Act.put]
        refine wpAnyG_done (by kernel_rfl) ?_ _
        refine NoPanic.normal ?_
        have h : Own E _ (Hp.blk b LIMT #[.float .f32 rate, .float .f32 burst, .slice A2 (16) c2] :: Hp.row BKT 3 (.slice A2 (l0.length + 1) c2) (l0.length + 1) ((⟨s, dv, mx⟩ :: l0 : List Bkt).flatMap enB) :: Hp.blk _ BKT #[.string s, .float .f32 dv, .int .i64 mx] :: Hp.blk g BKT #[.string x.name, .float .f32 x.level, .int .i64 x.at_] :: L) := h
        obtain ⟨w21, hw21⟩ : ∃ w', w' = w20.drew.setCell ⟨b, 2, none⟩ (.slice A2 (16) c2) := ⟨_, rfl⟩
        rw [← hw21] at h
        have hq := (h.f1.rowCut (m := 16) (by omega))
        rw [flat_take] at hq
        have hq : Own E _ (Hp.blk b LIMT #[.float .f32 rate, .float .f32 burst, .slice A2 (16) c2] :: Hp.row BKT 3 (.slice A2 (16) c2) (16) (((⟨s, dv, mx⟩ :: l0 : List Bkt).take (16)).flatMap enB) :: L) := hq.f1.f2.drop.f2.drop
        have elen : 16 = ((⟨s, dv, mx⟩ :: l0 : List Bkt).take 16).length := by rw [List.length_take]; show _ = min 16 (l0.length + 1); omega
        have etk : (⟨s, dv, mx⟩ :: l0 : List Bkt).take (16) = (⟨s, dv, mx⟩ :: l0 : List Bkt).take 16 := by
          rfl
        rw [etk] at hq
        have hq2 : Own E w21 (Hp.lim b rate burst ((⟨s, dv, mx⟩ :: l0 : List Bkt).take 16) :: L) := by
          refine Own.toLim (v := .slice A2 (16) c2) ?_
          rw [← elen]
          exact hq
        rw [← HTK.out] at hq2
        have HQ := Lib.hid hq2
        repeat clear h
        clear hq hq2 elen etk
        have HW21 := Lib.hid hw21
        clear hw21
        go_wp2_with fail
        go_ret2
        have hq3 := HQ.out
        rw [HW21.out] at hq3
        exact .inr ⟨HGE.out, rfl, hq3⟩
    | some k =>
      have hpi : placeI l s = (k : Int) := by unfold placeI; rw [hf]
      obtain ⟨y, hy, -, -⟩ := findN_some hf
      have hk : k < l.length := (List.getElem?_eq_some_iff.1 hy).1
      have hl1 : l.eraseIdx k = l0 := by rw [hl0]; unfold dropN; rw [hf]
      obtain ⟨v, h⟩ := h.ofLim
      obtain ⟨A0, c0, rfl⟩ := h.f1.lrow
      have e2 : w4.cell? ⟨b, 2, none⟩ = some (.slice A0 l.length c0) := h.cell 2
      have kd := delete_any l A0 c0 k w4 (by omega) hk h.f1
      rw [hl1] at kd
      have jk : IntKind.i64.wrap ((k : Int) + 1) = (k : Int) + 1 := IntWalk.i64_in _ (by omega)
      have KD := Lib.hid kd
      rw [hpi]
      clear kd hpi hf hy hl0 hl1 h
      go_wp2_with fail
      refine KD.out.mono ?_
      rintro e w6 ⟨v', rfl, h⟩
      obtain ⟨A9, c9, rfl⟩ := h.lrow
      have h := h.f1
      have e5 : w6.cell? ⟨b, 2, none⟩ = some (.slice A0 l.length c0) := h.cell 2
      have e6 := h.frozen 2
      have h := h.set 2 (.slice A9 l0.length c9)
      have h : Own E _ (Hp.blk b LIMT #[.float .f32 rate, .float .f32 burst, .slice A9 l0.length c9] :: Hp.row BKT 3 (.slice A9 l0.length c9) l0.length (l0.flatMap enB) :: Hp.blk g BKT #[.string x.name, .float .f32 x.level, .int .i64 x.at_] :: L) := h
      have h := h.toLim
      have H := Lib.hid h
      repeat clear h
      clear e2 KD
      go_wp2_with fail
      have h := H.out
      clear H e5 e6
      generalize World.setCell _ _ _ = w7 at h ⊢
      obtain ⟨v, h⟩ := h.ofLim
      obtain ⟨A, c, rfl⟩ := h.f1.lrow
      have HC : Hid (∀ w', (∃ L', Own E w' (Hp.blk b LIMT #[.float .f32 rate, .float .f32 burst, .slice A l0.length c] :: Hp.blk g BKT #[.string x.name, .float .f32 x.level, .int .i64 x.at_] :: L')) → w'.cell? ⟨b, 2, none⟩ = some (.slice A l0.length c) ∧ w'.cell? ⟨g, 2, none⟩ = some (.int .i64 x.at_)) := Lib.hid fun w' hw => by
        obtain ⟨_, hw⟩ := hw
        exact ⟨hw.cell 2, hw.f1.cell 2⟩
      have h : Own E _ (Hp.blk b LIMT #[.float .f32 rate, .float .f32 burst, .slice A l0.length c] :: Hp.blk g BKT #[.string x.name, .float .f32 x.level, .int .i64 x.at_] :: Hp.row BKT 3 (.slice A l0.length c) l0.length (l0.flatMap enB) :: L) := h.ac (by simp only [Hp.all] <;> ac_rfl)
      have h := h.drew
      refine wp_region_text [4, 11] (fun w' => w'.cell? ⟨b, 2, none⟩ = some (.slice A l0.length c) ∧ w'.cell? ⟨g, 2, none⟩ = some (.int .i64 x.at_)) (by kernel_rfl) ?_ (fun hS => ?_)
      · exact HC.out _ ⟨_, h⟩
      refine wpAnyG_pure (i := 0) (oi := ⟨some 55, _, _, _, _, _⟩) (v := ?_) rfl (by kernel_rfl) (by kernel_rfl) (by kernel_rfl) (by rfl) (fun _ _ _ h => h) (by rfl) ?_ ?_
      rotate_left
      · intro w
        go_simp
        first | done | with_reducible rfl
      try simp only [Act.put, List.setIfInBounds_toArray, List.set_cons_zero, List.set_cons_succ]
      refine wpAnyG_pure (i := 1) (oi := ⟨some 56, _, _, _, _, _⟩) (v := ?_) rfl (by kernel_rfl) (by kernel_rfl) (by kernel_rfl) (by rfl) (fun _ _ _ h => h) (by rfl) ?_ ?_
      rotate_left
      · intro w
        go_simp
        first | done | with_reducible rfl
      try simp only [Act.put, List.setIfInBounds_toArray, List.set_cons_zero, List.set_cons_succ]
      refine wpAnyG_pure (i := 2) (oi := ⟨some 57, _, _, _, _, _⟩) (v := ?_) rfl (by kernel_rfl) (by kernel_rfl) (by kernel_rfl) (by rfl) (fun _ _ _ h => h) (by rfl) ?_ ?_
      rotate_left
      · intro w
        go_simp
        first | done | with_reducible rfl
      try simp only [Act.put, List.setIfInBounds_toArray, List.set_cons_zero, List.set_cons_succ]
      refine wpAnyG_pure (i := 3) (oi := ⟨some 58, _, _, _, _, _⟩) (v := ?_) rfl (by kernel_rfl) (by kernel_rfl) (by kernel_rfl) (by rfl) (fun _ _ _ h => h) (by rfl) ?_ ?_
      rotate_left
      · intro w
        go_simp
        first | done | with_reducible rfl
      try simp only [Act.put, List.setIfInBounds_toArray, List.set_cons_zero, List.set_cons_succ]
      refine wpAnyG_load (i := 4) (oi := ⟨some 59, _, _, _, _, _⟩) (v := ?_) rfl (by kernel_rfl) (by kernel_rfl) (by kernel_rfl) (by rfl) (fun _ _ _ h => h) (by rfl) ?_ (by assumption) ?_
      rotate_left
      · intro w hS
        try dsimp only at hS
        go_simp
        first | done | with_reducible rfl
      try simp only [Act.put, List.setIfInBounds_toArray, List.set_cons_zero, List.set_cons_succ]
      refine wpAnyG_pure (i := 5) (oi := ⟨some 60, _, _, _, _, _⟩) (v := ?_) rfl (by kernel_rfl) (by kernel_rfl) (by kernel_rfl) (by rfl) (fun _ _ _ h => h) (by rfl) ?_ ?_
      rotate_left
      · intro w
        go_simp
        first | done | with_reducible rfl
      try simp only [Act.put, List.setIfInBounds_toArray, List.set_cons_zero, List.set_cons_succ]
      refine wpAnyG_pure (i := 6) (oi := ⟨some 61, _, _, _, _, _⟩) (v := ?_) rfl (by kernel_rfl) (by kernel_rfl) (by kernel_rfl) (by rfl) (fun _ _ _ h => h) (by rfl) ?_ ?_
      rotate_left
      · intro w
        go_simp
        first | done | with_reducible rfl
      try simp only [Act.put, List.setIfInBounds_toArray, List.set_cons_zero, List.set_cons_succ]
      refine wpAnyG_pure (i := 7) (oi := ⟨some 62, _, _, _, _, _⟩) (v := ?_) rfl (by kernel_rfl) (by kernel_rfl) (by kernel_rfl) (by rfl) (fun _ _ _ h => h) (by rfl) ?_ ?_
      rotate_left
      · intro w
        go_simp
        first | done | with_reducible rfl
      try simp only [Act.put, List.setIfInBounds_toArray, List.set_cons_zero, List.set_cons_succ]
      refine wpAnyG_pure (i := 8) (oi := ⟨some 63, _, _, _, _, _⟩) (v := ?_) rfl (by kernel_rfl) (by kernel_rfl) (by kernel_rfl) (by rfl) (fun _ _ _ h => h) (by rfl) ?_ ?_
      rotate_left
      · intro w
        go_simp
        first | done | with_reducible rfl
      try simp only [Act.put, List.setIfInBounds_toArray, List.set_cons_zero, List.set_cons_succ]
      refine wpAnyG_pure (i := 9) (oi := ⟨some 64, _, _, _, _, _⟩) (v := ?_) rfl (by kernel_rfl) (by kernel_rfl) (by kernel_rfl) (by rfl) (fun _ _ _ h => h) (by rfl) ?_ ?_
      rotate_left
      · intro w
        go_simp
        first | done | with_reducible rfl
      try simp only [Act.put, List.setIfInBounds_toArray, List.set_cons_zero, List.set_cons_succ]
      refine wpAnyG_pure (i := 10) (oi := ⟨some 65, _, _, _, _, _⟩) (v := ?_) rfl (by kernel_rfl) (by kernel_rfl) (by kernel_rfl) (by rfl) (fun _ _ _ h => h) (by rfl) ?_ ?_
      rotate_left
      · intro w
        go_simp
        first | done | with_reducible rfl
      try simp only [Act.put, List.setIfInBounds_toArray, List.set_cons_zero, List.set_cons_succ]
      refine wpAnyG_load (i := 11) (oi := ⟨some 66, _, _, _, _, _⟩) (v := ?_) rfl (by kernel_rfl) (by kernel_rfl) (by kernel_rfl) (by rfl) (fun _ _ _ h => h) (by rfl) ?_ (by assumption) ?_
      rotate_left
      · intro w hS
        try dsimp only at hS
        go_simp
        first | done | with_reducible rfl
      try simp only [Act.put, List.setIfInBounds_toArray, List.set_cons_zero, List.set_cons_succ]
      refine wpAnyG_pure (i := 12) (oi := ⟨some 67, _, _, _, _, _⟩) (v := ?_) rfl (by kernel_rfl) (by kernel_rfl) (by kernel_rfl) (by rfl) (fun _ _ _ h => h) (by rfl) ?_ ?_
      rotate_left
      · intro w
        go_simp
        first | done | with_reducible rfl
      try simp only [Act.put, List.setIfInBounds_toArray, List.set_cons_zero, List.set_cons_succ]
      refine wpAnyG_pure (i := 13) (oi := ⟨some 68, _, _, _, _, _⟩) (v := ?_) rfl (by kernel_rfl) (by kernel_rfl) (by kernel_rfl) (by rfl) (fun _ _ _ h => h) (by rfl) ?_ ?_
      rotate_left
      · intro w
        go_simp
        first | done | with_reducible rfl
      try simp only [Act.put, List.setIfInBounds_toArray, List.set_cons_zero, List.set_cons_succ]
      refine wpAnyG_keep (i := 14) (oi := ⟨some 69, _, _, _, _, _⟩) (by kernel_rfl) rfl (fun K hK => ?_)
      rw [if_pos (by rfl)]
      have h := h.alloc (.cells #[.string s, .float .f32 dv, .int .i64 (if t < x.at_ then x.at_ else t)] BKT)
      go_simp
      refine hK.out _ _ ?_ (fun hS => ?_)
      · exact HC.out _ ⟨_, h.f2.f2⟩
      clear hK K
      try simp only [Act.put, List.setIfInBounds_toArray, List.set_cons_zero, List.set_cons_succ]
      refine wpAnyG_keep (i := 15) (oi := ⟨some 70, _, _, _, _, _⟩) (by kernel_rfl) rfl (fun K hK => ?_)
      rw [if_pos (by rfl)]
      go_simp
      refine (insert_any l0 ⟨s, dv, if t < x.at_ then x.at_ else t⟩ _ _ _ (by omega) h.f3).mono ?_
      rintro e w5 ⟨v', rfl, h⟩
      obtain ⟨A2, c2, rfl⟩ := h.lrow
      have eln : (⟨s, dv, if t < x.at_ then x.at_ else t⟩ :: l0 : List Bkt).length = l0.length + 1 := rfl
      rw [eln] at h ⊢
      refine hK.out _ _ ?_ (fun hS => ?_)
      · exact HC.out _ ⟨_, h.f3.f3⟩
      clear hK K
      try simp only [Act.put, List.setIfInBounds_toArray, List.set_cons_zero, List.set_cons_succ]
      refine wpAnyG_pure (i := 16) (oi := ⟨some 71, _, _, _, _, _⟩) (v := ?_) rfl (by kernel_rfl) (by kernel_rfl) (by kernel_rfl) (by rfl) (fun _ _ _ h => h) (by rfl) ?_ ?_
      rotate_left
      · intro w
        go_simp
        first | done | with_reducible rfl
      try simp only [Act.put, List.setIfInBounds_toArray, List.set_cons_zero, List.set_cons_succ]
      refine wpAnyG_pure (i := 17) (oi := ⟨some 72, _, _, _, _, _⟩) (v := ?_) rfl (by kernel_rfl) (by kernel_rfl) (by kernel_rfl) (by rfl) (fun _ _ _ h => h) (by rfl) ?_ ?_
      rotate_left
      · intro w
        go_simp
        first | done | with_reducible rfl
      try simp only [Act.put, List.setIfInBounds_toArray, List.set_cons_zero, List.set_cons_succ]
      refine wpAnyG_break (i := 18) (oi := ⟨none, _, _, _, _, _⟩) (by kernel_rfl) rfl (by kernel_rfl) (fun K hK => ?_)
      rw [if_pos (by rfl)]
      have h : Own E _ (Hp.blk b LIMT #[.float .f32 rate, .float .f32 burst, .slice A l0.length c] :: Hp.row BKT 3 (.slice A2 (l0.length + 1) c2) (l0.length + 1) ((⟨s, dv, if t < x.at_ then x.at_ else t⟩ :: l0 : List Bkt).flatMap enB) :: Hp.blk _ BKT #[.string s, .float .f32 dv, .int .i64 (if t < x.at_ then x.at_ else t)] :: Hp.blk g BKT #[.string x.name, .float .f32 x.level, .int .i64 x.at_] :: L) := h.f2
      have f5 := h.cell 2
      have f6 := h.frozen 2
      have h := h.set 2 (.slice A2 (l0.length + 1) c2)
      go_simp
      refine hK.out _ _ ?_
      clear hK K
      try simp only [Act.put]
      refine wpAnyG_done (by kernel_rfl) ?_ _
      refine NoPanic.normal ?_
      generalize (if t < x.at_ then x.at_ else t) = mx at *
      have h : Own E _ (Hp.blk b LIMT #[.float .f32 rate, .float .f32 burst, .slice A2 (l0.length + 1) c2] :: Hp.row BKT 3 (.slice A2 (l0.length + 1) c2) (l0.length + 1) ((⟨s, dv, mx⟩ :: l0 : List Bkt).flatMap enB) :: Hp.blk _ BKT #[.string s, .float .f32 dv, .int .i64 mx] :: Hp.blk g BKT #[.string x.name, .float .f32 x.level, .int .i64 x.at_] :: L) := h
      generalize World.setCell _ _ _ = w20 at h ⊢
      have hcc : l0.length + 1 ≤ c2 := by
        obtain ⟨-, ⟨_, h0, _, _⟩ | ⟨_, _, _, hv, h3, _⟩⟩ := h.f1.rowForm
        · omega
        · injection hv with _ _ hc; omega
      have h := h.drew
      by_cases h16 : l0.length + 1 ≤ 16
      · have C1 := Lib.hid (show (if (16 : Int) < (l0.length : Int) + 1 then (16 : Int) else (l0.length : Int) + 1) = (l0.length : Int) + 1 from if_neg (by omega))
        have c3 : (0 : Int) ≤ (l0.length : Int) + 1 := by omega
        have c4 : ((l0.length : Int) + 1).toNat = l0.length + 1 := by omega
        have c5 : (l0.length : Int) + 1 ≤ c2 := by omega
        go_wp2_with fail
        refine wp_region_text [4, 8] (fun w' => w'.cell? ⟨b, 2, none⟩ = some (.slice A2 (l0.length + 1) c2)) (by kernel_rfl) ?_ (fun hS => ?_)
        · exact h.cell 2
        refine wpAnyG_pure (i := 0) (oi := ⟨some 73, _, _, _, _, _⟩) (v := ?_) rfl (by kernel_rfl) (by kernel_rfl) (by kernel_rfl) (by rfl) (fun _ _ _ h => h) (by rfl) ?_ ?_
        rotate_left
        · intro w
          go_simp
          first | done | with_reducible rfl
        try simp only [Act.put, List.setIfInBounds_toArray, List.set_cons_zero, List.set_cons_succ]
        refine wpAnyG_pure (i := 1) (oi := ⟨some 74, _, _, _, _, _⟩) (v := ?_) rfl (by kernel_rfl) (by kernel_rfl) (by kernel_rfl) (by rfl) (fun _ _ _ h => h) (by rfl) ?_ ?_
        rotate_left
        · intro w
          go_simp
          first | done | with_reducible rfl
        try simp only [Act.put, List.setIfInBounds_toArray, List.set_cons_zero, List.set_cons_succ]
        refine wpAnyG_pure (i := 2) (oi := ⟨some 75, _, _, _, _, _⟩) (v := ?_) rfl (by kernel_rfl) (by kernel_rfl) (by kernel_rfl) (by rfl) (fun _ _ _ h => h) (by rfl) ?_ ?_
        rotate_left
        · intro w
          go_simp
          first | done | with_reducible rfl
        try simp only [Act.put, List.setIfInBounds_toArray, List.set_cons_zero, List.set_cons_succ]
        refine wpAnyG_pure (i := 3) (oi := ⟨some 76, _, _, _, _, _⟩) (v := ?_) rfl (by kernel_rfl) (by kernel_rfl) (by kernel_rfl) (by rfl) (fun _ _ _ h => h) (by rfl) ?_ ?_
        rotate_left
        · intro w
          go_simp
          first | done | with_reducible rfl
        try simp only [Act.put, List.setIfInBounds_toArray, List.set_cons_zero, List.set_cons_succ]
        refine wpAnyG_load (i := 4) (oi := ⟨some 77, _, _, _, _, _⟩) (v := ?_) rfl (by kernel_rfl) (by kernel_rfl) (by kernel_rfl) (by rfl) (fun _ _ _ h => h) (by rfl) ?_ (by assumption) ?_
        rotate_left
        · intro w hS
          try dsimp only at hS
          go_simp
          first | done | with_reducible rfl
        try simp only [Act.put, List.setIfInBounds_toArray, List.set_cons_zero, List.set_cons_succ]
        refine wpAnyG_pure (i := 5) (oi := ⟨some 78, _, _, _, _, _⟩) (v := ?_) rfl (by kernel_rfl) (by kernel_rfl) (by kernel_rfl) (by rfl) (fun _ _ _ h => h) (by rfl) ?_ ?_
        rotate_left
        · intro w
          go_simp
          first | done | with_reducible rfl
        try simp only [Act.put, List.setIfInBounds_toArray, List.set_cons_zero, List.set_cons_succ]
        refine wpAnyG_pure (i := 6) (oi := ⟨some 79, _, _, _, _, _⟩) (v := ?_) rfl (by kernel_rfl) (by kernel_rfl) (by kernel_rfl) (by rfl) (fun _ _ _ h => h) (by rfl) ?_ ?_
        rotate_left
        · intro w
          go_simp
          first | done | with_reducible rfl
        try simp only [Act.put, List.setIfInBounds_toArray, List.set_cons_zero, List.set_cons_succ]
        refine wpAnyG_pure (i := 7) (oi := ⟨some 80, _, _, _, _, _⟩) (v := ?_) rfl (by kernel_rfl) (by kernel_rfl) (by kernel_rfl) (by rfl) (fun _ _ _ h => h) (by rfl) ?_ ?_
        rotate_left
        · intro w
          go_simp
          first | done | with_reducible rfl
        try simp only [Act.put, List.setIfInBounds_toArray, List.set_cons_zero, List.set_cons_succ]
        refine wpAnyG_load (i := 8) (oi := ⟨some 81, _, _, _, _, _⟩) (v := ?_) rfl (by kernel_rfl) (by kernel_rfl) (by kernel_rfl) (by rfl) (fun _ _ _ h => h) (by rfl) ?_ (by assumption) ?_
        rotate_left
        · intro w hS
          try dsimp only at hS
          go_simp
          first | done | with_reducible rfl
        try simp only [Act.put, List.setIfInBounds_toArray, List.set_cons_zero, List.set_cons_succ]
        refine wpAnyG_pure (i := 9) (oi := ⟨some 82, _, _, _, _, _⟩) (v := ?_) rfl (by kernel_rfl) (by kernel_rfl) (by kernel_rfl) (by rfl) (fun _ _ _ h => h) (by rfl) ?_ ?_
        rotate_left
        · intro w
          go_simp
          first | done | with_reducible rfl
        try simp only [Act.put, List.setIfInBounds_toArray, List.set_cons_zero, List.set_cons_succ]
        refine wpAnyG_pure (i := 10) (oi := ⟨some 83, _, _, _, _, _⟩) (v := (.int .i64 ((l0.length : Int) + 1))) rfl (by kernel_rfl) (by kernel_rfl) (by kernel_rfl) (by rfl) (fun _ _ _ h => h) (by rfl) ?_ ?_
        · intro w
          go_simp; omega
        try simp only [Act.put, List.setIfInBounds_toArray, List.set_cons_zero, List.set_cons_succ]
        refine wpAnyG_pure (i := 11) (oi := ⟨some 84, _, _, _, _, _⟩) (v := ?_) rfl (by kernel_rfl) (by kernel_rfl) (by kernel_rfl) (by rfl) (fun _ _ _ h => h) (by rfl) ?_ ?_
        rotate_left
        · intro w
          go_simp
          first | done | with_reducible rfl
        try simp only [Act.put, List.setIfInBounds_toArray, List.set_cons_zero, List.set_cons_succ]
        refine wpAnyG_pure (i := 12) (oi := ⟨some 85, _, _, _, _, _⟩) (v := ?_) rfl (by kernel_rfl) (by kernel_rfl) (by kernel_rfl) (by rfl) (fun _ _ _ h => h) (by rfl) ?_ ?_
        rotate_left
        · intro w
          go_simp
          first | done | with_reducible rfl
        try simp only [Act.put, List.setIfInBounds_toArray, List.set_cons_zero, List.set_cons_succ]
        refine wpAnyG_pure (i := 13) (oi := ⟨some 86, _, _, _, _, _⟩) (v := ?_) rfl (by kernel_rfl) (by kernel_rfl) (by kernel_rfl) (by rfl) (fun _ _ _ h => h) (by rfl) ?_ ?_
        rotate_left
        · intro w
          go_simp
          first | done | with_reducible rfl
        try simp only [Act.put, List.setIfInBounds_toArray, List.set_cons_zero, List.set_cons_succ]
        refine wpAnyG_break (i := 14) (oi := ⟨none, _, _, _, _, _⟩) (by kernel_rfl) rfl (by kernel_rfl) (fun K hK => ?_)
        rw [if_pos (by rfl)]
        have f5 := h.cell 2
        have f6 := h.frozen 2
        have h := h.set 2 (.slice A2 (l0.length + 1) c2)
        go_simp
        refine hK.out _ _ ?_
        clear hK K
        try simp only [Act.put]
        refine wpAnyG_done (by kernel_rfl) ?_ _
        refine NoPanic.normal ?_
        have h : Own E _ (Hp.blk b LIMT #[.float .f32 rate, .float .f32 burst, .slice A2 (l0.length + 1) c2] :: Hp.row BKT 3 (.slice A2 (l0.length + 1) c2) (l0.length + 1) ((⟨s, dv, mx⟩ :: l0 : List Bkt).flatMap enB) :: Hp.blk _ BKT #[.string s, .float .f32 dv, .int .i64 mx] :: Hp.blk g BKT #[.string x.name, .float .f32 x.level, .int .i64 x.at_] :: L) := h
        obtain ⟨w21, hw21⟩ : ∃ w', w' = w20.drew.setCell ⟨b, 2, none⟩ (.slice A2 (l0.length + 1) c2) := ⟨_, rfl⟩
        rw [← hw21] at h
        have hq := (h.f1.rowCut (m := l0.length + 1) (by omega))
        rw [flat_take] at hq
        have hq : Own E _ (Hp.blk b LIMT #[.float .f32 rate, .float .f32 burst, .slice A2 (l0.length + 1) c2] :: Hp.row BKT 3 (.slice A2 (l0.length + 1) c2) (l0.length + 1) (((⟨s, dv, mx⟩ :: l0 : List Bkt).take (l0.length + 1)).flatMap enB) :: L) := hq.f1.f2.drop.f2.drop
        have elen : l0.length + 1 = ((⟨s, dv, mx⟩ :: l0 : List Bkt).take 16).length := by rw [List.length_take]; show _ = min 16 (l0.length + 1); omega
        have etk : (⟨s, dv, mx⟩ :: l0 : List Bkt).take (l0.length + 1) = (⟨s, dv, mx⟩ :: l0 : List Bkt).take 16 := by
          rw [List.take_of_length_le (by show l0.length + 1 ≤ _; omega), List.take_of_length_le (by show l0.length + 1 ≤ _; omega)]
        rw [etk] at hq
        have hq2 : Own E w21 (Hp.lim b rate burst ((⟨s, dv, mx⟩ :: l0 : List Bkt).take 16) :: L) := by
          refine Own.toLim (v := .slice A2 (l0.length + 1) c2) ?_
          rw [← elen]
          exact hq
        rw [← HTK.out] at hq2
        have HQ := Lib.hid hq2
        repeat clear h
        clear hq hq2 elen etk
        have HW21 := Lib.hid hw21
        clear hw21
        go_wp2_with fail
        go_ret2
        have hq3 := HQ.out
        rw [HW21.out] at hq3
        exact .inr ⟨HGE.out, rfl, hq3⟩
      · have C1 := Lib.hid (show (if (16 : Int) < (l0.length : Int) + 1 then (16 : Int) else (l0.length : Int) + 1) = 16 from if_pos (by omega))
        have c5 : 16 ≤ c2 := by omega
        have c6 : (16 : Int) ≤ c2 := by omega
        go_wp2_with fail
        refine wp_region_text [4, 8] (fun w' => w'.cell? ⟨b, 2, none⟩ = some (.slice A2 (l0.length + 1) c2)) (by kernel_rfl) ?_ (fun hS => ?_)
        · exact h.cell 2
        refine wpAnyG_pure (i := 0) (oi := ⟨some 73, _, _, _, _, _⟩) (v := ?_) rfl (by kernel_rfl) (by kernel_rfl) (by kernel_rfl) (by rfl) (fun _ _ _ h => h) (by rfl) ?_ ?_
        rotate_left
        · intro w
          go_simp
          first | done | with_reducible rfl
        try simp only [Act.put, List.setIfInBounds_toArray, List.set_cons_zero, List.set_cons_succ]
        refine wpAnyG_pure (i := 1) (oi := ⟨some 74, _, _, _, _, _⟩) (v := ?_) rfl (by kernel_rfl) (by kernel_rfl) (by kernel_rfl) (by rfl) (fun _ _ _ h => h) (by rfl) ?_ ?_
        rotate_left
        · intro w
          go_simp
          first | done | with_reducible rfl
        try simp only [Act.put, List.setIfInBounds_toArray, List.set_cons_zero, List.set_cons_succ]
        refine wpAnyG_pure (i := 2) (oi := ⟨some 75, _, _, _, _, _⟩) (v := ?_) rfl (by kernel_rfl) (by kernel_rfl) (by kernel_rfl) (by rfl) (fun _ _ _ h => h) (by rfl) ?_ ?_
        rotate_left
        · intro w
          go_simp
          first | done | with_reducible rfl
        try simp only [Act.put, List.setIfInBounds_toArray, List.set_cons_zero, List.set_cons_succ]
        refine wpAnyG_pure (i := 3) (oi := ⟨some 76, _, _, _, _, _⟩) (v := ?_) rfl (by kernel_rfl) (by kernel_rfl) (by kernel_rfl) (by rfl) (fun _ _ _ h => h) (by rfl) ?_ ?_
        rotate_left
        · intro w
          go_simp
          first | done | with_reducible rfl
        try simp only [Act.put, List.setIfInBounds_toArray, List.set_cons_zero, List.set_cons_succ]
        refine wpAnyG_load (i := 4) (oi := ⟨some 77, _, _, _, _, _⟩) (v := ?_) rfl (by kernel_rfl) (by kernel_rfl) (by kernel_rfl) (by rfl) (fun _ _ _ h => h) (by rfl) ?_ (by assumption) ?_
        rotate_left
        · intro w hS
          try dsimp only at hS
          go_simp
          first | done | with_reducible rfl
        try simp only [Act.put, List.setIfInBounds_toArray, List.set_cons_zero, List.set_cons_succ]
        refine wpAnyG_pure (i := 5) (oi := ⟨some 78, _, _, _, _, _⟩) (v := ?_) rfl (by kernel_rfl) (by kernel_rfl) (by kernel_rfl) (by rfl) (fun _ _ _ h => h) (by rfl) ?_ ?_
        rotate_left
        · intro w
          go_simp
          first | done | with_reducible rfl
        try simp only [Act.put, List.setIfInBounds_toArray, List.set_cons_zero, List.set_cons_succ]
        refine wpAnyG_pure (i := 6) (oi := ⟨some 79, _, _, _, _, _⟩) (v := ?_) rfl (by kernel_rfl) (by kernel_rfl) (by kernel_rfl) (by rfl) (fun _ _ _ h => h) (by rfl) ?_ ?_
        rotate_left
        · intro w
          go_simp
          first | done | with_reducible rfl
        try simp only [Act.put, List.setIfInBounds_toArray, List.set_cons_zero, List.set_cons_succ]
        refine wpAnyG_pure (i := 7) (oi := ⟨some 80, _, _, _, _, _⟩) (v := ?_) rfl (by kernel_rfl) (by kernel_rfl) (by kernel_rfl) (by rfl) (fun _ _ _ h => h) (by rfl) ?_ ?_
        rotate_left
        · intro w
          go_simp
          first | done | with_reducible rfl
        try simp only [Act.put, List.setIfInBounds_toArray, List.set_cons_zero, List.set_cons_succ]
        refine wpAnyG_load (i := 8) (oi := ⟨some 81, _, _, _, _, _⟩) (v := ?_) rfl (by kernel_rfl) (by kernel_rfl) (by kernel_rfl) (by rfl) (fun _ _ _ h => h) (by rfl) ?_ (by assumption) ?_
        rotate_left
        · intro w hS
          try dsimp only at hS
          go_simp
          first | done | with_reducible rfl
        try simp only [Act.put, List.setIfInBounds_toArray, List.set_cons_zero, List.set_cons_succ]
        refine wpAnyG_pure (i := 9) (oi := ⟨some 82, _, _, _, _, _⟩) (v := ?_) rfl (by kernel_rfl) (by kernel_rfl) (by kernel_rfl) (by rfl) (fun _ _ _ h => h) (by rfl) ?_ ?_
        rotate_left
        · intro w
          go_simp
          first | done | with_reducible rfl
        try simp only [Act.put, List.setIfInBounds_toArray, List.set_cons_zero, List.set_cons_succ]
        refine wpAnyG_pure (i := 10) (oi := ⟨some 83, _, _, _, _, _⟩) (v := (.int .i64 (16))) rfl (by kernel_rfl) (by kernel_rfl) (by kernel_rfl) (by rfl) (fun _ _ _ h => h) (by rfl) ?_ ?_
        · intro w
          go_simp; omega
        try simp only [Act.put, List.setIfInBounds_toArray, List.set_cons_zero, List.set_cons_succ]
        refine wpAnyG_pure (i := 11) (oi := ⟨some 84, _, _, _, _, _⟩) (v := ?_) rfl (by kernel_rfl) (by kernel_rfl) (by kernel_rfl) (by rfl) (fun _ _ _ h => h) (by rfl) ?_ ?_
        rotate_left
        · intro w
          go_simp
          first | done | with_reducible rfl
        try simp only [Act.put, List.setIfInBounds_toArray, List.set_cons_zero, List.set_cons_succ]
        refine wpAnyG_pure (i := 12) (oi := ⟨some 85, _, _, _, _, _⟩) (v := ?_) rfl (by kernel_rfl) (by kernel_rfl) (by kernel_rfl) (by rfl) (fun _ _ _ h => h) (by rfl) ?_ ?_
        rotate_left
        · intro w
          go_simp
          first | done | with_reducible rfl
        try simp only [Act.put, List.setIfInBounds_toArray, List.set_cons_zero, List.set_cons_succ]
        refine wpAnyG_pure (i := 13) (oi := ⟨some 86, _, _, _, _, _⟩) (v := ?_) rfl (by kernel_rfl) (by kernel_rfl) (by kernel_rfl) (by rfl) (fun _ _ _ h => h) (by rfl) ?_ ?_
        rotate_left
        · intro w
          go_simp
          first | done | with_reducible rfl
        try simp only [Act.put, List.setIfInBounds_toArray, List.set_cons_zero, List.set_cons_succ]
        refine wpAnyG_break (i := 14) (oi := ⟨none, _, _, _, _, _⟩) (by kernel_rfl) rfl (by kernel_rfl) (fun K hK => ?_)
        rw [if_pos (by rfl)]
        have f5 := h.cell 2
        have f6 := h.frozen 2
        have h := h.set 2 (.slice A2 (16) c2)
        go_simp
        refine hK.out _ _ ?_
        clear hK K
        try simp only [Act.put]
        refine wpAnyG_done (by kernel_rfl) ?_ _
        refine NoPanic.normal ?_
        have h : Own E _ (Hp.blk b LIMT #[.float .f32 rate, .float .f32 burst, .slice A2 (16) c2] :: Hp.row BKT 3 (.slice A2 (l0.length + 1) c2) (l0.length + 1) ((⟨s, dv, mx⟩ :: l0 : List Bkt).flatMap enB) :: Hp.blk _ BKT #[.string s, .float .f32 dv, .int .i64 mx] :: Hp.blk g BKT #[.string x.name, .float .f32 x.level, .int .i64 x.at_] :: L) := h
        obtain ⟨w21, hw21⟩ : ∃ w', w' = w20.drew.setCell ⟨b, 2, none⟩ (.slice A2 (16) c2) := ⟨_, rfl⟩
        rw [← hw21] at h
        have hq := (h.f1.rowCut (m := 16) (by omega))
        rw [flat_take] at hq
        have hq : Own E _ (Hp.blk b LIMT #[.float .f32 rate, .float .f32 burst, .slice A2 (16) c2] :: Hp.row BKT 3 (.slice A2 (16) c2) (16) (((⟨s, dv, mx⟩ :: l0 : List Bkt).take (16)).flatMap enB) :: L) := hq.f1.f2.drop.f2.drop
        have elen : 16 = ((⟨s, dv, mx⟩ :: l0 : List Bkt).take 16).length := by rw [List.length_take]; show _ = min 16 (l0.length + 1); omega
        have etk : (⟨s, dv, mx⟩ :: l0 : List Bkt).take (16) = (⟨s, dv, mx⟩ :: l0 : List Bkt).take 16 := by
          rfl
        rw [etk] at hq
        have hq2 : Own E w21 (Hp.lim b rate burst ((⟨s, dv, mx⟩ :: l0 : List Bkt).take 16) :: L) := by
          refine Own.toLim (v := .slice A2 (16) c2) ?_
          rw [← elen]
          exact hq
        rw [← HTK.out] at hq2
        have HQ := Lib.hid hq2
        repeat clear h
        clear hq hq2 elen etk
        have HW21 := Lib.hid hw21
        clear hw21
        go_wp2_with fail
        go_ret2
        have hq3 := HQ.out
        rw [HW21.out] at hq3
        exact .inr ⟨HGE.out, rfl, hq3⟩
end
end Go.Proofs.Ytnbpbonpcbemdaa
