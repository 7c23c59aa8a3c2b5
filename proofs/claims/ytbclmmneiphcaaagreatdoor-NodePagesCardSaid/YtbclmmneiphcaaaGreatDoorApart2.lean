/- latchkeylaw10.Book.apart (printed by gen_apart.py). -/
import Derived.Test.YtbclmmneiphcaaaGreatDoorApart1
namespace Go.Proofs.YtbclmmneiphcaaaGreatDoor
open Go.RowKit
section
variable {E w : World} {L : List Hp}
theorem famT_cons (r : Rc ByteArray) (l : List (Rc ByteArray)) : famT (r :: l) = Hp.sep (Hp.strs r.v r.xs) (famT l) := rfl
theorem famN_cons (r : Rc Int) (l : List (Rc Int)) : famN (r :: l) = Hp.sep (Hp.ints r.v r.xs) (famN l) := rfl
theorem Own.popfamT {r : Rc ByteArray} {l : List (Rc ByteArray)} (h : Own E w (famT (r :: l) :: L)) : Own E w (Hp.strs r.v r.xs :: famT l :: L) := h.ac (by simp only [Hp.all, famT_cons] <;> ac_rfl)
theorem Own.popfamN {r : Rc Int} {l : List (Rc Int)} (h : Own E w (famN (r :: l) :: L)) : Own E w (Hp.ints r.v r.xs :: famN l :: L) := h.ac (by simp only [Hp.all, famN_cons] <;> ac_rfl)
theorem Own.pushfamT {r : Rc ByteArray} {l : List (Rc ByteArray)} (h : Own E w (Hp.strs r.v r.xs :: famT l :: L)) : Own E w (famT (l ++ [r]) :: L) := h.ac (by simp only [Hp.all, famT_app] <;> ac_rfl)
theorem Own.pushfamN {r : Rc Int} {l : List (Rc Int)} (h : Own E w (Hp.ints r.v r.xs :: famN l :: L)) : Own E w (famN (l ++ [r]) :: L) := h.ac (by simp only [Hp.all, famN_app] <;> ac_rfl)
end
section
variable {E : World} {S : Ph} {L : List Hp}
set_option maxRecDepth 100000 in
set_option maxHeartbeats 40000000 in
theorem bkapart_any (b : Nat) (B : Bk) (w : World) (hbt : B.t.length ≤ 1000) (hbn : B.n.length ≤ 1000) (hxt : ∀ r ∈ B.t, r.xs.length ≤ 4294967296) (hxn : ∀ r ∈ B.n, r.xs.length ≤ 4294967296) (h : Own E w (Hp.ro S :: Hp.bk b B :: L)) :
    Calls Tryz.prog 19 #[.pointer (some ⟨b, 0, none⟩)] w fun e w' => e = .returned (.bool true) ∧ Own E w' (Hp.ro S :: L) := by
  obtain ⟨T, A0, A1, A2, A3, c0, c1, c2, c3, hst, hb, h⟩ := bk_open h
  obtain ⟨lt, ln⟩ := B
  dsimp only at *
  obtain ⟨a, ha, da, h⟩ := h.f1.lend
  obtain ⟨a2, ha2, da2, h⟩ := h.f1.lend
  have hbu := (hb.sub (Ph.join_r da)).sub (Ph.join_r da2)
  have hft : ∀ r ∈ lt, ∃ A c, r.v = .slice A r.xs.length c ∧ Rds (Ph.join a2 (Ph.join a T)) 1 enStr A r.xs.length r.xs := fun r hr => by
    obtain ⟨A, c, e, h⟩ := famT_in ha r hr
    exact ⟨A, c, e, (h.sub Ph.join_l).sub (Ph.join_r da2)⟩
  have hfn : ∀ r ∈ ln, ∃ A c, r.v = .slice A r.xs.length c ∧ Rds (Ph.join a2 (Ph.join a T)) 1 en64 A r.xs.length r.xs := fun r hr => by
    obtain ⟨A, c, e, h⟩ := famN_in ha2 r hr
    exact ⟨A, c, e, h.sub Ph.join_l⟩
  obtain ⟨U, hU⟩ : ∃ U, U = Ph.join a2 (Ph.join a T) := ⟨_, rfl⟩
  rw [← hU] at hbu hft hfn h
  have HB := Lib.hid hb
  have HBU := Lib.hid hbu
  have HFfamT := Lib.hid hft
  have HFfamN := Lib.hid hfn
  have Hhxt := Lib.hid hxt
  have Hhxn := Lib.hid hxn
  have HST := Lib.hid hst
  have H := Lib.hid h
  repeat clear h
  clear hst hb hbu hft hfn hxt hxn
  go_enter Tryz.func19, Tryz.ntmps19
  go_wp2_with fail
  go_loopw [3] (fun i wr => ∃ k : Nat, k ≤ lt.length ∧ i = .int .i64 k ∧ Own E wr (Hp.ro U :: L)) (fun i _ => lt.length - (intOf i).toNat)
  case atStart => exact ⟨0, by omega, rfl, H.out⟩
  case round =>
    obtain ⟨k, hk, rfl, hw⟩ := hrel
    clear H
    have hc0 := hw.rd HBU.out.k0
    by_cases hlt : k < lt.length
    · have hlti : (k : Int) < lt.length := by omega
      obtain ⟨r, g0, o0, hr, e0, k0⟩ := HBU.out.r0.get1 (k := k) (by omega)
      obtain ⟨r', g1, o1, hr', e1, k1⟩ := HBU.out.r1.get1 (k := k) (by omega)
      rw [hr] at hr'
      injection hr' with hr'
      subst hr'
      have hmem : r ∈ lt := List.mem_of_getElem? hr
      obtain ⟨Ar, cr, er, rr⟩ := HFfamT.out r hmem
      obtain ⟨Aw, cw, ew, rw⟩ := HBU.out.wt r hmem
      have k0c := k0 _ rfl
      have k1c := k1 _ rfl
      clear k0 k1
      rw [er] at k0c
      rw [ew] at k1c
      have hlen := Hhxt.out r hmem
      have HC : Hid (∀ w', (∃ L', Own E w' (Hp.ro U :: L')) → w'.cell? ⟨b, 0, none⟩ = some (.slice (some ⟨g0, o0, none⟩) lt.length c0) ∧ w'.cell? ⟨g0, o0 + k, none⟩ = some (.slice Ar r.xs.length cr) ∧ w'.cell? ⟨b, 1, none⟩ = some (.slice (some ⟨g1, o1, none⟩) lt.length c1) ∧ w'.cell? ⟨g1, o1 + k, none⟩ = some (.slice Aw r.xs.length cw)) := Lib.hid fun w' hw' => by
        obtain ⟨_, hw'⟩ := hw'
        refine ⟨?_, hw'.rd k0c, ?_, hw'.rd k1c⟩
        · rw [← e0]; exact hw'.rd HBU.out.k0
        · rw [← e1]; exact hw'.rd HBU.out.k1
      have hsame := fun w M hw => texts_same (E := E) (S := U) (L := M) Ar Aw r.xs.length cr cw r.xs w (by omega) rr rw hw
      have HSM := Lib.hid hsame
      rw [e0] at hc0
      have h := hw.drew
      have HW := Lib.hid hw
      clear hw hsame er ew rr rw k0c k1c e0 e1 hr hmem hlen
      generalize r.xs.length = m at *
      go_wp2_with fail
      refine wp_region_text [3, 6, 10, 13] (fun w' => w'.cell? ⟨b, 0, none⟩ = some (.slice (some ⟨g0, o0, none⟩) lt.length c0) ∧ w'.cell? ⟨g0, o0 + k, none⟩ = some (.slice Ar m cr) ∧ w'.cell? ⟨b, 1, none⟩ = some (.slice (some ⟨g1, o1, none⟩) lt.length c1) ∧ w'.cell? ⟨g1, o1 + k, none⟩ = some (.slice Aw m cw)) (by kernel_rfl) ?_ (fun hS => ?_)
      · exact HC.out _ ⟨_, h⟩
      refine wpAnyG_pure (i := 0) (oi := ⟨some 32, _, _, _, _, _⟩) (v := ?_) rfl (by kernel_rfl) (by kernel_rfl) (by kernel_rfl) (by rfl) (fun _ _ _ h => h) (by rfl) ?_ ?_
      rotate_left
      · intro w
        go_simp
        first | done | with_reducible rfl
      try simp only [Act.put, List.setIfInBounds_toArray, List.set_cons_zero, List.set_cons_succ]
      refine wpAnyG_pure (i := 1) (oi := ⟨some 33, _, _, _, _, _⟩) (v := ?_) rfl (by kernel_rfl) (by kernel_rfl) (by kernel_rfl) (by rfl) (fun _ _ _ h => h) (by rfl) ?_ ?_
      rotate_left
      · intro w
        go_simp
        first | done | with_reducible rfl
      try simp only [Act.put, List.setIfInBounds_toArray, List.set_cons_zero, List.set_cons_succ]
      refine wpAnyG_pure (i := 2) (oi := ⟨some 34, _, _, _, _, _⟩) (v := ?_) rfl (by kernel_rfl) (by kernel_rfl) (by kernel_rfl) (by rfl) (fun _ _ _ h => h) (by rfl) ?_ ?_
      rotate_left
      · intro w
        go_simp
        first | done | with_reducible rfl
      try simp only [Act.put, List.setIfInBounds_toArray, List.set_cons_zero, List.set_cons_succ]
      refine wpAnyG_load (i := 3) (oi := ⟨some 35, _, _, _, _, _⟩) (v := ?_) rfl (by kernel_rfl) (by kernel_rfl) (by kernel_rfl) (by rfl) (fun _ _ _ h => h) (by rfl) ?_ (by assumption) ?_
      rotate_left
      · intro w hS
        try dsimp only at hS
        go_simp
        first | done | with_reducible rfl
      try simp only [Act.put, List.setIfInBounds_toArray, List.set_cons_zero, List.set_cons_succ]
      refine wpAnyG_pure (i := 4) (oi := ⟨some 36, _, _, _, _, _⟩) (v := ?_) rfl (by kernel_rfl) (by kernel_rfl) (by kernel_rfl) (by rfl) (fun _ _ _ h => h) (by rfl) ?_ ?_
      rotate_left
      · intro w
        go_simp
        first | done | with_reducible rfl
      try simp only [Act.put, List.setIfInBounds_toArray, List.set_cons_zero, List.set_cons_succ]
      refine wpAnyG_pure (i := 5) (oi := ⟨some 37, _, _, _, _, _⟩) (v := ?_) rfl (by kernel_rfl) (by kernel_rfl) (by kernel_rfl) (by rfl) (fun _ _ _ h => h) (by rfl) ?_ ?_
      rotate_left
      · intro w
        go_simp
        first | done | with_reducible rfl
      try simp only [Act.put, List.setIfInBounds_toArray, List.set_cons_zero, List.set_cons_succ]
      refine wpAnyG_load (i := 6) (oi := ⟨some 38, _, _, _, _, _⟩) (v := ?_) rfl (by kernel_rfl) (by kernel_rfl) (by kernel_rfl) (by rfl) (fun _ _ _ h => h) (by rfl) ?_ (by assumption) ?_
      rotate_left
      · intro w hS
        try dsimp only at hS
        go_simp
        first | done | with_reducible rfl
      try simp only [Act.put, List.setIfInBounds_toArray, List.set_cons_zero, List.set_cons_succ]
      refine wpAnyG_pure (i := 7) (oi := ⟨some 39, _, _, _, _, _⟩) (v := ?_) rfl (by kernel_rfl) (by kernel_rfl) (by kernel_rfl) (by rfl) (fun _ _ _ h => h) (by rfl) ?_ ?_
      rotate_left
      · intro w
        go_simp
        first | done | with_reducible rfl
      try simp only [Act.put, List.setIfInBounds_toArray, List.set_cons_zero, List.set_cons_succ]
      refine wpAnyG_pure (i := 8) (oi := ⟨some 40, _, _, _, _, _⟩) (v := ?_) rfl (by kernel_rfl) (by kernel_rfl) (by kernel_rfl) (by rfl) (fun _ _ _ h => h) (by rfl) ?_ ?_
      rotate_left
      · intro w
        go_simp
        first | done | with_reducible rfl
      try simp only [Act.put, List.setIfInBounds_toArray, List.set_cons_zero, List.set_cons_succ]
      refine wpAnyG_pure (i := 9) (oi := ⟨some 41, _, _, _, _, _⟩) (v := ?_) rfl (by kernel_rfl) (by kernel_rfl) (by kernel_rfl) (by rfl) (fun _ _ _ h => h) (by rfl) ?_ ?_
      rotate_left
      · intro w
        go_simp
        first | done | with_reducible rfl
      try simp only [Act.put, List.setIfInBounds_toArray, List.set_cons_zero, List.set_cons_succ]
      refine wpAnyG_load (i := 10) (oi := ⟨some 42, _, _, _, _, _⟩) (v := ?_) rfl (by kernel_rfl) (by kernel_rfl) (by kernel_rfl) (by rfl) (fun _ _ _ h => h) (by rfl) ?_ (by assumption) ?_
      rotate_left
      · intro w hS
        try dsimp only at hS
        go_simp
        first | done | with_reducible rfl
      try simp only [Act.put, List.setIfInBounds_toArray, List.set_cons_zero, List.set_cons_succ]
      refine wpAnyG_pure (i := 11) (oi := ⟨some 43, _, _, _, _, _⟩) (v := ?_) rfl (by kernel_rfl) (by kernel_rfl) (by kernel_rfl) (by rfl) (fun _ _ _ h => h) (by rfl) ?_ ?_
      rotate_left
      · intro w
        go_simp
        first | done | with_reducible rfl
      try simp only [Act.put, List.setIfInBounds_toArray, List.set_cons_zero, List.set_cons_succ]
      refine wpAnyG_pure (i := 12) (oi := ⟨some 44, _, _, _, _, _⟩) (v := ?_) rfl (by kernel_rfl) (by kernel_rfl) (by kernel_rfl) (by rfl) (fun _ _ _ h => h) (by rfl) ?_ ?_
      rotate_left
      · intro w
        go_simp
        first | done | with_reducible rfl
      try simp only [Act.put, List.setIfInBounds_toArray, List.set_cons_zero, List.set_cons_succ]
      refine wpAnyG_load (i := 13) (oi := ⟨some 45, _, _, _, _, _⟩) (v := ?_) rfl (by kernel_rfl) (by kernel_rfl) (by kernel_rfl) (by rfl) (fun _ _ _ h => h) (by rfl) ?_ (by assumption) ?_
      rotate_left
      · intro w hS
        try dsimp only at hS
        go_simp
        first | done | with_reducible rfl
      try simp only [Act.put, List.setIfInBounds_toArray, List.set_cons_zero, List.set_cons_succ]
      refine wpAnyG_keep (i := 14) (oi := ⟨some 46, _, _, _, _, _⟩) (by kernel_rfl) rfl (fun K hK => ?_)
      rw [if_pos (by rfl)]
      go_simp
      refine (HSM.out _ _ h).mono ?_
      rintro e w5 ⟨rfl, h⟩
      refine hK.out _ _ ?_ (fun hS => ?_)
      · exact HC.out _ ⟨_, h⟩
      clear hK K
      try simp only [Act.put, List.setIfInBounds_toArray, List.set_cons_zero, List.set_cons_succ]
      refine wpAnyG_pure (i := 15) (oi := ⟨some 4, _, _, _, _, _⟩) (v := ?_) rfl (by kernel_rfl) (by kernel_rfl) (by kernel_rfl) (by rfl) (fun _ _ _ h => h) (by rfl) ?_ ?_
      rotate_left
      · intro w
        go_simp
        first | done | with_reducible rfl
      try simp only [Act.put, List.setIfInBounds_toArray, List.set_cons_zero, List.set_cons_succ]
      refine wpAnyG_done (by kernel_rfl) ?_ _
      refine NoPanic.normal ?_
      have H2 := Lib.hid h
      repeat clear h
      clear hc0
      go_wp2_with fail
      go_roundw
      case rel => exact ⟨k + 1, by omega, by go_num, H2.out⟩
      case measure => simp [intOf]; omega
    · obtain rfl : k = lt.length := by omega
      have H := Lib.hid hw
      clear hw hlt hk
      go_wp2_with fail
      clear hc0
      go_loopw [5] (fun i wr => ∃ k : Nat, k ≤ ln.length ∧ i = .int .i64 k ∧ Own E wr (Hp.ro U :: L)) (fun i _ => ln.length - (intOf i).toNat)
      case atStart => exact ⟨0, by omega, rfl, H.out⟩
      case round =>
        obtain ⟨k, hk, rfl, hw⟩ := hrel
        clear H
        have hc0 := hw.rd HBU.out.k2
        by_cases hlt : k < ln.length
        · have hlti : (k : Int) < ln.length := by omega
          obtain ⟨r, g0, o0, hr, e0, k0⟩ := HBU.out.r2.get1 (k := k) (by omega)
          obtain ⟨r', g1, o1, hr', e1, k1⟩ := HBU.out.r3.get1 (k := k) (by omega)
          rw [hr] at hr'
          injection hr' with hr'
          subst hr'
          have hmem : r ∈ ln := List.mem_of_getElem? hr
          obtain ⟨Ar, cr, er, rr⟩ := HFfamN.out r hmem
          obtain ⟨Aw, cw, ew, rw⟩ := HBU.out.wn r hmem
          have k0c := k0 _ rfl
          have k1c := k1 _ rfl
          clear k0 k1
          rw [er] at k0c
          rw [ew] at k1c
          have hlen := Hhxn.out r hmem
          have HC : Hid (∀ w', (∃ L', Own E w' (Hp.ro U :: L')) → w'.cell? ⟨b, 2, none⟩ = some (.slice (some ⟨g0, o0, none⟩) ln.length c2) ∧ w'.cell? ⟨g0, o0 + k, none⟩ = some (.slice Ar r.xs.length cr) ∧ w'.cell? ⟨b, 3, none⟩ = some (.slice (some ⟨g1, o1, none⟩) ln.length c3) ∧ w'.cell? ⟨g1, o1 + k, none⟩ = some (.slice Aw r.xs.length cw)) := Lib.hid fun w' hw' => by
            obtain ⟨_, hw'⟩ := hw'
            refine ⟨?_, hw'.rd k0c, ?_, hw'.rd k1c⟩
            · rw [← e0]; exact hw'.rd HBU.out.k2
            · rw [← e1]; exact hw'.rd HBU.out.k3
          have hsame := fun w M hw => ints_same (E := E) (S := U) (L := M) Ar Aw r.xs.length cr cw r.xs w (by omega) rr rw hw
          have HSM := Lib.hid hsame
          rw [e0] at hc0
          have h := hw.drew
          have HW := Lib.hid hw
          clear hw hsame er ew rr rw k0c k1c e0 e1 hr hmem hlen
          generalize r.xs.length = m at *
          go_wp2_with fail
          refine wp_region_text [3, 6, 10, 13] (fun w' => w'.cell? ⟨b, 2, none⟩ = some (.slice (some ⟨g0, o0, none⟩) ln.length c2) ∧ w'.cell? ⟨g0, o0 + k, none⟩ = some (.slice Ar m cr) ∧ w'.cell? ⟨b, 3, none⟩ = some (.slice (some ⟨g1, o1, none⟩) ln.length c3) ∧ w'.cell? ⟨g1, o1 + k, none⟩ = some (.slice Aw m cw)) (by kernel_rfl) ?_ (fun hS => ?_)
          · exact HC.out _ ⟨_, h⟩
          refine wpAnyG_pure (i := 0) (oi := ⟨some 58, _, _, _, _, _⟩) (v := ?_) rfl (by kernel_rfl) (by kernel_rfl) (by kernel_rfl) (by rfl) (fun _ _ _ h => h) (by rfl) ?_ ?_
          rotate_left
          · intro w
            go_simp
            first | done | with_reducible rfl
          try simp only [Act.put, List.setIfInBounds_toArray, List.set_cons_zero, List.set_cons_succ]
          refine wpAnyG_pure (i := 1) (oi := ⟨some 59, _, _, _, _, _⟩) (v := ?_) rfl (by kernel_rfl) (by kernel_rfl) (by kernel_rfl) (by rfl) (fun _ _ _ h => h) (by rfl) ?_ ?_
          rotate_left
          · intro w
            go_simp
            first | done | with_reducible rfl
          try simp only [Act.put, List.setIfInBounds_toArray, List.set_cons_zero, List.set_cons_succ]
          refine wpAnyG_pure (i := 2) (oi := ⟨some 60, _, _, _, _, _⟩) (v := ?_) rfl (by kernel_rfl) (by kernel_rfl) (by kernel_rfl) (by rfl) (fun _ _ _ h => h) (by rfl) ?_ ?_
          rotate_left
          · intro w
            go_simp
            first | done | with_reducible rfl
          try simp only [Act.put, List.setIfInBounds_toArray, List.set_cons_zero, List.set_cons_succ]
          refine wpAnyG_load (i := 3) (oi := ⟨some 61, _, _, _, _, _⟩) (v := ?_) rfl (by kernel_rfl) (by kernel_rfl) (by kernel_rfl) (by rfl) (fun _ _ _ h => h) (by rfl) ?_ (by assumption) ?_
          rotate_left
          · intro w hS
            try dsimp only at hS
            go_simp
            first | done | with_reducible rfl
          try simp only [Act.put, List.setIfInBounds_toArray, List.set_cons_zero, List.set_cons_succ]
          refine wpAnyG_pure (i := 4) (oi := ⟨some 62, _, _, _, _, _⟩) (v := ?_) rfl (by kernel_rfl) (by kernel_rfl) (by kernel_rfl) (by rfl) (fun _ _ _ h => h) (by rfl) ?_ ?_
          rotate_left
          · intro w
            go_simp
            first | done | with_reducible rfl
          try simp only [Act.put, List.setIfInBounds_toArray, List.set_cons_zero, List.set_cons_succ]
          refine wpAnyG_pure (i := 5) (oi := ⟨some 63, _, _, _, _, _⟩) (v := ?_) rfl (by kernel_rfl) (by kernel_rfl) (by kernel_rfl) (by rfl) (fun _ _ _ h => h) (by rfl) ?_ ?_
          rotate_left
          · intro w
            go_simp
            first | done | with_reducible rfl
          try simp only [Act.put, List.setIfInBounds_toArray, List.set_cons_zero, List.set_cons_succ]
          refine wpAnyG_load (i := 6) (oi := ⟨some 64, _, _, _, _, _⟩) (v := ?_) rfl (by kernel_rfl) (by kernel_rfl) (by kernel_rfl) (by rfl) (fun _ _ _ h => h) (by rfl) ?_ (by assumption) ?_
          rotate_left
          · intro w hS
            try dsimp only at hS
            go_simp
            first | done | with_reducible rfl
          try simp only [Act.put, List.setIfInBounds_toArray, List.set_cons_zero, List.set_cons_succ]
          refine wpAnyG_pure (i := 7) (oi := ⟨some 65, _, _, _, _, _⟩) (v := ?_) rfl (by kernel_rfl) (by kernel_rfl) (by kernel_rfl) (by rfl) (fun _ _ _ h => h) (by rfl) ?_ ?_
          rotate_left
          · intro w
            go_simp
            first | done | with_reducible rfl
          try simp only [Act.put, List.setIfInBounds_toArray, List.set_cons_zero, List.set_cons_succ]
          refine wpAnyG_pure (i := 8) (oi := ⟨some 66, _, _, _, _, _⟩) (v := ?_) rfl (by kernel_rfl) (by kernel_rfl) (by kernel_rfl) (by rfl) (fun _ _ _ h => h) (by rfl) ?_ ?_
          rotate_left
          · intro w
            go_simp
            first | done | with_reducible rfl
          try simp only [Act.put, List.setIfInBounds_toArray, List.set_cons_zero, List.set_cons_succ]
          refine wpAnyG_pure (i := 9) (oi := ⟨some 67, _, _, _, _, _⟩) (v := ?_) rfl (by kernel_rfl) (by kernel_rfl) (by kernel_rfl) (by rfl) (fun _ _ _ h => h) (by rfl) ?_ ?_
          rotate_left
          · intro w
            go_simp
            first | done | with_reducible rfl
          try simp only [Act.put, List.setIfInBounds_toArray, List.set_cons_zero, List.set_cons_succ]
          refine wpAnyG_load (i := 10) (oi := ⟨some 68, _, _, _, _, _⟩) (v := ?_) rfl (by kernel_rfl) (by kernel_rfl) (by kernel_rfl) (by rfl) (fun _ _ _ h => h) (by rfl) ?_ (by assumption) ?_
          rotate_left
          · intro w hS
            try dsimp only at hS
            go_simp
            first | done | with_reducible rfl
          try simp only [Act.put, List.setIfInBounds_toArray, List.set_cons_zero, List.set_cons_succ]
          refine wpAnyG_pure (i := 11) (oi := ⟨some 69, _, _, _, _, _⟩) (v := ?_) rfl (by kernel_rfl) (by kernel_rfl) (by kernel_rfl) (by rfl) (fun _ _ _ h => h) (by rfl) ?_ ?_
          rotate_left
          · intro w
            go_simp
            first | done | with_reducible rfl
          try simp only [Act.put, List.setIfInBounds_toArray, List.set_cons_zero, List.set_cons_succ]
          refine wpAnyG_pure (i := 12) (oi := ⟨some 70, _, _, _, _, _⟩) (v := ?_) rfl (by kernel_rfl) (by kernel_rfl) (by kernel_rfl) (by rfl) (fun _ _ _ h => h) (by rfl) ?_ ?_
          rotate_left
          · intro w
            go_simp
            first | done | with_reducible rfl
          try simp only [Act.put, List.setIfInBounds_toArray, List.set_cons_zero, List.set_cons_succ]
          refine wpAnyG_load (i := 13) (oi := ⟨some 71, _, _, _, _, _⟩) (v := ?_) rfl (by kernel_rfl) (by kernel_rfl) (by kernel_rfl) (by rfl) (fun _ _ _ h => h) (by rfl) ?_ (by assumption) ?_
          rotate_left
          · intro w hS
            try dsimp only at hS
            go_simp
            first | done | with_reducible rfl
          try simp only [Act.put, List.setIfInBounds_toArray, List.set_cons_zero, List.set_cons_succ]
          refine wpAnyG_keep (i := 14) (oi := ⟨some 72, _, _, _, _, _⟩) (by kernel_rfl) rfl (fun K hK => ?_)
          rw [if_pos (by rfl)]
          go_simp
          refine (HSM.out _ _ h).mono ?_
          rintro e w5 ⟨rfl, h⟩
          refine hK.out _ _ ?_ (fun hS => ?_)
          · exact HC.out _ ⟨_, h⟩
          clear hK K
          try simp only [Act.put, List.setIfInBounds_toArray, List.set_cons_zero, List.set_cons_succ]
          refine wpAnyG_pure (i := 15) (oi := ⟨some 6, _, _, _, _, _⟩) (v := ?_) rfl (by kernel_rfl) (by kernel_rfl) (by kernel_rfl) (by rfl) (fun _ _ _ h => h) (by rfl) ?_ ?_
          rotate_left
          · intro w
            go_simp
            first | done | with_reducible rfl
          try simp only [Act.put, List.setIfInBounds_toArray, List.set_cons_zero, List.set_cons_succ]
          refine wpAnyG_done (by kernel_rfl) ?_ _
          refine NoPanic.normal ?_
          have H2 := Lib.hid h
          repeat clear h
          clear hc0
          go_wp2_with fail
          go_roundw
          case rel => exact ⟨k + 1, by omega, by go_num, H2.out⟩
          case measure => simp [intOf]; omega
        · obtain rfl : k = ln.length := by omega
          have H := Lib.hid hw
          clear hw hlt hk
          go_wp2_with fail
          clear hc0
          have h := H.out
          clear H HBU HFfamT HFfamN
          subst hU
          have h := Own.give ha2 da2 h
          have h := Own.give ha da h.f1
          have h : Own E _ (famT ((marked markS lt).take 0) :: famT (lt.drop 0) :: Hp.ro T :: famN ln :: L) := Own.emp.2 h
          clear ha2 da2 ha da
          have H := Lib.hid h
          repeat clear h
          go_loopw [7] (fun i wr => ∃ k : Nat, k ≤ lt.length ∧ i = .int .i64 k ∧ Own E wr (famT ((marked markS lt).take k) :: famT (lt.drop k) :: Hp.ro T :: famN ln :: L)) (fun i _ => lt.length - (intOf i).toNat)
          case atStart => exact ⟨0, by omega, rfl, H.out⟩
          case round =>
            obtain ⟨k, hk, rfl, hw⟩ := hrel
            clear H
            have hc0 := hw.f2.rd HB.out.k0
            by_cases hlt : k < lt.length
            · have hlti : (k : Int) < lt.length := by omega
              obtain ⟨r, g0, o0, hr, e0, k0⟩ := HB.out.r0.get1 (k := k) (by omega)
              rw [drop_at hr] at hw
              have h := Own.popfamT hw.f1
              obtain ⟨Ar, cr, er, -⟩ := h.lstSlice
              rw [List.length_map] at er
              have k0c := k0 _ rfl
              clear k0
              rw [er] at k0c h
              have hlen := Hhxt.out r (List.mem_of_getElem? hr)
              have HC : Hid (∀ w', (∃ L', Own E w' (Hp.ro T :: L')) → w'.cell? ⟨b, 0, none⟩ = some (.slice (some ⟨g0, o0, none⟩) lt.length c0) ∧ w'.cell? ⟨g0, o0 + k, none⟩ = some (.slice Ar r.xs.length cr)) := Lib.hid fun w' hw' => by
                obtain ⟨_, hw'⟩ := hw'
                refine ⟨?_, hw'.rd k0c⟩
                rw [← e0]; exact hw'.rd HB.out.k0
              rw [e0] at hc0
              have HTK := Lib.hid (marked_take markS hr)
              rw [er] at HTK
              have H := Lib.hid h
              obtain ⟨m, hm⟩ : ∃ m, m = r.xs.length := ⟨_, rfl⟩
              rw [← hm] at H HC HTK hlen
              obtain ⟨xs, hxs⟩ : ∃ xs, xs = r.xs := ⟨_, rfl⟩
              rw [← hxs] at H hm
              have HM := Lib.hid hm
              repeat clear h
              clear hw k0c e0 er hr hm hxs
              go_wp2_with fail
              clear hc0
              go_loopw [8] (fun j wr => ∃ q : Nat, q ≤ m ∧ j = .int .i64 q ∧ Own E wr (Hp.strs (.slice Ar m cr) (mkd xs q (markS k)) :: famT (lt.drop (k + 1)) :: famT ((marked markS lt).take k) :: Hp.ro T :: famN ln :: L)) (fun j _ => m - (intOf j).toNat)
              case atStart => exact ⟨0, by omega, rfl, H.out⟩
              case round =>
                obtain ⟨q, hq, rfl, hw⟩ := hrel
                clear H
                have hcc := HC.out _ ⟨_, hw.f3⟩
                obtain ⟨hc0, hc1⟩ := hcc
                by_cases hlt2 : q < m
                · have hlti2 : (q : Int) < m := by omega
                  have hml : ((mkd xs q (markS k)).map VS).length = m := by rw [List.length_map, mkd_len (by have := HM.out; omega), ← HM.out]
                  obtain ⟨g2, rfl, -, -⟩ := hw.lstCell q _ (List.getElem?_eq_getElem (by omega))
                  clear hml
                  have h := hw.drew
                  have HW := Lib.hid hw
                  clear hw
                  go_wp2_with fail
                  refine wp_region_text [3, 6] (fun w' => w'.cell? ⟨b, 0, none⟩ = some (.slice (some ⟨g0, o0, none⟩) lt.length c0) ∧ w'.cell? ⟨g0, o0 + k, none⟩ = some (.slice (some ⟨g2, 0, none⟩) m cr)) (by kernel_rfl) ?_ (fun hS => ?_)
                  · exact HC.out _ ⟨_, h.f3⟩
                  refine wpAnyG_pure (i := 0) (oi := ⟨some 96, _, _, _, _, _⟩) (v := ?_) rfl (by kernel_rfl) (by kernel_rfl) (by kernel_rfl) (by rfl) (fun _ _ _ h => h) (by rfl) ?_ ?_
                  rotate_left
                  · intro w
                    go_simp
                    first | done | with_reducible rfl
                  try simp only [Act.put, List.setIfInBounds_toArray, List.set_cons_zero, List.set_cons_succ]
                  refine wpAnyG_pure (i := 1) (oi := ⟨some 97, _, _, _, _, _⟩) (v := ?_) rfl (by kernel_rfl) (by kernel_rfl) (by kernel_rfl) (by rfl) (fun _ _ _ h => h) (by rfl) ?_ ?_
                  rotate_left
                  · intro w
                    go_simp
                    first | done | with_reducible rfl
                  try simp only [Act.put, List.setIfInBounds_toArray, List.set_cons_zero, List.set_cons_succ]
                  refine wpAnyG_pure (i := 2) (oi := ⟨some 98, _, _, _, _, _⟩) (v := ?_) rfl (by kernel_rfl) (by kernel_rfl) (by kernel_rfl) (by rfl) (fun _ _ _ h => h) (by rfl) ?_ ?_
                  rotate_left
                  · intro w
                    go_simp
                    first | done | with_reducible rfl
                  try simp only [Act.put, List.setIfInBounds_toArray, List.set_cons_zero, List.set_cons_succ]
                  refine wpAnyG_load (i := 3) (oi := ⟨some 99, _, _, _, _, _⟩) (v := ?_) rfl (by kernel_rfl) (by kernel_rfl) (by kernel_rfl) (by rfl) (fun _ _ _ h => h) (by rfl) ?_ (by assumption) ?_
                  rotate_left
                  · intro w hS
                    try dsimp only at hS
                    go_simp
                    first | done | with_reducible rfl
                  try simp only [Act.put, List.setIfInBounds_toArray, List.set_cons_zero, List.set_cons_succ]
                  refine wpAnyG_pure (i := 4) (oi := ⟨some 100, _, _, _, _, _⟩) (v := ?_) rfl (by kernel_rfl) (by kernel_rfl) (by kernel_rfl) (by rfl) (fun _ _ _ h => h) (by rfl) ?_ ?_
                  rotate_left
                  · intro w
                    go_simp
                    first | done | with_reducible rfl
                  try simp only [Act.put, List.setIfInBounds_toArray, List.set_cons_zero, List.set_cons_succ]
                  refine wpAnyG_pure (i := 5) (oi := ⟨some 101, _, _, _, _, _⟩) (v := ?_) rfl (by kernel_rfl) (by kernel_rfl) (by kernel_rfl) (by rfl) (fun _ _ _ h => h) (by rfl) ?_ ?_
                  rotate_left
                  · intro w
                    go_simp
                    first | done | with_reducible rfl
                  try simp only [Act.put, List.setIfInBounds_toArray, List.set_cons_zero, List.set_cons_succ]
                  refine wpAnyG_load (i := 6) (oi := ⟨some 102, _, _, _, _, _⟩) (v := ?_) rfl (by kernel_rfl) (by kernel_rfl) (by kernel_rfl) (by rfl) (fun _ _ _ h => h) (by rfl) ?_ (by assumption) ?_
                  rotate_left
                  · intro w hS
                    try dsimp only at hS
                    go_simp
                    first | done | with_reducible rfl
                  try simp only [Act.put, List.setIfInBounds_toArray, List.set_cons_zero, List.set_cons_succ]
                  refine wpAnyG_pure (i := 7) (oi := ⟨some 103, _, _, _, _, _⟩) (v := ?_) rfl (by kernel_rfl) (by kernel_rfl) (by kernel_rfl) (by rfl) (fun _ _ _ h => h) (by rfl) ?_ ?_
                  rotate_left
                  · intro w
                    go_simp
                    first | done | with_reducible rfl
                  try simp only [Act.put, List.setIfInBounds_toArray, List.set_cons_zero, List.set_cons_succ]
                  refine wpAnyG_pure (i := 8) (oi := ⟨some 104, _, _, _, _, _⟩) (v := ?_) rfl (by kernel_rfl) (by kernel_rfl) (by kernel_rfl) (by rfl) (fun _ _ _ h => h) (by rfl) ?_ ?_
                  rotate_left
                  · intro w
                    go_simp
                    first | done | with_reducible rfl
                  try simp only [Act.put, List.setIfInBounds_toArray, List.set_cons_zero, List.set_cons_succ]
                  refine wpAnyG_keep (i := 9) (oi := ⟨some 105, _, _, _, _, _⟩) (by kernel_rfl) rfl (fun K hK => ?_)
                  rw [if_pos (by rfl)]
                  go_simp
                  refine (mark_any k _ h).mono ?_
                  rintro e w5 ⟨rfl, h⟩
                  refine hK.out _ _ ?_ (fun hS => ?_)
                  · exact HC.out _ ⟨_, h.f3⟩
                  clear hK K
                  try simp only [Act.put, List.setIfInBounds_toArray, List.set_cons_zero, List.set_cons_succ]
                  refine wpAnyG_pure (i := 10) (oi := ⟨some 106, _, _, _, _, _⟩) (v := ?_) rfl (by kernel_rfl) (by kernel_rfl) (by kernel_rfl) (by rfl) (fun _ _ _ h => h) (by rfl) ?_ ?_
                  rotate_left
                  · intro w
                    go_simp
                    first | done | with_reducible rfl
                  try simp only [Act.put, List.setIfInBounds_toArray, List.set_cons_zero, List.set_cons_succ]
                  refine wpAnyG_break (i := 11) (oi := ⟨none, _, _, _, _, _⟩) (by kernel_rfl) rfl (by kernel_rfl) (fun K hK => ?_)
                  rw [if_pos (by rfl)]
                  obtain ⟨g3, hA3, hcell, hfz, h⟩ := h.lstSet q hlt2 (VS (markS k))
                  injection hA3 with hA3
                  injection hA3 with hA3
                  subst hA3
                  generalize List.getD _ _ _ = z at hcell
                  go_simp
                  refine hK.out _ _ ?_
                  clear hK K
                  try simp only [Act.put]
                  refine wpAnyG_done (by kernel_rfl) ?_ _
                  refine NoPanic.normal ?_
                  rw [← List.map_set, mkd_set (by have := HM.out; omega)] at h
                  have H := Lib.hid h
                  repeat clear h
                  clear hc0 hc1
                  go_wp2_with fail
                  go_roundw
                  case rel => exact ⟨q + 1, by omega, by go_num, H.out⟩
                  case measure => simp [intOf]; omega
                · obtain rfl : q = m := by omega
                  have hlti2 : ¬ (q : Int) < q := by omega
                  rw [mkd_all HM.out] at hw
                  rw [← HM.out] at hw
                  have hw2 := Own.pushfamT (r := ⟨.slice Ar q cr, r.wv, List.replicate q (markS k)⟩) hw.f2.f1
                  rw [← HTK.out] at hw2
                  have H := Lib.hid hw2
                  clear hw hw2 hlt2 hq
                  go_wp2_with fail
                  go_roundw
                  case rel => exact ⟨k + 1, by omega, by go_num, H.out.ac (by simp only [Hp.all] <;> ac_rfl)⟩
                  case measure => simp [intOf]; omega
            · obtain rfl : k = lt.length := by omega
              have hlti : ¬ ((lt.length : Nat) : Int) < ((lt.length : Nat) : Int) := by omega
              rw [List.drop_eq_nil_of_le (by omega), List.take_of_length_le (by rw [marked_len]; omega)] at hw
              have H := Lib.hid hw.f1.drop
              clear hw hlt hk
              go_wp2_with fail
              clear hc0
              have h : Own E _ (famN ((marked markN ln).take 0) :: famN (ln.drop 0) :: Hp.ro T :: famT (marked markS lt) :: L) := (show Own E _ (famN ((marked markN ln).take 0) :: famN (ln.drop 0) :: famT (marked markS lt) :: Hp.ro T :: L) from Own.emp.2 (H.out.f2)).ac (by simp only [Hp.all] <;> ac_rfl)
              clear H
              have H := Lib.hid h
              repeat clear h
              go_loopw [9] (fun i wr => ∃ k : Nat, k ≤ ln.length ∧ i = .int .i64 k ∧ Own E wr (famN ((marked markN ln).take k) :: famN (ln.drop k) :: Hp.ro T :: famT (marked markS lt) :: L)) (fun i _ => ln.length - (intOf i).toNat)
              case atStart => exact ⟨0, by omega, rfl, H.out⟩
              case round =>
                obtain ⟨k, hk, rfl, hw⟩ := hrel
                clear H
                have hc0 := hw.f2.rd HB.out.k2
                by_cases hlt : k < ln.length
                · have hlti : (k : Int) < ln.length := by omega
                  obtain ⟨r, g0, o0, hr, e0, k0⟩ := HB.out.r2.get1 (k := k) (by omega)
                  rw [drop_at hr] at hw
                  have h := Own.popfamN hw.f1
                  obtain ⟨Ar, cr, er, -⟩ := h.lstSlice
                  rw [List.length_map] at er
                  have k0c := k0 _ rfl
                  clear k0
                  rw [er] at k0c h
                  have hlen := Hhxn.out r (List.mem_of_getElem? hr)
                  have HC : Hid (∀ w', (∃ L', Own E w' (Hp.ro T :: L')) → w'.cell? ⟨b, 2, none⟩ = some (.slice (some ⟨g0, o0, none⟩) ln.length c2) ∧ w'.cell? ⟨g0, o0 + k, none⟩ = some (.slice Ar r.xs.length cr)) := Lib.hid fun w' hw' => by
                    obtain ⟨_, hw'⟩ := hw'
                    refine ⟨?_, hw'.rd k0c⟩
                    rw [← e0]; exact hw'.rd HB.out.k2
                  rw [e0] at hc0
                  have HTK := Lib.hid (marked_take markN hr)
                  rw [er] at HTK
                  have H := Lib.hid h
                  obtain ⟨m, hm⟩ : ∃ m, m = r.xs.length := ⟨_, rfl⟩
                  rw [← hm] at H HC HTK hlen
                  obtain ⟨xs, hxs⟩ : ∃ xs, xs = r.xs := ⟨_, rfl⟩
                  rw [← hxs] at H hm
                  have HM := Lib.hid hm
                  repeat clear h
                  clear hw k0c e0 er hr hm hxs
                  go_wp2_with fail
                  clear hc0
                  go_loopw [10] (fun j wr => ∃ q : Nat, q ≤ m ∧ j = .int .i64 q ∧ Own E wr (Hp.ints (.slice Ar m cr) (mkd xs q (markN k)) :: famN (ln.drop (k + 1)) :: famN ((marked markN ln).take k) :: Hp.ro T :: famT (marked markS lt) :: L)) (fun j _ => m - (intOf j).toNat)
                  case atStart => exact ⟨0, by omega, rfl, H.out⟩
                  case round =>
                    obtain ⟨q, hq, rfl, hw⟩ := hrel
                    clear H
                    have hcc := HC.out _ ⟨_, hw.f3⟩
                    obtain ⟨hc0, hc1⟩ := hcc
                    by_cases hlt2 : q < m
                    · have hlti2 : (q : Int) < m := by omega
                      have hml : ((mkd xs q (markN k)).map VI).length = m := by rw [List.length_map, mkd_len (by have := HM.out; omega), ← HM.out]
                      obtain ⟨g2, rfl, -, -⟩ := hw.lstCell q _ (List.getElem?_eq_getElem (by omega))
                      clear hml
                      have j1 : IntKind.i64.wrap (-5 - (k : Int)) = -5 - (k : Int) := IntWalk.i64_in _ (by omega)
                      obtain ⟨g3, hA3, hcell, hfz, h⟩ := hw.lstSet q hlt2 (VI (markN k))
                      injection hA3 with hA3
                      injection hA3 with hA3
                      subst hA3
                      generalize List.getD _ _ _ = z at hcell
                      rw [← List.map_set, mkd_set (by have := HM.out; omega)] at h
                      have H := Lib.hid h
                      repeat clear h
                      clear hw
                      go_wp2_with fail
                      go_roundw
                      case rel => exact ⟨q + 1, by omega, by go_num, H.out⟩
                      case measure => simp [intOf]; omega
                    · obtain rfl : q = m := by omega
                      have hlti2 : ¬ (q : Int) < q := by omega
                      rw [mkd_all HM.out] at hw
                      rw [← HM.out] at hw
                      have hw2 := Own.pushfamN (r := ⟨.slice Ar q cr, r.wv, List.replicate q (markN k)⟩) hw.f2.f1
                      rw [← HTK.out] at hw2
                      have H := Lib.hid hw2
                      clear hw hw2 hlt2 hq
                      go_wp2_with fail
                      go_roundw
                      case rel => exact ⟨k + 1, by omega, by go_num, H.out.ac (by simp only [Hp.all] <;> ac_rfl)⟩
                      case measure => simp [intOf]; omega
                · obtain rfl : k = ln.length := by omega
                  have hlti : ¬ ((ln.length : Nat) : Int) < ((ln.length : Nat) : Int) := by omega
                  rw [List.drop_eq_nil_of_le (by omega), List.take_of_length_le (by rw [marked_len]; omega)] at hw
                  have H := Lib.hid hw.f1.drop
                  clear hw hlt hk
                  go_wp2_with fail
                  clear hc0
                  have h : Own E _ (Hp.ro T :: famT ((marked markS lt).drop 0) :: Hp.lst LST (.slice none (20 * 0) 0) [] :: famN (marked markN ln) :: L) := (show Own E _ (Hp.lst LST (.slice none (20 * 0) 0) [] :: famN (marked markN ln) :: Hp.ro T :: famT ((marked markS lt).drop 0) :: L) from H.out.emptyLst LST none).ac (by simp only [Hp.all] <;> ac_rfl)
                  clear H
                  have H := Lib.hid h
                  repeat clear h
                  go_loopw [11, 13] (fun vt i wr => ∃ (k ct1 : Nat) (At1 : Option Addr) (U1 : Ph) (tv1 : List Value), k ≤ lt.length ∧ i = .int .i64 k ∧ vt = .slice At1 (20 * k) ct1 ∧ tv1.length = 20 * k ∧ Ext T U1 ∧ (∀ q v, tv1[q]? = some v → Seen VS markS U1 q v) ∧ Own E wr (Hp.ro U1 :: famT ((marked markS lt).drop k) :: Hp.lst LST (.slice At1 (20 * k) ct1) tv1 :: famN (marked markN ln) :: L)) (fun _ i _ => lt.length - (intOf i).toNat)
                  case atStart => exact ⟨0, 0, none, T, [], by omega, rfl, rfl, rfl, Ext.refl _, fun _ _ hv => by simp at hv, H.out⟩
                  case round =>
                    obtain ⟨k, ct1, At1, U1, tv1, hk, rfl, rfl, htl1, hxu, hseen, hw⟩ := hrel
                    clear H
                    have hc0 := hw.rd (HB.out.sub hxu.sub).k0
                    have HXU1 := Lib.hid hxu
                    have HS1 := Lib.hid hseen
                    clear hxu hseen
                    by_cases hlt : k < lt.length
                    · have hlti : (k : Int) < lt.length := by omega
                      obtain ⟨r, g0, o0, hr, e0, k0⟩ := HB.out.r0.get1 (k := k) (by omega)
                      have hmk := marked_at markS hr
                      rw [drop_at hmk] at hw
                      have h := Own.popfamT hw.f1
                      obtain ⟨Ar, cr, er, -⟩ := h.lstSlice
                      rw [List.length_map, List.length_replicate] at er
                      have er : r.v = .slice Ar r.xs.length cr := er
                      have h : Own E wr (Hp.strs r.v (List.replicate r.xs.length (markS k)) :: _) := h
                      have hc1 := hw.rd (Ph.cell_sub HXU1.out.sub (k0 _ rfl))
                      rw [er] at hc1 h
                      rw [e0] at hc0
                      have hlen := Hhxt.out r (List.mem_of_getElem? hr)
                      have h : Own E wr (Hp.strs (.slice Ar r.xs.length cr) (List.replicate r.xs.length (markS k)) :: Hp.ro U1 :: Hp.lst LST (.slice At1 (20 * k) ct1) tv1 :: famT ((marked markS lt).drop (k + 1)) :: famN (marked markN ln) :: L) := h.ac (by simp only [Hp.all] <;> ac_rfl)
                      have H := Lib.hid h
                      generalize r.xs.length = m at *
                      repeat clear h
                      clear hw k0 e0 er hr hmk
                      go_wp2_with fail
                      clear hc0 hc1
                      go_loopw [11, 14, 15] (fun vt vx j wr => ∃ (q ct1 cx : Nat) (At1 Ax : Option Addr) (U1 : Ph) (tv1 : List Value), q ≤ 20 ∧ j = .int .i64 q ∧ vt = .slice At1 (20 * k + q) ct1 ∧ vx = .slice Ax (m + q) cx ∧ tv1.length = 20 * k + q ∧ Ext T U1 ∧ (∀ q' v, tv1[q']? = some v → Kept VS markS U1 k Ax (m + q) q' v) ∧ Own E wr (Hp.strs (.slice Ax (m + q) cx) (List.replicate (m + q) (markS k)) :: Hp.ro U1 :: Hp.lst LST (.slice At1 (20 * k + q) ct1) tv1 :: famT ((marked markS lt).drop (k + 1)) :: famN (marked markN ln) :: L)) (fun _ _ j _ => 20 - (intOf j).toNat)
                      case atStart => exact ⟨0, ct1, cr, At1, Ar, U1, tv1, by omega, rfl, rfl, rfl, htl1, HXU1.out, fun q v hv => .inl (HS1.out q v hv), H.out⟩
                      case round =>
                        clear H HXU1 HS1 htl1
                        obtain ⟨q, ct1, cx, At1, Ax, U1, tv1, hq, rfl, rfl, rfl, htl1, hxu, hkept, hw⟩ := hrel
                        have HXU1 := Lib.hid hxu
                        have HS1 := Lib.hid hkept
                        clear hxu hkept
                        by_cases hlt2 : q < 20
                        · have hlti2 : (q : Int) < 20 := by omega
                          obtain ⟨v1, w1, hap1, h⟩ := lst_append_new (P := Tryz.prog) (t := LLST) (ty := LLST) llst_u sst_info (by rfl) hw.f2 #[.slice Ax (m + q) cx] 1 rfl (by simp [Value.oneCell']) (by unfold maxLen; omega) (by omega)
                          obtain ⟨Bt, bt, rfl, -⟩ := h.lstSlice
                          have e9 : (tv1 ++ (#[.slice Ax (m + q) cx] : Array Value).toList).length = 20 * k + (q + 1) := by rw [List.length_append, htl1]; simp; omega
                          rw [e9] at h hap1
                          have HE9 := Lib.hid e9
                          have h := h.f1
                          have H := Lib.hid h
                          repeat clear h
                          clear hw e9
                          go_wp2_with (with_reducible refine at_slot (k := some 162) ?_; refine wpList_append_run (o := ⟨some 162, _, _, _, _, _⟩) hap1 rfl rfl rfl rfl ?_; clear hap1)
                          with_reducible refine (mark_any k _ H.out).mono ?_
                          rintro e w2 ⟨rfl, h⟩
                          clear H
                          have hlr : ((List.replicate (m + q) (markS k)).map VS).length = m + q := by rw [List.length_map, List.length_replicate]
                          obtain ⟨Bx, bx, w3, hap2, hor⟩ := lst_append_one (P := Tryz.prog) (t := LST) (ty := LST) lst_u st_info (by rfl) h (VS (markS k)) rfl (by unfold maxLen; omega) (by omega)
                          have e8 : (List.replicate (m + q) (markS k)).map VS ++ [VS (markS k)] = (List.replicate (m + (q + 1)) (markS k)).map VS := by rw [← Nat.add_assoc, List.replicate_succ', List.map_append]; rfl
                          rw [e8, Nat.add_assoc] at hor
                          rw [Nat.add_assoc] at hap2
                          have hfin : ∃ U2, Ext T U2 ∧ (∀ q' v, (tv1 ++ (#[.slice Ax (m + q) cx] : Array Value).toList)[q']? = some v → Kept VS markS U2 k Bx (m + (q + 1)) q' v) ∧ Own E w3 (Hp.strs (.slice Bx (m + (q + 1)) bx) (List.replicate (m + (q + 1)) (markS k)) :: Hp.ro U2 :: Hp.lst LST (.slice Bt (20 * k + (q + 1)) bt) (tv1 ++ (#[.slice Ax (m + q) cx] : Array Value).toList) :: famT ((marked markS lt).drop (k + 1)) :: famN (marked markN ln) :: L) := by
                            have hold : ∀ q' v, (tv1 ++ (#[.slice Ax (m + q) cx] : Array Value).toList)[q']? = some v → Kept VS markS U1 k Ax (m + q) q' v := fun q' v hv => by
                              rcases Nat.lt_or_ge q' tv1.length with h1 | h1
                              · rw [List.getElem?_append_left h1] at hv
                                exact HS1.out q' v hv
                              · rw [List.getElem?_append_right h1] at hv
                                have hz : q' - tv1.length = 0 := by
                                  have := (List.getElem?_eq_some_iff.1 hv).1
                                  simp at this; omega
                                rw [hz] at hv
                                have hv' : v = .slice Ax (m + q) cx := by simpa using hv.symm
                                exact .inr ⟨by omega, m + q, cx, hv', Nat.le_refl _⟩
                            rcases hor with ⟨rfl, ho⟩ | ho
                            · have ho : Own E w3 (Hp.strs (.slice Bx (m + (q + 1)) bx) (List.replicate (m + (q + 1)) (markS k)) :: Hp.lst LST _ _ :: Hp.ro U1 :: famT _ :: _) := ho
                              exact ⟨U1, HXU1.out, fun q' v hv => (hold q' v hv).more, ho.ac (by simp only [Hp.all] <;> ac_rfl)⟩
                            · have ho : Own E w3 (Hp.strs (.slice Bx (m + (q + 1)) bx) (List.replicate (m + (q + 1)) (markS k)) :: Hp.strs (.slice Ax (m + q) cx) (List.replicate (m + q) (markS k)) :: Hp.lst LST _ _ :: Hp.ro U1 :: famT _ :: _) := ho
                              have ho2 : Own E w3 (_ :: Hp.ro U1 :: _) := (ho.f3.f2 : Own E w3 (Hp.strs (.slice Ax (m + q) cx) (List.replicate (m + q) (markS k)) :: Hp.ro U1 :: _))
                              obtain ⟨a, ha, hd, ho3⟩ := ho2.lend
                              exact ⟨Ph.join a U1, HXU1.out.trans (Ext.of hd), fun q' v hv => .inl ((hold q' v hv).done hd (by omega) ha), ho3.ac (by simp only [Hp.all] <;> ac_rfl)⟩
                          obtain ⟨U2, hx2, hk2, h⟩ := hfin
                          have HX2 := Lib.hid hx2
                          have HK2 := Lib.hid hk2
                          have H := Lib.hid h
                          repeat clear h
                          clear hx2 hk2 hor HS1 HXU1 hlr e8
                          go_wp2_with (with_reducible refine at_slot (k := some 167) ?_; refine wpList_append_run (o := ⟨some 167, _, _, _, _, _⟩) hap2 rfl rfl rfl rfl ?_; clear hap2)
                          go_roundw
                          case rel => exact ⟨q + 1, bt, bx, Bt, Bx, U2, _, by omega, by go_num, rfl, rfl, HE9.out, HX2.out, HK2.out, H.out⟩
                          case measure => simp [intOf]; omega
                        · obtain rfl : q = 20 := by omega
                          obtain ⟨a, ha, hd, h⟩ := hw.lend
                          have hs2 : ∀ q' v, tv1[q']? = some v → Seen VS markS (Ph.join a U1) q' v := fun q' v hv => (HS1.out q' v hv).done hd (by omega) ha
                          have HSJ := Lib.hid hs2
                          have H := Lib.hid h
                          repeat clear h
                          clear hw ha hs2 hlt2 hq HS1
                          have HXJ := Lib.hid (HXU1.out.trans (Ext.of hd))
                          clear hd HXU1
                          go_wp2_with fail
                          go_roundw
                          case rel => exact ⟨k + 1, ct1, At1, Ph.join a U1, tv1, by omega, by go_num, by rw [show 20 * (k + 1) = 20 * k + 20 by omega], by omega, HXJ.out, HSJ.out, by rw [show 20 * (k + 1) = 20 * k + 20 by omega]; exact H.out.ac (by simp only [Hp.all] <;> ac_rfl)⟩
                          case measure => simp [intOf]; omega
                    · obtain rfl : k = lt.length := by omega
                      have hlti : ¬ ((lt.length : Nat) : Int) < ((lt.length : Nat) : Int) := by omega
                      rw [List.drop_eq_nil_of_le (by rw [marked_len]; omega)] at hw
                      have H := Lib.hid hw.f1.drop
                      clear hw hlt hk
                      go_wp2_with fail
                      clear hc0
                      have HB1 := Lib.hid (HB.out.sub HXU1.out.sub)
                      have h : Own E _ (Hp.ro U1 :: famN ((marked markN ln).drop 0) :: Hp.lst LIT (.slice none (20 * 0) 0) [] :: Hp.lst LST (.slice At1 (20 * lt.length) ct1) tv1 :: L) := (show Own E _ (Hp.lst LIT (.slice none (20 * 0) 0) [] :: Hp.ro U1 :: Hp.lst LST (.slice At1 (20 * lt.length) ct1) tv1 :: famN ((marked markN ln).drop 0) :: L) from H.out.emptyLst LIT none).ac (by simp only [Hp.all] <;> ac_rfl)
                      clear H
                      have H := Lib.hid h
                      repeat clear h
                      go_loopw [12, 16] (fun vt i wr => ∃ (k ct2 : Nat) (At2 : Option Addr) (U2 : Ph) (tv2 : List Value), k ≤ ln.length ∧ i = .int .i64 k ∧ vt = .slice At2 (20 * k) ct2 ∧ tv2.length = 20 * k ∧ Ext U1 U2 ∧ (∀ q v, tv2[q]? = some v → Seen VI markN U2 q v) ∧ Own E wr (Hp.ro U2 :: famN ((marked markN ln).drop k) :: Hp.lst LIT (.slice At2 (20 * k) ct2) tv2 :: Hp.lst LST (.slice At1 (20 * lt.length) ct1) tv1 :: L)) (fun _ i _ => ln.length - (intOf i).toNat)
                      case atStart => exact ⟨0, 0, none, U1, [], by omega, rfl, rfl, rfl, Ext.refl _, fun _ _ hv => by simp at hv, H.out⟩
                      case round =>
                        obtain ⟨k, ct2, At2, U2, tv2, hk, rfl, rfl, htl2, hxu, hseen, hw⟩ := hrel
                        clear H
                        have hc0 := hw.rd (HB1.out.sub hxu.sub).k2
                        have HXU2 := Lib.hid hxu
                        have HS2 := Lib.hid hseen
                        clear hxu hseen
                        by_cases hlt : k < ln.length
                        · have hlti : (k : Int) < ln.length := by omega
                          obtain ⟨r, g0, o0, hr, e0, k0⟩ := HB1.out.r2.get1 (k := k) (by omega)
                          have hmk := marked_at markN hr
                          rw [drop_at hmk] at hw
                          have h := Own.popfamN hw.f1
                          obtain ⟨Ar, cr, er, -⟩ := h.lstSlice
                          rw [List.length_map, List.length_replicate] at er
                          have er : r.v = .slice Ar r.xs.length cr := er
                          have h : Own E wr (Hp.ints r.v (List.replicate r.xs.length (markN k)) :: _) := h
                          have hc1 := hw.rd (Ph.cell_sub HXU2.out.sub (k0 _ rfl))
                          rw [er] at hc1 h
                          rw [e0] at hc0
                          have hlen := Hhxn.out r (List.mem_of_getElem? hr)
                          have h : Own E wr (Hp.ints (.slice Ar r.xs.length cr) (List.replicate r.xs.length (markN k)) :: Hp.ro U2 :: Hp.lst LIT (.slice At2 (20 * k) ct2) tv2 :: famN ((marked markN ln).drop (k + 1)) :: Hp.lst LST (.slice At1 (20 * lt.length) ct1) tv1 :: L) := h.ac (by simp only [Hp.all] <;> ac_rfl)
                          have H := Lib.hid h
                          generalize r.xs.length = m at *
                          repeat clear h
                          clear hw k0 e0 er hr hmk
                          go_wp2_with fail
                          clear hc0 hc1
                          go_loopw [12, 17, 18] (fun vt vx j wr => ∃ (q ct2 cx : Nat) (At2 Ax : Option Addr) (U2 : Ph) (tv2 : List Value), q ≤ 20 ∧ j = .int .i64 q ∧ vt = .slice At2 (20 * k + q) ct2 ∧ vx = .slice Ax (m + q) cx ∧ tv2.length = 20 * k + q ∧ Ext U1 U2 ∧ (∀ q' v, tv2[q']? = some v → Kept VI markN U2 k Ax (m + q) q' v) ∧ Own E wr (Hp.ints (.slice Ax (m + q) cx) (List.replicate (m + q) (markN k)) :: Hp.ro U2 :: Hp.lst LIT (.slice At2 (20 * k + q) ct2) tv2 :: famN ((marked markN ln).drop (k + 1)) :: Hp.lst LST (.slice At1 (20 * lt.length) ct1) tv1 :: L)) (fun _ _ j _ => 20 - (intOf j).toNat)
                          case atStart => exact ⟨0, ct2, cr, At2, Ar, U2, tv2, by omega, rfl, rfl, rfl, htl2, HXU2.out, fun q v hv => .inl (HS2.out q v hv), H.out⟩
                          case round =>
                            clear H HXU2 HS2 htl2
                            obtain ⟨q, ct2, cx, At2, Ax, U2, tv2, hq, rfl, rfl, rfl, htl2, hxu, hkept, hw⟩ := hrel
                            have HXU2 := Lib.hid hxu
                            have HS2 := Lib.hid hkept
                            clear hxu hkept
                            by_cases hlt2 : q < 20
                            · have hlti2 : (q : Int) < 20 := by omega
                              obtain ⟨v1, w1, hap1, h⟩ := lst_append_new (P := Tryz.prog) (t := LLIT) (ty := LLIT) llit_u sit_info (by rfl) hw.f2 #[.slice Ax (m + q) cx] 1 rfl (by simp [Value.oneCell']) (by unfold maxLen; omega) (by omega)
                              obtain ⟨Bt, bt, rfl, -⟩ := h.lstSlice
                              have e9 : (tv2 ++ (#[.slice Ax (m + q) cx] : Array Value).toList).length = 20 * k + (q + 1) := by rw [List.length_append, htl2]; simp; omega
                              rw [e9] at h hap1
                              have HE9 := Lib.hid e9
                              have h := h.f1
                              have H := Lib.hid h
                              repeat clear h
                              clear hw e9
                              have h := H.out
                              clear H
                              have j1 : IntKind.i64.wrap (-5 - (k : Int)) = -5 - (k : Int) := IntWalk.i64_in _ (by omega)
                              have hlr : ((List.replicate (m + q) (markN k)).map VI).length = m + q := by rw [List.length_map, List.length_replicate]
                              obtain ⟨Bx, bx, w3, hap2, hor⟩ := lst_append_one (P := Tryz.prog) (t := LIT) (ty := LIT) lit_u it_info (by rfl) h (VI (markN k)) rfl (by unfold maxLen; omega) (by omega)
                              have e8 : (List.replicate (m + q) (markN k)).map VI ++ [VI (markN k)] = (List.replicate (m + (q + 1)) (markN k)).map VI := by rw [← Nat.add_assoc, List.replicate_succ', List.map_append]; rfl
                              rw [e8, Nat.add_assoc] at hor
                              rw [Nat.add_assoc] at hap2
                              have hfin : ∃ U2, Ext U1 U2 ∧ (∀ q' v, (tv2 ++ (#[.slice Ax (m + q) cx] : Array Value).toList)[q']? = some v → Kept VI markN U2 k Bx (m + (q + 1)) q' v) ∧ Own E w3 (Hp.ints (.slice Bx (m + (q + 1)) bx) (List.replicate (m + (q + 1)) (markN k)) :: Hp.ro U2 :: Hp.lst LIT (.slice Bt (20 * k + (q + 1)) bt) (tv2 ++ (#[.slice Ax (m + q) cx] : Array Value).toList) :: famN ((marked markN ln).drop (k + 1)) :: Hp.lst LST (.slice At1 (20 * lt.length) ct1) tv1 :: L) := by
                                have hold : ∀ q' v, (tv2 ++ (#[.slice Ax (m + q) cx] : Array Value).toList)[q']? = some v → Kept VI markN U2 k Ax (m + q) q' v := fun q' v hv => by
                                  rcases Nat.lt_or_ge q' tv2.length with h1 | h1
                                  · rw [List.getElem?_append_left h1] at hv
                                    exact HS2.out q' v hv
                                  · rw [List.getElem?_append_right h1] at hv
                                    have hz : q' - tv2.length = 0 := by
                                      have := (List.getElem?_eq_some_iff.1 hv).1
                                      simp at this; omega
                                    rw [hz] at hv
                                    have hv' : v = .slice Ax (m + q) cx := by simpa using hv.symm
                                    exact .inr ⟨by omega, m + q, cx, hv', Nat.le_refl _⟩
                                rcases hor with ⟨rfl, ho⟩ | ho
                                · have ho : Own E w3 (Hp.ints (.slice Bx (m + (q + 1)) bx) (List.replicate (m + (q + 1)) (markN k)) :: Hp.lst LIT _ _ :: Hp.ro U2 :: famN _ :: _) := ho
                                  exact ⟨U2, HXU2.out, fun q' v hv => (hold q' v hv).more, ho.ac (by simp only [Hp.all] <;> ac_rfl)⟩
                                · have ho : Own E w3 (Hp.ints (.slice Bx (m + (q + 1)) bx) (List.replicate (m + (q + 1)) (markN k)) :: Hp.ints (.slice Ax (m + q) cx) (List.replicate (m + q) (markN k)) :: Hp.lst LIT _ _ :: Hp.ro U2 :: famN _ :: _) := ho
                                  have ho2 : Own E w3 (_ :: Hp.ro U2 :: _) := (ho.f3.f2 : Own E w3 (Hp.ints (.slice Ax (m + q) cx) (List.replicate (m + q) (markN k)) :: Hp.ro U2 :: _))
                                  obtain ⟨a, ha, hd, ho3⟩ := ho2.lend
                                  exact ⟨Ph.join a U2, HXU2.out.trans (Ext.of hd), fun q' v hv => .inl ((hold q' v hv).done hd (by omega) ha), ho3.ac (by simp only [Hp.all] <;> ac_rfl)⟩
                              obtain ⟨U2, hx2, hk2, h⟩ := hfin
                              have HX2 := Lib.hid hx2
                              have HK2 := Lib.hid hk2
                              have H := Lib.hid h
                              repeat clear h
                              clear hx2 hk2 hor HS2 HXU2 hlr e8
                              go_wp2_with (first | (with_reducible refine at_slot (k := some 191) ?_; refine wpList_append_run (o := ⟨some 191, _, _, _, _, _⟩) hap1 rfl rfl rfl rfl ?_; clear hap1) | (with_reducible refine at_slot (k := some 196) ?_; refine wpList_append_run (o := ⟨some 196, _, _, _, _, _⟩) hap2 rfl rfl rfl rfl ?_; clear hap2))
                              go_roundw
                              case rel => exact ⟨q + 1, bt, bx, Bt, Bx, U2, _, by omega, by go_num, rfl, rfl, HE9.out, HX2.out, HK2.out, H.out⟩
                              case measure => simp [intOf]; omega
                            · obtain rfl : q = 20 := by omega
                              obtain ⟨a, ha, hd, h⟩ := hw.lend
                              have hs2 : ∀ q' v, tv2[q']? = some v → Seen VI markN (Ph.join a U2) q' v := fun q' v hv => (HS2.out q' v hv).done hd (by omega) ha
                              have HSJ := Lib.hid hs2
                              have H := Lib.hid h
                              repeat clear h
                              clear hw ha hs2 hlt2 hq HS2
                              have HXJ := Lib.hid (HXU2.out.trans (Ext.of hd))
                              clear hd HXU2
                              go_wp2_with fail
                              go_roundw
                              case rel => exact ⟨k + 1, ct2, At2, Ph.join a U2, tv2, by omega, by go_num, by rw [show 20 * (k + 1) = 20 * k + 20 by omega], by omega, HXJ.out, HSJ.out, by rw [show 20 * (k + 1) = 20 * k + 20 by omega]; exact H.out.ac (by simp only [Hp.all] <;> ac_rfl)⟩
                              case measure => simp [intOf]; omega
                        · obtain rfl : k = ln.length := by omega
                          have hlti : ¬ ((ln.length : Nat) : Int) < ((ln.length : Nat) : Int) := by omega
                          rw [List.drop_eq_nil_of_le (by rw [marked_len]; omega)] at hw
                          have H := Lib.hid hw.f1.drop
                          clear hw hlt hk
                          go_wp2_with fail
                          clear hc0
                          have h := H.out
                          clear H
                          generalize hN2 : 20 * ln.length = N2 at *
                          generalize hN1 : 20 * lt.length = N1 at *
                          obtain ⟨x1, hx1, d1, h⟩ := h.f1.lend
                          obtain ⟨x2, hx2, d2, h⟩ := h.f1.lend
                          have hr2 : Rds (Ph.join x2 (Ph.join x1 U2)) 1 (fun x => [x]) At2 N2 tv2 := (((lst_rds (f := id) (l := tv2) (by rw [List.map_id]; exact hx1)).1).sub Ph.join_l).sub (Ph.join_r d2)
                          have hr1 : Rds (Ph.join x2 (Ph.join x1 U2)) 1 (fun x => [x]) At1 N1 tv1 := ((lst_rds (f := id) (l := tv1) (by rw [List.map_id]; exact hx2)).1).sub Ph.join_l
                          have hs1 : ∀ q v, tv1[q]? = some v → Seen VS markS (Ph.join x2 (Ph.join x1 U2)) q v := fun q v hv => (((HS1.out q v hv).sub HXU2.out.sub).sub (Ph.join_r d1)).sub (Ph.join_r d2)
                          have hs2 : ∀ q v, tv2[q]? = some v → Seen VI markN (Ph.join x2 (Ph.join x1 U2)) q v := fun q v hv => ((HS2.out q v hv).sub (Ph.join_r d1)).sub (Ph.join_r d2)
                          have HFINAL := Lib.hid ((((HST.out.trans HXU1.out).trans HXU2.out).trans (Ext.of d1)).trans (Ext.of d2))
                          clear hx1 hx2 d1 d2 HS1 HS2 HXU1 HXU2
                          generalize Ph.join x2 (Ph.join x1 U2) = V at *
                          have HRfamT := Lib.hid hr1
                          have HRfamN := Lib.hid hr2
                          have HSfamT := Lib.hid hs1
                          have HSfamN := Lib.hid hs2
                          have H := Lib.hid h
                          have hNb : N1 ≤ 20000 ∧ N2 ≤ 20000 := by omega
                          repeat clear h
                          clear hr1 hr2 hs1 hs2 hN1 hN2 htl1 htl2 HB1
                          go_loopw [19] (fun i wr => ∃ k : Nat, k ≤ N1 ∧ i = .int .i64 k ∧ Own E wr (Hp.ro V :: L)) (fun i _ => N1 - (intOf i).toNat)
                          case atStart => exact ⟨0, by omega, rfl, H.out⟩
                          case round =>
                            obtain ⟨k, hk, rfl, hw⟩ := hrel
                            clear H
                            by_cases hlt : k < N1
                            · have hlti : (k : Int) < (N1 : Int) := by omega
                              obtain ⟨v, g0, o0, hv, rfl, k0⟩ := HRfamT.out.get1 hlt
                              obtain ⟨Ar, m, cr, rfl, hm, hr⟩ := HSfamT.out k v hv
                              obtain ⟨kq, hkq⟩ : ∃ kq, kq = k / 20 := ⟨_, rfl⟩
                              rw [← hkq] at hr
                              have hkb : kq ≤ 20000 := by omega
                              have hdv : (k : Int) / 20 = (kq : Int) := by omega
                              have hdv2 : Int.tdiv (k : Int) 20 = (kq : Int) := by rw [Int.tdiv_eq_ediv_of_nonneg (by omega)]; exact hdv
                              have hwq : IntKind.i64.wrap (kq : Int) = (kq : Int) := IntWalk.i64_in _ (by omega)
                              clear hkq
                              have HC := Lib.hid (k0 _ rfl)
                              have HW := Lib.hid hw
                              clear hw k0 hv
                              go_wp2_with fail
                              go_loopw [20] (fun j wr => ∃ q : Nat, q ≤ m ∧ j = .int .i64 q ∧ Own E wr (Hp.ro V :: L)) (fun j _ => m - (intOf j).toNat)
                              case atStart => exact ⟨0, by omega, rfl, HW.out⟩
                              case round =>
                                obtain ⟨q, hq, rfl, hw⟩ := hrel
                                clear HW
                                have hc0 := hw.rd HC.out
                                by_cases hlt2 : q < m
                                · have hlti2 : (q : Int) < m := by omega
                                  obtain ⟨x, g2, o2, hx, rfl, k2⟩ := hr.get1 hlt2
                                  obtain rfl : x = markS kq := by
                                    rw [List.getElem?_replicate, if_pos hlt2] at hx
                                    simpa using hx.symm
                                  have K2 := Lib.hid (k2 _ rfl)
                                  clear hx k2
                                  have h := hw.drew
                                  have HCC : Hid (∀ w', (∃ L', Own E w' (Hp.ro V :: L')) → w'.cell? ⟨g0, o0 + k, none⟩ = some (.slice (some ⟨g2, o2, none⟩) m cr) ∧ w'.cell? ⟨g2, o2 + q, none⟩ = some (.string (markS kq))) := Lib.hid fun w' hw' => by
                                    obtain ⟨_, hw'⟩ := hw'
                                    exact ⟨hw'.rd HC.out, hw'.rd K2.out⟩
                                  clear hw
                                  go_wp2_with fail
                                  refine wp_region_text [3, 6] (fun w' => w'.cell? ⟨g0, o0 + k, none⟩ = some (.slice (some ⟨g2, o2, none⟩) m cr) ∧ w'.cell? ⟨g2, o2 + q, none⟩ = some (.string (markS kq))) (by kernel_rfl) ?_ (fun hS => ?_)
                                  · exact HCC.out _ ⟨_, h⟩
                                  refine wpAnyG_pure (i := 0) (oi := ⟨some 212, _, _, _, _, _⟩) (v := ?_) rfl (by kernel_rfl) (by kernel_rfl) (by kernel_rfl) (by rfl) (fun _ _ _ h => h) (by rfl) ?_ ?_
                                  rotate_left
                                  · intro w
                                    go_simp
                                    first | done | with_reducible rfl
                                  try simp only [Act.put, List.setIfInBounds_toArray, List.set_cons_zero, List.set_cons_succ]
                                  refine wpAnyG_pure (i := 1) (oi := ⟨some 213, _, _, _, _, _⟩) (v := ?_) rfl (by kernel_rfl) (by kernel_rfl) (by kernel_rfl) (by rfl) (fun _ _ _ h => h) (by rfl) ?_ ?_
                                  rotate_left
                                  · intro w
                                    go_simp
                                    first | done | with_reducible rfl
                                  try simp only [Act.put, List.setIfInBounds_toArray, List.set_cons_zero, List.set_cons_succ]
                                  refine wpAnyG_pure (i := 2) (oi := ⟨some 214, _, _, _, _, _⟩) (v := ?_) rfl (by kernel_rfl) (by kernel_rfl) (by kernel_rfl) (by rfl) (fun _ _ _ h => h) (by rfl) ?_ ?_
                                  rotate_left
                                  · intro w
                                    go_simp
                                    first | done | with_reducible rfl
                                  try simp only [Act.put, List.setIfInBounds_toArray, List.set_cons_zero, List.set_cons_succ]
                                  refine wpAnyG_load (i := 3) (oi := ⟨some 215, _, _, _, _, _⟩) (v := ?_) rfl (by kernel_rfl) (by kernel_rfl) (by kernel_rfl) (by rfl) (fun _ _ _ h => h) (by rfl) ?_ (by assumption) ?_
                                  rotate_left
                                  · intro w hS
                                    try dsimp only at hS
                                    go_simp
                                    first | done | with_reducible rfl
                                  try simp only [Act.put, List.setIfInBounds_toArray, List.set_cons_zero, List.set_cons_succ]
                                  refine wpAnyG_pure (i := 4) (oi := ⟨some 216, _, _, _, _, _⟩) (v := ?_) rfl (by kernel_rfl) (by kernel_rfl) (by kernel_rfl) (by rfl) (fun _ _ _ h => h) (by rfl) ?_ ?_
                                  rotate_left
                                  · intro w
                                    go_simp
                                    first | done | with_reducible rfl
                                  try simp only [Act.put, List.setIfInBounds_toArray, List.set_cons_zero, List.set_cons_succ]
                                  refine wpAnyG_pure (i := 5) (oi := ⟨some 217, _, _, _, _, _⟩) (v := ?_) rfl (by kernel_rfl) (by kernel_rfl) (by kernel_rfl) (by rfl) (fun _ _ _ h => h) (by rfl) ?_ ?_
                                  rotate_left
                                  · intro w
                                    go_simp
                                    first | done | with_reducible rfl
                                  try simp only [Act.put, List.setIfInBounds_toArray, List.set_cons_zero, List.set_cons_succ]
                                  refine wpAnyG_load (i := 6) (oi := ⟨some 218, _, _, _, _, _⟩) (v := ?_) rfl (by kernel_rfl) (by kernel_rfl) (by kernel_rfl) (by rfl) (fun _ _ _ h => h) (by rfl) ?_ (by assumption) ?_
                                  rotate_left
                                  · intro w hS
                                    try dsimp only at hS
                                    go_simp
                                    first | done | with_reducible rfl
                                  try simp only [Act.put, List.setIfInBounds_toArray, List.set_cons_zero, List.set_cons_succ]
                                  refine wpAnyG_pure (i := 7) (oi := ⟨some 219, _, _, _, _, _⟩) (v := ?_) rfl (by kernel_rfl) (by kernel_rfl) (by kernel_rfl) (by rfl) (fun _ _ _ h => h) (by rfl) ?_ ?_
                                  rotate_left
                                  · intro w
                                    go_simp
                                    first | done | with_reducible rfl
                                  try simp only [Act.put, List.setIfInBounds_toArray, List.set_cons_zero, List.set_cons_succ]
                                  refine wpAnyG_pure (i := 8) (oi := ⟨some 220, _, _, _, _, _⟩) (v := ?_) rfl (by kernel_rfl) (by kernel_rfl) (by kernel_rfl) (by rfl) (fun _ _ _ h => h) (by rfl) ?_ ?_
                                  rotate_left
                                  · intro w
                                    go_simp
                                    first | done | with_reducible rfl
                                  try simp only [Act.put, List.setIfInBounds_toArray, List.set_cons_zero, List.set_cons_succ]
                                  refine wpAnyG_keep (i := 9) (oi := ⟨some 221, _, _, _, _, _⟩) (by kernel_rfl) rfl (fun K hK => ?_)
                                  rw [if_pos (by rfl)]
                                  go_simp
                                  try rw [hwq]
                                  refine (mark_any kq _ h).mono ?_
                                  rintro e w5 ⟨rfl, h⟩
                                  refine hK.out _ _ ?_ (fun hS => ?_)
                                  · exact HCC.out _ ⟨_, h⟩
                                  clear hK K
                                  try simp only [Act.put, List.setIfInBounds_toArray, List.set_cons_zero, List.set_cons_succ]
                                  refine wpAnyG_pure (i := 10) (oi := ⟨some 222, _, _, _, _, _⟩) (v := ?_) rfl (by kernel_rfl) (by kernel_rfl) (by kernel_rfl) (by rfl) (fun _ _ _ h => h) (by rfl) ?_ ?_
                                  rotate_left
                                  · intro w
                                    go_simp
                                    first | done | with_reducible rfl
                                  try simp only [Act.put, List.setIfInBounds_toArray, List.set_cons_zero, List.set_cons_succ]
                                  refine wpAnyG_done (by kernel_rfl) ?_ _
                                  refine NoPanic.normal ?_
                                  have H := Lib.hid h
                                  repeat clear h
                                  go_wp2_with fail
                                  go_roundw
                                  case rel => exact ⟨q + 1, by omega, by go_num, H.out⟩
                                  case measure => simp [intOf]; omega
                                · obtain rfl : q = m := by omega
                                  have hlti2 : ¬ (q : Int) < q := by omega
                                  have H := Lib.hid hw
                                  clear hw hlt2 hq
                                  go_wp2_with fail
                                  go_roundw
                                  case rel => exact ⟨k + 1, by omega, by go_num, H.out⟩
                                  case measure => simp [intOf]; omega
                            · obtain rfl : k = N1 := by omega
                              have hlti : ¬ (k : Int) < (k : Int) := by omega
                              have H := Lib.hid hw
                              clear hw hlt hk
                              go_wp2_with fail
                              go_loopw [21] (fun i wr => ∃ k : Nat, k ≤ N2 ∧ i = .int .i64 k ∧ Own E wr (Hp.ro V :: L)) (fun i _ => N2 - (intOf i).toNat)
                              case atStart => exact ⟨0, by omega, rfl, H.out⟩
                              case round =>
                                obtain ⟨k, hk, rfl, hw⟩ := hrel
                                clear H
                                by_cases hlt : k < N2
                                · have hlti : (k : Int) < (N2 : Int) := by omega
                                  obtain ⟨v, g0, o0, hv, rfl, k0⟩ := HRfamN.out.get1 hlt
                                  obtain ⟨Ar, m, cr, rfl, hm, hr⟩ := HSfamN.out k v hv
                                  obtain ⟨kq, hkq⟩ : ∃ kq, kq = k / 20 := ⟨_, rfl⟩
                                  rw [← hkq] at hr
                                  have hkb : kq ≤ 20000 := by omega
                                  have hdv : (k : Int) / 20 = (kq : Int) := by omega
                                  have hdv2 : Int.tdiv (k : Int) 20 = (kq : Int) := by rw [Int.tdiv_eq_ediv_of_nonneg (by omega)]; exact hdv
                                  have hwq : IntKind.i64.wrap (kq : Int) = (kq : Int) := IntWalk.i64_in _ (by omega)
                                  clear hkq
                                  have HC := Lib.hid (k0 _ rfl)
                                  have HW := Lib.hid hw
                                  clear hw k0 hv
                                  go_wp2_with fail
                                  go_loopw [22] (fun j wr => ∃ q : Nat, q ≤ m ∧ j = .int .i64 q ∧ Own E wr (Hp.ro V :: L)) (fun j _ => m - (intOf j).toNat)
                                  case atStart => exact ⟨0, by omega, rfl, HW.out⟩
                                  case round =>
                                    obtain ⟨q, hq, rfl, hw⟩ := hrel
                                    clear HW
                                    have hc0 := hw.rd HC.out
                                    by_cases hlt2 : q < m
                                    · have hlti2 : (q : Int) < m := by omega
                                      obtain ⟨x, g2, o2, hx, rfl, k2⟩ := hr.get1 hlt2
                                      obtain rfl : x = markN kq := by
                                        rw [List.getElem?_replicate, if_pos hlt2] at hx
                                        simpa using hx.symm
                                      have K2 := Lib.hid (k2 _ rfl)
                                      clear hx k2
                                      have hc2 := hw.rd K2.out
                                      have j1 : IntKind.i64.wrap (-5 - (kq : Int)) = -5 - (kq : Int) := IntWalk.i64_in _ (by omega)
                                      have H := Lib.hid hw
                                      clear hw
                                      unfold markN at hc2
                                      go_wp2_with fail
                                      go_roundw
                                      case rel => exact ⟨q + 1, by omega, by go_num, H.out⟩
                                      case measure => simp [intOf]; omega
                                    · obtain rfl : q = m := by omega
                                      have hlti2 : ¬ (q : Int) < q := by omega
                                      have H := Lib.hid hw
                                      clear hw hlt2 hq
                                      go_wp2_with fail
                                      go_roundw
                                      case rel => exact ⟨k + 1, by omega, by go_num, H.out⟩
                                      case measure => simp [intOf]; omega
                                · obtain rfl : k = N2 := by omega
                                  have hlti : ¬ (k : Int) < (k : Int) := by omega
                                  have H := Lib.hid hw
                                  clear hw hlt hk
                                  go_wp2_with fail
                                  go_ret
                                  exact ⟨rfl, H.out.back HFINAL.out⟩








end
end Go.Proofs.YtbclmmneiphcaaaGreatDoor
