/- Items: written, read, read and written again; what a row of them weighs. -/
import Derived.Test.YtokephnlelpjhaaDoorItems
namespace Go.Proofs.YtokephnlelpjhaaDoor
open Go.RowKit
section
variable {E : World} {L : List Hp}
theorem iCut_big (x : It) (h : 65535 < x.s.size) : x.s.extract 0 65535 = iCut x := by
  unfold iCut frontB
  rw [Nat.min_eq_right (by omega)]
theorem iCut_all (x : It) (h : ¬ 65535 < x.s.size) : iCut x = x.s := by
  unfold iCut frontB
  rw [Nat.min_eq_left (by omega)]
  simp
set_option maxRecDepth 20000 in
set_option maxHeartbeats 2000000 in
theorem writes_any (x : It) (b : Nat) (l : List UInt8) (w : World) (hx : ItOk x) (hl : l.length + x.s.size + 70000 ≤ 140737488355328) (h : Own E w (Hp.writer b .nilIface l :: L)) :
    Calls Tryd.prog 36 #[itV x, .pointer (some ⟨b, 0, none⟩)] w fun e w' => e = .returned (.tuple #[]) ∧ Own E w' (Hp.writer b .nilIface (l ++ iBytes x) :: L) := by
  have h1 : Own E (w.alloc (.cells (enIt x).toArray ITT)) (Hp.blk w.heap.size ITT (enIt x).toArray :: Hp.writer b .nilIface l :: L) := h.alloc _
  obtain ⟨g, hg⟩ : ∃ g, g = w.heap.size := ⟨_, rfl⟩
  obtain ⟨w1, hw1⟩ : ∃ v, v = w.alloc (.cells (enIt x).toArray ITT) := ⟨_, rfl⟩
  rw [← hg, ← hw1] at h1
  have hq3 := pickN_lt x.kind 3 (by omega)
  have hnum := iNum_lt x hx.n
  have hsz := iSize_ok x
  have HN := Lib.hid hnum
  have HS := Lib.hid hsz
  obtain ⟨q, hq⟩ : ∃ q, q = pickN x.kind 3 := ⟨_, rfl⟩
  have HQ := Lib.hid hq
  rw [← hq] at hq3
  have hkq : iKind x = q := by unfold iKind; rw [hq]
  have HL := Lib.hid hl
  clear hnum hsz hl hq h
  have HR : Hid (∀ w' l, Own E w' (Hp.blk g ITT (enIt x).toArray :: Hp.writer b .nilIface l :: L) → w'.rangeAt g 0 (enIt x)) := Lib.hid fun w' l hw => hw.range 0 (enIt x) (fun j u hu => by simpa using hu)
  have HC : Hid (∀ w' l, Own E w' (Hp.blk g ITT (enIt x).toArray :: Hp.writer b .nilIface l :: L) → w'.cell? ⟨g, 4, none⟩ = some (.string x.s)) := Lib.hid fun w' l hw => hw.cell 4
  have H1 := Lib.hid h1
  rcases (by omega : q = 0 ∨ q = 1 ∨ q = 2) with rfl | rfl | rfl
  · have hb : iBytes x = byN (iSize x) (iNum x) := by unfold iBytes; rw [if_pos hkq]
    rw [hb]
    clear hb hkq h1
    go_enter Tryd.func36, Tryd.ntmps36
    go_wp2_with fail
    rw [← hg, ← hw1]
    clear hg hw1
    refine (pick_any x.kind 3 _ hx.kind (by omega) (by omega)).mono ?_
    rintro e w2 ⟨rfl, rfl⟩
    rw [← HQ.out]
    go_wp2_with fail
    refine wp_region_text [1, 3] (fun w' => w'.rangeAt g 0 (enIt x)) (by kernel_rfl) ?_ (fun hS => ?_)
    · exact HR.out _ _ H1.out.drew
    refine wpAnyG_pure (i := 0) (oi := ⟨some 13, _, _, _, _, _⟩) (v := ?_) rfl (by kernel_rfl) (by kernel_rfl) (by kernel_rfl) (by rfl) (fun _ _ _ h => h) (by rfl) ?_ ?_
    rotate_left
    · intro w
      go_simp
      first | done | with_reducible rfl
    try simp only [Act.put, List.setIfInBounds_toArray, List.set_cons_zero, List.set_cons_succ]
    refine wpAnyG_load (i := 1) (oi := ⟨some 14, _, _, _, _, _⟩) (v := (itV x)) rfl (by kernel_rfl) (by kernel_rfl) (by kernel_rfl) (by rfl) (fun _ _ _ h => h) (by rfl) ?_ (by assumption) ?_
    · intro w hS
      exact exec_load_mid ITT (.tmp 2) rfl g 0 (by rfl) (enIt x) _ hS Tryd.underlying57 rfl (by kernel_rfl)
    try simp only [Act.put, List.setIfInBounds_toArray, List.set_cons_zero, List.set_cons_succ]
    refine wpAnyG_load (i := 3) (oi := ⟨some 16, _, _, _, _, _⟩) (v := (itV x)) rfl (by kernel_rfl) (by kernel_rfl) (by kernel_rfl) (by rfl) (fun _ _ _ h => h) (by rfl) ?_ (by assumption) ?_
    · intro w hS
      exact exec_load_mid ITT (.tmp 2) rfl g 0 (by rfl) (enIt x) _ hS Tryd.underlying57 rfl (by kernel_rfl)
    try simp only [Act.put, List.setIfInBounds_toArray, List.set_cons_zero, List.set_cons_succ]
    refine wpAnyG_keep (i := 2) (oi := ⟨some 15, _, _, _, _, _⟩) (by kernel_rfl) rfl (fun K hK => ?_)
    rw [if_pos (by rfl)]
    go_simp
    refine (isize_any x _ hx H1.out.drew).mono ?_
    rintro e w3 ⟨rfl, h2⟩
    refine hK.out _ _ ?_ (fun hS => ?_)
    · exact HR.out _ _ h2
    clear hK K
    try simp only [Act.put, List.setIfInBounds_toArray, List.set_cons_zero, List.set_cons_succ]
    refine wpAnyG_keep (i := 4) (oi := ⟨some 17, _, _, _, _, _⟩) (by kernel_rfl) rfl (fun K hK => ?_)
    rw [if_pos (by rfl)]
    go_simp
    refine (inum_any x _ hx h2).mono ?_
    rintro e w4 ⟨rfl, h3⟩
    refine hK.out _ _ ?_ (fun hS => ?_)
    · exact HR.out _ _ h3
    clear hK K
    try simp only [Act.put, List.setIfInBounds_toArray, List.set_cons_zero, List.set_cons_succ]
    refine wpAnyG_keep (i := 5) (oi := ⟨some 18, _, _, _, _, _⟩) (by kernel_rfl) rfl (fun K hK => ?_)
    rw [if_pos (by rfl)]
    go_simp
    refine (wnum_any b .nilIface l (iSize x) (iNum x) _ HS.out.1 HS.out.2 HN.out.1 HN.out.2 (by have := HL.out; omega) h3.f1).mono ?_
    rintro e w5 ⟨rfl, h4⟩
    refine hK.out _ _ ?_ (fun hS => ?_)
    · exact HR.out _ _ h4.f1
    clear hK K
    try simp only [Act.put, List.setIfInBounds_toArray, List.set_cons_zero, List.set_cons_succ]
    refine wpAnyG_done (by kernel_rfl) ?_ _
    refine NoPanic.normal ?_
    go_wp2_with fail
    go_end0
    exact ⟨rfl, h4.f1.drop⟩
  · have hb : iBytes x = byN (ahead (iMost x)) (iCut x).size ++ (iCut x).data.toList := by unfold iBytes; rw [if_neg (by omega), if_pos hkq]
    rw [hb, ← List.append_assoc]
    have HCC := Lib.hid (HC.out _ _ h1)
    clear hb hkq h1
    by_cases hbig : 65535 < x.s.size
    · have i1 : (65535 : Int) < x.s.size := by omega
      have i2 : (65535 : Int) ≤ x.s.size := by omega
      have hcut := iCut_big x hbig
      have HCUT := Lib.hid hcut
      clear hcut hbig
      go_enter Tryd.func36, Tryd.ntmps36
      go_wp2_with fail
      rw [← hg, ← hw1]
      clear hg hw1
      refine (pick_any x.kind 3 _ hx.kind (by omega) (by omega)).mono ?_
      rintro e w2 ⟨rfl, rfl⟩
      rw [← HQ.out]
      go_wp2_with fail
      refine wp_region_text [1, 4, 6] (fun w' => w'.rangeAt g 0 (enIt x) ∧ w'.cell? ⟨g, 4, none⟩ = some (.string x.s)) (by kernel_rfl) ?_ (fun hS => ?_)
      · exact ⟨HR.out _ _ H1.out.drew, HC.out _ _ H1.out.drew⟩
      refine wpAnyG_pure (i := 0) (oi := ⟨some 21, _, _, _, _, _⟩) (v := ?_) rfl (by kernel_rfl) (by kernel_rfl) (by kernel_rfl) (by rfl) (fun _ _ _ h => h) (by rfl) ?_ ?_
      rotate_left
      · intro w
        go_simp
        first | done | with_reducible rfl
      try simp only [Act.put, List.setIfInBounds_toArray, List.set_cons_zero, List.set_cons_succ]
      refine wpAnyG_load (i := 1) (oi := ⟨some 22, _, _, _, _, _⟩) (v := (itV x)) rfl (by kernel_rfl) (by kernel_rfl) (by kernel_rfl) (by rfl) (fun _ _ _ h => h) (by rfl) ?_ (by assumption) ?_
      · intro w hS
        exact exec_load_mid ITT (.tmp 2) rfl g 0 (by rfl) (enIt x) _ hS.1 Tryd.underlying57 rfl (by kernel_rfl)
      try simp only [Act.put, List.setIfInBounds_toArray, List.set_cons_zero, List.set_cons_succ]
      refine wpAnyG_pure (i := 3) (oi := ⟨some 24, _, _, _, _, _⟩) (v := ?_) rfl (by kernel_rfl) (by kernel_rfl) (by kernel_rfl) (by rfl) (fun _ _ _ h => h) (by rfl) ?_ ?_
      rotate_left
      · intro w
        go_simp
        first | done | with_reducible rfl
      try simp only [Act.put, List.setIfInBounds_toArray, List.set_cons_zero, List.set_cons_succ]
      refine wpAnyG_load (i := 4) (oi := ⟨some 25, _, _, _, _, _⟩) (v := ?_) rfl (by kernel_rfl) (by kernel_rfl) (by kernel_rfl) (by rfl) (fun _ _ _ h => h) (by rfl) ?_ (by assumption) ?_
      rotate_left
      · intro w hS
        try dsimp only at hS
        go_simp
        first | done | with_reducible rfl
      try simp only [Act.put, List.setIfInBounds_toArray, List.set_cons_zero, List.set_cons_succ]
      refine wpAnyG_pure (i := 5) (oi := ⟨some 26, _, _, _, _, _⟩) (v := ?_) rfl (by kernel_rfl) (by kernel_rfl) (by kernel_rfl) (by rfl) (fun _ _ _ h => h) (by rfl) ?_ ?_
      rotate_left
      · intro w
        go_simp
        first | done | with_reducible rfl
      try simp only [Act.put, List.setIfInBounds_toArray, List.set_cons_zero, List.set_cons_succ]
      refine wpAnyG_load (i := 6) (oi := ⟨some 27, _, _, _, _, _⟩) (v := ?_) rfl (by kernel_rfl) (by kernel_rfl) (by kernel_rfl) (by rfl) (fun _ _ _ h => h) (by rfl) ?_ (by assumption) ?_
      rotate_left
      · intro w hS
        try dsimp only at hS
        go_simp
        first | done | with_reducible rfl
      try simp only [Act.put, List.setIfInBounds_toArray, List.set_cons_zero, List.set_cons_succ]
      refine wpAnyG_pure (i := 7) (oi := ⟨some 28, _, _, _, _, _⟩) (v := ?_) rfl (by kernel_rfl) (by kernel_rfl) (by kernel_rfl) (by rfl) (fun _ _ _ h => h) (by rfl) ?_ ?_
      rotate_left
      · intro w
        go_simp
        first | done | with_reducible rfl
      try simp only [Act.put, List.setIfInBounds_toArray, List.set_cons_zero, List.set_cons_succ]
      refine wpAnyG_pure (i := 8) (oi := ⟨some 29, _, _, _, _, _⟩) (v := ?_) rfl (by kernel_rfl) (by kernel_rfl) (by kernel_rfl) (by rfl) (fun _ _ _ h => h) (by rfl) ?_ ?_
      rotate_left
      · intro w
        go_simp
        first | done | with_reducible rfl
      try simp only [Act.put, List.setIfInBounds_toArray, List.set_cons_zero, List.set_cons_succ]
      refine wpAnyG_pure (i := 9) (oi := ⟨some 30, _, _, _, _, _⟩) (v := ?_) rfl (by kernel_rfl) (by kernel_rfl) (by kernel_rfl) (by rfl) (fun _ _ _ h => h) (by rfl) ?_ ?_
      rotate_left
      · intro w
        go_simp
        first | done | with_reducible rfl
      try simp only [Act.put, List.setIfInBounds_toArray, List.set_cons_zero, List.set_cons_succ]
      refine wpAnyG_keep (i := 2) (oi := ⟨some 23, _, _, _, _, _⟩) (by kernel_rfl) rfl (fun K hK => ?_)
      rw [if_pos (by rfl)]
      go_simp
      refine (imost_any x _ hx H1.out.drew).mono ?_
      rintro e w3 ⟨rfl, h2⟩
      refine hK.out _ _ ?_ (fun hS => ?_)
      · exact ⟨HR.out _ _ h2, HC.out _ _ h2⟩
      clear hK K
      try simp only [Act.put, List.setIfInBounds_toArray, List.set_cons_zero, List.set_cons_succ]
      refine wpAnyG_keep (i := 10) (oi := ⟨some 31, _, _, _, _, _⟩) (by kernel_rfl) rfl (fun K hK => ?_)
      rw [if_pos (by rfl)]
      go_simp
      rw [HCUT.out]
      refine (wtext_any b .nilIface l (iMost x) (iCut x) _ (iMost_ok x) (iCut_most x) (by have := HL.out; omega) h2.f1).mono ?_
      rintro e w5 ⟨rfl, h4⟩
      refine hK.out _ _ ?_ (fun hS => ?_)
      · exact ⟨HR.out _ _ h4.f1, HC.out _ _ h4.f1⟩
      clear hK K
      try simp only [Act.put, List.setIfInBounds_toArray, List.set_cons_zero, List.set_cons_succ]
      refine wpAnyG_done (by kernel_rfl) ?_ _
      refine NoPanic.normal ?_
      go_wp2_with fail
      go_end0
      exact ⟨rfl, h4.f1.drop⟩
    · have i1 : (if (65535 : Int) < (x.s.size : Int) then 65535 else (x.s.size : Int)) = (x.s.size : Int) := if_neg (by omega)
      have hcut := iCut_all x hbig
      have hms := iCut_most x
      rw [hcut] at hms ⊢
      have HMS := Lib.hid hms
      clear hcut hbig hms
      go_enter Tryd.func36, Tryd.ntmps36
      go_wp2_with fail
      rw [← hg, ← hw1]
      clear hg hw1
      refine (pick_any x.kind 3 _ hx.kind (by omega) (by omega)).mono ?_
      rintro e w2 ⟨rfl, rfl⟩
      rw [← HQ.out]
      go_wp2_with fail
      refine wp_region_text [1, 4, 6] (fun w' => w'.rangeAt g 0 (enIt x) ∧ w'.cell? ⟨g, 4, none⟩ = some (.string x.s)) (by kernel_rfl) ?_ (fun hS => ?_)
      · exact ⟨HR.out _ _ H1.out.drew, HC.out _ _ H1.out.drew⟩
      refine wpAnyG_pure (i := 0) (oi := ⟨some 21, _, _, _, _, _⟩) (v := ?_) rfl (by kernel_rfl) (by kernel_rfl) (by kernel_rfl) (by rfl) (fun _ _ _ h => h) (by rfl) ?_ ?_
      rotate_left
      · intro w
        go_simp
        first | done | with_reducible rfl
      try simp only [Act.put, List.setIfInBounds_toArray, List.set_cons_zero, List.set_cons_succ]
      refine wpAnyG_load (i := 1) (oi := ⟨some 22, _, _, _, _, _⟩) (v := (itV x)) rfl (by kernel_rfl) (by kernel_rfl) (by kernel_rfl) (by rfl) (fun _ _ _ h => h) (by rfl) ?_ (by assumption) ?_
      · intro w hS
        exact exec_load_mid ITT (.tmp 2) rfl g 0 (by rfl) (enIt x) _ hS.1 Tryd.underlying57 rfl (by kernel_rfl)
      try simp only [Act.put, List.setIfInBounds_toArray, List.set_cons_zero, List.set_cons_succ]
      refine wpAnyG_pure (i := 3) (oi := ⟨some 24, _, _, _, _, _⟩) (v := ?_) rfl (by kernel_rfl) (by kernel_rfl) (by kernel_rfl) (by rfl) (fun _ _ _ h => h) (by rfl) ?_ ?_
      rotate_left
      · intro w
        go_simp
        first | done | with_reducible rfl
      try simp only [Act.put, List.setIfInBounds_toArray, List.set_cons_zero, List.set_cons_succ]
      refine wpAnyG_load (i := 4) (oi := ⟨some 25, _, _, _, _, _⟩) (v := ?_) rfl (by kernel_rfl) (by kernel_rfl) (by kernel_rfl) (by rfl) (fun _ _ _ h => h) (by rfl) ?_ (by assumption) ?_
      rotate_left
      · intro w hS
        try dsimp only at hS
        go_simp
        first | done | with_reducible rfl
      try simp only [Act.put, List.setIfInBounds_toArray, List.set_cons_zero, List.set_cons_succ]
      refine wpAnyG_pure (i := 5) (oi := ⟨some 26, _, _, _, _, _⟩) (v := ?_) rfl (by kernel_rfl) (by kernel_rfl) (by kernel_rfl) (by rfl) (fun _ _ _ h => h) (by rfl) ?_ ?_
      rotate_left
      · intro w
        go_simp
        first | done | with_reducible rfl
      try simp only [Act.put, List.setIfInBounds_toArray, List.set_cons_zero, List.set_cons_succ]
      refine wpAnyG_load (i := 6) (oi := ⟨some 27, _, _, _, _, _⟩) (v := ?_) rfl (by kernel_rfl) (by kernel_rfl) (by kernel_rfl) (by rfl) (fun _ _ _ h => h) (by rfl) ?_ (by assumption) ?_
      rotate_left
      · intro w hS
        try dsimp only at hS
        go_simp
        first | done | with_reducible rfl
      try simp only [Act.put, List.setIfInBounds_toArray, List.set_cons_zero, List.set_cons_succ]
      refine wpAnyG_pure (i := 7) (oi := ⟨some 28, _, _, _, _, _⟩) (v := ?_) rfl (by kernel_rfl) (by kernel_rfl) (by kernel_rfl) (by rfl) (fun _ _ _ h => h) (by rfl) ?_ ?_
      rotate_left
      · intro w
        go_simp
        first | done | with_reducible rfl
      try simp only [Act.put, List.setIfInBounds_toArray, List.set_cons_zero, List.set_cons_succ]
      refine wpAnyG_pure (i := 8) (oi := ⟨some 29, _, _, _, _, _⟩) (v := ?_) rfl (by kernel_rfl) (by kernel_rfl) (by kernel_rfl) (by rfl) (fun _ _ _ h => h) (by rfl) ?_ ?_
      rotate_left
      · intro w
        go_simp
        first | done | with_reducible rfl
      try simp only [Act.put, List.setIfInBounds_toArray, List.set_cons_zero, List.set_cons_succ]
      refine wpAnyG_pure (i := 9) (oi := ⟨some 30, _, _, _, _, _⟩) (v := ?_) rfl (by kernel_rfl) (by kernel_rfl) (by kernel_rfl) (by rfl) (fun _ _ _ h => h) (by rfl) ?_ ?_
      rotate_left
      · intro w
        go_simp
        first | done | with_reducible rfl
      try simp only [Act.put, List.setIfInBounds_toArray, List.set_cons_zero, List.set_cons_succ]
      refine wpAnyG_keep (i := 2) (oi := ⟨some 23, _, _, _, _, _⟩) (by kernel_rfl) rfl (fun K hK => ?_)
      rw [if_pos (by rfl)]
      go_simp
      refine (imost_any x _ hx H1.out.drew).mono ?_
      rintro e w3 ⟨rfl, h2⟩
      refine hK.out _ _ ?_ (fun hS => ?_)
      · exact ⟨HR.out _ _ h2, HC.out _ _ h2⟩
      clear hK K
      try simp only [Act.put, List.setIfInBounds_toArray, List.set_cons_zero, List.set_cons_succ]
      refine wpAnyG_keep (i := 10) (oi := ⟨some 31, _, _, _, _, _⟩) (by kernel_rfl) rfl (fun K hK => ?_)
      rw [if_pos (by rfl)]
      go_simp
      refine (wtext_any b .nilIface l (iMost x) x.s _ (iMost_ok x) HMS.out (by have := HL.out; omega) h2.f1).mono ?_
      rintro e w5 ⟨rfl, h4⟩
      refine hK.out _ _ ?_ (fun hS => ?_)
      · exact ⟨HR.out _ _ h4.f1, HC.out _ _ h4.f1⟩
      clear hK K
      try simp only [Act.put, List.setIfInBounds_toArray, List.set_cons_zero, List.set_cons_succ]
      refine wpAnyG_done (by kernel_rfl) ?_ _
      refine NoPanic.normal ?_
      go_wp2_with fail
      go_end0
      exact ⟨rfl, h4.f1.drop⟩
  · have hb : iBytes x = x.s.data.toList := by unfold iBytes; rw [if_neg (by omega), if_neg (by omega)]
    rw [hb]
    have c4 := HC.out _ _ h1
    clear hb hkq h1
    go_enter Tryd.func36, Tryd.ntmps36
    go_wp2_with fail
    rw [← hg, ← hw1]
    clear hg hw1
    refine (pick_any x.kind 3 _ hx.kind (by omega) (by omega)).mono ?_
    rintro e w2 ⟨rfl, rfl⟩
    rw [← HQ.out]
    go_wp2_with fail
    refine (raw_any b .nilIface l x.s _ (by have := HL.out; omega) H1.out.f1).mono ?_
    rintro e w5 ⟨rfl, h4⟩
    go_wp2_with fail
    go_end0
    exact ⟨rfl, h4.f1.drop⟩
end
end Go.Proofs.YtokephnlelpjhaaDoor
