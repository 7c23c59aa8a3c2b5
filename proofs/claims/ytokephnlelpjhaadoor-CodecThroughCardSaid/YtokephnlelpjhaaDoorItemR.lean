/- Items: read. -/
import Derived.Test.YtokephnlelpjhaaDoorItemW
namespace Go.Proofs.YtokephnlelpjhaaDoor
open Go.RowKit
section
variable {E : World} {L : List Hp}
theorem str_same (a b : ByteArray) (h : a = b) : (a.toList == b.toList) = true := by subst h; exact beq_self_eq_true _
set_option maxRecDepth 20000 in
set_option maxHeartbeats 2000000 in
theorem reads_any (x : It) (b : Nat) (s : ByteArray) (e : Int) (s' : ByteArray) (e' : Int) (w : World) (hx : ItOk x) (hn : iNext x s e = (s', e')) (hsz : s.size ≤ 1000000000000) (h : Own E w (Hp.rdr b s e :: L)) :
    Calls Tryd.prog 37 #[itV x, .pointer (some ⟨b, 0, none⟩)] w fun ev w' => ∃ bb : Bool, ev = .returned (.bool bb) ∧ (iSame x s e → bb = true) ∧ Own E w' (Hp.rdr b s' e' :: L) := by
  have h1 : Own E (w.alloc (.cells (enIt x).toArray ITT)) (Hp.blk w.heap.size ITT (enIt x).toArray :: Hp.rdr b s e :: L) := h.alloc _
  obtain ⟨g, hg⟩ : ∃ g, g = w.heap.size := ⟨_, rfl⟩
  obtain ⟨w1, hw1⟩ : ∃ v, v = w.alloc (.cells (enIt x).toArray ITT) := ⟨_, rfl⟩
  rw [← hg, ← hw1] at h1
  have hq3 := pickN_lt x.kind 3 (by omega)
  obtain ⟨q, hq⟩ : ∃ q, q = pickN x.kind 3 := ⟨_, rfl⟩
  have HQ := Lib.hid hq
  rw [← hq] at hq3
  have hkq : iKind x = q := by unfold iKind; rw [hq]
  have HZ := Lib.hid hsz
  clear hq h hsz
  have HR : Hid (∀ w' s e, Own E w' (Hp.blk g ITT (enIt x).toArray :: Hp.rdr b s e :: L) → w'.rangeAt g 0 (enIt x) ∧ w'.cell? ⟨g, 4, none⟩ = some (.string x.s)) := Lib.hid fun w' s e hw => ⟨hw.range 0 (enIt x) (fun j u hu => by simpa using hu), hw.cell 4⟩
  have H1 := Lib.hid h1
  rcases (by omega : q = 0 ∨ q = 1 ∨ q = 2) with rfl | rfl | rfl
  · obtain ⟨v, t, f, hr⟩ : ∃ v t f, rNum s e (iSize x) = (v, t, f) := ⟨_, _, _, rfl⟩
    unfold iNext at hn
    rw [if_pos hkq, hr] at hn
    cases hn
    have HI : Hid (iSame x s e → v = iNum x) := Lib.hid fun hs => by
      unfold iSame at hs
      rw [if_pos hkq, hr] at hs
      exact hs
    have HRR := Lib.hid hr
    clear hkq h1 hr
    go_enter Tryd.func37, Tryd.ntmps37
    go_wp2_with fail
    rw [← hg, ← hw1]
    clear hg hw1
    refine (pick_any x.kind 3 _ hx.kind (by omega) (by omega)).mono ?_
    rintro e w2 ⟨rfl, rfl⟩
    rw [← HQ.out]
    go_wp2_with fail
    refine wp_region_text [1, 4] (fun w' => w'.rangeAt g 0 (enIt x)) (by kernel_rfl) ?_ (fun hS => ?_)
    · exact (HR.out _ _ _ H1.out.drew).1
    refine wpAnyG_pure (i := 0) (oi := ⟨some 10, _, _, _, _, _⟩) (v := ?_) rfl (by kernel_rfl) (by kernel_rfl) (by kernel_rfl) (by rfl) (fun _ _ _ h => h) (by rfl) ?_ ?_
    rotate_left
    · intro w
      go_simp
      first | done | with_reducible rfl
    try simp only [Act.put, List.setIfInBounds_toArray, List.set_cons_zero, List.set_cons_succ]
    refine wpAnyG_load (i := 1) (oi := ⟨some 11, _, _, _, _, _⟩) (v := (itV x)) rfl (by kernel_rfl) (by kernel_rfl) (by kernel_rfl) (by rfl) (fun _ _ _ h => h) (by rfl) ?_ (by assumption) ?_
    · intro w hS
      exact exec_load_mid ITT (.tmp 2) rfl g 0 (by rfl) (enIt x) _ hS Tryd.underlying57 rfl (by kernel_rfl)
    try simp only [Act.put, List.setIfInBounds_toArray, List.set_cons_zero, List.set_cons_succ]
    refine wpAnyG_load (i := 4) (oi := ⟨some 14, _, _, _, _, _⟩) (v := (itV x)) rfl (by kernel_rfl) (by kernel_rfl) (by kernel_rfl) (by rfl) (fun _ _ _ h => h) (by rfl) ?_ (by assumption) ?_
    · intro w hS
      exact exec_load_mid ITT (.tmp 2) rfl g 0 (by rfl) (enIt x) _ hS Tryd.underlying57 rfl (by kernel_rfl)
    try simp only [Act.put, List.setIfInBounds_toArray, List.set_cons_zero, List.set_cons_succ]
    refine wpAnyG_keep (i := 2) (oi := ⟨some 12, _, _, _, _, _⟩) (by kernel_rfl) rfl (fun K hK => ?_)
    rw [if_pos (by rfl)]
    go_simp
    refine (isize_any x _ hx H1.out.drew).mono ?_
    rintro e w3 ⟨rfl, h2⟩
    refine hK.out _ _ ?_ (fun hS => ?_)
    · exact (HR.out _ _ _ h2).1
    clear hK K
    try simp only [Act.put, List.setIfInBounds_toArray, List.set_cons_zero, List.set_cons_succ]
    refine wpAnyG_keep (i := 3) (oi := ⟨some 13, _, _, _, _, _⟩) (by kernel_rfl) rfl (fun K hK => ?_)
    rw [if_pos (by rfl)]
    go_simp
    refine (rnum_all b s _ (iSize x) v s' e' _ HRR.out h2.f1).mono ?_
    rintro e w4 ⟨rfl, h3⟩
    refine hK.out _ _ ?_ (fun hS => ?_)
    · exact (HR.out _ _ _ h3.f1).1
    clear hK K
    try simp only [Act.put, List.setIfInBounds_toArray, List.set_cons_zero, List.set_cons_succ]
    refine wpAnyG_keep (i := 5) (oi := ⟨some 15, _, _, _, _, _⟩) (by kernel_rfl) rfl (fun K hK => ?_)
    rw [if_pos (by rfl)]
    go_simp
    refine (inum_any x _ hx h3).mono ?_
    rintro e w4 ⟨rfl, h4⟩
    refine hK.out _ _ ?_ (fun hS => ?_)
    · exact (HR.out _ _ _ h4.f1).1
    clear hK K
    try simp only [Act.put, List.setIfInBounds_toArray, List.set_cons_zero, List.set_cons_succ]
    refine wpAnyG_pure (i := 6) (oi := ⟨some 16, _, _, _, _, _⟩) (v := ?_) rfl (by kernel_rfl) (by kernel_rfl) (by kernel_rfl) (by rfl) (fun _ _ _ h => h) (by rfl) ?_ ?_
    rotate_left
    · intro w
      go_simp
      first | done | with_reducible rfl
    try simp only [Act.put, List.setIfInBounds_toArray, List.set_cons_zero, List.set_cons_succ]
    refine wpAnyG_pure (i := 7) (oi := ⟨some 4, _, _, _, _, _⟩) (v := ?_) rfl (by kernel_rfl) (by kernel_rfl) (by kernel_rfl) (by rfl) (fun _ _ _ h => h) (by rfl) ?_ ?_
    rotate_left
    · intro w
      go_simp
      first | done | with_reducible rfl
    try simp only [Act.put, List.setIfInBounds_toArray, List.set_cons_zero, List.set_cons_succ]
    refine wpAnyG_done (by kernel_rfl) ?_ _
    refine NoPanic.normal ?_
    go_wp2_with fail
    go_ret
    exact ⟨_, rfl, fun hs => by simpa using HI.out hs, h4.f1.drop⟩
  · obtain ⟨v, t, f, hr⟩ : ∃ v t f, rText s e (iMost x) = (v, t, f) := ⟨_, _, _, rfl⟩
    unfold iNext at hn
    rw [if_neg (by omega), if_pos hkq, hr] at hn
    cases hn
    by_cases hbig : 65535 < x.s.size
    · have i1 : (65535 : Int) < x.s.size := by omega
      have i2 : (65535 : Int) ≤ x.s.size := by omega
      have hcut := iCut_big x hbig
      have HI : Hid (iSame x s e → v = x.s.extract 0 65535) := Lib.hid fun hs => by
        unfold iSame at hs
        rw [if_neg (by omega), if_pos hkq, hr] at hs
        rw [hcut]
        exact hs
      have HRR := Lib.hid hr
      clear hkq h1 hr hcut hbig
      go_enter Tryd.func37, Tryd.ntmps37
      go_wp2_with fail
      rw [← hg, ← hw1]
      clear hg hw1
      refine (pick_any x.kind 3 _ hx.kind (by omega) (by omega)).mono ?_
      rintro e w2 ⟨rfl, rfl⟩
      rw [← HQ.out]
      go_wp2_with fail
      refine wp_region_text [1, 5, 7] (fun w' => w'.rangeAt g 0 (enIt x) ∧ w'.cell? ⟨g, 4, none⟩ = some (.string x.s)) (by kernel_rfl) ?_ (fun hS => ?_)
      · exact HR.out _ _ _ H1.out.drew
      refine wpAnyG_pure (i := 0) (oi := ⟨some 19, _, _, _, _, _⟩) (v := ?_) rfl (by kernel_rfl) (by kernel_rfl) (by kernel_rfl) (by rfl) (fun _ _ _ h => h) (by rfl) ?_ ?_
      rotate_left
      · intro w
        go_simp
        first | done | with_reducible rfl
      try simp only [Act.put, List.setIfInBounds_toArray, List.set_cons_zero, List.set_cons_succ]
      refine wpAnyG_load (i := 1) (oi := ⟨some 20, _, _, _, _, _⟩) (v := (itV x)) rfl (by kernel_rfl) (by kernel_rfl) (by kernel_rfl) (by rfl) (fun _ _ _ h => h) (by rfl) ?_ (by assumption) ?_
      · intro w hS
        exact exec_load_mid ITT (.tmp 2) rfl g 0 (by rfl) (enIt x) _ hS.1 Tryd.underlying57 rfl (by kernel_rfl)
      try simp only [Act.put, List.setIfInBounds_toArray, List.set_cons_zero, List.set_cons_succ]
      refine wpAnyG_pure (i := 4) (oi := ⟨some 23, _, _, _, _, _⟩) (v := ?_) rfl (by kernel_rfl) (by kernel_rfl) (by kernel_rfl) (by rfl) (fun _ _ _ h => h) (by rfl) ?_ ?_
      rotate_left
      · intro w
        go_simp
        first | done | with_reducible rfl
      try simp only [Act.put, List.setIfInBounds_toArray, List.set_cons_zero, List.set_cons_succ]
      refine wpAnyG_load (i := 5) (oi := ⟨some 24, _, _, _, _, _⟩) (v := ?_) rfl (by kernel_rfl) (by kernel_rfl) (by kernel_rfl) (by rfl) (fun _ _ _ h => h) (by rfl) ?_ (by assumption) ?_
      rotate_left
      · intro w hS
        try dsimp only at hS
        go_simp
        first | done | with_reducible rfl
      try simp only [Act.put, List.setIfInBounds_toArray, List.set_cons_zero, List.set_cons_succ]
      refine wpAnyG_pure (i := 6) (oi := ⟨some 25, _, _, _, _, _⟩) (v := ?_) rfl (by kernel_rfl) (by kernel_rfl) (by kernel_rfl) (by rfl) (fun _ _ _ h => h) (by rfl) ?_ ?_
      rotate_left
      · intro w
        go_simp
        first | done | with_reducible rfl
      try simp only [Act.put, List.setIfInBounds_toArray, List.set_cons_zero, List.set_cons_succ]
      refine wpAnyG_load (i := 7) (oi := ⟨some 26, _, _, _, _, _⟩) (v := ?_) rfl (by kernel_rfl) (by kernel_rfl) (by kernel_rfl) (by rfl) (fun _ _ _ h => h) (by rfl) ?_ (by assumption) ?_
      rotate_left
      · intro w hS
        try dsimp only at hS
        go_simp
        first | done | with_reducible rfl
      try simp only [Act.put, List.setIfInBounds_toArray, List.set_cons_zero, List.set_cons_succ]
      refine wpAnyG_pure (i := 8) (oi := ⟨some 27, _, _, _, _, _⟩) (v := ?_) rfl (by kernel_rfl) (by kernel_rfl) (by kernel_rfl) (by rfl) (fun _ _ _ h => h) (by rfl) ?_ ?_
      rotate_left
      · intro w
        go_simp
        first | done | with_reducible rfl
      try simp only [Act.put, List.setIfInBounds_toArray, List.set_cons_zero, List.set_cons_succ]
      refine wpAnyG_pure (i := 9) (oi := ⟨some 28, _, _, _, _, _⟩) (v := ?_) rfl (by kernel_rfl) (by kernel_rfl) (by kernel_rfl) (by rfl) (fun _ _ _ h => h) (by rfl) ?_ ?_
      rotate_left
      · intro w
        go_simp
        first | done | with_reducible rfl
      try simp only [Act.put, List.setIfInBounds_toArray, List.set_cons_zero, List.set_cons_succ]
      refine wpAnyG_pure (i := 10) (oi := ⟨some 29, _, _, _, _, _⟩) (v := ?_) rfl (by kernel_rfl) (by kernel_rfl) (by kernel_rfl) (by rfl) (fun _ _ _ h => h) (by rfl) ?_ ?_
      rotate_left
      · intro w
        go_simp
        first | done | with_reducible rfl
      try simp only [Act.put, List.setIfInBounds_toArray, List.set_cons_zero, List.set_cons_succ]
      refine wpAnyG_keep (i := 2) (oi := ⟨some 21, _, _, _, _, _⟩) (by kernel_rfl) rfl (fun K hK => ?_)
      rw [if_pos (by rfl)]
      go_simp
      refine (imost_any x _ hx H1.out.drew).mono ?_
      rintro e w3 ⟨rfl, h2⟩
      refine hK.out _ _ ?_ (fun hS => ?_)
      · exact HR.out _ _ _ h2
      clear hK K
      try simp only [Act.put, List.setIfInBounds_toArray, List.set_cons_zero, List.set_cons_succ]
      refine wpAnyG_keep (i := 3) (oi := ⟨some 22, _, _, _, _, _⟩) (by kernel_rfl) rfl (fun K hK => ?_)
      rw [if_pos (by rfl)]
      go_simp
      refine (rtext_all b s _ (iMost x) v s' e' _ HRR.out HZ.out h2.f1).mono ?_
      rintro e w4 ⟨rfl, h3⟩
      refine hK.out _ _ ?_ (fun hS => ?_)
      · exact HR.out _ _ _ h3.f1
      clear hK K
      try simp only [Act.put, List.setIfInBounds_toArray, List.set_cons_zero, List.set_cons_succ]
      refine wpAnyG_pure (i := 11) (oi := ⟨some 30, _, _, _, _, _⟩) (v := ?_) rfl (by kernel_rfl) (by kernel_rfl) (by kernel_rfl) (by rfl) (fun _ _ _ h => h) (by rfl) ?_ ?_
      rotate_left
      · intro w
        go_simp
        first | done | with_reducible rfl
      try simp only [Act.put, List.setIfInBounds_toArray, List.set_cons_zero, List.set_cons_succ]
      refine wpAnyG_pure (i := 12) (oi := ⟨some 4, _, _, _, _, _⟩) (v := ?_) rfl (by kernel_rfl) (by kernel_rfl) (by kernel_rfl) (by rfl) (fun _ _ _ h => h) (by rfl) ?_ ?_
      rotate_left
      · intro w
        go_simp
        first | done | with_reducible rfl
      try simp only [Act.put, List.setIfInBounds_toArray, List.set_cons_zero, List.set_cons_succ]
      refine wpAnyG_done (by kernel_rfl) ?_ _
      refine NoPanic.normal ?_
      go_wp2_with fail
      go_ret
      exact ⟨_, rfl, fun hs => str_same _ _ (HI.out hs), h3.f1.drop⟩
    · have i1 : (if (65535 : Int) < (x.s.size : Int) then 65535 else (x.s.size : Int)) = (x.s.size : Int) := if_neg (by omega)
      have hcut := iCut_all x hbig
      have HI : Hid (iSame x s e → v = x.s) := Lib.hid fun hs => by
        unfold iSame at hs
        rw [if_neg (by omega), if_pos hkq, hr] at hs
        rw [← hcut]
        exact hs
      have HRR := Lib.hid hr
      clear hkq h1 hr hcut hbig
      go_enter Tryd.func37, Tryd.ntmps37
      go_wp2_with fail
      rw [← hg, ← hw1]
      clear hg hw1
      refine (pick_any x.kind 3 _ hx.kind (by omega) (by omega)).mono ?_
      rintro e w2 ⟨rfl, rfl⟩
      rw [← HQ.out]
      go_wp2_with fail
      refine wp_region_text [1, 5, 7] (fun w' => w'.rangeAt g 0 (enIt x) ∧ w'.cell? ⟨g, 4, none⟩ = some (.string x.s)) (by kernel_rfl) ?_ (fun hS => ?_)
      · exact HR.out _ _ _ H1.out.drew
      refine wpAnyG_pure (i := 0) (oi := ⟨some 19, _, _, _, _, _⟩) (v := ?_) rfl (by kernel_rfl) (by kernel_rfl) (by kernel_rfl) (by rfl) (fun _ _ _ h => h) (by rfl) ?_ ?_
      rotate_left
      · intro w
        go_simp
        first | done | with_reducible rfl
      try simp only [Act.put, List.setIfInBounds_toArray, List.set_cons_zero, List.set_cons_succ]
      refine wpAnyG_load (i := 1) (oi := ⟨some 20, _, _, _, _, _⟩) (v := (itV x)) rfl (by kernel_rfl) (by kernel_rfl) (by kernel_rfl) (by rfl) (fun _ _ _ h => h) (by rfl) ?_ (by assumption) ?_
      · intro w hS
        exact exec_load_mid ITT (.tmp 2) rfl g 0 (by rfl) (enIt x) _ hS.1 Tryd.underlying57 rfl (by kernel_rfl)
      try simp only [Act.put, List.setIfInBounds_toArray, List.set_cons_zero, List.set_cons_succ]
      refine wpAnyG_pure (i := 4) (oi := ⟨some 23, _, _, _, _, _⟩) (v := ?_) rfl (by kernel_rfl) (by kernel_rfl) (by kernel_rfl) (by rfl) (fun _ _ _ h => h) (by rfl) ?_ ?_
      rotate_left
      · intro w
        go_simp
        first | done | with_reducible rfl
      try simp only [Act.put, List.setIfInBounds_toArray, List.set_cons_zero, List.set_cons_succ]
      refine wpAnyG_load (i := 5) (oi := ⟨some 24, _, _, _, _, _⟩) (v := ?_) rfl (by kernel_rfl) (by kernel_rfl) (by kernel_rfl) (by rfl) (fun _ _ _ h => h) (by rfl) ?_ (by assumption) ?_
      rotate_left
      · intro w hS
        try dsimp only at hS
        go_simp
        first | done | with_reducible rfl
      try simp only [Act.put, List.setIfInBounds_toArray, List.set_cons_zero, List.set_cons_succ]
      refine wpAnyG_pure (i := 6) (oi := ⟨some 25, _, _, _, _, _⟩) (v := ?_) rfl (by kernel_rfl) (by kernel_rfl) (by kernel_rfl) (by rfl) (fun _ _ _ h => h) (by rfl) ?_ ?_
      rotate_left
      · intro w
        go_simp
        first | done | with_reducible rfl
      try simp only [Act.put, List.setIfInBounds_toArray, List.set_cons_zero, List.set_cons_succ]
      refine wpAnyG_load (i := 7) (oi := ⟨some 26, _, _, _, _, _⟩) (v := ?_) rfl (by kernel_rfl) (by kernel_rfl) (by kernel_rfl) (by rfl) (fun _ _ _ h => h) (by rfl) ?_ (by assumption) ?_
      rotate_left
      · intro w hS
        try dsimp only at hS
        go_simp
        first | done | with_reducible rfl
      try simp only [Act.put, List.setIfInBounds_toArray, List.set_cons_zero, List.set_cons_succ]
      refine wpAnyG_pure (i := 8) (oi := ⟨some 27, _, _, _, _, _⟩) (v := ?_) rfl (by kernel_rfl) (by kernel_rfl) (by kernel_rfl) (by rfl) (fun _ _ _ h => h) (by rfl) ?_ ?_
      rotate_left
      · intro w
        go_simp
        first | done | with_reducible rfl
      try simp only [Act.put, List.setIfInBounds_toArray, List.set_cons_zero, List.set_cons_succ]
      refine wpAnyG_pure (i := 9) (oi := ⟨some 28, _, _, _, _, _⟩) (v := ?_) rfl (by kernel_rfl) (by kernel_rfl) (by kernel_rfl) (by rfl) (fun _ _ _ h => h) (by rfl) ?_ ?_
      rotate_left
      · intro w
        go_simp
        first | done | with_reducible rfl
      try simp only [Act.put, List.setIfInBounds_toArray, List.set_cons_zero, List.set_cons_succ]
      refine wpAnyG_pure (i := 10) (oi := ⟨some 29, _, _, _, _, _⟩) (v := ?_) rfl (by kernel_rfl) (by kernel_rfl) (by kernel_rfl) (by rfl) (fun _ _ _ h => h) (by rfl) ?_ ?_
      rotate_left
      · intro w
        go_simp
        first | done | with_reducible rfl
      try simp only [Act.put, List.setIfInBounds_toArray, List.set_cons_zero, List.set_cons_succ]
      refine wpAnyG_keep (i := 2) (oi := ⟨some 21, _, _, _, _, _⟩) (by kernel_rfl) rfl (fun K hK => ?_)
      rw [if_pos (by rfl)]
      go_simp
      refine (imost_any x _ hx H1.out.drew).mono ?_
      rintro e w3 ⟨rfl, h2⟩
      refine hK.out _ _ ?_ (fun hS => ?_)
      · exact HR.out _ _ _ h2
      clear hK K
      try simp only [Act.put, List.setIfInBounds_toArray, List.set_cons_zero, List.set_cons_succ]
      refine wpAnyG_keep (i := 3) (oi := ⟨some 22, _, _, _, _, _⟩) (by kernel_rfl) rfl (fun K hK => ?_)
      rw [if_pos (by rfl)]
      go_simp
      refine (rtext_all b s _ (iMost x) v s' e' _ HRR.out HZ.out h2.f1).mono ?_
      rintro e w4 ⟨rfl, h3⟩
      refine hK.out _ _ ?_ (fun hS => ?_)
      · exact HR.out _ _ _ h3.f1
      clear hK K
      try simp only [Act.put, List.setIfInBounds_toArray, List.set_cons_zero, List.set_cons_succ]
      refine wpAnyG_pure (i := 11) (oi := ⟨some 30, _, _, _, _, _⟩) (v := ?_) rfl (by kernel_rfl) (by kernel_rfl) (by kernel_rfl) (by rfl) (fun _ _ _ h => h) (by rfl) ?_ ?_
      rotate_left
      · intro w
        go_simp
        first | done | with_reducible rfl
      try simp only [Act.put, List.setIfInBounds_toArray, List.set_cons_zero, List.set_cons_succ]
      refine wpAnyG_pure (i := 12) (oi := ⟨some 4, _, _, _, _, _⟩) (v := ?_) rfl (by kernel_rfl) (by kernel_rfl) (by kernel_rfl) (by rfl) (fun _ _ _ h => h) (by rfl) ?_ ?_
      rotate_left
      · intro w
        go_simp
        first | done | with_reducible rfl
      try simp only [Act.put, List.setIfInBounds_toArray, List.set_cons_zero, List.set_cons_succ]
      refine wpAnyG_done (by kernel_rfl) ?_ _
      refine NoPanic.normal ?_
      go_wp2_with fail
      go_ret
      exact ⟨_, rfl, fun hs => str_same _ _ (HI.out hs), h3.f1.drop⟩
  · obtain ⟨v, t, f, hr⟩ : ∃ v t f, rRaw s e x.s.size = (v, t, f) := ⟨_, _, _, rfl⟩
    unfold iNext at hn
    rw [if_neg (by omega), if_neg (by omega), hr] at hn
    cases hn
    have HI : Hid (iSame x s e → v = x.s) := Lib.hid fun hs => by
      unfold iSame at hs
      rw [if_neg (by omega), if_neg (by omega), hr] at hs
      exact hs
    have HRR := Lib.hid hr
    clear hkq h1 hr
    go_enter Tryd.func37, Tryd.ntmps37
    go_wp2_with fail
    rw [← hg, ← hw1]
    clear hg hw1
    refine (pick_any x.kind 3 _ hx.kind (by omega) (by omega)).mono ?_
    rintro e w2 ⟨rfl, rfl⟩
    rw [← HQ.out]
    go_wp2_with fail
    refine wp_region_text [2, 6] (fun w' => w'.cell? ⟨g, 4, none⟩ = some (.string x.s)) (by kernel_rfl) ?_ (fun hS => ?_)
    · exact (HR.out _ _ _ H1.out.drew).2
    refine wpAnyG_pure (i := 0) (oi := ⟨some 31, _, _, _, _, _⟩) (v := ?_) rfl (by kernel_rfl) (by kernel_rfl) (by kernel_rfl) (by rfl) (fun _ _ _ h => h) (by rfl) ?_ ?_
    rotate_left
    · intro w
      go_simp
      first | done | with_reducible rfl
    try simp only [Act.put, List.setIfInBounds_toArray, List.set_cons_zero, List.set_cons_succ]
    refine wpAnyG_pure (i := 1) (oi := ⟨some 32, _, _, _, _, _⟩) (v := ?_) rfl (by kernel_rfl) (by kernel_rfl) (by kernel_rfl) (by rfl) (fun _ _ _ h => h) (by rfl) ?_ ?_
    rotate_left
    · intro w
      go_simp
      first | done | with_reducible rfl
    try simp only [Act.put, List.setIfInBounds_toArray, List.set_cons_zero, List.set_cons_succ]
    refine wpAnyG_load (i := 2) (oi := ⟨some 33, _, _, _, _, _⟩) (v := ?_) rfl (by kernel_rfl) (by kernel_rfl) (by kernel_rfl) (by rfl) (fun _ _ _ h => h) (by rfl) ?_ (by assumption) ?_
    rotate_left
    · intro w hS
      try dsimp only at hS
      go_simp
      first | done | with_reducible rfl
    try simp only [Act.put, List.setIfInBounds_toArray, List.set_cons_zero, List.set_cons_succ]
    refine wpAnyG_pure (i := 3) (oi := ⟨some 34, _, _, _, _, _⟩) (v := ?_) rfl (by kernel_rfl) (by kernel_rfl) (by kernel_rfl) (by rfl) (fun _ _ _ h => h) (by rfl) ?_ ?_
    rotate_left
    · intro w
      go_simp
      first | done | with_reducible rfl
    try simp only [Act.put, List.setIfInBounds_toArray, List.set_cons_zero, List.set_cons_succ]
    refine wpAnyG_pure (i := 5) (oi := ⟨some 36, _, _, _, _, _⟩) (v := ?_) rfl (by kernel_rfl) (by kernel_rfl) (by kernel_rfl) (by rfl) (fun _ _ _ h => h) (by rfl) ?_ ?_
    rotate_left
    · intro w
      go_simp
      first | done | with_reducible rfl
    try simp only [Act.put, List.setIfInBounds_toArray, List.set_cons_zero, List.set_cons_succ]
    refine wpAnyG_load (i := 6) (oi := ⟨some 37, _, _, _, _, _⟩) (v := ?_) rfl (by kernel_rfl) (by kernel_rfl) (by kernel_rfl) (by rfl) (fun _ _ _ h => h) (by rfl) ?_ (by assumption) ?_
    rotate_left
    · intro w hS
      try dsimp only at hS
      go_simp
      first | done | with_reducible rfl
    try simp only [Act.put, List.setIfInBounds_toArray, List.set_cons_zero, List.set_cons_succ]
    refine wpAnyG_keep (i := 4) (oi := ⟨some 35, _, _, _, _, _⟩) (by kernel_rfl) rfl (fun K hK => ?_)
    rw [if_pos (by rfl)]
    go_simp
    refine (rraw_all b s _ x.s.size v s' e' _ HRR.out H1.out.drew.f1).mono ?_
    rintro e w4 ⟨rfl, h3⟩
    refine hK.out _ _ ?_ (fun hS => ?_)
    · exact (HR.out _ _ _ h3.f1).2
    clear hK K
    try simp only [Act.put, List.setIfInBounds_toArray, List.set_cons_zero, List.set_cons_succ]
    refine wpAnyG_pure (i := 7) (oi := ⟨some 38, _, _, _, _, _⟩) (v := ?_) rfl (by kernel_rfl) (by kernel_rfl) (by kernel_rfl) (by rfl) (fun _ _ _ h => h) (by rfl) ?_ ?_
    rotate_left
    · intro w
      go_simp
      first | done | with_reducible rfl
    try simp only [Act.put, List.setIfInBounds_toArray, List.set_cons_zero, List.set_cons_succ]
    refine wpAnyG_pure (i := 8) (oi := ⟨some 4, _, _, _, _, _⟩) (v := ?_) rfl (by kernel_rfl) (by kernel_rfl) (by kernel_rfl) (by rfl) (fun _ _ _ h => h) (by rfl) ?_ ?_
    rotate_left
    · intro w
      go_simp
      first | done | with_reducible rfl
    try simp only [Act.put, List.setIfInBounds_toArray, List.set_cons_zero, List.set_cons_succ]
    refine wpAnyG_done (by kernel_rfl) ?_ _
    refine NoPanic.normal ?_
    go_wp2_with fail
    go_ret
    exact ⟨_, rfl, fun hs => str_same _ _ (HI.out hs), h3.f1.drop⟩
end
end Go.Proofs.YtokephnlelpjhaaDoor
