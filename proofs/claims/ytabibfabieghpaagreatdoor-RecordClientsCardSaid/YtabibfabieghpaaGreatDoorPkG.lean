/- The reference's Nearest, Add, End, ends, subjects (printed by gen_xend.py). The reference's PrintFamily (printed by gen_xpfam.py). The reference's ends, subjects, OfFamily (printed by gen_xof.py). -/
import Derived.Test.YtabibfabieghpaaGreatDoorXFamM
import Derived.Test.YtabibfabieghpaaGreatDoorPkH
import Derived.Test.YtabibfabieghpaaGreatDoorFamP
namespace Go.Proofs.YtabibfabieghpaaGreatDoor
open Go.RowKit
theorem xnearest_any (n : Int) (w : World) : Calls Tryz.prog 108 #[.int .i64 n] w fun e w' => e = .returned (.int .i64 (near n)) ∧ w = w' := by
  rcases (by omega : n < 0 ∨ 0 ≤ n ∧ n ≤ 1099511627776 ∨ 1099511627776 < n) with h | h | h
  all_goals
    go_enter Tryz.func108, Tryz.ntmps108
    go_wp2
    all_goals go_ret
    all_goals exact ⟨ret_end (by unfold near; omega), rfl⟩
set_option maxHeartbeats 400000 in
theorem xadd_any (t d : Int) (w : World) : Calls Tryz.prog 109 #[.int .i64 t, .int .i64 d] w fun e w' => e = .returned (.int .i64 (near (near t + d))) ∧ w = w' := by
  have hb := near_bd t
  have K := fun (w : World) (x : Int) => xnearest_any x w
  go_enter Tryz.func109, Tryz.ntmps109
  go_wp2_with (first
    | (refine (K _ _).mono ?_; rintro e w' ⟨rfl, rfl⟩))
  all_goals go_ret
  all_goals first
    | exact ⟨ret_end (by unfold near at *; omega), rfl⟩
    | exact ⟨ret_end (by congr 1; unfold wrap64; omega), rfl⟩
theorem end_act (cr us ii ab en : Int) : endV 1 cr us ii ab en = min (near (near cr + near ab)) (near (near us + near ii)) := by
  unfold endV firstOf
  rw [if_pos rfl]
  simp only [List.foldl_cons, List.foldl_nil]
  have h1 := near_bd ab
  have h2 := near_bd ii
  have e1 : min 1099511627776 (near ab) = near ab := by omega
  have e2 : min 1099511627776 (near ii) = near ii := by omega
  rw [e1, e2]
  have h3 := near_bd (near cr + near ab)
  have h4 := near_bd (near us + near ii)
  rw [near_id h3.1 h3.2, near_id h4.1 h4.2]
  omega
theorem end_not {st : Int} (h : ¬ st = 1) (cr us ii ab en : Int) : endV st cr us ii ab en = near en := by
  unfold endV firstOf
  rw [if_neg h]
  simp only [List.foldl_cons, List.foldl_nil]
  have h1 := near_bd en
  omega
section
variable {E : World} {L : List Hp}
set_option maxRecDepth 20000 in
set_option maxHeartbeats 4000000 in
theorem xend_any (id : Int) (cl su : ByteArray) (A : Option Addr) (n c : Nat) (cr us ii ab gr ge tk st en co : Int) (w : World) (h : Own E w L) :
    Calls Tryz.prog 47 #[.agg (famC id cl su A n c cr us ii ab gr ge tk st en co).toArray] w fun ev w' => ev = .returned (.int .i64 (endV st cr us ii ab en)) ∧ Own E w' L := by
  have H1 := Lib.hid (show Own E _ (Hp.blk w.heap.size FMT (famC id cl su A n c cr us ii ab gr ge tk st en co).toArray :: L) from h.alloc (.cells (famC id cl su A n c cr us ii ab gr ge tk st en co).toArray FMT))
  have KN := fun (w : World) (x : Int) => xnearest_any x w
  have KA := fun (w : World) (x y : Int) => xadd_any x y w
  by_cases hs : st = 1
  · subst hs
    have HV := Lib.hid (end_act cr us ii ab en)
    have HC := Lib.hid (fun (w' : World) (h : Own E w' (Hp.blk w.heap.size FMT (famC id cl su A n c cr us ii ab gr ge tk 1 en co).toArray :: L)) => (show w'.cell? ⟨w.heap.size, 4, none⟩ = some (.int .i64 cr) ∧ w'.cell? ⟨w.heap.size, 5, none⟩ = some (.int .i64 us) ∧ w'.cell? ⟨w.heap.size, 6, none⟩ = some (.int .i64 ii) ∧ w'.cell? ⟨w.heap.size, 7, none⟩ = some (.int .i64 ab) from
      ⟨(h.cell 4).trans rfl, (h.cell 5).trans rfl, (h.cell 6).trans rfl, (h.cell 7).trans rfl⟩))
    clear h
    generalize hTB : Hp.blk w.heap.size FMT (famC id cl su A n c cr us ii ab gr ge tk 1 en co).toArray = TB at *
    clear hTB
    unfold famC at *
    go_enter Tryz.func47, Tryz.ntmps47
    go_wp2_with fail
    have h := H1.out.drew
    clear H1
    refine wp_region_text [1, 3] (fun w' => w'.cell? ⟨w.heap.size, 4, none⟩ = some (.int .i64 cr) ∧ w'.cell? ⟨w.heap.size, 5, none⟩ = some (.int .i64 us) ∧ w'.cell? ⟨w.heap.size, 6, none⟩ = some (.int .i64 ii) ∧ w'.cell? ⟨w.heap.size, 7, none⟩ = some (.int .i64 ab)) (by kernel_rfl) ?_ (fun hS => ?_)
    · exact HC.out _ h
    refine wpAnyG_pure (i := 0) (oi := ⟨some 11, _, _, _, _, _⟩) (v := ?_) rfl (by kernel_rfl) (by kernel_rfl) (by kernel_rfl) (by rfl) (fun _ _ _ h => h) (by rfl) ?_ ?_
    rotate_left
    · intro w
      go_simp
      first | done | with_reducible rfl
    try simp only [Act.put, List.setIfInBounds_toArray, List.set_cons_zero, List.set_cons_succ]
    refine wpAnyG_load (i := 1) (oi := ⟨some 12, _, _, _, _, _⟩) (v := ?_) rfl (by kernel_rfl) (by kernel_rfl) (by kernel_rfl) (by rfl) (fun _ _ _ h => h) (by rfl) ?_ (by assumption) ?_
    rotate_left
    · intro w hS
      try dsimp only at hS
      go_simp
      first | done | with_reducible rfl
    try simp only [Act.put, List.setIfInBounds_toArray, List.set_cons_zero, List.set_cons_succ]
    refine wpAnyG_pure (i := 2) (oi := ⟨some 13, _, _, _, _, _⟩) (v := ?_) rfl (by kernel_rfl) (by kernel_rfl) (by kernel_rfl) (by rfl) (fun _ _ _ h => h) (by rfl) ?_ ?_
    rotate_left
    · intro w
      go_simp
      first | done | with_reducible rfl
    try simp only [Act.put, List.setIfInBounds_toArray, List.set_cons_zero, List.set_cons_succ]
    refine wpAnyG_load (i := 3) (oi := ⟨some 14, _, _, _, _, _⟩) (v := ?_) rfl (by kernel_rfl) (by kernel_rfl) (by kernel_rfl) (by rfl) (fun _ _ _ h => h) (by rfl) ?_ (by assumption) ?_
    rotate_left
    · intro w hS
      try dsimp only at hS
      go_simp
      first | done | with_reducible rfl
    try simp only [Act.put, List.setIfInBounds_toArray, List.set_cons_zero, List.set_cons_succ]
    refine wpAnyG_keep (i := 4) (oi := ⟨some 15, _, _, _, _, _⟩) (by kernel_rfl) rfl (fun K hK => ?_)
    rw [if_pos (by rfl)]
    go_simp
    refine (KN _ _).mono ?_
    rintro e w6 ⟨rfl, rfl⟩
    refine hK.out _ _ ?_ (fun hS => ?_)
    · exact HC.out _ h
    clear hK K
    try simp only [Act.put, List.setIfInBounds_toArray, List.set_cons_zero, List.set_cons_succ]
    refine wpAnyG_keep (i := 5) (oi := ⟨some 16, _, _, _, _, _⟩) (by kernel_rfl) rfl (fun K hK => ?_)
    rw [if_pos (by rfl)]
    go_simp
    refine (KA _ _ _).mono ?_
    rintro e w6 ⟨rfl, rfl⟩
    refine hK.out _ _ ?_ (fun hS => ?_)
    · exact HC.out _ h
    clear hK K
    try simp only [Act.put, List.setIfInBounds_toArray, List.set_cons_zero, List.set_cons_succ]
    refine wpAnyG_pure (i := 6) (oi := ⟨some 3, _, _, _, _, _⟩) (v := ?_) rfl (by kernel_rfl) (by kernel_rfl) (by kernel_rfl) (by rfl) (fun _ _ _ h => h) (by rfl) ?_ ?_
    rotate_left
    · intro w
      go_simp
      first | done | with_reducible rfl
    try simp only [Act.put, List.setIfInBounds_toArray, List.set_cons_zero, List.set_cons_succ]
    refine wpAnyG_done (by kernel_rfl) ?_ _
    refine NoPanic.normal ?_
    go_wp2_with fail
    have h2 := h.drew
    clear h
    have h := h2
    clear h2
    refine wp_region_text [1, 3] (fun w' => w'.cell? ⟨w.heap.size, 4, none⟩ = some (.int .i64 cr) ∧ w'.cell? ⟨w.heap.size, 5, none⟩ = some (.int .i64 us) ∧ w'.cell? ⟨w.heap.size, 6, none⟩ = some (.int .i64 ii) ∧ w'.cell? ⟨w.heap.size, 7, none⟩ = some (.int .i64 ab)) (by kernel_rfl) ?_ (fun hS => ?_)
    · exact HC.out _ h
    refine wpAnyG_pure (i := 0) (oi := ⟨some 17, _, _, _, _, _⟩) (v := ?_) rfl (by kernel_rfl) (by kernel_rfl) (by kernel_rfl) (by rfl) (fun _ _ _ h => h) (by rfl) ?_ ?_
    rotate_left
    · intro w
      go_simp
      first | done | with_reducible rfl
    try simp only [Act.put, List.setIfInBounds_toArray, List.set_cons_zero, List.set_cons_succ]
    refine wpAnyG_load (i := 1) (oi := ⟨some 18, _, _, _, _, _⟩) (v := ?_) rfl (by kernel_rfl) (by kernel_rfl) (by kernel_rfl) (by rfl) (fun _ _ _ h => h) (by rfl) ?_ (by assumption) ?_
    rotate_left
    · intro w hS
      try dsimp only at hS
      go_simp
      first | done | with_reducible rfl
    try simp only [Act.put, List.setIfInBounds_toArray, List.set_cons_zero, List.set_cons_succ]
    refine wpAnyG_pure (i := 2) (oi := ⟨some 19, _, _, _, _, _⟩) (v := ?_) rfl (by kernel_rfl) (by kernel_rfl) (by kernel_rfl) (by rfl) (fun _ _ _ h => h) (by rfl) ?_ ?_
    rotate_left
    · intro w
      go_simp
      first | done | with_reducible rfl
    try simp only [Act.put, List.setIfInBounds_toArray, List.set_cons_zero, List.set_cons_succ]
    refine wpAnyG_load (i := 3) (oi := ⟨some 20, _, _, _, _, _⟩) (v := ?_) rfl (by kernel_rfl) (by kernel_rfl) (by kernel_rfl) (by rfl) (fun _ _ _ h => h) (by rfl) ?_ (by assumption) ?_
    rotate_left
    · intro w hS
      try dsimp only at hS
      go_simp
      first | done | with_reducible rfl
    try simp only [Act.put, List.setIfInBounds_toArray, List.set_cons_zero, List.set_cons_succ]
    refine wpAnyG_keep (i := 4) (oi := ⟨some 21, _, _, _, _, _⟩) (by kernel_rfl) rfl (fun K hK => ?_)
    rw [if_pos (by rfl)]
    go_simp
    refine (KN _ _).mono ?_
    rintro e w6 ⟨rfl, rfl⟩
    refine hK.out _ _ ?_ (fun hS => ?_)
    · exact HC.out _ h
    clear hK K
    try simp only [Act.put, List.setIfInBounds_toArray, List.set_cons_zero, List.set_cons_succ]
    refine wpAnyG_keep (i := 5) (oi := ⟨some 22, _, _, _, _, _⟩) (by kernel_rfl) rfl (fun K hK => ?_)
    rw [if_pos (by rfl)]
    go_simp
    refine (KA _ _ _).mono ?_
    rintro e w6 ⟨rfl, rfl⟩
    refine hK.out _ _ ?_ (fun hS => ?_)
    · exact HC.out _ h
    clear hK K
    try simp only [Act.put, List.setIfInBounds_toArray, List.set_cons_zero, List.set_cons_succ]
    refine wpAnyG_pure (i := 6) (oi := ⟨some 4, _, _, _, _, _⟩) (v := ?_) rfl (by kernel_rfl) (by kernel_rfl) (by kernel_rfl) (by rfl) (fun _ _ _ h => h) (by rfl) ?_ ?_
    rotate_left
    · intro w
      go_simp
      first | done | with_reducible rfl
    try simp only [Act.put, List.setIfInBounds_toArray, List.set_cons_zero, List.set_cons_succ]
    refine wpAnyG_done (by kernel_rfl) ?_ _
    refine NoPanic.normal ?_
    have H5 := Lib.hid h
    clear h
    go_wp2_with fail
    all_goals go_ret
    all_goals exact ⟨ret_end (by rw [HV.out]; all_goals (first | rfl | omega | (split <;> omega))), H5.out.drop⟩
  · have HV := Lib.hid (end_not hs cr us ii ab en)
    have z1 : (st != 1) = true := by simpa using hs
    have c12 : _ = some (Value.int .i64 en) := (H1.out.cell 12).trans rfl
    have c11 : _ = some (Value.int .i64 st) := (H1.out.cell 11).trans rfl
    clear h
    unfold famC at *
    go_enter Tryz.func47, Tryz.ntmps47
    go_wp2_with (refine (KN _ _).mono ?_; rintro e w6 ⟨rfl, rfl⟩)
    go_ret
    exact ⟨ret_end HV.out.symm, H1.out.drop⟩
end
end Go.Proofs.YtabibfabieghpaaGreatDoor
namespace Go.Proofs.YtabibfabieghpaaGreatDoor
open Go.RowKit
section
variable {E : World} {S : Ph} {L : List Hp}
set_option maxRecDepth 20000 in
set_option maxHeartbeats 8000000 in
theorem xprintfam_any (id : Int) (cl su : ByteArray) (A : Option Addr) (n c : Nat) (cr us ii ab gr ge tk st en co : Int) (xs : List ByteArray) (w : World) (hr : Rds S 1 enStr A n xs) (hsz : ∀ x ∈ xs, x.size ≤ 1000000000000000000) (hcl : cl.size ≤ 1000000000000000000) (hsu : su.size ≤ 1000000000000000000) (hn43 : n ≤ 8796093022208) (h : Own E w (Hp.ro S :: L)) :
    Calls Tryz.prog 45 #[.agg (famC id cl su A n c cr us ii ab gr ge tk st en co).toArray] w fun ev w' => ev = .returned (itemV (famR id cl su xs cr us ii ab gr ge tk st en co)) ∧ Own E w' (Hp.ro S :: L) := by
  have h1 := h.alloc (.cells (famC id cl su A n c cr us ii ab gr ge tk st en co).toArray FMT)
  have h2 := h1.alloc (.cells #[.string ⟨#[]⟩, .string ⟨#[]⟩] ITT)
  rw [alloc_size] at h2
  have H3 := Lib.hid h2
  obtain ⟨dd, hd, hrow⟩ := itt_u
  by_cases hm : famMay id cl su xs cr us ii ab gr ge tk st en co
  · have hrg : FamIn id cl su (scTxt xs) cr us ii ab gr ge tk st en co := fam_range hm
    have hsc : scErr xs = 0 := hm.2.2.2.1
    have KM : Hid (∀ w3 : World, Own E w3 (Hp.blk (w.heap.size + 1) ITT #[.string ⟨#[]⟩, .string ⟨#[]⟩] :: Hp.blk w.heap.size FMT (famC id cl su A n c cr us ii ab gr ge tk st en co).toArray :: Hp.ro S :: L) → Calls Tryz.prog 105 #[.agg (famC id cl su A n c cr us ii ab gr ge tk st en co).toArray] w3 fun ev w' => ev = .returned (.bool true) ∧ Own E w' (Hp.blk (w.heap.size + 1) ITT #[.string ⟨#[]⟩, .string ⟨#[]⟩] :: Hp.blk w.heap.size FMT (famC id cl su A n c cr us ii ab gr ge tk st en co).toArray :: Hp.ro S :: L)) := Lib.hid fun w3 h3 => (xfamilymay_any id cl su A n c cr us ii ab gr ge tk st en co xs w3 hr hsz hcl hsu hn43 (show Own E w3 (Hp.ro S :: Hp.blk (w.heap.size + 1) ITT #[.string ⟨#[]⟩, .string ⟨#[]⟩] :: Hp.blk w.heap.size FMT (famC id cl su A n c cr us ii ab gr ge tk st en co).toArray :: L) from h3.f2)).mono fun ev w' he => ⟨by rw [he.1, decide_eq_true hm], he.2.f2.f2⟩
    have KS : Hid (∀ w3 : World, Own E w3 (Hp.blk (w.heap.size + 1) ITT #[.string ⟨#[]⟩, .string ⟨#[]⟩] :: Hp.blk w.heap.size FMT (famC id cl su A n c cr us ii ab gr ge tk st en co).toArray :: Hp.ro S :: L) → Calls Tryz.prog 92 #[.slice A n c] w3 fun ev w' => ev = .returned (.string (scTxt xs)) ∧ Own E w' (Hp.blk (w.heap.size + 1) ITT #[.string ⟨#[]⟩, .string ⟨#[]⟩] :: Hp.blk w.heap.size FMT (famC id cl su A n c cr us ii ab gr ge tk st en co).toArray :: Hp.ro S :: L)) := Lib.hid fun w3 h3 => (spaced_any A n c xs w3 hr hsc (show Own E w3 (Hp.ro S :: Hp.blk (w.heap.size + 1) ITT #[.string ⟨#[]⟩, .string ⟨#[]⟩] :: Hp.blk w.heap.size FMT (famC id cl su A n c cr us ii ab gr ge tk st en co).toArray :: L) from h3.f2)).mono fun ev w' he => ⟨he.1, he.2.f2.f2⟩
    obtain ⟨s1, s2, s3, r0, c0, c1, c2, c3, c4, c5, c6, c7, c8, c9⟩ := hrg
    have B1 : Hid (∀ wq : World, Own E wq (Hp.blk (w.heap.size + 1) ITT #[.string ⟨#[]⟩, .string ⟨#[]⟩] :: Hp.blk w.heap.size FMT (famC id cl su A n c cr us ii ab gr ge tk st en co).toArray :: Hp.ro S :: L) → Calls Tryz.prog 65 #[.string cl] wq fun ev w' => ev = .returned (.string ((⟨(byN 1 cl.size).toArray⟩ : ByteArray) ++ cl)) ∧ Own E w' (Hp.blk (w.heap.size + 1) ITT #[.string ⟨#[]⟩, .string ⟨#[]⟩] :: Hp.blk w.heap.size FMT (famC id cl su A n c cr us ii ab gr ge tk st en co).toArray :: Hp.ro S :: L)) := Lib.hid fun wq h => short_any cl wq (by omega) h
    have z1 : (((⟨(byN 1 cl.size).toArray⟩ : ByteArray) ++ cl)).size ≤ 300 := by rw [ByteArray.size_append, fl_size, byN_len]; omega
    have B2 : Hid (∀ wq : World, Own E wq (Hp.blk (w.heap.size + 1) ITT #[.string ⟨#[]⟩, .string ⟨#[]⟩] :: Hp.blk w.heap.size FMT (famC id cl su A n c cr us ii ab gr ge tk st en co).toArray :: Hp.ro S :: L) → Calls Tryz.prog 65 #[.string su] wq fun ev w' => ev = .returned (.string ((⟨(byN 1 su.size).toArray⟩ : ByteArray) ++ su)) ∧ Own E w' (Hp.blk (w.heap.size + 1) ITT #[.string ⟨#[]⟩, .string ⟨#[]⟩] :: Hp.blk w.heap.size FMT (famC id cl su A n c cr us ii ab gr ge tk st en co).toArray :: Hp.ro S :: L)) := Lib.hid fun wq h => short_any su wq (by omega) h
    have z2 : (((⟨(byN 1 su.size).toArray⟩ : ByteArray) ++ su)).size ≤ 300 := by rw [ByteArray.size_append, fl_size, byN_len]; omega
    have B3 : Hid (∀ wq : World, Own E wq (Hp.blk (w.heap.size + 1) ITT #[.string ⟨#[]⟩, .string ⟨#[]⟩] :: Hp.blk w.heap.size FMT (famC id cl su A n c cr us ii ab gr ge tk st en co).toArray :: Hp.ro S :: L) → Calls Tryz.prog 65 #[.string (scTxt xs)] wq fun ev w' => ev = .returned (.string ((⟨(byN 1 (scTxt xs).size).toArray⟩ : ByteArray) ++ (scTxt xs))) ∧ Own E w' (Hp.blk (w.heap.size + 1) ITT #[.string ⟨#[]⟩, .string ⟨#[]⟩] :: Hp.blk w.heap.size FMT (famC id cl su A n c cr us ii ab gr ge tk st en co).toArray :: Hp.ro S :: L)) := Lib.hid fun wq h => short_any (scTxt xs) wq (by omega) h
    have z3 : (((⟨(byN 1 (scTxt xs).size).toArray⟩ : ByteArray) ++ (scTxt xs))).size ≤ 300 := by rw [ByteArray.size_append, fl_size, byN_len]; omega
    have B4 : Hid (∀ wq : World, Own E wq (Hp.blk (w.heap.size + 1) ITT #[.string ⟨#[]⟩, .string ⟨#[]⟩] :: Hp.blk w.heap.size FMT (famC id cl su A n c cr us ii ab gr ge tk st en co).toArray :: Hp.ro S :: L) → Calls Tryz.prog 64 #[.int .i64 cr, .int .i64 6] wq fun ev w' => ev = .returned (.string (⟨(byN 6 cr.toNat).toArray⟩ : ByteArray)) ∧ Own E w' (Hp.blk (w.heap.size + 1) ITT #[.string ⟨#[]⟩, .string ⟨#[]⟩] :: Hp.blk w.heap.size FMT (famC id cl su A n c cr us ii ab gr ge tk st en co).toArray :: Hp.ro S :: L)) := Lib.hid fun wq h => by_any cr 6 wq (by omega) (by omega) (by omega) h
    have z4 : ((⟨(byN 6 cr.toNat).toArray⟩ : ByteArray)).size ≤ 300 := by rw [fl_size, byN_len]; omega
    have B5 : Hid (∀ wq : World, Own E wq (Hp.blk (w.heap.size + 1) ITT #[.string ⟨#[]⟩, .string ⟨#[]⟩] :: Hp.blk w.heap.size FMT (famC id cl su A n c cr us ii ab gr ge tk st en co).toArray :: Hp.ro S :: L) → Calls Tryz.prog 64 #[.int .i64 us, .int .i64 6] wq fun ev w' => ev = .returned (.string (⟨(byN 6 us.toNat).toArray⟩ : ByteArray)) ∧ Own E w' (Hp.blk (w.heap.size + 1) ITT #[.string ⟨#[]⟩, .string ⟨#[]⟩] :: Hp.blk w.heap.size FMT (famC id cl su A n c cr us ii ab gr ge tk st en co).toArray :: Hp.ro S :: L)) := Lib.hid fun wq h => by_any us 6 wq (by omega) (by omega) (by omega) h
    have z5 : ((⟨(byN 6 us.toNat).toArray⟩ : ByteArray)).size ≤ 300 := by rw [fl_size, byN_len]; omega
    have B6 : Hid (∀ wq : World, Own E wq (Hp.blk (w.heap.size + 1) ITT #[.string ⟨#[]⟩, .string ⟨#[]⟩] :: Hp.blk w.heap.size FMT (famC id cl su A n c cr us ii ab gr ge tk st en co).toArray :: Hp.ro S :: L) → Calls Tryz.prog 64 #[.int .i64 ii, .int .i64 6] wq fun ev w' => ev = .returned (.string (⟨(byN 6 ii.toNat).toArray⟩ : ByteArray)) ∧ Own E w' (Hp.blk (w.heap.size + 1) ITT #[.string ⟨#[]⟩, .string ⟨#[]⟩] :: Hp.blk w.heap.size FMT (famC id cl su A n c cr us ii ab gr ge tk st en co).toArray :: Hp.ro S :: L)) := Lib.hid fun wq h => by_any ii 6 wq (by omega) (by omega) (by omega) h
    have z6 : ((⟨(byN 6 ii.toNat).toArray⟩ : ByteArray)).size ≤ 300 := by rw [fl_size, byN_len]; omega
    have B7 : Hid (∀ wq : World, Own E wq (Hp.blk (w.heap.size + 1) ITT #[.string ⟨#[]⟩, .string ⟨#[]⟩] :: Hp.blk w.heap.size FMT (famC id cl su A n c cr us ii ab gr ge tk st en co).toArray :: Hp.ro S :: L) → Calls Tryz.prog 64 #[.int .i64 ab, .int .i64 6] wq fun ev w' => ev = .returned (.string (⟨(byN 6 ab.toNat).toArray⟩ : ByteArray)) ∧ Own E w' (Hp.blk (w.heap.size + 1) ITT #[.string ⟨#[]⟩, .string ⟨#[]⟩] :: Hp.blk w.heap.size FMT (famC id cl su A n c cr us ii ab gr ge tk st en co).toArray :: Hp.ro S :: L)) := Lib.hid fun wq h => by_any ab 6 wq (by omega) (by omega) (by omega) h
    have z7 : ((⟨(byN 6 ab.toNat).toArray⟩ : ByteArray)).size ≤ 300 := by rw [fl_size, byN_len]; omega
    have B8 : Hid (∀ wq : World, Own E wq (Hp.blk (w.heap.size + 1) ITT #[.string ⟨#[]⟩, .string ⟨#[]⟩] :: Hp.blk w.heap.size FMT (famC id cl su A n c cr us ii ab gr ge tk st en co).toArray :: Hp.ro S :: L) → Calls Tryz.prog 64 #[.int .i64 gr, .int .i64 6] wq fun ev w' => ev = .returned (.string (⟨(byN 6 gr.toNat).toArray⟩ : ByteArray)) ∧ Own E w' (Hp.blk (w.heap.size + 1) ITT #[.string ⟨#[]⟩, .string ⟨#[]⟩] :: Hp.blk w.heap.size FMT (famC id cl su A n c cr us ii ab gr ge tk st en co).toArray :: Hp.ro S :: L)) := Lib.hid fun wq h => by_any gr 6 wq (by omega) (by omega) (by omega) h
    have z8 : ((⟨(byN 6 gr.toNat).toArray⟩ : ByteArray)).size ≤ 300 := by rw [fl_size, byN_len]; omega
    have B9 : Hid (∀ wq : World, Own E wq (Hp.blk (w.heap.size + 1) ITT #[.string ⟨#[]⟩, .string ⟨#[]⟩] :: Hp.blk w.heap.size FMT (famC id cl su A n c cr us ii ab gr ge tk st en co).toArray :: Hp.ro S :: L) → Calls Tryz.prog 64 #[.int .i64 ge, .int .i64 4] wq fun ev w' => ev = .returned (.string (⟨(byN 4 ge.toNat).toArray⟩ : ByteArray)) ∧ Own E w' (Hp.blk (w.heap.size + 1) ITT #[.string ⟨#[]⟩, .string ⟨#[]⟩] :: Hp.blk w.heap.size FMT (famC id cl su A n c cr us ii ab gr ge tk st en co).toArray :: Hp.ro S :: L)) := Lib.hid fun wq h => by_any ge 4 wq (by omega) (by omega) (by omega) h
    have z9 : ((⟨(byN 4 ge.toNat).toArray⟩ : ByteArray)).size ≤ 300 := by rw [fl_size, byN_len]; omega
    have B10 : Hid (∀ wq : World, Own E wq (Hp.blk (w.heap.size + 1) ITT #[.string ⟨#[]⟩, .string ⟨#[]⟩] :: Hp.blk w.heap.size FMT (famC id cl su A n c cr us ii ab gr ge tk st en co).toArray :: Hp.ro S :: L) → Calls Tryz.prog 64 #[.int .i64 tk, .int .i64 8] wq fun ev w' => ev = .returned (.string (⟨(byN 8 tk.toNat).toArray⟩ : ByteArray)) ∧ Own E w' (Hp.blk (w.heap.size + 1) ITT #[.string ⟨#[]⟩, .string ⟨#[]⟩] :: Hp.blk w.heap.size FMT (famC id cl su A n c cr us ii ab gr ge tk st en co).toArray :: Hp.ro S :: L)) := Lib.hid fun wq h => by_any tk 8 wq (by omega) (by omega) (by omega) h
    have z10 : ((⟨(byN 8 tk.toNat).toArray⟩ : ByteArray)).size ≤ 300 := by rw [fl_size, byN_len]; omega
    have B11 : Hid (∀ wq : World, Own E wq (Hp.blk (w.heap.size + 1) ITT #[.string ⟨#[]⟩, .string ⟨#[]⟩] :: Hp.blk w.heap.size FMT (famC id cl su A n c cr us ii ab gr ge tk st en co).toArray :: Hp.ro S :: L) → Calls Tryz.prog 64 #[.int .i64 st, .int .i64 1] wq fun ev w' => ev = .returned (.string (⟨(byN 1 st.toNat).toArray⟩ : ByteArray)) ∧ Own E w' (Hp.blk (w.heap.size + 1) ITT #[.string ⟨#[]⟩, .string ⟨#[]⟩] :: Hp.blk w.heap.size FMT (famC id cl su A n c cr us ii ab gr ge tk st en co).toArray :: Hp.ro S :: L)) := Lib.hid fun wq h => by_any st 1 wq (by omega) (by omega) (by omega) h
    have z11 : ((⟨(byN 1 st.toNat).toArray⟩ : ByteArray)).size ≤ 300 := by rw [fl_size, byN_len]; omega
    have B12 : Hid (∀ wq : World, Own E wq (Hp.blk (w.heap.size + 1) ITT #[.string ⟨#[]⟩, .string ⟨#[]⟩] :: Hp.blk w.heap.size FMT (famC id cl su A n c cr us ii ab gr ge tk st en co).toArray :: Hp.ro S :: L) → Calls Tryz.prog 64 #[.int .i64 en, .int .i64 6] wq fun ev w' => ev = .returned (.string (⟨(byN 6 en.toNat).toArray⟩ : ByteArray)) ∧ Own E w' (Hp.blk (w.heap.size + 1) ITT #[.string ⟨#[]⟩, .string ⟨#[]⟩] :: Hp.blk w.heap.size FMT (famC id cl su A n c cr us ii ab gr ge tk st en co).toArray :: Hp.ro S :: L)) := Lib.hid fun wq h => by_any en 6 wq (by omega) (by omega) (by omega) h
    have z12 : ((⟨(byN 6 en.toNat).toArray⟩ : ByteArray)).size ≤ 300 := by rw [fl_size, byN_len]; omega
    have B13 : Hid (∀ wq : World, Own E wq (Hp.blk (w.heap.size + 1) ITT #[.string ⟨#[]⟩, .string ⟨#[]⟩] :: Hp.blk w.heap.size FMT (famC id cl su A n c cr us ii ab gr ge tk st en co).toArray :: Hp.ro S :: L) → Calls Tryz.prog 64 #[.int .i64 co, .int .i64 8] wq fun ev w' => ev = .returned (.string (⟨(byN 8 co.toNat).toArray⟩ : ByteArray)) ∧ Own E w' (Hp.blk (w.heap.size + 1) ITT #[.string ⟨#[]⟩, .string ⟨#[]⟩] :: Hp.blk w.heap.size FMT (famC id cl su A n c cr us ii ab gr ge tk st en co).toArray :: Hp.ro S :: L)) := Lib.hid fun wq h => by_any co 8 wq (by omega) (by omega) (by omega) h
    have z13 : ((⟨(byN 8 co.toNat).toArray⟩ : ByteArray)).size ≤ 300 := by rw [fl_size, byN_len]; omega
    have B0 : Hid (∀ wq : World, Own E wq (Hp.blk (w.heap.size + 1) ITT #[.string ⟨#[]⟩, .string ⟨#[]⟩] :: Hp.blk w.heap.size FMT (famC id cl su A n c cr us ii ab gr ge tk st en co).toArray :: Hp.ro S :: L) → Calls Tryz.prog 64 #[.int .i64 id, .int .i64 8] wq fun ev w' => ev = .returned (.string (⟨(byN 8 id.toNat).toArray⟩ : ByteArray)) ∧ Own E w' (Hp.blk (w.heap.size + 1) ITT #[.string ⟨#[]⟩, .string ⟨#[]⟩] :: Hp.blk w.heap.size FMT (famC id cl su A n c cr us ii ab gr ge tk st en co).toArray :: Hp.ro S :: L)) := Lib.hid fun wq h => by_any id 8 wq (by omega) (by omega) (by omega) h
    have z0 : ((⟨(byN 8 id.toNat).toArray⟩ : ByteArray)).size ≤ 300 := by rw [fl_size, byN_len]; omega
    have HV : Hid (famR id cl su xs cr us ii ab gr ge tk st en co = ((⟨#[102]⟩ : ByteArray) ++ (⟨(byN 8 id.toNat).toArray⟩ : ByteArray), ((⟨(byN 1 cl.size).toArray⟩ : ByteArray) ++ cl) ++ ((⟨(byN 1 su.size).toArray⟩ : ByteArray) ++ su) ++ ((⟨(byN 1 (scTxt xs).size).toArray⟩ : ByteArray) ++ (scTxt xs)) ++ (⟨(byN 6 cr.toNat).toArray⟩ : ByteArray) ++ (⟨(byN 6 us.toNat).toArray⟩ : ByteArray) ++ (⟨(byN 6 ii.toNat).toArray⟩ : ByteArray) ++ (⟨(byN 6 ab.toNat).toArray⟩ : ByteArray) ++ (⟨(byN 6 gr.toNat).toArray⟩ : ByteArray) ++ (⟨(byN 4 ge.toNat).toArray⟩ : ByteArray) ++ (⟨(byN 8 tk.toNat).toArray⟩ : ByteArray) ++ (⟨(byN 1 st.toNat).toArray⟩ : ByteArray) ++ (⟨(byN 6 en.toNat).toArray⟩ : ByteArray) ++ (⟨(byN 8 co.toNat).toArray⟩ : ByteArray), 0)) := Lib.hid (by
      have e1 : famK id = (⟨#[102]⟩ : ByteArray) ++ (⟨(byN 8 id.toNat).toArray⟩ : ByteArray) := by
        unfold famK
        refine (bytes_ext _ _ ?_).symm
        simp
      have e2 : famV cl su (scTxt xs) cr us ii ab gr ge tk st en co = ((⟨(byN 1 cl.size).toArray⟩ : ByteArray) ++ cl) ++ ((⟨(byN 1 su.size).toArray⟩ : ByteArray) ++ su) ++ ((⟨(byN 1 (scTxt xs).size).toArray⟩ : ByteArray) ++ (scTxt xs)) ++ (⟨(byN 6 cr.toNat).toArray⟩ : ByteArray) ++ (⟨(byN 6 us.toNat).toArray⟩ : ByteArray) ++ (⟨(byN 6 ii.toNat).toArray⟩ : ByteArray) ++ (⟨(byN 6 ab.toNat).toArray⟩ : ByteArray) ++ (⟨(byN 6 gr.toNat).toArray⟩ : ByteArray) ++ (⟨(byN 4 ge.toNat).toArray⟩ : ByteArray) ++ (⟨(byN 8 tk.toNat).toArray⟩ : ByteArray) ++ (⟨(byN 1 st.toNat).toArray⟩ : ByteArray) ++ (⟨(byN 6 en.toNat).toArray⟩ : ByteArray) ++ (⟨(byN 8 co.toNat).toArray⟩ : ByteArray) := by
        unfold famV
        refine (bytes_ext _ _ ?_).symm
        simp
      rw [← e1, ← e2]
      exact if_pos hm)
    have HC : Hid (∀ w', Own E w' (Hp.blk (w.heap.size + 1) ITT #[.string ⟨#[]⟩, .string ⟨#[]⟩] :: Hp.blk w.heap.size FMT (famC id cl su A n c cr us ii ab gr ge tk st en co).toArray :: Hp.ro S :: L) → w'.cell? ⟨w.heap.size, 1, none⟩ = some (.string cl) ∧ w'.cell? ⟨w.heap.size, 2, none⟩ = some (.string su) ∧ w'.cell? ⟨w.heap.size, 3, none⟩ = some (.slice A n c) ∧ w'.cell? ⟨w.heap.size, 4, none⟩ = some (.int .i64 cr) ∧ w'.cell? ⟨w.heap.size, 5, none⟩ = some (.int .i64 us) ∧ w'.cell? ⟨w.heap.size, 6, none⟩ = some (.int .i64 ii) ∧ w'.cell? ⟨w.heap.size, 7, none⟩ = some (.int .i64 ab) ∧ w'.cell? ⟨w.heap.size, 8, none⟩ = some (.int .i64 gr) ∧ w'.cell? ⟨w.heap.size, 9, none⟩ = some (.int .i64 ge) ∧ w'.cell? ⟨w.heap.size, 10, none⟩ = some (.int .i64 tk) ∧ w'.cell? ⟨w.heap.size, 11, none⟩ = some (.int .i64 st) ∧ w'.cell? ⟨w.heap.size, 12, none⟩ = some (.int .i64 en) ∧ w'.cell? ⟨w.heap.size, 13, none⟩ = some (.int .i64 co)) := Lib.hid fun w' h => ⟨(h.f1.cell 1).trans rfl, (h.f1.cell 2).trans rfl, (h.f1.cell 3).trans rfl, (h.f1.cell 4).trans rfl, (h.f1.cell 5).trans rfl, (h.f1.cell 6).trans rfl, (h.f1.cell 7).trans rfl, (h.f1.cell 8).trans rfl, (h.f1.cell 9).trans rfl, (h.f1.cell 10).trans rfl, (h.f1.cell 11).trans rfl, (h.f1.cell 12).trans rfl, (h.f1.cell 13).trans rfl⟩
    clear h h1 h2 hm hr hsz hcl hsu hsc s1 s2 s3 r0 c0 c1 c2 c3 c4 c5 c6 c7 c8 c9
    generalize ((⟨(byN 1 cl.size).toArray⟩ : ByteArray) ++ cl) = p1 at *
    generalize ((⟨(byN 1 su.size).toArray⟩ : ByteArray) ++ su) = p2 at *
    generalize ((⟨(byN 1 (scTxt xs).size).toArray⟩ : ByteArray) ++ (scTxt xs)) = p3 at *
    generalize (⟨(byN 6 cr.toNat).toArray⟩ : ByteArray) = p4 at *
    generalize (⟨(byN 6 us.toNat).toArray⟩ : ByteArray) = p5 at *
    generalize (⟨(byN 6 ii.toNat).toArray⟩ : ByteArray) = p6 at *
    generalize (⟨(byN 6 ab.toNat).toArray⟩ : ByteArray) = p7 at *
    generalize (⟨(byN 6 gr.toNat).toArray⟩ : ByteArray) = p8 at *
    generalize (⟨(byN 4 ge.toNat).toArray⟩ : ByteArray) = p9 at *
    generalize (⟨(byN 8 tk.toNat).toArray⟩ : ByteArray) = p10 at *
    generalize (⟨(byN 1 st.toNat).toArray⟩ : ByteArray) = p11 at *
    generalize (⟨(byN 6 en.toNat).toArray⟩ : ByteArray) = p12 at *
    generalize (⟨(byN 8 co.toNat).toArray⟩ : ByteArray) = p13 at *
    generalize (⟨(byN 8 id.toNat).toArray⟩ : ByteArray) = p0 at *
    generalize scTxt xs = sT at *
    have HD : Hid (∀ w', Own E w' (Hp.blk (w.heap.size + 1) ITT #[.string ⟨#[]⟩, .string ⟨#[]⟩] :: Hp.blk w.heap.size FMT (famC id cl su A n c cr us ii ab gr ge tk st en co).toArray :: Hp.ro S :: L) → w'.cell? ⟨w.heap.size, 0, none⟩ = some (.int .i64 id)) := Lib.hid fun w' h => (h.f1.cell 0).trans rfl
    unfold famC at *
    go_enter Tryz.func45, Tryz.ntmps45
    go_wp2_with (with_reducible refine (KM.out _ H3.out).mono ?_; clear H3; rintro ev w2 ⟨rfl, h⟩; have H3 := Lib.hid h; clear h)
    have h := H3.out.drew
    clear H3
    refine wp_region_text [1, 4, 8, 13, 17] (fun w' => w'.cell? ⟨w.heap.size, 1, none⟩ = some (.string cl) ∧ w'.cell? ⟨w.heap.size, 2, none⟩ = some (.string su) ∧ w'.cell? ⟨w.heap.size, 3, none⟩ = some (.slice A n c) ∧ w'.cell? ⟨w.heap.size, 4, none⟩ = some (.int .i64 cr) ∧ w'.cell? ⟨w.heap.size, 5, none⟩ = some (.int .i64 us) ∧ w'.cell? ⟨w.heap.size, 6, none⟩ = some (.int .i64 ii) ∧ w'.cell? ⟨w.heap.size, 7, none⟩ = some (.int .i64 ab) ∧ w'.cell? ⟨w.heap.size, 8, none⟩ = some (.int .i64 gr) ∧ w'.cell? ⟨w.heap.size, 9, none⟩ = some (.int .i64 ge) ∧ w'.cell? ⟨w.heap.size, 10, none⟩ = some (.int .i64 tk) ∧ w'.cell? ⟨w.heap.size, 11, none⟩ = some (.int .i64 st) ∧ w'.cell? ⟨w.heap.size, 12, none⟩ = some (.int .i64 en) ∧ w'.cell? ⟨w.heap.size, 13, none⟩ = some (.int .i64 co)) (by kernel_rfl) ?_ (fun hS => ?_)
    · exact HC.out _ h
    refine wpAnyG_pure (i := 0) (oi := ⟨some 11, _, _, _, _, _⟩) (v := ?_) rfl (by kernel_rfl) (by kernel_rfl) (by kernel_rfl) (by rfl) (fun _ _ _ h => h) (by rfl) ?_ ?_
    rotate_left
    · intro w
      go_simp
      first | done | with_reducible rfl
    try simp only [Act.put, List.setIfInBounds_toArray, List.set_cons_zero, List.set_cons_succ]
    refine wpAnyG_load (i := 1) (oi := ⟨some 12, _, _, _, _, _⟩) (v := ?_) rfl (by kernel_rfl) (by kernel_rfl) (by kernel_rfl) (by rfl) (fun _ _ _ h => h) (by rfl) ?_ (by assumption) ?_
    rotate_left
    · intro w hS
      try dsimp only at hS
      go_simp
      first | done | with_reducible rfl
    try simp only [Act.put, List.setIfInBounds_toArray, List.set_cons_zero, List.set_cons_succ]
    refine wpAnyG_pure (i := 3) (oi := ⟨some 14, _, _, _, _, _⟩) (v := ?_) rfl (by kernel_rfl) (by kernel_rfl) (by kernel_rfl) (by rfl) (fun _ _ _ h => h) (by rfl) ?_ ?_
    rotate_left
    · intro w
      go_simp
      first | done | with_reducible rfl
    try simp only [Act.put, List.setIfInBounds_toArray, List.set_cons_zero, List.set_cons_succ]
    refine wpAnyG_load (i := 4) (oi := ⟨some 15, _, _, _, _, _⟩) (v := ?_) rfl (by kernel_rfl) (by kernel_rfl) (by kernel_rfl) (by rfl) (fun _ _ _ h => h) (by rfl) ?_ (by assumption) ?_
    rotate_left
    · intro w hS
      try dsimp only at hS
      go_simp
      first | done | with_reducible rfl
    try simp only [Act.put, List.setIfInBounds_toArray, List.set_cons_zero, List.set_cons_succ]
    refine wpAnyG_pure (i := 7) (oi := ⟨some 18, _, _, _, _, _⟩) (v := ?_) rfl (by kernel_rfl) (by kernel_rfl) (by kernel_rfl) (by rfl) (fun _ _ _ h => h) (by rfl) ?_ ?_
    rotate_left
    · intro w
      go_simp
      first | done | with_reducible rfl
    try simp only [Act.put, List.setIfInBounds_toArray, List.set_cons_zero, List.set_cons_succ]
    refine wpAnyG_load (i := 8) (oi := ⟨some 19, _, _, _, _, _⟩) (v := ?_) rfl (by kernel_rfl) (by kernel_rfl) (by kernel_rfl) (by rfl) (fun _ _ _ h => h) (by rfl) ?_ (by assumption) ?_
    rotate_left
    · intro w hS
      try dsimp only at hS
      go_simp
      first | done | with_reducible rfl
    try simp only [Act.put, List.setIfInBounds_toArray, List.set_cons_zero, List.set_cons_succ]
    refine wpAnyG_pure (i := 12) (oi := ⟨some 23, _, _, _, _, _⟩) (v := ?_) rfl (by kernel_rfl) (by kernel_rfl) (by kernel_rfl) (by rfl) (fun _ _ _ h => h) (by rfl) ?_ ?_
    rotate_left
    · intro w
      go_simp
      first | done | with_reducible rfl
    try simp only [Act.put, List.setIfInBounds_toArray, List.set_cons_zero, List.set_cons_succ]
    refine wpAnyG_load (i := 13) (oi := ⟨some 24, _, _, _, _, _⟩) (v := ?_) rfl (by kernel_rfl) (by kernel_rfl) (by kernel_rfl) (by rfl) (fun _ _ _ h => h) (by rfl) ?_ (by assumption) ?_
    rotate_left
    · intro w hS
      try dsimp only at hS
      go_simp
      first | done | with_reducible rfl
    try simp only [Act.put, List.setIfInBounds_toArray, List.set_cons_zero, List.set_cons_succ]
    refine wpAnyG_pure (i := 16) (oi := ⟨some 27, _, _, _, _, _⟩) (v := ?_) rfl (by kernel_rfl) (by kernel_rfl) (by kernel_rfl) (by rfl) (fun _ _ _ h => h) (by rfl) ?_ ?_
    rotate_left
    · intro w
      go_simp
      first | done | with_reducible rfl
    try simp only [Act.put, List.setIfInBounds_toArray, List.set_cons_zero, List.set_cons_succ]
    refine wpAnyG_load (i := 17) (oi := ⟨some 28, _, _, _, _, _⟩) (v := ?_) rfl (by kernel_rfl) (by kernel_rfl) (by kernel_rfl) (by rfl) (fun _ _ _ h => h) (by rfl) ?_ (by assumption) ?_
    rotate_left
    · intro w hS
      try dsimp only at hS
      go_simp
      first | done | with_reducible rfl
    try simp only [Act.put, List.setIfInBounds_toArray, List.set_cons_zero, List.set_cons_succ]
    refine wpAnyG_keep (i := 2) (oi := ⟨some 13, _, _, _, _, _⟩) (by kernel_rfl) rfl (fun K hK => ?_)
    rw [if_pos (by rfl)]
    go_simp
    refine (B1.out _ h).mono ?_
    clear h
    rintro ev w2 ⟨rfl, h⟩
    refine hK.out _ _ ?_ (fun hS => ?_)
    · exact HC.out _ h
    clear hK K
    try simp only [Act.put, List.setIfInBounds_toArray, List.set_cons_zero, List.set_cons_succ]
    refine wpAnyG_keep (i := 5) (oi := ⟨some 16, _, _, _, _, _⟩) (by kernel_rfl) rfl (fun K hK => ?_)
    rw [if_pos (by rfl)]
    go_simp
    refine (B2.out _ h).mono ?_
    clear h
    rintro ev w2 ⟨rfl, h⟩
    refine hK.out _ _ ?_ (fun hS => ?_)
    · exact HC.out _ h
    clear hK K
    try simp only [Act.put, List.setIfInBounds_toArray, List.set_cons_zero, List.set_cons_succ]
    refine wpAnyG_pure (i := 6) (oi := ⟨some 17, _, _, _, _, _⟩) (v := (.string (p1 ++ p2))) rfl (by kernel_rfl) (by kernel_rfl) (by kernel_rfl) (by rfl) (fun _ _ _ h => h) (by rfl) ?_ ?_
    · intro w
      go_simp; first | done | with_reducible rfl | omega | (simp only [ByteArray.size_append]; omega)
    try simp only [Act.put, List.setIfInBounds_toArray, List.set_cons_zero, List.set_cons_succ]
    refine wpAnyG_keep (i := 9) (oi := ⟨some 20, _, _, _, _, _⟩) (by kernel_rfl) rfl (fun K hK => ?_)
    rw [if_pos (by rfl)]
    go_simp
    refine (KS.out _ h).mono ?_
    clear h
    rintro ev w2 ⟨rfl, h⟩
    refine hK.out _ _ ?_ (fun hS => ?_)
    · exact HC.out _ h
    clear hK K
    try simp only [Act.put, List.setIfInBounds_toArray, List.set_cons_zero, List.set_cons_succ]
    refine wpAnyG_keep (i := 10) (oi := ⟨some 21, _, _, _, _, _⟩) (by kernel_rfl) rfl (fun K hK => ?_)
    rw [if_pos (by rfl)]
    go_simp
    refine (B3.out _ h).mono ?_
    clear h
    rintro ev w2 ⟨rfl, h⟩
    refine hK.out _ _ ?_ (fun hS => ?_)
    · exact HC.out _ h
    clear hK K
    try simp only [Act.put, List.setIfInBounds_toArray, List.set_cons_zero, List.set_cons_succ]
    refine wpAnyG_pure (i := 11) (oi := ⟨some 22, _, _, _, _, _⟩) (v := (.string (p1 ++ p2 ++ p3))) rfl (by kernel_rfl) (by kernel_rfl) (by kernel_rfl) (by rfl) (fun _ _ _ h => h) (by rfl) ?_ ?_
    · intro w
      go_simp; first | done | with_reducible rfl | omega | (simp only [ByteArray.size_append]; omega)
    try simp only [Act.put, List.setIfInBounds_toArray, List.set_cons_zero, List.set_cons_succ]
    refine wpAnyG_keep (i := 14) (oi := ⟨some 25, _, _, _, _, _⟩) (by kernel_rfl) rfl (fun K hK => ?_)
    rw [if_pos (by rfl)]
    go_simp
    refine (B4.out _ h).mono ?_
    clear h
    rintro ev w2 ⟨rfl, h⟩
    refine hK.out _ _ ?_ (fun hS => ?_)
    · exact HC.out _ h
    clear hK K
    try simp only [Act.put, List.setIfInBounds_toArray, List.set_cons_zero, List.set_cons_succ]
    refine wpAnyG_pure (i := 15) (oi := ⟨some 26, _, _, _, _, _⟩) (v := (.string (p1 ++ p2 ++ p3 ++ p4))) rfl (by kernel_rfl) (by kernel_rfl) (by kernel_rfl) (by rfl) (fun _ _ _ h => h) (by rfl) ?_ ?_
    · intro w
      go_simp; first | done | with_reducible rfl | omega | (simp only [ByteArray.size_append]; omega)
    try simp only [Act.put, List.setIfInBounds_toArray, List.set_cons_zero, List.set_cons_succ]
    refine wpAnyG_keep (i := 18) (oi := ⟨some 29, _, _, _, _, _⟩) (by kernel_rfl) rfl (fun K hK => ?_)
    rw [if_pos (by rfl)]
    go_simp
    refine (B5.out _ h).mono ?_
    clear h
    rintro ev w2 ⟨rfl, h⟩
    refine hK.out _ _ ?_ (fun hS => ?_)
    · exact HC.out _ h
    clear hK K
    try simp only [Act.put, List.setIfInBounds_toArray, List.set_cons_zero, List.set_cons_succ]
    refine wpAnyG_pure (i := 19) (oi := ⟨some 30, _, _, _, _, _⟩) (v := (.string (p1 ++ p2 ++ p3 ++ p4 ++ p5))) rfl (by kernel_rfl) (by kernel_rfl) (by kernel_rfl) (by rfl) (fun _ _ _ h => h) (by rfl) ?_ ?_
    · intro w
      go_simp; first | done | with_reducible rfl | omega | (simp only [ByteArray.size_append]; omega)
    try simp only [Act.put, List.setIfInBounds_toArray, List.set_cons_zero, List.set_cons_succ]
    refine wpAnyG_pure (i := 20) (oi := ⟨some 5, _, _, _, _, _⟩) (v := ?_) rfl (by kernel_rfl) (by kernel_rfl) (by kernel_rfl) (by rfl) (fun _ _ _ h => h) (by rfl) ?_ ?_
    rotate_left
    · intro w
      go_simp
      first | done | with_reducible rfl
    try simp only [Act.put, List.setIfInBounds_toArray, List.set_cons_zero, List.set_cons_succ]
    refine wpAnyG_done (by kernel_rfl) ?_ _
    refine NoPanic.normal ?_
    go_wp2_with fail
    have h3 := h.drew
    clear h
    have h := h3
    clear h3
    refine wp_region_text [2, 6, 10, 14, 18, 22, 26, 30] (fun w' => w'.cell? ⟨w.heap.size, 1, none⟩ = some (.string cl) ∧ w'.cell? ⟨w.heap.size, 2, none⟩ = some (.string su) ∧ w'.cell? ⟨w.heap.size, 3, none⟩ = some (.slice A n c) ∧ w'.cell? ⟨w.heap.size, 4, none⟩ = some (.int .i64 cr) ∧ w'.cell? ⟨w.heap.size, 5, none⟩ = some (.int .i64 us) ∧ w'.cell? ⟨w.heap.size, 6, none⟩ = some (.int .i64 ii) ∧ w'.cell? ⟨w.heap.size, 7, none⟩ = some (.int .i64 ab) ∧ w'.cell? ⟨w.heap.size, 8, none⟩ = some (.int .i64 gr) ∧ w'.cell? ⟨w.heap.size, 9, none⟩ = some (.int .i64 ge) ∧ w'.cell? ⟨w.heap.size, 10, none⟩ = some (.int .i64 tk) ∧ w'.cell? ⟨w.heap.size, 11, none⟩ = some (.int .i64 st) ∧ w'.cell? ⟨w.heap.size, 12, none⟩ = some (.int .i64 en) ∧ w'.cell? ⟨w.heap.size, 13, none⟩ = some (.int .i64 co)) (by kernel_rfl) ?_ (fun hS => ?_)
    · exact HC.out _ h
    refine wpAnyG_pure (i := 0) (oi := ⟨some 31, _, _, _, _, _⟩) (v := ?_) rfl (by kernel_rfl) (by kernel_rfl) (by kernel_rfl) (by rfl) (fun _ _ _ h => h) (by rfl) ?_ ?_
    rotate_left
    · intro w
      go_simp
      first | done | with_reducible rfl
    try simp only [Act.put, List.setIfInBounds_toArray, List.set_cons_zero, List.set_cons_succ]
    refine wpAnyG_pure (i := 1) (oi := ⟨some 32, _, _, _, _, _⟩) (v := ?_) rfl (by kernel_rfl) (by kernel_rfl) (by kernel_rfl) (by rfl) (fun _ _ _ h => h) (by rfl) ?_ ?_
    rotate_left
    · intro w
      go_simp
      first | done | with_reducible rfl
    try simp only [Act.put, List.setIfInBounds_toArray, List.set_cons_zero, List.set_cons_succ]
    refine wpAnyG_load (i := 2) (oi := ⟨some 33, _, _, _, _, _⟩) (v := ?_) rfl (by kernel_rfl) (by kernel_rfl) (by kernel_rfl) (by rfl) (fun _ _ _ h => h) (by rfl) ?_ (by assumption) ?_
    rotate_left
    · intro w hS
      try dsimp only at hS
      go_simp
      first | done | with_reducible rfl
    try simp only [Act.put, List.setIfInBounds_toArray, List.set_cons_zero, List.set_cons_succ]
    refine wpAnyG_pure (i := 5) (oi := ⟨some 36, _, _, _, _, _⟩) (v := ?_) rfl (by kernel_rfl) (by kernel_rfl) (by kernel_rfl) (by rfl) (fun _ _ _ h => h) (by rfl) ?_ ?_
    rotate_left
    · intro w
      go_simp
      first | done | with_reducible rfl
    try simp only [Act.put, List.setIfInBounds_toArray, List.set_cons_zero, List.set_cons_succ]
    refine wpAnyG_load (i := 6) (oi := ⟨some 37, _, _, _, _, _⟩) (v := ?_) rfl (by kernel_rfl) (by kernel_rfl) (by kernel_rfl) (by rfl) (fun _ _ _ h => h) (by rfl) ?_ (by assumption) ?_
    rotate_left
    · intro w hS
      try dsimp only at hS
      go_simp
      first | done | with_reducible rfl
    try simp only [Act.put, List.setIfInBounds_toArray, List.set_cons_zero, List.set_cons_succ]
    refine wpAnyG_pure (i := 9) (oi := ⟨some 40, _, _, _, _, _⟩) (v := ?_) rfl (by kernel_rfl) (by kernel_rfl) (by kernel_rfl) (by rfl) (fun _ _ _ h => h) (by rfl) ?_ ?_
    rotate_left
    · intro w
      go_simp
      first | done | with_reducible rfl
    try simp only [Act.put, List.setIfInBounds_toArray, List.set_cons_zero, List.set_cons_succ]
    refine wpAnyG_load (i := 10) (oi := ⟨some 41, _, _, _, _, _⟩) (v := ?_) rfl (by kernel_rfl) (by kernel_rfl) (by kernel_rfl) (by rfl) (fun _ _ _ h => h) (by rfl) ?_ (by assumption) ?_
    rotate_left
    · intro w hS
      try dsimp only at hS
      go_simp
      first | done | with_reducible rfl
    try simp only [Act.put, List.setIfInBounds_toArray, List.set_cons_zero, List.set_cons_succ]
    refine wpAnyG_pure (i := 13) (oi := ⟨some 44, _, _, _, _, _⟩) (v := ?_) rfl (by kernel_rfl) (by kernel_rfl) (by kernel_rfl) (by rfl) (fun _ _ _ h => h) (by rfl) ?_ ?_
    rotate_left
    · intro w
      go_simp
      first | done | with_reducible rfl
    try simp only [Act.put, List.setIfInBounds_toArray, List.set_cons_zero, List.set_cons_succ]
    refine wpAnyG_load (i := 14) (oi := ⟨some 45, _, _, _, _, _⟩) (v := ?_) rfl (by kernel_rfl) (by kernel_rfl) (by kernel_rfl) (by rfl) (fun _ _ _ h => h) (by rfl) ?_ (by assumption) ?_
    rotate_left
    · intro w hS
      try dsimp only at hS
      go_simp
      first | done | with_reducible rfl
    try simp only [Act.put, List.setIfInBounds_toArray, List.set_cons_zero, List.set_cons_succ]
    refine wpAnyG_pure (i := 17) (oi := ⟨some 48, _, _, _, _, _⟩) (v := ?_) rfl (by kernel_rfl) (by kernel_rfl) (by kernel_rfl) (by rfl) (fun _ _ _ h => h) (by rfl) ?_ ?_
    rotate_left
    · intro w
      go_simp
      first | done | with_reducible rfl
    try simp only [Act.put, List.setIfInBounds_toArray, List.set_cons_zero, List.set_cons_succ]
    refine wpAnyG_load (i := 18) (oi := ⟨some 49, _, _, _, _, _⟩) (v := ?_) rfl (by kernel_rfl) (by kernel_rfl) (by kernel_rfl) (by rfl) (fun _ _ _ h => h) (by rfl) ?_ (by assumption) ?_
    rotate_left
    · intro w hS
      try dsimp only at hS
      go_simp
      first | done | with_reducible rfl
    try simp only [Act.put, List.setIfInBounds_toArray, List.set_cons_zero, List.set_cons_succ]
    refine wpAnyG_pure (i := 21) (oi := ⟨some 52, _, _, _, _, _⟩) (v := ?_) rfl (by kernel_rfl) (by kernel_rfl) (by kernel_rfl) (by rfl) (fun _ _ _ h => h) (by rfl) ?_ ?_
    rotate_left
    · intro w
      go_simp
      first | done | with_reducible rfl
    try simp only [Act.put, List.setIfInBounds_toArray, List.set_cons_zero, List.set_cons_succ]
    refine wpAnyG_load (i := 22) (oi := ⟨some 53, _, _, _, _, _⟩) (v := ?_) rfl (by kernel_rfl) (by kernel_rfl) (by kernel_rfl) (by rfl) (fun _ _ _ h => h) (by rfl) ?_ (by assumption) ?_
    rotate_left
    · intro w hS
      try dsimp only at hS
      go_simp
      first | done | with_reducible rfl
    try simp only [Act.put, List.setIfInBounds_toArray, List.set_cons_zero, List.set_cons_succ]
    refine wpAnyG_pure (i := 25) (oi := ⟨some 56, _, _, _, _, _⟩) (v := ?_) rfl (by kernel_rfl) (by kernel_rfl) (by kernel_rfl) (by rfl) (fun _ _ _ h => h) (by rfl) ?_ ?_
    rotate_left
    · intro w
      go_simp
      first | done | with_reducible rfl
    try simp only [Act.put, List.setIfInBounds_toArray, List.set_cons_zero, List.set_cons_succ]
    refine wpAnyG_load (i := 26) (oi := ⟨some 57, _, _, _, _, _⟩) (v := ?_) rfl (by kernel_rfl) (by kernel_rfl) (by kernel_rfl) (by rfl) (fun _ _ _ h => h) (by rfl) ?_ (by assumption) ?_
    rotate_left
    · intro w hS
      try dsimp only at hS
      go_simp
      first | done | with_reducible rfl
    try simp only [Act.put, List.setIfInBounds_toArray, List.set_cons_zero, List.set_cons_succ]
    refine wpAnyG_pure (i := 29) (oi := ⟨some 60, _, _, _, _, _⟩) (v := ?_) rfl (by kernel_rfl) (by kernel_rfl) (by kernel_rfl) (by rfl) (fun _ _ _ h => h) (by rfl) ?_ ?_
    rotate_left
    · intro w
      go_simp
      first | done | with_reducible rfl
    try simp only [Act.put, List.setIfInBounds_toArray, List.set_cons_zero, List.set_cons_succ]
    refine wpAnyG_load (i := 30) (oi := ⟨some 61, _, _, _, _, _⟩) (v := ?_) rfl (by kernel_rfl) (by kernel_rfl) (by kernel_rfl) (by rfl) (fun _ _ _ h => h) (by rfl) ?_ (by assumption) ?_
    rotate_left
    · intro w hS
      try dsimp only at hS
      go_simp
      first | done | with_reducible rfl
    try simp only [Act.put, List.setIfInBounds_toArray, List.set_cons_zero, List.set_cons_succ]
    refine wpAnyG_keep (i := 3) (oi := ⟨some 34, _, _, _, _, _⟩) (by kernel_rfl) rfl (fun K hK => ?_)
    rw [if_pos (by rfl)]
    go_simp
    refine (B6.out _ h).mono ?_
    clear h
    rintro ev w2 ⟨rfl, h⟩
    refine hK.out _ _ ?_ (fun hS => ?_)
    · exact HC.out _ h
    clear hK K
    try simp only [Act.put, List.setIfInBounds_toArray, List.set_cons_zero, List.set_cons_succ]
    refine wpAnyG_pure (i := 4) (oi := ⟨some 35, _, _, _, _, _⟩) (v := (.string (p1 ++ p2 ++ p3 ++ p4 ++ p5 ++ p6))) rfl (by kernel_rfl) (by kernel_rfl) (by kernel_rfl) (by rfl) (fun _ _ _ h => h) (by rfl) ?_ ?_
    · intro w
      go_simp; first | done | with_reducible rfl | omega | (simp only [ByteArray.size_append]; omega)
    try simp only [Act.put, List.setIfInBounds_toArray, List.set_cons_zero, List.set_cons_succ]
    refine wpAnyG_keep (i := 7) (oi := ⟨some 38, _, _, _, _, _⟩) (by kernel_rfl) rfl (fun K hK => ?_)
    rw [if_pos (by rfl)]
    go_simp
    refine (B7.out _ h).mono ?_
    clear h
    rintro ev w2 ⟨rfl, h⟩
    refine hK.out _ _ ?_ (fun hS => ?_)
    · exact HC.out _ h
    clear hK K
    try simp only [Act.put, List.setIfInBounds_toArray, List.set_cons_zero, List.set_cons_succ]
    refine wpAnyG_pure (i := 8) (oi := ⟨some 39, _, _, _, _, _⟩) (v := (.string (p1 ++ p2 ++ p3 ++ p4 ++ p5 ++ p6 ++ p7))) rfl (by kernel_rfl) (by kernel_rfl) (by kernel_rfl) (by rfl) (fun _ _ _ h => h) (by rfl) ?_ ?_
    · intro w
      go_simp; first | done | with_reducible rfl | omega | (simp only [ByteArray.size_append]; omega)
    try simp only [Act.put, List.setIfInBounds_toArray, List.set_cons_zero, List.set_cons_succ]
    refine wpAnyG_keep (i := 11) (oi := ⟨some 42, _, _, _, _, _⟩) (by kernel_rfl) rfl (fun K hK => ?_)
    rw [if_pos (by rfl)]
    go_simp
    refine (B8.out _ h).mono ?_
    clear h
    rintro ev w2 ⟨rfl, h⟩
    refine hK.out _ _ ?_ (fun hS => ?_)
    · exact HC.out _ h
    clear hK K
    try simp only [Act.put, List.setIfInBounds_toArray, List.set_cons_zero, List.set_cons_succ]
    refine wpAnyG_pure (i := 12) (oi := ⟨some 43, _, _, _, _, _⟩) (v := (.string (p1 ++ p2 ++ p3 ++ p4 ++ p5 ++ p6 ++ p7 ++ p8))) rfl (by kernel_rfl) (by kernel_rfl) (by kernel_rfl) (by rfl) (fun _ _ _ h => h) (by rfl) ?_ ?_
    · intro w
      go_simp; first | done | with_reducible rfl | omega | (simp only [ByteArray.size_append]; omega)
    try simp only [Act.put, List.setIfInBounds_toArray, List.set_cons_zero, List.set_cons_succ]
    refine wpAnyG_keep (i := 15) (oi := ⟨some 46, _, _, _, _, _⟩) (by kernel_rfl) rfl (fun K hK => ?_)
    rw [if_pos (by rfl)]
    go_simp
    refine (B9.out _ h).mono ?_
    clear h
    rintro ev w2 ⟨rfl, h⟩
    refine hK.out _ _ ?_ (fun hS => ?_)
    · exact HC.out _ h
    clear hK K
    try simp only [Act.put, List.setIfInBounds_toArray, List.set_cons_zero, List.set_cons_succ]
    refine wpAnyG_pure (i := 16) (oi := ⟨some 47, _, _, _, _, _⟩) (v := (.string (p1 ++ p2 ++ p3 ++ p4 ++ p5 ++ p6 ++ p7 ++ p8 ++ p9))) rfl (by kernel_rfl) (by kernel_rfl) (by kernel_rfl) (by rfl) (fun _ _ _ h => h) (by rfl) ?_ ?_
    · intro w
      go_simp; first | done | with_reducible rfl | omega | (simp only [ByteArray.size_append]; omega)
    try simp only [Act.put, List.setIfInBounds_toArray, List.set_cons_zero, List.set_cons_succ]
    refine wpAnyG_keep (i := 19) (oi := ⟨some 50, _, _, _, _, _⟩) (by kernel_rfl) rfl (fun K hK => ?_)
    rw [if_pos (by rfl)]
    go_simp
    refine (B10.out _ h).mono ?_
    clear h
    rintro ev w2 ⟨rfl, h⟩
    refine hK.out _ _ ?_ (fun hS => ?_)
    · exact HC.out _ h
    clear hK K
    try simp only [Act.put, List.setIfInBounds_toArray, List.set_cons_zero, List.set_cons_succ]
    refine wpAnyG_pure (i := 20) (oi := ⟨some 51, _, _, _, _, _⟩) (v := (.string (p1 ++ p2 ++ p3 ++ p4 ++ p5 ++ p6 ++ p7 ++ p8 ++ p9 ++ p10))) rfl (by kernel_rfl) (by kernel_rfl) (by kernel_rfl) (by rfl) (fun _ _ _ h => h) (by rfl) ?_ ?_
    · intro w
      go_simp; first | done | with_reducible rfl | omega | (simp only [ByteArray.size_append]; omega)
    try simp only [Act.put, List.setIfInBounds_toArray, List.set_cons_zero, List.set_cons_succ]
    refine wpAnyG_keep (i := 23) (oi := ⟨some 54, _, _, _, _, _⟩) (by kernel_rfl) rfl (fun K hK => ?_)
    rw [if_pos (by rfl)]
    go_simp
    refine (B11.out _ h).mono ?_
    clear h
    rintro ev w2 ⟨rfl, h⟩
    refine hK.out _ _ ?_ (fun hS => ?_)
    · exact HC.out _ h
    clear hK K
    try simp only [Act.put, List.setIfInBounds_toArray, List.set_cons_zero, List.set_cons_succ]
    refine wpAnyG_pure (i := 24) (oi := ⟨some 55, _, _, _, _, _⟩) (v := (.string (p1 ++ p2 ++ p3 ++ p4 ++ p5 ++ p6 ++ p7 ++ p8 ++ p9 ++ p10 ++ p11))) rfl (by kernel_rfl) (by kernel_rfl) (by kernel_rfl) (by rfl) (fun _ _ _ h => h) (by rfl) ?_ ?_
    · intro w
      go_simp; first | done | with_reducible rfl | omega | (simp only [ByteArray.size_append]; omega)
    try simp only [Act.put, List.setIfInBounds_toArray, List.set_cons_zero, List.set_cons_succ]
    refine wpAnyG_keep (i := 27) (oi := ⟨some 58, _, _, _, _, _⟩) (by kernel_rfl) rfl (fun K hK => ?_)
    rw [if_pos (by rfl)]
    go_simp
    refine (B12.out _ h).mono ?_
    clear h
    rintro ev w2 ⟨rfl, h⟩
    refine hK.out _ _ ?_ (fun hS => ?_)
    · exact HC.out _ h
    clear hK K
    try simp only [Act.put, List.setIfInBounds_toArray, List.set_cons_zero, List.set_cons_succ]
    refine wpAnyG_pure (i := 28) (oi := ⟨some 59, _, _, _, _, _⟩) (v := (.string (p1 ++ p2 ++ p3 ++ p4 ++ p5 ++ p6 ++ p7 ++ p8 ++ p9 ++ p10 ++ p11 ++ p12))) rfl (by kernel_rfl) (by kernel_rfl) (by kernel_rfl) (by rfl) (fun _ _ _ h => h) (by rfl) ?_ ?_
    · intro w
      go_simp; first | done | with_reducible rfl | omega | (simp only [ByteArray.size_append]; omega)
    try simp only [Act.put, List.setIfInBounds_toArray, List.set_cons_zero, List.set_cons_succ]
    refine wpAnyG_keep (i := 31) (oi := ⟨some 62, _, _, _, _, _⟩) (by kernel_rfl) rfl (fun K hK => ?_)
    rw [if_pos (by rfl)]
    go_simp
    refine (B13.out _ h).mono ?_
    clear h
    rintro ev w2 ⟨rfl, h⟩
    refine hK.out _ _ ?_ (fun hS => ?_)
    · exact HC.out _ h
    clear hK K
    try simp only [Act.put, List.setIfInBounds_toArray, List.set_cons_zero, List.set_cons_succ]
    refine wpAnyG_pure (i := 32) (oi := ⟨some 63, _, _, _, _, _⟩) (v := (.string (p1 ++ p2 ++ p3 ++ p4 ++ p5 ++ p6 ++ p7 ++ p8 ++ p9 ++ p10 ++ p11 ++ p12 ++ p13))) rfl (by kernel_rfl) (by kernel_rfl) (by kernel_rfl) (by rfl) (fun _ _ _ h => h) (by rfl) ?_ ?_
    · intro w
      go_simp; first | done | with_reducible rfl | omega | (simp only [ByteArray.size_append]; omega)
    try simp only [Act.put, List.setIfInBounds_toArray, List.set_cons_zero, List.set_cons_succ]
    refine wpAnyG_pure (i := 33) (oi := ⟨some 5, _, _, _, _, _⟩) (v := ?_) rfl (by kernel_rfl) (by kernel_rfl) (by kernel_rfl) (by rfl) (fun _ _ _ h => h) (by rfl) ?_ ?_
    rotate_left
    · intro w
      go_simp
      first | done | with_reducible rfl
    try simp only [Act.put, List.setIfInBounds_toArray, List.set_cons_zero, List.set_cons_succ]
    refine wpAnyG_done (by kernel_rfl) ?_ _
    refine NoPanic.normal ?_
    have c0 := HD.out _ h
    have H3 := Lib.hid h
    clear h
    have q0 : ¬ 9223372036854775807 < 1 + p0.size := by omega
    go_wp2_with (first
      | (with_reducible refine (B0.out _ H3.out).mono ?_; clear H3; rintro ev w2 ⟨rfl, h⟩; have H3 := Lib.hid h; clear h)
      | (with_reducible refine at_slot (k := none) ?_; refine wpList_store_whole (o := ⟨none, _, _, _, _, _⟩) (cs := [.string ⟨#[]⟩, .string ⟨#[]⟩]) (vs := [.string (⟨#[102]⟩ ++ p0), .string (p1 ++ p2 ++ p3 ++ p4 ++ p5 ++ p6 ++ p7 ++ p8 ++ p9 ++ p10 ++ p11 ++ p12 ++ p13)]) H3.out rfl (pair_one _ _) (by kernel_rfl) rfl rfl rfl rfl ?_; clear H3; intro w7 h; have H9 := Lib.hid h; clear h))
    refine bodyPost_ret (results_ct rfl rfl H9.out hd hrow (by kernel_rfl)) rfl ?_
    exact ⟨by rw [HV.out]; rfl, H9.out.drop.drop⟩
  · have HR : Hid (famR id cl su xs cr us ii ab gr ge tk st en co = (noB, noB, 140)) := Lib.hid (if_neg hm)
    have KM : Hid (∀ w3 : World, Own E w3 (Hp.blk (w.heap.size + 1) ITT #[.string ⟨#[]⟩, .string ⟨#[]⟩] :: Hp.blk w.heap.size FMT (famC id cl su A n c cr us ii ab gr ge tk st en co).toArray :: Hp.ro S :: L) → Calls Tryz.prog 105 #[.agg (famC id cl su A n c cr us ii ab gr ge tk st en co).toArray] w3 fun ev w' => ev = .returned (.bool false) ∧ Own E w' (Hp.blk (w.heap.size + 1) ITT #[.string ⟨#[]⟩, .string ⟨#[]⟩] :: Hp.blk w.heap.size FMT (famC id cl su A n c cr us ii ab gr ge tk st en co).toArray :: Hp.ro S :: L)) := Lib.hid fun w3 h3 => (xfamilymay_any id cl su A n c cr us ii ab gr ge tk st en co xs w3 hr hsz hcl hsu hn43 (show Own E w3 (Hp.ro S :: Hp.blk (w.heap.size + 1) ITT #[.string ⟨#[]⟩, .string ⟨#[]⟩] :: Hp.blk w.heap.size FMT (famC id cl su A n c cr us ii ab gr ge tk st en co).toArray :: L) from h3.f2)).mono fun ev w' he => ⟨by rw [he.1, decide_eq_false hm], he.2.f2.f2⟩
    clear h h1 h2 hm hr hsz hcl hsu
    unfold famC at *
    go_enter Tryz.func45, Tryz.ntmps45
    go_wp2_with (first
      | (with_reducible refine (KM.out _ H3.out).mono ?_; clear H3; rintro ev w2 ⟨rfl, h⟩; have H3 := Lib.hid h; clear h)
      | (with_reducible refine at_slot (k := none) ?_; refine wpList_store_whole (o := ⟨none, _, _, _, _, _⟩) (cs := [.string ⟨#[]⟩, .string ⟨#[]⟩]) (vs := [.string ⟨#[]⟩, .string ⟨#[]⟩]) H3.out rfl (pair_one ⟨#[]⟩ ⟨#[]⟩) (by kernel_rfl) rfl rfl rfl rfl ?_; clear H3; intro w7 h; have H8 := Lib.hid h; clear h))
    refine bodyPost_ret (results_ct rfl rfl H8.out hd hrow (by kernel_rfl)) rfl ?_
    exact ⟨by rw [HR.out]; rfl, H8.out.drop.drop⟩
end
end Go.Proofs.YtabibfabieghpaaGreatDoor
namespace Go.Proofs.YtabibfabieghpaaGreatDoor
open Go.RowKit
section
variable {E : World} {L : List Hp}
set_option maxRecDepth 20000 in
set_option maxHeartbeats 8000000 in
theorem xends_any (b c : Int) (w : World) (hb : 0 ≤ b ∧ b ≤ 1099511627776) (hc : 1 ≤ c ∧ c ≤ 4611686018427387904) (h : Own E w L) :
    Calls Tryz.prog 106 #[.int .i64 b, .int .i64 c] w fun ev w' => ev = .returned (.agg #[.string (exK b c), .string ⟨#[]⟩]) ∧ Own E w' L := by
  obtain ⟨dd, hd, hrow⟩ := itt_u
  have h1 := h.alloc (.cells #[.string ⟨#[]⟩, .string ⟨#[]⟩] ITT)
  have H3 := Lib.hid h1
  have hb1 := fun wq (h : Own E wq (Hp.blk w.heap.size ITT #[.string ⟨#[]⟩, .string ⟨#[]⟩] :: L)) => by_any (E := E) b 6 wq (by omega) (by omega) (by omega) h
  have hb2 := fun wq (h : Own E wq (Hp.blk w.heap.size ITT #[.string ⟨#[]⟩, .string ⟨#[]⟩] :: L)) => by_any (E := E) c 8 wq (by omega) (by omega) (by omega) h
  have hz1 : (⟨(byN 6 b.toNat).toArray⟩ : ByteArray).size ≤ 8 := by rw [fl_size, byN_len]; omega
  have hz2 : (⟨(byN 8 c.toNat).toArray⟩ : ByteArray).size ≤ 8 := by rw [fl_size, byN_len]; omega
  have hk : exK b c = (⟨#[120]⟩ : ByteArray) ++ ⟨(byN 6 b.toNat).toArray⟩ ++ ⟨(byN 8 c.toNat).toArray⟩ := by
    unfold exK
    refine (bytes_ext _ _ ?_).symm
    simp
  rw [hk]
  clear hk h h1
  generalize (⟨(byN 6 b.toNat).toArray⟩ : ByteArray) = p1 at *
  generalize (⟨(byN 8 c.toNat).toArray⟩ : ByteArray) = p2 at *
  simp only [show ((6 : Nat) : Int) = 6 from rfl, show ((8 : Nat) : Int) = 8 from rfl] at hb1 hb2
  have B1 := Lib.hid hb1
  have B2 := Lib.hid hb2
  have q1 : ¬ 9223372036854775807 < 1 + p1.size := by omega
  have q2 : ¬ 9223372036854775807 < 1 + p1.size + p2.size := by omega
  clear hb1 hb2 hz1 hz2 hb hc
  go_enter Tryz.func106, Tryz.ntmps106
  go_wp2_with (first
    | (with_reducible refine (B1.out _ H3.out).mono ?_; clear H3; rintro ev w2 ⟨rfl, h⟩; have H3 := Lib.hid h; clear h)
    | (with_reducible refine (B2.out _ H3.out).mono ?_; clear H3; rintro ev w2 ⟨rfl, h⟩; have H3 := Lib.hid h; clear h)
    | (with_reducible refine at_slot (k := none) ?_; refine wpList_store_whole (o := ⟨none, _, _, _, _, _⟩) (cs := [.string ⟨#[]⟩, .string ⟨#[]⟩]) (vs := [.string (⟨#[120]⟩ ++ p1 ++ p2), .string ⟨#[]⟩]) H3.out rfl (pair_one _ _) (by kernel_rfl) rfl rfl rfl rfl ?_; clear H3; intro w7 h; have H9 := Lib.hid h; clear h))
  refine bodyPost_ret (results_arr rfl rfl H9.out hd hrow (by kernel_rfl)) rfl ?_
  exact ⟨rfl, H9.out.drop⟩
set_option maxRecDepth 20000 in
set_option maxHeartbeats 8000000 in
theorem xsubjects_any (su : ByteArray) (c : Int) (w : World) (hs : su.size ≤ 1000) (hc : 1 ≤ c ∧ c ≤ 4611686018427387904) (h : Own E w L) :
    Calls Tryz.prog 107 #[.string su, .int .i64 c] w fun ev w' => ev = .returned (.agg #[.string (suK su c), .string ⟨#[]⟩]) ∧ Own E w' L := by
  obtain ⟨dd, hd, hrow⟩ := itt_u
  have h1 := h.alloc (.cells #[.string ⟨#[]⟩, .string ⟨#[]⟩] ITT)
  have H3 := Lib.hid h1
  have hb2 := fun wq (h : Own E wq (Hp.blk w.heap.size ITT #[.string ⟨#[]⟩, .string ⟨#[]⟩] :: L)) => by_any (E := E) c 8 wq (by omega) (by omega) (by omega) h
  have hz2 : (⟨(byN 8 c.toNat).toArray⟩ : ByteArray).size ≤ 8 := by rw [fl_size, byN_len]; omega
  have hk : suK su c = (⟨#[115]⟩ : ByteArray) ++ su ++ ⟨#[0]⟩ ++ ⟨(byN 8 c.toNat).toArray⟩ := by
    unfold suK
    refine (bytes_ext _ _ ?_).symm
    simp
  rw [hk]
  clear hk h h1
  generalize (⟨(byN 8 c.toNat).toArray⟩ : ByteArray) = p2 at *
  simp only [show ((8 : Nat) : Int) = 8 from rfl] at hb2
  have B2 := Lib.hid hb2
  have q1 : ¬ 9223372036854775807 < 1 + su.size := by omega
  have q2 : ¬ 9223372036854775807 < 1 + su.size + 1 := by omega
  have q3 : ¬ 9223372036854775807 < 1 + su.size + 1 + p2.size := by omega
  clear hb2 hz2 hc hs
  go_enter Tryz.func107, Tryz.ntmps107
  go_wp2_with (first
    | (with_reducible refine (B2.out _ H3.out).mono ?_; clear H3; rintro ev w2 ⟨rfl, h⟩; have H3 := Lib.hid h; clear h)
    | (with_reducible refine at_slot (k := none) ?_; refine wpList_store_whole (o := ⟨none, _, _, _, _, _⟩) (cs := [.string ⟨#[]⟩, .string ⟨#[]⟩]) (vs := [.string (⟨#[115]⟩ ++ su ++ ⟨#[0]⟩ ++ p2), .string ⟨#[]⟩]) H3.out rfl (pair_one _ _) (by kernel_rfl) rfl rfl rfl rfl ?_; clear H3; intro w7 h; have H9 := Lib.hid h; clear h))
  refine bodyPost_ret (results_arr rfl rfl H9.out hd hrow (by kernel_rfl)) rfl ?_
  exact ⟨rfl, H9.out.drop⟩
end
section
variable {E : World} {S : Ph} {L : List Hp}
set_option maxRecDepth 20000 in
set_option maxHeartbeats 8000000 in
theorem xoffam_any (id : Int) (cl su : ByteArray) (A : Option Addr) (n c : Nat) (cr us ii ab gr ge tk st en co : Int) (xs : List ByteArray) (w : World) (hm : famMay id cl su xs cr us ii ab gr ge tk st en co) (hr : Rds S 1 enStr A n xs) (hsz : ∀ x ∈ xs, x.size ≤ 1000000000000000000) (hn43 : n ≤ 8796093022208) (h : Own E w (Hp.ro S :: L)) :
    Calls Tryz.prog 46 #[.agg (famC id cl su A n c cr us ii ab gr ge tk st en co).toArray] w fun ev w' => ∃ g, ev = .returned (.tuple #[.slice (some ⟨g, 0, none⟩) 2 2, .int .i64 0]) ∧ Own E w' (Hp.blk g ITT ([(exK (endV st cr us ii ab en) id, noB), (suK su id, noB)].flatMap enP).toArray :: Hp.ro S :: L) := by
  have H3 := Lib.hid (show Own E _ (Hp.blk w.heap.size FMT (famC id cl su A n c cr us ii ab gr ge tk st en co).toArray :: Hp.ro S :: L) from h.alloc (.cells (famC id cl su A n c cr us ii ab gr ge tk st en co).toArray FMT))
  have hrg := fam_range hm
  have hev := end_range hm
  have hid := hm.1
  have hz1 := hrg.1
  have hz2 := hrg.2.1
  have KM : Hid (∀ w3 : World, Own E w3 (Hp.blk w.heap.size FMT (famC id cl su A n c cr us ii ab gr ge tk st en co).toArray :: Hp.ro S :: L) → Calls Tryz.prog 105 #[.agg (famC id cl su A n c cr us ii ab gr ge tk st en co).toArray] w3 fun ev w' => ev = .returned (.bool true) ∧ Own E w' (Hp.blk w.heap.size FMT (famC id cl su A n c cr us ii ab gr ge tk st en co).toArray :: Hp.ro S :: L)) := Lib.hid fun w3 h3 => (xfamilymay_any id cl su A n c cr us ii ab gr ge tk st en co xs w3 hr hsz (by omega) (by omega) hn43 (show Own E w3 (Hp.ro S :: Hp.blk w.heap.size FMT (famC id cl su A n c cr us ii ab gr ge tk st en co).toArray :: L) from h3.f1)).mono fun ev w' he => ⟨by rw [he.1, decide_eq_true hm], he.2.f1⟩
  have KE : Hid (∀ w3 : World, Own E w3 (Hp.blk w.heap.size FMT (famC id cl su A n c cr us ii ab gr ge tk st en co).toArray :: Hp.ro S :: L) → Calls Tryz.prog 47 #[.agg (famC id cl su A n c cr us ii ab gr ge tk st en co).toArray] w3 fun ev w' => ev = .returned (.int .i64 (endV st cr us ii ab en)) ∧ Own E w' (Hp.blk w.heap.size FMT (famC id cl su A n c cr us ii ab gr ge tk st en co).toArray :: Hp.ro S :: L)) := Lib.hid fun w3 h3 => xend_any id cl su A n c cr us ii ab gr ge tk st en co w3 h3
  have K1 : Hid (∀ w3 : World, Own E w3 (Hp.blk w.heap.size FMT (famC id cl su A n c cr us ii ab gr ge tk st en co).toArray :: Hp.ro S :: L) → Calls Tryz.prog 106 #[.int .i64 (endV st cr us ii ab en), .int .i64 id] w3 fun ev w' => ev = .returned (.agg #[.string (exK (endV st cr us ii ab en) id), .string ⟨#[]⟩]) ∧ Own E w' (Hp.blk w.heap.size FMT (famC id cl su A n c cr us ii ab gr ge tk st en co).toArray :: Hp.ro S :: L)) := Lib.hid fun w3 h3 => xends_any _ _ w3 hev hid h3
  have K2 : Hid (∀ w3 : World, Own E w3 (Hp.blk w.heap.size FMT (famC id cl su A n c cr us ii ab gr ge tk st en co).toArray :: Hp.ro S :: L) → Calls Tryz.prog 107 #[.string su, .int .i64 id] w3 fun ev w' => ev = .returned (.agg #[.string (suK su id), .string ⟨#[]⟩]) ∧ Own E w' (Hp.blk w.heap.size FMT (famC id cl su A n c cr us ii ab gr ge tk st en co).toArray :: Hp.ro S :: L)) := Lib.hid fun w3 h3 => xsubjects_any _ _ w3 (by omega) hid h3
  obtain ⟨dF, hdF, hrF⟩ := fmt_u
  have PA : Hid (∀ j u, (famC id cl su A n c cr us ii ab gr ge tk st en co)[j]? = some u → (famC id cl su A n c cr us ii ab gr ge tk st en co).toArray[0 + j]? = some u) := Lib.hid fun j u hu => by rw [Nat.zero_add]; simpa using hu
  have hlen : (Tryz.prog.info? FMT).map (·.size) = some (famC id cl su A n c cr us ii ab gr ge tk st en co).length := by kernel_rfl
  have HC : Hid (∀ w', Own E w' (Hp.blk w.heap.size FMT (famC id cl su A n c cr us ii ab gr ge tk st en co).toArray :: Hp.ro S :: L) → w'.rangeAt w.heap.size 0 (famC id cl su A n c cr us ii ab gr ge tk st en co) ∧ w'.cell? ⟨w.heap.size, 0, none⟩ = some (.int .i64 id) ∧ w'.cell? ⟨w.heap.size, 2, none⟩ = some (.string su)) := Lib.hid fun w' h => ⟨h.range 0 _ PA.out, (h.cell 0).trans rfl, (h.cell 2).trans rfl⟩
  clear h hm hrg hev hid hr hsz hz1 hz2
  generalize exK (endV st cr us ii ab en) id = x1 at *
  generalize suK su id = x2 at *
  generalize hFC : famC id cl su A n c cr us ii ab gr ge tk st en co = FC at *
  go_enter Tryz.func46, Tryz.ntmps46
  go_wp2_with (first
    | (with_reducible refine at_slot (k := some 5) ?_; refine wpList_load_arr (o := ⟨some 5, _, _, _, _, _⟩) H3.out 0 FC PA.out hdF hrF hlen rfl rfl rfl ?_)
    | (with_reducible refine (KM.out _ H3.out).mono ?_; clear H3 KM; rintro ev w2 ⟨rfl, h⟩; have H3 := Lib.hid h; clear h))
  have h := H3.out.drew
  clear H3
  refine wp_region_text [0, 3, 6, 8] (fun w' => w'.rangeAt w.heap.size 0 FC ∧ w'.cell? ⟨w.heap.size, 0, none⟩ = some (.int .i64 id) ∧ w'.cell? ⟨w.heap.size, 2, none⟩ = some (.string su)) (by kernel_rfl) ?_ (fun hS => ?_)
  · exact HC.out _ h
  refine wpAnyG_load (i := 0) (oi := ⟨some 9, _, _, _, _, _⟩) (v := (.agg FC.toArray)) rfl (by kernel_rfl) (by kernel_rfl) (by kernel_rfl) (by rfl) (fun _ _ _ h => h) (by rfl) ?_ (by assumption) ?_
  · intro w hS
    exact exec_load_mid FMT _ rfl _ 0 rfl FC dF hS.1 hdF hrF hlen
  try simp only [Act.put, List.setIfInBounds_toArray, List.set_cons_zero, List.set_cons_succ]
  refine wpAnyG_pure (i := 2) (oi := ⟨some 11, _, _, _, _, _⟩) (v := ?_) rfl (by kernel_rfl) (by kernel_rfl) (by kernel_rfl) (by rfl) (fun _ _ _ h => h) (by rfl) ?_ ?_
  rotate_left
  · intro w
    go_simp
    first | done | with_reducible rfl
  try simp only [Act.put, List.setIfInBounds_toArray, List.set_cons_zero, List.set_cons_succ]
  refine wpAnyG_load (i := 3) (oi := ⟨some 12, _, _, _, _, _⟩) (v := (.int .i64 id)) rfl (by kernel_rfl) (by kernel_rfl) (by kernel_rfl) (by rfl) (fun _ _ _ h => h) (by rfl) ?_ (by assumption) ?_
  · intro w hS
    obtain ⟨-, b0, b2⟩ := hS; go_simp; first | done | with_reducible rfl
  try simp only [Act.put, List.setIfInBounds_toArray, List.set_cons_zero, List.set_cons_succ]
  refine wpAnyG_pure (i := 5) (oi := ⟨some 14, _, _, _, _, _⟩) (v := ?_) rfl (by kernel_rfl) (by kernel_rfl) (by kernel_rfl) (by rfl) (fun _ _ _ h => h) (by rfl) ?_ ?_
  rotate_left
  · intro w
    go_simp
    first | done | with_reducible rfl
  try simp only [Act.put, List.setIfInBounds_toArray, List.set_cons_zero, List.set_cons_succ]
  refine wpAnyG_load (i := 6) (oi := ⟨some 15, _, _, _, _, _⟩) (v := (.string su)) rfl (by kernel_rfl) (by kernel_rfl) (by kernel_rfl) (by rfl) (fun _ _ _ h => h) (by rfl) ?_ (by assumption) ?_
  · intro w hS
    obtain ⟨-, b0, b2⟩ := hS; go_simp; first | done | with_reducible rfl
  try simp only [Act.put, List.setIfInBounds_toArray, List.set_cons_zero, List.set_cons_succ]
  refine wpAnyG_pure (i := 7) (oi := ⟨some 16, _, _, _, _, _⟩) (v := ?_) rfl (by kernel_rfl) (by kernel_rfl) (by kernel_rfl) (by rfl) (fun _ _ _ h => h) (by rfl) ?_ ?_
  rotate_left
  · intro w
    go_simp
    first | done | with_reducible rfl
  try simp only [Act.put, List.setIfInBounds_toArray, List.set_cons_zero, List.set_cons_succ]
  refine wpAnyG_load (i := 8) (oi := ⟨some 17, _, _, _, _, _⟩) (v := (.int .i64 id)) rfl (by kernel_rfl) (by kernel_rfl) (by kernel_rfl) (by rfl) (fun _ _ _ h => h) (by rfl) ?_ (by assumption) ?_
  · intro w hS
    obtain ⟨-, b0, b2⟩ := hS; go_simp; first | done | with_reducible rfl
  try simp only [Act.put, List.setIfInBounds_toArray, List.set_cons_zero, List.set_cons_succ]
  refine wpAnyG_keep (i := 1) (oi := ⟨some 10, _, _, _, _, _⟩) (by kernel_rfl) rfl (fun K hK => ?_)
  rw [if_pos (by rfl)]
  go_simp
  refine (KE.out _ h).mono ?_
  clear h
  rintro ev w4 ⟨rfl, h⟩
  refine hK.out _ _ ?_ (fun hS => ?_)
  · exact HC.out _ h
  clear hK K
  try simp only [Act.put, List.setIfInBounds_toArray, List.set_cons_zero, List.set_cons_succ]
  refine wpAnyG_keep (i := 4) (oi := ⟨some 13, _, _, _, _, _⟩) (by kernel_rfl) rfl (fun K hK => ?_)
  rw [if_pos (by rfl)]
  go_simp
  refine (K1.out _ h).mono ?_
  clear h
  rintro ev w4 ⟨rfl, h⟩
  refine hK.out _ _ ?_ (fun hS => ?_)
  · exact HC.out _ h
  clear hK K
  try simp only [Act.put, List.setIfInBounds_toArray, List.set_cons_zero, List.set_cons_succ]
  refine wpAnyG_keep (i := 9) (oi := ⟨some 18, _, _, _, _, _⟩) (by kernel_rfl) rfl (fun K hK => ?_)
  rw [if_pos (by rfl)]
  go_simp
  refine (K2.out _ h).mono ?_
  clear h
  rintro ev w4 ⟨rfl, h⟩
  refine hK.out _ _ ?_ (fun hS => ?_)
  · exact HC.out _ h
  clear hK K
  try simp only [Act.put, List.setIfInBounds_toArray, List.set_cons_zero, List.set_cons_succ]
  refine wpAnyG_keep (i := 10) (oi := ⟨some 19, _, _, _, _, _⟩) (by kernel_rfl) rfl (fun K hK => ?_)
  rw [if_pos (by rfl)]
  refine wp_pairs [(x1, ⟨#[]⟩), (x2, ⟨#[]⟩)] h rfl rfl (by omega) (by omega) (by first | kernel_rfl | rfl) (fun g w9 h => ?_)
  refine hK.out _ _ ?_ (fun hS => ?_)
  · exact HC.out _ h.drop
  clear hK K
  try simp only [Act.put, List.setIfInBounds_toArray, List.set_cons_zero, List.set_cons_succ]
  refine wpAnyG_pure (i := 11) (oi := ⟨some 2, _, _, _, _, _⟩) (v := ?_) rfl (by kernel_rfl) (by kernel_rfl) (by kernel_rfl) (by rfl) (fun _ _ _ h => h) (by rfl) ?_ ?_
  rotate_left
  · intro w
    go_simp
    first | done | with_reducible rfl
  try simp only [Act.put, List.setIfInBounds_toArray, List.set_cons_zero, List.set_cons_succ]
  refine wpAnyG_pure (i := 12) (oi := ⟨some 3, _, _, _, _, _⟩) (v := ?_) rfl (by kernel_rfl) (by kernel_rfl) (by kernel_rfl) (by rfl) (fun _ _ _ h => h) (by rfl) ?_ ?_
  rotate_left
  · intro w
    go_simp
    first | done | with_reducible rfl
  try simp only [Act.put, List.setIfInBounds_toArray, List.set_cons_zero, List.set_cons_succ]
  refine wpAnyG_done (by kernel_rfl) ?_ _
  refine NoPanic.normal ?_
  go_wp2_with fail
  go_ret2
  exact ⟨g, rfl, h.f1.drop⟩
end
end Go.Proofs.YtabibfabieghpaaGreatDoor
