/- A code's cells; record.codeMay (printed by gen_cd.py). The code's fields; record.PrintCode (printed by gen_cd.py). The reference's CodeMay (printed by gen_cd.py). The reference's PrintCode (printed by gen_cd.py). The law's sameCode, of two that are alike (printed by gen_cd.py). -/
import Derived.Test.YtabibfabieghpaaGreatDoorPkF
namespace Go.Proofs.YtabibfabieghpaaGreatDoor
open Go.RowKit
abbrev CDT : TypeId := 66
def codeC (id : Int) (cl su : ByteArray) (A : Option Addr) (n c : Nat) (hs ch : ByteArray) (un st fa : Int) : List Value := [.int .i64 id, .string cl, .string su, .slice A n c, .string hs, .string ch, .int .i64 un, .int .i64 st, .int .i64 fa]
def codeMay (id : Int) (cl su : ByteArray) (xs : List ByteArray) (hs ch : ByteArray) (un st fa : Int) : Prop := (1 ≤ id ∧ id ≤ 4611686018427387904) ∧ nameB cl = true ∧ nameB su = true ∧ scErr xs = 0 ∧ hs.size = 32 ∧ ch.size = 32 ∧ (0 ≤ un ∧ un ≤ 1099511627776) ∧ ((st = 1 ∧ fa = 0) ∨ (st = 2 ∧ (1 ≤ fa ∧ fa ≤ 4611686018427387904)))
instance (id : Int) (cl su : ByteArray) (xs : List ByteArray) (hs ch : ByteArray) (un st fa : Int) : Decidable (codeMay id cl su xs hs ch un st fa) := by unfold codeMay; exact inferInstance
section
variable {E : World} {S : Ph} {L : List Hp}
theorem code_cells {w : World} {b : Nat} (id : Int) (cl su : ByteArray) (A : Option Addr) (n c : Nat) (hs ch : ByteArray) (un st fa : Int) (h : Own E w (Hp.blk b CDT (codeC id cl su A n c hs ch un st fa).toArray :: L)) :
    w.cell? ⟨b, 0, none⟩ = some (.int .i64 id) ∧ w.cell? ⟨b, 1, none⟩ = some (.string cl) ∧ w.cell? ⟨b, 2, none⟩ = some (.string su) ∧ w.cell? ⟨b, 3, none⟩ = some (.slice A n c) ∧ w.cell? ⟨b, 4, none⟩ = some (.string hs) ∧ w.cell? ⟨b, 5, none⟩ = some (.string ch) ∧ w.cell? ⟨b, 6, none⟩ = some (.int .i64 un) ∧ w.cell? ⟨b, 7, none⟩ = some (.int .i64 st) ∧ w.cell? ⟨b, 8, none⟩ = some (.int .i64 fa) := by
  refine ⟨(h.cell 0).trans rfl, (h.cell 1).trans rfl, (h.cell 2).trans rfl, (h.cell 3).trans rfl, (h.cell 4).trans rfl, (h.cell 5).trans rfl, (h.cell 6).trans rfl, (h.cell 7).trans rfl, (h.cell 8).trans rfl⟩
set_option maxRecDepth 20000 in
set_option maxHeartbeats 8000000 in
theorem codemay_any (id : Int) (cl su : ByteArray) (A : Option Addr) (n c : Nat) (hs ch : ByteArray) (un st fa : Int) (xs : List ByteArray) (w : World) (hr : Rds S 1 enStr A n xs) (hnc : n ≤ c) (hn43 : n ≤ 8796093022208) (h : Own E w (Hp.ro S :: L)) :
    Calls Tryz.prog 89 #[.agg (codeC id cl su A n c hs ch un st fa).toArray] w fun ev w' => ev = .returned (.bool (decide (codeMay id cl su xs hs ch un st fa))) ∧ Own E w' (Hp.ro S :: L) := by
  have H1 := Lib.hid (show Own E _ (Hp.blk w.heap.size CDT (codeC id cl su A n c hs ch un st fa).toArray :: Hp.ro S :: L) from h.alloc (.cells (codeC id cl su A n c hs ch un st fa).toArray CDT))
  obtain ⟨n1, hn1⟩ : ∃ nv : Int, nameB cl = decide (nv = 1) := ⟨if nameB cl then 1 else 0, by cases nameB cl <;> rfl⟩
  obtain ⟨n2, hn2⟩ : ∃ nv : Int, nameB su = decide (nv = 1) := ⟨if nameB su then 1 else 0, by cases nameB su <;> rfl⟩
  obtain ⟨jn, hjn⟩ : ∃ jn : Int, fa = 0 ↔ jn = 1 := ⟨if fa = 0 then 1 else 0, by split <;> simp_all⟩
  obtain ⟨q1, hq1⟩ : ∃ q : Int, st = 1 ↔ q = 1 := ⟨if st = 1 then 1 else 0, by split <;> simp_all⟩
  obtain ⟨q2, hq2⟩ : ∃ q : Int, st = 2 ↔ q = 1 := ⟨if st = 2 then 1 else 0, by split <;> simp_all⟩
  have zj : (fa == 0) = decide (jn = 1) := by rw [Bool.eq_iff_iff, beq_iff_eq, decide_eq_true_eq, hjn]
  have z1 : (st == 1) = decide (q1 = 1) := by rw [Bool.eq_iff_iff, beq_iff_eq, decide_eq_true_eq, hq1]
  have z2 : (st == 2) = decide (q2 = 1) := by rw [Bool.eq_iff_iff, beq_iff_eq, decide_eq_true_eq, hq2]
  have KR := Lib.hid (fun (w3 : World) (h3 : Own E w3 (Hp.blk w.heap.size CDT (codeC id cl su A n c hs ch un st fa).toArray :: Hp.ro S :: L)) => right_any (E := E) (S := S) (L := Hp.blk w.heap.size CDT (codeC id cl su A n c hs ch un st fa).toArray :: L) A n c xs w3 hr hnc hn43 h3.f1)
  obtain ⟨sx, hsx⟩ : ∃ sx : Int, sx = scErr xs := ⟨_, rfl⟩
  rw [← hsx] at KR
  have K1 := Lib.hid (fun (w3 : World) (h3 : Own E w3 (Hp.blk w.heap.size CDT (codeC id cl su A n c hs ch un st fa).toArray :: Hp.ro S :: L)) => isname_any cl w3 h3)
  have K2 := Lib.hid (fun (w3 : World) (h3 : Own E w3 (Hp.blk w.heap.size CDT (codeC id cl su A n c hs ch un st fa).toArray :: Hp.ro S :: L)) => isname_any su w3 h3)
  rw [hn1] at K1
  rw [hn2] at K2
  have hiff : codeMay id cl su xs hs ch un st fa ↔ ((1 ≤ id ∧ id ≤ 4611686018427387904) ∧ n1 = 1 ∧ n2 = 1 ∧ sx = 0 ∧ hs.size = 32 ∧ ch.size = 32 ∧ (0 ≤ un ∧ un ≤ 1099511627776) ∧ ((q1 = 1 ∧ jn = 1) ∨ (q2 = 1 ∧ (1 ≤ fa ∧ fa ≤ 4611686018427387904)))) := by
    unfold codeMay
    rw [hn1, hn2, hjn, hq1, hq2, ← hsx, decide_eq_true_iff, decide_eq_true_iff]
  have HI := Lib.hid hiff
  have HX := Lib.hid (show ¬ (q1 = 1 ∧ q2 = 1) by rw [← hq1, ← hq2]; omega)
  have k1 := fun w => isid_any id w
  have k2 := fun w => istime_any un w
  have k3 := fun w => isdigest_any hs w
  have k4 := fun w => isdigest_any ch w
  have k5 := fun w => isid_any fa w
  clear h hiff hn1 hn2 hjn hq1 hq2 hsx hr
  go_enter Tryz.func89, Tryz.ntmps89
  obtain ⟨d0, d1, d2, d3, d4, d5, d6, d7, d8⟩ := code_cells id cl su A n c hs ch un st fa H1.out
  go_wp2_with (first
    | (with_reducible refine (k1 _).mono ?_; rintro ev w2 ⟨rfl, rfl⟩)
    | (with_reducible refine (k2 _).mono ?_; rintro ev w2 ⟨rfl, rfl⟩)
    | (with_reducible refine (k3 _).mono ?_; rintro ev w2 ⟨rfl, rfl⟩)
    | (with_reducible refine (k4 _).mono ?_; rintro ev w2 ⟨rfl, rfl⟩)
    | (with_reducible refine (k5 _).mono ?_; rintro ev w2 ⟨rfl, rfl⟩)
    | (with_reducible refine (K1.out _ H1.out).mono ?_; clear H1 d0 d1 d2 d3 d4 d5 d6 d7 d8; rintro ev w2 ⟨rfl, h⟩; have H1 := Lib.hid (show Own E w2 (Hp.blk w.heap.size CDT (codeC id cl su A n c hs ch un st fa).toArray :: Hp.ro S :: L) from h); clear h; obtain ⟨d0, d1, d2, d3, d4, d5, d6, d7, d8⟩ := code_cells id cl su A n c hs ch un st fa H1.out)
    | (with_reducible refine (K2.out _ H1.out).mono ?_; clear H1 d0 d1 d2 d3 d4 d5 d6 d7 d8; rintro ev w2 ⟨rfl, h⟩; have H1 := Lib.hid (show Own E w2 (Hp.blk w.heap.size CDT (codeC id cl su A n c hs ch un st fa).toArray :: Hp.ro S :: L) from h); clear h; obtain ⟨d0, d1, d2, d3, d4, d5, d6, d7, d8⟩ := code_cells id cl su A n c hs ch un st fa H1.out)
    | (with_reducible refine (KR.out _ H1.out).mono ?_; clear H1 d0 d1 d2 d3 d4 d5 d6 d7 d8; rintro ev w2 ⟨rfl, h⟩; have H1 := Lib.hid (show Own E w2 (Hp.blk w.heap.size CDT (codeC id cl su A n c hs ch un st fa).toArray :: Hp.ro S :: L) from h.f1); clear h; obtain ⟨d0, d1, d2, d3, d4, d5, d6, d7, d8⟩ := code_cells id cl su A n c hs ch un st fa H1.out))
  all_goals go_ret
  all_goals
    refine ⟨(show Ending.returned (Value.bool _) = Ending.returned (Value.bool _) from ret_bool ?_), H1.out.drop⟩
    rw [Bool.eq_iff_iff]
    refine Iff.trans ?_ (decide_eq_true_iff.trans HI.out).symm
    have hx := HX.out
    (first | omega | (simp <;> omega) | ((try simp only [Bool.not_eq_true'] at *); (try simp only [Bool.not_eq_false'] at *); (try simp only [decide_eq_true_eq] at *); (try simp only [decide_eq_false_iff_not] at *); (try simp only [bne_iff_ne] at *); (try simp only [ne_eq] at *); (try simp only [bne_eq_false_iff_eq] at *); first | omega | (simp <;> omega)))
end
end Go.Proofs.YtabibfabieghpaaGreatDoor
namespace Go.Proofs.YtabibfabieghpaaGreatDoor
open Go.RowKit
def codeFs (tb fb : Nat) : List (Fk × Addr) := [(.text, ⟨tb, 1, none⟩), (.text, ⟨tb, 2, none⟩), (.text, ⟨fb, 0, none⟩), (.raw 32, ⟨tb, 4, none⟩), (.raw 32, ⟨tb, 5, none⟩), (.num 6, ⟨tb, 6, none⟩), (.num 1, ⟨tb, 7, none⟩), (.num 8, ⟨tb, 8, none⟩)]
section
variable {E : World} {L : List Hp}
set_option maxRecDepth 20000 in
set_option maxHeartbeats 4000000 in
theorem codefields_any (tb fb : Nat) (w : World) (h : Own E w L) :
    Calls Tryz.prog 90 #[.pointer (some ⟨tb, 0, none⟩), .pointer (some ⟨fb, 0, none⟩)] w fun e w' => ∃ b, e = .returned (.slice (some ⟨b, 0, none⟩) 8 8) ∧ Own E w' (Hp.blk b FT ((codeFs tb fb).flatMap enF).toArray :: L) := by
  go_enter Tryz.func90, Tryz.ntmps90
  go_wp2_with fail
  refine wp_region_text [] (fun w => Own E w L) (by kernel_rfl) ?_ (fun hS => ?_)
  · exact h.drew
  refine wpAnyG_pure (i := 0) (oi := ⟨some 5, _, _, _, _, _⟩) (v := ?_) rfl (by kernel_rfl) (by kernel_rfl) (by kernel_rfl) (by rfl) (fun _ _ _ h => h) (by rfl) ?_ ?_
  rotate_left
  · intro w
    go_simp
    first | done | with_reducible rfl
  try simp only [Act.put, List.setIfInBounds_toArray, List.set_cons_zero, List.set_cons_succ]
  refine wpAnyG_pure (i := 1) (oi := ⟨some 6, _, _, _, _, _⟩) (v := ?_) rfl (by kernel_rfl) (by kernel_rfl) (by kernel_rfl) (by rfl) (fun _ _ _ h => h) (by rfl) ?_ ?_
  rotate_left
  · intro w
    go_simp
    first | done | with_reducible rfl
  try simp only [Act.put, List.setIfInBounds_toArray, List.set_cons_zero, List.set_cons_succ]
  refine wpAnyG_pure (i := 2) (oi := ⟨some 7, _, _, _, _, _⟩) (v := ?_) rfl (by kernel_rfl) (by kernel_rfl) (by kernel_rfl) (by rfl) (fun _ _ _ h => h) (by rfl) ?_ ?_
  rotate_left
  · intro w
    go_simp
    first | done | with_reducible rfl
  try simp only [Act.put, List.setIfInBounds_toArray, List.set_cons_zero, List.set_cons_succ]
  refine wpAnyG_pure (i := 4) (oi := ⟨some 9, _, _, _, _, _⟩) (v := ?_) rfl (by kernel_rfl) (by kernel_rfl) (by kernel_rfl) (by rfl) (fun _ _ _ h => h) (by rfl) ?_ ?_
  rotate_left
  · intro w
    go_simp
    first | done | with_reducible rfl
  try simp only [Act.put, List.setIfInBounds_toArray, List.set_cons_zero, List.set_cons_succ]
  refine wpAnyG_pure (i := 5) (oi := ⟨some 10, _, _, _, _, _⟩) (v := ?_) rfl (by kernel_rfl) (by kernel_rfl) (by kernel_rfl) (by rfl) (fun _ _ _ h => h) (by rfl) ?_ ?_
  rotate_left
  · intro w
    go_simp
    first | done | with_reducible rfl
  try simp only [Act.put, List.setIfInBounds_toArray, List.set_cons_zero, List.set_cons_succ]
  refine wpAnyG_pure (i := 6) (oi := ⟨some 11, _, _, _, _, _⟩) (v := ?_) rfl (by kernel_rfl) (by kernel_rfl) (by kernel_rfl) (by rfl) (fun _ _ _ h => h) (by rfl) ?_ ?_
  rotate_left
  · intro w
    go_simp
    first | done | with_reducible rfl
  try simp only [Act.put, List.setIfInBounds_toArray, List.set_cons_zero, List.set_cons_succ]
  refine wpAnyG_pure (i := 8) (oi := ⟨some 13, _, _, _, _, _⟩) (v := ?_) rfl (by kernel_rfl) (by kernel_rfl) (by kernel_rfl) (by rfl) (fun _ _ _ h => h) (by rfl) ?_ ?_
  rotate_left
  · intro w
    go_simp
    first | done | with_reducible rfl
  try simp only [Act.put, List.setIfInBounds_toArray, List.set_cons_zero, List.set_cons_succ]
  refine wpAnyG_pure (i := 10) (oi := ⟨some 15, _, _, _, _, _⟩) (v := ?_) rfl (by kernel_rfl) (by kernel_rfl) (by kernel_rfl) (by rfl) (fun _ _ _ h => h) (by rfl) ?_ ?_
  rotate_left
  · intro w
    go_simp
    first | done | with_reducible rfl
  try simp only [Act.put, List.setIfInBounds_toArray, List.set_cons_zero, List.set_cons_succ]
  refine wpAnyG_pure (i := 11) (oi := ⟨some 16, _, _, _, _, _⟩) (v := ?_) rfl (by kernel_rfl) (by kernel_rfl) (by kernel_rfl) (by rfl) (fun _ _ _ h => h) (by rfl) ?_ ?_
  rotate_left
  · intro w
    go_simp
    first | done | with_reducible rfl
  try simp only [Act.put, List.setIfInBounds_toArray, List.set_cons_zero, List.set_cons_succ]
  refine wpAnyG_pure (i := 12) (oi := ⟨some 17, _, _, _, _, _⟩) (v := ?_) rfl (by kernel_rfl) (by kernel_rfl) (by kernel_rfl) (by rfl) (fun _ _ _ h => h) (by rfl) ?_ ?_
  rotate_left
  · intro w
    go_simp
    first | done | with_reducible rfl
  try simp only [Act.put, List.setIfInBounds_toArray, List.set_cons_zero, List.set_cons_succ]
  refine wpAnyG_pure (i := 14) (oi := ⟨some 19, _, _, _, _, _⟩) (v := ?_) rfl (by kernel_rfl) (by kernel_rfl) (by kernel_rfl) (by rfl) (fun _ _ _ h => h) (by rfl) ?_ ?_
  rotate_left
  · intro w
    go_simp
    first | done | with_reducible rfl
  try simp only [Act.put, List.setIfInBounds_toArray, List.set_cons_zero, List.set_cons_succ]
  refine wpAnyG_pure (i := 15) (oi := ⟨some 20, _, _, _, _, _⟩) (v := ?_) rfl (by kernel_rfl) (by kernel_rfl) (by kernel_rfl) (by rfl) (fun _ _ _ h => h) (by rfl) ?_ ?_
  rotate_left
  · intro w
    go_simp
    first | done | with_reducible rfl
  try simp only [Act.put, List.setIfInBounds_toArray, List.set_cons_zero, List.set_cons_succ]
  refine wpAnyG_pure (i := 16) (oi := ⟨some 21, _, _, _, _, _⟩) (v := ?_) rfl (by kernel_rfl) (by kernel_rfl) (by kernel_rfl) (by rfl) (fun _ _ _ h => h) (by rfl) ?_ ?_
  rotate_left
  · intro w
    go_simp
    first | done | with_reducible rfl
  try simp only [Act.put, List.setIfInBounds_toArray, List.set_cons_zero, List.set_cons_succ]
  refine wpAnyG_pure (i := 18) (oi := ⟨some 23, _, _, _, _, _⟩) (v := ?_) rfl (by kernel_rfl) (by kernel_rfl) (by kernel_rfl) (by rfl) (fun _ _ _ h => h) (by rfl) ?_ ?_
  rotate_left
  · intro w
    go_simp
    first | done | with_reducible rfl
  try simp only [Act.put, List.setIfInBounds_toArray, List.set_cons_zero, List.set_cons_succ]
  refine wpAnyG_pure (i := 19) (oi := ⟨some 24, _, _, _, _, _⟩) (v := ?_) rfl (by kernel_rfl) (by kernel_rfl) (by kernel_rfl) (by rfl) (fun _ _ _ h => h) (by rfl) ?_ ?_
  rotate_left
  · intro w
    go_simp
    first | done | with_reducible rfl
  try simp only [Act.put, List.setIfInBounds_toArray, List.set_cons_zero, List.set_cons_succ]
  refine wpAnyG_pure (i := 20) (oi := ⟨some 25, _, _, _, _, _⟩) (v := ?_) rfl (by kernel_rfl) (by kernel_rfl) (by kernel_rfl) (by rfl) (fun _ _ _ h => h) (by rfl) ?_ ?_
  rotate_left
  · intro w
    go_simp
    first | done | with_reducible rfl
  try simp only [Act.put, List.setIfInBounds_toArray, List.set_cons_zero, List.set_cons_succ]
  refine wpAnyG_pure (i := 22) (oi := ⟨some 27, _, _, _, _, _⟩) (v := ?_) rfl (by kernel_rfl) (by kernel_rfl) (by kernel_rfl) (by rfl) (fun _ _ _ h => h) (by rfl) ?_ ?_
  rotate_left
  · intro w
    go_simp
    first | done | with_reducible rfl
  try simp only [Act.put, List.setIfInBounds_toArray, List.set_cons_zero, List.set_cons_succ]
  refine wpAnyG_pure (i := 23) (oi := ⟨some 28, _, _, _, _, _⟩) (v := ?_) rfl (by kernel_rfl) (by kernel_rfl) (by kernel_rfl) (by rfl) (fun _ _ _ h => h) (by rfl) ?_ ?_
  rotate_left
  · intro w
    go_simp
    first | done | with_reducible rfl
  try simp only [Act.put, List.setIfInBounds_toArray, List.set_cons_zero, List.set_cons_succ]
  refine wpAnyG_pure (i := 24) (oi := ⟨some 29, _, _, _, _, _⟩) (v := ?_) rfl (by kernel_rfl) (by kernel_rfl) (by kernel_rfl) (by rfl) (fun _ _ _ h => h) (by rfl) ?_ ?_
  rotate_left
  · intro w
    go_simp
    first | done | with_reducible rfl
  try simp only [Act.put, List.setIfInBounds_toArray, List.set_cons_zero, List.set_cons_succ]
  refine wpAnyG_pure (i := 26) (oi := ⟨some 31, _, _, _, _, _⟩) (v := ?_) rfl (by kernel_rfl) (by kernel_rfl) (by kernel_rfl) (by rfl) (fun _ _ _ h => h) (by rfl) ?_ ?_
  rotate_left
  · intro w
    go_simp
    first | done | with_reducible rfl
  try simp only [Act.put, List.setIfInBounds_toArray, List.set_cons_zero, List.set_cons_succ]
  refine wpAnyG_pure (i := 27) (oi := ⟨some 32, _, _, _, _, _⟩) (v := ?_) rfl (by kernel_rfl) (by kernel_rfl) (by kernel_rfl) (by rfl) (fun _ _ _ h => h) (by rfl) ?_ ?_
  rotate_left
  · intro w
    go_simp
    first | done | with_reducible rfl
  try simp only [Act.put, List.setIfInBounds_toArray, List.set_cons_zero, List.set_cons_succ]
  refine wpAnyG_pure (i := 28) (oi := ⟨some 33, _, _, _, _, _⟩) (v := ?_) rfl (by kernel_rfl) (by kernel_rfl) (by kernel_rfl) (by rfl) (fun _ _ _ h => h) (by rfl) ?_ ?_
  rotate_left
  · intro w
    go_simp
    first | done | with_reducible rfl
  try simp only [Act.put, List.setIfInBounds_toArray, List.set_cons_zero, List.set_cons_succ]
  refine wpAnyG_keep (i := 3) (oi := ⟨some 8, _, _, _, _, _⟩) (by kernel_rfl) rfl (fun K hK => ?_)
  rw [if_pos (by rfl)]
  go_simp
  refine (ftext_any ⟨tb, 1, none⟩ _ hS).mono ?_
  clear hS
  rintro e w2 ⟨rfl, h⟩
  refine hK.out _ _ ?_ (fun hS => ?_)
  · exact h
  clear hK K
  try simp only [Act.put, List.setIfInBounds_toArray, List.set_cons_zero, List.set_cons_succ]
  refine wpAnyG_keep (i := 7) (oi := ⟨some 12, _, _, _, _, _⟩) (by kernel_rfl) rfl (fun K hK => ?_)
  rw [if_pos (by rfl)]
  go_simp
  refine (ftext_any ⟨tb, 2, none⟩ _ hS).mono ?_
  clear hS
  rintro e w2 ⟨rfl, h⟩
  refine hK.out _ _ ?_ (fun hS => ?_)
  · exact h
  clear hK K
  try simp only [Act.put, List.setIfInBounds_toArray, List.set_cons_zero, List.set_cons_succ]
  refine wpAnyG_keep (i := 9) (oi := ⟨some 14, _, _, _, _, _⟩) (by kernel_rfl) rfl (fun K hK => ?_)
  rw [if_pos (by rfl)]
  go_simp
  refine (ftext_any ⟨fb, 0, none⟩ _ hS).mono ?_
  clear hS
  rintro e w2 ⟨rfl, h⟩
  refine hK.out _ _ ?_ (fun hS => ?_)
  · exact h
  clear hK K
  try simp only [Act.put, List.setIfInBounds_toArray, List.set_cons_zero, List.set_cons_succ]
  refine wpAnyG_keep (i := 13) (oi := ⟨some 18, _, _, _, _, _⟩) (by kernel_rfl) rfl (fun K hK => ?_)
  rw [if_pos (by rfl)]
  go_simp
  refine (fraw_any 32 ⟨tb, 4, none⟩ _ hS).mono ?_
  clear hS
  rintro e w2 ⟨rfl, h⟩
  refine hK.out _ _ ?_ (fun hS => ?_)
  · exact h
  clear hK K
  try simp only [Act.put, List.setIfInBounds_toArray, List.set_cons_zero, List.set_cons_succ]
  refine wpAnyG_keep (i := 17) (oi := ⟨some 22, _, _, _, _, _⟩) (by kernel_rfl) rfl (fun K hK => ?_)
  rw [if_pos (by rfl)]
  go_simp
  refine (fraw_any 32 ⟨tb, 5, none⟩ _ hS).mono ?_
  clear hS
  rintro e w2 ⟨rfl, h⟩
  refine hK.out _ _ ?_ (fun hS => ?_)
  · exact h
  clear hK K
  try simp only [Act.put, List.setIfInBounds_toArray, List.set_cons_zero, List.set_cons_succ]
  refine wpAnyG_keep (i := 21) (oi := ⟨some 26, _, _, _, _, _⟩) (by kernel_rfl) rfl (fun K hK => ?_)
  rw [if_pos (by rfl)]
  go_simp
  refine (fnum_any 6 ⟨tb, 6, none⟩ _ hS).mono ?_
  clear hS
  rintro e w2 ⟨rfl, h⟩
  refine hK.out _ _ ?_ (fun hS => ?_)
  · exact h
  clear hK K
  try simp only [Act.put, List.setIfInBounds_toArray, List.set_cons_zero, List.set_cons_succ]
  refine wpAnyG_keep (i := 25) (oi := ⟨some 30, _, _, _, _, _⟩) (by kernel_rfl) rfl (fun K hK => ?_)
  rw [if_pos (by rfl)]
  go_simp
  refine (fnum_any 1 ⟨tb, 7, none⟩ _ hS).mono ?_
  clear hS
  rintro e w2 ⟨rfl, h⟩
  refine hK.out _ _ ?_ (fun hS => ?_)
  · exact h
  clear hK K
  try simp only [Act.put, List.setIfInBounds_toArray, List.set_cons_zero, List.set_cons_succ]
  refine wpAnyG_keep (i := 29) (oi := ⟨some 34, _, _, _, _, _⟩) (by kernel_rfl) rfl (fun K hK => ?_)
  rw [if_pos (by rfl)]
  go_simp
  refine (fnum_any 8 ⟨tb, 8, none⟩ _ hS).mono ?_
  clear hS
  rintro e w2 ⟨rfl, h⟩
  refine hK.out _ _ ?_ (fun hS => ?_)
  · exact h
  clear hK K
  try simp only [Act.put, List.setIfInBounds_toArray, List.set_cons_zero, List.set_cons_succ]
  refine wpAnyG_break (i := 30) (oi := ⟨some 35, _, _, _, _, _⟩) (by kernel_rfl) rfl (by kernel_rfl) (fun K hK => ?_)
  rw [if_pos (by rfl)]
  refine wp_fields (codeFs tb fb) rfl rfl (by omega) (by omega) (by first | kernel_rfl | (simp [codeFs]; done) | (simp [codeFs]; rfl)) ?_
  have h := hS.alloc (.cells ((codeFs tb fb).flatMap enF).toArray FT)
  refine hK.out _ _ ?_
  clear hK K
  try simp only [Act.put, List.setIfInBounds_toArray, List.set_cons_zero, List.set_cons_succ]
  refine wpAnyG_pure (i := 31) (oi := ⟨some 4, _, _, _, _, _⟩) (v := ?_) rfl (by kernel_rfl) (by kernel_rfl) (by kernel_rfl) (by rfl) (fun _ _ _ h => h) (by rfl) ?_ ?_
  rotate_left
  · intro w
    go_simp
    first | done | with_reducible rfl
  try simp only [Act.put, List.setIfInBounds_toArray, List.set_cons_zero, List.set_cons_succ]
  refine wpAnyG_done (by kernel_rfl) ?_ _
  refine NoPanic.normal ?_
  go_wp2_with fail
  go_ret
  exact ⟨_, rfl, h⟩
end
def codeK (id : Int) : ByteArray := ⟨(97 :: byN 8 id.toNat).toArray⟩
def codeV (cl su sT hs ch : ByteArray) (un st fa : Int) : ByteArray := ⟨((byN 1 cl.size ++ cl.data.toList) ++ (byN 1 su.size ++ su.data.toList) ++ (byN 1 sT.size ++ sT.data.toList) ++ hs.data.toList ++ ch.data.toList ++ byN 6 un.toNat ++ byN 1 st.toNat ++ byN 8 fa.toNat).toArray⟩
def codeR (id : Int) (cl su : ByteArray) (xs : List ByteArray) (hs ch : ByteArray) (un st fa : Int) : ByteArray × ByteArray × Int := if codeMay id cl su xs hs ch un st fa then (codeK id, codeV cl su (scTxt xs) hs ch un st fa, 0) else (noB, noB, 140)
def codeFl (tb fb : Nat) (cl su sT hs ch : ByteArray) (un st fa : Int) : List Fld := [(.text, ⟨tb, 1, none⟩, .s cl), (.text, ⟨tb, 2, none⟩, .s su), (.text, ⟨fb, 0, none⟩, .s sT), (.raw 32, ⟨tb, 4, none⟩, .s hs), (.raw 32, ⟨tb, 5, none⟩, .s ch), (.num 6, ⟨tb, 6, none⟩, .n un), (.num 1, ⟨tb, 7, none⟩, .n st), (.num 8, ⟨tb, 8, none⟩, .n fa)]
def CodeIn (id : Int) (cl su sT hs ch : ByteArray) (un st fa : Int) : Prop := cl.size ≤ 16 ∧ su.size ≤ 16 ∧ sT.size ≤ 60 ∧ (1 ≤ id ∧ id ≤ 4611686018427387904) ∧ hs.size = 32 ∧ ch.size = 32 ∧ (0 ≤ un ∧ un ≤ 1099511627776) ∧ (0 ≤ st ∧ st ≤ 2) ∧ (0 ≤ fa ∧ fa ≤ 4611686018427387904)
theorem code_range {id : Int} {cl su : ByteArray} {xs : List ByteArray} {hs ch : ByteArray} {un st fa : Int} (h : codeMay id cl su xs hs ch un st fa) : CodeIn id cl su (scTxt xs) hs ch un st fa := by
  obtain ⟨c1, c2, c3, c4, c5, c6, c7, c8⟩ := h
  refine ⟨nm_size c2, nm_size c3, scTxt_size c4, ?_⟩
  omega
theorem code_fits (tb fb : Nat) {id : Int} {cl su sT hs ch : ByteArray} {un st fa : Int} (h : CodeIn id cl su sT hs ch un st fa) : ∀ x ∈ (codeFl tb fb cl su sT hs ch un st fa).map Fld.kv, fits1 x := by
  obtain ⟨r1, r2, r3, r0, e1, e2, c0, c1, c2⟩ := h
  intro x hx
  simp only [codeFl, List.map_cons, List.map_nil, List.mem_cons, List.not_mem_nil, or_false] at hx
  rcases hx with rfl | rfl | rfl | rfl | rfl | rfl | rfl | rfl
  · show cl.size ≤ 255
    omega
  · show su.size ≤ 255
    omega
  · show sT.size ≤ 255
    omega
  · show hs.size = 32
    omega
  · show ch.size = 32
    omega
  · exact ⟨by decide, by decide, by show (0 : Int) ≤ un; omega, by show un < (256 : Int) ^ 6; omega, by show un ≤ (9223372036854775807 : Int); omega⟩
  · exact ⟨by decide, by decide, by show (0 : Int) ≤ st; omega, by show st < (256 : Int) ^ 1; omega, by show st ≤ (9223372036854775807 : Int); omega⟩
  · exact ⟨by decide, by decide, by show (0 : Int) ≤ fa; omega, by show fa < (256 : Int) ^ 8; omega, by show fa ≤ (9223372036854775807 : Int); omega⟩
theorem code_printed (tb fb : Nat) {id : Int} {cl su sT hs ch : ByteArray} {un st fa : Int} (h : CodeIn id cl su sT hs ch un st fa) : printedV ((codeFl tb fb cl su sT hs ch un st fa).map Fld.kv) = codeV cl su sT hs ch un st fa := by
  rw [printed_fits (code_fits tb fb h)]
  refine bytes_ext _ _ ?_
  show (((byN 1 cl.size ++ cl.data.toList) ++ ((byN 1 su.size ++ su.data.toList) ++ ((byN 1 sT.size ++ sT.data.toList) ++ (hs.data.toList ++ (ch.data.toList ++ (byN 6 un.toNat ++ (byN 1 st.toNat ++ (byN 8 fa.toNat ++ []))))))))).toArray.toList = _
  simp
theorem code_ok (tb fb : Nat) {T : Ph} {id : Int} {cl su sT hs ch : ByteArray} {un st fa : Int} {A : Option Addr} {n c : Nat} (h : CodeIn id cl su sT hs ch un st fa) (ht : ∀ i v, (codeC id cl su A n c hs ch un st fa)[i]? = some v → T.cell ⟨tb, i, none⟩ = some v) (hf : T.cell ⟨fb, 0, none⟩ = some (.string sT)) : ∀ x ∈ codeFl tb fb cl su sT hs ch un st fa, FldOk T x := by
  obtain ⟨r1, r2, r3, r0, e1, e2, c0, c1, c2⟩ := h
  intro x hx
  simp only [codeFl, List.mem_cons, List.not_mem_nil, or_false] at hx
  rcases hx with rfl | rfl | rfl | rfl | rfl | rfl | rfl | rfl
  · exact ⟨trivial, ht 1 _ rfl, by show (0 : Int) ≤ _; omega, by show cl.size ≤ _; omega⟩
  · exact ⟨trivial, ht 2 _ rfl, by show (0 : Int) ≤ _; omega, by show su.size ≤ _; omega⟩
  · exact ⟨trivial, hf, by show (0 : Int) ≤ _; omega, by show sT.size ≤ _; omega⟩
  · exact ⟨trivial, ht 4 _ rfl, by show (0 : Int) ≤ _; omega, by show hs.size ≤ _; omega⟩
  · exact ⟨trivial, ht 5 _ rfl, by show (0 : Int) ≤ _; omega, by show ch.size ≤ _; omega⟩
  · exact ⟨trivial, ht 6 _ rfl, by show un ≤ (9223372036854775807 : Int); omega, by show (0 : Nat) ≤ _; omega⟩
  · exact ⟨trivial, ht 7 _ rfl, by show st ≤ (9223372036854775807 : Int); omega, by show (0 : Nat) ≤ _; omega⟩
  · exact ⟨trivial, ht 8 _ rfl, by show fa ≤ (9223372036854775807 : Int); omega, by show (0 : Nat) ≤ _; omega⟩
section
variable {E : World} {S : Ph} {L : List Hp}
set_option maxRecDepth 20000 in
set_option maxHeartbeats 8000000 in
theorem printcode_any (id : Int) (cl su : ByteArray) (A : Option Addr) (n c : Nat) (hs ch : ByteArray) (un st fa : Int) (xs : List ByteArray) (w : World) (hr : Rds S 1 enStr A n xs) (hnc : n ≤ c) (hn43 : n ≤ 8796093022208) (hG : Laid0 E (Hp.ro S :: L)) (h : Own E w (Hp.ro S :: L)) :
    Calls Tryz.prog 33 #[.agg (codeC id cl su A n c hs ch un st fa).toArray] w fun ev w' => ev = .returned (itemV (codeR id cl su xs hs ch un st fa)) ∧ Own E w' (Hp.ro S :: L) := by
  have h1 := h.alloc (.cells (codeC id cl su A n c hs ch un st fa).toArray CDT)
  have h2 := h1.alloc (.cells #[.string ⟨#[]⟩, .string ⟨#[]⟩] ITT)
  rw [alloc_size] at h2
  have H3 := Lib.hid h2
  obtain ⟨dd, hd, hrow⟩ := itt_u
  by_cases hm : codeMay id cl su xs hs ch un st fa
  · have hrg : CodeIn id cl su (scTxt xs) hs ch un st fa := code_range hm
    have hsc : scErr xs = 0 := hm.2.2.2.1
    have HR : Hid (codeR id cl su xs hs ch un st fa = (codeK id, codeV cl su (scTxt xs) hs ch un st fa, 0)) := Lib.hid (if_pos hm)
    have KM : Hid (∀ w3 : World, Own E w3 (Hp.blk (w.heap.size + 1) ITT #[.string ⟨#[]⟩, .string ⟨#[]⟩] :: Hp.blk w.heap.size CDT (codeC id cl su A n c hs ch un st fa).toArray :: Hp.ro S :: L) → Calls Tryz.prog 89 #[.agg (codeC id cl su A n c hs ch un st fa).toArray] w3 fun ev w' => ev = .returned (.bool true) ∧ w'.cell? ⟨w.heap.size, 3, none⟩ = some (.slice A n c) ∧ Own E w' (Hp.blk (w.heap.size + 1) ITT #[.string ⟨#[]⟩, .string ⟨#[]⟩] :: Hp.blk w.heap.size CDT (codeC id cl su A n c hs ch un st fa).toArray :: Hp.ro S :: L)) := Lib.hid fun w3 h3 => (codemay_any id cl su A n c hs ch un st fa xs w3 hr hnc hn43 (show Own E w3 (Hp.ro S :: Hp.blk (w.heap.size + 1) ITT #[.string ⟨#[]⟩, .string ⟨#[]⟩] :: Hp.blk w.heap.size CDT (codeC id cl su A n c hs ch un st fa).toArray :: L) from h3.f2)).mono fun ev w' he => ⟨by rw [he.1, decide_eq_true hm], by rw [he.2.f2.cell 3]; rfl, he.2.f2.f2⟩
    have KS : Hid (∀ w3 : World, Own E w3 (Hp.blk (w.heap.size + 1) ITT #[.string ⟨#[]⟩, .string ⟨#[]⟩] :: Hp.blk w.heap.size CDT (codeC id cl su A n c hs ch un st fa).toArray :: Hp.ro S :: L) → Calls Tryz.prog 82 #[.slice A n c] w3 fun ev w' => ev = .returned (.tuple #[.string (scTxt xs), .bool true]) ∧ Own E w' (Hp.blk (w.heap.size + 1) ITT #[.string ⟨#[]⟩, .string ⟨#[]⟩] :: Hp.blk w.heap.size CDT (codeC id cl su A n c hs ch un st fa).toArray :: Hp.ro S :: L)) := Lib.hid fun w3 h3 => (scoped_any A n c xs w3 hr hnc hn43 (show Own E w3 (Hp.ro S :: Hp.blk (w.heap.size + 1) ITT #[.string ⟨#[]⟩, .string ⟨#[]⟩] :: Hp.blk w.heap.size CDT (codeC id cl su A n c hs ch un st fa).toArray :: L) from h3.f2)).mono fun ev w' he => ⟨by rw [he.1, decide_eq_true hsc], he.2.f2.f2⟩
    have HNUM : Hid (∀ (fb : Nat) (w3 : World), Own E w3 (Hp.blk fb 9 #[.string (scTxt xs)] :: Hp.blk (w.heap.size + 1) ITT #[.string ⟨#[]⟩, .string ⟨#[]⟩] :: Hp.blk w.heap.size CDT (codeC id cl su A n c hs ch un st fa).toArray :: Hp.ro S :: L) → Calls Tryz.prog 60 #[.string ⟨#[97]⟩, .int .i64 8, .int .i64 id] w3 fun ev w' => ev = .returned (.string (codeK id)) ∧ Own E w' (Hp.blk fb 9 #[.string (scTxt xs)] :: Hp.blk (w.heap.size + 1) ITT #[.string ⟨#[]⟩, .string ⟨#[]⟩] :: Hp.blk w.heap.size CDT (codeC id cl su A n c hs ch un st fa).toArray :: Hp.ro S :: L)) := Lib.hid fun fb w3 h3 => by
      have c1 := hrg.2.2.2.1
      have hnum := numbered_any (E := E) ⟨#[97]⟩ 8 id w3 (by decide) (by omega) hG.cons.cons.cons h3
      rw [key_num 97 8 id (by omega) (by omega) (by omega) (by omega) (by omega)] at hnum
      exact hnum
    have HP : Hid (∀ (bb fb : Nat) (w3 : World), Own E w3 (Hp.blk bb FT ((codeFs w.heap.size fb).flatMap enF).toArray :: Hp.blk fb 9 #[.string (scTxt xs)] :: Hp.blk (w.heap.size + 1) ITT #[.string ⟨#[]⟩, .string ⟨#[]⟩] :: Hp.blk w.heap.size CDT (codeC id cl su A n c hs ch un st fa).toArray :: Hp.ro S :: L) →
        Calls Tryz.prog 61 #[.slice (some ⟨bb, 0, none⟩) 8 8] w3 fun ev w' => ev = .returned (.string (codeV cl su (scTxt xs) hs ch un st fa)) ∧ Own E w' (Hp.blk (w.heap.size + 1) ITT #[.string ⟨#[]⟩, .string ⟨#[]⟩] :: Hp.ro S :: L)) := Lib.hid fun bb fb w3 h3 => by
      have h4 : Own E w3 (Hp.ro (Ph.one fb (.cells #[.string (scTxt xs)] 9 (0, 0))) :: Hp.ro (Ph.one w.heap.size (.cells (codeC id cl su A n c hs ch un st fa).toArray CDT (0, 0))) :: Hp.blk bb FT ((codeFl w.heap.size fb cl su (scTxt xs) hs ch un st fa).flatMap enFld).toArray :: Hp.blk (w.heap.size + 1) ITT #[.string ⟨#[]⟩, .string ⟨#[]⟩] :: Hp.ro S :: L) := h3.f3.f2
      obtain ⟨m1, d1⟩ := h4.merge
      refine (printed_blk bb 8 (codeFl w.heap.size fb cl su (scTxt xs) hs ch un st fa) w3 rfl (by omega) (code_ok _ _ hrg (fun i v hv => kept_cell d1 (by rw [one_cell, List.getElem?_toArray]; exact hv)) (left_cell (one_cell _ _ _ 0))) hG.cons m1.f1).mono ?_
      rw [code_printed _ _ hrg]
      rintro ev w' ⟨rfl, h⟩
      exact ⟨rfl, h.drop⟩
    clear h h1 h2 hG hm hrg hsc hr
    generalize codeK id = x1 at *
    generalize codeV cl su (scTxt xs) hs ch un st fa = x2 at *
    generalize scTxt xs = sT at *
    unfold codeC at *
    go_enter Tryz.func33, Tryz.ntmps33
    go_wp2_with (first
      | (with_reducible refine (KM.out _ H3.out).mono ?_; clear H3; rintro ev w2 ⟨rfl, hc3, h⟩; have H3 := Lib.hid h; clear h)
      | (with_reducible refine (KS.out _ H3.out).mono ?_; clear H3; rintro ev w2 ⟨rfl, h⟩; have hc0 := (h.alloc (.cells #[.string sT] 9)).f2.cell 0; have H3 := Lib.hid (h.alloc (.cells #[.string sT] 9)); clear h; simp only [List.getElem?_toArray, List.getElem?_cons_zero] at hc0)
      | (with_reducible refine (HNUM.out _ _ H3.out).mono ?_; clear HNUM H3; rintro ev w2 ⟨rfl, h⟩; have H3 := Lib.hid h; clear h)
      | (with_reducible refine (codefields_any _ _ _ H3.out).mono ?_; clear H3; rintro ev w2 ⟨bb, rfl, h⟩; have H3 := Lib.hid h; clear h)
      | (with_reducible refine (HP.out _ _ _ H3.out).mono ?_; clear H3 HP; rintro ev w2 ⟨rfl, h⟩; have H3 := Lib.hid h; clear h)
      | (with_reducible refine at_slot (k := none) ?_; refine wpList_store_whole (o := ⟨none, _, _, _, _, _⟩) (cs := [.string ⟨#[]⟩, .string ⟨#[]⟩]) (vs := [.string x1, .string x2]) H3.out rfl (pair_one x1 x2) (by kernel_rfl) rfl rfl rfl rfl ?_; clear H3; intro w7 h; have H9 := Lib.hid h; clear h))
    refine bodyPost_ret (results_ct rfl rfl H9.out hd hrow (by kernel_rfl)) rfl ?_
    exact ⟨by rw [HR.out]; rfl, H9.out.drop⟩
  · have HR : Hid (codeR id cl su xs hs ch un st fa = (noB, noB, 140)) := Lib.hid (if_neg hm)
    have KM : Hid (∀ w3 : World, Own E w3 (Hp.blk (w.heap.size + 1) ITT #[.string ⟨#[]⟩, .string ⟨#[]⟩] :: Hp.blk w.heap.size CDT (codeC id cl su A n c hs ch un st fa).toArray :: Hp.ro S :: L) → Calls Tryz.prog 89 #[.agg (codeC id cl su A n c hs ch un st fa).toArray] w3 fun ev w' => ev = .returned (.bool false) ∧ Own E w' (Hp.blk (w.heap.size + 1) ITT #[.string ⟨#[]⟩, .string ⟨#[]⟩] :: Hp.blk w.heap.size CDT (codeC id cl su A n c hs ch un st fa).toArray :: Hp.ro S :: L)) := Lib.hid fun w3 h3 => (codemay_any id cl su A n c hs ch un st fa xs w3 hr hnc hn43 (show Own E w3 (Hp.ro S :: Hp.blk (w.heap.size + 1) ITT #[.string ⟨#[]⟩, .string ⟨#[]⟩] :: Hp.blk w.heap.size CDT (codeC id cl su A n c hs ch un st fa).toArray :: L) from h3.f2)).mono fun ev w' he => ⟨by rw [he.1, decide_eq_false hm], he.2.f2.f2⟩
    clear h h1 h2 hG hm hr
    unfold codeC at *
    go_enter Tryz.func33, Tryz.ntmps33
    go_wp2_with (first
      | (with_reducible refine (KM.out _ H3.out).mono ?_; clear H3; rintro ev w2 ⟨rfl, h⟩; have H3 := Lib.hid h; clear h)
      | (with_reducible refine at_slot (k := none) ?_; refine wpList_store_whole (o := ⟨none, _, _, _, _, _⟩) (cs := [.string ⟨#[]⟩, .string ⟨#[]⟩]) (vs := [.string ⟨#[]⟩, .string ⟨#[]⟩]) H3.out rfl (pair_one ⟨#[]⟩ ⟨#[]⟩) (by kernel_rfl) rfl rfl rfl rfl ?_; clear H3; intro w7 h; have H8 := Lib.hid h; clear h))
    refine bodyPost_ret (results_ct rfl rfl H8.out hd hrow (by kernel_rfl)) rfl ?_
    exact ⟨by rw [HR.out]; rfl, H8.out.drop.drop⟩
end
end Go.Proofs.YtabibfabieghpaaGreatDoor
namespace Go.Proofs.YtabibfabieghpaaGreatDoor
open Go.RowKit
section
variable {E : World} {S : Ph} {L : List Hp}
set_option maxRecDepth 20000 in
set_option maxHeartbeats 8000000 in
theorem xcodemay_any (id : Int) (cl su : ByteArray) (A : Option Addr) (n c : Nat) (hs ch : ByteArray) (un st fa : Int) (xs : List ByteArray) (w : World) (hr : Rds S 1 enStr A n xs) (hsz : ∀ x ∈ xs, x.size ≤ 1000000000000000000) (hcl : cl.size ≤ 1000000000000000000) (hsu : su.size ≤ 1000000000000000000) (hn43 : n ≤ 8796093022208) (h : Own E w (Hp.ro S :: L)) :
    Calls Tryz.prog 91 #[.agg (codeC id cl su A n c hs ch un st fa).toArray] w fun ev w' => ev = .returned (.bool (decide (codeMay id cl su xs hs ch un st fa))) ∧ Own E w' (Hp.ro S :: L) := by
  have H1 := Lib.hid (show Own E _ (Hp.blk w.heap.size CDT (codeC id cl su A n c hs ch un st fa).toArray :: Hp.ro S :: L) from h.alloc (.cells (codeC id cl su A n c hs ch un st fa).toArray CDT))
  obtain ⟨n1, hn1⟩ : ∃ nv : Int, nameB cl = decide (nv = 1) := ⟨if nameB cl then 1 else 0, by cases nameB cl <;> rfl⟩
  obtain ⟨n2, hn2⟩ : ∃ nv : Int, nameB su = decide (nv = 1) := ⟨if nameB su then 1 else 0, by cases nameB su <;> rfl⟩
  obtain ⟨jn, hjn⟩ : ∃ jn : Int, fa = 0 ↔ jn = 1 := ⟨if fa = 0 then 1 else 0, by split <;> simp_all⟩
  obtain ⟨q1, hq1⟩ : ∃ q : Int, st = 1 ↔ q = 1 := ⟨if st = 1 then 1 else 0, by split <;> simp_all⟩
  obtain ⟨q2, hq2⟩ : ∃ q : Int, st = 2 ↔ q = 1 := ⟨if st = 2 then 1 else 0, by split <;> simp_all⟩
  have zj : (fa == 0) = decide (jn = 1) := by rw [Bool.eq_iff_iff, beq_iff_eq, decide_eq_true_eq, hjn]
  have z1 : (st == 1) = decide (q1 = 1) := by rw [Bool.eq_iff_iff, beq_iff_eq, decide_eq_true_eq, hq1]
  have z2 : (st == 2) = decide (q2 = 1) := by rw [Bool.eq_iff_iff, beq_iff_eq, decide_eq_true_eq, hq2]
  have KR := Lib.hid (fun (w3 : World) (h3 : Own E w3 (Hp.blk w.heap.size CDT (codeC id cl su A n c hs ch un st fa).toArray :: Hp.ro S :: L)) => xscope_any (E := E) (S := S) (L := Hp.blk w.heap.size CDT (codeC id cl su A n c hs ch un st fa).toArray :: L) A n c xs w3 hr hsz hn43 h3.f1)
  obtain ⟨sx, hsx⟩ : ∃ sx : Int, sx = scErr xs := ⟨_, rfl⟩
  rw [← hsx] at KR
  have k4 := fun w => xname_any cl w hcl
  have k5 := fun w => xname_any su w hsu
  rw [hn1] at k4
  rw [hn2] at k5
  have hiff : codeMay id cl su xs hs ch un st fa ↔ ((1 ≤ id ∧ id ≤ 4611686018427387904) ∧ n1 = 1 ∧ n2 = 1 ∧ sx = 0 ∧ hs.size = 32 ∧ ch.size = 32 ∧ (0 ≤ un ∧ un ≤ 1099511627776) ∧ ((q1 = 1 ∧ jn = 1) ∨ (q2 = 1 ∧ (1 ≤ fa ∧ fa ≤ 4611686018427387904)))) := by
    unfold codeMay
    rw [hn1, hn2, hjn, hq1, hq2, ← hsx, decide_eq_true_iff, decide_eq_true_iff]
  have HI := Lib.hid hiff
  have HX := Lib.hid (show ¬ (q1 = 1 ∧ q2 = 1) by rw [← hq1, ← hq2]; omega)
  have k1 := fun w => xid_any id w
  have k2 := fun w => xid_any fa w
  have k3 := fun w => xtime_any un w
  clear h hiff hn1 hn2 hjn hq1 hq2 hsx hr hsz hcl hsu
  go_enter Tryz.func91, Tryz.ntmps91
  obtain ⟨d0, d1, d2, d3, d4, d5, d6, d7, d8⟩ := code_cells id cl su A n c hs ch un st fa H1.out
  go_wp2_with (first
    | (with_reducible refine (k1 _).mono ?_; rintro ev w2 ⟨rfl, rfl⟩)
    | (with_reducible refine (k2 _).mono ?_; rintro ev w2 ⟨rfl, rfl⟩)
    | (with_reducible refine (k3 _).mono ?_; rintro ev w2 ⟨rfl, rfl⟩)
    | (with_reducible refine (k4 _).mono ?_; rintro ev w2 ⟨rfl, rfl⟩)
    | (with_reducible refine (k5 _).mono ?_; rintro ev w2 ⟨rfl, rfl⟩)
    | (with_reducible refine (KR.out _ H1.out).mono ?_; clear H1 d0 d1 d2 d3 d4 d5 d6 d7 d8; rintro ev w2 ⟨rfl, h⟩; have H1 := Lib.hid (show Own E w2 (Hp.blk w.heap.size CDT (codeC id cl su A n c hs ch un st fa).toArray :: Hp.ro S :: L) from h.f1); clear h; obtain ⟨d0, d1, d2, d3, d4, d5, d6, d7, d8⟩ := code_cells id cl su A n c hs ch un st fa H1.out))
  all_goals go_ret
  all_goals
    refine ⟨(show Ending.returned (Value.bool _) = Ending.returned (Value.bool _) from ret_bool ?_), H1.out.drop⟩
    rw [Bool.eq_iff_iff]
    refine Iff.trans ?_ (decide_eq_true_iff.trans HI.out).symm
    have hx := HX.out
    (first | omega | (simp <;> omega) | ((try simp only at *); (try simp only [Bool.not_eq_true'] at *); (try simp only [Bool.not_eq_false'] at *); (try simp only [decide_eq_true_eq] at *); (try simp only [decide_eq_false_iff_not] at *); (try simp only [bne_iff_ne] at *); (try simp only [ne_eq] at *); (try simp only [bne_eq_false_iff_eq] at *); first | omega | (simp <;> omega)))
end
end Go.Proofs.YtabibfabieghpaaGreatDoor
namespace Go.Proofs.YtabibfabieghpaaGreatDoor
open Go.RowKit
section
variable {E : World} {S : Ph} {L : List Hp}
set_option maxRecDepth 20000 in
set_option maxHeartbeats 8000000 in
theorem xprintcode_any (id : Int) (cl su : ByteArray) (A : Option Addr) (n c : Nat) (hs ch : ByteArray) (un st fa : Int) (xs : List ByteArray) (w : World) (hr : Rds S 1 enStr A n xs) (hsz : ∀ x ∈ xs, x.size ≤ 1000000000000000000) (hcl : cl.size ≤ 1000000000000000000) (hsu : su.size ≤ 1000000000000000000) (hn43 : n ≤ 8796093022208) (h : Own E w (Hp.ro S :: L)) :
    Calls Tryz.prog 34 #[.agg (codeC id cl su A n c hs ch un st fa).toArray] w fun ev w' => ev = .returned (itemV (codeR id cl su xs hs ch un st fa)) ∧ Own E w' (Hp.ro S :: L) := by
  have h1 := h.alloc (.cells (codeC id cl su A n c hs ch un st fa).toArray CDT)
  have h2 := h1.alloc (.cells #[.string ⟨#[]⟩, .string ⟨#[]⟩] ITT)
  rw [alloc_size] at h2
  have H3 := Lib.hid h2
  obtain ⟨dd, hd, hrow⟩ := itt_u
  by_cases hm : codeMay id cl su xs hs ch un st fa
  · have hrg : CodeIn id cl su (scTxt xs) hs ch un st fa := code_range hm
    have hsc : scErr xs = 0 := hm.2.2.2.1
    have KM : Hid (∀ w3 : World, Own E w3 (Hp.blk (w.heap.size + 1) ITT #[.string ⟨#[]⟩, .string ⟨#[]⟩] :: Hp.blk w.heap.size CDT (codeC id cl su A n c hs ch un st fa).toArray :: Hp.ro S :: L) → Calls Tryz.prog 91 #[.agg (codeC id cl su A n c hs ch un st fa).toArray] w3 fun ev w' => ev = .returned (.bool true) ∧ Own E w' (Hp.blk (w.heap.size + 1) ITT #[.string ⟨#[]⟩, .string ⟨#[]⟩] :: Hp.blk w.heap.size CDT (codeC id cl su A n c hs ch un st fa).toArray :: Hp.ro S :: L)) := Lib.hid fun w3 h3 => (xcodemay_any id cl su A n c hs ch un st fa xs w3 hr hsz hcl hsu hn43 (show Own E w3 (Hp.ro S :: Hp.blk (w.heap.size + 1) ITT #[.string ⟨#[]⟩, .string ⟨#[]⟩] :: Hp.blk w.heap.size CDT (codeC id cl su A n c hs ch un st fa).toArray :: L) from h3.f2)).mono fun ev w' he => ⟨by rw [he.1, decide_eq_true hm], he.2.f2.f2⟩
    have KS : Hid (∀ w3 : World, Own E w3 (Hp.blk (w.heap.size + 1) ITT #[.string ⟨#[]⟩, .string ⟨#[]⟩] :: Hp.blk w.heap.size CDT (codeC id cl su A n c hs ch un st fa).toArray :: Hp.ro S :: L) → Calls Tryz.prog 92 #[.slice A n c] w3 fun ev w' => ev = .returned (.string (scTxt xs)) ∧ Own E w' (Hp.blk (w.heap.size + 1) ITT #[.string ⟨#[]⟩, .string ⟨#[]⟩] :: Hp.blk w.heap.size CDT (codeC id cl su A n c hs ch un st fa).toArray :: Hp.ro S :: L)) := Lib.hid fun w3 h3 => (spaced_any A n c xs w3 hr hsc (show Own E w3 (Hp.ro S :: Hp.blk (w.heap.size + 1) ITT #[.string ⟨#[]⟩, .string ⟨#[]⟩] :: Hp.blk w.heap.size CDT (codeC id cl su A n c hs ch un st fa).toArray :: L) from h3.f2)).mono fun ev w' he => ⟨he.1, he.2.f2.f2⟩
    obtain ⟨s1, s2, s3, r0, e1, e2, c0, c1, c2⟩ := hrg
    have B1 : Hid (∀ wq : World, Own E wq (Hp.blk (w.heap.size + 1) ITT #[.string ⟨#[]⟩, .string ⟨#[]⟩] :: Hp.blk w.heap.size CDT (codeC id cl su A n c hs ch un st fa).toArray :: Hp.ro S :: L) → Calls Tryz.prog 65 #[.string cl] wq fun ev w' => ev = .returned (.string ((⟨(byN 1 cl.size).toArray⟩ : ByteArray) ++ cl)) ∧ Own E w' (Hp.blk (w.heap.size + 1) ITT #[.string ⟨#[]⟩, .string ⟨#[]⟩] :: Hp.blk w.heap.size CDT (codeC id cl su A n c hs ch un st fa).toArray :: Hp.ro S :: L)) := Lib.hid fun wq h => short_any cl wq (by omega) h
    have z1 : (((⟨(byN 1 cl.size).toArray⟩ : ByteArray) ++ cl)).size ≤ 300 := by rw [ByteArray.size_append, fl_size, byN_len]; omega
    have B2 : Hid (∀ wq : World, Own E wq (Hp.blk (w.heap.size + 1) ITT #[.string ⟨#[]⟩, .string ⟨#[]⟩] :: Hp.blk w.heap.size CDT (codeC id cl su A n c hs ch un st fa).toArray :: Hp.ro S :: L) → Calls Tryz.prog 65 #[.string su] wq fun ev w' => ev = .returned (.string ((⟨(byN 1 su.size).toArray⟩ : ByteArray) ++ su)) ∧ Own E w' (Hp.blk (w.heap.size + 1) ITT #[.string ⟨#[]⟩, .string ⟨#[]⟩] :: Hp.blk w.heap.size CDT (codeC id cl su A n c hs ch un st fa).toArray :: Hp.ro S :: L)) := Lib.hid fun wq h => short_any su wq (by omega) h
    have z2 : (((⟨(byN 1 su.size).toArray⟩ : ByteArray) ++ su)).size ≤ 300 := by rw [ByteArray.size_append, fl_size, byN_len]; omega
    have B3 : Hid (∀ wq : World, Own E wq (Hp.blk (w.heap.size + 1) ITT #[.string ⟨#[]⟩, .string ⟨#[]⟩] :: Hp.blk w.heap.size CDT (codeC id cl su A n c hs ch un st fa).toArray :: Hp.ro S :: L) → Calls Tryz.prog 65 #[.string (scTxt xs)] wq fun ev w' => ev = .returned (.string ((⟨(byN 1 (scTxt xs).size).toArray⟩ : ByteArray) ++ (scTxt xs))) ∧ Own E w' (Hp.blk (w.heap.size + 1) ITT #[.string ⟨#[]⟩, .string ⟨#[]⟩] :: Hp.blk w.heap.size CDT (codeC id cl su A n c hs ch un st fa).toArray :: Hp.ro S :: L)) := Lib.hid fun wq h => short_any (scTxt xs) wq (by omega) h
    have z3 : (((⟨(byN 1 (scTxt xs).size).toArray⟩ : ByteArray) ++ (scTxt xs))).size ≤ 300 := by rw [ByteArray.size_append, fl_size, byN_len]; omega
    have z4 : (hs).size ≤ 300 := by omega
    have z5 : (ch).size ≤ 300 := by omega
    have B6 : Hid (∀ wq : World, Own E wq (Hp.blk (w.heap.size + 1) ITT #[.string ⟨#[]⟩, .string ⟨#[]⟩] :: Hp.blk w.heap.size CDT (codeC id cl su A n c hs ch un st fa).toArray :: Hp.ro S :: L) → Calls Tryz.prog 64 #[.int .i64 un, .int .i64 6] wq fun ev w' => ev = .returned (.string (⟨(byN 6 un.toNat).toArray⟩ : ByteArray)) ∧ Own E w' (Hp.blk (w.heap.size + 1) ITT #[.string ⟨#[]⟩, .string ⟨#[]⟩] :: Hp.blk w.heap.size CDT (codeC id cl su A n c hs ch un st fa).toArray :: Hp.ro S :: L)) := Lib.hid fun wq h => by_any un 6 wq (by omega) (by omega) (by omega) h
    have z6 : ((⟨(byN 6 un.toNat).toArray⟩ : ByteArray)).size ≤ 300 := by rw [fl_size, byN_len]; omega
    have B7 : Hid (∀ wq : World, Own E wq (Hp.blk (w.heap.size + 1) ITT #[.string ⟨#[]⟩, .string ⟨#[]⟩] :: Hp.blk w.heap.size CDT (codeC id cl su A n c hs ch un st fa).toArray :: Hp.ro S :: L) → Calls Tryz.prog 64 #[.int .i64 st, .int .i64 1] wq fun ev w' => ev = .returned (.string (⟨(byN 1 st.toNat).toArray⟩ : ByteArray)) ∧ Own E w' (Hp.blk (w.heap.size + 1) ITT #[.string ⟨#[]⟩, .string ⟨#[]⟩] :: Hp.blk w.heap.size CDT (codeC id cl su A n c hs ch un st fa).toArray :: Hp.ro S :: L)) := Lib.hid fun wq h => by_any st 1 wq (by omega) (by omega) (by omega) h
    have z7 : ((⟨(byN 1 st.toNat).toArray⟩ : ByteArray)).size ≤ 300 := by rw [fl_size, byN_len]; omega
    have B8 : Hid (∀ wq : World, Own E wq (Hp.blk (w.heap.size + 1) ITT #[.string ⟨#[]⟩, .string ⟨#[]⟩] :: Hp.blk w.heap.size CDT (codeC id cl su A n c hs ch un st fa).toArray :: Hp.ro S :: L) → Calls Tryz.prog 64 #[.int .i64 fa, .int .i64 8] wq fun ev w' => ev = .returned (.string (⟨(byN 8 fa.toNat).toArray⟩ : ByteArray)) ∧ Own E w' (Hp.blk (w.heap.size + 1) ITT #[.string ⟨#[]⟩, .string ⟨#[]⟩] :: Hp.blk w.heap.size CDT (codeC id cl su A n c hs ch un st fa).toArray :: Hp.ro S :: L)) := Lib.hid fun wq h => by_any fa 8 wq (by omega) (by omega) (by omega) h
    have z8 : ((⟨(byN 8 fa.toNat).toArray⟩ : ByteArray)).size ≤ 300 := by rw [fl_size, byN_len]; omega
    have B0 : Hid (∀ wq : World, Own E wq (Hp.blk (w.heap.size + 1) ITT #[.string ⟨#[]⟩, .string ⟨#[]⟩] :: Hp.blk w.heap.size CDT (codeC id cl su A n c hs ch un st fa).toArray :: Hp.ro S :: L) → Calls Tryz.prog 64 #[.int .i64 id, .int .i64 8] wq fun ev w' => ev = .returned (.string (⟨(byN 8 id.toNat).toArray⟩ : ByteArray)) ∧ Own E w' (Hp.blk (w.heap.size + 1) ITT #[.string ⟨#[]⟩, .string ⟨#[]⟩] :: Hp.blk w.heap.size CDT (codeC id cl su A n c hs ch un st fa).toArray :: Hp.ro S :: L)) := Lib.hid fun wq h => by_any id 8 wq (by omega) (by omega) (by omega) h
    have z0 : ((⟨(byN 8 id.toNat).toArray⟩ : ByteArray)).size ≤ 300 := by rw [fl_size, byN_len]; omega
    have HV : Hid (codeR id cl su xs hs ch un st fa = ((⟨#[97]⟩ : ByteArray) ++ (⟨(byN 8 id.toNat).toArray⟩ : ByteArray), ((⟨(byN 1 cl.size).toArray⟩ : ByteArray) ++ cl) ++ ((⟨(byN 1 su.size).toArray⟩ : ByteArray) ++ su) ++ ((⟨(byN 1 (scTxt xs).size).toArray⟩ : ByteArray) ++ (scTxt xs)) ++ hs ++ ch ++ (⟨(byN 6 un.toNat).toArray⟩ : ByteArray) ++ (⟨(byN 1 st.toNat).toArray⟩ : ByteArray) ++ (⟨(byN 8 fa.toNat).toArray⟩ : ByteArray), 0)) := Lib.hid (by
      have e1 : codeK id = (⟨#[97]⟩ : ByteArray) ++ (⟨(byN 8 id.toNat).toArray⟩ : ByteArray) := by
        unfold codeK
        refine (bytes_ext _ _ ?_).symm
        simp
      have e2 : codeV cl su (scTxt xs) hs ch un st fa = ((⟨(byN 1 cl.size).toArray⟩ : ByteArray) ++ cl) ++ ((⟨(byN 1 su.size).toArray⟩ : ByteArray) ++ su) ++ ((⟨(byN 1 (scTxt xs).size).toArray⟩ : ByteArray) ++ (scTxt xs)) ++ hs ++ ch ++ (⟨(byN 6 un.toNat).toArray⟩ : ByteArray) ++ (⟨(byN 1 st.toNat).toArray⟩ : ByteArray) ++ (⟨(byN 8 fa.toNat).toArray⟩ : ByteArray) := by
        unfold codeV
        refine (bytes_ext _ _ ?_).symm
        simp
      rw [← e1, ← e2]
      exact if_pos hm)
    have HC : Hid (∀ w', Own E w' (Hp.blk (w.heap.size + 1) ITT #[.string ⟨#[]⟩, .string ⟨#[]⟩] :: Hp.blk w.heap.size CDT (codeC id cl su A n c hs ch un st fa).toArray :: Hp.ro S :: L) → w'.cell? ⟨w.heap.size, 1, none⟩ = some (.string cl) ∧ w'.cell? ⟨w.heap.size, 2, none⟩ = some (.string su) ∧ w'.cell? ⟨w.heap.size, 3, none⟩ = some (.slice A n c) ∧ w'.cell? ⟨w.heap.size, 4, none⟩ = some (.string hs) ∧ w'.cell? ⟨w.heap.size, 5, none⟩ = some (.string ch) ∧ w'.cell? ⟨w.heap.size, 6, none⟩ = some (.int .i64 un) ∧ w'.cell? ⟨w.heap.size, 7, none⟩ = some (.int .i64 st) ∧ w'.cell? ⟨w.heap.size, 8, none⟩ = some (.int .i64 fa)) := Lib.hid fun w' h => ⟨(h.f1.cell 1).trans rfl, (h.f1.cell 2).trans rfl, (h.f1.cell 3).trans rfl, (h.f1.cell 4).trans rfl, (h.f1.cell 5).trans rfl, (h.f1.cell 6).trans rfl, (h.f1.cell 7).trans rfl, (h.f1.cell 8).trans rfl⟩
    clear h h1 h2 hm hr hsz hcl hsu hsc s1 s2 s3 r0 e1 e2 c0 c1 c2
    generalize ((⟨(byN 1 cl.size).toArray⟩ : ByteArray) ++ cl) = p1 at *
    generalize ((⟨(byN 1 su.size).toArray⟩ : ByteArray) ++ su) = p2 at *
    generalize ((⟨(byN 1 (scTxt xs).size).toArray⟩ : ByteArray) ++ (scTxt xs)) = p3 at *
    generalize (⟨(byN 6 un.toNat).toArray⟩ : ByteArray) = p6 at *
    generalize (⟨(byN 1 st.toNat).toArray⟩ : ByteArray) = p7 at *
    generalize (⟨(byN 8 fa.toNat).toArray⟩ : ByteArray) = p8 at *
    generalize (⟨(byN 8 id.toNat).toArray⟩ : ByteArray) = p0 at *
    generalize scTxt xs = sT at *
    have HD : Hid (∀ w', Own E w' (Hp.blk (w.heap.size + 1) ITT #[.string ⟨#[]⟩, .string ⟨#[]⟩] :: Hp.blk w.heap.size CDT (codeC id cl su A n c hs ch un st fa).toArray :: Hp.ro S :: L) → w'.cell? ⟨w.heap.size, 0, none⟩ = some (.int .i64 id)) := Lib.hid fun w' h => (h.f1.cell 0).trans rfl
    unfold codeC at *
    go_enter Tryz.func34, Tryz.ntmps34
    go_wp2_with (with_reducible refine (KM.out _ H3.out).mono ?_; clear H3; rintro ev w2 ⟨rfl, h⟩; have H3 := Lib.hid h; clear h)
    have h := H3.out.drew
    clear H3
    refine wp_region_text [1, 4, 8, 13, 16, 19, 23, 27] (fun w' => w'.cell? ⟨w.heap.size, 1, none⟩ = some (.string cl) ∧ w'.cell? ⟨w.heap.size, 2, none⟩ = some (.string su) ∧ w'.cell? ⟨w.heap.size, 3, none⟩ = some (.slice A n c) ∧ w'.cell? ⟨w.heap.size, 4, none⟩ = some (.string hs) ∧ w'.cell? ⟨w.heap.size, 5, none⟩ = some (.string ch) ∧ w'.cell? ⟨w.heap.size, 6, none⟩ = some (.int .i64 un) ∧ w'.cell? ⟨w.heap.size, 7, none⟩ = some (.int .i64 st) ∧ w'.cell? ⟨w.heap.size, 8, none⟩ = some (.int .i64 fa)) (by kernel_rfl) ?_ (fun hS => ?_)
    · exact HC.out _ h
    refine wpAnyG_pure (i := 0) (oi := ⟨some 11, _, _, _, _, _⟩) (v := ?_) rfl (by kernel_rfl) (by kernel_rfl) (by kernel_rfl) (by rfl) (fun _ _ _ h => h) (by rfl) ?_ ?_
    rotate_left
    · intro w
      go_simp
      first | done | with_reducible rfl
    try simp only [Act.put, List.setIfInBounds_toArray, List.set_cons_zero, List.set_cons_succ]
    refine wpAnyG_load (i := 1) (oi := ⟨some 12, _, _, _, _, _⟩) (v := ?_) rfl (by kernel_rfl) (by kernel_rfl) (by kernel_rfl) (by rfl) (fun _ _ _ h => h) (by rfl) ?_ (by assumption) ?_
    rotate_left
    · intro w hS
      try dsimp only at hS
      go_simp
      first | done | with_reducible rfl
    try simp only [Act.put, List.setIfInBounds_toArray, List.set_cons_zero, List.set_cons_succ]
    refine wpAnyG_pure (i := 3) (oi := ⟨some 14, _, _, _, _, _⟩) (v := ?_) rfl (by kernel_rfl) (by kernel_rfl) (by kernel_rfl) (by rfl) (fun _ _ _ h => h) (by rfl) ?_ ?_
    rotate_left
    · intro w
      go_simp
      first | done | with_reducible rfl
    try simp only [Act.put, List.setIfInBounds_toArray, List.set_cons_zero, List.set_cons_succ]
    refine wpAnyG_load (i := 4) (oi := ⟨some 15, _, _, _, _, _⟩) (v := ?_) rfl (by kernel_rfl) (by kernel_rfl) (by kernel_rfl) (by rfl) (fun _ _ _ h => h) (by rfl) ?_ (by assumption) ?_
    rotate_left
    · intro w hS
      try dsimp only at hS
      go_simp
      first | done | with_reducible rfl
    try simp only [Act.put, List.setIfInBounds_toArray, List.set_cons_zero, List.set_cons_succ]
    refine wpAnyG_pure (i := 7) (oi := ⟨some 18, _, _, _, _, _⟩) (v := ?_) rfl (by kernel_rfl) (by kernel_rfl) (by kernel_rfl) (by rfl) (fun _ _ _ h => h) (by rfl) ?_ ?_
    rotate_left
    · intro w
      go_simp
      first | done | with_reducible rfl
    try simp only [Act.put, List.setIfInBounds_toArray, List.set_cons_zero, List.set_cons_succ]
    refine wpAnyG_load (i := 8) (oi := ⟨some 19, _, _, _, _, _⟩) (v := ?_) rfl (by kernel_rfl) (by kernel_rfl) (by kernel_rfl) (by rfl) (fun _ _ _ h => h) (by rfl) ?_ (by assumption) ?_
    rotate_left
    · intro w hS
      try dsimp only at hS
      go_simp
      first | done | with_reducible rfl
    try simp only [Act.put, List.setIfInBounds_toArray, List.set_cons_zero, List.set_cons_succ]
    refine wpAnyG_pure (i := 12) (oi := ⟨some 23, _, _, _, _, _⟩) (v := ?_) rfl (by kernel_rfl) (by kernel_rfl) (by kernel_rfl) (by rfl) (fun _ _ _ h => h) (by rfl) ?_ ?_
    rotate_left
    · intro w
      go_simp
      first | done | with_reducible rfl
    try simp only [Act.put, List.setIfInBounds_toArray, List.set_cons_zero, List.set_cons_succ]
    refine wpAnyG_load (i := 13) (oi := ⟨some 24, _, _, _, _, _⟩) (v := ?_) rfl (by kernel_rfl) (by kernel_rfl) (by kernel_rfl) (by rfl) (fun _ _ _ h => h) (by rfl) ?_ (by assumption) ?_
    rotate_left
    · intro w hS
      try dsimp only at hS
      go_simp
      first | done | with_reducible rfl
    try simp only [Act.put, List.setIfInBounds_toArray, List.set_cons_zero, List.set_cons_succ]
    refine wpAnyG_pure (i := 15) (oi := ⟨some 26, _, _, _, _, _⟩) (v := ?_) rfl (by kernel_rfl) (by kernel_rfl) (by kernel_rfl) (by rfl) (fun _ _ _ h => h) (by rfl) ?_ ?_
    rotate_left
    · intro w
      go_simp
      first | done | with_reducible rfl
    try simp only [Act.put, List.setIfInBounds_toArray, List.set_cons_zero, List.set_cons_succ]
    refine wpAnyG_load (i := 16) (oi := ⟨some 27, _, _, _, _, _⟩) (v := ?_) rfl (by kernel_rfl) (by kernel_rfl) (by kernel_rfl) (by rfl) (fun _ _ _ h => h) (by rfl) ?_ (by assumption) ?_
    rotate_left
    · intro w hS
      try dsimp only at hS
      go_simp
      first | done | with_reducible rfl
    try simp only [Act.put, List.setIfInBounds_toArray, List.set_cons_zero, List.set_cons_succ]
    refine wpAnyG_pure (i := 18) (oi := ⟨some 29, _, _, _, _, _⟩) (v := ?_) rfl (by kernel_rfl) (by kernel_rfl) (by kernel_rfl) (by rfl) (fun _ _ _ h => h) (by rfl) ?_ ?_
    rotate_left
    · intro w
      go_simp
      first | done | with_reducible rfl
    try simp only [Act.put, List.setIfInBounds_toArray, List.set_cons_zero, List.set_cons_succ]
    refine wpAnyG_load (i := 19) (oi := ⟨some 30, _, _, _, _, _⟩) (v := ?_) rfl (by kernel_rfl) (by kernel_rfl) (by kernel_rfl) (by rfl) (fun _ _ _ h => h) (by rfl) ?_ (by assumption) ?_
    rotate_left
    · intro w hS
      try dsimp only at hS
      go_simp
      first | done | with_reducible rfl
    try simp only [Act.put, List.setIfInBounds_toArray, List.set_cons_zero, List.set_cons_succ]
    refine wpAnyG_pure (i := 22) (oi := ⟨some 33, _, _, _, _, _⟩) (v := ?_) rfl (by kernel_rfl) (by kernel_rfl) (by kernel_rfl) (by rfl) (fun _ _ _ h => h) (by rfl) ?_ ?_
    rotate_left
    · intro w
      go_simp
      first | done | with_reducible rfl
    try simp only [Act.put, List.setIfInBounds_toArray, List.set_cons_zero, List.set_cons_succ]
    refine wpAnyG_load (i := 23) (oi := ⟨some 34, _, _, _, _, _⟩) (v := ?_) rfl (by kernel_rfl) (by kernel_rfl) (by kernel_rfl) (by rfl) (fun _ _ _ h => h) (by rfl) ?_ (by assumption) ?_
    rotate_left
    · intro w hS
      try dsimp only at hS
      go_simp
      first | done | with_reducible rfl
    try simp only [Act.put, List.setIfInBounds_toArray, List.set_cons_zero, List.set_cons_succ]
    refine wpAnyG_pure (i := 26) (oi := ⟨some 37, _, _, _, _, _⟩) (v := ?_) rfl (by kernel_rfl) (by kernel_rfl) (by kernel_rfl) (by rfl) (fun _ _ _ h => h) (by rfl) ?_ ?_
    rotate_left
    · intro w
      go_simp
      first | done | with_reducible rfl
    try simp only [Act.put, List.setIfInBounds_toArray, List.set_cons_zero, List.set_cons_succ]
    refine wpAnyG_load (i := 27) (oi := ⟨some 38, _, _, _, _, _⟩) (v := ?_) rfl (by kernel_rfl) (by kernel_rfl) (by kernel_rfl) (by rfl) (fun _ _ _ h => h) (by rfl) ?_ (by assumption) ?_
    rotate_left
    · intro w hS
      try dsimp only at hS
      go_simp
      first | done | with_reducible rfl
    try simp only [Act.put, List.setIfInBounds_toArray, List.set_cons_zero, List.set_cons_succ]
    refine wpAnyG_keep (i := 2) (oi := ⟨some 13, _, _, _, _, _⟩) (by kernel_rfl) rfl (fun K hK => ?_)
    rw [if_pos (by rfl)]
    go_simp
    refine (B1.out _ h).mono ?_
    clear h
    rintro ev w2 ⟨rfl, h⟩
    refine hK.out _ _ ?_ (fun hS => ?_)
    · exact HC.out _ h
    clear hK K
    try simp only [Act.put, List.setIfInBounds_toArray, List.set_cons_zero, List.set_cons_succ]
    refine wpAnyG_keep (i := 5) (oi := ⟨some 16, _, _, _, _, _⟩) (by kernel_rfl) rfl (fun K hK => ?_)
    rw [if_pos (by rfl)]
    go_simp
    refine (B2.out _ h).mono ?_
    clear h
    rintro ev w2 ⟨rfl, h⟩
    refine hK.out _ _ ?_ (fun hS => ?_)
    · exact HC.out _ h
    clear hK K
    try simp only [Act.put, List.setIfInBounds_toArray, List.set_cons_zero, List.set_cons_succ]
    refine wpAnyG_pure (i := 6) (oi := ⟨some 17, _, _, _, _, _⟩) (v := (.string (p1 ++ p2))) rfl (by kernel_rfl) (by kernel_rfl) (by kernel_rfl) (by rfl) (fun _ _ _ h => h) (by rfl) ?_ ?_
    · intro w
      go_simp; first | done | with_reducible rfl | omega | (simp only [ByteArray.size_append]; omega)
    try simp only [Act.put, List.setIfInBounds_toArray, List.set_cons_zero, List.set_cons_succ]
    refine wpAnyG_keep (i := 9) (oi := ⟨some 20, _, _, _, _, _⟩) (by kernel_rfl) rfl (fun K hK => ?_)
    rw [if_pos (by rfl)]
    go_simp
    refine (KS.out _ h).mono ?_
    clear h
    rintro ev w2 ⟨rfl, h⟩
    refine hK.out _ _ ?_ (fun hS => ?_)
    · exact HC.out _ h
    clear hK K
    try simp only [Act.put, List.setIfInBounds_toArray, List.set_cons_zero, List.set_cons_succ]
    refine wpAnyG_keep (i := 10) (oi := ⟨some 21, _, _, _, _, _⟩) (by kernel_rfl) rfl (fun K hK => ?_)
    rw [if_pos (by rfl)]
    go_simp
    refine (B3.out _ h).mono ?_
    clear h
    rintro ev w2 ⟨rfl, h⟩
    refine hK.out _ _ ?_ (fun hS => ?_)
    · exact HC.out _ h
    clear hK K
    try simp only [Act.put, List.setIfInBounds_toArray, List.set_cons_zero, List.set_cons_succ]
    refine wpAnyG_pure (i := 11) (oi := ⟨some 22, _, _, _, _, _⟩) (v := (.string (p1 ++ p2 ++ p3))) rfl (by kernel_rfl) (by kernel_rfl) (by kernel_rfl) (by rfl) (fun _ _ _ h => h) (by rfl) ?_ ?_
    · intro w
      go_simp; first | done | with_reducible rfl | omega | (simp only [ByteArray.size_append]; omega)
    try simp only [Act.put, List.setIfInBounds_toArray, List.set_cons_zero, List.set_cons_succ]
    refine wpAnyG_pure (i := 14) (oi := ⟨some 25, _, _, _, _, _⟩) (v := (.string (p1 ++ p2 ++ p3 ++ hs))) rfl (by kernel_rfl) (by kernel_rfl) (by kernel_rfl) (by rfl) (fun _ _ _ h => h) (by rfl) ?_ ?_
    · intro w
      go_simp; first | done | with_reducible rfl | omega | (simp only [ByteArray.size_append]; omega)
    try simp only [Act.put, List.setIfInBounds_toArray, List.set_cons_zero, List.set_cons_succ]
    refine wpAnyG_pure (i := 17) (oi := ⟨some 28, _, _, _, _, _⟩) (v := (.string (p1 ++ p2 ++ p3 ++ hs ++ ch))) rfl (by kernel_rfl) (by kernel_rfl) (by kernel_rfl) (by rfl) (fun _ _ _ h => h) (by rfl) ?_ ?_
    · intro w
      go_simp; first | done | with_reducible rfl | omega | (simp only [ByteArray.size_append]; omega)
    try simp only [Act.put, List.setIfInBounds_toArray, List.set_cons_zero, List.set_cons_succ]
    refine wpAnyG_keep (i := 20) (oi := ⟨some 31, _, _, _, _, _⟩) (by kernel_rfl) rfl (fun K hK => ?_)
    rw [if_pos (by rfl)]
    go_simp
    refine (B6.out _ h).mono ?_
    clear h
    rintro ev w2 ⟨rfl, h⟩
    refine hK.out _ _ ?_ (fun hS => ?_)
    · exact HC.out _ h
    clear hK K
    try simp only [Act.put, List.setIfInBounds_toArray, List.set_cons_zero, List.set_cons_succ]
    refine wpAnyG_pure (i := 21) (oi := ⟨some 32, _, _, _, _, _⟩) (v := (.string (p1 ++ p2 ++ p3 ++ hs ++ ch ++ p6))) rfl (by kernel_rfl) (by kernel_rfl) (by kernel_rfl) (by rfl) (fun _ _ _ h => h) (by rfl) ?_ ?_
    · intro w
      go_simp; first | done | with_reducible rfl | omega | (simp only [ByteArray.size_append]; omega)
    try simp only [Act.put, List.setIfInBounds_toArray, List.set_cons_zero, List.set_cons_succ]
    refine wpAnyG_keep (i := 24) (oi := ⟨some 35, _, _, _, _, _⟩) (by kernel_rfl) rfl (fun K hK => ?_)
    rw [if_pos (by rfl)]
    go_simp
    refine (B7.out _ h).mono ?_
    clear h
    rintro ev w2 ⟨rfl, h⟩
    refine hK.out _ _ ?_ (fun hS => ?_)
    · exact HC.out _ h
    clear hK K
    try simp only [Act.put, List.setIfInBounds_toArray, List.set_cons_zero, List.set_cons_succ]
    refine wpAnyG_pure (i := 25) (oi := ⟨some 36, _, _, _, _, _⟩) (v := (.string (p1 ++ p2 ++ p3 ++ hs ++ ch ++ p6 ++ p7))) rfl (by kernel_rfl) (by kernel_rfl) (by kernel_rfl) (by rfl) (fun _ _ _ h => h) (by rfl) ?_ ?_
    · intro w
      go_simp; first | done | with_reducible rfl | omega | (simp only [ByteArray.size_append]; omega)
    try simp only [Act.put, List.setIfInBounds_toArray, List.set_cons_zero, List.set_cons_succ]
    refine wpAnyG_keep (i := 28) (oi := ⟨some 39, _, _, _, _, _⟩) (by kernel_rfl) rfl (fun K hK => ?_)
    rw [if_pos (by rfl)]
    go_simp
    refine (B8.out _ h).mono ?_
    clear h
    rintro ev w2 ⟨rfl, h⟩
    refine hK.out _ _ ?_ (fun hS => ?_)
    · exact HC.out _ h
    clear hK K
    try simp only [Act.put, List.setIfInBounds_toArray, List.set_cons_zero, List.set_cons_succ]
    refine wpAnyG_pure (i := 29) (oi := ⟨some 40, _, _, _, _, _⟩) (v := (.string (p1 ++ p2 ++ p3 ++ hs ++ ch ++ p6 ++ p7 ++ p8))) rfl (by kernel_rfl) (by kernel_rfl) (by kernel_rfl) (by rfl) (fun _ _ _ h => h) (by rfl) ?_ ?_
    · intro w
      go_simp; first | done | with_reducible rfl | omega | (simp only [ByteArray.size_append]; omega)
    try simp only [Act.put, List.setIfInBounds_toArray, List.set_cons_zero, List.set_cons_succ]
    refine wpAnyG_pure (i := 30) (oi := ⟨some 5, _, _, _, _, _⟩) (v := ?_) rfl (by kernel_rfl) (by kernel_rfl) (by kernel_rfl) (by rfl) (fun _ _ _ h => h) (by rfl) ?_ ?_
    rotate_left
    · intro w
      go_simp
      first | done | with_reducible rfl
    try simp only [Act.put, List.setIfInBounds_toArray, List.set_cons_zero, List.set_cons_succ]
    refine wpAnyG_done (by kernel_rfl) ?_ _
    refine NoPanic.normal ?_
    have c0 := HD.out _ h
    have H3 := Lib.hid h
    clear h
    have q0 : ¬ 9223372036854775807 < 1 + p0.size := by omega
    go_wp2_with (first
      | (with_reducible refine (B0.out _ H3.out).mono ?_; clear H3; rintro ev w2 ⟨rfl, h⟩; have H3 := Lib.hid h; clear h)
      | (with_reducible refine at_slot (k := none) ?_; refine wpList_store_whole (o := ⟨none, _, _, _, _, _⟩) (cs := [.string ⟨#[]⟩, .string ⟨#[]⟩]) (vs := [.string (⟨#[97]⟩ ++ p0), .string (p1 ++ p2 ++ p3 ++ hs ++ ch ++ p6 ++ p7 ++ p8)]) H3.out rfl (pair_one _ _) (by kernel_rfl) rfl rfl rfl rfl ?_; clear H3; intro w7 h; have H9 := Lib.hid h; clear h))
    refine bodyPost_ret (results_ct rfl rfl H9.out hd hrow (by kernel_rfl)) rfl ?_
    exact ⟨by rw [HV.out]; rfl, H9.out.drop.drop⟩
  · have HR : Hid (codeR id cl su xs hs ch un st fa = (noB, noB, 140)) := Lib.hid (if_neg hm)
    have KM : Hid (∀ w3 : World, Own E w3 (Hp.blk (w.heap.size + 1) ITT #[.string ⟨#[]⟩, .string ⟨#[]⟩] :: Hp.blk w.heap.size CDT (codeC id cl su A n c hs ch un st fa).toArray :: Hp.ro S :: L) → Calls Tryz.prog 91 #[.agg (codeC id cl su A n c hs ch un st fa).toArray] w3 fun ev w' => ev = .returned (.bool false) ∧ Own E w' (Hp.blk (w.heap.size + 1) ITT #[.string ⟨#[]⟩, .string ⟨#[]⟩] :: Hp.blk w.heap.size CDT (codeC id cl su A n c hs ch un st fa).toArray :: Hp.ro S :: L)) := Lib.hid fun w3 h3 => (xcodemay_any id cl su A n c hs ch un st fa xs w3 hr hsz hcl hsu hn43 (show Own E w3 (Hp.ro S :: Hp.blk (w.heap.size + 1) ITT #[.string ⟨#[]⟩, .string ⟨#[]⟩] :: Hp.blk w.heap.size CDT (codeC id cl su A n c hs ch un st fa).toArray :: L) from h3.f2)).mono fun ev w' he => ⟨by rw [he.1, decide_eq_false hm], he.2.f2.f2⟩
    clear h h1 h2 hm hr hsz hcl hsu
    unfold codeC at *
    go_enter Tryz.func34, Tryz.ntmps34
    go_wp2_with (first
      | (with_reducible refine (KM.out _ H3.out).mono ?_; clear H3; rintro ev w2 ⟨rfl, h⟩; have H3 := Lib.hid h; clear h)
      | (with_reducible refine at_slot (k := none) ?_; refine wpList_store_whole (o := ⟨none, _, _, _, _, _⟩) (cs := [.string ⟨#[]⟩, .string ⟨#[]⟩]) (vs := [.string ⟨#[]⟩, .string ⟨#[]⟩]) H3.out rfl (pair_one ⟨#[]⟩ ⟨#[]⟩) (by kernel_rfl) rfl rfl rfl rfl ?_; clear H3; intro w7 h; have H8 := Lib.hid h; clear h))
    refine bodyPost_ret (results_ct rfl rfl H8.out hd hrow (by kernel_rfl)) rfl ?_
    exact ⟨by rw [HR.out]; rfl, H8.out.drop.drop⟩
end
end Go.Proofs.YtabibfabieghpaaGreatDoor
namespace Go.Proofs.YtabibfabieghpaaGreatDoor
open Go.RowKit
section
variable {E : World} {L : List Hp}
set_option maxRecDepth 20000 in
set_option maxHeartbeats 8000000 in
theorem samecode_any (id : Int) (cl su : ByteArray) (A B : Option Addr) (n c m d : Nat) (hs ch : ByteArray) (un st fa : Int) (xs : List ByteArray) (w : World) (hA : Seen E L A n xs) (hB : Seen E L B m xs) (hn : n ≤ 140737488355328) (h : Own E w L) :
    Calls Tryz.prog 38 #[.agg (codeC id cl su A n c hs ch un st fa).toArray, .agg (codeC id cl su B m d hs ch un st fa).toArray] w fun ev w' => ev = .returned (.bool true) ∧ Own E w' L := by
  have h1 := h.alloc (.cells (codeC id cl su A n c hs ch un st fa).toArray CDT)
  have h2 := h1.alloc (.cells (codeC id cl su B m d hs ch un st fa).toArray CDT)
  rw [alloc_size] at h2
  have K := fun (wq : World) hq => same_any (E := E) (L := Hp.blk (w.heap.size + 1) CDT (codeC id cl su B m d hs ch un st fa).toArray :: Hp.blk w.heap.size CDT (codeC id cl su A n c hs ch un st fa).toArray :: L) A B n c m d xs xs wq hA.cons.cons hB.cons.cons hn hq
  rw [decide_eq_true rfl] at K
  have H := Lib.hid (show Own E _ (Hp.blk (w.heap.size + 1) CDT (codeC id cl su B m d hs ch un st fa).toArray :: Hp.blk w.heap.size CDT (codeC id cl su A n c hs ch un st fa).toArray :: L) from h2)
  have t1 : (cl.toList == cl.toList) = true := beq_self_eq_true _
  have t2 : (su.toList == su.toList) = true := beq_self_eq_true _
  have t3 : (hs.toList == hs.toList) = true := beq_self_eq_true _
  have t4 : (ch.toList == ch.toList) = true := beq_self_eq_true _
  clear h h1 h2 hA hB
  have y3 : _ = some (Value.slice B m d) := (H.out.cell 3).trans rfl
  have x3 : _ = some (Value.slice A n c) := (H.out.f1.cell 3).trans rfl
  go_enter Tryz.func38, Tryz.ntmps38
  go_wp2_with (refine (K _ H.out).mono ?_; clear H K; rintro ev w2 ⟨rfl, h⟩; have H := Lib.hid h; clear h; obtain ⟨e0, e1, e2, e3, e4, e5, e6, e7, e8⟩ := code_cells id cl su B m d hs ch un st fa H.out; obtain ⟨d0, d1, d2, d3, d4, d5, d6, d7, d8⟩ := code_cells id cl su A n c hs ch un st fa H.out.f1)
  go_ret
  first
    | exact ⟨rfl, H.out.drop.drop⟩
    | exact ⟨by simp, H.out.drop.drop⟩
end
end Go.Proofs.YtabibfabieghpaaGreatDoor
