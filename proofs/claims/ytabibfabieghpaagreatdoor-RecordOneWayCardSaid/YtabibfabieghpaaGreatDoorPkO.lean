/- A code's cells; record.codeMay (printed by gen_cd.py). The code's fields; record.PrintCode (printed by gen_cd.py). record.ParseCode (begun by gen_paf.py code): a pair that is a right record's is read as that, every other one is refused. -/
import Derived.Test.YtabibfabieghpaaGreatDoorPkN
namespace Go.Proofs.YtabibfabieghpaaGreatDoor
open Go.RowKit
abbrev CDT : TypeId := 66
def codeC (id : Int) (cl su : ByteArray) (A : Option Addr) (n c : Nat) (hs ch : ByteArray) (un st fa : Int) : List Value := [.int .i64 id, .string cl, .string su, .slice A n c, .string hs, .string ch, .int .i64 un, .int .i64 st, .int .i64 fa]
def codeMay (id : Int) (cl su : ByteArray) (xs : List ByteArray) (hs ch : ByteArray) (un st fa : Int) : Prop := (1 ≤ id ∧ id ≤ 4611686018427387904) ∧ nameB cl = true ∧ nameB su = true ∧ scErr xs = 0 ∧ hs.size = 32 ∧ ch.size = 32 ∧ (0 ≤ un ∧ un ≤ 1099511627776) ∧ ((st = 1 ∧ fa = 0) ∨ (st = 2 ∧ (1 ≤ fa ∧ fa ≤ 4611686018427387904)))
instance (id : Int) (cl su : ByteArray) (xs : List ByteArray) (hs ch : ByteArray) (un st fa : Int) : Decidable (codeMay id cl su xs hs ch un st fa) := by unfold codeMay; exact inferInstance
section
variable {E : World} {S : Ph} {L : List Hp}
theorem code_cells {w : World} {b : Nat} (id : Int) (cl su : ByteArray) (A : Option Addr) (n c : Nat) (hs ch : ByteArray) (un st fa : Int) (h : Own E w (Hp.blk b CDT (codeC id cl su A n c hs ch un st fa).toArray :: L)) :
    w.cell? ⟨b, 0, none⟩ = some (.int .i64 id) ∧ w.cell? ⟨b, 1, none⟩ = some (.string cl) ∧ w.cell? ⟨b, 2, none⟩ = some (.string su) ∧ w.cell? ⟨b, 3, none⟩ = some (.slice A n c) ∧ w.cell? ⟨b, 4, none⟩ = some (.string hs) ∧ w.cell? ⟨b, 5, none⟩ = some (.string ch) ∧ w.cell? ⟨b, 6, none⟩ = some (.int .i64 un) ∧ w.cell? ⟨b, 7, none⟩ = some (.int .i64 st) ∧ w.cell? ⟨b, 8, none⟩ = some (.int .i64 fa) := by
  refine ⟨(h.cell 0).trans rfl, (h.cell 1).trans rfl, (h.cell 2).trans rfl, (h.cell 3).trans rfl, (h.cell 4).trans rfl, (h.cell 5).trans rfl, (h.cell 6).trans rfl, (h.cell 7).trans rfl, (h.cell 8).trans rfl⟩
set_option maxRecDepth 20000 in
set_option maxHeartbeats 8000000 in
theorem codemay_any (id : Int) (cl su : ByteArray) (A : Option Addr) (n c : Nat) (hs ch : ByteArray) (un st fa : Int) (xs : List ByteArray) (w : World) (hr : Rds S 1 enStr A n xs) (hnc : n ≤ c) (hn43 : n ≤ 8796093022208) (h : Own E w (Hp.ro S :: L)) :
    Calls Tryz.prog 89 #[.agg (codeC id cl su A n c hs ch un st fa).toArray] w fun ev w' => ev = .returned (.bool (decide (codeMay id cl su xs hs ch un st fa))) ∧ Own E w' (Hp.ro S :: L) := by
  have H1 := Lib.hid (show Own E _ (Hp.blk w.heap.size CDT (codeC id cl su A n c hs ch un st fa).toArray :: Hp.ro S :: L) from h.alloc (.cells (codeC id cl su A n c hs ch un st fa).toArray CDT))
  obtain ⟨n1, hn1⟩ : ∃ nv : Int, nameB cl = decide (nv = 1) := ⟨if nameB cl then 1 else 0, by cases nameB cl <;> rfl⟩
  obtain ⟨n2, hn2⟩ : ∃ nv : Int, nameB su = decide (nv = 1) := ⟨if nameB su then 1 else 0, by cases nameB su <;> rfl⟩
  obtain ⟨jn, hjn⟩ : ∃ jn : Int, fa = 0 ↔ jn = 1 := ⟨if fa = 0 then 1 else 0, by split <;> simp_all⟩
  obtain ⟨q1, hq1⟩ : ∃ q : Int, st = 1 ↔ q = 1 := ⟨if st = 1 then 1 else 0, by split <;> simp_all⟩
  obtain ⟨q2, hq2⟩ : ∃ q : Int, st = 2 ↔ q = 1 := ⟨if st = 2 then 1 else 0, by split <;> simp_all⟩
  have zj : (fa == 0) = decide (jn = 1) := by rw [Bool.eq_iff_iff, beq_iff_eq, decide_eq_true_eq, hjn]
  have z1 : (st == 1) = decide (q1 = 1) := by rw [Bool.eq_iff_iff, beq_iff_eq, decide_eq_true_eq, hq1]
  have z2 : (st == 2) = decide (q2 = 1) := by rw [Bool.eq_iff_iff, beq_iff_eq, decide_eq_true_eq, hq2]
  have KR := Lib.hid (fun (w3 : World) (h3 : Own E w3 (Hp.blk w.heap.size CDT (codeC id cl su A n c hs ch un st fa).toArray :: Hp.ro S :: L)) => right_any (E := E) (S := S) (L := Hp.blk w.heap.size CDT (codeC id cl su A n c hs ch un st fa).toArray :: L) A n c xs w3 hr hnc hn43 h3.f1)
  obtain ⟨sx, hsx⟩ : ∃ sx : Int, sx = scErr xs := ⟨_, rfl⟩
  rw [← hsx] at KR
  have K1 := Lib.hid (fun (w3 : World) (h3 : Own E w3 (Hp.blk w.heap.size CDT (codeC id cl su A n c hs ch un st fa).toArray :: Hp.ro S :: L)) => isname_any cl w3 h3)
  have K2 := Lib.hid (fun (w3 : World) (h3 : Own E w3 (Hp.blk w.heap.size CDT (codeC id cl su A n c hs ch un st fa).toArray :: Hp.ro S :: L)) => isname_any su w3 h3)
  rw [hn1] at K1
  rw [hn2] at K2
  have hiff : codeMay id cl su xs hs ch un st fa ↔ ((1 ≤ id ∧ id ≤ 4611686018427387904) ∧ n1 = 1 ∧ n2 = 1 ∧ sx = 0 ∧ hs.size = 32 ∧ ch.size = 32 ∧ (0 ≤ un ∧ un ≤ 1099511627776) ∧ ((q1 = 1 ∧ jn = 1) ∨ (q2 = 1 ∧ (1 ≤ fa ∧ fa ≤ 4611686018427387904)))) := by
    unfold codeMay
    rw [hn1, hn2, hjn, hq1, hq2, ← hsx, decide_eq_true_iff, decide_eq_true_iff]
  have HI := Lib.hid hiff
  have HX := Lib.hid (show ¬ (q1 = 1 ∧ q2 = 1) by rw [← hq1, ← hq2]; omega)
  have k1 := fun w => isid_any id w
  have k2 := fun w => istime_any un w
  have k3 := fun w => isdigest_any hs w
  have k4 := fun w => isdigest_any ch w
  have k5 := fun w => isid_any fa w
  clear h hiff hn1 hn2 hjn hq1 hq2 hsx hr
  go_enter Tryz.func89, Tryz.ntmps89
  obtain ⟨d0, d1, d2, d3, d4, d5, d6, d7, d8⟩ := code_cells id cl su A n c hs ch un st fa H1.out
  go_wp2_with (first
    | (with_reducible refine (k1 _).mono ?_; rintro ev w2 ⟨rfl, rfl⟩)
    | (with_reducible refine (k2 _).mono ?_; rintro ev w2 ⟨rfl, rfl⟩)
    | (with_reducible refine (k3 _).mono ?_; rintro ev w2 ⟨rfl, rfl⟩)
    | (with_reducible refine (k4 _).mono ?_; rintro ev w2 ⟨rfl, rfl⟩)
    | (with_reducible refine (k5 _).mono ?_; rintro ev w2 ⟨rfl, rfl⟩)
    | (with_reducible refine (K1.out _ H1.out).mono ?_; clear H1 d0 d1 d2 d3 d4 d5 d6 d7 d8; rintro ev w2 ⟨rfl, h⟩; have H1 := Lib.hid (show Own E w2 (Hp.blk w.heap.size CDT (codeC id cl su A n c hs ch un st fa).toArray :: Hp.ro S :: L) from h); clear h; obtain ⟨d0, d1, d2, d3, d4, d5, d6, d7, d8⟩ := code_cells id cl su A n c hs ch un st fa H1.out)
    | (with_reducible refine (K2.out _ H1.out).mono ?_; clear H1 d0 d1 d2 d3 d4 d5 d6 d7 d8; rintro ev w2 ⟨rfl, h⟩; have H1 := Lib.hid (show Own E w2 (Hp.blk w.heap.size CDT (codeC id cl su A n c hs ch un st fa).toArray :: Hp.ro S :: L) from h); clear h; obtain ⟨d0, d1, d2, d3, d4, d5, d6, d7, d8⟩ := code_cells id cl su A n c hs ch un st fa H1.out)
    | (with_reducible refine (KR.out _ H1.out).mono ?_; clear H1 d0 d1 d2 d3 d4 d5 d6 d7 d8; rintro ev w2 ⟨rfl, h⟩; have H1 := Lib.hid (show Own E w2 (Hp.blk w.heap.size CDT (codeC id cl su A n c hs ch un st fa).toArray :: Hp.ro S :: L) from h.f1); clear h; obtain ⟨d0, d1, d2, d3, d4, d5, d6, d7, d8⟩ := code_cells id cl su A n c hs ch un st fa H1.out))
  all_goals go_ret
  all_goals
    refine ⟨(show Ending.returned (Value.bool _) = Ending.returned (Value.bool _) from ret_bool ?_), H1.out.drop⟩
    rw [Bool.eq_iff_iff]
    refine Iff.trans ?_ (decide_eq_true_iff.trans HI.out).symm
    have hx := HX.out
    (first | omega | (simp <;> omega) | ((try simp only [Bool.not_eq_true'] at *); (try simp only [Bool.not_eq_false'] at *); (try simp only [decide_eq_true_eq] at *); (try simp only [decide_eq_false_iff_not] at *); (try simp only [bne_iff_ne] at *); (try simp only [ne_eq] at *); (try simp only [bne_eq_false_iff_eq] at *); first | omega | (simp <;> omega)))
end
end Go.Proofs.YtabibfabieghpaaGreatDoor
namespace Go.Proofs.YtabibfabieghpaaGreatDoor
open Go.RowKit
def codeFs (tb fb : Nat) : List (Fk × Addr) := [(.text, ⟨tb, 1, none⟩), (.text, ⟨tb, 2, none⟩), (.text, ⟨fb, 0, none⟩), (.raw 32, ⟨tb, 4, none⟩), (.raw 32, ⟨tb, 5, none⟩), (.num 6, ⟨tb, 6, none⟩), (.num 1, ⟨tb, 7, none⟩), (.num 8, ⟨tb, 8, none⟩)]
section
variable {E : World} {L : List Hp}
set_option maxRecDepth 20000 in
set_option maxHeartbeats 4000000 in
theorem codefields_any (tb fb : Nat) (w : World) (h : Own E w L) :
    Calls Tryz.prog 90 #[.pointer (some ⟨tb, 0, none⟩), .pointer (some ⟨fb, 0, none⟩)] w fun e w' => ∃ b, e = .returned (.slice (some ⟨b, 0, none⟩) 8 8) ∧ Own E w' (Hp.blk b FT ((codeFs tb fb).flatMap enF).toArray :: L) := by
  go_enter Tryz.func90, Tryz.ntmps90
  go_wp2_with fail
  refine wp_region_text [] (fun w => Own E w L) (by kernel_rfl) ?_ (fun hS => ?_)
  · exact h.drew
  refine wpAnyG_pure (i := 0) (oi := ⟨some 5, _, _, _, _, _⟩) (v := ?_) rfl (by kernel_rfl) (by kernel_rfl) (by kernel_rfl) (by rfl) (fun _ _ _ h => h) (by rfl) ?_ ?_
  rotate_left
  · intro w
    go_simp
    first | done | with_reducible rfl
  try simp only [Act.put, List.setIfInBounds_toArray, List.set_cons_zero, List.set_cons_succ]
  refine wpAnyG_pure (i := 1) (oi := ⟨some 6, _, _, _, _, _⟩) (v := ?_) rfl (by kernel_rfl) (by kernel_rfl) (by kernel_rfl) (by rfl) (fun _ _ _ h => h) (by rfl) ?_ ?_
  rotate_left
  · intro w
    go_simp
    first | done | with_reducible rfl
  try simp only [Act.put, List.setIfInBounds_toArray, List.set_cons_zero, List.set_cons_succ]
  refine wpAnyG_pure (i := 2) (oi := ⟨some 7, _, _, _, _, _⟩) (v := ?_) rfl (by kernel_rfl) (by kernel_rfl) (by kernel_rfl) (by rfl) (fun _ _ _ h => h) (by rfl) ?_ ?_
  rotate_left
  · intro w
    go_simp
    first | done | with_reducible rfl
  try simp only [Act.put, List.setIfInBounds_toArray, List.set_cons_zero, List.set_cons_succ]
  refine wpAnyG_pure (i := 4) (oi := ⟨some 9, _, _, _, _, _⟩) (v := ?_) rfl (by kernel_rfl) (by kernel_rfl) (by kernel_rfl) (by rfl) (fun _ _ _ h => h) (by rfl) ?_ ?_
  rotate_left
  · intro w
    go_simp
    first | done | with_reducible rfl
  try simp only [Act.put, List.setIfInBounds_toArray, List.set_cons_zero, List.set_cons_succ]
  refine wpAnyG_pure (i := 5) (oi := ⟨some 10, _, _, _, _, _⟩) (v := ?_) rfl (by kernel_rfl) (by kernel_rfl) (by kernel_rfl) (by rfl) (fun _ _ _ h => h) (by rfl) ?_ ?_
  rotate_left
  · intro w
    go_simp
    first | done | with_reducible rfl
  try simp only [Act.put, List.setIfInBounds_toArray, List.set_cons_zero, List.set_cons_succ]
  refine wpAnyG_pure (i := 6) (oi := ⟨some 11, _, _, _, _, _⟩) (v := ?_) rfl (by kernel_rfl) (by kernel_rfl) (by kernel_rfl) (by rfl) (fun _ _ _ h => h) (by rfl) ?_ ?_
  rotate_left
  · intro w
    go_simp
    first | done | with_reducible rfl
  try simp only [Act.put, List.setIfInBounds_toArray, List.set_cons_zero, List.set_cons_succ]
  refine wpAnyG_pure (i := 8) (oi := ⟨some 13, _, _, _, _, _⟩) (v := ?_) rfl (by kernel_rfl) (by kernel_rfl) (by kernel_rfl) (by rfl) (fun _ _ _ h => h) (by rfl) ?_ ?_
  rotate_left
  · intro w
    go_simp
    first | done | with_reducible rfl
  try simp only [Act.put, List.setIfInBounds_toArray, List.set_cons_zero, List.set_cons_succ]
  refine wpAnyG_pure (i := 10) (oi := ⟨some 15, _, _, _, _, _⟩) (v := ?_) rfl (by kernel_rfl) (by kernel_rfl) (by kernel_rfl) (by rfl) (fun _ _ _ h => h) (by rfl) ?_ ?_
  rotate_left
  · intro w
    go_simp
    first | done | with_reducible rfl
  try simp only [Act.put, List.setIfInBounds_toArray, List.set_cons_zero, List.set_cons_succ]
  refine wpAnyG_pure (i := 11) (oi := ⟨some 16, _, _, _, _, _⟩) (v := ?_) rfl (by kernel_rfl) (by kernel_rfl) (by kernel_rfl) (by rfl) (fun _ _ _ h => h) (by rfl) ?_ ?_
  rotate_left
  · intro w
    go_simp
    first | done | with_reducible rfl
  try simp only [Act.put, List.setIfInBounds_toArray, List.set_cons_zero, List.set_cons_succ]
  refine wpAnyG_pure (i := 12) (oi := ⟨some 17, _, _, _, _, _⟩) (v := ?_) rfl (by kernel_rfl) (by kernel_rfl) (by kernel_rfl) (by rfl) (fun _ _ _ h => h) (by rfl) ?_ ?_
  rotate_left
  · intro w
    go_simp
    first | done | with_reducible rfl
  try simp only [Act.put, List.setIfInBounds_toArray, List.set_cons_zero, List.set_cons_succ]
  refine wpAnyG_pure (i := 14) (oi := ⟨some 19, _, _, _, _, _⟩) (v := ?_) rfl (by kernel_rfl) (by kernel_rfl) (by kernel_rfl) (by rfl) (fun _ _ _ h => h) (by rfl) ?_ ?_
  rotate_left
  · intro w
    go_simp
    first | done | with_reducible rfl
  try simp only [Act.put, List.setIfInBounds_toArray, List.set_cons_zero, List.set_cons_succ]
  refine wpAnyG_pure (i := 15) (oi := ⟨some 20, _, _, _, _, _⟩) (v := ?_) rfl (by kernel_rfl) (by kernel_rfl) (by kernel_rfl) (by rfl) (fun _ _ _ h => h) (by rfl) ?_ ?_
  rotate_left
  · intro w
    go_simp
    first | done | with_reducible rfl
  try simp only [Act.put, List.setIfInBounds_toArray, List.set_cons_zero, List.set_cons_succ]
  refine wpAnyG_pure (i := 16) (oi := ⟨some 21, _, _, _, _, _⟩) (v := ?_) rfl (by kernel_rfl) (by kernel_rfl) (by kernel_rfl) (by rfl) (fun _ _ _ h => h) (by rfl) ?_ ?_
  rotate_left
  · intro w
    go_simp
    first | done | with_reducible rfl
  try simp only [Act.put, List.setIfInBounds_toArray, List.set_cons_zero, List.set_cons_succ]
  refine wpAnyG_pure (i := 18) (oi := ⟨some 23, _, _, _, _, _⟩) (v := ?_) rfl (by kernel_rfl) (by kernel_rfl) (by kernel_rfl) (by rfl) (fun _ _ _ h => h) (by rfl) ?_ ?_
  rotate_left
  · intro w
    go_simp
    first | done | with_reducible rfl
  try simp only [Act.put, List.setIfInBounds_toArray, List.set_cons_zero, List.set_cons_succ]
  refine wpAnyG_pure (i := 19) (oi := ⟨some 24, _, _, _, _, _⟩) (v := ?_) rfl (by kernel_rfl) (by kernel_rfl) (by kernel_rfl) (by rfl) (fun _ _ _ h => h) (by rfl) ?_ ?_
  rotate_left
  · intro w
    go_simp
    first | done | with_reducible rfl
  try simp only [Act.put, List.setIfInBounds_toArray, List.set_cons_zero, List.set_cons_succ]
  refine wpAnyG_pure (i := 20) (oi := ⟨some 25, _, _, _, _, _⟩) (v := ?_) rfl (by kernel_rfl) (by kernel_rfl) (by kernel_rfl) (by rfl) (fun _ _ _ h => h) (by rfl) ?_ ?_
  rotate_left
  · intro w
    go_simp
    first | done | with_reducible rfl
  try simp only [Act.put, List.setIfInBounds_toArray, List.set_cons_zero, List.set_cons_succ]
  refine wpAnyG_pure (i := 22) (oi := ⟨some 27, _, _, _, _, _⟩) (v := ?_) rfl (by kernel_rfl) (by kernel_rfl) (by kernel_rfl) (by rfl) (fun _ _ _ h => h) (by rfl) ?_ ?_
  rotate_left
  · intro w
    go_simp
    first | done | with_reducible rfl
  try simp only [Act.put, List.setIfInBounds_toArray, List.set_cons_zero, List.set_cons_succ]
  refine wpAnyG_pure (i := 23) (oi := ⟨some 28, _, _, _, _, _⟩) (v := ?_) rfl (by kernel_rfl) (by kernel_rfl) (by kernel_rfl) (by rfl) (fun _ _ _ h => h) (by rfl) ?_ ?_
  rotate_left
  · intro w
    go_simp
    first | done | with_reducible rfl
  try simp only [Act.put, List.setIfInBounds_toArray, List.set_cons_zero, List.set_cons_succ]
  refine wpAnyG_pure (i := 24) (oi := ⟨some 29, _, _, _, _, _⟩) (v := ?_) rfl (by kernel_rfl) (by kernel_rfl) (by kernel_rfl) (by rfl) (fun _ _ _ h => h) (by rfl) ?_ ?_
  rotate_left
  · intro w
    go_simp
    first | done | with_reducible rfl
  try simp only [Act.put, List.setIfInBounds_toArray, List.set_cons_zero, List.set_cons_succ]
  refine wpAnyG_pure (i := 26) (oi := ⟨some 31, _, _, _, _, _⟩) (v := ?_) rfl (by kernel_rfl) (by kernel_rfl) (by kernel_rfl) (by rfl) (fun _ _ _ h => h) (by rfl) ?_ ?_
  rotate_left
  · intro w
    go_simp
    first | done | with_reducible rfl
  try simp only [Act.put, List.setIfInBounds_toArray, List.set_cons_zero, List.set_cons_succ]
  refine wpAnyG_pure (i := 27) (oi := ⟨some 32, _, _, _, _, _⟩) (v := ?_) rfl (by kernel_rfl) (by kernel_rfl) (by kernel_rfl) (by rfl) (fun _ _ _ h => h) (by rfl) ?_ ?_
  rotate_left
  · intro w
    go_simp
    first | done | with_reducible rfl
  try simp only [Act.put, List.setIfInBounds_toArray, List.set_cons_zero, List.set_cons_succ]
  refine wpAnyG_pure (i := 28) (oi := ⟨some 33, _, _, _, _, _⟩) (v := ?_) rfl (by kernel_rfl) (by kernel_rfl) (by kernel_rfl) (by rfl) (fun _ _ _ h => h) (by rfl) ?_ ?_
  rotate_left
  · intro w
    go_simp
    first | done | with_reducible rfl
  try simp only [Act.put, List.setIfInBounds_toArray, List.set_cons_zero, List.set_cons_succ]
  refine wpAnyG_keep (i := 3) (oi := ⟨some 8, _, _, _, _, _⟩) (by kernel_rfl) rfl (fun K hK => ?_)
  rw [if_pos (by rfl)]
  go_simp
  refine (ftext_any ⟨tb, 1, none⟩ _ hS).mono ?_
  clear hS
  rintro e w2 ⟨rfl, h⟩
  refine hK.out _ _ ?_ (fun hS => ?_)
  · exact h
  clear hK K
  try simp only [Act.put, List.setIfInBounds_toArray, List.set_cons_zero, List.set_cons_succ]
  refine wpAnyG_keep (i := 7) (oi := ⟨some 12, _, _, _, _, _⟩) (by kernel_rfl) rfl (fun K hK => ?_)
  rw [if_pos (by rfl)]
  go_simp
  refine (ftext_any ⟨tb, 2, none⟩ _ hS).mono ?_
  clear hS
  rintro e w2 ⟨rfl, h⟩
  refine hK.out _ _ ?_ (fun hS => ?_)
  · exact h
  clear hK K
  try simp only [Act.put, List.setIfInBounds_toArray, List.set_cons_zero, List.set_cons_succ]
  refine wpAnyG_keep (i := 9) (oi := ⟨some 14, _, _, _, _, _⟩) (by kernel_rfl) rfl (fun K hK => ?_)
  rw [if_pos (by rfl)]
  go_simp
  refine (ftext_any ⟨fb, 0, none⟩ _ hS).mono ?_
  clear hS
  rintro e w2 ⟨rfl, h⟩
  refine hK.out _ _ ?_ (fun hS => ?_)
  · exact h
  clear hK K
  try simp only [Act.put, List.setIfInBounds_toArray, List.set_cons_zero, List.set_cons_succ]
  refine wpAnyG_keep (i := 13) (oi := ⟨some 18, _, _, _, _, _⟩) (by kernel_rfl) rfl (fun K hK => ?_)
  rw [if_pos (by rfl)]
  go_simp
  refine (fraw_any 32 ⟨tb, 4, none⟩ _ hS).mono ?_
  clear hS
  rintro e w2 ⟨rfl, h⟩
  refine hK.out _ _ ?_ (fun hS => ?_)
  · exact h
  clear hK K
  try simp only [Act.put, List.setIfInBounds_toArray, List.set_cons_zero, List.set_cons_succ]
  refine wpAnyG_keep (i := 17) (oi := ⟨some 22, _, _, _, _, _⟩) (by kernel_rfl) rfl (fun K hK => ?_)
  rw [if_pos (by rfl)]
  go_simp
  refine (fraw_any 32 ⟨tb, 5, none⟩ _ hS).mono ?_
  clear hS
  rintro e w2 ⟨rfl, h⟩
  refine hK.out _ _ ?_ (fun hS => ?_)
  · exact h
  clear hK K
  try simp only [Act.put, List.setIfInBounds_toArray, List.set_cons_zero, List.set_cons_succ]
  refine wpAnyG_keep (i := 21) (oi := ⟨some 26, _, _, _, _, _⟩) (by kernel_rfl) rfl (fun K hK => ?_)
  rw [if_pos (by rfl)]
  go_simp
  refine (fnum_any 6 ⟨tb, 6, none⟩ _ hS).mono ?_
  clear hS
  rintro e w2 ⟨rfl, h⟩
  refine hK.out _ _ ?_ (fun hS => ?_)
  · exact h
  clear hK K
  try simp only [Act.put, List.setIfInBounds_toArray, List.set_cons_zero, List.set_cons_succ]
  refine wpAnyG_keep (i := 25) (oi := ⟨some 30, _, _, _, _, _⟩) (by kernel_rfl) rfl (fun K hK => ?_)
  rw [if_pos (by rfl)]
  go_simp
  refine (fnum_any 1 ⟨tb, 7, none⟩ _ hS).mono ?_
  clear hS
  rintro e w2 ⟨rfl, h⟩
  refine hK.out _ _ ?_ (fun hS => ?_)
  · exact h
  clear hK K
  try simp only [Act.put, List.setIfInBounds_toArray, List.set_cons_zero, List.set_cons_succ]
  refine wpAnyG_keep (i := 29) (oi := ⟨some 34, _, _, _, _, _⟩) (by kernel_rfl) rfl (fun K hK => ?_)
  rw [if_pos (by rfl)]
  go_simp
  refine (fnum_any 8 ⟨tb, 8, none⟩ _ hS).mono ?_
  clear hS
  rintro e w2 ⟨rfl, h⟩
  refine hK.out _ _ ?_ (fun hS => ?_)
  · exact h
  clear hK K
  try simp only [Act.put, List.setIfInBounds_toArray, List.set_cons_zero, List.set_cons_succ]
  refine wpAnyG_break (i := 30) (oi := ⟨some 35, _, _, _, _, _⟩) (by kernel_rfl) rfl (by kernel_rfl) (fun K hK => ?_)
  rw [if_pos (by rfl)]
  refine wp_fields (codeFs tb fb) rfl rfl (by omega) (by omega) (by first | kernel_rfl | (simp [codeFs]; done) | (simp [codeFs]; rfl)) ?_
  have h := hS.alloc (.cells ((codeFs tb fb).flatMap enF).toArray FT)
  refine hK.out _ _ ?_
  clear hK K
  try simp only [Act.put, List.setIfInBounds_toArray, List.set_cons_zero, List.set_cons_succ]
  refine wpAnyG_pure (i := 31) (oi := ⟨some 4, _, _, _, _, _⟩) (v := ?_) rfl (by kernel_rfl) (by kernel_rfl) (by kernel_rfl) (by rfl) (fun _ _ _ h => h) (by rfl) ?_ ?_
  rotate_left
  · intro w
    go_simp
    first | done | with_reducible rfl
  try simp only [Act.put, List.setIfInBounds_toArray, List.set_cons_zero, List.set_cons_succ]
  refine wpAnyG_done (by kernel_rfl) ?_ _
  refine NoPanic.normal ?_
  go_wp2_with fail
  go_ret
  exact ⟨_, rfl, h⟩
end
def codeK (id : Int) : ByteArray := ⟨(97 :: byN 8 id.toNat).toArray⟩
def codeV (cl su sT hs ch : ByteArray) (un st fa : Int) : ByteArray := ⟨((byN 1 cl.size ++ cl.data.toList) ++ (byN 1 su.size ++ su.data.toList) ++ (byN 1 sT.size ++ sT.data.toList) ++ hs.data.toList ++ ch.data.toList ++ byN 6 un.toNat ++ byN 1 st.toNat ++ byN 8 fa.toNat).toArray⟩
def codeR (id : Int) (cl su : ByteArray) (xs : List ByteArray) (hs ch : ByteArray) (un st fa : Int) : ByteArray × ByteArray × Int := if codeMay id cl su xs hs ch un st fa then (codeK id, codeV cl su (scTxt xs) hs ch un st fa, 0) else (noB, noB, 140)
def codeFl (tb fb : Nat) (cl su sT hs ch : ByteArray) (un st fa : Int) : List Fld := [(.text, ⟨tb, 1, none⟩, .s cl), (.text, ⟨tb, 2, none⟩, .s su), (.text, ⟨fb, 0, none⟩, .s sT), (.raw 32, ⟨tb, 4, none⟩, .s hs), (.raw 32, ⟨tb, 5, none⟩, .s ch), (.num 6, ⟨tb, 6, none⟩, .n un), (.num 1, ⟨tb, 7, none⟩, .n st), (.num 8, ⟨tb, 8, none⟩, .n fa)]
def CodeIn (id : Int) (cl su sT hs ch : ByteArray) (un st fa : Int) : Prop := cl.size ≤ 16 ∧ su.size ≤ 16 ∧ sT.size ≤ 60 ∧ (1 ≤ id ∧ id ≤ 4611686018427387904) ∧ hs.size = 32 ∧ ch.size = 32 ∧ (0 ≤ un ∧ un ≤ 1099511627776) ∧ (0 ≤ st ∧ st ≤ 2) ∧ (0 ≤ fa ∧ fa ≤ 4611686018427387904)
theorem code_range {id : Int} {cl su : ByteArray} {xs : List ByteArray} {hs ch : ByteArray} {un st fa : Int} (h : codeMay id cl su xs hs ch un st fa) : CodeIn id cl su (scTxt xs) hs ch un st fa := by
  obtain ⟨c1, c2, c3, c4, c5, c6, c7, c8⟩ := h
  refine ⟨nm_size c2, nm_size c3, scTxt_size c4, ?_⟩
  omega
theorem code_fits (tb fb : Nat) {id : Int} {cl su sT hs ch : ByteArray} {un st fa : Int} (h : CodeIn id cl su sT hs ch un st fa) : ∀ x ∈ (codeFl tb fb cl su sT hs ch un st fa).map Fld.kv, fits1 x := by
  obtain ⟨r1, r2, r3, r0, e1, e2, c0, c1, c2⟩ := h
  intro x hx
  simp only [codeFl, List.map_cons, List.map_nil, List.mem_cons, List.not_mem_nil, or_false] at hx
  rcases hx with rfl | rfl | rfl | rfl | rfl | rfl | rfl | rfl
  · show cl.size ≤ 255
    omega
  · show su.size ≤ 255
    omega
  · show sT.size ≤ 255
    omega
  · show hs.size = 32
    omega
  · show ch.size = 32
    omega
  · exact ⟨by decide, by decide, by show (0 : Int) ≤ un; omega, by show un < (256 : Int) ^ 6; omega, by show un ≤ (9223372036854775807 : Int); omega⟩
  · exact ⟨by decide, by decide, by show (0 : Int) ≤ st; omega, by show st < (256 : Int) ^ 1; omega, by show st ≤ (9223372036854775807 : Int); omega⟩
  · exact ⟨by decide, by decide, by show (0 : Int) ≤ fa; omega, by show fa < (256 : Int) ^ 8; omega, by show fa ≤ (9223372036854775807 : Int); omega⟩
theorem code_printed (tb fb : Nat) {id : Int} {cl su sT hs ch : ByteArray} {un st fa : Int} (h : CodeIn id cl su sT hs ch un st fa) : printedV ((codeFl tb fb cl su sT hs ch un st fa).map Fld.kv) = codeV cl su sT hs ch un st fa := by
  rw [printed_fits (code_fits tb fb h)]
  refine bytes_ext _ _ ?_
  show (((byN 1 cl.size ++ cl.data.toList) ++ ((byN 1 su.size ++ su.data.toList) ++ ((byN 1 sT.size ++ sT.data.toList) ++ (hs.data.toList ++ (ch.data.toList ++ (byN 6 un.toNat ++ (byN 1 st.toNat ++ (byN 8 fa.toNat ++ []))))))))).toArray.toList = _
  simp
theorem code_ok (tb fb : Nat) {T : Ph} {id : Int} {cl su sT hs ch : ByteArray} {un st fa : Int} {A : Option Addr} {n c : Nat} (h : CodeIn id cl su sT hs ch un st fa) (ht : ∀ i v, (codeC id cl su A n c hs ch un st fa)[i]? = some v → T.cell ⟨tb, i, none⟩ = some v) (hf : T.cell ⟨fb, 0, none⟩ = some (.string sT)) : ∀ x ∈ codeFl tb fb cl su sT hs ch un st fa, FldOk T x := by
  obtain ⟨r1, r2, r3, r0, e1, e2, c0, c1, c2⟩ := h
  intro x hx
  simp only [codeFl, List.mem_cons, List.not_mem_nil, or_false] at hx
  rcases hx with rfl | rfl | rfl | rfl | rfl | rfl | rfl | rfl
  · exact ⟨trivial, ht 1 _ rfl, by show (0 : Int) ≤ _; omega, by show cl.size ≤ _; omega⟩
  · exact ⟨trivial, ht 2 _ rfl, by show (0 : Int) ≤ _; omega, by show su.size ≤ _; omega⟩
  · exact ⟨trivial, hf, by show (0 : Int) ≤ _; omega, by show sT.size ≤ _; omega⟩
  · exact ⟨trivial, ht 4 _ rfl, by show (0 : Int) ≤ _; omega, by show hs.size ≤ _; omega⟩
  · exact ⟨trivial, ht 5 _ rfl, by show (0 : Int) ≤ _; omega, by show ch.size ≤ _; omega⟩
  · exact ⟨trivial, ht 6 _ rfl, by show un ≤ (9223372036854775807 : Int); omega, by show (0 : Nat) ≤ _; omega⟩
  · exact ⟨trivial, ht 7 _ rfl, by show st ≤ (9223372036854775807 : Int); omega, by show (0 : Nat) ≤ _; omega⟩
  · exact ⟨trivial, ht 8 _ rfl, by show fa ≤ (9223372036854775807 : Int); omega, by show (0 : Nat) ≤ _; omega⟩
section
variable {E : World} {S : Ph} {L : List Hp}
set_option maxRecDepth 20000 in
set_option maxHeartbeats 8000000 in
theorem printcode_any (id : Int) (cl su : ByteArray) (A : Option Addr) (n c : Nat) (hs ch : ByteArray) (un st fa : Int) (xs : List ByteArray) (w : World) (hr : Rds S 1 enStr A n xs) (hnc : n ≤ c) (hn43 : n ≤ 8796093022208) (hG : Laid0 E (Hp.ro S :: L)) (h : Own E w (Hp.ro S :: L)) :
    Calls Tryz.prog 33 #[.agg (codeC id cl su A n c hs ch un st fa).toArray] w fun ev w' => ev = .returned (itemV (codeR id cl su xs hs ch un st fa)) ∧ Own E w' (Hp.ro S :: L) := by
  have h1 := h.alloc (.cells (codeC id cl su A n c hs ch un st fa).toArray CDT)
  have h2 := h1.alloc (.cells #[.string ⟨#[]⟩, .string ⟨#[]⟩] ITT)
  rw [alloc_size] at h2
  have H3 := Lib.hid h2
  obtain ⟨dd, hd, hrow⟩ := itt_u
  by_cases hm : codeMay id cl su xs hs ch un st fa
  · have hrg : CodeIn id cl su (scTxt xs) hs ch un st fa := code_range hm
    have hsc : scErr xs = 0 := hm.2.2.2.1
    have HR : Hid (codeR id cl su xs hs ch un st fa = (codeK id, codeV cl su (scTxt xs) hs ch un st fa, 0)) := Lib.hid (if_pos hm)
    have KM : Hid (∀ w3 : World, Own E w3 (Hp.blk (w.heap.size + 1) ITT #[.string ⟨#[]⟩, .string ⟨#[]⟩] :: Hp.blk w.heap.size CDT (codeC id cl su A n c hs ch un st fa).toArray :: Hp.ro S :: L) → Calls Tryz.prog 89 #[.agg (codeC id cl su A n c hs ch un st fa).toArray] w3 fun ev w' => ev = .returned (.bool true) ∧ w'.cell? ⟨w.heap.size, 3, none⟩ = some (.slice A n c) ∧ Own E w' (Hp.blk (w.heap.size + 1) ITT #[.string ⟨#[]⟩, .string ⟨#[]⟩] :: Hp.blk w.heap.size CDT (codeC id cl su A n c hs ch un st fa).toArray :: Hp.ro S :: L)) := Lib.hid fun w3 h3 => (codemay_any id cl su A n c hs ch un st fa xs w3 hr hnc hn43 (show Own E w3 (Hp.ro S :: Hp.blk (w.heap.size + 1) ITT #[.string ⟨#[]⟩, .string ⟨#[]⟩] :: Hp.blk w.heap.size CDT (codeC id cl su A n c hs ch un st fa).toArray :: L) from h3.f2)).mono fun ev w' he => ⟨by rw [he.1, decide_eq_true hm], by rw [he.2.f2.cell 3]; rfl, he.2.f2.f2⟩
    have KS : Hid (∀ w3 : World, Own E w3 (Hp.blk (w.heap.size + 1) ITT #[.string ⟨#[]⟩, .string ⟨#[]⟩] :: Hp.blk w.heap.size CDT (codeC id cl su A n c hs ch un st fa).toArray :: Hp.ro S :: L) → Calls Tryz.prog 82 #[.slice A n c] w3 fun ev w' => ev = .returned (.tuple #[.string (scTxt xs), .bool true]) ∧ Own E w' (Hp.blk (w.heap.size + 1) ITT #[.string ⟨#[]⟩, .string ⟨#[]⟩] :: Hp.blk w.heap.size CDT (codeC id cl su A n c hs ch un st fa).toArray :: Hp.ro S :: L)) := Lib.hid fun w3 h3 => (scoped_any A n c xs w3 hr hnc hn43 (show Own E w3 (Hp.ro S :: Hp.blk (w.heap.size + 1) ITT #[.string ⟨#[]⟩, .string ⟨#[]⟩] :: Hp.blk w.heap.size CDT (codeC id cl su A n c hs ch un st fa).toArray :: L) from h3.f2)).mono fun ev w' he => ⟨by rw [he.1, decide_eq_true hsc], he.2.f2.f2⟩
    have HNUM : Hid (∀ (fb : Nat) (w3 : World), Own E w3 (Hp.blk fb 9 #[.string (scTxt xs)] :: Hp.blk (w.heap.size + 1) ITT #[.string ⟨#[]⟩, .string ⟨#[]⟩] :: Hp.blk w.heap.size CDT (codeC id cl su A n c hs ch un st fa).toArray :: Hp.ro S :: L) → Calls Tryz.prog 60 #[.string ⟨#[97]⟩, .int .i64 8, .int .i64 id] w3 fun ev w' => ev = .returned (.string (codeK id)) ∧ Own E w' (Hp.blk fb 9 #[.string (scTxt xs)] :: Hp.blk (w.heap.size + 1) ITT #[.string ⟨#[]⟩, .string ⟨#[]⟩] :: Hp.blk w.heap.size CDT (codeC id cl su A n c hs ch un st fa).toArray :: Hp.ro S :: L)) := Lib.hid fun fb w3 h3 => by
      have c1 := hrg.2.2.2.1
      have hnum := numbered_any (E := E) ⟨#[97]⟩ 8 id w3 (by decide) (by omega) hG.cons.cons.cons h3
      rw [key_num 97 8 id (by omega) (by omega) (by omega) (by omega) (by omega)] at hnum
      exact hnum
    have HP : Hid (∀ (bb fb : Nat) (w3 : World), Own E w3 (Hp.blk bb FT ((codeFs w.heap.size fb).flatMap enF).toArray :: Hp.blk fb 9 #[.string (scTxt xs)] :: Hp.blk (w.heap.size + 1) ITT #[.string ⟨#[]⟩, .string ⟨#[]⟩] :: Hp.blk w.heap.size CDT (codeC id cl su A n c hs ch un st fa).toArray :: Hp.ro S :: L) →
        Calls Tryz.prog 61 #[.slice (some ⟨bb, 0, none⟩) 8 8] w3 fun ev w' => ev = .returned (.string (codeV cl su (scTxt xs) hs ch un st fa)) ∧ Own E w' (Hp.blk (w.heap.size + 1) ITT #[.string ⟨#[]⟩, .string ⟨#[]⟩] :: Hp.ro S :: L)) := Lib.hid fun bb fb w3 h3 => by
      have h4 : Own E w3 (Hp.ro (Ph.one fb (.cells #[.string (scTxt xs)] 9 (0, 0))) :: Hp.ro (Ph.one w.heap.size (.cells (codeC id cl su A n c hs ch un st fa).toArray CDT (0, 0))) :: Hp.blk bb FT ((codeFl w.heap.size fb cl su (scTxt xs) hs ch un st fa).flatMap enFld).toArray :: Hp.blk (w.heap.size + 1) ITT #[.string ⟨#[]⟩, .string ⟨#[]⟩] :: Hp.ro S :: L) := h3.f3.f2
      obtain ⟨m1, d1⟩ := h4.merge
      refine (printed_blk bb 8 (codeFl w.heap.size fb cl su (scTxt xs) hs ch un st fa) w3 rfl (by omega) (code_ok _ _ hrg (fun i v hv => kept_cell d1 (by rw [one_cell, List.getElem?_toArray]; exact hv)) (left_cell (one_cell _ _ _ 0))) hG.cons m1.f1).mono ?_
      rw [code_printed _ _ hrg]
      rintro ev w' ⟨rfl, h⟩
      exact ⟨rfl, h.drop⟩
    clear h h1 h2 hG hm hrg hsc hr
    generalize codeK id = x1 at *
    generalize codeV cl su (scTxt xs) hs ch un st fa = x2 at *
    generalize scTxt xs = sT at *
    unfold codeC at *
    go_enter Tryz.func33, Tryz.ntmps33
    go_wp2_with (first
      | (with_reducible refine (KM.out _ H3.out).mono ?_; clear H3; rintro ev w2 ⟨rfl, hc3, h⟩; have H3 := Lib.hid h; clear h)
      | (with_reducible refine (KS.out _ H3.out).mono ?_; clear H3; rintro ev w2 ⟨rfl, h⟩; have hc0 := (h.alloc (.cells #[.string sT] 9)).f2.cell 0; have H3 := Lib.hid (h.alloc (.cells #[.string sT] 9)); clear h; simp only [List.getElem?_toArray, List.getElem?_cons_zero] at hc0)
      | (with_reducible refine (HNUM.out _ _ H3.out).mono ?_; clear HNUM H3; rintro ev w2 ⟨rfl, h⟩; have H3 := Lib.hid h; clear h)
      | (with_reducible refine (codefields_any _ _ _ H3.out).mono ?_; clear H3; rintro ev w2 ⟨bb, rfl, h⟩; have H3 := Lib.hid h; clear h)
      | (with_reducible refine (HP.out _ _ _ H3.out).mono ?_; clear H3 HP; rintro ev w2 ⟨rfl, h⟩; have H3 := Lib.hid h; clear h)
      | (with_reducible refine at_slot (k := none) ?_; refine wpList_store_whole (o := ⟨none, _, _, _, _, _⟩) (cs := [.string ⟨#[]⟩, .string ⟨#[]⟩]) (vs := [.string x1, .string x2]) H3.out rfl (pair_one x1 x2) (by kernel_rfl) rfl rfl rfl rfl ?_; clear H3; intro w7 h; have H9 := Lib.hid h; clear h))
    refine bodyPost_ret (results_ct rfl rfl H9.out hd hrow (by kernel_rfl)) rfl ?_
    exact ⟨by rw [HR.out]; rfl, H9.out.drop⟩
  · have HR : Hid (codeR id cl su xs hs ch un st fa = (noB, noB, 140)) := Lib.hid (if_neg hm)
    have KM : Hid (∀ w3 : World, Own E w3 (Hp.blk (w.heap.size + 1) ITT #[.string ⟨#[]⟩, .string ⟨#[]⟩] :: Hp.blk w.heap.size CDT (codeC id cl su A n c hs ch un st fa).toArray :: Hp.ro S :: L) → Calls Tryz.prog 89 #[.agg (codeC id cl su A n c hs ch un st fa).toArray] w3 fun ev w' => ev = .returned (.bool false) ∧ Own E w' (Hp.blk (w.heap.size + 1) ITT #[.string ⟨#[]⟩, .string ⟨#[]⟩] :: Hp.blk w.heap.size CDT (codeC id cl su A n c hs ch un st fa).toArray :: Hp.ro S :: L)) := Lib.hid fun w3 h3 => (codemay_any id cl su A n c hs ch un st fa xs w3 hr hnc hn43 (show Own E w3 (Hp.ro S :: Hp.blk (w.heap.size + 1) ITT #[.string ⟨#[]⟩, .string ⟨#[]⟩] :: Hp.blk w.heap.size CDT (codeC id cl su A n c hs ch un st fa).toArray :: L) from h3.f2)).mono fun ev w' he => ⟨by rw [he.1, decide_eq_false hm], he.2.f2.f2⟩
    clear h h1 h2 hG hm hr
    unfold codeC at *
    go_enter Tryz.func33, Tryz.ntmps33
    go_wp2_with (first
      | (with_reducible refine (KM.out _ H3.out).mono ?_; clear H3; rintro ev w2 ⟨rfl, h⟩; have H3 := Lib.hid h; clear h)
      | (with_reducible refine at_slot (k := none) ?_; refine wpList_store_whole (o := ⟨none, _, _, _, _, _⟩) (cs := [.string ⟨#[]⟩, .string ⟨#[]⟩]) (vs := [.string ⟨#[]⟩, .string ⟨#[]⟩]) H3.out rfl (pair_one ⟨#[]⟩ ⟨#[]⟩) (by kernel_rfl) rfl rfl rfl rfl ?_; clear H3; intro w7 h; have H8 := Lib.hid h; clear h))
    refine bodyPost_ret (results_ct rfl rfl H8.out hd hrow (by kernel_rfl)) rfl ?_
    exact ⟨by rw [HR.out]; rfl, H8.out.drop.drop⟩
end
end Go.Proofs.YtabibfabieghpaaGreatDoor
namespace Go.Proofs.YtabibfabieghpaaGreatDoor
open Go.RowKit
/- code -/
structure CodeV where
  id : Int
  cl : ByteArray
  su : ByteArray
  xs : List ByteArray
  dh : ByteArray
  dc : ByteArray
  ut : Int
  st : Int
  fa : Int
def CodeV.R (f : CodeV) : ByteArray × ByteArray × Int := codeR f.id f.cl f.su f.xs f.dh f.dc f.ut f.st f.fa
def CodeV.C (f : CodeV) (A : Option Addr) (c : Nat) : List Value := codeC f.id f.cl f.su A f.xs.length c f.dh f.dc f.ut f.st f.fa
def codeKs : List Fk := [.text, .text, .text, .raw 32, .raw 32, .num 6, .num 1, .num 8]
theorem code_reads {f : CodeV} {k v : ByteArray} (h : f.R = (k, v, 0)) : codeMay f.id f.cl f.su f.xs f.dh f.dc f.ut f.st f.fa ∧ numberV k ⟨#[97]⟩ 8 = (f.id, true) ∧ readV codeKs v = ([.s f.cl, .s f.su, .s (scTxt f.xs), .s f.dh, .s f.dc, .n f.ut, .n f.st, .n f.fa], true) ∧ (parseV (scTxt f.xs)).1 = f.xs := by
  unfold CodeV.R codeR at h
  by_cases hm : codeMay f.id f.cl f.su f.xs f.dh f.dc f.ut f.st f.fa
  · rw [if_pos hm] at h
    injection h with h1 h2
    injection h2 with h2 h3
    have hr := code_range hm
    refine ⟨hm, ?_, ?_, ?_⟩
    · rw [← h1]
      have c1 := hm.1
      exact number_back 97 8 f.id (by omega) (by omega) (by omega) (by show f.id < (256 : Int) ^ 8; omega) (by omega)
    · rw [← h2]
      have hh := readV_printed (code_fits 0 0 hr)
      rw [code_printed 0 0 hr] at hh
      exact hh
    · rw [parse_print hm.2.2.2.1]
  · rw [if_neg hm] at h
    injection h with h1 h2
    injection h2 with h2 h3
    cases h3
theorem code_inj {f g : CodeV} {k v : ByteArray} (h : f.R = (k, v, 0)) (h2 : g.R = (k, v, 0)) : f = g := by
  obtain ⟨-, a1, a2, a3⟩ := code_reads h
  obtain ⟨-, b1, b2, b3⟩ := code_reads h2
  rw [a1] at b1
  rw [a2] at b2
  obtain ⟨fid, fcl, fsu, fxs, fdh, fdc, fut, fst, ffa⟩ := f
  obtain ⟨gid, gcl, gsu, gxs, gdh, gdc, gut, gst, gfa⟩ := g
  simp only [Prod.mk.injEq, List.cons.injEq, Fv.s.injEq, Fv.n.injEq, and_true] at a3 b1 b2 b3
  obtain rfl := b1
  obtain ⟨rfl, rfl, es, rfl, rfl, rfl, rfl, rfl⟩ := b2
  rw [es, b3] at a3
  obtain rfl := a3
  rfl
theorem codet_u : ∃ d, Tryz.prog.underlying CDT = some d ∧ d.isRow = true := by
  cases e : Tryz.prog.underlying CDT with
  | none => exact absurd e (by rw [Tryz.underlying66]; simp)
  | some d => exact ⟨d, rfl, by rw [Tryz.underlying66] at e; injection e with e; subst e; rfl⟩
theorem code_one (id : Int) (cl : ByteArray) (su : ByteArray) (A : Option Addr) (n c : Nat) (dh : ByteArray) (dc : ByteArray) (ut : Int) (st : Int) (fa : Int) : ∀ v ∈ codeC id cl su A n c dh dc ut st fa, v.oneCell' = true := fun v hv => by
  simp only [codeC, List.mem_cons, List.not_mem_nil, or_false] at hv
  rcases hv with rfl | rfl | rfl | rfl | rfl | rfl | rfl | rfl | rfl <;> rfl
/-- Its fields as they are read. -/
def codeP (tb fb : Nat) (vs : List Value) : Hp := Hp.sep (Hp.blk tb CDT #[.int .i64 0, vs.getD 0 undef, vs.getD 1 undef, .slice none 0 0, vs.getD 3 undef, vs.getD 4 undef, vs.getD 5 undef, vs.getD 6 undef, vs.getD 7 undef]) (Hp.blk fb 9 #[vs.getD 2 undef])
theorem places_code {E : World} (tb fb : Nat) : Places E (codeP tb fb) [⟨tb, 1, none⟩, ⟨tb, 2, none⟩, ⟨fb, 0, none⟩, ⟨tb, 4, none⟩, ⟨tb, 5, none⟩, ⟨tb, 6, none⟩, ⟨tb, 7, none⟩, ⟨tb, 8, none⟩] where
  set w vs i ad v M hl hi h := by
    obtain ⟨a0, a1, a2, a3, a4, a5, a6, a7, rfl⟩ : ∃ a0 a1 a2 a3 a4 a5 a6 a7, vs = [a0, a1, a2, a3, a4, a5, a6, a7] := by
      match vs, hl with
      | [a0, a1, a2, a3, a4, a5, a6, a7], _ => exact ⟨a0, a1, a2, a3, a4, a5, a6, a7, rfl⟩
    have h := Own.sep2.1 h
    match i, hi with
    | 0, hi =>
      obtain rfl : (⟨tb, 1, none⟩ : Addr) = ad := by simpa using hi
      obtain ⟨h1, h2, h3⟩ := h.put1 1 v (show (1 : Nat) < 9 by omega)
      exact ⟨h1, h2, Own.sep2.2 h3⟩
    | 1, hi =>
      obtain rfl : (⟨tb, 2, none⟩ : Addr) = ad := by simpa using hi
      obtain ⟨h1, h2, h3⟩ := h.put1 2 v (show (2 : Nat) < 9 by omega)
      exact ⟨h1, h2, Own.sep2.2 h3⟩
    | 2, hi =>
      obtain rfl : (⟨fb, 0, none⟩ : Addr) = ad := by simpa using hi
      obtain ⟨h1, h2, h3⟩ := h.f1.put1 0 v (show (0 : Nat) < 1 by omega)
      exact ⟨h1, h2, Own.sep2.2 h3.f1⟩
    | 3, hi =>
      obtain rfl : (⟨tb, 4, none⟩ : Addr) = ad := by simpa using hi
      obtain ⟨h1, h2, h3⟩ := h.put1 4 v (show (4 : Nat) < 9 by omega)
      exact ⟨h1, h2, Own.sep2.2 h3⟩
    | 4, hi =>
      obtain rfl : (⟨tb, 5, none⟩ : Addr) = ad := by simpa using hi
      obtain ⟨h1, h2, h3⟩ := h.put1 5 v (show (5 : Nat) < 9 by omega)
      exact ⟨h1, h2, Own.sep2.2 h3⟩
    | 5, hi =>
      obtain rfl : (⟨tb, 6, none⟩ : Addr) = ad := by simpa using hi
      obtain ⟨h1, h2, h3⟩ := h.put1 6 v (show (6 : Nat) < 9 by omega)
      exact ⟨h1, h2, Own.sep2.2 h3⟩
    | 6, hi =>
      obtain rfl : (⟨tb, 7, none⟩ : Addr) = ad := by simpa using hi
      obtain ⟨h1, h2, h3⟩ := h.put1 7 v (show (7 : Nat) < 9 by omega)
      exact ⟨h1, h2, Own.sep2.2 h3⟩
    | 7, hi =>
      obtain rfl : (⟨tb, 8, none⟩ : Addr) = ad := by simpa using hi
      obtain ⟨h1, h2, h3⟩ := h.put1 8 v (show (8 : Nat) < 9 by omega)
      exact ⟨h1, h2, Own.sep2.2 h3⟩
section
variable {E : World} {L : List Hp}
set_option maxRecDepth 20000 in
set_option maxHeartbeats 16000000 in
theorem parsecode_any (k v : ByteArray) (w : World) (hk : k.size ≤ 1000000000000000) (hv : v.size ≤ 1000000000000000) (hG : Laid0 E L) (hM : Max0 E L) (h : Own E w L) :
    Calls Tryz.prog 36 #[.agg #[.string k, .string v]] w fun ev w' => (∃ (f : CodeV) (A : Option Addr) (c : Nat), ev = .returned (.tuple #[.agg (f.C A c).toArray, .int .i64 0]) ∧ f.R = (k, v, 0) ∧ Own E w' (Hp.lst ST (.slice A f.xs.length c) (f.xs.map Value.string) :: L)) ∨
      (ev = .returned (.tuple #[.agg (codeC 0 noB noB none 0 0 noB noB 0 0 0).toArray, .int .i64 141]) ∧ (∀ f : CodeV, f.R ≠ (k, v, 0)) ∧ Own E w' L) := by
  have h1 := h.alloc (.cells #[.string k, .string v] ITT)
  have h2 := h1.alloc (.cells (codeC 0 ⟨#[]⟩ ⟨#[]⟩ none 0 0 ⟨#[]⟩ ⟨#[]⟩ 0 0 0).toArray CDT)
  have h3 := h2.alloc (.cells (codeC 0 ⟨#[]⟩ ⟨#[]⟩ none 0 0 ⟨#[]⟩ ⟨#[]⟩ 0 0 0).toArray CDT)
  have h4 := h3.alloc (.cells #[.string ⟨#[]⟩] 9)
  rw [alloc_size, alloc_size, alloc_size] at h4
  have H3 := Lib.hid (show Own E _ (Hp.blk (w.heap.size + 1 + 1) CDT (codeC 0 ⟨#[]⟩ ⟨#[]⟩ none 0 0 ⟨#[]⟩ ⟨#[]⟩ 0 0 0).toArray :: Hp.blk (w.heap.size + 1 + 1 + 1) 9 #[.string ⟨#[]⟩] :: Hp.blk (w.heap.size + 1) CDT (codeC 0 ⟨#[]⟩ ⟨#[]⟩ none 0 0 ⟨#[]⟩ ⟨#[]⟩ 0 0 0).toArray :: Hp.blk w.heap.size ITT #[.string k, .string v] :: L) from h4.f1)
  obtain ⟨dd, hd, hrow⟩ := codet_u
  obtain ⟨z, nok, hq⟩ : ∃ z nok, numberV k ⟨#[97]⟩ 8 = (z, nok) := ⟨_, _, rfl⟩
  have KN : Hid (∀ w3 : World, Own E w3 (Hp.blk (w.heap.size + 1 + 1) CDT (codeC 0 ⟨#[]⟩ ⟨#[]⟩ none 0 0 ⟨#[]⟩ ⟨#[]⟩ 0 0 0).toArray :: Hp.blk (w.heap.size + 1 + 1 + 1) 9 #[.string ⟨#[]⟩] :: Hp.blk (w.heap.size + 1) CDT (codeC 0 ⟨#[]⟩ ⟨#[]⟩ none 0 0 ⟨#[]⟩ ⟨#[]⟩ 0 0 0).toArray :: Hp.blk w.heap.size ITT #[.string k, .string v] :: L) → Calls Tryz.prog 66 #[.string k, .string ⟨#[97]⟩, .int .i64 8] w3 fun ev w' => ev = .returned (.tuple #[.int .i64 z, .bool nok]) ∧ Own E w' (Hp.blk (w.heap.size + 1 + 1) CDT (codeC 0 ⟨#[]⟩ ⟨#[]⟩ none 0 0 ⟨#[]⟩ ⟨#[]⟩ 0 0 0).toArray :: Hp.blk (w.heap.size + 1 + 1 + 1) 9 #[.string ⟨#[]⟩] :: Hp.blk (w.heap.size + 1) CDT (codeC 0 ⟨#[]⟩ ⟨#[]⟩ none 0 0 ⟨#[]⟩ ⟨#[]⟩ 0 0 0).toArray :: Hp.blk w.heap.size ITT #[.string k, .string v] :: L)) := Lib.hid fun w3 h3 => by
    have hh := recnum_any (E := E) k ⟨#[97]⟩ 8 w3 hk hG.cons.cons.cons.cons h3
    rw [hq] at hh
    exact hh
  clear h h1 h2 h3 h4
  cases nok with
  | false =>
    have HN : Hid (∀ f : CodeV, f.R ≠ (k, v, 0)) := Lib.hid fun f hf => by
      have := (code_reads hf).2.1
      rw [hq] at this
      cases this
    clear hq hG hM hk hv
    go_enter Tryz.func36, Tryz.ntmps36
    go_wp2_with (refine (KN.out _ H3.out).mono ?_; clear H3; rintro ev w2 ⟨rfl, h⟩; have H3 := Lib.hid h; clear h)
    have h := H3.out.drew
    refine wp_region_text [] (fun _ => True) (by kernel_rfl) ?_ (fun hS => ?_)
    · trivial
    refine wpAnyG_pure (i := 0) (oi := ⟨some 16, _, _, _, _, _⟩) (v := ?_) rfl (by kernel_rfl) (by kernel_rfl) (by kernel_rfl) (by rfl) (fun _ _ _ h => h) (by rfl) ?_ ?_
    rotate_left
    · intro w
      go_simp
      first | done | with_reducible rfl
    try simp only [Act.put, List.setIfInBounds_toArray, List.set_cons_zero, List.set_cons_succ]
    refine wpAnyG_pure (i := 1) (oi := ⟨some 17, _, _, _, _, _⟩) (v := ?_) rfl (by kernel_rfl) (by kernel_rfl) (by kernel_rfl) (by rfl) (fun _ _ _ h => h) (by rfl) ?_ ?_
    rotate_left
    · intro w
      go_simp
      first | done | with_reducible rfl
    try simp only [Act.put, List.setIfInBounds_toArray, List.set_cons_zero, List.set_cons_succ]
    refine wpAnyG_pure (i := 2) (oi := ⟨some 18, _, _, _, _, _⟩) (v := ?_) rfl (by kernel_rfl) (by kernel_rfl) (by kernel_rfl) (by rfl) (fun _ _ _ h => h) (by rfl) ?_ ?_
    rotate_left
    · intro w
      go_simp
      first | done | with_reducible rfl
    try simp only [Act.put, List.setIfInBounds_toArray, List.set_cons_zero, List.set_cons_succ]
    refine wpAnyG_skip (i := 3) (oi := ⟨some 19, _, _, _, _, _⟩) rfl (by kernel_rfl) (by kernel_rfl) (by kernel_rfl) (by rfl) (fun _ _ _ h => h) (by rfl) ?_
    try simp only [Act.put, List.setIfInBounds_toArray, List.set_cons_zero, List.set_cons_succ]
    refine wpAnyG_skip (i := 4) (oi := ⟨some 20, _, _, _, _, _⟩) rfl (by kernel_rfl) (by kernel_rfl) (by kernel_rfl) (by rfl) (fun _ _ _ h => h) (by rfl) ?_
    try simp only [Act.put, List.setIfInBounds_toArray, List.set_cons_zero, List.set_cons_succ]
    refine wpAnyG_skip (i := 5) (oi := ⟨some 21, _, _, _, _, _⟩) rfl (by kernel_rfl) (by kernel_rfl) (by kernel_rfl) (by rfl) (fun _ _ _ h => h) (by rfl) ?_
    try simp only [Act.put, List.setIfInBounds_toArray, List.set_cons_zero, List.set_cons_succ]
    refine wpAnyG_skip (i := 6) (oi := ⟨some 22, _, _, _, _, _⟩) rfl (by kernel_rfl) (by kernel_rfl) (by kernel_rfl) (by rfl) (fun _ _ _ h => h) (by rfl) ?_
    try simp only [Act.put, List.setIfInBounds_toArray, List.set_cons_zero, List.set_cons_succ]
    refine wpAnyG_skip (i := 7) (oi := ⟨some 23, _, _, _, _, _⟩) rfl (by kernel_rfl) (by kernel_rfl) (by kernel_rfl) (by rfl) (fun _ _ _ h => h) (by rfl) ?_
    try simp only [Act.put, List.setIfInBounds_toArray, List.set_cons_zero, List.set_cons_succ]
    refine wpAnyG_pure (i := 8) (oi := ⟨some 24, _, _, _, _, _⟩) (v := ?_) rfl (by kernel_rfl) (by kernel_rfl) (by kernel_rfl) (by rfl) (fun _ _ _ h => h) (by rfl) ?_ ?_
    rotate_left
    · intro w
      go_simp
      first | done | with_reducible rfl
    try simp only [Act.put, List.setIfInBounds_toArray, List.set_cons_zero, List.set_cons_succ]
    refine wpAnyG_done (by kernel_rfl) ?_ _
    refine NoPanic.normal ?_
    clear H3
    have H3 := Lib.hid h.f2
    clear h
    go_wp2_with (with_reducible refine at_slot (k := none) ?_; refine wpList_store_whole (o := ⟨none, _, _, _, _, _⟩) (cs := (codeC 0 ⟨#[]⟩ ⟨#[]⟩ none 0 0 ⟨#[]⟩ ⟨#[]⟩ 0 0 0)) (vs := (codeC 0 ⟨#[]⟩ ⟨#[]⟩ none 0 0 ⟨#[]⟩ ⟨#[]⟩ 0 0 0)) H3.out rfl (code_one _ _ _ _ _ _ _ _ _ _ _) (by kernel_rfl) rfl rfl rfl rfl ?_; clear H3; intro w7 h; have H8 := Lib.hid h; clear h)
    refine bodyPost_ret (results_ct rfl rfl H8.out hd hrow (by kernel_rfl)) rfl ?_
    exact .inr ⟨rfl, HN.out, H8.out.drop.drop.drop.drop⟩
  | true =>
    obtain ⟨cl, su, sT, dh, dc, ut, st, fa, ok, hr⟩ : ∃ cl su sT dh dc ut st fa ok, readV codeKs v = ([.s cl, .s su, .s sT, .s dh, .s dc, .n ut, .n st, .n fa], ok) := ⟨_, _, _, _, _, _, _, _, _, rfl⟩
    have hT : sT.size ≤ 4000000000 := by
      have h9 : ((readV codeKs v).1.getD 2 (.n 0)).str.size ≤ 255 := rText_size _ _
      rw [hr] at h9
      have h8 : sT.size ≤ 255 := h9
      omega
    obtain ⟨xs, hxs⟩ : ∃ xs, xs = (parseV sT).1 := ⟨_, rfl⟩
    obtain ⟨n, hn⟩ : ∃ n, n = xs.length := ⟨_, rfl⟩
    have HNO : Hid (∀ f : CodeV, f.R = (k, v, 0) → ok = true ∧ (codeR z cl su xs dh dc ut st fa) = (k, v, 0)) := Lib.hid fun f hf => by
      obtain ⟨-, e1, e2, e3⟩ := code_reads hf
      rw [hq] at e1
      rw [hr] at e2
      obtain ⟨qid, qcl, qsu, qxs, qdh, qdc, qut, qst, qfa⟩ := f
      simp only [Prod.mk.injEq, List.cons.injEq, Fv.s.injEq, Fv.n.injEq, and_true] at e1 e2 e3
      obtain rfl := e1
      obtain ⟨⟨rfl, rfl, rfl, rfl, rfl, rfl, rfl, rfl⟩, rfl⟩ := e2
      refine ⟨rfl, ?_⟩
      rw [hxs, e3]
      exact hf
    have HSZ : Hid (xs.length ≤ 8) := Lib.hid (by
      rw [hxs]
      rcases parse_right sT with ⟨-, h⟩ | ⟨h, -⟩
      · exact ((fit_iff _).1 (scErr_zero h).2.2).1
      · rw [h]; exact Nat.zero_le _)
    have KR : Hid (∀ (bb : Nat) (w3 : World), Own E w3 (Hp.blk bb FT ((codeFs (w.heap.size + 1 + 1) (w.heap.size + 1 + 1 + 1)).flatMap enF).toArray :: Hp.blk (w.heap.size + 1 + 1) CDT (codeC 0 ⟨#[]⟩ ⟨#[]⟩ none 0 0 ⟨#[]⟩ ⟨#[]⟩ 0 0 0).toArray :: Hp.blk (w.heap.size + 1 + 1 + 1) 9 #[.string ⟨#[]⟩] :: Hp.blk (w.heap.size + 1) CDT (codeC 0 ⟨#[]⟩ ⟨#[]⟩ none 0 0 ⟨#[]⟩ ⟨#[]⟩ 0 0 0).toArray :: Hp.blk w.heap.size ITT #[.string k, .string v] :: L) →
        Calls Tryz.prog 67 #[.slice (some ⟨bb, 0, none⟩) 8 8, .string v] w3 fun ev w' => ev = .returned (.bool ok) ∧ Own E w' (Hp.blk (w.heap.size + 1 + 1) CDT (codeC 0 cl su none 0 0 dh dc ut st fa).toArray :: Hp.blk (w.heap.size + 1 + 1 + 1) 9 #[.string sT] :: Hp.blk (w.heap.size + 1) CDT (codeC 0 ⟨#[]⟩ ⟨#[]⟩ none 0 0 ⟨#[]⟩ ⟨#[]⟩ 0 0 0).toArray :: Hp.blk w.heap.size ITT #[.string k, .string v] :: L)) := Lib.hid fun bb w3 h3 => by
      have h4 : Own E w3 (Hp.blk bb FT ((codeFs (w.heap.size + 1 + 1) (w.heap.size + 1 + 1 + 1)).flatMap enF).toArray :: codeP (w.heap.size + 1 + 1) (w.heap.size + 1 + 1 + 1) [.string ⟨#[]⟩, .string ⟨#[]⟩, .string ⟨#[]⟩, .string ⟨#[]⟩, .string ⟨#[]⟩, .int .i64 0, .int .i64 0, .int .i64 0] :: Hp.blk (w.heap.size + 1) CDT (codeC 0 ⟨#[]⟩ ⟨#[]⟩ none 0 0 ⟨#[]⟩ ⟨#[]⟩ 0 0 0).toArray :: Hp.blk w.heap.size ITT #[.string k, .string v] :: L) := (Own.sep2.2 h3.f2.f2).f1
      have hh := read_blk (E := E) bb 8 (codeFs (w.heap.size + 1 + 1) (w.heap.size + 1 + 1 + 1)) v _ [.string ⟨#[]⟩, .string ⟨#[]⟩, .string ⟨#[]⟩, .string ⟨#[]⟩, .string ⟨#[]⟩, .int .i64 0, .int .i64 0, .int .i64 0] w3 rfl (by omega) hv (places_code _ _) rfl hG.cons.cons h4
      rw [show (codeFs (w.heap.size + 1 + 1) (w.heap.size + 1 + 1 + 1)).map (·.1) = codeKs from rfl, hr] at hh
      refine hh.mono ?_
      rintro ev w' ⟨rfl, h⟩
      exact ⟨rfl, Own.sep2.1 h⟩
    have KNM : Hid (∀ w3 : World, Own E w3 (Hp.blk (w.heap.size + 1 + 1) CDT (codeC z cl su none 0 0 dh dc ut st fa).toArray :: Hp.blk (w.heap.size + 1 + 1 + 1) 9 #[.string sT] :: Hp.blk (w.heap.size + 1) CDT (codeC 0 ⟨#[]⟩ ⟨#[]⟩ none 0 0 ⟨#[]⟩ ⟨#[]⟩ 0 0 0).toArray :: Hp.blk w.heap.size ITT #[.string k, .string v] :: L) → Calls Tryz.prog 94 #[.string sT] w3 fun ev w' => ∃ (A : Option Addr) (cc : Nat) (b : Bool), ev = .returned (.tuple #[.slice A n cc, .bool b]) ∧ Own E w' (Hp.lst ST (.slice A n cc) (xs.map Value.string) :: Hp.blk (w.heap.size + 1 + 1) CDT (codeC z cl su none 0 0 dh dc ut st fa).toArray :: Hp.blk (w.heap.size + 1 + 1 + 1) 9 #[.string sT] :: Hp.blk (w.heap.size + 1) CDT (codeC 0 ⟨#[]⟩ ⟨#[]⟩ none 0 0 ⟨#[]⟩ ⟨#[]⟩ 0 0 0).toArray :: Hp.blk w.heap.size ITT #[.string k, .string v] :: L)) := Lib.hid fun w3 h3 => by
      rw [hn, hxs]
      exact names_any sT w3 hT hM.cons.cons.cons.cons h3
    have HPR : Hid (∀ (A : Option Addr) (cc : Nat) (w3 : World), Own E w3 (Hp.blk (w.heap.size + 1 + 1) CDT (codeC z cl su A n cc dh dc ut st fa).toArray :: Hp.lst ST (.slice A n cc) (xs.map Value.string) :: Hp.blk (w.heap.size + 1 + 1 + 1) 9 #[.string sT] :: Hp.blk (w.heap.size + 1) CDT (codeC 0 ⟨#[]⟩ ⟨#[]⟩ none 0 0 ⟨#[]⟩ ⟨#[]⟩ 0 0 0).toArray :: Hp.blk w.heap.size ITT #[.string k, .string v] :: L) → Calls Tryz.prog 33 #[.agg (codeC z cl su A n cc dh dc ut st fa).toArray] w3 fun ev w' => ev = .returned (.tuple #[.agg #[.string (codeR z cl su xs dh dc ut st fa).1, .string (codeR z cl su xs dh dc ut st fa).2.1], .int .i64 (codeR z cl su xs dh dc ut st fa).2.2]) ∧ Own E w' (Hp.blk (w.heap.size + 1 + 1) CDT (codeC z cl su A n cc dh dc ut st fa).toArray :: Hp.lst ST (.slice A n cc) (xs.map Value.string) :: Hp.blk (w.heap.size + 1 + 1 + 1) 9 #[.string sT] :: Hp.blk (w.heap.size + 1) CDT (codeC 0 ⟨#[]⟩ ⟨#[]⟩ none 0 0 ⟨#[]⟩ ⟨#[]⟩ 0 0 0).toArray :: Hp.blk w.heap.size ITT #[.string k, .string v] :: L)) := Lib.hid fun A cc w3 h3 => by
      obtain ⟨a, h4, ha, hb⟩ := h3.f1.opens
      obtain ⟨hr, hc, -, -⟩ := lst_rds ha
      refine (printcode_any z cl su A n cc dh dc ut st fa xs w3 hr hc (by have := HSZ.out; omega) hG.cons.cons.cons.cons.cons h4).mono ?_
      rintro ev w' ⟨rfl, h⟩
      exact ⟨rfl, (hb _ _ h).f1⟩
    have HC : Hid (∀ w' : World, Own E w' (Hp.blk (w.heap.size + 1 + 1) CDT (codeC 0 ⟨#[]⟩ ⟨#[]⟩ none 0 0 ⟨#[]⟩ ⟨#[]⟩ 0 0 0).toArray :: Hp.blk (w.heap.size + 1 + 1 + 1) 9 #[.string ⟨#[]⟩] :: Hp.blk (w.heap.size + 1) CDT (codeC 0 ⟨#[]⟩ ⟨#[]⟩ none 0 0 ⟨#[]⟩ ⟨#[]⟩ 0 0 0).toArray :: Hp.blk w.heap.size ITT #[.string k, .string v] :: L) → w'.cell? ⟨w.heap.size, 1, none⟩ = some (.string v)) := Lib.hid fun w' h => by rw [h.f3.cell 1]; rfl
    have HNX := Lib.hid hn
    clear hq hr hG hM hk hv hT hxs hn
    go_enter Tryz.func36, Tryz.ntmps36
    go_wp2_with (refine (KN.out _ H3.out).mono ?_; clear H3; rintro ev w2 ⟨rfl, h⟩; have H3 := Lib.hid h; clear h)
    have h := H3.out.drew
    clear H3
    refine wp_region_text [5] (fun w' => w'.cell? ⟨w.heap.size, 1, none⟩ = some (.string v)) (by kernel_rfl) ?_ (fun hS => ?_)
    · exact HC.out _ h
    refine wpAnyG_pure (i := 0) (oi := ⟨some 16, _, _, _, _, _⟩) (v := ?_) rfl (by kernel_rfl) (by kernel_rfl) (by kernel_rfl) (by rfl) (fun _ _ _ h => h) (by rfl) ?_ ?_
    rotate_left
    · intro w
      go_simp
      first | done | with_reducible rfl
    try simp only [Act.put, List.setIfInBounds_toArray, List.set_cons_zero, List.set_cons_succ]
    refine wpAnyG_pure (i := 1) (oi := ⟨some 17, _, _, _, _, _⟩) (v := ?_) rfl (by kernel_rfl) (by kernel_rfl) (by kernel_rfl) (by rfl) (fun _ _ _ h => h) (by rfl) ?_ ?_
    rotate_left
    · intro w
      go_simp
      first | done | with_reducible rfl
    try simp only [Act.put, List.setIfInBounds_toArray, List.set_cons_zero, List.set_cons_succ]
    refine wpAnyG_pure (i := 2) (oi := ⟨some 18, _, _, _, _, _⟩) (v := ?_) rfl (by kernel_rfl) (by kernel_rfl) (by kernel_rfl) (by rfl) (fun _ _ _ h => h) (by rfl) ?_ ?_
    rotate_left
    · intro w
      go_simp
      first | done | with_reducible rfl
    try simp only [Act.put, List.setIfInBounds_toArray, List.set_cons_zero, List.set_cons_succ]
    refine wpAnyG_pure (i := 4) (oi := ⟨some 20, _, _, _, _, _⟩) (v := ?_) rfl (by kernel_rfl) (by kernel_rfl) (by kernel_rfl) (by rfl) (fun _ _ _ h => h) (by rfl) ?_ ?_
    rotate_left
    · intro w
      go_simp
      first | done | with_reducible rfl
    try simp only [Act.put, List.setIfInBounds_toArray, List.set_cons_zero, List.set_cons_succ]
    refine wpAnyG_load (i := 5) (oi := ⟨some 21, _, _, _, _, _⟩) (v := ?_) rfl (by kernel_rfl) (by kernel_rfl) (by kernel_rfl) (by rfl) (fun _ _ _ h => h) (by rfl) ?_ (by assumption) ?_
    rotate_left
    · intro w hS
      try dsimp only at hS
      go_simp
      first | done | with_reducible rfl
    try simp only [Act.put, List.setIfInBounds_toArray, List.set_cons_zero, List.set_cons_succ]
    refine wpAnyG_keep (i := 3) (oi := ⟨some 19, _, _, _, _, _⟩) (by kernel_rfl) rfl (fun K hK => ?_)
    rw [if_pos (by rfl)]
    go_simp
    refine (codefields_any _ _ _ h).mono ?_
    clear h
    rintro ev w2 ⟨bb, rfl, h⟩
    refine hK.out _ _ ?_ (fun hS => ?_)
    · exact HC.out _ h.drop
    clear hK K
    try simp only [Act.put, List.setIfInBounds_toArray, List.set_cons_zero, List.set_cons_succ]
    refine wpAnyG_break (i := 6) (oi := ⟨some 22, _, _, _, _, _⟩) (by kernel_rfl) rfl (by kernel_rfl) (fun K hK => ?_)
    rw [if_pos (by rfl)]
    go_simp
    refine (KR.out _ _ h).mono ?_
    clear h
    rintro ev w2 ⟨rfl, h⟩
    refine hK.out _ _ ?_
    clear hK K
    try simp only [Act.put, List.setIfInBounds_toArray, List.set_cons_zero, List.set_cons_succ]
    refine wpAnyG_pure (i := 7) (oi := ⟨some 23, _, _, _, _, _⟩) (v := ?_) rfl (by kernel_rfl) (by kernel_rfl) (by kernel_rfl) (by rfl) (fun _ _ _ h => h) (by rfl) ?_ ?_
    rotate_left
    · intro w
      go_simp
      first | done | with_reducible rfl
    try simp only [Act.put, List.setIfInBounds_toArray, List.set_cons_zero, List.set_cons_succ]
    refine wpAnyG_pure (i := 8) (oi := ⟨some 24, _, _, _, _, _⟩) (v := ?_) rfl (by kernel_rfl) (by kernel_rfl) (by kernel_rfl) (by rfl) (fun _ _ _ h => h) (by rfl) ?_ ?_
    rotate_left
    · intro w
      go_simp
      first | done | with_reducible rfl
    try simp only [Act.put, List.setIfInBounds_toArray, List.set_cons_zero, List.set_cons_succ]
    refine wpAnyG_done (by kernel_rfl) ?_ _
    refine NoPanic.normal ?_
    cases ok with
    | false =>
      have HN : Hid (∀ f : CodeV, f.R ≠ (k, v, 0)) := Lib.hid fun f hf => by
        have := (HNO.out f hf).1
        cases this
      have H3 := Lib.hid h.f2
      clear h
      go_wp2_with (with_reducible refine at_slot (k := none) ?_; refine wpList_store_whole (o := ⟨none, _, _, _, _, _⟩) (cs := (codeC 0 ⟨#[]⟩ ⟨#[]⟩ none 0 0 ⟨#[]⟩ ⟨#[]⟩ 0 0 0)) (vs := (codeC 0 ⟨#[]⟩ ⟨#[]⟩ none 0 0 ⟨#[]⟩ ⟨#[]⟩ 0 0 0)) H3.out rfl (code_one _ _ _ _ _ _ _ _ _ _ _) (by kernel_rfl) rfl rfl rfl rfl ?_; clear H3; intro w7 h; have H8 := Lib.hid h; clear h)
      refine bodyPost_ret (results_ct rfl rfl H8.out hd hrow (by kernel_rfl)) rfl ?_
      exact .inr ⟨rfl, HN.out, H8.out.drop.drop.drop.drop⟩
    | true =>
      have cf := h.f1.cell 0
      simp only [List.getElem?_toArray, List.getElem?_cons_zero] at cf
      obtain ⟨⟨old, ho⟩, hf, hs⟩ := h.put1 0 (.int .i64 z) (show (0 : Nat) < 9 by omega)
      have hs : Own E _ (Hp.blk (w.heap.size + 1 + 1) CDT (codeC z cl su none 0 0 dh dc ut st fa).toArray :: Hp.blk (w.heap.size + 1 + 1 + 1) 9 #[.string sT] :: Hp.blk (w.heap.size + 1) CDT (codeC 0 ⟨#[]⟩ ⟨#[]⟩ none 0 0 ⟨#[]⟩ ⟨#[]⟩ 0 0 0).toArray :: Hp.blk w.heap.size ITT #[.string k, .string v] :: L) := hs
      have H3 := Lib.hid hs
      clear h hs
      obtain ⟨x1, x2, er, hpr⟩ : ∃ x1 x2 er, (codeR z cl su xs dh dc ut st fa) = (x1, x2, er) := ⟨_, _, _, rfl⟩
      rw [hpr] at HPR HNO
      have HRR := Lib.hid hpr
      clear hpr
      by_cases he : er = 0
      · subst he
        by_cases hx : x1 = k ∧ x2 = v
        · have HY : Hid ((⟨z, cl, su, xs, dh, dc, ut, st, fa⟩ : CodeV).R = (k, v, 0)) := Lib.hid (by
            show (codeR z cl su xs dh dc ut st fa) = _
            rw [HRR.out, hx.1, hx.2])
          have hq : ∀ w, (binOp .neq ITT (.agg #[.string x1, .string x2]) (.agg #[.string k, .string v])).run Tryz.prog w = .ok (.bool false) w := fun w => by rw [run_pair, decide_eq_true hx]; rfl
          clear hx HRR HNO
          go_wp2_with (first
            | ((with_reducible refine (KNM.out _ H3.out).mono ?_); clear H3; rintro ev w3 ⟨A, cc, bb, rfl, h⟩; obtain ⟨⟨old2, ho2⟩, hf2, hs⟩ := h.f1.put1 3 (.slice A n cc) (show (3 : Nat) < 9 by omega); have H3 : Hid (Own E _ (Hp.blk (w.heap.size + 1 + 1) CDT (codeC z cl su A n cc dh dc ut st fa).toArray :: Hp.lst ST (.slice A n cc) (xs.map Value.string) :: Hp.blk (w.heap.size + 1 + 1 + 1) 9 #[.string sT] :: Hp.blk (w.heap.size + 1) CDT (codeC 0 ⟨#[]⟩ ⟨#[]⟩ none 0 0 ⟨#[]⟩ ⟨#[]⟩ 0 0 0).toArray :: Hp.blk w.heap.size ITT #[.string k, .string v] :: L)) := Lib.hid hs; clear h hs)
            | (with_reducible refine at_slot (k := some 35) ?_; refine wpList_load_arr (o := ⟨some 35, _, _, _, _, _⟩) H3.out 0 (codeC z cl su A n cc dh dc ut st fa) (fun jj u hu => by simpa using hu) hd hrow (by kernel_rfl) rfl rfl rfl ?_)
            | (with_reducible refine (HPR.out _ _ _ H3.out).mono ?_; clear H3; rintro ev w2 ⟨rfl, h⟩; have H3 := Lib.hid (h.alloc (.cells #[.string x1, .string x2] ITT)); clear h; have p0 := H3.out.f5.cell 0; have p1 := H3.out.f5.cell 1; simp only [List.getElem?_toArray, List.getElem?_cons_zero, List.getElem?_cons_succ] at p0 p1)
            | (with_reducible refine at_slot (k := some 47) ?_; refine wpList_load_arr (o := ⟨some 47, _, _, _, _, _⟩) H3.out.f1 0 (codeC z cl su A n cc dh dc ut st fa) (fun jj u hu => by simpa using hu) hd hrow (by kernel_rfl) rfl rfl rfl ?_)
            | (with_reducible refine at_slot (k := none) ?_; refine wpList_store_whole (o := ⟨none, _, _, _, _, _⟩) (cs := (codeC 0 ⟨#[]⟩ ⟨#[]⟩ none 0 0 ⟨#[]⟩ ⟨#[]⟩ 0 0 0)) (vs := (codeC z cl su A n cc dh dc ut st fa)) H3.out.f4 rfl (code_one _ _ _ _ _ _ _ _ _ _ _) (by kernel_rfl) rfl rfl rfl rfl ?_; clear H3; intro w7 h; have H8 := Lib.hid h; clear h))
          refine bodyPost_ret (results_ct rfl rfl H8.out hd hrow (by kernel_rfl)) rfl ?_
          obtain rfl := HNX.out
          exact .inl ⟨⟨z, cl, su, xs, dh, dc, ut, st, fa⟩, A, cc, rfl, HY.out, H8.out.drop.drop.drop.f1.drop.f1.drop⟩
        · have HN : Hid (∀ f : CodeV, f.R ≠ (k, v, 0)) := Lib.hid fun f hf => by
            have := (HNO.out f hf).2
            injection this with a b
            injection b with b c
            exact hx ⟨a, b⟩
          have hq : ∀ w, (binOp .neq ITT (.agg #[.string x1, .string x2]) (.agg #[.string k, .string v])).run Tryz.prog w = .ok (.bool true) w := fun w => by rw [run_pair, decide_eq_false hx]; rfl
          clear hx HRR HNO
          go_wp2_with (first
            | ((with_reducible refine (KNM.out _ H3.out).mono ?_); clear H3; rintro ev w3 ⟨A, cc, bb, rfl, h⟩; obtain ⟨⟨old2, ho2⟩, hf2, hs⟩ := h.f1.put1 3 (.slice A n cc) (show (3 : Nat) < 9 by omega); have H3 : Hid (Own E _ (Hp.blk (w.heap.size + 1 + 1) CDT (codeC z cl su A n cc dh dc ut st fa).toArray :: Hp.lst ST (.slice A n cc) (xs.map Value.string) :: Hp.blk (w.heap.size + 1 + 1 + 1) 9 #[.string sT] :: Hp.blk (w.heap.size + 1) CDT (codeC 0 ⟨#[]⟩ ⟨#[]⟩ none 0 0 ⟨#[]⟩ ⟨#[]⟩ 0 0 0).toArray :: Hp.blk w.heap.size ITT #[.string k, .string v] :: L)) := Lib.hid hs; clear h hs)
            | (with_reducible refine at_slot (k := some 35) ?_; refine wpList_load_arr (o := ⟨some 35, _, _, _, _, _⟩) H3.out 0 (codeC z cl su A n cc dh dc ut st fa) (fun jj u hu => by simpa using hu) hd hrow (by kernel_rfl) rfl rfl rfl ?_)
            | (with_reducible refine (HPR.out _ _ _ H3.out).mono ?_; clear H3; rintro ev w2 ⟨rfl, h⟩; have H3 := Lib.hid (h.alloc (.cells #[.string x1, .string x2] ITT)); clear h; have p0 := H3.out.f5.cell 0; have p1 := H3.out.f5.cell 1; simp only [List.getElem?_toArray, List.getElem?_cons_zero, List.getElem?_cons_succ] at p0 p1)
            | (with_reducible refine at_slot (k := some 47) ?_; refine wpList_load_arr (o := ⟨some 47, _, _, _, _, _⟩) H3.out.f1 0 (codeC z cl su A n cc dh dc ut st fa) (fun jj u hu => by simpa using hu) hd hrow (by kernel_rfl) rfl rfl rfl ?_)
            | (with_reducible refine at_slot (k := none) ?_; refine wpList_store_whole (o := ⟨none, _, _, _, _, _⟩) (cs := (codeC 0 ⟨#[]⟩ ⟨#[]⟩ none 0 0 ⟨#[]⟩ ⟨#[]⟩ 0 0 0)) (vs := (codeC 0 ⟨#[]⟩ ⟨#[]⟩ none 0 0 ⟨#[]⟩ ⟨#[]⟩ 0 0 0)) H3.out.f4 rfl (code_one _ _ _ _ _ _ _ _ _ _ _) (by kernel_rfl) rfl rfl rfl rfl ?_; clear H3; intro w7 h; have H8 := Lib.hid h; clear h))
          refine bodyPost_ret (results_ct rfl rfl H8.out hd hrow (by kernel_rfl)) rfl ?_
          exact .inr ⟨rfl, HN.out, H8.out.drop.drop.drop.drop.drop.drop⟩
      · have HN : Hid (∀ f : CodeV, f.R ≠ (k, v, 0)) := Lib.hid fun f hf => by
          have := (HNO.out f hf).2
          injection this with a b
          injection b with b c
          exact he c
        have hz : (er != 0) = true := by rw [bne_iff_ne]; exact he
        clear he HRR HNO
        go_wp2_with (first
          | ((with_reducible refine (KNM.out _ H3.out).mono ?_); clear H3; rintro ev w3 ⟨A, cc, bb, rfl, h⟩; obtain ⟨⟨old2, ho2⟩, hf2, hs⟩ := h.f1.put1 3 (.slice A n cc) (show (3 : Nat) < 9 by omega); have H3 : Hid (Own E _ (Hp.blk (w.heap.size + 1 + 1) CDT (codeC z cl su A n cc dh dc ut st fa).toArray :: Hp.lst ST (.slice A n cc) (xs.map Value.string) :: Hp.blk (w.heap.size + 1 + 1 + 1) 9 #[.string sT] :: Hp.blk (w.heap.size + 1) CDT (codeC 0 ⟨#[]⟩ ⟨#[]⟩ none 0 0 ⟨#[]⟩ ⟨#[]⟩ 0 0 0).toArray :: Hp.blk w.heap.size ITT #[.string k, .string v] :: L)) := Lib.hid hs; clear h hs)
          | (with_reducible refine at_slot (k := some 35) ?_; refine wpList_load_arr (o := ⟨some 35, _, _, _, _, _⟩) H3.out 0 (codeC z cl su A n cc dh dc ut st fa) (fun jj u hu => by simpa using hu) hd hrow (by kernel_rfl) rfl rfl rfl ?_)
          | (with_reducible refine (HPR.out _ _ _ H3.out).mono ?_; clear H3; rintro ev w2 ⟨rfl, h⟩; have H3 := Lib.hid (h.alloc (.cells #[.string x1, .string x2] ITT)); clear h; have p0 := H3.out.f5.cell 0; have p1 := H3.out.f5.cell 1; simp only [List.getElem?_toArray, List.getElem?_cons_zero, List.getElem?_cons_succ] at p0 p1)
          | (with_reducible refine at_slot (k := some 47) ?_; refine wpList_load_arr (o := ⟨some 47, _, _, _, _, _⟩) H3.out.f1 0 (codeC z cl su A n cc dh dc ut st fa) (fun jj u hu => by simpa using hu) hd hrow (by kernel_rfl) rfl rfl rfl ?_)
          | (with_reducible refine at_slot (k := none) ?_; refine wpList_store_whole (o := ⟨none, _, _, _, _, _⟩) (cs := (codeC 0 ⟨#[]⟩ ⟨#[]⟩ none 0 0 ⟨#[]⟩ ⟨#[]⟩ 0 0 0)) (vs := (codeC 0 ⟨#[]⟩ ⟨#[]⟩ none 0 0 ⟨#[]⟩ ⟨#[]⟩ 0 0 0)) H3.out.f4 rfl (code_one _ _ _ _ _ _ _ _ _ _ _) (by kernel_rfl) rfl rfl rfl rfl ?_; clear H3; intro w7 h; have H8 := Lib.hid h; clear h))
        refine bodyPost_ret (results_ct rfl rfl H8.out hd hrow (by kernel_rfl)) rfl ?_
        exact .inr ⟨rfl, HN.out, H8.out.drop.drop.drop.drop.drop.drop⟩
end
end Go.Proofs.YtabibfabieghpaaGreatDoor
