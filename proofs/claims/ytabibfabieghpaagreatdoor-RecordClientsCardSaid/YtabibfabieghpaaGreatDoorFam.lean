/- A family's cells; record.familyMay (printed by gen_fam.py). -/
import Derived.Test.YtabibfabieghpaaGreatDoorScp
import Derived.Test.YtabibfabieghpaaGreatDoorTokMay
namespace Go.Proofs.YtabibfabieghpaaGreatDoor
open Go.RowKit
abbrev FMT : TypeId := 56
def famC (id : Int) (cl su : ByteArray) (A : Option Addr) (n c : Nat) (cr us ii ab gr ge tk st en co : Int) : List Value := [.int .i64 id, .string cl, .string su, .slice A n c, .int .i64 cr, .int .i64 us, .int .i64 ii, .int .i64 ab, .int .i64 gr, .int .i64 ge, .int .i64 tk, .int .i64 st, .int .i64 en, .int .i64 co]
def famMay (id : Int) (cl su : ByteArray) (xs : List ByteArray) (cr us ii ab gr ge tk st en co : Int) : Prop := (1 ≤ id ∧ id ≤ 4611686018427387904) ∧ nameB cl = true ∧ nameB su = true ∧ scErr xs = 0 ∧ (0 ≤ cr ∧ cr ≤ 1099511627776) ∧ (0 ≤ us ∧ us ≤ 1099511627776) ∧ cr ≤ us ∧ (1 ≤ ii ∧ ii ≤ 1099511627776) ∧ (1 ≤ ab ∧ ab ≤ 1099511627776) ∧ (0 ≤ gr ∧ gr ≤ 1099511627776) ∧ (1 ≤ ge ∧ ge ≤ 1073741824) ∧ (1 ≤ tk ∧ tk ≤ 4611686018427387904) ∧ (co = 0 ∨ (1 ≤ co ∧ co ≤ 4611686018427387904)) ∧ ((st = 1 ∧ en = 0) ∨ ((st = 2 ∨ st = 3 ∨ st = 4) ∧ (0 ≤ en ∧ en ≤ 1099511627776) ∧ us ≤ en))
instance (id : Int) (cl su : ByteArray) (xs : List ByteArray) (cr us ii ab gr ge tk st en co : Int) : Decidable (famMay id cl su xs cr us ii ab gr ge tk st en co) := by unfold famMay; exact inferInstance
section
variable {E : World} {S : Ph} {L : List Hp}
theorem fam_cells {w : World} {b : Nat} (id : Int) (cl su : ByteArray) (A : Option Addr) (n c : Nat) (cr us ii ab gr ge tk st en co : Int) (h : Own E w (Hp.blk b FMT (famC id cl su A n c cr us ii ab gr ge tk st en co).toArray :: L)) :
    w.cell? ⟨b, 0, none⟩ = some (.int .i64 id) ∧ w.cell? ⟨b, 1, none⟩ = some (.string cl) ∧ w.cell? ⟨b, 2, none⟩ = some (.string su) ∧ w.cell? ⟨b, 3, none⟩ = some (.slice A n c) ∧ w.cell? ⟨b, 4, none⟩ = some (.int .i64 cr) ∧ w.cell? ⟨b, 5, none⟩ = some (.int .i64 us) ∧ w.cell? ⟨b, 6, none⟩ = some (.int .i64 ii) ∧ w.cell? ⟨b, 7, none⟩ = some (.int .i64 ab) ∧ w.cell? ⟨b, 8, none⟩ = some (.int .i64 gr) ∧ w.cell? ⟨b, 9, none⟩ = some (.int .i64 ge) ∧ w.cell? ⟨b, 10, none⟩ = some (.int .i64 tk) ∧ w.cell? ⟨b, 11, none⟩ = some (.int .i64 st) ∧ w.cell? ⟨b, 12, none⟩ = some (.int .i64 en) ∧ w.cell? ⟨b, 13, none⟩ = some (.int .i64 co) := by
  refine ⟨(h.cell 0).trans rfl, (h.cell 1).trans rfl, (h.cell 2).trans rfl, (h.cell 3).trans rfl, (h.cell 4).trans rfl, (h.cell 5).trans rfl, (h.cell 6).trans rfl, (h.cell 7).trans rfl, (h.cell 8).trans rfl, (h.cell 9).trans rfl, (h.cell 10).trans rfl, (h.cell 11).trans rfl, (h.cell 12).trans rfl, (h.cell 13).trans rfl⟩
set_option maxRecDepth 20000 in
set_option maxHeartbeats 8000000 in
theorem familymay_any (id : Int) (cl su : ByteArray) (A : Option Addr) (n c : Nat) (cr us ii ab gr ge tk st en co : Int) (xs : List ByteArray) (w : World) (hr : Rds S 1 enStr A n xs) (hnc : n ≤ c) (hn43 : n ≤ 8796093022208) (h : Own E w (Hp.ro S :: L)) :
    Calls Tryz.prog 81 #[.agg (famC id cl su A n c cr us ii ab gr ge tk st en co).toArray] w fun ev w' => ev = .returned (.bool (decide (famMay id cl su xs cr us ii ab gr ge tk st en co))) ∧ Own E w' (Hp.ro S :: L) := by
  have H1 := Lib.hid (show Own E _ (Hp.blk w.heap.size FMT (famC id cl su A n c cr us ii ab gr ge tk st en co).toArray :: Hp.ro S :: L) from h.alloc (.cells (famC id cl su A n c cr us ii ab gr ge tk st en co).toArray FMT))
  obtain ⟨n1, hn1⟩ : ∃ nv : Int, nameB cl = decide (nv = 1) := ⟨if nameB cl then 1 else 0, by cases nameB cl <;> rfl⟩
  obtain ⟨n2, hn2⟩ : ∃ nv : Int, nameB su = decide (nv = 1) := ⟨if nameB su then 1 else 0, by cases nameB su <;> rfl⟩
  obtain ⟨jn, hjn⟩ : ∃ jn : Int, co = 0 ↔ ¬ jn = 1 := ⟨if co = 0 then 0 else 1, by split <;> simp_all⟩
  obtain ⟨q1, hq1⟩ : ∃ q : Int, st = 1 ↔ q = 1 := ⟨if st = 1 then 1 else 0, by split <;> simp_all⟩
  obtain ⟨q2, hq2⟩ : ∃ q : Int, st = 2 ↔ q = 1 := ⟨if st = 2 then 1 else 0, by split <;> simp_all⟩
  obtain ⟨q3, hq3⟩ : ∃ q : Int, st = 3 ↔ q = 1 := ⟨if st = 3 then 1 else 0, by split <;> simp_all⟩
  obtain ⟨q4, hq4⟩ : ∃ q : Int, st = 4 ↔ q = 1 := ⟨if st = 4 then 1 else 0, by split <;> simp_all⟩
  have zj : (co != 0) = decide (jn = 1) := by rw [Bool.eq_iff_iff, bne_iff_ne, decide_eq_true_eq, ne_eq, hjn, Decidable.not_not]
  have z1 : (st == 1) = decide (q1 = 1) := by rw [Bool.eq_iff_iff, beq_iff_eq, decide_eq_true_eq, hq1]
  have z2 : (st == 2) = decide (q2 = 1) := by rw [Bool.eq_iff_iff, beq_iff_eq, decide_eq_true_eq, hq2]
  have z3 : (st == 3) = decide (q3 = 1) := by rw [Bool.eq_iff_iff, beq_iff_eq, decide_eq_true_eq, hq3]
  have z4 : (st == 4) = decide (q4 = 1) := by rw [Bool.eq_iff_iff, beq_iff_eq, decide_eq_true_eq, hq4]
  have KR := Lib.hid (fun (w3 : World) (h3 : Own E w3 (Hp.blk w.heap.size FMT (famC id cl su A n c cr us ii ab gr ge tk st en co).toArray :: Hp.ro S :: L)) => right_any (E := E) (S := S) (L := Hp.blk w.heap.size FMT (famC id cl su A n c cr us ii ab gr ge tk st en co).toArray :: L) A n c xs w3 hr hnc hn43 h3.f1)
  obtain ⟨sx, hsx⟩ : ∃ sx : Int, sx = scErr xs := ⟨_, rfl⟩
  rw [← hsx] at KR
  have K1 := Lib.hid (fun (w3 : World) (h3 : Own E w3 (Hp.blk w.heap.size FMT (famC id cl su A n c cr us ii ab gr ge tk st en co).toArray :: Hp.ro S :: L)) => isname_any cl w3 h3)
  have K2 := Lib.hid (fun (w3 : World) (h3 : Own E w3 (Hp.blk w.heap.size FMT (famC id cl su A n c cr us ii ab gr ge tk st en co).toArray :: Hp.ro S :: L)) => isname_any su w3 h3)
  rw [hn1] at K1
  rw [hn2] at K2
  have hiff : famMay id cl su xs cr us ii ab gr ge tk st en co ↔ ((1 ≤ id ∧ id ≤ 4611686018427387904) ∧ n1 = 1 ∧ n2 = 1 ∧ sx = 0 ∧ (0 ≤ cr ∧ cr ≤ 1099511627776) ∧ (0 ≤ us ∧ us ≤ 1099511627776) ∧ cr ≤ us ∧ (1 ≤ ii ∧ ii ≤ 1099511627776) ∧ (1 ≤ ab ∧ ab ≤ 1099511627776) ∧ (0 ≤ gr ∧ gr ≤ 1099511627776) ∧ (1 ≤ ge ∧ ge ≤ 1073741824) ∧ (1 ≤ tk ∧ tk ≤ 4611686018427387904) ∧ (¬ jn = 1 ∨ (1 ≤ co ∧ co ≤ 4611686018427387904)) ∧ ((q1 = 1 ∧ en = 0) ∨ ((q2 = 1 ∨ q3 = 1 ∨ q4 = 1) ∧ (0 ≤ en ∧ en ≤ 1099511627776) ∧ us ≤ en))) := by
    unfold famMay
    rw [hn1, hn2, hjn, hq1, hq2, hq3, hq4, ← hsx, decide_eq_true_iff, decide_eq_true_iff]
  have HI := Lib.hid hiff
  have HX := Lib.hid (show ¬ (q1 = 1 ∧ q2 = 1) ∧ ¬ (q1 = 1 ∧ q3 = 1) ∧ ¬ (q1 = 1 ∧ q4 = 1) by rw [← hq1, ← hq2, ← hq3, ← hq4]; omega)
  have k1 := fun w => isid_any id w
  have k2 := fun w => istime_any cr w
  have k3 := fun w => istime_any us w
  have k4 := fun w => lasting_any ii w
  have k5 := fun w => lasting_any ab w
  have k6 := fun w => istime_any gr w
  have k7 := fun w => isgen_any ge w
  have k8 := fun w => isid_any tk w
  have k9 := fun w => isid_any co w
  have ka := fun w => istime_any en w
  clear h hiff hn1 hn2 hjn hq1 hq2 hq3 hq4 hsx hr
  go_enter Tryz.func81, Tryz.ntmps81
  obtain ⟨d0, d1, d2, d3, d4, d5, d6, d7, d8, d9, d10, d11, d12, d13⟩ := fam_cells id cl su A n c cr us ii ab gr ge tk st en co H1.out
  go_wp2_with (first
    | (with_reducible refine (k1 _).mono ?_; rintro ev w2 ⟨rfl, rfl⟩)
    | (with_reducible refine (k2 _).mono ?_; rintro ev w2 ⟨rfl, rfl⟩)
    | (with_reducible refine (k3 _).mono ?_; rintro ev w2 ⟨rfl, rfl⟩)
    | (with_reducible refine (k4 _).mono ?_; rintro ev w2 ⟨rfl, rfl⟩)
    | (with_reducible refine (k5 _).mono ?_; rintro ev w2 ⟨rfl, rfl⟩)
    | (with_reducible refine (k6 _).mono ?_; rintro ev w2 ⟨rfl, rfl⟩)
    | (with_reducible refine (k7 _).mono ?_; rintro ev w2 ⟨rfl, rfl⟩)
    | (with_reducible refine (k8 _).mono ?_; rintro ev w2 ⟨rfl, rfl⟩)
    | (with_reducible refine (k9 _).mono ?_; rintro ev w2 ⟨rfl, rfl⟩)
    | (with_reducible refine (ka _).mono ?_; rintro ev w2 ⟨rfl, rfl⟩)
    | (with_reducible refine (K1.out _ H1.out).mono ?_; clear H1 d0 d1 d2 d3 d4 d5 d6 d7 d8 d9 d10 d11 d12 d13; rintro ev w2 ⟨rfl, h⟩; have H1 := Lib.hid (show Own E w2 (Hp.blk w.heap.size FMT (famC id cl su A n c cr us ii ab gr ge tk st en co).toArray :: Hp.ro S :: L) from h); clear h; obtain ⟨d0, d1, d2, d3, d4, d5, d6, d7, d8, d9, d10, d11, d12, d13⟩ := fam_cells id cl su A n c cr us ii ab gr ge tk st en co H1.out)
    | (with_reducible refine (K2.out _ H1.out).mono ?_; clear H1 d0 d1 d2 d3 d4 d5 d6 d7 d8 d9 d10 d11 d12 d13; rintro ev w2 ⟨rfl, h⟩; have H1 := Lib.hid (show Own E w2 (Hp.blk w.heap.size FMT (famC id cl su A n c cr us ii ab gr ge tk st en co).toArray :: Hp.ro S :: L) from h); clear h; obtain ⟨d0, d1, d2, d3, d4, d5, d6, d7, d8, d9, d10, d11, d12, d13⟩ := fam_cells id cl su A n c cr us ii ab gr ge tk st en co H1.out)
    | (with_reducible refine (KR.out _ H1.out).mono ?_; clear H1 d0 d1 d2 d3 d4 d5 d6 d7 d8 d9 d10 d11 d12 d13; rintro ev w2 ⟨rfl, h⟩; have H1 := Lib.hid (show Own E w2 (Hp.blk w.heap.size FMT (famC id cl su A n c cr us ii ab gr ge tk st en co).toArray :: Hp.ro S :: L) from h.f1); clear h; obtain ⟨d0, d1, d2, d3, d4, d5, d6, d7, d8, d9, d10, d11, d12, d13⟩ := fam_cells id cl su A n c cr us ii ab gr ge tk st en co H1.out))
  all_goals go_ret
  all_goals
    refine ⟨(show Ending.returned (Value.bool _) = Ending.returned (Value.bool _) from ret_bool ?_), H1.out.drop⟩
    rw [Bool.eq_iff_iff]
    refine Iff.trans ?_ (decide_eq_true_iff.trans HI.out).symm
    have hx := HX.out
    (first | omega | (simp <;> omega) | ((try simp only [Bool.not_eq_true'] at *); (try simp only [Bool.not_eq_false'] at *); (try simp only [decide_eq_true_eq] at *); (try simp only [decide_eq_false_iff_not] at *); (try simp only [bne_iff_ne] at *); (try simp only [ne_eq] at *); (try simp only [bne_eq_false_iff_eq] at *); first | omega | (simp <;> omega)))
end
end Go.Proofs.YtabibfabieghpaaGreatDoor
