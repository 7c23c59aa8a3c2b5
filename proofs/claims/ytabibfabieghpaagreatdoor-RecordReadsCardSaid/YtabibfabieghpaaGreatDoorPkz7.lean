/- What tokens may be printed: record.tokenMay, the reference's TokenMay (printed by gen_tokmay.py). A family's cells; record.familyMay (printed by gen_fam.py). PrintToken, the program. The family's fields; record.PrintFamily (printed by gen_famp.py). -/
import Derived.Test.YtabibfabieghpaaGreatDoorPkNote
import Derived.Test.YtabibfabieghpaaGreatDoorPkz4
import Derived.Test.YtabibfabieghpaaGreatDoorPkz0
namespace Go.Proofs.YtabibfabieghpaaGreatDoor
open Go.RowKit
def tokMay (a b c : Int) (s : ByteArray) (d : Int) (f : Bool) (e g : Int) (r : ByteArray) : Prop :=
  (1 ≤ a ∧ a ≤ 4611686018427387904) ∧ (1 ≤ b ∧ b ≤ 4611686018427387904) ∧ (1 ≤ c ∧ c ≤ 1073741824) ∧ s.size = 32 ∧ (0 ≤ d ∧ d ≤ 1099511627776) ∧
  ((f = true ∧ (0 ≤ e ∧ e ≤ 1099511627776) ∧ d ≤ e ∧ (1 ≤ g ∧ g ≤ 4611686018427387904) ∧ r.size = 24) ∨ (f = false ∧ e = 0 ∧ g = 0 ∧ r.size = 0))
instance (a b c : Int) (s : ByteArray) (d : Int) (f : Bool) (e g : Int) (r : ByteArray) : Decidable (tokMay a b c s d f e g r) := by unfold tokMay; exact inferInstance
abbrev TOKT : TypeId := 23
def tokC (a b c : Int) (s : ByteArray) (d : Int) (f : Bool) (e g : Int) (r : ByteArray) : List Value := [.int .i64 a, .int .i64 b, .int .i64 c, .string s, .int .i64 d, .bool f, .int .i64 e, .int .i64 g, .string r]
section
variable {E : World} {L : List Hp}
set_option maxRecDepth 20000 in
set_option maxHeartbeats 8000000 in
theorem tokenmay_any (a b c : Int) (s : ByteArray) (d : Int) (f : Bool) (e g : Int) (r : ByteArray) (w : World) (h : Own E w L) :
    Calls Tryz.prog 58 #[.agg (tokC a b c s d f e g r).toArray] w fun ev w' => ev = .returned (.bool (decide (tokMay a b c s d f e g r))) ∧ Own E w' L := by
  have H1 := Lib.hid (h.alloc (.cells (tokC a b c s d f e g r).toArray TOKT)).drop
  have k1 := fun w => isid_any a w
  have k2 := fun w => isid_any b w
  have k3 := fun w => isgen_any c w
  have k4 := fun w => isdigest_any s w
  have k5 := fun w => istime_any d w
  have k6 := fun w => istime_any e w
  have k7 := fun w => isid_any g w
  clear h
  cases f with
  | true =>
    have hiff : tokMay a b c s d true e g r ↔ ((1 ≤ a ∧ a ≤ 4611686018427387904) ∧ (1 ≤ b ∧ b ≤ 4611686018427387904) ∧ (1 ≤ c ∧ c ≤ 1073741824) ∧ s.size = 32 ∧ (0 ≤ d ∧ d ≤ 1099511627776) ∧ (0 ≤ e ∧ e ≤ 1099511627776) ∧ d ≤ e ∧ (1 ≤ g ∧ g ≤ 4611686018427387904) ∧ r.size = 24) := by
      unfold tokMay
      constructor
      · rintro ⟨h1, h2, h3, h4, h5, h6 | h6⟩
        · exact ⟨h1, h2, h3, h4, h5, h6.2⟩
        · exact absurd h6.1 (by decide)
      · rintro ⟨h1, h2, h3, h4, h5, h6⟩
        exact ⟨h1, h2, h3, h4, h5, .inl ⟨rfl, h6⟩⟩
    have HI := Lib.hid hiff
    clear hiff
    unfold tokC at *
    go_enter Tryz.func58, Tryz.ntmps58
    go_wp2_with (first
      | (with_reducible refine (k1 _).mono ?_; rintro ev w2 ⟨rfl, rfl⟩)
      | (with_reducible refine (k2 _).mono ?_; rintro ev w2 ⟨rfl, rfl⟩)
      | (with_reducible refine (k3 _).mono ?_; rintro ev w2 ⟨rfl, rfl⟩)
      | (with_reducible refine (k4 _).mono ?_; rintro ev w2 ⟨rfl, rfl⟩)
      | (with_reducible refine (k5 _).mono ?_; rintro ev w2 ⟨rfl, rfl⟩)
      | (with_reducible refine (k6 _).mono ?_; rintro ev w2 ⟨rfl, rfl⟩)
      | (with_reducible refine (k7 _).mono ?_; rintro ev w2 ⟨rfl, rfl⟩))
    all_goals go_ret
    all_goals
      refine ⟨(show Ending.returned (Value.bool _) = Ending.returned (Value.bool _) from ret_bool ?_), H1.out⟩
      rw [Bool.eq_iff_iff]
      refine Iff.trans ?_ (decide_eq_true_iff.trans HI.out).symm
      (first | omega | (simp <;> omega) | ((try simp only [Bool.not_eq_true'] at *); (try simp only [Bool.not_eq_false'] at *); (try simp only [decide_eq_true_eq] at *); (try simp only [decide_eq_false_iff_not] at *); (try simp only [bne_iff_ne] at *); (try simp only [ne_eq] at *); (try simp only [bne_eq_false_iff_eq] at *); first | omega | (simp <;> omega)))
  | false =>
    obtain ⟨en, hen⟩ : ∃ en : Int, e = 0 ↔ en = 0 := ⟨if e = 0 then 0 else 1, by split <;> simp_all⟩
    obtain ⟨gn, hgn⟩ : ∃ gn : Int, g = 0 ↔ gn = 0 := ⟨if g = 0 then 0 else 1, by split <;> simp_all⟩
    obtain ⟨rn, hrn⟩ : ∃ rn : Int, r.size = 0 ↔ rn = 0 := ⟨r.size, by omega⟩
    have ze : (e == 0) = decide (en = 0) := by rw [Bool.eq_iff_iff, beq_iff_eq, decide_eq_true_eq, hen]
    have zg : (g == 0) = decide (gn = 0) := by rw [Bool.eq_iff_iff, beq_iff_eq, decide_eq_true_eq, hgn]
    have zr : r.toList.isEmpty = decide (rn = 0) := by rw [isEmpty_size, decide_eq_decide]; exact hrn
    have hiff : tokMay a b c s d false e g r ↔ ((1 ≤ a ∧ a ≤ 4611686018427387904) ∧ (1 ≤ b ∧ b ≤ 4611686018427387904) ∧ (1 ≤ c ∧ c ≤ 1073741824) ∧ s.size = 32 ∧ (0 ≤ d ∧ d ≤ 1099511627776) ∧ en = 0 ∧ gn = 0 ∧ rn = 0) := by
      unfold tokMay
      rw [← hen, ← hgn, ← hrn]
      constructor
      · rintro ⟨h1, h2, h3, h4, h5, h6 | h6⟩
        · exact absurd h6.1 (by decide)
        · exact ⟨h1, h2, h3, h4, h5, h6.2⟩
      · rintro ⟨h1, h2, h3, h4, h5, h6⟩
        exact ⟨h1, h2, h3, h4, h5, .inr ⟨rfl, h6⟩⟩
    have HI := Lib.hid hiff
    clear hiff hen hgn hrn
    unfold tokC at *
    go_enter Tryz.func58, Tryz.ntmps58
    go_wp2_with (first
      | (with_reducible refine (k1 _).mono ?_; rintro ev w2 ⟨rfl, rfl⟩)
      | (with_reducible refine (k2 _).mono ?_; rintro ev w2 ⟨rfl, rfl⟩)
      | (with_reducible refine (k3 _).mono ?_; rintro ev w2 ⟨rfl, rfl⟩)
      | (with_reducible refine (k4 _).mono ?_; rintro ev w2 ⟨rfl, rfl⟩)
      | (with_reducible refine (k5 _).mono ?_; rintro ev w2 ⟨rfl, rfl⟩)
      | (with_reducible refine (k6 _).mono ?_; rintro ev w2 ⟨rfl, rfl⟩)
      | (with_reducible refine (k7 _).mono ?_; rintro ev w2 ⟨rfl, rfl⟩))
    all_goals go_ret
    all_goals
      refine ⟨(show Ending.returned (Value.bool _) = Ending.returned (Value.bool _) from ret_bool ?_), H1.out⟩
      rw [Bool.eq_iff_iff]
      refine Iff.trans ?_ (decide_eq_true_iff.trans HI.out).symm
      (first | omega | (simp <;> omega) | ((try simp only [Bool.not_eq_true'] at *); (try simp only [Bool.not_eq_false'] at *); (try simp only [decide_eq_true_eq] at *); (try simp only [decide_eq_false_iff_not] at *); (try simp only [bne_iff_ne] at *); (try simp only [ne_eq] at *); (try simp only [bne_eq_false_iff_eq] at *); first | omega | (simp <;> omega)))
set_option maxRecDepth 20000 in
set_option maxHeartbeats 8000000 in
theorem xtokenmay_any (a b c : Int) (s : ByteArray) (d : Int) (f : Bool) (e g : Int) (r : ByteArray) (w : World) (h : Own E w L) :
    Calls Tryz.prog 63 #[.agg (tokC a b c s d f e g r).toArray] w fun ev w' => ev = .returned (.bool (decide (tokMay a b c s d f e g r))) ∧ Own E w' L := by
  have H1 := Lib.hid (h.alloc (.cells (tokC a b c s d f e g r).toArray TOKT)).drop
  have k1 := fun w => xid_any a w
  have k2 := fun w => xid_any b w
  have k3 := fun w => xtime_any d w
  have k4 := fun w => xtime_any e w
  have k5 := fun w => xid_any g w
  clear h
  cases f with
  | true =>
    have hiff : tokMay a b c s d true e g r ↔ ((1 ≤ a ∧ a ≤ 4611686018427387904) ∧ (1 ≤ b ∧ b ≤ 4611686018427387904) ∧ (1 ≤ c ∧ c ≤ 1073741824) ∧ s.size = 32 ∧ (0 ≤ d ∧ d ≤ 1099511627776) ∧ (0 ≤ e ∧ e ≤ 1099511627776) ∧ d ≤ e ∧ (1 ≤ g ∧ g ≤ 4611686018427387904) ∧ r.size = 24) := by
      unfold tokMay
      constructor
      · rintro ⟨h1, h2, h3, h4, h5, h6 | h6⟩
        · exact ⟨h1, h2, h3, h4, h5, h6.2⟩
        · exact absurd h6.1 (by decide)
      · rintro ⟨h1, h2, h3, h4, h5, h6⟩
        exact ⟨h1, h2, h3, h4, h5, .inl ⟨rfl, h6⟩⟩
    have HI := Lib.hid hiff
    clear hiff
    unfold tokC at *
    go_enter Tryz.func63, Tryz.ntmps63
    go_wp2_with (first
      | (with_reducible refine (k1 _).mono ?_; rintro ev w2 ⟨rfl, rfl⟩)
      | (with_reducible refine (k2 _).mono ?_; rintro ev w2 ⟨rfl, rfl⟩)
      | (with_reducible refine (k3 _).mono ?_; rintro ev w2 ⟨rfl, rfl⟩)
      | (with_reducible refine (k4 _).mono ?_; rintro ev w2 ⟨rfl, rfl⟩)
      | (with_reducible refine (k5 _).mono ?_; rintro ev w2 ⟨rfl, rfl⟩))
    all_goals go_ret
    all_goals
      refine ⟨(show Ending.returned (Value.bool _) = Ending.returned (Value.bool _) from ret_bool ?_), H1.out⟩
      rw [Bool.eq_iff_iff]
      refine Iff.trans ?_ (decide_eq_true_iff.trans HI.out).symm
      (first | omega | (simp <;> omega) | ((try simp only [Bool.not_eq_true'] at *); (try simp only [Bool.not_eq_false'] at *); (try simp only [decide_eq_true_eq] at *); (try simp only [decide_eq_false_iff_not] at *); (try simp only [bne_iff_ne] at *); (try simp only [ne_eq] at *); (try simp only [bne_eq_false_iff_eq] at *); first | omega | (simp <;> omega)))
  | false =>
    obtain ⟨en, hen⟩ : ∃ en : Int, e = 0 ↔ en = 0 := ⟨if e = 0 then 0 else 1, by split <;> simp_all⟩
    obtain ⟨gn, hgn⟩ : ∃ gn : Int, g = 0 ↔ gn = 0 := ⟨if g = 0 then 0 else 1, by split <;> simp_all⟩
    obtain ⟨rn, hrn⟩ : ∃ rn : Int, r.size = 0 ↔ rn = 0 := ⟨r.size, by omega⟩
    have ze : (e == 0) = decide (en = 0) := by rw [Bool.eq_iff_iff, beq_iff_eq, decide_eq_true_eq, hen]
    have zg : (g == 0) = decide (gn = 0) := by rw [Bool.eq_iff_iff, beq_iff_eq, decide_eq_true_eq, hgn]
    have zr : r.toList.isEmpty = decide (rn = 0) := by rw [isEmpty_size, decide_eq_decide]; exact hrn
    have hiff : tokMay a b c s d false e g r ↔ ((1 ≤ a ∧ a ≤ 4611686018427387904) ∧ (1 ≤ b ∧ b ≤ 4611686018427387904) ∧ (1 ≤ c ∧ c ≤ 1073741824) ∧ s.size = 32 ∧ (0 ≤ d ∧ d ≤ 1099511627776) ∧ en = 0 ∧ gn = 0 ∧ rn = 0) := by
      unfold tokMay
      rw [← hen, ← hgn, ← hrn]
      constructor
      · rintro ⟨h1, h2, h3, h4, h5, h6 | h6⟩
        · exact absurd h6.1 (by decide)
        · exact ⟨h1, h2, h3, h4, h5, h6.2⟩
      · rintro ⟨h1, h2, h3, h4, h5, h6⟩
        exact ⟨h1, h2, h3, h4, h5, .inr ⟨rfl, h6⟩⟩
    have HI := Lib.hid hiff
    clear hiff hen hgn hrn
    unfold tokC at *
    go_enter Tryz.func63, Tryz.ntmps63
    go_wp2_with (first
      | (with_reducible refine (k1 _).mono ?_; rintro ev w2 ⟨rfl, rfl⟩)
      | (with_reducible refine (k2 _).mono ?_; rintro ev w2 ⟨rfl, rfl⟩)
      | (with_reducible refine (k3 _).mono ?_; rintro ev w2 ⟨rfl, rfl⟩)
      | (with_reducible refine (k4 _).mono ?_; rintro ev w2 ⟨rfl, rfl⟩)
      | (with_reducible refine (k5 _).mono ?_; rintro ev w2 ⟨rfl, rfl⟩))
    all_goals go_ret
    all_goals
      refine ⟨(show Ending.returned (Value.bool _) = Ending.returned (Value.bool _) from ret_bool ?_), H1.out⟩
      rw [Bool.eq_iff_iff]
      refine Iff.trans ?_ (decide_eq_true_iff.trans HI.out).symm
      (first | omega | (simp <;> omega) | ((try simp only [Bool.not_eq_true'] at *); (try simp only [Bool.not_eq_false'] at *); (try simp only [decide_eq_true_eq] at *); (try simp only [decide_eq_false_iff_not] at *); (try simp only [bne_iff_ne] at *); (try simp only [ne_eq] at *); (try simp only [bne_eq_false_iff_eq] at *); first | omega | (simp <;> omega)))
end
end Go.Proofs.YtabibfabieghpaaGreatDoor
namespace Go.Proofs.YtabibfabieghpaaGreatDoor
open Go.RowKit
abbrev FMT : TypeId := 56
def famC (id : Int) (cl su : ByteArray) (A : Option Addr) (n c : Nat) (cr us ii ab gr ge tk st en co : Int) : List Value := [.int .i64 id, .string cl, .string su, .slice A n c, .int .i64 cr, .int .i64 us, .int .i64 ii, .int .i64 ab, .int .i64 gr, .int .i64 ge, .int .i64 tk, .int .i64 st, .int .i64 en, .int .i64 co]
def famMay (id : Int) (cl su : ByteArray) (xs : List ByteArray) (cr us ii ab gr ge tk st en co : Int) : Prop := (1 ≤ id ∧ id ≤ 4611686018427387904) ∧ nameB cl = true ∧ nameB su = true ∧ scErr xs = 0 ∧ (0 ≤ cr ∧ cr ≤ 1099511627776) ∧ (0 ≤ us ∧ us ≤ 1099511627776) ∧ cr ≤ us ∧ (1 ≤ ii ∧ ii ≤ 1099511627776) ∧ (1 ≤ ab ∧ ab ≤ 1099511627776) ∧ (0 ≤ gr ∧ gr ≤ 1099511627776) ∧ (1 ≤ ge ∧ ge ≤ 1073741824) ∧ (1 ≤ tk ∧ tk ≤ 4611686018427387904) ∧ (co = 0 ∨ (1 ≤ co ∧ co ≤ 4611686018427387904)) ∧ ((st = 1 ∧ en = 0) ∨ ((st = 2 ∨ st = 3 ∨ st = 4) ∧ (0 ≤ en ∧ en ≤ 1099511627776) ∧ us ≤ en))
instance (id : Int) (cl su : ByteArray) (xs : List ByteArray) (cr us ii ab gr ge tk st en co : Int) : Decidable (famMay id cl su xs cr us ii ab gr ge tk st en co) := by unfold famMay; exact inferInstance
section
variable {E : World} {S : Ph} {L : List Hp}
theorem fam_cells {w : World} {b : Nat} (id : Int) (cl su : ByteArray) (A : Option Addr) (n c : Nat) (cr us ii ab gr ge tk st en co : Int) (h : Own E w (Hp.blk b FMT (famC id cl su A n c cr us ii ab gr ge tk st en co).toArray :: L)) :
    w.cell? ⟨b, 0, none⟩ = some (.int .i64 id) ∧ w.cell? ⟨b, 1, none⟩ = some (.string cl) ∧ w.cell? ⟨b, 2, none⟩ = some (.string su) ∧ w.cell? ⟨b, 3, none⟩ = some (.slice A n c) ∧ w.cell? ⟨b, 4, none⟩ = some (.int .i64 cr) ∧ w.cell? ⟨b, 5, none⟩ = some (.int .i64 us) ∧ w.cell? ⟨b, 6, none⟩ = some (.int .i64 ii) ∧ w.cell? ⟨b, 7, none⟩ = some (.int .i64 ab) ∧ w.cell? ⟨b, 8, none⟩ = some (.int .i64 gr) ∧ w.cell? ⟨b, 9, none⟩ = some (.int .i64 ge) ∧ w.cell? ⟨b, 10, none⟩ = some (.int .i64 tk) ∧ w.cell? ⟨b, 11, none⟩ = some (.int .i64 st) ∧ w.cell? ⟨b, 12, none⟩ = some (.int .i64 en) ∧ w.cell? ⟨b, 13, none⟩ = some (.int .i64 co) := by
  refine ⟨(h.cell 0).trans rfl, (h.cell 1).trans rfl, (h.cell 2).trans rfl, (h.cell 3).trans rfl, (h.cell 4).trans rfl, (h.cell 5).trans rfl, (h.cell 6).trans rfl, (h.cell 7).trans rfl, (h.cell 8).trans rfl, (h.cell 9).trans rfl, (h.cell 10).trans rfl, (h.cell 11).trans rfl, (h.cell 12).trans rfl, (h.cell 13).trans rfl⟩
set_option maxRecDepth 20000 in
set_option maxHeartbeats 8000000 in
theorem familymay_any (id : Int) (cl su : ByteArray) (A : Option Addr) (n c : Nat) (cr us ii ab gr ge tk st en co : Int) (xs : List ByteArray) (w : World) (hr : Rds S 1 enStr A n xs) (hnc : n ≤ c) (hn43 : n ≤ 8796093022208) (h : Own E w (Hp.ro S :: L)) :
    Calls Tryz.prog 81 #[.agg (famC id cl su A n c cr us ii ab gr ge tk st en co).toArray] w fun ev w' => ev = .returned (.bool (decide (famMay id cl su xs cr us ii ab gr ge tk st en co))) ∧ Own E w' (Hp.ro S :: L) := by
  have H1 := Lib.hid (show Own E _ (Hp.blk w.heap.size FMT (famC id cl su A n c cr us ii ab gr ge tk st en co).toArray :: Hp.ro S :: L) from h.alloc (.cells (famC id cl su A n c cr us ii ab gr ge tk st en co).toArray FMT))
  obtain ⟨n1, hn1⟩ : ∃ nv : Int, nameB cl = decide (nv = 1) := ⟨if nameB cl then 1 else 0, by cases nameB cl <;> rfl⟩
  obtain ⟨n2, hn2⟩ : ∃ nv : Int, nameB su = decide (nv = 1) := ⟨if nameB su then 1 else 0, by cases nameB su <;> rfl⟩
  obtain ⟨jn, hjn⟩ : ∃ jn : Int, co = 0 ↔ ¬ jn = 1 := ⟨if co = 0 then 0 else 1, by split <;> simp_all⟩
  obtain ⟨q1, hq1⟩ : ∃ q : Int, st = 1 ↔ q = 1 := ⟨if st = 1 then 1 else 0, by split <;> simp_all⟩
  obtain ⟨q2, hq2⟩ : ∃ q : Int, st = 2 ↔ q = 1 := ⟨if st = 2 then 1 else 0, by split <;> simp_all⟩
  obtain ⟨q3, hq3⟩ : ∃ q : Int, st = 3 ↔ q = 1 := ⟨if st = 3 then 1 else 0, by split <;> simp_all⟩
  obtain ⟨q4, hq4⟩ : ∃ q : Int, st = 4 ↔ q = 1 := ⟨if st = 4 then 1 else 0, by split <;> simp_all⟩
  have zj : (co != 0) = decide (jn = 1) := by rw [Bool.eq_iff_iff, bne_iff_ne, decide_eq_true_eq, ne_eq, hjn, Decidable.not_not]
  have z1 : (st == 1) = decide (q1 = 1) := by rw [Bool.eq_iff_iff, beq_iff_eq, decide_eq_true_eq, hq1]
  have z2 : (st == 2) = decide (q2 = 1) := by rw [Bool.eq_iff_iff, beq_iff_eq, decide_eq_true_eq, hq2]
  have z3 : (st == 3) = decide (q3 = 1) := by rw [Bool.eq_iff_iff, beq_iff_eq, decide_eq_true_eq, hq3]
  have z4 : (st == 4) = decide (q4 = 1) := by rw [Bool.eq_iff_iff, beq_iff_eq, decide_eq_true_eq, hq4]
  have KR := Lib.hid (fun (w3 : World) (h3 : Own E w3 (Hp.blk w.heap.size FMT (famC id cl su A n c cr us ii ab gr ge tk st en co).toArray :: Hp.ro S :: L)) => right_any (E := E) (S := S) (L := Hp.blk w.heap.size FMT (famC id cl su A n c cr us ii ab gr ge tk st en co).toArray :: L) A n c xs w3 hr hnc hn43 h3.f1)
  obtain ⟨sx, hsx⟩ : ∃ sx : Int, sx = scErr xs := ⟨_, rfl⟩
  rw [← hsx] at KR
  have K1 := Lib.hid (fun (w3 : World) (h3 : Own E w3 (Hp.blk w.heap.size FMT (famC id cl su A n c cr us ii ab gr ge tk st en co).toArray :: Hp.ro S :: L)) => isname_any cl w3 h3)
  have K2 := Lib.hid (fun (w3 : World) (h3 : Own E w3 (Hp.blk w.heap.size FMT (famC id cl su A n c cr us ii ab gr ge tk st en co).toArray :: Hp.ro S :: L)) => isname_any su w3 h3)
  rw [hn1] at K1
  rw [hn2] at K2
  have hiff : famMay id cl su xs cr us ii ab gr ge tk st en co ↔ ((1 ≤ id ∧ id ≤ 4611686018427387904) ∧ n1 = 1 ∧ n2 = 1 ∧ sx = 0 ∧ (0 ≤ cr ∧ cr ≤ 1099511627776) ∧ (0 ≤ us ∧ us ≤ 1099511627776) ∧ cr ≤ us ∧ (1 ≤ ii ∧ ii ≤ 1099511627776) ∧ (1 ≤ ab ∧ ab ≤ 1099511627776) ∧ (0 ≤ gr ∧ gr ≤ 1099511627776) ∧ (1 ≤ ge ∧ ge ≤ 1073741824) ∧ (1 ≤ tk ∧ tk ≤ 4611686018427387904) ∧ (¬ jn = 1 ∨ (1 ≤ co ∧ co ≤ 4611686018427387904)) ∧ ((q1 = 1 ∧ en = 0) ∨ ((q2 = 1 ∨ q3 = 1 ∨ q4 = 1) ∧ (0 ≤ en ∧ en ≤ 1099511627776) ∧ us ≤ en))) := by
    unfold famMay
    rw [hn1, hn2, hjn, hq1, hq2, hq3, hq4, ← hsx, decide_eq_true_iff, decide_eq_true_iff]
  have HI := Lib.hid hiff
  have HX := Lib.hid (show ¬ (q1 = 1 ∧ q2 = 1) ∧ ¬ (q1 = 1 ∧ q3 = 1) ∧ ¬ (q1 = 1 ∧ q4 = 1) by rw [← hq1, ← hq2, ← hq3, ← hq4]; omega)
  have k1 := fun w => isid_any id w
  have k2 := fun w => istime_any cr w
  have k3 := fun w => istime_any us w
  have k4 := fun w => lasting_any ii w
  have k5 := fun w => lasting_any ab w
  have k6 := fun w => istime_any gr w
  have k7 := fun w => isgen_any ge w
  have k8 := fun w => isid_any tk w
  have k9 := fun w => isid_any co w
  have ka := fun w => istime_any en w
  clear h hiff hn1 hn2 hjn hq1 hq2 hq3 hq4 hsx hr
  go_enter Tryz.func81, Tryz.ntmps81
  obtain ⟨d0, d1, d2, d3, d4, d5, d6, d7, d8, d9, d10, d11, d12, d13⟩ := fam_cells id cl su A n c cr us ii ab gr ge tk st en co H1.out
  go_wp2_with (first
    | (with_reducible refine (k1 _).mono ?_; rintro ev w2 ⟨rfl, rfl⟩)
    | (with_reducible refine (k2 _).mono ?_; rintro ev w2 ⟨rfl, rfl⟩)
    | (with_reducible refine (k3 _).mono ?_; rintro ev w2 ⟨rfl, rfl⟩)
    | (with_reducible refine (k4 _).mono ?_; rintro ev w2 ⟨rfl, rfl⟩)
    | (with_reducible refine (k5 _).mono ?_; rintro ev w2 ⟨rfl, rfl⟩)
    | (with_reducible refine (k6 _).mono ?_; rintro ev w2 ⟨rfl, rfl⟩)
    | (with_reducible refine (k7 _).mono ?_; rintro ev w2 ⟨rfl, rfl⟩)
    | (with_reducible refine (k8 _).mono ?_; rintro ev w2 ⟨rfl, rfl⟩)
    | (with_reducible refine (k9 _).mono ?_; rintro ev w2 ⟨rfl, rfl⟩)
    | (with_reducible refine (ka _).mono ?_; rintro ev w2 ⟨rfl, rfl⟩)
    | (with_reducible refine (K1.out _ H1.out).mono ?_; clear H1 d0 d1 d2 d3 d4 d5 d6 d7 d8 d9 d10 d11 d12 d13; rintro ev w2 ⟨rfl, h⟩; have H1 := Lib.hid (show Own E w2 (Hp.blk w.heap.size FMT (famC id cl su A n c cr us ii ab gr ge tk st en co).toArray :: Hp.ro S :: L) from h); clear h; obtain ⟨d0, d1, d2, d3, d4, d5, d6, d7, d8, d9, d10, d11, d12, d13⟩ := fam_cells id cl su A n c cr us ii ab gr ge tk st en co H1.out)
    | (with_reducible refine (K2.out _ H1.out).mono ?_; clear H1 d0 d1 d2 d3 d4 d5 d6 d7 d8 d9 d10 d11 d12 d13; rintro ev w2 ⟨rfl, h⟩; have H1 := Lib.hid (show Own E w2 (Hp.blk w.heap.size FMT (famC id cl su A n c cr us ii ab gr ge tk st en co).toArray :: Hp.ro S :: L) from h); clear h; obtain ⟨d0, d1, d2, d3, d4, d5, d6, d7, d8, d9, d10, d11, d12, d13⟩ := fam_cells id cl su A n c cr us ii ab gr ge tk st en co H1.out)
    | (with_reducible refine (KR.out _ H1.out).mono ?_; clear H1 d0 d1 d2 d3 d4 d5 d6 d7 d8 d9 d10 d11 d12 d13; rintro ev w2 ⟨rfl, h⟩; have H1 := Lib.hid (show Own E w2 (Hp.blk w.heap.size FMT (famC id cl su A n c cr us ii ab gr ge tk st en co).toArray :: Hp.ro S :: L) from h.f1); clear h; obtain ⟨d0, d1, d2, d3, d4, d5, d6, d7, d8, d9, d10, d11, d12, d13⟩ := fam_cells id cl su A n c cr us ii ab gr ge tk st en co H1.out))
  all_goals go_ret
  all_goals
    refine ⟨(show Ending.returned (Value.bool _) = Ending.returned (Value.bool _) from ret_bool ?_), H1.out.drop⟩
    rw [Bool.eq_iff_iff]
    refine Iff.trans ?_ (decide_eq_true_iff.trans HI.out).symm
    have hx := HX.out
    (first | omega | (simp <;> omega) | ((try simp only [Bool.not_eq_true'] at *); (try simp only [Bool.not_eq_false'] at *); (try simp only [decide_eq_true_eq] at *); (try simp only [decide_eq_false_iff_not] at *); (try simp only [bne_iff_ne] at *); (try simp only [ne_eq] at *); (try simp only [bne_eq_false_iff_eq] at *); first | omega | (simp <;> omega)))
end
end Go.Proofs.YtabibfabieghpaaGreatDoor
namespace Go.Proofs.YtabibfabieghpaaGreatDoor
open Go.RowKit
def tokK (a : Int) : ByteArray := ⟨(116 :: byN 8 a.toNat).toArray⟩
def tokV (b c : Int) (s : ByteArray) (d : Int) (f : Bool) (e g : Int) (r : ByteArray) : ByteArray :=
  ⟨(byN 8 b.toNat ++ byN 4 c.toNat ++ s.data.toList ++ byN 6 d.toNat ++ byN 1 (flagV f 1).toNat ++ byN 6 e.toNat ++ byN 8 g.toNat ++ (byN 1 r.size ++ r.data.toList)).toArray⟩
def tokR (a b c : Int) (s : ByteArray) (d : Int) (f : Bool) (e g : Int) (r : ByteArray) : ByteArray × ByteArray × Int :=
  if tokMay a b c s d f e g r then (tokK a, tokV b c s d f e g r, 0) else (noB, noB, 140)
def tokFl (tb fb : Nat) (b c : Int) (s : ByteArray) (d : Int) (f : Bool) (e g : Int) (r : ByteArray) : List Fld :=
  [(.num 8, ⟨tb, 1, none⟩, .n b), (.num 4, ⟨tb, 2, none⟩, .n c), (.raw 32, ⟨tb, 3, none⟩, .s s), (.num 6, ⟨tb, 4, none⟩, .n d), (.num 1, ⟨fb, 0, none⟩, .n (flagV f 1)), (.num 6, ⟨tb, 6, none⟩, .n e), (.num 8, ⟨tb, 7, none⟩, .n g), (.text, ⟨tb, 8, none⟩, .s r)]
theorem flagV_range (f : Bool) : 0 ≤ flagV f 1 ∧ flagV f 1 ≤ 1 := by cases f <;> decide
theorem tok_range {a b c : Int} {s : ByteArray} {d : Int} {f : Bool} {e g : Int} {r : ByteArray} (h : tokMay a b c s d f e g r) : (1 ≤ a ∧ a ≤ 4611686018427387904) ∧ (1 ≤ b ∧ b ≤ 4611686018427387904) ∧ (1 ≤ c ∧ c ≤ 1073741824) ∧ s.size = 32 ∧ (0 ≤ d ∧ d ≤ 1099511627776) ∧ (0 ≤ e ∧ e ≤ 1099511627776) ∧ (0 ≤ g ∧ g ≤ 4611686018427387904) ∧ r.size ≤ 24 := by
  obtain ⟨h1, h2, h3, h4, h5, h6 | h6⟩ := h
  · omega
  · omega
theorem tok_fits (tb fb : Nat) {a b c : Int} {s : ByteArray} {d : Int} {f : Bool} {e g : Int} {r : ByteArray} (h : tokMay a b c s d f e g r) : ∀ x ∈ (tokFl tb fb b c s d f e g r).map Fld.kv, fits1 x := by
  obtain ⟨c1, c2, c3, c4, c5, c6, c7, c8⟩ := tok_range h
  have hf := flagV_range f
  intro x hx
  simp only [tokFl, List.map_cons, List.map_nil, List.mem_cons, List.not_mem_nil, or_false] at hx
  rcases hx with rfl | rfl | rfl | rfl | rfl | rfl | rfl | rfl
  · exact ⟨by decide, by decide, by show (0 : Int) ≤ b; omega, by show b < (256 : Int) ^ 8; omega, by show b ≤ (9223372036854775807 : Int); omega⟩
  · exact ⟨by decide, by decide, by show (0 : Int) ≤ c; omega, by show c < (256 : Int) ^ 4; omega, by show c ≤ (9223372036854775807 : Int); omega⟩
  · exact c4
  · exact ⟨by decide, by decide, by show (0 : Int) ≤ d; omega, by show d < (256 : Int) ^ 6; omega, by show d ≤ (9223372036854775807 : Int); omega⟩
  · exact ⟨by decide, by decide, by show (0 : Int) ≤ flagV f 1; omega, by show flagV f 1 < (256 : Int) ^ 1; omega, by show flagV f 1 ≤ (9223372036854775807 : Int); omega⟩
  · exact ⟨by decide, by decide, by show (0 : Int) ≤ e; omega, by show e < (256 : Int) ^ 6; omega, by show e ≤ (9223372036854775807 : Int); omega⟩
  · exact ⟨by decide, by decide, by show (0 : Int) ≤ g; omega, by show g < (256 : Int) ^ 8; omega, by show g ≤ (9223372036854775807 : Int); omega⟩
  · show r.size ≤ 255
    omega
theorem tok_printed (tb fb : Nat) {a b c : Int} {s : ByteArray} {d : Int} {f : Bool} {e g : Int} {r : ByteArray} (h : tokMay a b c s d f e g r) : printedV ((tokFl tb fb b c s d f e g r).map Fld.kv) = tokV b c s d f e g r := by
  rw [printed_fits (tok_fits tb fb h)]
  refine bytes_ext _ _ ?_
  show (byN 8 b.toNat ++ (byN 4 c.toNat ++ (s.data.toList ++ (byN 6 d.toNat ++ (byN 1 (flagV f 1).toNat ++ (byN 6 e.toNat ++ (byN 8 g.toNat ++ ((byN 1 r.size ++ r.data.toList) ++ [])))))))).toArray.toList = _
  simp
theorem tok_ok (tb fb : Nat) {T : Ph} {a b c : Int} {s : ByteArray} {d : Int} {f : Bool} {e g : Int} {r : ByteArray} (h : tokMay a b c s d f e g r) (ht : ∀ i v, (tokC a b c s d f e g r)[i]? = some v → T.cell ⟨tb, i, none⟩ = some v) (hf : T.cell ⟨fb, 0, none⟩ = some (.int .i64 (flagV f 1))) : ∀ x ∈ tokFl tb fb b c s d f e g r, FldOk T x := by
  obtain ⟨c1, c2, c3, c4, c5, c6, c7, c8⟩ := tok_range h
  have hf2 := flagV_range f
  intro x hx
  simp only [tokFl, List.mem_cons, List.not_mem_nil, or_false] at hx
  rcases hx with rfl | rfl | rfl | rfl | rfl | rfl | rfl | rfl
  · exact ⟨trivial, ht 1 _ rfl, by show b ≤ (9223372036854775807 : Int); omega, by show (0 : Nat) ≤ _; omega⟩
  · exact ⟨trivial, ht 2 _ rfl, by show c ≤ (9223372036854775807 : Int); omega, by show (0 : Nat) ≤ _; omega⟩
  · exact ⟨trivial, ht 3 _ rfl, by show (0 : Int) ≤ _; omega, by show s.size ≤ _; omega⟩
  · exact ⟨trivial, ht 4 _ rfl, by show d ≤ (9223372036854775807 : Int); omega, by show (0 : Nat) ≤ _; omega⟩
  · exact ⟨trivial, hf, by show flagV f 1 ≤ (9223372036854775807 : Int); omega, by show (0 : Nat) ≤ _; omega⟩
  · exact ⟨trivial, ht 6 _ rfl, by show e ≤ (9223372036854775807 : Int); omega, by show (0 : Nat) ≤ _; omega⟩
  · exact ⟨trivial, ht 7 _ rfl, by show g ≤ (9223372036854775807 : Int); omega, by show (0 : Nat) ≤ _; omega⟩
  · exact ⟨trivial, ht 8 _ rfl, by show (0 : Int) ≤ _; omega, by show r.size ≤ _; omega⟩
section
variable {E : World} {L : List Hp}
set_option maxRecDepth 20000 in
set_option maxHeartbeats 8000000 in
theorem printtok_any (a b c : Int) (s : ByteArray) (d : Int) (f : Bool) (e g : Int) (r : ByteArray) (w : World) (hG : Laid0 E L) (h : Own E w L) :
    Calls Tryz.prog 11 #[.agg (tokC a b c s d f e g r).toArray] w fun ev w' => ev = .returned (itemV (tokR a b c s d f e g r)) ∧ Own E w' L := by
  have h1 := h.alloc (.cells (tokC a b c s d f e g r).toArray TOKT)
  have h2 := h1.alloc (.cells #[.string ⟨#[]⟩, .string ⟨#[]⟩] ITT)
  rw [alloc_size] at h2
  have H3 := Lib.hid h2
  obtain ⟨dd, hd, hrow⟩ := itt_u
  have KF := fun w => flag_any f 1 w
  by_cases hm : tokMay a b c s d f e g r
  · have HR : Hid (tokR a b c s d f e g r = (tokK a, tokV b c s d f e g r, 0)) := Lib.hid (if_pos hm)
    have KM : Hid (∀ w3 : World, Own E w3 (Hp.blk (w.heap.size + 1) ITT #[.string ⟨#[]⟩, .string ⟨#[]⟩] :: Hp.blk w.heap.size TOKT (tokC a b c s d f e g r).toArray :: L) → Calls Tryz.prog 58 #[.agg (tokC a b c s d f e g r).toArray] w3 fun ev w' => ev = .returned (.bool true) ∧ w'.cell? ⟨w.heap.size, 5, none⟩ = some (.bool f) ∧ Own E w' (Hp.blk (w.heap.size + 1) ITT #[.string ⟨#[]⟩, .string ⟨#[]⟩] :: Hp.blk w.heap.size TOKT (tokC a b c s d f e g r).toArray :: L)) := Lib.hid fun w3 h3 => (tokenmay_any a b c s d f e g r w3 h3).mono fun ev w' he => ⟨by rw [he.1, decide_eq_true hm], by rw [he.2.f1.cell 5]; rfl, he.2⟩
    have HNUM : Hid (∀ (fb : Nat) (w3 : World), Own E w3 (Hp.blk fb 3 #[.int .i64 (flagV f 1)] :: Hp.blk (w.heap.size + 1) ITT #[.string ⟨#[]⟩, .string ⟨#[]⟩] :: Hp.blk w.heap.size TOKT (tokC a b c s d f e g r).toArray :: L) → Calls Tryz.prog 60 #[.string ⟨#[116]⟩, .int .i64 8, .int .i64 a] w3 fun ev w' => ev = .returned (.string (tokK a)) ∧ Own E w' (Hp.blk fb 3 #[.int .i64 (flagV f 1)] :: Hp.blk (w.heap.size + 1) ITT #[.string ⟨#[]⟩, .string ⟨#[]⟩] :: Hp.blk w.heap.size TOKT (tokC a b c s d f e g r).toArray :: L)) := Lib.hid fun fb w3 h3 => by
      obtain ⟨c1, -⟩ := hm
      have hnum := numbered_any (E := E) ⟨#[116]⟩ 8 a w3 (by decide) (by omega) hG.cons.cons.cons h3
      rw [key_num 116 8 a (by omega) (by omega) (by omega) (by omega) (by omega)] at hnum
      exact hnum
    have HP : Hid (∀ (bb fb : Nat) (w3 : World), Own E w3 (Hp.blk bb FT ((tokenFs w.heap.size fb).flatMap enF).toArray :: Hp.blk fb 3 #[.int .i64 (flagV f 1)] :: Hp.blk (w.heap.size + 1) ITT #[.string ⟨#[]⟩, .string ⟨#[]⟩] :: Hp.blk w.heap.size TOKT (tokC a b c s d f e g r).toArray :: L) →
        Calls Tryz.prog 61 #[.slice (some ⟨bb, 0, none⟩) 8 8] w3 fun ev w' => ev = .returned (.string (tokV b c s d f e g r)) ∧ Own E w' (Hp.blk (w.heap.size + 1) ITT #[.string ⟨#[]⟩, .string ⟨#[]⟩] :: L)) := Lib.hid fun bb fb w3 h3 => by
      have h4 : Own E w3 (Hp.ro (Ph.one fb (.cells #[.int .i64 (flagV f 1)] 3 (0, 0))) :: Hp.ro (Ph.one w.heap.size (.cells (tokC a b c s d f e g r).toArray TOKT (0, 0))) :: Hp.blk bb FT ((tokFl w.heap.size fb b c s d f e g r).flatMap enFld).toArray :: Hp.blk (w.heap.size + 1) ITT #[.string ⟨#[]⟩, .string ⟨#[]⟩] :: L) := h3.f3.f2
      obtain ⟨m1, d1⟩ := h4.merge
      refine (printed_blk bb 8 (tokFl w.heap.size fb b c s d f e g r) w3 rfl (by omega) (tok_ok _ _ hm (fun i v hv => kept_cell d1 (by rw [one_cell, List.getElem?_toArray]; exact hv)) (left_cell (one_cell _ _ _ 0))) hG.cons m1.f1).mono ?_
      rw [tok_printed _ _ hm]
      rintro ev w' ⟨rfl, h⟩
      exact ⟨rfl, h.drop⟩
    clear h h1 h2 hG hm
    generalize tokK a = x1 at *
    generalize tokV b c s d f e g r = x2 at *
    unfold tokC at *
    go_enter Tryz.func11, Tryz.ntmps11
    go_wp2_with (first
      | (with_reducible refine (KM.out _ H3.out).mono ?_; clear H3; rintro ev w2 ⟨rfl, hc5, h⟩; have hc0 := (h.alloc (.cells #[.int .i64 (flagV f 1)] 3)).f2.cell 0; have H3 := Lib.hid (h.alloc (.cells #[.int .i64 (flagV f 1)] 3)); clear h; simp only [List.getElem?_toArray, List.getElem?_cons_zero] at hc0)
      | (with_reducible refine (KF _).mono ?_; rintro ev w2 ⟨rfl, rfl⟩)
      | (with_reducible refine (HNUM.out _ _ H3.out).mono ?_; clear HNUM H3; rintro ev w2 ⟨rfl, h⟩; have H3 := Lib.hid h; clear h)
      | (with_reducible refine (tokenfields_any _ _ _ H3.out).mono ?_; clear H3; rintro ev w2 ⟨bb, rfl, h⟩; have H3 := Lib.hid h; clear h)
      | (with_reducible refine (HP.out _ _ _ H3.out).mono ?_; clear H3 HP; rintro ev w2 ⟨rfl, h⟩; have H3 := Lib.hid h; clear h)
      | (with_reducible refine at_slot (k := none) ?_; refine wpList_store_whole (o := ⟨none, _, _, _, _, _⟩) (cs := [.string ⟨#[]⟩, .string ⟨#[]⟩]) (vs := [.string x1, .string x2]) H3.out rfl (pair_one x1 x2) (by kernel_rfl) rfl rfl rfl rfl ?_; clear H3; intro w7 h; have H9 := Lib.hid h; clear h))
    refine bodyPost_ret (results_ct rfl rfl H9.out hd hrow (by kernel_rfl)) rfl ?_
    exact ⟨by rw [HR.out]; rfl, H9.out.drop⟩
  · have HR : Hid (tokR a b c s d f e g r = (noB, noB, 140)) := Lib.hid (if_neg hm)
    have KM : Hid (∀ w3 : World, Own E w3 (Hp.blk (w.heap.size + 1) ITT #[.string ⟨#[]⟩, .string ⟨#[]⟩] :: Hp.blk w.heap.size TOKT (tokC a b c s d f e g r).toArray :: L) → Calls Tryz.prog 58 #[.agg (tokC a b c s d f e g r).toArray] w3 fun ev w' => ev = .returned (.bool false) ∧ Own E w' (Hp.blk (w.heap.size + 1) ITT #[.string ⟨#[]⟩, .string ⟨#[]⟩] :: Hp.blk w.heap.size TOKT (tokC a b c s d f e g r).toArray :: L)) := Lib.hid fun w3 h3 => (tokenmay_any a b c s d f e g r w3 h3).mono fun ev w' he => ⟨by rw [he.1, decide_eq_false hm], he.2⟩
    clear h h1 h2 hG hm
    unfold tokC at *
    go_enter Tryz.func11, Tryz.ntmps11
    go_wp2_with (first
      | (with_reducible refine (KM.out _ H3.out).mono ?_; clear H3; rintro ev w2 ⟨rfl, h⟩; have H3 := Lib.hid h; clear h)
      | (with_reducible refine at_slot (k := none) ?_; refine wpList_store_whole (o := ⟨none, _, _, _, _, _⟩) (cs := [.string ⟨#[]⟩, .string ⟨#[]⟩]) (vs := [.string ⟨#[]⟩, .string ⟨#[]⟩]) H3.out rfl (pair_one ⟨#[]⟩ ⟨#[]⟩) (by kernel_rfl) rfl rfl rfl rfl ?_; clear H3; intro w7 h; have H8 := Lib.hid h; clear h))
    refine bodyPost_ret (results_ct rfl rfl H8.out hd hrow (by kernel_rfl)) rfl ?_
    exact ⟨by rw [HR.out]; rfl, H8.out.drop.drop⟩
end
end Go.Proofs.YtabibfabieghpaaGreatDoor
namespace Go.Proofs.YtabibfabieghpaaGreatDoor
open Go.RowKit
def famFs (tb fb : Nat) : List (Fk × Addr) := [(.text, ⟨tb, 1, none⟩), (.text, ⟨tb, 2, none⟩), (.text, ⟨fb, 0, none⟩), (.num 6, ⟨tb, 4, none⟩), (.num 6, ⟨tb, 5, none⟩), (.num 6, ⟨tb, 6, none⟩), (.num 6, ⟨tb, 7, none⟩), (.num 6, ⟨tb, 8, none⟩), (.num 4, ⟨tb, 9, none⟩), (.num 8, ⟨tb, 10, none⟩), (.num 1, ⟨tb, 11, none⟩), (.num 6, ⟨tb, 12, none⟩), (.num 8, ⟨tb, 13, none⟩)]
section
variable {E : World} {L : List Hp}
set_option maxRecDepth 20000 in
set_option maxHeartbeats 4000000 in
theorem familyfields_any (tb fb : Nat) (w : World) (h : Own E w L) :
    Calls Tryz.prog 83 #[.pointer (some ⟨tb, 0, none⟩), .pointer (some ⟨fb, 0, none⟩)] w fun e w' => ∃ b, e = .returned (.slice (some ⟨b, 0, none⟩) 13 13) ∧ Own E w' (Hp.blk b FT ((famFs tb fb).flatMap enF).toArray :: L) := by
  go_enter Tryz.func83, Tryz.ntmps83
  go_wp2_with fail
  refine wp_region_text [] (fun w => Own E w L) (by kernel_rfl) ?_ (fun hS => ?_)
  · exact h.drew
  refine gp 0 (some 5) ?_
  refine gp 1 (some 6) ?_
  refine gp 2 (some 7) ?_
  refine gp 4 (some 9) ?_
  refine gp 5 (some 10) ?_
  refine gp 6 (some 11) ?_
  refine gp 8 (some 13) ?_
  refine gp 10 (some 15) ?_
  refine gp 11 (some 16) ?_
  refine gp 12 (some 17) ?_
  refine gp 14 (some 19) ?_
  refine gp 15 (some 20) ?_
  refine gp 16 (some 21) ?_
  refine gp 18 (some 23) ?_
  refine gp 19 (some 24) ?_
  refine gp 20 (some 25) ?_
  refine gp 22 (some 27) ?_
  refine gp 23 (some 28) ?_
  refine gp 24 (some 29) ?_
  refine gp 26 (some 31) ?_
  refine gp 27 (some 32) ?_
  refine gp 28 (some 33) ?_
  refine gp 30 (some 35) ?_
  refine gp 31 (some 36) ?_
  refine gp 32 (some 37) ?_
  refine gp 34 (some 39) ?_
  refine gp 35 (some 40) ?_
  refine gp 36 (some 41) ?_
  refine gp 38 (some 43) ?_
  refine gp 39 (some 44) ?_
  refine gp 40 (some 45) ?_
  refine gp 42 (some 47) ?_
  refine gp 43 (some 48) ?_
  refine gp 44 (some 49) ?_
  refine gp 46 (some 51) ?_
  refine gp 47 (some 52) ?_
  refine gp 48 (some 53) ?_
  refine gk 3 (some 8) (fun K hK => ?_)
  rw [if_pos (by rfl)]
  go_simp
  refine (ftext_any ⟨tb, 1, none⟩ _ hS).mono ?_
  clear hS
  rintro e w2 ⟨rfl, h⟩
  refine hK.out _ _ ?_ (fun hS => ?_)
  · exact h
  clear hK K
  try simp only [Act.put, List.setIfInBounds_toArray, List.set_cons_zero, List.set_cons_succ]
  refine gk 7 (some 12) (fun K hK => ?_)
  rw [if_pos (by rfl)]
  go_simp
  refine (ftext_any ⟨tb, 2, none⟩ _ hS).mono ?_
  clear hS
  rintro e w2 ⟨rfl, h⟩
  refine hK.out _ _ ?_ (fun hS => ?_)
  · exact h
  clear hK K
  try simp only [Act.put, List.setIfInBounds_toArray, List.set_cons_zero, List.set_cons_succ]
  refine gk 9 (some 14) (fun K hK => ?_)
  rw [if_pos (by rfl)]
  go_simp
  refine (ftext_any ⟨fb, 0, none⟩ _ hS).mono ?_
  clear hS
  rintro e w2 ⟨rfl, h⟩
  refine hK.out _ _ ?_ (fun hS => ?_)
  · exact h
  clear hK K
  try simp only [Act.put, List.setIfInBounds_toArray, List.set_cons_zero, List.set_cons_succ]
  refine gk 13 (some 18) (fun K hK => ?_)
  rw [if_pos (by rfl)]
  go_simp
  refine (fnum_any 6 ⟨tb, 4, none⟩ _ hS).mono ?_
  clear hS
  rintro e w2 ⟨rfl, h⟩
  refine hK.out _ _ ?_ (fun hS => ?_)
  · exact h
  clear hK K
  try simp only [Act.put, List.setIfInBounds_toArray, List.set_cons_zero, List.set_cons_succ]
  refine gk 17 (some 22) (fun K hK => ?_)
  rw [if_pos (by rfl)]
  go_simp
  refine (fnum_any 6 ⟨tb, 5, none⟩ _ hS).mono ?_
  clear hS
  rintro e w2 ⟨rfl, h⟩
  refine hK.out _ _ ?_ (fun hS => ?_)
  · exact h
  clear hK K
  try simp only [Act.put, List.setIfInBounds_toArray, List.set_cons_zero, List.set_cons_succ]
  refine gk 21 (some 26) (fun K hK => ?_)
  rw [if_pos (by rfl)]
  go_simp
  refine (fnum_any 6 ⟨tb, 6, none⟩ _ hS).mono ?_
  clear hS
  rintro e w2 ⟨rfl, h⟩
  refine hK.out _ _ ?_ (fun hS => ?_)
  · exact h
  clear hK K
  try simp only [Act.put, List.setIfInBounds_toArray, List.set_cons_zero, List.set_cons_succ]
  refine gk 25 (some 30) (fun K hK => ?_)
  rw [if_pos (by rfl)]
  go_simp
  refine (fnum_any 6 ⟨tb, 7, none⟩ _ hS).mono ?_
  clear hS
  rintro e w2 ⟨rfl, h⟩
  refine hK.out _ _ ?_ (fun hS => ?_)
  · exact h
  clear hK K
  try simp only [Act.put, List.setIfInBounds_toArray, List.set_cons_zero, List.set_cons_succ]
  refine gk 29 (some 34) (fun K hK => ?_)
  rw [if_pos (by rfl)]
  go_simp
  refine (fnum_any 6 ⟨tb, 8, none⟩ _ hS).mono ?_
  clear hS
  rintro e w2 ⟨rfl, h⟩
  refine hK.out _ _ ?_ (fun hS => ?_)
  · exact h
  clear hK K
  try simp only [Act.put, List.setIfInBounds_toArray, List.set_cons_zero, List.set_cons_succ]
  refine gk 33 (some 38) (fun K hK => ?_)
  rw [if_pos (by rfl)]
  go_simp
  refine (fnum_any 4 ⟨tb, 9, none⟩ _ hS).mono ?_
  clear hS
  rintro e w2 ⟨rfl, h⟩
  refine hK.out _ _ ?_ (fun hS => ?_)
  · exact h
  clear hK K
  try simp only [Act.put, List.setIfInBounds_toArray, List.set_cons_zero, List.set_cons_succ]
  refine gk 37 (some 42) (fun K hK => ?_)
  rw [if_pos (by rfl)]
  go_simp
  refine (fnum_any 8 ⟨tb, 10, none⟩ _ hS).mono ?_
  clear hS
  rintro e w2 ⟨rfl, h⟩
  refine hK.out _ _ ?_ (fun hS => ?_)
  · exact h
  clear hK K
  try simp only [Act.put, List.setIfInBounds_toArray, List.set_cons_zero, List.set_cons_succ]
  refine gk 41 (some 46) (fun K hK => ?_)
  rw [if_pos (by rfl)]
  go_simp
  refine (fnum_any 1 ⟨tb, 11, none⟩ _ hS).mono ?_
  clear hS
  rintro e w2 ⟨rfl, h⟩
  refine hK.out _ _ ?_ (fun hS => ?_)
  · exact h
  clear hK K
  try simp only [Act.put, List.setIfInBounds_toArray, List.set_cons_zero, List.set_cons_succ]
  refine gk 45 (some 50) (fun K hK => ?_)
  rw [if_pos (by rfl)]
  go_simp
  refine (fnum_any 6 ⟨tb, 12, none⟩ _ hS).mono ?_
  clear hS
  rintro e w2 ⟨rfl, h⟩
  refine hK.out _ _ ?_ (fun hS => ?_)
  · exact h
  clear hK K
  try simp only [Act.put, List.setIfInBounds_toArray, List.set_cons_zero, List.set_cons_succ]
  refine gk 49 (some 54) (fun K hK => ?_)
  rw [if_pos (by rfl)]
  go_simp
  refine (fnum_any 8 ⟨tb, 13, none⟩ _ hS).mono ?_
  clear hS
  rintro e w2 ⟨rfl, h⟩
  refine hK.out _ _ ?_ (fun hS => ?_)
  · exact h
  clear hK K
  try simp only [Act.put, List.setIfInBounds_toArray, List.set_cons_zero, List.set_cons_succ]
  refine wpAnyG_break (i := 50) (oi := ⟨some 55, _, _, _, _, _⟩) (by kernel_rfl) rfl (by kernel_rfl) (fun K hK => ?_)
  rw [if_pos (by rfl)]
  refine wp_fields (famFs tb fb) rfl rfl (by omega) (by omega) (by first | kernel_rfl | (simp [famFs]; done) | (simp [famFs]; rfl)) ?_
  have h := hS.alloc (.cells ((famFs tb fb).flatMap enF).toArray FT)
  refine hK.out _ _ ?_
  clear hK K
  try simp only [Act.put, List.setIfInBounds_toArray, List.set_cons_zero, List.set_cons_succ]
  refine gp 51 (some 4) ?_
  refine wpAnyG_done (by kernel_rfl) ?_ _
  refine NoPanic.normal ?_
  go_wp2_with fail
  go_ret
  exact ⟨_, rfl, h⟩
end
def famK (id : Int) : ByteArray := ⟨(102 :: byN 8 id.toNat).toArray⟩
def famV (cl su sT : ByteArray) (cr us ii ab gr ge tk st en co : Int) : ByteArray := ⟨((byN 1 cl.size ++ cl.data.toList) ++ (byN 1 su.size ++ su.data.toList) ++ (byN 1 sT.size ++ sT.data.toList) ++ byN 6 cr.toNat ++ byN 6 us.toNat ++ byN 6 ii.toNat ++ byN 6 ab.toNat ++ byN 6 gr.toNat ++ byN 4 ge.toNat ++ byN 8 tk.toNat ++ byN 1 st.toNat ++ byN 6 en.toNat ++ byN 8 co.toNat).toArray⟩
def famR (id : Int) (cl su : ByteArray) (xs : List ByteArray) (cr us ii ab gr ge tk st en co : Int) : ByteArray × ByteArray × Int := if famMay id cl su xs cr us ii ab gr ge tk st en co then (famK id, famV cl su (scTxt xs) cr us ii ab gr ge tk st en co, 0) else (noB, noB, 140)
def famFl (tb fb : Nat) (cl su sT : ByteArray) (cr us ii ab gr ge tk st en co : Int) : List Fld := [(.text, ⟨tb, 1, none⟩, .s cl), (.text, ⟨tb, 2, none⟩, .s su), (.text, ⟨fb, 0, none⟩, .s sT), (.num 6, ⟨tb, 4, none⟩, .n cr), (.num 6, ⟨tb, 5, none⟩, .n us), (.num 6, ⟨tb, 6, none⟩, .n ii), (.num 6, ⟨tb, 7, none⟩, .n ab), (.num 6, ⟨tb, 8, none⟩, .n gr), (.num 4, ⟨tb, 9, none⟩, .n ge), (.num 8, ⟨tb, 10, none⟩, .n tk), (.num 1, ⟨tb, 11, none⟩, .n st), (.num 6, ⟨tb, 12, none⟩, .n en), (.num 8, ⟨tb, 13, none⟩, .n co)]
theorem scTxt_size {xs : List ByteArray} (h : scErr xs = 0) : (scTxt xs).size ≤ 60 := by
  unfold scTxt
  rw [if_pos h, fl_size]
  unfold scErr at h
  split at h
  · split at h
    · omega
    · cases h
  · cases h
theorem fam_range {id : Int} {cl su : ByteArray} {xs : List ByteArray} {cr us ii ab gr ge tk st en co : Int} (h : famMay id cl su xs cr us ii ab gr ge tk st en co) : cl.size ≤ 16 ∧ su.size ≤ 16 ∧ (scTxt xs).size ≤ 60 ∧ (1 ≤ id ∧ id ≤ 4611686018427387904) ∧ (0 ≤ cr ∧ cr ≤ 1099511627776) ∧ (0 ≤ us ∧ us ≤ 1099511627776) ∧ (0 ≤ ii ∧ ii ≤ 1099511627776) ∧ (0 ≤ ab ∧ ab ≤ 1099511627776) ∧ (0 ≤ gr ∧ gr ≤ 1099511627776) ∧ (0 ≤ ge ∧ ge ≤ 1073741824) ∧ (0 ≤ tk ∧ tk ≤ 4611686018427387904) ∧ (0 ≤ st ∧ st ≤ 4) ∧ (0 ≤ en ∧ en ≤ 1099511627776) ∧ (0 ≤ co ∧ co ≤ 4611686018427387904) := by
  obtain ⟨c1, c2, c3, c4, c5, c6, c7, c8, c9, ca, cb, cc, cd, ce⟩ := h
  refine ⟨nm_size c2, nm_size c3, scTxt_size c4, ?_⟩
  omega
def FamIn (id : Int) (cl su sT : ByteArray) (cr us ii ab gr ge tk st en co : Int) : Prop := cl.size ≤ 16 ∧ su.size ≤ 16 ∧ sT.size ≤ 60 ∧ (1 ≤ id ∧ id ≤ 4611686018427387904) ∧ (0 ≤ cr ∧ cr ≤ 1099511627776) ∧ (0 ≤ us ∧ us ≤ 1099511627776) ∧ (0 ≤ ii ∧ ii ≤ 1099511627776) ∧ (0 ≤ ab ∧ ab ≤ 1099511627776) ∧ (0 ≤ gr ∧ gr ≤ 1099511627776) ∧ (0 ≤ ge ∧ ge ≤ 1073741824) ∧ (0 ≤ tk ∧ tk ≤ 4611686018427387904) ∧ (0 ≤ st ∧ st ≤ 4) ∧ (0 ≤ en ∧ en ≤ 1099511627776) ∧ (0 ≤ co ∧ co ≤ 4611686018427387904)
theorem fam_fits (tb fb : Nat) {id : Int} {cl su sT : ByteArray} {cr us ii ab gr ge tk st en co : Int} (h : FamIn id cl su sT cr us ii ab gr ge tk st en co) : ∀ x ∈ (famFl tb fb cl su sT cr us ii ab gr ge tk st en co).map Fld.kv, fits1 x := by
  obtain ⟨r1, r2, r3, r0, c0, c1, c2, c3, c4, c5, c6, c7, c8, c9⟩ := h
  intro x hx
  simp only [famFl, List.map_cons, List.map_nil, List.mem_cons, List.not_mem_nil, or_false] at hx
  rcases hx with rfl | rfl | rfl | rfl | rfl | rfl | rfl | rfl | rfl | rfl | rfl | rfl | rfl
  · show cl.size ≤ 255
    omega
  · show su.size ≤ 255
    omega
  · show sT.size ≤ 255
    omega
  · exact ⟨by decide, by decide, by show (0 : Int) ≤ cr; omega, by show cr < (256 : Int) ^ 6; omega, by show cr ≤ (9223372036854775807 : Int); omega⟩
  · exact ⟨by decide, by decide, by show (0 : Int) ≤ us; omega, by show us < (256 : Int) ^ 6; omega, by show us ≤ (9223372036854775807 : Int); omega⟩
  · exact ⟨by decide, by decide, by show (0 : Int) ≤ ii; omega, by show ii < (256 : Int) ^ 6; omega, by show ii ≤ (9223372036854775807 : Int); omega⟩
  · exact ⟨by decide, by decide, by show (0 : Int) ≤ ab; omega, by show ab < (256 : Int) ^ 6; omega, by show ab ≤ (9223372036854775807 : Int); omega⟩
  · exact ⟨by decide, by decide, by show (0 : Int) ≤ gr; omega, by show gr < (256 : Int) ^ 6; omega, by show gr ≤ (9223372036854775807 : Int); omega⟩
  · exact ⟨by decide, by decide, by show (0 : Int) ≤ ge; omega, by show ge < (256 : Int) ^ 4; omega, by show ge ≤ (9223372036854775807 : Int); omega⟩
  · exact ⟨by decide, by decide, by show (0 : Int) ≤ tk; omega, by show tk < (256 : Int) ^ 8; omega, by show tk ≤ (9223372036854775807 : Int); omega⟩
  · exact ⟨by decide, by decide, by show (0 : Int) ≤ st; omega, by show st < (256 : Int) ^ 1; omega, by show st ≤ (9223372036854775807 : Int); omega⟩
  · exact ⟨by decide, by decide, by show (0 : Int) ≤ en; omega, by show en < (256 : Int) ^ 6; omega, by show en ≤ (9223372036854775807 : Int); omega⟩
  · exact ⟨by decide, by decide, by show (0 : Int) ≤ co; omega, by show co < (256 : Int) ^ 8; omega, by show co ≤ (9223372036854775807 : Int); omega⟩
theorem fam_printed (tb fb : Nat) {id : Int} {cl su sT : ByteArray} {cr us ii ab gr ge tk st en co : Int} (h : FamIn id cl su sT cr us ii ab gr ge tk st en co) : printedV ((famFl tb fb cl su sT cr us ii ab gr ge tk st en co).map Fld.kv) = famV cl su sT cr us ii ab gr ge tk st en co := by
  rw [printed_fits (fam_fits tb fb h)]
  refine bytes_ext _ _ ?_
  show (((byN 1 cl.size ++ cl.data.toList) ++ ((byN 1 su.size ++ su.data.toList) ++ ((byN 1 sT.size ++ sT.data.toList) ++ (byN 6 cr.toNat ++ (byN 6 us.toNat ++ (byN 6 ii.toNat ++ (byN 6 ab.toNat ++ (byN 6 gr.toNat ++ (byN 4 ge.toNat ++ (byN 8 tk.toNat ++ (byN 1 st.toNat ++ (byN 6 en.toNat ++ (byN 8 co.toNat ++ [])))))))))))))).toArray.toList = _
  simp
theorem fam_ok (tb fb : Nat) {T : Ph} {id : Int} {cl su sT : ByteArray} {cr us ii ab gr ge tk st en co : Int} {A : Option Addr} {n c : Nat} (h : FamIn id cl su sT cr us ii ab gr ge tk st en co) (ht : ∀ i v, (famC id cl su A n c cr us ii ab gr ge tk st en co)[i]? = some v → T.cell ⟨tb, i, none⟩ = some v) (hf : T.cell ⟨fb, 0, none⟩ = some (.string sT)) : ∀ x ∈ famFl tb fb cl su sT cr us ii ab gr ge tk st en co, FldOk T x := by
  obtain ⟨r1, r2, r3, r0, c0, c1, c2, c3, c4, c5, c6, c7, c8, c9⟩ := h
  intro x hx
  simp only [famFl, List.mem_cons, List.not_mem_nil, or_false] at hx
  rcases hx with rfl | rfl | rfl | rfl | rfl | rfl | rfl | rfl | rfl | rfl | rfl | rfl | rfl
  · exact ⟨trivial, ht 1 _ rfl, by show (0 : Int) ≤ _; omega, by show cl.size ≤ _; omega⟩
  · exact ⟨trivial, ht 2 _ rfl, by show (0 : Int) ≤ _; omega, by show su.size ≤ _; omega⟩
  · exact ⟨trivial, hf, by show (0 : Int) ≤ _; omega, by show sT.size ≤ _; omega⟩
  · exact ⟨trivial, ht 4 _ rfl, by show cr ≤ (9223372036854775807 : Int); omega, by show (0 : Nat) ≤ _; omega⟩
  · exact ⟨trivial, ht 5 _ rfl, by show us ≤ (9223372036854775807 : Int); omega, by show (0 : Nat) ≤ _; omega⟩
  · exact ⟨trivial, ht 6 _ rfl, by show ii ≤ (9223372036854775807 : Int); omega, by show (0 : Nat) ≤ _; omega⟩
  · exact ⟨trivial, ht 7 _ rfl, by show ab ≤ (9223372036854775807 : Int); omega, by show (0 : Nat) ≤ _; omega⟩
  · exact ⟨trivial, ht 8 _ rfl, by show gr ≤ (9223372036854775807 : Int); omega, by show (0 : Nat) ≤ _; omega⟩
  · exact ⟨trivial, ht 9 _ rfl, by show ge ≤ (9223372036854775807 : Int); omega, by show (0 : Nat) ≤ _; omega⟩
  · exact ⟨trivial, ht 10 _ rfl, by show tk ≤ (9223372036854775807 : Int); omega, by show (0 : Nat) ≤ _; omega⟩
  · exact ⟨trivial, ht 11 _ rfl, by show st ≤ (9223372036854775807 : Int); omega, by show (0 : Nat) ≤ _; omega⟩
  · exact ⟨trivial, ht 12 _ rfl, by show en ≤ (9223372036854775807 : Int); omega, by show (0 : Nat) ≤ _; omega⟩
  · exact ⟨trivial, ht 13 _ rfl, by show co ≤ (9223372036854775807 : Int); omega, by show (0 : Nat) ≤ _; omega⟩
section
variable {E : World} {S : Ph} {L : List Hp}
set_option maxRecDepth 20000 in
set_option maxHeartbeats 8000000 in
theorem printfam_any (id : Int) (cl su : ByteArray) (A : Option Addr) (n c : Nat) (cr us ii ab gr ge tk st en co : Int) (xs : List ByteArray) (w : World) (hr : Rds S 1 enStr A n xs) (hnc : n ≤ c) (hn43 : n ≤ 8796093022208) (hG : Laid0 E (Hp.ro S :: L)) (h : Own E w (Hp.ro S :: L)) :
    Calls Tryz.prog 28 #[.agg (famC id cl su A n c cr us ii ab gr ge tk st en co).toArray] w fun ev w' => ev = .returned (itemV (famR id cl su xs cr us ii ab gr ge tk st en co)) ∧ Own E w' (Hp.ro S :: L) := by
  have h1 := h.alloc (.cells (famC id cl su A n c cr us ii ab gr ge tk st en co).toArray FMT)
  have h2 := h1.alloc (.cells #[.string ⟨#[]⟩, .string ⟨#[]⟩] ITT)
  rw [alloc_size] at h2
  have H3 := Lib.hid h2
  obtain ⟨dd, hd, hrow⟩ := itt_u
  by_cases hm : famMay id cl su xs cr us ii ab gr ge tk st en co
  · have hrg : FamIn id cl su (scTxt xs) cr us ii ab gr ge tk st en co := fam_range hm
    have hsc : scErr xs = 0 := hm.2.2.2.1
    have HR : Hid (famR id cl su xs cr us ii ab gr ge tk st en co = (famK id, famV cl su (scTxt xs) cr us ii ab gr ge tk st en co, 0)) := Lib.hid (if_pos hm)
    have KM : Hid (∀ w3 : World, Own E w3 (Hp.blk (w.heap.size + 1) ITT #[.string ⟨#[]⟩, .string ⟨#[]⟩] :: Hp.blk w.heap.size FMT (famC id cl su A n c cr us ii ab gr ge tk st en co).toArray :: Hp.ro S :: L) → Calls Tryz.prog 81 #[.agg (famC id cl su A n c cr us ii ab gr ge tk st en co).toArray] w3 fun ev w' => ev = .returned (.bool true) ∧ w'.cell? ⟨w.heap.size, 3, none⟩ = some (.slice A n c) ∧ Own E w' (Hp.blk (w.heap.size + 1) ITT #[.string ⟨#[]⟩, .string ⟨#[]⟩] :: Hp.blk w.heap.size FMT (famC id cl su A n c cr us ii ab gr ge tk st en co).toArray :: Hp.ro S :: L)) := Lib.hid fun w3 h3 => (familymay_any id cl su A n c cr us ii ab gr ge tk st en co xs w3 hr hnc hn43 (show Own E w3 (Hp.ro S :: Hp.blk (w.heap.size + 1) ITT #[.string ⟨#[]⟩, .string ⟨#[]⟩] :: Hp.blk w.heap.size FMT (famC id cl su A n c cr us ii ab gr ge tk st en co).toArray :: L) from h3.f2)).mono fun ev w' he => ⟨by rw [he.1, decide_eq_true hm], by rw [he.2.f2.cell 3]; rfl, he.2.f2.f2⟩
    have KS : Hid (∀ w3 : World, Own E w3 (Hp.blk (w.heap.size + 1) ITT #[.string ⟨#[]⟩, .string ⟨#[]⟩] :: Hp.blk w.heap.size FMT (famC id cl su A n c cr us ii ab gr ge tk st en co).toArray :: Hp.ro S :: L) → Calls Tryz.prog 82 #[.slice A n c] w3 fun ev w' => ev = .returned (.tuple #[.string (scTxt xs), .bool true]) ∧ Own E w' (Hp.blk (w.heap.size + 1) ITT #[.string ⟨#[]⟩, .string ⟨#[]⟩] :: Hp.blk w.heap.size FMT (famC id cl su A n c cr us ii ab gr ge tk st en co).toArray :: Hp.ro S :: L)) := Lib.hid fun w3 h3 => (scoped_any A n c xs w3 hr hnc hn43 (show Own E w3 (Hp.ro S :: Hp.blk (w.heap.size + 1) ITT #[.string ⟨#[]⟩, .string ⟨#[]⟩] :: Hp.blk w.heap.size FMT (famC id cl su A n c cr us ii ab gr ge tk st en co).toArray :: L) from h3.f2)).mono fun ev w' he => ⟨by rw [he.1, decide_eq_true hsc], he.2.f2.f2⟩
    have HNUM : Hid (∀ (fb : Nat) (w3 : World), Own E w3 (Hp.blk fb 9 #[.string (scTxt xs)] :: Hp.blk (w.heap.size + 1) ITT #[.string ⟨#[]⟩, .string ⟨#[]⟩] :: Hp.blk w.heap.size FMT (famC id cl su A n c cr us ii ab gr ge tk st en co).toArray :: Hp.ro S :: L) → Calls Tryz.prog 60 #[.string ⟨#[102]⟩, .int .i64 8, .int .i64 id] w3 fun ev w' => ev = .returned (.string (famK id)) ∧ Own E w' (Hp.blk fb 9 #[.string (scTxt xs)] :: Hp.blk (w.heap.size + 1) ITT #[.string ⟨#[]⟩, .string ⟨#[]⟩] :: Hp.blk w.heap.size FMT (famC id cl su A n c cr us ii ab gr ge tk st en co).toArray :: Hp.ro S :: L)) := Lib.hid fun fb w3 h3 => by
      have c1 := hrg.2.2.2.1
      have hnum := numbered_any (E := E) ⟨#[102]⟩ 8 id w3 (by decide) (by omega) hG.cons.cons.cons h3
      rw [key_num 102 8 id (by omega) (by omega) (by omega) (by omega) (by omega)] at hnum
      exact hnum
    have HP : Hid (∀ (bb fb : Nat) (w3 : World), Own E w3 (Hp.blk bb FT ((famFs w.heap.size fb).flatMap enF).toArray :: Hp.blk fb 9 #[.string (scTxt xs)] :: Hp.blk (w.heap.size + 1) ITT #[.string ⟨#[]⟩, .string ⟨#[]⟩] :: Hp.blk w.heap.size FMT (famC id cl su A n c cr us ii ab gr ge tk st en co).toArray :: Hp.ro S :: L) →
        Calls Tryz.prog 61 #[.slice (some ⟨bb, 0, none⟩) 13 13] w3 fun ev w' => ev = .returned (.string (famV cl su (scTxt xs) cr us ii ab gr ge tk st en co)) ∧ Own E w' (Hp.blk (w.heap.size + 1) ITT #[.string ⟨#[]⟩, .string ⟨#[]⟩] :: Hp.ro S :: L)) := Lib.hid fun bb fb w3 h3 => by
      have h4 : Own E w3 (Hp.ro (Ph.one fb (.cells #[.string (scTxt xs)] 9 (0, 0))) :: Hp.ro (Ph.one w.heap.size (.cells (famC id cl su A n c cr us ii ab gr ge tk st en co).toArray FMT (0, 0))) :: Hp.blk bb FT ((famFl w.heap.size fb cl su (scTxt xs) cr us ii ab gr ge tk st en co).flatMap enFld).toArray :: Hp.blk (w.heap.size + 1) ITT #[.string ⟨#[]⟩, .string ⟨#[]⟩] :: Hp.ro S :: L) := h3.f3.f2
      obtain ⟨m1, d1⟩ := h4.merge
      refine (printed_blk bb 13 (famFl w.heap.size fb cl su (scTxt xs) cr us ii ab gr ge tk st en co) w3 rfl (by omega) (fam_ok _ _ hrg (fun i v hv => kept_cell d1 (by rw [one_cell, List.getElem?_toArray]; exact hv)) (left_cell (one_cell _ _ _ 0))) hG.cons m1.f1).mono ?_
      rw [fam_printed _ _ hrg]
      rintro ev w' ⟨rfl, h⟩
      exact ⟨rfl, h.drop⟩
    clear h h1 h2 hG hm hrg hsc hr
    generalize famK id = x1 at *
    generalize famV cl su (scTxt xs) cr us ii ab gr ge tk st en co = x2 at *
    generalize scTxt xs = sT at *
    unfold famC at *
    go_enter Tryz.func28, Tryz.ntmps28
    go_wp2_with (first
      | (with_reducible refine (KM.out _ H3.out).mono ?_; clear H3; rintro ev w2 ⟨rfl, hc3, h⟩; have H3 := Lib.hid h; clear h)
      | (with_reducible refine (KS.out _ H3.out).mono ?_; clear H3; rintro ev w2 ⟨rfl, h⟩; have hc0 := (h.alloc (.cells #[.string sT] 9)).f2.cell 0; have H3 := Lib.hid (h.alloc (.cells #[.string sT] 9)); clear h; simp only [List.getElem?_toArray, List.getElem?_cons_zero] at hc0)
      | (with_reducible refine (HNUM.out _ _ H3.out).mono ?_; clear HNUM H3; rintro ev w2 ⟨rfl, h⟩; have H3 := Lib.hid h; clear h)
      | (with_reducible refine (familyfields_any _ _ _ H3.out).mono ?_; clear H3; rintro ev w2 ⟨bb, rfl, h⟩; have H3 := Lib.hid h; clear h)
      | (with_reducible refine (HP.out _ _ _ H3.out).mono ?_; clear H3 HP; rintro ev w2 ⟨rfl, h⟩; have H3 := Lib.hid h; clear h)
      | (with_reducible refine at_slot (k := none) ?_; refine wpList_store_whole (o := ⟨none, _, _, _, _, _⟩) (cs := [.string ⟨#[]⟩, .string ⟨#[]⟩]) (vs := [.string x1, .string x2]) H3.out rfl (pair_one x1 x2) (by kernel_rfl) rfl rfl rfl rfl ?_; clear H3; intro w7 h; have H9 := Lib.hid h; clear h))
    refine bodyPost_ret (results_ct rfl rfl H9.out hd hrow (by kernel_rfl)) rfl ?_
    exact ⟨by rw [HR.out]; rfl, H9.out.drop⟩
  · have HR : Hid (famR id cl su xs cr us ii ab gr ge tk st en co = (noB, noB, 140)) := Lib.hid (if_neg hm)
    have KM : Hid (∀ w3 : World, Own E w3 (Hp.blk (w.heap.size + 1) ITT #[.string ⟨#[]⟩, .string ⟨#[]⟩] :: Hp.blk w.heap.size FMT (famC id cl su A n c cr us ii ab gr ge tk st en co).toArray :: Hp.ro S :: L) → Calls Tryz.prog 81 #[.agg (famC id cl su A n c cr us ii ab gr ge tk st en co).toArray] w3 fun ev w' => ev = .returned (.bool false) ∧ Own E w' (Hp.blk (w.heap.size + 1) ITT #[.string ⟨#[]⟩, .string ⟨#[]⟩] :: Hp.blk w.heap.size FMT (famC id cl su A n c cr us ii ab gr ge tk st en co).toArray :: Hp.ro S :: L)) := Lib.hid fun w3 h3 => (familymay_any id cl su A n c cr us ii ab gr ge tk st en co xs w3 hr hnc hn43 (show Own E w3 (Hp.ro S :: Hp.blk (w.heap.size + 1) ITT #[.string ⟨#[]⟩, .string ⟨#[]⟩] :: Hp.blk w.heap.size FMT (famC id cl su A n c cr us ii ab gr ge tk st en co).toArray :: L) from h3.f2)).mono fun ev w' he => ⟨by rw [he.1, decide_eq_false hm], he.2.f2.f2⟩
    clear h h1 h2 hG hm hr
    unfold famC at *
    go_enter Tryz.func28, Tryz.ntmps28
    go_wp2_with (first
      | (with_reducible refine (KM.out _ H3.out).mono ?_; clear H3; rintro ev w2 ⟨rfl, h⟩; have H3 := Lib.hid h; clear h)
      | (with_reducible refine at_slot (k := none) ?_; refine wpList_store_whole (o := ⟨none, _, _, _, _, _⟩) (cs := [.string ⟨#[]⟩, .string ⟨#[]⟩]) (vs := [.string ⟨#[]⟩, .string ⟨#[]⟩]) H3.out rfl (pair_one ⟨#[]⟩ ⟨#[]⟩) (by kernel_rfl) rfl rfl rfl rfl ?_; clear H3; intro w7 h; have H8 := Lib.hid h; clear h))
    refine bodyPost_ret (results_ct rfl rfl H8.out hd hrow (by kernel_rfl)) rfl ?_
    exact ⟨by rw [HR.out]; rfl, H8.out.drop.drop⟩
end
end Go.Proofs.YtabibfabieghpaaGreatDoor
