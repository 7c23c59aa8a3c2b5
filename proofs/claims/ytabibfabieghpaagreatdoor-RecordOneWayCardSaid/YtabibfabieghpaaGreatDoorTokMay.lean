/- What tokens may be printed: record.tokenMay, the reference's TokenMay (printed by gen_tokmay.py). -/
import Derived.Test.YtabibfabieghpaaGreatDoorNote
namespace Go.Proofs.YtabibfabieghpaaGreatDoor
open Go.RowKit
def tokMay (a b c : Int) (s : ByteArray) (d : Int) (f : Bool) (e g : Int) (r : ByteArray) : Prop :=
  (1 ≤ a ∧ a ≤ 4611686018427387904) ∧ (1 ≤ b ∧ b ≤ 4611686018427387904) ∧ (1 ≤ c ∧ c ≤ 1073741824) ∧ s.size = 32 ∧ (0 ≤ d ∧ d ≤ 1099511627776) ∧
  ((f = true ∧ (0 ≤ e ∧ e ≤ 1099511627776) ∧ d ≤ e ∧ (1 ≤ g ∧ g ≤ 4611686018427387904) ∧ r.size = 24) ∨ (f = false ∧ e = 0 ∧ g = 0 ∧ r.size = 0))
instance (a b c : Int) (s : ByteArray) (d : Int) (f : Bool) (e g : Int) (r : ByteArray) : Decidable (tokMay a b c s d f e g r) := by unfold tokMay; exact inferInstance
abbrev TOKT : TypeId := 23
def tokC (a b c : Int) (s : ByteArray) (d : Int) (f : Bool) (e g : Int) (r : ByteArray) : List Value := [.int .i64 a, .int .i64 b, .int .i64 c, .string s, .int .i64 d, .bool f, .int .i64 e, .int .i64 g, .string r]
section
variable {E : World} {L : List Hp}
set_option maxRecDepth 20000 in
set_option maxHeartbeats 8000000 in
theorem tokenmay_any (a b c : Int) (s : ByteArray) (d : Int) (f : Bool) (e g : Int) (r : ByteArray) (w : World) (h : Own E w L) :
    Calls Tryz.prog 58 #[.agg (tokC a b c s d f e g r).toArray] w fun ev w' => ev = .returned (.bool (decide (tokMay a b c s d f e g r))) ∧ Own E w' L := by
  have H1 := Lib.hid (h.alloc (.cells (tokC a b c s d f e g r).toArray TOKT)).drop
  have k1 := fun w => isid_any a w
  have k2 := fun w => isid_any b w
  have k3 := fun w => isgen_any c w
  have k4 := fun w => isdigest_any s w
  have k5 := fun w => istime_any d w
  have k6 := fun w => istime_any e w
  have k7 := fun w => isid_any g w
  clear h
  cases f with
  | true =>
    have hiff : tokMay a b c s d true e g r ↔ ((1 ≤ a ∧ a ≤ 4611686018427387904) ∧ (1 ≤ b ∧ b ≤ 4611686018427387904) ∧ (1 ≤ c ∧ c ≤ 1073741824) ∧ s.size = 32 ∧ (0 ≤ d ∧ d ≤ 1099511627776) ∧ (0 ≤ e ∧ e ≤ 1099511627776) ∧ d ≤ e ∧ (1 ≤ g ∧ g ≤ 4611686018427387904) ∧ r.size = 24) := by
      unfold tokMay
      constructor
      · rintro ⟨h1, h2, h3, h4, h5, h6 | h6⟩
        · exact ⟨h1, h2, h3, h4, h5, h6.2⟩
        · exact absurd h6.1 (by decide)
      · rintro ⟨h1, h2, h3, h4, h5, h6⟩
        exact ⟨h1, h2, h3, h4, h5, .inl ⟨rfl, h6⟩⟩
    have HI := Lib.hid hiff
    clear hiff
    unfold tokC at *
    go_enter Tryz.func58, Tryz.ntmps58
    go_wp2_with (first
      | (with_reducible refine (k1 _).mono ?_; rintro ev w2 ⟨rfl, rfl⟩)
      | (with_reducible refine (k2 _).mono ?_; rintro ev w2 ⟨rfl, rfl⟩)
      | (with_reducible refine (k3 _).mono ?_; rintro ev w2 ⟨rfl, rfl⟩)
      | (with_reducible refine (k4 _).mono ?_; rintro ev w2 ⟨rfl, rfl⟩)
      | (with_reducible refine (k5 _).mono ?_; rintro ev w2 ⟨rfl, rfl⟩)
      | (with_reducible refine (k6 _).mono ?_; rintro ev w2 ⟨rfl, rfl⟩)
      | (with_reducible refine (k7 _).mono ?_; rintro ev w2 ⟨rfl, rfl⟩))
    all_goals go_ret
    all_goals
      refine ⟨(show Ending.returned (Value.bool _) = Ending.returned (Value.bool _) from ret_bool ?_), H1.out⟩
      rw [Bool.eq_iff_iff]
      refine Iff.trans ?_ (decide_eq_true_iff.trans HI.out).symm
      (first | omega | (simp <;> omega) | ((try simp only [Bool.not_eq_true'] at *); (try simp only [Bool.not_eq_false'] at *); (try simp only [decide_eq_true_eq] at *); (try simp only [decide_eq_false_iff_not] at *); (try simp only [bne_iff_ne] at *); (try simp only [ne_eq] at *); (try simp only [bne_eq_false_iff_eq] at *); first | omega | (simp <;> omega)))
  | false =>
    obtain ⟨en, hen⟩ : ∃ en : Int, e = 0 ↔ en = 0 := ⟨if e = 0 then 0 else 1, by split <;> simp_all⟩
    obtain ⟨gn, hgn⟩ : ∃ gn : Int, g = 0 ↔ gn = 0 := ⟨if g = 0 then 0 else 1, by split <;> simp_all⟩
    obtain ⟨rn, hrn⟩ : ∃ rn : Int, r.size = 0 ↔ rn = 0 := ⟨r.size, by omega⟩
    have ze : (e == 0) = decide (en = 0) := by rw [Bool.eq_iff_iff, beq_iff_eq, decide_eq_true_eq, hen]
    have zg : (g == 0) = decide (gn = 0) := by rw [Bool.eq_iff_iff, beq_iff_eq, decide_eq_true_eq, hgn]
    have zr : r.toList.isEmpty = decide (rn = 0) := by rw [isEmpty_size, decide_eq_decide]; exact hrn
    have hiff : tokMay a b c s d false e g r ↔ ((1 ≤ a ∧ a ≤ 4611686018427387904) ∧ (1 ≤ b ∧ b ≤ 4611686018427387904) ∧ (1 ≤ c ∧ c ≤ 1073741824) ∧ s.size = 32 ∧ (0 ≤ d ∧ d ≤ 1099511627776) ∧ en = 0 ∧ gn = 0 ∧ rn = 0) := by
      unfold tokMay
      rw [← hen, ← hgn, ← hrn]
      constructor
      · rintro ⟨h1, h2, h3, h4, h5, h6 | h6⟩
        · exact absurd h6.1 (by decide)
        · exact ⟨h1, h2, h3, h4, h5, h6.2⟩
      · rintro ⟨h1, h2, h3, h4, h5, h6⟩
        exact ⟨h1, h2, h3, h4, h5, .inr ⟨rfl, h6⟩⟩
    have HI := Lib.hid hiff
    clear hiff hen hgn hrn
    unfold tokC at *
    go_enter Tryz.func58, Tryz.ntmps58
    go_wp2_with (first
      | (with_reducible refine (k1 _).mono ?_; rintro ev w2 ⟨rfl, rfl⟩)
      | (with_reducible refine (k2 _).mono ?_; rintro ev w2 ⟨rfl, rfl⟩)
      | (with_reducible refine (k3 _).mono ?_; rintro ev w2 ⟨rfl, rfl⟩)
      | (with_reducible refine (k4 _).mono ?_; rintro ev w2 ⟨rfl, rfl⟩)
      | (with_reducible refine (k5 _).mono ?_; rintro ev w2 ⟨rfl, rfl⟩)
      | (with_reducible refine (k6 _).mono ?_; rintro ev w2 ⟨rfl, rfl⟩)
      | (with_reducible refine (k7 _).mono ?_; rintro ev w2 ⟨rfl, rfl⟩))
    all_goals go_ret
    all_goals
      refine ⟨(show Ending.returned (Value.bool _) = Ending.returned (Value.bool _) from ret_bool ?_), H1.out⟩
      rw [Bool.eq_iff_iff]
      refine Iff.trans ?_ (decide_eq_true_iff.trans HI.out).symm
      (first | omega | (simp <;> omega) | ((try simp only [Bool.not_eq_true'] at *); (try simp only [Bool.not_eq_false'] at *); (try simp only [decide_eq_true_eq] at *); (try simp only [decide_eq_false_iff_not] at *); (try simp only [bne_iff_ne] at *); (try simp only [ne_eq] at *); (try simp only [bne_eq_false_iff_eq] at *); first | omega | (simp <;> omega)))
set_option maxRecDepth 20000 in
set_option maxHeartbeats 8000000 in
theorem xtokenmay_any (a b c : Int) (s : ByteArray) (d : Int) (f : Bool) (e g : Int) (r : ByteArray) (w : World) (h : Own E w L) :
    Calls Tryz.prog 63 #[.agg (tokC a b c s d f e g r).toArray] w fun ev w' => ev = .returned (.bool (decide (tokMay a b c s d f e g r))) ∧ Own E w' L := by
  have H1 := Lib.hid (h.alloc (.cells (tokC a b c s d f e g r).toArray TOKT)).drop
  have k1 := fun w => xid_any a w
  have k2 := fun w => xid_any b w
  have k3 := fun w => xtime_any d w
  have k4 := fun w => xtime_any e w
  have k5 := fun w => xid_any g w
  clear h
  cases f with
  | true =>
    have hiff : tokMay a b c s d true e g r ↔ ((1 ≤ a ∧ a ≤ 4611686018427387904) ∧ (1 ≤ b ∧ b ≤ 4611686018427387904) ∧ (1 ≤ c ∧ c ≤ 1073741824) ∧ s.size = 32 ∧ (0 ≤ d ∧ d ≤ 1099511627776) ∧ (0 ≤ e ∧ e ≤ 1099511627776) ∧ d ≤ e ∧ (1 ≤ g ∧ g ≤ 4611686018427387904) ∧ r.size = 24) := by
      unfold tokMay
      constructor
      · rintro ⟨h1, h2, h3, h4, h5, h6 | h6⟩
        · exact ⟨h1, h2, h3, h4, h5, h6.2⟩
        · exact absurd h6.1 (by decide)
      · rintro ⟨h1, h2, h3, h4, h5, h6⟩
        exact ⟨h1, h2, h3, h4, h5, .inl ⟨rfl, h6⟩⟩
    have HI := Lib.hid hiff
    clear hiff
    unfold tokC at *
    go_enter Tryz.func63, Tryz.ntmps63
    go_wp2_with (first
      | (with_reducible refine (k1 _).mono ?_; rintro ev w2 ⟨rfl, rfl⟩)
      | (with_reducible refine (k2 _).mono ?_; rintro ev w2 ⟨rfl, rfl⟩)
      | (with_reducible refine (k3 _).mono ?_; rintro ev w2 ⟨rfl, rfl⟩)
      | (with_reducible refine (k4 _).mono ?_; rintro ev w2 ⟨rfl, rfl⟩)
      | (with_reducible refine (k5 _).mono ?_; rintro ev w2 ⟨rfl, rfl⟩))
    all_goals go_ret
    all_goals
      refine ⟨(show Ending.returned (Value.bool _) = Ending.returned (Value.bool _) from ret_bool ?_), H1.out⟩
      rw [Bool.eq_iff_iff]
      refine Iff.trans ?_ (decide_eq_true_iff.trans HI.out).symm
      (first | omega | (simp <;> omega) | ((try simp only [Bool.not_eq_true'] at *); (try simp only [Bool.not_eq_false'] at *); (try simp only [decide_eq_true_eq] at *); (try simp only [decide_eq_false_iff_not] at *); (try simp only [bne_iff_ne] at *); (try simp only [ne_eq] at *); (try simp only [bne_eq_false_iff_eq] at *); first | omega | (simp <;> omega)))
  | false =>
    obtain ⟨en, hen⟩ : ∃ en : Int, e = 0 ↔ en = 0 := ⟨if e = 0 then 0 else 1, by split <;> simp_all⟩
    obtain ⟨gn, hgn⟩ : ∃ gn : Int, g = 0 ↔ gn = 0 := ⟨if g = 0 then 0 else 1, by split <;> simp_all⟩
    obtain ⟨rn, hrn⟩ : ∃ rn : Int, r.size = 0 ↔ rn = 0 := ⟨r.size, by omega⟩
    have ze : (e == 0) = decide (en = 0) := by rw [Bool.eq_iff_iff, beq_iff_eq, decide_eq_true_eq, hen]
    have zg : (g == 0) = decide (gn = 0) := by rw [Bool.eq_iff_iff, beq_iff_eq, decide_eq_true_eq, hgn]
    have zr : r.toList.isEmpty = decide (rn = 0) := by rw [isEmpty_size, decide_eq_decide]; exact hrn
    have hiff : tokMay a b c s d false e g r ↔ ((1 ≤ a ∧ a ≤ 4611686018427387904) ∧ (1 ≤ b ∧ b ≤ 4611686018427387904) ∧ (1 ≤ c ∧ c ≤ 1073741824) ∧ s.size = 32 ∧ (0 ≤ d ∧ d ≤ 1099511627776) ∧ en = 0 ∧ gn = 0 ∧ rn = 0) := by
      unfold tokMay
      rw [← hen, ← hgn, ← hrn]
      constructor
      · rintro ⟨h1, h2, h3, h4, h5, h6 | h6⟩
        · exact absurd h6.1 (by decide)
        · exact ⟨h1, h2, h3, h4, h5, h6.2⟩
      · rintro ⟨h1, h2, h3, h4, h5, h6⟩
        exact ⟨h1, h2, h3, h4, h5, .inr ⟨rfl, h6⟩⟩
    have HI := Lib.hid hiff
    clear hiff hen hgn hrn
    unfold tokC at *
    go_enter Tryz.func63, Tryz.ntmps63
    go_wp2_with (first
      | (with_reducible refine (k1 _).mono ?_; rintro ev w2 ⟨rfl, rfl⟩)
      | (with_reducible refine (k2 _).mono ?_; rintro ev w2 ⟨rfl, rfl⟩)
      | (with_reducible refine (k3 _).mono ?_; rintro ev w2 ⟨rfl, rfl⟩)
      | (with_reducible refine (k4 _).mono ?_; rintro ev w2 ⟨rfl, rfl⟩)
      | (with_reducible refine (k5 _).mono ?_; rintro ev w2 ⟨rfl, rfl⟩))
    all_goals go_ret
    all_goals
      refine ⟨(show Ending.returned (Value.bool _) = Ending.returned (Value.bool _) from ret_bool ?_), H1.out⟩
      rw [Bool.eq_iff_iff]
      refine Iff.trans ?_ (decide_eq_true_iff.trans HI.out).symm
      (first | omega | (simp <;> omega) | ((try simp only [Bool.not_eq_true'] at *); (try simp only [Bool.not_eq_false'] at *); (try simp only [decide_eq_true_eq] at *); (try simp only [decide_eq_false_iff_not] at *); (try simp only [bne_iff_ne] at *); (try simp only [ne_eq] at *); (try simp only [bne_eq_false_iff_eq] at *); first | omega | (simp <;> omega)))
end
end Go.Proofs.YtabibfabieghpaaGreatDoor
