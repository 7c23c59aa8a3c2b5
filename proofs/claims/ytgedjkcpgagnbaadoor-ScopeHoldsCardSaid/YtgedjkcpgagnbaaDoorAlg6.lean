/- The algebra of scopes, in plain Lean. -/
import Derived.Test.YtgedjkcpgagnbaaDoorAwake6
namespace Go.Proofs.YtgedjkcpgagnbaaDoor
open Go.RowKit
theorem has_eq_true (x : ByteArray) (ys : List ByteArray) : (hasB x ys == true) = true ↔ x ∈ ys := by rw [← hasB_iff]; cases hasB x ys <;> simp
theorem has_eq_false (x : ByteArray) (ys : List ByteArray) : (hasB x ys == false) = true ↔ x ∉ ys := by rw [← hasB_false]; cases hasB x ys <;> simp
theorem mem_those {a b : List ByteArray} (h1 : scErr a = 0) (h2 : scErr b = 0) (x : ByteArray) : (x ∈ thoseV a b true ↔ x ∈ a ∧ x ∈ b) ∧ (x ∈ thoseV a b false ↔ x ∈ a ∧ x ∉ b) := by
  unfold thoseV
  rw [if_pos ⟨h1, h2⟩, if_pos ⟨h1, h2⟩, List.mem_filter, List.mem_filter, has_eq_true, has_eq_false]
  exact ⟨Iff.rfl, Iff.rfl⟩
theorem those_right {a b : List ByteArray} (W : Bool) (h1 : scErr a = 0) (h2 : scErr b = 0) : scErr (thoseV a b W) = 0 := by
  obtain ⟨hn, hr, hf⟩ := scErr_zero h1
  unfold thoseV
  rw [if_pos ⟨h1, h2⟩]
  exact scErr_of (List.all_eq_true.2 fun x hx => List.all_eq_true.1 hn x (List.mem_filter.1 hx).1) (List.Pairwise.sublist List.filter_sublist hr) (fit_sub hf)
theorem within_iff {a b : List ByteArray} (h1 : scErr a = 0) (h2 : scErr b = 0) : withinV a b = true ↔ ∀ x ∈ a, x ∈ b := by
  unfold withinV
  rw [decide_eq_true h1, decide_eq_true h2, Bool.true_and, Bool.true_and, List.all_eq_true]
  exact ⟨fun h x hx => (hasB_iff x b).1 (h x hx), fun h x hx => (hasB_iff x b).2 (h x hx)⟩
theorem right_rise {a : List ByteArray} (h : scErr a = 0) : Rise a := (scErr_zero h).2.1
theorem right_eq {a b : List ByteArray} (h1 : scErr a = 0) (h2 : scErr b = 0) (h : ∀ x, x ∈ a ↔ x ∈ b) : a = b := (right_rise h1).unique (right_rise h2) h
theorem right_perm {a b : List ByteArray} (h1 : a.Nodup) (h2 : b.Nodup) (h : ∀ x, x ∈ a ↔ x ∈ b) : a.length = b.length := (nodup_perm h1 h2 h).length_eq
theorem nodup_app {a b : List ByteArray} (h1 : a.Nodup) (h2 : b.Nodup) (h : ∀ x ∈ a, x ∉ b) : (a ++ b).Nodup := List.nodup_append.2 ⟨h1, h2, fun x hx _ hy e => h x hx (e ▸ hy)⟩
theorem few_len (l : List ByteArray) : (fewL l).length ≤ 8 := by
  unfold fewL
  split
  · rename_i h; exact ((fit_iff l).1 h).1
  · exact Nat.zero_le _
theorem join_small (a b : List ByteArray) : (joinV a b).1.length ≤ 8 := by
  unfold joinV
  split
  · exact few_len _
  · exact Nat.zero_le _
structure Alg (a b : List ByteArray) : Prop where
  comm : thoseV b a true = thoseV a b true
  whole : joinV (thoseV a b true) (thoseV a b false) = (a, 0)
  order : joinV b a = joinV a b
  code : (joinV a b).2 = 0 ∨ (joinV a b).2 = 61
  joined : (joinV a b).2 = 0 → withinV a (joinV a b).1 = true ∧ withinV b (joinV a b).1 = true ∧ thoseV (joinV a b).1 b false = thoseV a b false ∧ (joinV a b).1.length = b.length + (thoseV a b false).length ∧ (joinV a b).1.length ≤ 8
  left : withinV (thoseV a b true) a = true
  right : withinV (thoseV a b true) b = true
  none : thoseV (thoseV a b false) b true = []
  some : withinV a b = decide (((thoseV a b false).length : Int) = 0)
  len : (thoseV a b true).length + (thoseV a b false).length = a.length
theorem alg {a b : List ByteArray} (ha : scErr a = 0) (hb : scErr b = 0) : Alg a b := by
  have hm := those_right true ha hb
  have hn := those_right false ha hb
  have mm := fun x => (mem_those ha hb x).1
  have mn := fun x => (mem_those ha hb x).2
  have nm := (right_rise hm).nodup
  have nn := (right_rise hn).nodup
  have na := (right_rise ha).nodup
  have nb := (right_rise hb).nodup
  have hnames : ∀ {a b : List ByteArray}, scErr a = 0 → scErr b = 0 → (sortL (a ++ b)).all nameB = true := fun ha hb => names_sort (by rw [List.all_append, (right8 ha).2, (right8 hb).2]; rfl)
  have hs : sortL (thoseV a b true ++ thoseV a b false) = a := (rise_sortL _).unique (right_rise ha) fun x => by
    rw [mem_sortL, List.mem_append, mm, mn]
    by_cases h : x ∈ b <;> simp [h]
  have hcong : sortL (b ++ a) = sortL (a ++ b) := sortL_congr fun x => by rw [List.mem_append, List.mem_append, or_comm]
  refine ⟨?_, ?_, ?_, ?_, ?_, ?_, ?_, ?_, ?_, ?_⟩
  · exact right_eq (those_right true hb ha) hm fun x => by rw [(mem_those hb ha x).1, mm, and_comm]
  · unfold joinV
    rw [if_pos ⟨hm, hn⟩, hs]
    unfold fewL manyE
    rw [if_pos (scErr_zero ha).2.2, if_pos (scErr_zero ha).2.2]
  · unfold joinV
    rw [if_pos ⟨hb, ha⟩, if_pos ⟨ha, hb⟩, hcong]
  · unfold joinV
    rw [if_pos ⟨ha, hb⟩]
    rcases manyE_cases (sortL (a ++ b)) with ⟨h, -⟩ | ⟨h, -⟩
    · exact .inl h
    · exact .inr h
  · intro h0
    unfold joinV at h0 ⊢
    rw [if_pos ⟨ha, hb⟩] at h0 ⊢
    have h0 : manyE (sortL (a ++ b)) = 0 := h0
    show withinV a (fewL (sortL (a ++ b))) = true ∧ withinV b (fewL (sortL (a ++ b))) = true ∧ thoseV (fewL (sortL (a ++ b))) b false = thoseV a b false ∧ (fewL (sortL (a ++ b))).length = _ ∧ _
    rcases manyE_cases (sortL (a ++ b)) with ⟨-, h2⟩ | ⟨h2, -⟩
    · rw [h2]
      have hx : scErr (sortL (a ++ b)) = 0 := by rw [scErr_rise (hnames ha hb) (rise_sortL _)]; exact h0
      have mx : ∀ x, x ∈ sortL (a ++ b) ↔ x ∈ a ∨ x ∈ b := fun x => by rw [mem_sortL, List.mem_append]
      refine ⟨(within_iff ha hx).2 fun x h => (mx x).2 (.inl h), (within_iff hb hx).2 fun x h => (mx x).2 (.inr h), ?_, ?_, (right8 hx).1⟩
      · refine right_eq (those_right false hx hb) hn fun x => ?_
        rw [(mem_those hx hb x).2, mn, mx]
        constructor
        · rintro ⟨h | h, h3⟩
          · exact ⟨h, h3⟩
          · exact absurd h h3
        · rintro ⟨h, h3⟩
          exact ⟨.inl h, h3⟩
      · rw [← List.length_append]
        refine right_perm (rise_sortL _).nodup (nodup_app nb nn fun x h1 h2 => ((mn x).1 h2).2 h1) fun x => ?_
        rw [mx, List.mem_append, mn]
        by_cases h : x ∈ b <;> simp [h]
    · rw [h0] at h2; cases h2
  · exact (within_iff hm ha).2 fun x h => ((mm x).1 h).1
  · exact (within_iff hm hb).2 fun x h => ((mm x).1 h).2
  · refine List.eq_nil_iff_forall_not_mem.2 fun x hx => ?_
    have h1 := (mem_those hn hb x).1.1 hx
    exact ((mn x).1 h1.1).2 h1.2
  · exact (within_len ha hb).symm
  · rw [← List.length_append]
    refine right_perm (nodup_app nm nn fun x h1 h2 => ((mn x).1 h2).2 ((mm x).1 h1).2) na fun x => ?_
    rw [List.mem_append, mm, mn]
    by_cases h : x ∈ b <;> simp [h]
end Go.Proofs.YtgedjkcpgagnbaaDoor
