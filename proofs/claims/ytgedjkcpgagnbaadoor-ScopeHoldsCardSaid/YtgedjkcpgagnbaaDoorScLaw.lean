/- Scopes in plain Lean: what is printed is parsed back; what was parsed is a scope. -/
import Derived.Test.YtgedjkcpgagnbaaDoorTells
namespace Go.Proofs.YtgedjkcpgagnbaaDoor
open Go.RowKit
theorem join_len (xs : List ByteArray) : (joinL xs).length + 1 = (if xs = [] then 1 else bytesL xs) := by
  cases xs with
  | nil => rfl
  | cons x r =>
    rw [if_neg (by simp)]
    show (x.data.toList ++ r.flatMap fun y => 32 :: y.data.toList).length + 1 = (x.size + 1) + (r.map fun s => s.size + 1).sum
    have h : ∀ r : List ByteArray, (r.flatMap fun y => 32 :: y.data.toList).length = (r.map fun s => s.size + 1).sum := fun r => by
      induction r with
      | nil => rfl
      | cons y r ih => rw [List.flatMap_cons, List.length_append, ih, List.map_cons, List.sum_cons]; rfl
    rw [List.length_append, h r]
    show x.size + _ + 1 = _
    omega
theorem fit_iff (xs : List ByteArray) : fitL xs = true ↔ xs.length ≤ 8 ∧ (joinL xs).length ≤ 60 := by
  have h := join_len xs
  unfold fitL
  simp only [Bool.and_eq_true, decide_eq_true_eq]
  by_cases e : xs = []
  · subst e; simp [bytesL, joinL]
  · rw [if_neg e] at h
    omega
/-- Names that rise: a scope, if they fit. -/
theorem scErr_rise {xs : List ByteArray} (hn : xs.all nameB = true) (hr : Rise xs) : scErr xs = manyE xs := by
  have e : scOk xs = true := by unfold scOk; rw [hn, rise_risesB hr]; rfl
  unfold scErr manyE
  rw [if_pos e]
  by_cases hf : fitL xs = true
  · rw [if_pos hf, if_pos ((fit_iff xs).1 hf)]
  · rw [if_neg hf, if_neg (fun h => hf ((fit_iff xs).2 h))]
theorem scErr_zero {xs : List ByteArray} (h : scErr xs = 0) : xs.all nameB = true ∧ Rise xs ∧ fitL xs = true := by
  unfold scErr at h
  split at h
  · rename_i hok
    unfold scOk at hok
    rw [Bool.and_eq_true] at hok
    split at h
    · rename_i hf
      exact ⟨hok.1, risesB_rise hok.2, (fit_iff xs).2 hf⟩
    · cases h
  · cases h
theorem scErr_of {xs : List ByteArray} (hn : xs.all nameB = true) (hr : Rise xs) (hf : fitL xs = true) : scErr xs = 0 := by
  rw [scErr_rise hn hr]; unfold manyE; rw [if_pos hf]
theorem ok_not_space {c : UInt8} (h : okC c = true) : c ≠ 32 := by rintro rfl; revert h; decide
theorem name_no_space {s : ByteArray} (h : nameB s = true) : ∀ c ∈ s.data.toList, c ≠ 32 := by
  unfold nameB at h
  simp only [Bool.and_eq_true] at h
  exact fun c hc => ok_not_space (List.all_eq_true.1 h.1.1 c hc)
theorem cut_join : ∀ {xs : List ByteArray}, xs ≠ [] → xs.all nameB = true → cutL (joinL xs) = xs.map fun s => s.data.toList
  | [], h, _ => absurd rfl h
  | [x], _, hn => by
    show cutL (x.data.toList ++ []) = _
    rw [List.append_nil]
    exact cutL_whole (name_no_space (List.all_eq_true.1 hn x (List.mem_cons_self ..)))
  | x :: y :: r, _, hn => by
    have h1 := List.all_eq_true.1 hn
    show cutL (x.data.toList ++ 32 :: (y.data.toList ++ r.flatMap fun y => 32 :: y.data.toList)) = _
    rw [cutL_hit _ (name_no_space (h1 x (List.mem_cons_self ..)))]
    have ih := cut_join (xs := y :: r) (by simp) (List.all_eq_true.2 fun z hz => h1 z (List.mem_cons_of_mem _ hz))
    have ih' : cutL (y.data.toList ++ r.flatMap fun y => 32 :: y.data.toList) = (y :: r).map fun s => s.data.toList := ih
    rw [ih']
    rfl
theorem name_pos {s : ByteArray} (h : nameB s = true) : 0 < s.size := by
  unfold nameB at h
  simp only [Bool.and_eq_true, decide_eq_true_eq] at h
  exact h.1.2
/-- Parse of Print. -/
theorem parse_print {xs : List ByteArray} (h : scErr xs = 0) : parseV (scTxt xs) = (xs, 0) := by
  obtain ⟨hn, hr, hf⟩ := scErr_zero h
  have e : scTxt xs = ⟨(joinL xs).toArray⟩ := by unfold scTxt; rw [if_pos h]
  rw [e]
  by_cases h0 : xs = []
  · subst h0; rfl
  · have hp : pieces ⟨(joinL xs).toArray⟩ = xs := pieces_of (cut_join h0 hn)
    have hs : (⟨(joinL xs).toArray⟩ : ByteArray).size ≠ 0 := by
      obtain ⟨x, r, rfl⟩ := List.exists_cons_of_ne_nil h0
      have := name_pos (List.all_eq_true.1 hn x (List.mem_cons_self ..))
      show (x.data.toList ++ _).toArray.size ≠ 0
      have h2 : x.data.toList.length = x.size := rfl
      simp only [List.size_toArray, List.length_append, h2]
      omega
    unfold parseV
    rw [if_neg hs, hp, if_pos hn, sortL_of_rise hr]
    unfold fewL manyE
    rw [if_pos hf, if_pos hf]
theorem names_sort {xs : List ByteArray} (hn : xs.all nameB = true) : (sortL xs).all nameB = true := List.all_eq_true.2 fun x hx => List.all_eq_true.1 hn x ((mem_sortL x xs).1 hx)
/-- What was parsed is a scope, or nothing. -/
theorem parse_right (s : ByteArray) : ((parseV s).2 = 0 ∧ scErr (parseV s).1 = 0) ∨ ((parseV s).1 = [] ∧ ((parseV s).2 = 60 ∨ (parseV s).2 = 61)) := by
  unfold parseV
  split
  · exact .inl ⟨rfl, rfl⟩
  · split
    · rename_i hn
      rcases manyE_cases (sortL (pieces s)) with ⟨h1, h2⟩ | ⟨h1, h2⟩
      · left
        show manyE _ = 0 ∧ scErr (fewL _) = 0
        rw [h1, h2]
        exact ⟨rfl, by rw [scErr_rise (names_sort hn) (rise_sortL _)]; exact h1⟩
      · right
        show fewL _ = [] ∧ (manyE _ = 60 ∨ manyE _ = 61)
        rw [h1, h2]
        exact ⟨rfl, .inr rfl⟩
    · exact .inr ⟨rfl, .inl rfl⟩
theorem scErr_cases (xs : List ByteArray) : scErr xs = 0 ∨ scErr xs = 60 ∨ scErr xs = 61 := by
  unfold scErr
  split
  · split
    · exact .inl rfl
    · exact .inr (.inr rfl)
  · exact .inr (.inl rfl)
end Go.Proofs.YtgedjkcpgagnbaaDoor
