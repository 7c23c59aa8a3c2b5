/- Texts as a rising list without doubles, in plain Lean: how a name is laid into it, and that the list is fixed by what stands in it. -/
import Derived.Test.YtgedjkcpgagnbaaDoorOrd
namespace Go.Proofs.YtgedjkcpgagnbaaDoor
open Go.RowKit
/-- Each below all behind it. -/
def Rise (l : List ByteArray) : Prop := l.Pairwise fun a b => slt a b = true
theorem rise_risesB {l : List ByteArray} (h : Rise l) : risesB l = true := by
  refine (risesB_iff l).2 fun i a b ha hb => ?_
  have h1 := (List.pairwise_iff_getElem.1 h) i (i + 1) (List.getElem?_eq_some_iff.1 ha).1 (List.getElem?_eq_some_iff.1 hb).1 (by omega)
  rw [(List.getElem?_eq_some_iff.1 ha).2, (List.getElem?_eq_some_iff.1 hb).2] at h1
  exact h1
theorem risesB_rise {l : List ByteArray} (h : risesB l = true) : Rise l := by
  refine List.pairwise_iff_getElem.2 fun i j hi hj hij => ?_
  exact rises_lt h (j - i - 1) i _ _ (List.getElem?_eq_getElem hi) (by rw [show i + (j - i - 1) + 1 = j by omega]; exact List.getElem?_eq_getElem hj)
theorem Rise.nodup {l : List ByteArray} (h : Rise l) : l.Nodup := h.imp fun {a b} h e => by
  subst e; rw [slt_irrefl] at h; cases h
/-- Two rising lists with the same members are one. -/
theorem Rise.unique : ∀ {l m : List ByteArray}, Rise l → Rise m → (∀ x, x ∈ l ↔ x ∈ m) → l = m
  | [], [], _, _, _ => rfl
  | [], b :: m, _, _, h => absurd ((h b).2 (List.mem_cons_self ..)) (by simp)
  | a :: l, [], _, _, h => absurd ((h a).1 (List.mem_cons_self ..)) (by simp)
  | a :: l, b :: m, h1, h2, h => by
    obtain ⟨p1, p2⟩ := List.pairwise_cons.1 h1
    obtain ⟨q1, q2⟩ := List.pairwise_cons.1 h2
    have hab : a = b := by
      rcases List.mem_cons.1 ((h a).1 (List.mem_cons_self ..)) with e | e
      · exact e
      · rcases List.mem_cons.1 ((h b).2 (List.mem_cons_self ..)) with e2 | e2
        · exact e2.symm
        · exact absurd (slt_asymm (p1 b e2)) (by rw [q1 a e]; decide)
    subst hab
    rw [Rise.unique p2 q2 fun x => ?_]
    constructor
    · intro hx
      rcases List.mem_cons.1 ((h x).1 (List.mem_cons_of_mem _ hx)) with e | e
      · subst e; have := p1 x hx; rw [slt_irrefl] at this; cases this
      · exact e
    · intro hx
      rcases List.mem_cons.1 ((h x).2 (List.mem_cons_of_mem _ hx)) with e | e
      · subst e; have := q1 x hx; rw [slt_irrefl] at this; cases this
      · exact e
/-- A name more, at its place, if it is not there. -/
def insL (s : ByteArray) : List ByteArray → List ByteArray
  | [] => [s]
  | a :: l => if slt a s then a :: insL s l else if slt s a then s :: a :: l else a :: l
theorem mem_insL (s x : ByteArray) : ∀ l : List ByteArray, x ∈ insL s l ↔ x = s ∨ x ∈ l
  | [] => by simp [insL]
  | a :: l => by
    unfold insL
    split
    · rw [List.mem_cons, mem_insL s x l, List.mem_cons]
      constructor <;> (rintro (h | h | h) <;> simp [h])
    · split
      · rw [List.mem_cons]
      · rename_i h1 h2
        rcases slt_tri a s with ⟨h, -⟩ | ⟨-, -, rfl, -⟩ | ⟨-, h, -⟩
        · exact absurd h h1
        · rw [List.mem_cons]
          constructor
          · exact .inr
          · rintro (h | h)
            · exact .inl h
            · exact h
        · exact absurd h h2
theorem Rise.insL (s : ByteArray) : ∀ {l : List ByteArray}, Rise l → Rise (insL s l)
  | [], _ => List.pairwise_singleton ..
  | a :: l, h => by
    obtain ⟨p1, p2⟩ := List.pairwise_cons.1 h
    unfold Go.Proofs.YtgedjkcpgagnbaaDoor.insL
    split
    · rename_i h1
      refine List.pairwise_cons.2 ⟨fun b hb => ?_, Rise.insL s p2⟩
      rcases (mem_insL s b l).1 hb with rfl | hb
      · exact h1
      · exact p1 b hb
    · split
      · rename_i h1 h2
        refine List.pairwise_cons.2 ⟨fun b hb => ?_, h⟩
        rcases List.mem_cons.1 hb with rfl | hb
        · exact h2
        · exact slt_trans h2 (p1 b hb)
      · exact h
/-- The members of a list, rising. -/
def sortL (xs : List ByteArray) : List ByteArray := xs.foldl (fun l s => insL s l) []
theorem mem_sortFold (x : ByteArray) : ∀ xs l : List ByteArray, x ∈ xs.foldl (fun l s => insL s l) l ↔ x ∈ l ∨ x ∈ xs
  | [], l => by simp
  | a :: xs, l => by
    rw [List.foldl_cons, mem_sortFold x xs, mem_insL, List.mem_cons]
    constructor
    · rintro ((h | h) | h)
      · exact .inr (.inl h)
      · exact .inl h
      · exact .inr (.inr h)
    · rintro (h | h | h)
      · exact .inl (.inr h)
      · exact .inl (.inl h)
      · exact .inr h
theorem rise_sortFold : ∀ (xs l : List ByteArray), Rise l → Rise (xs.foldl (fun l s => insL s l) l)
  | [], _, h => h
  | a :: xs, _, h => rise_sortFold xs _ (h.insL a)
theorem mem_sortL (x : ByteArray) (xs : List ByteArray) : x ∈ sortL xs ↔ x ∈ xs := by unfold sortL; rw [mem_sortFold]; simp
theorem rise_sortL (xs : List ByteArray) : Rise (sortL xs) := rise_sortFold xs [] List.Pairwise.nil
theorem sortL_of_rise {xs : List ByteArray} (h : Rise xs) : sortL xs = xs := (rise_sortL xs).unique h fun x => mem_sortL x xs
theorem sortL_congr {xs ys : List ByteArray} (h : ∀ x, x ∈ xs ↔ x ∈ ys) : sortL xs = sortL ys := (rise_sortL xs).unique (rise_sortL ys) fun x => by rw [mem_sortL, mem_sortL, h]
theorem length_insL (s : ByteArray) : ∀ l : List ByteArray, (insL s l).length ≤ l.length + 1
  | [] => by simp [insL]
  | a :: l => by
    have := length_insL s l
    unfold insL
    split
    · simp only [List.length_cons]; omega
    · split <;> simp
theorem length_sortFold : ∀ (xs l : List ByteArray), (xs.foldl (fun l s => insL s l) l).length ≤ l.length + xs.length
  | [], _ => by simp
  | a :: xs, l => by
    have h1 := length_sortFold xs (insL a l)
    have h2 := length_insL a l
    rw [List.foldl_cons, List.length_cons]
    omega
theorem length_sortL (xs : List ByteArray) : (sortL xs).length ≤ xs.length := by have := length_sortFold xs []; unfold sortL; simpa using this
/-- Two lists without doubles with the same members are as long as one another. -/
theorem nodup_perm {l m : List ByteArray} (h1 : l.Nodup) (h2 : m.Nodup) (h : ∀ x, x ∈ l ↔ x ∈ m) : l.Perm m := (List.perm_ext_iff_of_nodup h1 h2).2 h
/-- Go's order of texts is Lean's of their bytes. -/
theorem bytesLess_iff : ∀ a b : List UInt8, Op.bytesLess a b = true ↔ a < b
  | [], [] => by simp [Op.bytesLess]
  | [], _ :: _ => by simp [Op.bytesLess]
  | _ :: _, [] => by simp [Op.bytesLess]
  | a :: x, b :: y => by
    simp only [Op.bytesLess, Bool.or_eq_true, decide_eq_true_eq, Bool.and_eq_true, beq_iff_eq, List.cons_lt_cons_iff, bytesLess_iff x y]
theorem slt_iff (a b : ByteArray) : slt a b = true ↔ a.data.toList < b.data.toList := bytesLess_iff ..
/-- What is sorted by the library is the rising list of its members. -/
theorem mergeSort_eq {l : List ByteArray} (hd : l.Nodup) : ((l.map fun s => s.data.toList).mergeSort fun x y => decide (x ≤ y)) = (sortL l).map fun s => s.data.toList := by
  have hp := List.mergeSort_perm (l.map fun s => s.data.toList) (fun x y => decide (x ≤ y))
  have hs := List.pairwise_mergeSort (le := fun x y : List UInt8 => decide (x ≤ y)) (fun a b c h1 h2 => by
    simp only [decide_eq_true_eq] at h1 h2 ⊢; exact List.le_trans h1 h2) (fun a b => by
    simp only [Bool.or_eq_true, decide_eq_true_eq]; exact List.le_total a b) (l.map fun s => s.data.toList)
  have hmap : ((l.map fun s => s.data.toList).mergeSort fun x y => decide (x ≤ y)) = (((l.map fun s => s.data.toList).mergeSort fun x y => decide (x ≤ y)).map fun b => (⟨b.toArray⟩ : ByteArray)).map fun s => s.data.toList := by
    rw [List.map_map]
    have e : ((fun s : ByteArray => s.data.toList) ∘ fun b : List UInt8 => (⟨b.toArray⟩ : ByteArray)) = id := by funext b; simp
    rw [e, List.map_id]
  generalize hL : (((l.map fun s => s.data.toList).mergeSort fun x y => decide (x ≤ y)).map fun b => (⟨b.toArray⟩ : ByteArray)) = L at hmap
  rw [hmap]
  have hmem : ∀ x, x ∈ L ↔ x ∈ l := fun x => by
    rw [← hL]
    constructor
    · intro hx
      obtain ⟨b, hb, rfl⟩ := List.mem_map.1 hx
      obtain ⟨s, hs, rfl⟩ := List.mem_map.1 (hp.mem_iff.1 hb)
      exact hs
    · intro hx
      exact List.mem_map.2 ⟨x.data.toList, hp.mem_iff.2 (List.mem_map.2 ⟨x, hx, rfl⟩), rfl⟩
  have hnd : L.Nodup := by
    have h1 : L.Perm l := by
      rw [← hL]
      have h2 := hp.map fun b : List UInt8 => (⟨b.toArray⟩ : ByteArray)
      rw [List.map_map] at h2
      have e : ((fun b : List UInt8 => (⟨b.toArray⟩ : ByteArray)) ∘ fun s : ByteArray => s.data.toList) = id := by funext b; rfl
      rw [e, List.map_id] at h2
      exact h2
    exact h1.nodup_iff.2 hd
  have hr : Rise L := by
    rw [hmap, List.pairwise_map] at hs
    refine (hs.and hnd).imp fun {a b} h => ?_
    obtain ⟨h1, h2⟩ := h
    simp only [decide_eq_true_eq] at h1
    rcases slt_tri a b with ⟨h, -⟩ | ⟨-, -, e, -⟩ | ⟨-, h, -⟩
    · exact h
    · exact absurd e h2
    · exact absurd ((slt_iff b a).1 h) (List.not_lt.2 h1)
  rw [hr.unique (rise_sortL l) fun x => by rw [hmem, mem_sortL]]
end Go.Proofs.YtgedjkcpgagnbaaDoor
