/- A map among the parts of memory. A loop over a map, among the parts of memory: the map's block and the iterator's. No program in sight. Texts as a rising list without doubles, in plain Lean: how a name is laid into it, and that the list is fixed by what stands in it. Owned lists: append tells whether the list stays where it is; a cell is written over; families of owned lists. No program in sight. What the library's sort leaves behind, among the parts of memory. No program in sight. A text cut at its spaces, in plain Lean. -/
import Derived.Test.YtabibfabieghpaaGreatDoorSl
import Derived.Maps.OwnSet
import Derived.Maps.RangeWalk
import Derived.Sort.KeysCollected
import Derived.Test.YtabibfabieghpaaGreatDoorOrd
import Derived.Test.YtabibfabieghpaaGreatDoorLst
import Derived.Sort.Grow
import Derived.Sort.EncStr
import Derived.Lib.Split
import Derived.Lib.IndexBytes
import Derived.Lib.SplitLaws
import Derived.Lib.IndexLaws
namespace Go.Proofs.YtabibfabieghpaaGreatDoor
open Go.RowKit Go.Maps
open Go.WideElems (Fit rg)
section
variable {P : Program} {K : TypeId} {R : Value → Option (DataW Unit × List MemPlace)}
/-- A map of at most n entries that reads as D. -/
def Hp.mp (P : Program) (K : TypeId) (R : Value → Option (DataW Unit × List MemPlace)) (b n : Nat) (D : DataW Unit) : Hp := fun h =>
  ∃ es clock, Hp.obj b (.map es clock) h ∧ Fit P K R es clock ∧ es.size ≤ n ∧ D = .map ((es.toList.map (rg P K R)).foldr DataW.insert [])
theorem Own.mp_obj {E w : World} {L : List Hp} {b n : Nat} {D : DataW Unit} (h : Own E w (Hp.mp P K R b n D :: L)) :
    ∃ es clock, Fit P K R es clock ∧ es.size ≤ n ∧ D = .map ((es.toList.map (rg P K R)).foldr DataW.insert []) ∧ Own E w (Hp.obj b (.map es clock) :: L) := by
  obtain ⟨h1, h2, h3, y, hx, a, c, hd, rfl, ⟨es, clock, ho, f1, f2, f3⟩, hL⟩ := h
  exact ⟨es, clock, f1, f2, f3, h1, h2, h3, _, hx, a, c, hd, rfl, ho, hL⟩
theorem Own.mpOwns {E w : World} {L : List Hp} {b n : Nat} {D : DataW Unit} (h : Own E w (Hp.mp P K R b n D :: L)) : w.ownsMap P K R b n D := by
  obtain ⟨es, clock, f1, f2, f3, ho⟩ := h.mp_obj
  exact ⟨es, clock, ho.at_, f1, f2, f3⟩
theorem Own.mpTurn {E w w' : World} {L : List Hp} {b n n' : Nat} {D D' : DataW Unit} (h : Own E w (Hp.mp P K R b n D :: L)) (h2 : w'.ownsMap P K R b n' D') (hg : w.grownBy w' (some b)) :
    Own E w' (Hp.mp P K R b n' D' :: L) := by
  obtain ⟨es, clock, f1, f2, f3, ho⟩ := h.mp_obj
  obtain ⟨es', clock', hb', g1, g2, g3⟩ := h2
  have h5 := ho.turn (o' := .map es' clock') hg.os hg.tape hg.output hb' (fun k hk hne => hg.block k hk (fun e => hne (Option.some.inj e)))
  exact h5.imp fun _ hx => ⟨es', clock', hx, g1, g2, g3⟩
theorem Own.mpMade {E w : World} {L : List Hp} (h : Own E w L) : Own E (w.alloc (.map #[] 0)) (Hp.mp P K R w.heap.size 0 (.map []) :: L) := by
  have h1 := h.alloc (.map #[] 0)
  obtain ⟨es, clock, hb, f1, f2, f3⟩ := World.ownsMap_made w P K R
  have e : (.map #[] 0 : Obj) = .map es clock := Option.some.inj (h1.at_.symm.trans hb)
  rw [e] at h1 ⊢
  exact h1.imp fun _ hx => ⟨es, clock, hx, f1, f2, f3⟩
end
end Go.Proofs.YtabibfabieghpaaGreatDoor
namespace Go.Proofs.YtabibfabieghpaaGreatDoor
open Go.RowKit Go.Maps Go.ChangeMaps Go.MapKept
open Go.WideElems (Fit rg)
section
variable {P : Program} {K : TypeId} {R : Value → Option (DataW Unit × List MemPlace)}
/-- A map (block b) over which a loop goes (its iterator: block r). -/
def Hp.rng (P : Program) (K : TypeId) (R : Value → Option (DataW Unit × List MemPlace)) (b r n : Nat) (D : DataW Unit) (left : Lit → Bool) (cnt : Nat) : Hp := fun h =>
  ∃ es clock since seen c0, Hp.sep (Hp.obj b (.map es clock)) (Hp.obj r (.mapIter (some b) since seen c0)) h ∧ Fit P K R es clock ∧ es.size ≤ n ∧ D = .map ((es.toList.map (rg P K R)).foldr DataW.insert []) ∧
    (∀ x ∈ es.toList, x.born < since) ∧ (leftOf es seen).size = cnt ∧
    (∀ x ∈ es.toList, left (rg P K R x).1 = !seen.contains x.born) ∧ (∀ kl, left kl = true → ∃ x ∈ es.toList, (rg P K R x).1 = kl) ∧ since ≤ c0 ∧ since ≤ clock
theorem Own.sepTwo {E w : World} {A B : Hp} {L : List Hp} : Own E w (Hp.sep A B :: L) ↔ Own E w (A :: B :: L) := by
  unfold Own
  simp only [Hp.all, Hp.sep_assoc]
theorem Own.rngObj {E w : World} {L : List Hp} {b r n cnt : Nat} {D : DataW Unit} {left : Lit → Bool} (h : Own E w (Hp.rng P K R b r n D left cnt :: L)) :
    ∃ es clock since seen c0, Fit P K R es clock ∧ es.size ≤ n ∧ D = .map ((es.toList.map (rg P K R)).foldr DataW.insert []) ∧
    (∀ x ∈ es.toList, x.born < since) ∧ (leftOf es seen).size = cnt ∧
    (∀ x ∈ es.toList, left (rg P K R x).1 = !seen.contains x.born) ∧ (∀ kl, left kl = true → ∃ x ∈ es.toList, (rg P K R x).1 = kl) ∧ since ≤ c0 ∧ since ≤ clock ∧
    Own E w (Hp.obj b (.map es clock) :: Hp.obj r (.mapIter (some b) since seen c0) :: L) := by
  obtain ⟨h1, h2, h3, y, hx, a, c, hd, rfl, ⟨es, clock, since, seen, c0, ho, f1, f2, f3, f4, f5, f6, f7, f8, f9⟩, hL⟩ := h
  exact ⟨es, clock, since, seen, c0, f1, f2, f3, f4, f5, f6, f7, f8, f9, Own.sepTwo.1 ⟨h1, h2, h3, _, hx, a, c, hd, rfl, ho, hL⟩⟩
theorem Own.ranges {E w : World} {L : List Hp} {b r n cnt : Nat} {D : DataW Unit} {left : Lit → Bool} (h : Own E w (Hp.rng P K R b r n D left cnt :: L)) : w.ranges P K R b r n D left cnt := by
  obtain ⟨es, clock, since, seen, c0, f1, f2, f3, f4, f5, f6, f7, f8, f9, ho⟩ := h.rngObj
  exact ⟨es, clock, since, seen, c0, ho.at_, f1, f2, f3, ho.f1.at_, f4, f5, f6, f7, f8, f9⟩
/-- Behind the loop: the map again. -/
theorem Own.rngMap {E w : World} {L : List Hp} {b r n cnt : Nat} {D : DataW Unit} {left : Lit → Bool} (h : Own E w (Hp.rng P K R b r n D left cnt :: L)) : Own E w (Hp.mp P K R b n D :: L) := by
  obtain ⟨es, clock, since, seen, c0, f1, f2, f3, f4, f5, f6, f7, f8, f9, ho⟩ := h.rngObj
  exact ho.f1.drop.imp fun _ hx => ⟨es, clock, hx, f1, f2, f3⟩
/-- The step of the iterator. -/
theorem Own.rngStep {E w w' : World} {L : List Hp} {b r n cnt cnt' : Nat} {D : DataW Unit} {left left' : Lit → Bool} (h : Own E w (Hp.rng P K R b r n D left cnt :: L)) (h2 : w'.ranges P K R b r n D left' cnt') (hg : w.grownBy w' (some r)) :
    Own E w' (Hp.rng P K R b r n D left' cnt' :: L) := by
  obtain ⟨es, clock, since, seen, c0, f1, f2, f3, f4, f5, f6, f7, f8, f9, ho⟩ := h.rngObj
  obtain ⟨es', clock', since', seen', c0', hb', g1, g2, g3, hr', g4, g5, g6, g7, g8, g9⟩ := h2
  have hne : b ≠ r := ho.ne
  have e1 := (hg.block b ho.lt (fun e => hne (Option.some.inj e))).symm.trans hb'
  rw [ho.at_] at e1
  obtain ⟨e2, e3⟩ := Obj.map.inj (Option.some.inj e1)
  subst e2 e3
  have h5 := ho.f1.turn (o' := .mapIter (some b) since' seen' c0') hg.os hg.tape hg.output hr' (fun k hk hne => hg.block k hk (fun e => hne (Option.some.inj e)))
  exact (Own.sepTwo.2 h5.f1).imp fun _ hx => ⟨es, clock, since', seen', c0', hx, g1, g2, g3, g4, g5, g6, g7, g8, g9⟩
/-- A block more, behind all that was there. -/
theorem Own.grown1 {E w w' : World} {L : List Hp} {o : Obj} (h : Own E w L) (hg : w.grownBy w' none) (ho : w'.heap[w.heap.size]? = some o) : Own E w' (Hp.obj w.heap.size o :: L) := by
  obtain ⟨h1, h2, h3, x, hx, hL⟩ := h
  have hlt : ∀ k u, x k = some u → k < w.heap.size := fun k u hk => (Array.getElem?_eq_some_iff.1 (hx k u hk)).1
  refine ⟨hg.os.trans h1, hg.tape.trans h2, hg.output.trans h3, Ph.join (Ph.one w.heap.size o) x, fun k u hk => ?_, Ph.one w.heap.size o, x, fun k => ?_, rfl, rfl, hL⟩
  · unfold Ph.join Ph.one at hk
    by_cases e : k = w.heap.size
    · subst e
      simp at hk
      rw [← hk, ho]
    · rw [if_neg e] at hk
      simp at hk
      rw [hg.block k (hlt k u hk) (by simp), hx k u hk]
  · unfold Ph.one
    by_cases e : k = w.heap.size
    · right
      cases e2 : x k with
      | none => rfl
      | some u => have := hlt k u e2; omega
    · exact .inl (if_neg e)
/-- 'range m'. -/
theorem Own.rngStart {E w w' : World} {L : List Hp} {b n cnt : Nat} {D : DataW Unit} {left : Lit → Bool} (h : Own E w (Hp.mp P K R b n D :: L)) (h2 : w'.ranges P K R b w.heap.size n D left cnt) (hg : w.grownBy w' none) :
    Own E w' (Hp.rng P K R b w.heap.size n D left cnt :: L) := by
  obtain ⟨es, clock, f1, f2, f3, ho⟩ := h.mp_obj
  obtain ⟨es', clock', since', seen', c0', hb', g1, g2, g3, hr', g4, g5, g6, g7, g8, g9⟩ := h2
  have e1 := (hg.block b ho.lt (by simp)).symm.trans hb'
  rw [ho.at_] at e1
  obtain ⟨e2, e3⟩ := Obj.map.inj (Option.some.inj e1)
  subst e2 e3
  have h5 := ho.grown1 hg hr'
  exact (Own.sepTwo.2 h5.f1).imp fun _ hx => ⟨es, clock, since', seen', c0', hx, g1, g2, g3, g4, g5, g6, g7, g8, g9⟩
end
end Go.Proofs.YtabibfabieghpaaGreatDoor
namespace Go.Proofs.YtabibfabieghpaaGreatDoor
open Go.RowKit
/-- Each below all behind it. -/
def Rise (l : List ByteArray) : Prop := l.Pairwise fun a b => slt a b = true
theorem rise_risesB {l : List ByteArray} (h : Rise l) : risesB l = true := by
  refine (risesB_iff l).2 fun i a b ha hb => ?_
  have h1 := (List.pairwise_iff_getElem.1 h) i (i + 1) (List.getElem?_eq_some_iff.1 ha).1 (List.getElem?_eq_some_iff.1 hb).1 (by omega)
  rw [(List.getElem?_eq_some_iff.1 ha).2, (List.getElem?_eq_some_iff.1 hb).2] at h1
  exact h1
theorem risesB_rise {l : List ByteArray} (h : risesB l = true) : Rise l := by
  refine List.pairwise_iff_getElem.2 fun i j hi hj hij => ?_
  exact rises_lt h (j - i - 1) i _ _ (List.getElem?_eq_getElem hi) (by rw [show i + (j - i - 1) + 1 = j by omega]; exact List.getElem?_eq_getElem hj)
theorem Rise.nodup {l : List ByteArray} (h : Rise l) : l.Nodup := h.imp fun {a b} h e => by
  subst e; rw [slt_irrefl] at h; cases h
/-- Two rising lists with the same members are one. -/
theorem Rise.unique : ∀ {l m : List ByteArray}, Rise l → Rise m → (∀ x, x ∈ l ↔ x ∈ m) → l = m
  | [], [], _, _, _ => rfl
  | [], b :: m, _, _, h => absurd ((h b).2 (List.mem_cons_self ..)) (by simp)
  | a :: l, [], _, _, h => absurd ((h a).1 (List.mem_cons_self ..)) (by simp)
  | a :: l, b :: m, h1, h2, h => by
    obtain ⟨p1, p2⟩ := List.pairwise_cons.1 h1
    obtain ⟨q1, q2⟩ := List.pairwise_cons.1 h2
    have hab : a = b := by
      rcases List.mem_cons.1 ((h a).1 (List.mem_cons_self ..)) with e | e
      · exact e
      · rcases List.mem_cons.1 ((h b).2 (List.mem_cons_self ..)) with e2 | e2
        · exact e2.symm
        · exact absurd (slt_asymm (p1 b e2)) (by rw [q1 a e]; decide)
    subst hab
    rw [Rise.unique p2 q2 fun x => ?_]
    constructor
    · intro hx
      rcases List.mem_cons.1 ((h x).1 (List.mem_cons_of_mem _ hx)) with e | e
      · subst e; have := p1 x hx; rw [slt_irrefl] at this; cases this
      · exact e
    · intro hx
      rcases List.mem_cons.1 ((h x).2 (List.mem_cons_of_mem _ hx)) with e | e
      · subst e; have := q1 x hx; rw [slt_irrefl] at this; cases this
      · exact e
/-- A name more, at its place, if it is not there. -/
def insL (s : ByteArray) : List ByteArray → List ByteArray
  | [] => [s]
  | a :: l => if slt a s then a :: insL s l else if slt s a then s :: a :: l else a :: l
theorem mem_insL (s x : ByteArray) : ∀ l : List ByteArray, x ∈ insL s l ↔ x = s ∨ x ∈ l
  | [] => by simp [insL]
  | a :: l => by
    unfold insL
    split
    · rw [List.mem_cons, mem_insL s x l, List.mem_cons]
      constructor <;> (rintro (h | h | h) <;> simp [h])
    · split
      · rw [List.mem_cons]
      · rename_i h1 h2
        rcases slt_tri a s with ⟨h, -⟩ | ⟨-, -, rfl, -⟩ | ⟨-, h, -⟩
        · exact absurd h h1
        · rw [List.mem_cons]
          constructor
          · exact .inr
          · rintro (h | h)
            · exact .inl h
            · exact h
        · exact absurd h h2
theorem Rise.insL (s : ByteArray) : ∀ {l : List ByteArray}, Rise l → Rise (insL s l)
  | [], _ => List.pairwise_singleton ..
  | a :: l, h => by
    obtain ⟨p1, p2⟩ := List.pairwise_cons.1 h
    unfold Go.Proofs.YtabibfabieghpaaGreatDoor.insL
    split
    · rename_i h1
      refine List.pairwise_cons.2 ⟨fun b hb => ?_, Rise.insL s p2⟩
      rcases (mem_insL s b l).1 hb with rfl | hb
      · exact h1
      · exact p1 b hb
    · split
      · rename_i h1 h2
        refine List.pairwise_cons.2 ⟨fun b hb => ?_, h⟩
        rcases List.mem_cons.1 hb with rfl | hb
        · exact h2
        · exact slt_trans h2 (p1 b hb)
      · exact h
/-- The members of a list, rising. -/
def sortL (xs : List ByteArray) : List ByteArray := xs.foldl (fun l s => insL s l) []
theorem mem_sortFold (x : ByteArray) : ∀ xs l : List ByteArray, x ∈ xs.foldl (fun l s => insL s l) l ↔ x ∈ l ∨ x ∈ xs
  | [], l => by simp
  | a :: xs, l => by
    rw [List.foldl_cons, mem_sortFold x xs, mem_insL, List.mem_cons]
    constructor
    · rintro ((h | h) | h)
      · exact .inr (.inl h)
      · exact .inl h
      · exact .inr (.inr h)
    · rintro (h | h | h)
      · exact .inl (.inr h)
      · exact .inl (.inl h)
      · exact .inr h
theorem rise_sortFold : ∀ (xs l : List ByteArray), Rise l → Rise (xs.foldl (fun l s => insL s l) l)
  | [], _, h => h
  | a :: xs, _, h => rise_sortFold xs _ (h.insL a)
theorem mem_sortL (x : ByteArray) (xs : List ByteArray) : x ∈ sortL xs ↔ x ∈ xs := by unfold sortL; rw [mem_sortFold]; simp
theorem rise_sortL (xs : List ByteArray) : Rise (sortL xs) := rise_sortFold xs [] List.Pairwise.nil
theorem sortL_of_rise {xs : List ByteArray} (h : Rise xs) : sortL xs = xs := (rise_sortL xs).unique h fun x => mem_sortL x xs
theorem sortL_congr {xs ys : List ByteArray} (h : ∀ x, x ∈ xs ↔ x ∈ ys) : sortL xs = sortL ys := (rise_sortL xs).unique (rise_sortL ys) fun x => by rw [mem_sortL, mem_sortL, h]
theorem length_insL (s : ByteArray) : ∀ l : List ByteArray, (insL s l).length ≤ l.length + 1
  | [] => by simp [insL]
  | a :: l => by
    have := length_insL s l
    unfold insL
    split
    · simp only [List.length_cons]; omega
    · split <;> simp
theorem length_sortFold : ∀ (xs l : List ByteArray), (xs.foldl (fun l s => insL s l) l).length ≤ l.length + xs.length
  | [], _ => by simp
  | a :: xs, l => by
    have h1 := length_sortFold xs (insL a l)
    have h2 := length_insL a l
    rw [List.foldl_cons, List.length_cons]
    omega
theorem length_sortL (xs : List ByteArray) : (sortL xs).length ≤ xs.length := by have := length_sortFold xs []; unfold sortL; simpa using this
/-- Two lists without doubles with the same members are as long as one another. -/
theorem nodup_perm {l m : List ByteArray} (h1 : l.Nodup) (h2 : m.Nodup) (h : ∀ x, x ∈ l ↔ x ∈ m) : l.Perm m := (List.perm_ext_iff_of_nodup h1 h2).2 h
/-- Go's order of texts is Lean's of their bytes. -/
theorem bytesLess_iff : ∀ a b : List UInt8, Op.bytesLess a b = true ↔ a < b
  | [], [] => by simp [Op.bytesLess]
  | [], _ :: _ => by simp [Op.bytesLess]
  | _ :: _, [] => by simp [Op.bytesLess]
  | a :: x, b :: y => by
    simp only [Op.bytesLess, Bool.or_eq_true, decide_eq_true_eq, Bool.and_eq_true, beq_iff_eq, List.cons_lt_cons_iff, bytesLess_iff x y]
theorem slt_iff (a b : ByteArray) : slt a b = true ↔ a.data.toList < b.data.toList := bytesLess_iff ..
/-- What is sorted by the library is the rising list of its members. -/
theorem mergeSort_eq {l : List ByteArray} (hd : l.Nodup) : ((l.map fun s => s.data.toList).mergeSort fun x y => decide (x ≤ y)) = (sortL l).map fun s => s.data.toList := by
  have hp := List.mergeSort_perm (l.map fun s => s.data.toList) (fun x y => decide (x ≤ y))
  have hs := List.pairwise_mergeSort (le := fun x y : List UInt8 => decide (x ≤ y)) (fun a b c h1 h2 => by
    simp only [decide_eq_true_eq] at h1 h2 ⊢; exact List.le_trans h1 h2) (fun a b => by
    simp only [Bool.or_eq_true, decide_eq_true_eq]; exact List.le_total a b) (l.map fun s => s.data.toList)
  have hmap : ((l.map fun s => s.data.toList).mergeSort fun x y => decide (x ≤ y)) = (((l.map fun s => s.data.toList).mergeSort fun x y => decide (x ≤ y)).map fun b => (⟨b.toArray⟩ : ByteArray)).map fun s => s.data.toList := by
    rw [List.map_map]
    have e : ((fun s : ByteArray => s.data.toList) ∘ fun b : List UInt8 => (⟨b.toArray⟩ : ByteArray)) = id := by funext b; simp
    rw [e, List.map_id]
  generalize hL : (((l.map fun s => s.data.toList).mergeSort fun x y => decide (x ≤ y)).map fun b => (⟨b.toArray⟩ : ByteArray)) = L at hmap
  rw [hmap]
  have hmem : ∀ x, x ∈ L ↔ x ∈ l := fun x => by
    rw [← hL]
    constructor
    · intro hx
      obtain ⟨b, hb, rfl⟩ := List.mem_map.1 hx
      obtain ⟨s, hs, rfl⟩ := List.mem_map.1 (hp.mem_iff.1 hb)
      exact hs
    · intro hx
      exact List.mem_map.2 ⟨x.data.toList, hp.mem_iff.2 (List.mem_map.2 ⟨x, hx, rfl⟩), rfl⟩
  have hnd : L.Nodup := by
    have h1 : L.Perm l := by
      rw [← hL]
      have h2 := hp.map fun b : List UInt8 => (⟨b.toArray⟩ : ByteArray)
      rw [List.map_map] at h2
      have e : ((fun b : List UInt8 => (⟨b.toArray⟩ : ByteArray)) ∘ fun s : ByteArray => s.data.toList) = id := by funext b; rfl
      rw [e, List.map_id] at h2
      exact h2
    exact h1.nodup_iff.2 hd
  have hr : Rise L := by
    rw [hmap, List.pairwise_map] at hs
    refine (hs.and hnd).imp fun {a b} h => ?_
    obtain ⟨h1, h2⟩ := h
    simp only [decide_eq_true_eq] at h1
    rcases slt_tri a b with ⟨h, -⟩ | ⟨-, -, e, -⟩ | ⟨-, h, -⟩
    · exact h
    · exact absurd e h2
    · exact absurd ((slt_iff b a).1 h) (List.not_lt.2 h1)
  rw [hr.unique (rise_sortL l) fun x => by rw [hmem, mem_sortL]]
end Go.Proofs.YtabibfabieghpaaGreatDoor
namespace Go.Proofs.YtabibfabieghpaaGreatDoor
open Go.RowKit
section
variable {P : Program} {E w w' : World} {L : List Hp} {e : TypeId} {v : Value} {xs : List Value}
/-- append(v, x...), v owned: it stays where it is, or the old one stays as it was. -/
theorem lst_append_or {t ty : TypeId} {z : Value} {bytes A0n c0 : Nat} {A0 : Option Addr} (ht : P.underlying t = some (.slice e)) (hinfo : (P.info? e).map (fun i => (i.zero, i.size, i.bytes)) = some (some z, 1, bytes))
    (hzs : z.cells.size = 1) (h : Own E w (Hp.lst e (.slice A0 A0n c0) xs :: L)) (A : Option Addr) (m c : Nat) (news : List Value) (hl : news.length = m) (hr : RdC w A news) (h1 : ∀ u ∈ news, u.oneCell' = true) (hm0 : 0 < m)
    (h63 : xs.length + m ≤ maxLen) (hbytes : (xs.length + m) * bytes ≤ 140737488355328) :
    ∃ A' c' w', (Builtin.append_ #[t, t] ty #[.slice A0 A0n c0, .slice A m c]).run P w = .ok (.slice A' (A0n + m) c') w' ∧
      ((A' = A0 ∧ Own E w' (Hp.lst e (.slice A' (A0n + m) c') (xs ++ news) :: L)) ∨ Own E w' (Hp.lst e (.slice A' (A0n + m) c') (xs ++ news) :: Hp.lst e (.slice A0 A0n c0) xs :: L)) := by
  obtain ⟨i, hi, hzz⟩ := Option.map_eq_some_iff.1 hinfo
  simp only [Prod.mk.injEq] at hzz
  obtain ⟨hz, hsize, hby⟩ := hzz
  obtain ⟨A0', c0', hv, hc, hm, hf⟩ := h.lstForm
  injection hv with q1 q2 q3
  subst q1 q2 q3
  obtain ⟨ad, rfl, hcells⟩ : ∃ ad, A = some ad ∧ ∀ j u, news[j]? = some u → w.cell? (ad.add j) = some u :=
    hr (by intro e; subst e; simp at hl; omega)
  have hl' : news.length = m * i.size := by rw [hsize]; omega
  have hsmall : xs.length + m ≤ 9223372036854775807 := by simp only [maxLen] at h63; omega
  have hlen : xs.length + m = (xs ++ news).length := by rw [List.length_append, hl]
  have grown : ∀ A1 : Addr, A0 = some A1 → (∀ j u, xs[j]? = some u → w.cell? (A1.add j) = some u) → c0 < xs.length + m →
      ∃ A' c' w', (Builtin.append_ #[t, t] ty #[.slice A0 xs.length c0, .slice (some ad) m c]).run P w = .ok (.slice A' (xs.length + m) c') w' ∧ Own E w' (Hp.lst e (.slice A' (xs.length + m) c') (xs ++ news) :: Hp.lst e (.slice A0 xs.length c0) xs :: L) := by
    rintro A1 rfl holds hlt
    have hrun := run_append_grow (P := P) w t ty e i z ht hi hz A1 xs.length c0 xs (by rw [hsize]; omega) holds ad m c news hl' hcells hlt (by omega) (growslice_fits (by omega) (by rw [hby]; exact hbytes))
    have hge := grownCap_ge w (xs.length + m) c0 e
    have hcm2 : grownCap w (xs.length + m) c0 e ≤ maxLen := grownCap_le_maxLen w (xs.length + m) c0 e h63
    refine ⟨_, _, _, hrun, ?_⟩
    rw [hlen] at hge hcm2 ⊢
    refine Own.mtoLst ((h.drew.alloc _).toMk) _ ?_ hcm2 hge ?_
    · simp only [Array.size_append, List.size_toArray, size_zeroCells, hzs, hl, List.length_append] at hge ⊢
      omega
    · rw [Array.toList_append]
      have e8 : (xs.toArray ++ news.toArray).toList = xs ++ news := by simp
      rw [e8]
      exact List.take_left
  rcases hf with ⟨rfl, rfl, ho⟩ | ⟨g, cur, rfl, hcs, htake, ho⟩
  · cases A0 with
    | none =>
      obtain ⟨v', w1, hrun, h2, -⟩ := sl_append (P := P) (ty := ty) ht hinfo hzs (by omega) (ho.nilRow e 1) (some ad) m c news (by omega) (fun _ => ⟨ad, rfl, hcells⟩) h1 (by simpa using h63) (by simpa using hbytes)
      have h3 : Own E w1 (Hp.lst e v' ([] ++ news) :: L) := by simpa using h2.rowLst
      obtain ⟨A', c', rfl, -⟩ := h3.lstSlice
      rw [List.length_append, hl] at hrun h3
      exact ⟨A', c', w1, hrun, .inr (h3.emptyLst e none).f1⟩
    | some A1 =>
      obtain ⟨A', c', w', hrun, h2⟩ := grown A1 rfl (by simp) (by simp; omega)
      exact ⟨A', c', w', hrun, .inr h2⟩
  · by_cases hroom : xs.length + m ≤ c0
    · have hfit : xs.length * i.size + news.length ≤ cur.size := by rw [hsize]; omega
      have hrun := run_append_roomM (P := P) (ty := ty) (sLen := xs.length) (sCap := c0) ht hi ho ad m c news hl' hcells h1 hroom hfit
      refine ⟨_, _, _, hrun, .inl ⟨rfl, ?_⟩⟩
      rw [hlen] at hroom ⊢
      refine Own.mtoLst (ho.msetCells news (xs.length * i.size)) c0 (by rw [putArr_size]; exact hcs) hm hroom ?_
      have e8 := putArr_splice cur.toList news (xs.length * i.size) (by simpa using hfit)
      have e9 : cur.toList.toArray = cur := by simp
      rw [e9] at e8
      rw [e8]
      unfold splice
      rw [hsize, Nat.mul_one, htake, ← List.append_assoc, List.toList_toArray]
      exact List.take_left
    · obtain ⟨A', c', w', hrun, h2⟩ := grown ⟨g, 0, none⟩ rfl (fun j u hu => by
        obtain ⟨g', hA, hc', _⟩ := h.lstCell j u hu
        injection hA with hA
        injection hA with hA
        subst hA
        rw [add_eq, Nat.zero_add]; exact hc') (by omega)
      exact ⟨A', c', w', hrun, .inr h2⟩
/-- append(v, x): the new one lies in a block of its own. -/
theorem lst_append_one {t ty : TypeId} {z : Value} {bytes n c : Nat} {A : Option Addr} (ht : P.underlying t = some (.slice e)) (hinfo : (P.info? e).map (fun i => (i.zero, i.size, i.bytes)) = some (some z, 1, bytes))
    (hzs : z.cells.size = 1) (h : Own E w (Hp.lst e (.slice A n c) xs :: L)) (u : Value) (h1 : u.oneCell' = true) (h63 : xs.length + 1 ≤ maxLen) (hbytes : (xs.length + 1) * bytes ≤ 140737488355328) :
    ∃ A' c' w', (Builtin.append_ #[t, t] ty #[.slice A n c, .slice (some ⟨w.heap.size, 0, none⟩) 1 1]).run P (w.alloc (.cells #[u] e)) = .ok (.slice A' (n + 1) c') w' ∧
      ((A' = A ∧ Own E w' (Hp.lst e (.slice A' (n + 1) c') (xs ++ [u]) :: L)) ∨ Own E w' (Hp.lst e (.slice A' (n + 1) c') (xs ++ [u]) :: Hp.lst e (.slice A n c) xs :: L)) := by
  have h2 := h.alloc (.cells #[u] e)
  have hr : RdC (w.alloc (.cells #[u] e)) (some ⟨w.heap.size, 0, none⟩) [u] := RdC.of_block h2.at_ _ (fun j u hu => by simpa using hu)
  obtain ⟨A', c', w', hrun, h3⟩ := lst_append_or (P := P) (ty := ty) ht hinfo hzs h2.f1 (some ⟨w.heap.size, 0, none⟩) 1 1 [u] rfl hr (by simpa using h1) (by omega) h63 hbytes
  refine ⟨A', c', w', hrun, ?_⟩
  rcases h3 with ⟨rfl, h3⟩ | h3
  · exact .inl ⟨rfl, h3.f1.drop⟩
  · exact .inr (h3.f2.drop)
/-- A cell is written over. -/
theorem Own.lstSet {A : Option Addr} {n c : Nat} (h : Own E w (Hp.lst e (.slice A n c) xs :: L)) (j : Nat) (hj : j < n) (u : Value) :
    ∃ g, A = some ⟨g, 0, none⟩ ∧ w.cell? ⟨g, j, none⟩ = some (xs.getD j u) ∧ w.frozen? ⟨g, j, none⟩ = false ∧ Own E (w.setCell ⟨g, j, none⟩ u) (Hp.lst e (.slice A n c) (xs.set j u) :: L) := by
  obtain ⟨A', c', hv, hc, hm, hf⟩ := h.lstForm
  injection hv with e1 e2 e3
  subst e1 e2 e3
  rcases hf with ⟨rfl, _, _⟩ | ⟨g, cur, rfl, hcs, htake, ho⟩
  · simp at hj
  · obtain ⟨g', hA, hcell, hfz⟩ := h.lstCell j xs[j] (List.getElem?_eq_getElem hj)
    injection hA with hA
    injection hA with hA
    subst hA
    refine ⟨g, rfl, by rw [hcell]; simp [List.getD, hj], hfz, ?_⟩
    have h7 := (ho.mset j u).mtoLst (xs := xs.set j u) c (by simpa using hcs) hm (by simpa using hc) (by rw [List.length_set, Array.toList_setIfInBounds, List.take_set, htake])
    rw [List.length_set] at h7
    exact h7
end
/- FAMILIES -/
section
variable {E w : World} {L : List Hp}
theorem all_mem {α : Type} {f : α → Hp} : ∀ {l : List α} {h : Ph}, Hp.all (l.map f) h → ∀ x ∈ l, ∃ a : Ph, (∀ k o, a k = some o → h k = some o) ∧ f x a
  | [], _, _, _, hx => by cases hx
  | y :: l, h, hh, x, hx => by
    obtain ⟨a, b, hd, rfl, hA, hL⟩ := hh
    rcases List.mem_cons.1 hx with rfl | hx
    · exact ⟨a, fun k o hk => Ph.join_some hk, hA⟩
    · obtain ⟨c, hc, hf⟩ := all_mem hL x hx
      exact ⟨c, fun k o hk => by rw [Ph.join_comm hd]; exact Ph.join_some (hc k o hk), hf⟩
theorem Own.fact {A : Hp} {p : Prop} (h : Own E w (A :: L)) (hp : ∀ a, A a → p) : p := by
  obtain ⟨_, _, _, _, _, a, _, _, _, hA, _⟩ := h
  exact hp a hA
theorem lst_slice {e : TypeId} {v : Value} {xs : List Value} {a : Ph} (h : Hp.lst e v xs a) : ∃ A c, v = .slice A xs.length c ∧ xs.length ≤ c ∧ c ≤ maxLen := by
  obtain ⟨A, c, h1, h2, h3, _⟩ := h
  exact ⟨A, c, h1, h2, h3⟩
theorem Rds.pre {α : Type} {S : Ph} {f : α → Value} {A : Option Addr} {n : Nat} {xs : List α} (h : Rds S 1 (fun x => [f x]) A n xs) (k : Nat) (hk : k ≤ n) : Rds S 1 (fun x => [f x]) A k (xs.take k) := by
  refine ⟨by have := h.1; simp; omega, fun _ => rfl, fun j hj => ?_⟩
  have hj2 : j < xs.length := by simp at hj; omega
  obtain ⟨b, off, e, hc⟩ := h.2.2 j hj2
  exact ⟨b, off, e, fun q v hv => hc q v (by simpa using hv)⟩
end
end Go.Proofs.YtabibfabieghpaaGreatDoor
namespace Go.Proofs.YtabibfabieghpaaGreatDoor
open Go.RowKit Go.Sort
section
variable {E w : World} {L : List Hp}
theorem Own.grow (h : Own E w L) (os : Array Obj) : Own E (Go.Sort.grow w os) L := by
  obtain ⟨h1, h2, h3, x, hx, hL⟩ := h
  refine ⟨h1, h2, h3, x, fun k o hk => ?_, hL⟩
  have h4 := hx k o hk
  have hlt := (Array.getElem?_eq_some_iff.1 h4).1
  show (w.heap ++ os)[k]? = some o
  rw [Array.getElem?_append_left hlt, h4]
theorem size_putCells {α : Type} [Inhabited α] (enc : α → Value) (off : Nat) (d : Array α) (c : Array Value) : (putCells enc off d c).size = c.size := by unfold putCells; simp
theorem take_putCells {α : Type} [Inhabited α] (enc : α → Value) (d : List α) (c : Array Value) (hd : d.length ≤ c.size) : (putCells enc 0 d.toArray c).toList.take d.length = d.map enc := by
  apply List.ext_getElem?
  intro k
  by_cases hk : k < d.length
  · rw [List.getElem?_take_of_lt hk, List.getElem?_map, Array.getElem?_toList]
    unfold putCells
    rw [Array.getElem?_mapIdx]
    have h1 : c[k]? = some c[k] := Array.getElem?_eq_getElem (by omega)
    rw [h1, List.getElem?_eq_getElem hk]
    simp [hk]
  · rw [List.getElem?_eq_none (by rw [List.length_take]; omega), List.getElem?_eq_none (by rw [List.length_map]; omega)]
/-- The list is sorted in its block. -/
theorem Own.sorted {α : Type} [Inhabited α] {enc : α → Value} {g c : Nat} {e : TypeId} {xs ys : List α} (h : Own E w (Hp.lst e (.slice (some ⟨g, 0, none⟩) xs.length c) (xs.map enc) :: L)) (h0 : 0 < xs.length) (hl : ys.length = xs.length) (n : Nat) (os : Array Obj) :
    Own E (Go.Sort.grow (Go.Sort.putRow enc (Go.Sort.ahead w n) g 0 ys.toArray) os) (Hp.lst e (.slice (some ⟨g, 0, none⟩) xs.length c) (ys.map enc) :: L) := by
  refine Own.grow ?_ os
  obtain ⟨A, c0, hv, hc, hm, ⟨e1, -, -⟩ | ⟨g', cur, e1, e2, e3, ho⟩⟩ := h.lstForm
  · rw [List.map_eq_nil_iff] at e1; subst e1; cases h0
  · injection hv with q1 q2 q3
    subst q3
    rw [← q1] at e1
    injection e1 with e1
    injection e1 with e1
    subst e1
    obtain ⟨fr, hfr, hob⟩ := ho.ofMk
    have hlt := hob.lt
    have hat := hob.at_
    have h5 : Own E (Go.Sort.putRow enc (Go.Sort.ahead w n) g 0 ys.toArray) (Hp.obj g (.cells (putCells enc 0 ys.toArray cur) e fr) :: L) := by
      refine hob.turn rfl rfl rfl ?_ ?_
      · show (w.heap.modify g (onCells _))[g]? = _
        rw [Array.getElem?_modify, if_pos rfl, hat]
        rfl
      · intro k hk hne
        show (w.heap.modify g (onCells _))[k]? = _
        rw [Array.getElem?_modify, if_neg (fun e => hne e.symm)]
    have h6 := Own.mkMk (by rw [size_putCells]; exact hfr) h5
    rw [List.length_map] at hc e3
    have h7 := Own.mtoLst (xs := ys.map enc) h6 c (by rw [size_putCells]; exact e2) hm (by rw [List.length_map, hl]; exact hc) (by rw [List.length_map]; exact take_putCells enc ys cur (by omega))
    rw [List.length_map, hl] at h7
    exact h7
/-- The cells of an owned list of texts, as the library's sort asks for them. -/
theorem Own.lstHolds {α : Type} [Inhabited α] {enc : α → Value} {g c : Nat} {e : TypeId} {xs : List α} (h : Own E w (Hp.lst e (.slice (some ⟨g, 0, none⟩) xs.length c) (xs.map enc) :: L)) (h0 : 0 < xs.length) : Holds enc w g 0 xs.toArray ∧ g < w.heap.size := by
  obtain ⟨A, c0, hv, hc, hm, ⟨e1, -, -⟩ | ⟨g', cur, e1, e2, e3, ho⟩⟩ := h.lstForm
  · rw [List.map_eq_nil_iff] at e1; subst e1; cases h0
  · injection hv with q1 q2 q3
    rw [← q1] at e1
    injection e1 with e1
    injection e1 with e1
    subst e1
    rw [List.length_map] at e3 hc
    refine ⟨fun j hj => ?_, ?_⟩
    · have hj' : j < xs.length := by simpa using hj
      rw [Nat.zero_add]
      refine ⟨?_, ho.mfrozen j (by omega)⟩
      rw [ho.mcell j]
      have h4 : (cur.toList.take xs.length)[j]? = (xs.map enc)[j]? := by rw [e3]
      rw [List.getElem?_take_of_lt hj', Array.getElem?_toList, List.getElem?_map, List.getElem?_eq_getElem hj'] at h4
      rw [h4]
      simp [hj']
    · obtain ⟨fr, -, hob⟩ := ho.ofMk
      exact hob.lt
end
end Go.Proofs.YtabibfabieghpaaGreatDoor
namespace Go.Proofs.YtabibfabieghpaaGreatDoor
/-- What the spaces of a text part, byte by byte. -/
def cutL : List UInt8 → List (List UInt8)
  | [] => [[]]
  | c :: l => if c = 32 then [] :: cutL l else match cutL l with
    | [] => [[c]]
    | p :: ps => (c :: p) :: ps
theorem cutL_ne : ∀ l : List UInt8, cutL l ≠ []
  | [] => by simp [cutL]
  | c :: l => by
    unfold cutL
    split
    · simp
    · split <;> simp
theorem cutL_whole : ∀ {p : List UInt8}, (∀ x ∈ p, x ≠ 32) → cutL p = [p]
  | [], _ => rfl
  | c :: p, h => by
    unfold cutL
    rw [if_neg (h c (List.mem_cons_self ..)), cutL_whole fun x hx => h x (List.mem_cons_of_mem _ hx)]
theorem cutL_hit : ∀ {p : List UInt8} (l : List UInt8), (∀ x ∈ p, x ≠ 32) → cutL (p ++ 32 :: l) = p :: cutL l
  | [], l, _ => by simp [cutL]
  | c :: p, l, h => by
    show (if c = 32 then [] :: cutL (p ++ 32 :: l) else match cutL (p ++ 32 :: l) with | [] => [[c]] | q :: qs => (c :: q) :: qs) = _
    rw [if_neg (h c (List.mem_cons_self ..)), cutL_hit l fun x hx => h x (List.mem_cons_of_mem _ hx)]
theorem split_cut : ∀ (n : Nat) (s : List UInt8), s.length ≤ n → Lib.splitK [32] 0 (Lib.count s [32]) s = cutL s := fun n => by
  induction n with
  | zero =>
    intro s hs
    have : s = [] := List.eq_nil_of_length_eq_zero (by omega)
    subst this
    rfl
  | succ n ih =>
    intro s hs
    have h1 := Lib.indexByte_ge s 32
    by_cases hm : Lib.indexByte s 32 = -1
    · have e : Lib.index s [32] = -1 := by rw [Lib.index_one]; exact hm
      rw [Lib.count_miss e]
      show [s] = _
      rw [cutL_whole]
      intro x hx e2
      subst e2
      obtain ⟨k, hk⟩ := List.getElem?_of_mem hx
      exact Lib.indexByte_none hm k hk
    · obtain ⟨i, hi⟩ : ∃ i : Nat, Lib.indexByte s 32 = i := ⟨(Lib.indexByte s 32).toNat, by omega⟩
      have e : Lib.index s [32] = i := by rw [Lib.index_one]; exact hi
      obtain ⟨h2, h3⟩ := Lib.indexByte_some hi
      obtain ⟨hl, h2'⟩ := List.getElem?_eq_some_iff.1 h2
      have es : s = s.take i ++ 32 :: s.drop (i + 1) := by
        conv => lhs; rw [← List.take_append_drop i s, List.drop_eq_getElem_cons hl, h2']
      rw [Lib.count_hit (by simp) e, Nat.add_comm 1]
      unfold Lib.splitK
      have hne : ¬ (Lib.index s [32] == -1) = true := fun q => by have := beq_iff_eq.1 q; omega
      rw [if_neg hne, e]
      show s.take i :: Lib.splitK [32] 0 (Lib.count (s.drop (i + 1)) [32]) (s.drop (i + 1)) = _
      rw [ih _ (by rw [List.length_drop]; omega)]
      conv => rhs; rw [es]
      rw [cutL_hit]
      intro x hx e2
      subst e2
      obtain ⟨k, hk⟩ := List.getElem?_of_mem hx
      have hk2 : k < i := by
        have := (List.getElem?_eq_some_iff.1 hk).1
        rw [List.length_take] at this
        omega
      rw [List.getElem?_take_of_lt hk2] at hk
      exact h3 k hk2 hk
abbrev spB : ByteArray := ⟨#[32]⟩
/-- What the spaces of a text part. -/
def pieces (s : ByteArray) : List ByteArray := Lib.splitB spB 0 (Lib.countB s spB) s
theorem pieces_len (s : ByteArray) : (pieces s).length = Lib.countB s spB + 1 ∧ Lib.countB s spB ≤ s.size := ⟨Lib.splitB_all spB (by decide) 0 _ s rfl, Lib.countB_le spB (by decide) s.size s (Nat.le_refl _)⟩
theorem pieces_data (s : ByteArray) : (pieces s).map (fun x => x.data.toList) = cutL s.data.toList := by
  unfold pieces
  rw [Lib.splitB_data]
  exact split_cut _ _ (Nat.le_refl _)
theorem pieces_of {s : ByteArray} {xs : List ByteArray} (h : cutL s.data.toList = xs.map fun x => x.data.toList) : pieces s = xs := by
  have h1 := (pieces_data s).trans h
  have h2 := congrArg (List.map fun b : List UInt8 => (⟨b.toArray⟩ : ByteArray)) h1
  rw [List.map_map, List.map_map] at h2
  have e : ((fun b : List UInt8 => (⟨b.toArray⟩ : ByteArray)) ∘ fun s : ByteArray => s.data.toList) = id := by funext b; rfl
  rwa [e, List.map_id, List.map_id] at h2
/-- Each piece is no longer than the text. -/
theorem cutL_le : ∀ (l : List UInt8), ∀ p ∈ cutL l, p.length ≤ l.length
  | [], p, hp => by simp [cutL] at hp; simp [hp]
  | c :: l, p, hp => by
    have ih := cutL_le l
    unfold cutL at hp
    split at hp
    · rcases List.mem_cons.1 hp with rfl | hp
      · simp
      · have := ih p hp; simp; omega
    · split at hp
      · rename_i e; exact absurd e (cutL_ne l)
      · rename_i q qs e
        rcases List.mem_cons.1 hp with rfl | hp
        · have := ih q (by rw [e]; exact List.mem_cons_self ..); simp; omega
        · have := ih p (by rw [e]; exact List.mem_cons_of_mem _ hp); simp; omega
end Go.Proofs.YtabibfabieghpaaGreatDoor
