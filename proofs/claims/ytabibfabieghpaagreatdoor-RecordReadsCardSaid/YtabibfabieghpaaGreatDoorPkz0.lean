/- A small separation logic over the model's worlds: lists of memory parts that lie apart. No program in sight. A region that draws its order, gone through in one order: what only reads is taken first under S; S need hold no longer once a step waits for all that reads. No program in sight. Short forms of the steps through a drawn region. No program in sight. From a law's contract to its row: one theorem for every law of plain data. A law whose row lists errors.errorType: what the condition gives a walk, a world that meets it, and the row's contract. -/
import Derived.WalkKit
import Derived.Deep.Draws
import Derived.Lib.Hide
import Derived.OrdersHeld
import Derived.RegionTactic
import Derived.Deep.RegionHeld3
import Derived.Deep.MidRow
import Derived.ProofKit
import Derived.SizedLaws
import Derived.JoinedOf
import Derived.Deep.Slices
import Derived.Deep.Fields
import Derived.ChangeSame
import Derived.ChangeVars
import Derived.LaidLaws
import Derived.LaidHandle
import Derived.Stop.Joined
import Derived.SevenTiedAt
import Derived.Test.YtabibfabieghpaaGreatDoorRows
namespace Go.Proofs.YtabibfabieghpaaGreatDoor
open Go.RowKit

/-- A part of memory: some blocks, each whole. -/
def Ph : Type := Nat → Option Obj
def Ph.emp : Ph := fun _ => none
def Ph.one (b : Nat) (o : Obj) : Ph := fun k => if k = b then some o else none
def Ph.join (a b : Ph) : Ph := fun k => (a k).or (b k)
def Ph.apart (a b : Ph) : Prop := ∀ k, a k = none ∨ b k = none
/-- What is said of a part of memory. -/
def Hp : Type := Ph → Prop
def Hp.sep (A B : Hp) : Hp := fun h => ∃ a b, Ph.apart a b ∧ h = Ph.join a b ∧ A a ∧ B b
def Hp.all : List Hp → Hp
  | [] => fun h => h = Ph.emp
  | A :: L => Hp.sep A (Hp.all L)
def Hp.ro (S : Ph) : Hp := fun h => h = S
def Hp.obj (b : Nat) (o : Obj) : Hp := Hp.ro (Ph.one b o)
def Hp.blk (b : Nat) (t : TypeId) (cs : Array Value) : Hp := Hp.obj b (.cells cs t (0, 0))
def Hp.ex {α : Type} (f : α → Hp) : Hp := fun h => ∃ x, f x h
def Hp.pure (p : Prop) : Hp := fun h => p ∧ h = Ph.emp
def Hp.emp : Hp := fun h => h = Ph.emp
/-- In w, whose streams are E's, the parts lie, apart from one another. -/
def Own (E w : World) (L : List Hp) : Prop :=
  w.os = E.os ∧ w.tape = E.tape ∧ w.output = E.output ∧ ∃ h : Ph, (∀ k o, h k = some o → w.heap[k]? = some o) ∧ Hp.all L h

theorem Ph.join_comm {a b : Ph} (h : Ph.apart a b) : Ph.join a b = Ph.join b a := by
  funext k
  unfold Ph.join
  rcases h k with e | e <;> rw [e]
  · cases b k <;> rfl
  · cases a k <;> rfl
theorem Ph.apart_comm {a b : Ph} (h : Ph.apart a b) : Ph.apart b a := fun k => (h k).symm
theorem Ph.join_emp (a : Ph) : Ph.join a Ph.emp = a := by funext k; unfold Ph.join Ph.emp; cases a k <;> rfl
theorem Ph.emp_join (a : Ph) : Ph.join Ph.emp a = a := by funext k; unfold Ph.join Ph.emp; cases a k <;> rfl
theorem Ph.apart_emp (a : Ph) : Ph.apart a Ph.emp := fun _ => .inr rfl
theorem Ph.emp_apart (a : Ph) : Ph.apart Ph.emp a := fun _ => .inl rfl
theorem Ph.join_assoc (a b c : Ph) : Ph.join (Ph.join a b) c = Ph.join a (Ph.join b c) := by
  funext k; unfold Ph.join; cases a k <;> cases b k <;> rfl
theorem Ph.join_some {a b : Ph} {k : Nat} {o : Obj} (h : a k = some o) : Ph.join a b k = some o := by unfold Ph.join; rw [h]; rfl
theorem Ph.join_none {a b : Ph} {k : Nat} : Ph.join a b k = none ↔ a k = none ∧ b k = none := by unfold Ph.join; cases a k <;> cases b k <;> simp
theorem Ph.apart_join {a b c : Ph} : Ph.apart a (Ph.join b c) ↔ Ph.apart a b ∧ Ph.apart a c := by
  constructor
  · intro h
    refine ⟨fun k => ?_, fun k => ?_⟩ <;> rcases h k with e | e
    · exact .inl e
    · exact .inr (Ph.join_none.1 e).1
    · exact .inl e
    · exact .inr (Ph.join_none.1 e).2
  · rintro ⟨h1, h2⟩ k
    rcases h1 k with e | e
    · exact .inl e
    · rcases h2 k with e2 | e2
      · exact .inl e2
      · exact .inr (Ph.join_none.2 ⟨e, e2⟩)

theorem Hp.sep_swap (A B C : Hp) : Hp.sep A (Hp.sep B C) = Hp.sep B (Hp.sep A C) := by
  have key : ∀ (A B C : Hp) (h : Ph), Hp.sep A (Hp.sep B C) h → Hp.sep B (Hp.sep A C) h := by
    rintro A B C h ⟨a, bc, hab, rfl, hA, b, c, hbc, rfl, hB, hC⟩
    obtain ⟨h1, h2⟩ := Ph.apart_join.1 hab
    refine ⟨b, Ph.join a c, Ph.apart_join.2 ⟨Ph.apart_comm h1, hbc⟩, ?_, hB, a, c, h2, rfl, hA, hC⟩
    rw [← Ph.join_assoc, Ph.join_comm h1, Ph.join_assoc]
  funext h
  exact propext ⟨key A B C h, key B A C h⟩
theorem Hp.sep_comm (A B : Hp) : Hp.sep A B = Hp.sep B A := by
  have key : ∀ (A B : Hp) (h : Ph), Hp.sep A B h → Hp.sep B A h := by
    rintro A B h ⟨a, b, hab, rfl, hA, hB⟩
    exact ⟨b, a, Ph.apart_comm hab, Ph.join_comm hab, hB, hA⟩
  funext h
  exact propext ⟨key A B h, key B A h⟩
theorem Hp.sep_assoc (A B C : Hp) : Hp.sep (Hp.sep A B) C = Hp.sep A (Hp.sep B C) := by
  rw [Hp.sep_comm, Hp.sep_swap, Hp.sep_comm C B]
instance : Std.Commutative Hp.sep := ⟨Hp.sep_comm⟩
instance : Std.Associative Hp.sep := ⟨Hp.sep_assoc⟩
theorem Hp.all_append (L M : List Hp) : Hp.all (L ++ M) = Hp.sep (Hp.all L) (Hp.all M) := by
  induction L with
  | nil =>
    funext h
    refine propext ⟨fun hM => ⟨Ph.emp, h, Ph.emp_apart _, (Ph.emp_join h).symm, rfl, hM⟩, ?_⟩
    rintro ⟨a, b, _, rfl, ha, hb⟩
    have ha' : a = Ph.emp := ha
    rw [ha', Ph.emp_join]
    exact hb
  | cons A L ih =>
    show Hp.sep A (Hp.all (L ++ M)) = Hp.sep (Hp.sep A (Hp.all L)) (Hp.all M)
    rw [ih]
    funext h
    refine propext ⟨?_, ?_⟩
    · rintro ⟨a, _, h1, rfl, hA, b, c, h2, rfl, hB, hC⟩
      obtain ⟨h3, h4⟩ := Ph.apart_join.1 h1
      exact ⟨Ph.join a b, c, Ph.apart_comm (Ph.apart_join.2 ⟨Ph.apart_comm h4, Ph.apart_comm h2⟩), (Ph.join_assoc _ _ _).symm, ⟨a, b, h3, rfl, hA, hB⟩, hC⟩
    · rintro ⟨_, c, h1, rfl, ⟨a, b, h2, rfl, hA, hB⟩, hC⟩
      obtain ⟨h3, h4⟩ := Ph.apart_join.1 (Ph.apart_comm h1)
      exact ⟨a, Ph.join b c, Ph.apart_join.2 ⟨h2, Ph.apart_comm h3⟩, Ph.join_assoc _ _ _, hA, b, c, Ph.apart_comm h4, rfl, hB, hC⟩
theorem Hp.all_perm {L M : List Hp} (h : L.Perm M) : Hp.all L = Hp.all M := by
  induction h with
  | nil => rfl
  | cons A _ ih => show Hp.sep A _ = Hp.sep A _; rw [ih]
  | swap A B L => exact Hp.sep_swap B A (Hp.all L)
  | trans _ _ ih1 ih2 => exact ih1.trans ih2

section
variable {E w w' : World} {A B C D A1 A2 A3 A4 A5 A6 A7 A8 : Hp} {L M : List Hp}
theorem Own.perm (h : Own E w L) (hp : L.Perm M) : Own E w M := by
  obtain ⟨h1, h2, h3, x, hx, hL⟩ := h
  exact ⟨h1, h2, h3, x, hx, by rw [← Hp.all_perm hp]; exact hL⟩
theorem Own.ac (h : Own E w L) (e : Hp.all L = Hp.all M) : Own E w M := by
  obtain ⟨h1, h2, h3, x, hx, hL⟩ := h
  exact ⟨h1, h2, h3, x, hx, by rw [← e]; exact hL⟩
theorem perm_mid (a : Hp) (P : List Hp) : (P ++ a :: L).Perm (a :: (P ++ L)) := List.perm_middle
theorem Own.f1 (h : Own E w (A1 :: A :: L)) : Own E w (A :: A1 :: L) := h.perm (perm_mid A [A1])
theorem Own.f2 (h : Own E w (A1 :: A2 :: A :: L)) : Own E w (A :: A1 :: A2 :: L) := h.perm (perm_mid A [A1, A2])
theorem Own.f3 (h : Own E w (A1 :: A2 :: A3 :: A :: L)) : Own E w (A :: A1 :: A2 :: A3 :: L) := h.perm (perm_mid A [A1, A2, A3])
theorem Own.f4 (h : Own E w (A1 :: A2 :: A3 :: A4 :: A :: L)) : Own E w (A :: A1 :: A2 :: A3 :: A4 :: L) := h.perm (perm_mid A [A1, A2, A3, A4])
theorem Own.f5 (h : Own E w (A1 :: A2 :: A3 :: A4 :: A5 :: A :: L)) : Own E w (A :: A1 :: A2 :: A3 :: A4 :: A5 :: L) := h.perm (perm_mid A [A1, A2, A3, A4, A5])
theorem Own.f6 (h : Own E w (A1 :: A2 :: A3 :: A4 :: A5 :: A6 :: A :: L)) : Own E w (A :: A1 :: A2 :: A3 :: A4 :: A5 :: A6 :: L) := h.perm (perm_mid A [A1, A2, A3, A4, A5, A6])
theorem Own.f7 (h : Own E w (A1 :: A2 :: A3 :: A4 :: A5 :: A6 :: A7 :: A :: L)) : Own E w (A :: A1 :: A2 :: A3 :: A4 :: A5 :: A6 :: A7 :: L) := h.perm (perm_mid A [A1, A2, A3, A4, A5, A6, A7])
/-- Back: the first part goes to place k. -/
theorem Own.b1 (h : Own E w (A :: A1 :: L)) : Own E w (A1 :: A :: L) := h.perm (perm_mid A [A1]).symm
theorem Own.b2 (h : Own E w (A :: A1 :: A2 :: L)) : Own E w (A1 :: A2 :: A :: L) := h.perm (perm_mid A [A1, A2]).symm
theorem Own.b3 (h : Own E w (A :: A1 :: A2 :: A3 :: L)) : Own E w (A1 :: A2 :: A3 :: A :: L) := h.perm (perm_mid A [A1, A2, A3]).symm
theorem Own.b4 (h : Own E w (A :: A1 :: A2 :: A3 :: A4 :: L)) : Own E w (A1 :: A2 :: A3 :: A4 :: A :: L) := h.perm (perm_mid A [A1, A2, A3, A4]).symm
theorem Own.b5 (h : Own E w (A :: A1 :: A2 :: A3 :: A4 :: A5 :: L)) : Own E w (A1 :: A2 :: A3 :: A4 :: A5 :: A :: L) := h.perm (perm_mid A [A1, A2, A3, A4, A5]).symm
theorem Own.b6 (h : Own E w (A :: A1 :: A2 :: A3 :: A4 :: A5 :: A6 :: L)) : Own E w (A1 :: A2 :: A3 :: A4 :: A5 :: A6 :: A :: L) := h.perm (perm_mid A [A1, A2, A3, A4, A5, A6]).symm
theorem Own.b7 (h : Own E w (A :: A1 :: A2 :: A3 :: A4 :: A5 :: A6 :: A7 :: L)) : Own E w (A1 :: A2 :: A3 :: A4 :: A5 :: A6 :: A7 :: A :: L) := h.perm (perm_mid A [A1, A2, A3, A4, A5, A6, A7]).symm

theorem Own.drop (h : Own E w (A :: L)) : Own E w L := by
  obtain ⟨h1, h2, h3, _, hx, a, b, hab, rfl, _, hL⟩ := h
  exact ⟨h1, h2, h3, b, fun k o hk => hx k o (by rw [Ph.join_comm hab]; exact Ph.join_some hk), hL⟩
theorem Own.ex {α : Type} {f : α → Hp} : Own E w (Hp.ex f :: L) ↔ ∃ x, Own E w (f x :: L) := by
  constructor
  · rintro ⟨h1, h2, h3, _, hx, a, b, hab, rfl, ⟨x, hf⟩, hL⟩
    exact ⟨x, h1, h2, h3, _, hx, a, b, hab, rfl, hf, hL⟩
  · rintro ⟨x, h1, h2, h3, _, hx, a, b, hab, rfl, hf, hL⟩
    exact ⟨h1, h2, h3, _, hx, a, b, hab, rfl, ⟨x, hf⟩, hL⟩
theorem Own.emp : Own E w (Hp.emp :: L) ↔ Own E w L := by
  constructor
  · exact Own.drop
  · rintro ⟨h1, h2, h3, x, hx, hL⟩
    exact ⟨h1, h2, h3, x, hx, Ph.emp, x, Ph.emp_apart _, (Ph.emp_join x).symm, rfl, hL⟩
theorem Own.pure {p : Prop} : Own E w (Hp.pure p :: L) ↔ p ∧ Own E w L := by
  constructor
  · intro h
    refine ⟨?_, h.drop⟩
    obtain ⟨_, _, _, _, _, _, _, _, _, ⟨hp, _⟩, _⟩ := h
    exact hp
  · rintro ⟨hp, h1, h2, h3, x, hx, hL⟩
    exact ⟨h1, h2, h3, x, hx, Ph.emp, x, Ph.emp_apart _, (Ph.emp_join x).symm, ⟨hp, rfl⟩, hL⟩
theorem Own.star : Own E w (Hp.all M :: L) ↔ Own E w (M ++ L) := by
  unfold Own
  rw [Hp.all_append]
  exact Iff.rfl
/-- One part may be said otherwise. -/
theorem Own.imp (h : Own E w (A :: L)) (hab : ∀ x, A x → B x) : Own E w (B :: L) := by
  obtain ⟨h1, h2, h3, _, hx, a, b, hd, rfl, hA, hL⟩ := h
  exact ⟨h1, h2, h3, _, hx, a, b, hd, rfl, hab a hA, hL⟩
theorem Own.heap {S : Ph} (h : Own E w (Hp.ro S :: L)) {k : Nat} {o : Obj} (hk : S k = some o) : w.heap[k]? = some o := by
  obtain ⟨_, _, _, _, hx, a, b, _, rfl, hA, _⟩ := h
  have hA' : a = S := hA
  subst hA'
  exact hx k o (Ph.join_some hk)
theorem Own.at_ {b : Nat} {o : Obj} (h : Own E w (Hp.obj b o :: L)) : w.heap[b]? = some o := h.heap (by simp [Ph.one])
theorem lt_of_some {w : World} {k : Nat} {o : Obj} (h : w.heap[k]? = some o) : k < w.heap.size := by
  rcases Nat.lt_or_ge k w.heap.size with hlt | hge
  · exact hlt
  · rw [Array.getElem?_eq_none hge] at h; cases h
theorem Own.lt {b : Nat} {o : Obj} (h : Own E w (Hp.obj b o :: L)) : b < w.heap.size := lt_of_some h.at_
theorem Own.cell {b : Nat} {t : TypeId} {cs : Array Value} (h : Own E w (Hp.blk b t cs :: L)) (i : Nat) : w.cell? ⟨b, i, none⟩ = cs[i]? := cell_of_row w b i cs t (0, 0) h.at_
theorem Own.frozen {b : Nat} {t : TypeId} {cs : Array Value} (h : Own E w (Hp.blk b t cs :: L)) (i : Nat) : w.frozen? ⟨b, i, none⟩ = false := by
  simp [World.frozen?, h.at_]

/-- One part is turned into another one; the others stay. -/
theorem Own.change (h : Own E w (A :: L)) (e1 : w'.os = w.os) (e2 : w'.tape = w.tape) (e3 : w'.output = w.output)
    (hc : ∀ a, A a → (∀ k o, a k = some o → w.heap[k]? = some o) →
      ∃ a', B a' ∧ (∀ k o, a' k = some o → w'.heap[k]? = some o) ∧ ∀ k, a k = none → k < w.heap.size → a' k = none ∧ w'.heap[k]? = w.heap[k]?) : Own E w' (B :: L) := by
  obtain ⟨h1, h2, h3, _, hx, a, b, hd, rfl, hA, hL⟩ := h
  obtain ⟨a', hB, ha', hrest⟩ := hc a hA (fun k o hk => hx k o (Ph.join_some hk))
  have hb : ∀ k o, b k = some o → w.heap[k]? = some o := fun k o hk => hx k o (by rw [Ph.join_comm hd]; exact Ph.join_some hk)
  have hd' : Ph.apart a' b := fun k => by
    cases hbk : b k with
    | none => exact .inr rfl
    | some o =>
      rcases hd k with e | e
      · exact .inl (hrest k e (lt_of_some (hb k o hbk))).1
      · rw [hbk] at e; cases e
  refine ⟨e1.trans h1, e2.trans h2, e3.trans h3, Ph.join a' b, fun k o hk => ?_, a', b, hd', rfl, hB, hL⟩
  unfold Ph.join at hk
  cases hak : a' k with
  | some o' => rw [hak] at hk; simp at hk; subst hk; exact ha' k _ hak
  | none =>
    rw [hak] at hk
    simp at hk
    have hlt := lt_of_some (hb k o hk)
    rcases hd k with e | e
    · rw [(hrest k e hlt).2]; exact hb k o hk
    · rw [hk] at e; cases e
theorem Own.drew (h : Own E w L) : Own E w.drew L := h
theorem Own.alloc (h : Own E w L) (o : Obj) : Own E (w.alloc o) (Hp.obj w.heap.size o :: L) := by
  refine (Own.emp.2 h).change rfl rfl rfl ?_
  intro a ha _
  refine ⟨Ph.one w.heap.size o, rfl, fun k o' hk => ?_, fun k _ hlt => ⟨?_, ?_⟩⟩
  · unfold Ph.one at hk
    split at hk
    · rename_i e; subst e; injection hk with hk; subst hk; exact heap_alloc_new w _
    · cases hk
  · unfold Ph.one; rw [if_neg (by omega)]
  · exact Below.heap_alloc w o k hlt
theorem Own.set {b : Nat} {t : TypeId} {cs : Array Value} (h : Own E w (Hp.blk b t cs :: L)) (i : Nat) (v : Value) :
    Own E (w.setCell ⟨b, i, none⟩ v) (Hp.blk b t (cs.setIfInBounds i v) :: L) := by
  have hat := h.at_
  refine h.change rfl rfl rfl ?_
  intro a ha _
  have ha' : a = Ph.one b (.cells cs t (0, 0)) := ha
  subst ha'
  refine ⟨Ph.one b (.cells (cs.setIfInBounds i v) t (0, 0)), rfl, fun k o' hk => ?_, fun k hn hlt => ⟨?_, ?_⟩⟩
  · unfold Ph.one at hk
    split at hk
    · rename_i e; subst e; injection hk with hk; subst hk; simp [World.setCell, Array.getElem?_modify, hat]
    · cases hk
  · unfold Ph.one at hn ⊢
    split at hn
    · cases hn
    · rename_i e; rw [if_neg e]
  · refine Below.heap_setCell w _ v k ?_
    rintro rfl
    unfold Ph.one at hn
    rw [if_pos rfl] at hn
    cases hn
/-- Another world in which the part lies as it is said now, all else being as it was. -/
theorem Own.turn {b : Nat} {o o' : Obj} (h : Own E w (Hp.obj b o :: L)) (e1 : w'.os = w.os) (e2 : w'.tape = w.tape) (e3 : w'.output = w.output)
    (hb : w'.heap[b]? = some o') (hk : ∀ k, k < w.heap.size → k ≠ b → w'.heap[k]? = w.heap[k]?) : Own E w' (Hp.obj b o' :: L) := by
  refine h.change e1 e2 e3 ?_
  intro a ha _
  have ha' : a = Ph.one b o := ha
  subst ha'
  refine ⟨Ph.one b o', rfl, fun k o2 hk2 => ?_, fun k hn hlt => ⟨?_, ?_⟩⟩
  · unfold Ph.one at hk2
    split at hk2
    · rename_i e; subst e; injection hk2 with hk2; subst hk2; exact hb
    · cases hk2
  · unfold Ph.one at hn ⊢
    split at hn
    · cases hn
    · rename_i e; rw [if_neg e]
  · refine hk k hlt ?_
    rintro rfl
    unfold Ph.one at hn
    rw [if_pos rfl] at hn
    cases hn
/-- Two parts are apart: their blocks differ. -/
theorem Own.ne {b c : Nat} {o o' : Obj} (h : Own E w (Hp.obj b o :: Hp.obj c o' :: L)) : b ≠ c := by
  obtain ⟨_, _, _, _, _, a, _, hd, rfl, hA, x, y, _, rfl, hB, _⟩ := h
  have hA' : a = Ph.one b o := hA
  have hB' : x = Ph.one c o' := hB
  subst hA' hB'
  rintro rfl
  rcases hd b with e | e
  · simp [Ph.one] at e
  · have := (Ph.join_none.1 e).1; simp [Ph.one] at this
/-- Two lent parts are one. -/
theorem Own.merge {S T : Ph} : Own E w (Hp.ro S :: Hp.ro T :: L) → Own E w (Hp.ro (Ph.join S T) :: L) ∧ Ph.apart S T := by
  rintro ⟨h1, h2, h3, _, hx, a, _, hd, rfl, hA, x, y, hd2, rfl, hB, hL⟩
  have hA' : a = S := hA
  have hB' : x = T := hB
  subst hA' hB'
  obtain ⟨k1, k2⟩ := Ph.apart_join.1 hd
  exact ⟨⟨h1, h2, h3, _, hx, Ph.join a x, y, Ph.apart_comm (Ph.apart_join.2 ⟨Ph.apart_comm k2, Ph.apart_comm hd2⟩), (Ph.join_assoc _ _ _).symm, rfl, hL⟩, k1⟩
theorem Own.part {S T : Ph} (h : Own E w (Hp.ro (Ph.join S T) :: L)) (hd : Ph.apart S T) : Own E w (Hp.ro S :: Hp.ro T :: L) := by
  obtain ⟨h1, h2, h3, _, hx, a, y, hd2, rfl, hA, hL⟩ := h
  have hA' : a = Ph.join S T := hA
  subst hA'
  obtain ⟨k1, k2⟩ := Ph.apart_join.1 (Ph.apart_comm hd2)
  exact ⟨h1, h2, h3, _, hx, S, Ph.join T y, Ph.apart_join.2 ⟨hd, Ph.apart_comm k1⟩, Ph.join_assoc _ _ _, rfl, T, y, Ph.apart_comm k2, rfl, rfl, hL⟩
end

/-- All of a world's memory, as a part. -/
def Ph.of (w : World) : Ph := fun k => w.heap[k]?
theorem Own.start (W : World) : Own W W [Hp.ro (Ph.of W)] :=
  ⟨rfl, rfl, rfl, Ph.of W, fun _ _ h => h, Ph.of W, Ph.emp, Ph.apart_emp _, (Ph.join_emp _).symm, rfl, rfl⟩
theorem Own.below {W w : World} {L : List Hp} (h : Own W w (Hp.ro (Ph.of W) :: L)) : Below W.heap.size W w := by
  refine ⟨h.1, h.2.1, h.2.2.1, ?_, fun k hk => ?_⟩
  · rcases Nat.eq_zero_or_pos W.heap.size with e | e
    · omega
    · have hl : Ph.of W (W.heap.size - 1) = some W.heap[W.heap.size - 1] := by unfold Ph.of; rw [Array.getElem?_eq_getElem (by omega)]
      have := lt_of_some (h.heap hl)
      omega
  · have hl : Ph.of W k = some W.heap[k] := by unfold Ph.of; rw [Array.getElem?_eq_getElem hk]
    rw [h.heap hl, Array.getElem?_eq_getElem hk]
/-- What was read ahead is there. -/
theorem Own.old {W w : World} {L : List Hp} (h : Own W w (Hp.ro (Ph.of W) :: L)) {a : Addr} {v : Value} (hc : W.cell? a = some v) : w.cell? a = some v := by
  have hlt := World.block_lt_of_cell? W a hc
  exact (h.below.cell hlt).trans hc

/- LISTS IN MEMORY -/
def Ph.cell (S : Ph) (a : Addr) : Option Value :=
  match S a.block with
  | some (.cells c _ _) => if a.spot.isSome then none else c[a.off]?
  | _ => none
theorem Ph.cell_sub {S T : Ph} (h : ∀ k o, S k = some o → T k = some o) {a : Addr} {v : Value} (hc : S.cell a = some v) : T.cell a = some v := by
  unfold Ph.cell at hc ⊢
  cases hs : S a.block with
  | none => rw [hs] at hc; cases hc
  | some o => rw [h _ _ hs]; rw [hs] at hc; exact hc
theorem Own.sub {E w : World} {L : List Hp} {S : Ph} (h : Own E w (Hp.ro S :: L)) : ∀ k o, S k = some o → Ph.of w k = some o := fun _ _ hk => h.heap hk
theorem Own.rd {E w : World} {L : List Hp} {S : Ph} (h : Own E w (Hp.ro S :: L)) {a : Addr} {v : Value} (hc : S.cell a = some v) : w.cell? a = some v := Ph.cell_sub h.sub hc
/-- The slice '.slice A n _' reads as xs, each element as its cells. -/
def Rds {α : Type} (S : Ph) (size : Nat) (en : α → List Value) (A : Option Addr) (n : Nat) (xs : List α) : Prop :=
  xs.length = n ∧ (∀ x, (en x).length = size) ∧ ∀ k (hk : k < xs.length), ∃ b off, A = some ⟨b, off, none⟩ ∧ ∀ j v, (en xs[k])[j]? = some v → S.cell ⟨b, off + k * size + j, none⟩ = some v
theorem Rds.sub {α : Type} {S T : Ph} {size : Nat} {en : α → List Value} {A : Option Addr} {n : Nat} {xs : List α} (h : Rds S size en A n xs) (hs : ∀ k o, S k = some o → T k = some o) : Rds T size en A n xs :=
  ⟨h.1, h.2.1, fun k hk => by
    obtain ⟨b, off, e, hc⟩ := h.2.2 k hk
    exact ⟨b, off, e, fun j v hv => Ph.cell_sub hs (hc j v hv)⟩⟩
theorem Rds.at_ {α : Type} {w : World} {size : Nat} {en : α → List Value} {A : Option Addr} {n : Nat} {xs : List α} (h : Rds (Ph.of w) size en A n xs) {k : Nat} (hk : k < n) :
    ∃ (x : α) (b off : Nat), xs[k]? = some x ∧ A = some ⟨b, off, none⟩ ∧ ∀ j v, (en x)[j]? = some v → w.cell? ⟨b, off + k * size + j, none⟩ = some v := by
  have hl : k < xs.length := by have := h.1; omega
  obtain ⟨b, off, e, hc⟩ := h.2.2 k hl
  exact ⟨xs[k], b, off, List.getElem?_eq_getElem hl, e, hc⟩
theorem Rds.get {α : Type} {S : Ph} {size : Nat} {en : α → List Value} {A : Option Addr} {n : Nat} {xs : List α} (h : Rds S size en A n xs) {k : Nat} (hk : k < n) :
    ∃ (x : α) (b off : Nat), xs[k]? = some x ∧ A = some ⟨b, off, none⟩ ∧ ∀ j v, (en x)[j]? = some v → S.cell ⟨b, off + k * size + j, none⟩ = some v := by
  have hl : k < xs.length := by have := h.1; omega
  obtain ⟨b, off, e, hc⟩ := h.2.2 k hl
  exact ⟨xs[k], b, off, List.getElem?_eq_getElem hl, e, hc⟩
theorem Rds.get1 {α : Type} {S : Ph} {en : α → List Value} {A : Option Addr} {n : Nat} {xs : List α} (h : Rds S 1 en A n xs) {k : Nat} (hk : k < n) :
    ∃ (x : α) (b off : Nat), xs[k]? = some x ∧ A = some ⟨b, off, none⟩ ∧ ∀ v, (en x)[0]? = some v → S.cell ⟨b, off + k, none⟩ = some v := by
  obtain ⟨x, b, off, hx, e, hc⟩ := h.get hk
  refine ⟨x, b, off, hx, e, fun v hv => ?_⟩
  have := hc 0 v hv
  simpa using this
theorem Rds.nil {α : Type} {S : Ph} {size : Nat} {en : α → List Value} (he : ∀ x, (en x).length = size) {A : Option Addr} : Rds S size en A 0 ([] : List α) := ⟨rfl, he, fun _ hk => by cases hk⟩
abbrev en64 (n : Int) : List Value := [.int .i64 n]
abbrev enStr (s : ByteArray) : List Value := [.string s]
end Go.Proofs.YtabibfabieghpaaGreatDoor
namespace Go.Proofs.YtabibfabieghpaaGreatDoor
open Go.RowKit
section
variable {P : Program} {ops : Array Oper} {Q : Exit → Act → World → Prop} {md : Region.Mode} {S : World → Prop} {ls : List Nat}
/-- Does number j wait for all of these by itself? -/
def waitsAll (md : Region.Mode) (ops : Array Oper) (ls : List Nat) (j : Nat) : Bool :=
  match ops[j]? with
  | none => true
  | some oj => ls.all fun i => oj.after.any fun e => Region.binds md e && e.on == i
/-- Whatever order is picked, and S holds behind each operation that does not wait for all of ls. -/
def wpAnyG (P : Program) (md : Region.Mode) (ops : Array Oper) (Q : Exit → Act → World → Prop) (ls : List Nat) (S : World → Prop) : Nat → Array Bool → Act → World → Prop
  | 0, listed, a, w => Region.ready md ops listed = [] ∧ Q .normal a w
  | fuel + 1, listed, a, w =>
    (Region.ready md ops listed = [] → Q .normal a w) ∧
    ∀ i ∈ Region.ready md ops listed, wpOp P ops Q i (fun a' w' => (waitsAll md ops ls i = false → S w → S w') ∧ wpAnyG P md ops Q ls S fuel (listed.setIfInBounds i true) a' w') a w
theorem wpAny_of_G : ∀ (fuel : Nat) (listed : Array Bool) (a : Act) (w : World), wpAnyG P md ops Q ls S fuel listed a w → wpAny P md ops Q fuel listed a w
  | 0, _, _, _, h => h
  | fuel + 1, _, _, _, h => ⟨h.1, fun i hi => wpOp_mono (fun a' w' h' => wpAny_of_G fuel _ a' w' h'.2) (h.2 i hi)⟩
/-- What a taken operation may lean on. -/
def Under (ls : List Nat) (S : World → Prop) (i : Nat) (w : World) : Prop := ls.contains i = true → S w
theorem wpAnyG_first {i : Nat} {oi : Oper} {v : Value} (hi : ops[i]? = some oi) (hsel : ∀ (j : Nat) (o : Oper) cs b, ops[j]? = some o → o.op ≠ .select cs b)
    (hQ : ∀ c a w, Q (.panic c) (a.put oi.dst v) w → Q (.panic c) a w) :
    ∀ (fuel : Nat) (listed : Array Bool) (a : Act) (w : World),
      (∀ j oj, ops[j]? = some oj → j ≠ i → listed.getD j true = false → (∀ e ∈ oj.after, Region.binds md e = true → e.on ≠ i) → oi.apart ops oj = true) →
      i ∈ Region.ready md ops listed → YieldsIf P ops (Under ls S i) oi v a → Under ls S i w →
      wpAnyG P md ops Q ls S fuel (listed.setIfInBounds i true) (a.put oi.dst v) w → wpAnyG P md ops Q ls S (fuel + 1) listed a w := by
  intro fuel
  induction fuel with
  | zero =>
    intro listed a w _ hr hy hS H
    refine ⟨fun h => (by rw [h] at hr; cases hr), fun j hj => ?_⟩
    by_cases hji : j = i
    · subst hji; exact hy.wpOp hi hS ⟨fun _ h => h, H⟩
    · have := ready_mono hj hji
      rw [H.1] at this
      cases this
  | succ fuel ih =>
    intro listed a w hfree hr hy hS H
    refine ⟨fun h => (by rw [h] at hr; cases hr), fun j hj => ?_⟩
    by_cases hji : j = i
    · subst hji; exact hy.wpOp hi hS ⟨fun _ h => h, H⟩
    · have h1 := H.2 j (ready_mono hj hji)
      obtain ⟨hjun, oj, hoj, hall⟩ := mem_ready.1 hj
      have hnot : ∀ e ∈ oj.after, Region.binds md e = true → e.on ≠ i := fun e he hb heq => by
        have h1 := hall e he hb
        have h0 := (mem_ready.1 hr).1
        rw [heq] at h1
        rcases Nat.lt_or_ge i listed.size with h' | h'
        · simp [h'] at h0 h1; rw [h0] at h1; cases h1
        · simp [Array.getElem?_eq_none h'] at h1
      have hu : ∀ w', (waitsAll md ops ls j = false → S w → S w') → Under ls S i w' := fun w' hw hc => hw (by
        cases hwa : waitsAll md ops ls j with
        | false => rfl
        | true =>
          unfold waitsAll at hwa
          rw [hoj] at hwa
          have h3 := List.all_eq_true.1 hwa i (by simpa using hc)
          obtain ⟨e, he, hb⟩ := Array.any_eq_true'.1 h3
          rw [Bool.and_eq_true, beq_iff_eq] at hb
          exact absurd hb.2 (hnot e he hb.1)) (hS hc)
      have h2 := wpOp_putIf hoj (hfree j oj hoj hji hjun hnot) (fun cs b => hsel i oi cs b hi) (fun cs b => hsel j oj cs b hoj) hQ hy h1
      have hfree' : ∀ k ok, ops[k]? = some ok → k ≠ i → (listed.setIfInBounds j true).getD k true = false →
          (∀ e ∈ ok.after, Region.binds md e = true → e.on ≠ i) → oi.apart ops ok = true := fun k ok hk hki hun hno => by
        refine hfree k ok hk hki ?_ hno
        by_cases hjk : j = k
        · subst hjk; exact hjun
        · rw [getD_set_ne true hjk] at hun; exact hun
      refine wpOp_mono (fun a' w' h3 => ⟨h3.2.1, ih (listed.setIfInBounds j true) a' w' hfree' (ready_mono hr (Ne.symm hji)) h3.1 (hu w' h3.2.1) ?_⟩) h2
      rw [Array.setIfInBounds_comm _ _ hji]
      exact h3.2.2
/-- Take number i first. -/
theorem wpAnyG_take {i : Nat} {oi : Oper} {v : Value} {fuel : Nat} {listed : Array Bool} {a : Act} {w : World} (hi : ops[i]? = some oi)
    (hs : Region.noSelect ops = true) (hf : Region.free md ops listed i = true) (hr : (Region.ready md ops listed).contains i = true)
    (hQ : ∀ c a w, Q (.panic c) (a.put oi.dst v) w → Q (.panic c) a w) (hy : YieldsIf P ops (Under ls S i) oi v a) (hS : Under ls S i w)
    (h : wpAnyG P md ops Q ls S fuel (listed.setIfInBounds i true) (a.put oi.dst v) w) : wpAnyG P md ops Q ls S (fuel + 1) listed a w :=
  wpAnyG_first hi (Region.noSelect_spec hs) hQ fuel listed a w (Region.free_spec hi hf) (by simpa using hr) hy hS h
/-- An operation that reads nothing. -/
theorem wpAnyG_pure {i : Nat} {oi : Oper} {v : Value} {fuel : Nat} {listed : Array Bool} {a : Act} {w : World} (hi : ops[i]? = some oi)
    (hs : Region.noSelect ops = true) (hf : Region.free md ops listed i = true) (hr : (Region.ready md ops listed).contains i = true) (hn : ls.contains i = false)
    (hQ : ∀ c a w, Q (.panic c) (a.put oi.dst v) w → Q (.panic c) a w) (hw : Region.wanted oi (yielded ops a.tmps) = true) (hy : ∀ w, (execOp a.eval oi).run P w = .ok (.value v) w)
    (h : wpAnyG P md ops Q ls S fuel (listed.setIfInBounds i true) (a.put oi.dst v) w) : wpAnyG P md ops Q ls S (fuel + 1) listed a w :=
  wpAnyG_take hi hs hf hr hQ (.inl ⟨hw, fun w _ => hy w⟩) (fun h => (by rw [hn] at h; cases h)) h
/-- A guard says no. -/
theorem wpAnyG_skip {i : Nat} {oi : Oper} {fuel : Nat} {listed : Array Bool} {a : Act} {w : World} (hi : ops[i]? = some oi)
    (hs : Region.noSelect ops = true) (hf : Region.free md ops listed i = true) (hr : (Region.ready md ops listed).contains i = true) (hn : ls.contains i = false)
    (hQ : ∀ c a w, Q (.panic c) (a.put oi.dst undef) w → Q (.panic c) a w) (hw : Region.wanted oi (yielded ops a.tmps) = false)
    (h : wpAnyG P md ops Q ls S fuel (listed.setIfInBounds i true) (a.put oi.dst undef) w) : wpAnyG P md ops Q ls S (fuel + 1) listed a w :=
  wpAnyG_take hi hs hf hr hQ (.inr ⟨hw, rfl⟩) (fun h => (by rw [hn] at h; cases h)) h
/-- An operation that reads what S tells. -/
theorem wpAnyG_load {i : Nat} {oi : Oper} {v : Value} {fuel : Nat} {listed : Array Bool} {a : Act} {w : World} (hi : ops[i]? = some oi)
    (hs : Region.noSelect ops = true) (hf : Region.free md ops listed i = true) (hr : (Region.ready md ops listed).contains i = true) (hn : ls.contains i = true)
    (hQ : ∀ c a w, Q (.panic c) (a.put oi.dst v) w → Q (.panic c) a w) (hw : Region.wanted oi (yielded ops a.tmps) = true) (hy : ∀ w, S w → (execOp a.eval oi).run P w = .ok (.value v) w) (hS : S w)
    (h : wpAnyG P md ops Q ls S fuel (listed.setIfInBounds i true) (a.put oi.dst v) w) : wpAnyG P md ops Q ls S (fuel + 1) listed a w :=
  wpAnyG_take hi hs hf hr hQ (.inl ⟨hw, fun w hu => hy w (hu hn)⟩) (fun _ => hS) h
/-- The one that may come up: S is kept. -/
theorem wpAnyG_keep {i : Nat} {oi : Oper} {fuel : Nat} {listed : Array Bool} {a : Act} {w : World} (hr : Region.ready md ops listed = [i]) (hi : ops[i]? = some oi)
    (h : ∀ K : Act → World → Prop, Shut (∀ a' w', S w' → (S w' → wpAnyG P md ops Q ls S fuel (listed.setIfInBounds i true) a' w') → K a' w') →
      if Region.wanted oi (yielded ops a.tmps) = true then oi.wp P a w K Q else K (a.put oi.dst undef) w) : wpAnyG P md ops Q ls S (fuel + 1) listed a w := by
  refine ⟨fun h0 => (by rw [hr] at h0; cases h0), fun j hj => ?_⟩
  rw [hr] at hj
  obtain rfl : j = i := by simpa using hj
  exact wpOp_step hi fun K hK => h K fun a' w' hS hW => hK a' w' ⟨fun _ _ => hS, hW hS⟩
/-- The one that may come up: behind it S is of no use. -/
theorem wpAnyG_break {i : Nat} {oi : Oper} {fuel : Nat} {listed : Array Bool} {a : Act} {w : World} (hr : Region.ready md ops listed = [i]) (hi : ops[i]? = some oi) (hw : waitsAll md ops ls i = true)
    (h : ∀ K : Act → World → Prop, Shut (∀ a' w', wpAnyG P md ops Q ls S fuel (listed.setIfInBounds i true) a' w' → K a' w') →
      if Region.wanted oi (yielded ops a.tmps) = true then oi.wp P a w K Q else K (a.put oi.dst undef) w) : wpAnyG P md ops Q ls S (fuel + 1) listed a w := by
  refine ⟨fun h0 => (by rw [hr] at h0; cases h0), fun j hj => ?_⟩
  rw [hr] at hj
  obtain rfl : j = i := by simpa using hj
  exact wpOp_step hi fun K hK => h K fun a' w' hW => hK a' w' ⟨fun h2 => (by rw [hw] at h2; cases h2), hW⟩
theorem wpAnyG_done {listed : Array Bool} {a : Act} {w : World} (hr : Region.ready md ops listed = []) (h : Q .normal a w) :
    ∀ fuel, wpAnyG P md ops Q ls S fuel listed a w
  | 0 => ⟨hr, h⟩
  | _ + 1 => ⟨fun _ => h, by rw [hr]; simp⟩
theorem wp_region_text {id : Nat} {a : Act} {w : World} (ls : List Nat) (S : World → Prop) (hm : P.follows .mixedOrders = true) (hS : S w.drew)
    (h : S w.drew → wpAnyG P .any ops (NoPanic Q) ls S ops.size (Array.replicate ops.size false) a w.drew) : (Code.region id ops true).wp P Q a w :=
  wp_region_noPanic (wp_region_any hm (wpAny_of_G _ _ _ _ (h hS)))
/-- What a load of a whole array or struct comes to. -/
theorem exec_load_mid {o : Oper} {a : Act} {w : World} (ty : TypeId) (x : Operand) (ho : o.op = .load ty x) (b off : Nat) (hx : a.eval x = .pointer (some ⟨b, off, none⟩)) (cs : List Value) (d : TypeDesc) (hr : w.rangeAt b off cs)
    (hu : P.underlying ty = some d) (hd : d.isRow = true) (hi : (P.info? ty).map (·.size) = some cs.length) : (execOp a.eval o).run P w = .ok (.value (.agg cs.toArray)) w := by
  unfold execOp
  simp only [ho, hx, Instr.loadAt, Instr.sureAddr, Sem.run_bind, Sem.run_pure, Result.andThen_ok, run_loadVar_mid w b off ty cs d hr hu hd hi]
end
end Go.Proofs.YtabibfabieghpaaGreatDoor
namespace Go.Proofs.YtabibfabieghpaaGreatDoor
open Go.RowKit
section
variable {P : Program} {ops : Array Oper} {Q : Exit → Act → World → Prop} {md : Region.Mode} {S : World → Prop} {ls : List Nat} {fuel : Nat} {listed : Array Bool} {a a2 : Act} {w : World} {x1 : Op} {x2 : TypeId} {x3 : String} {x4 : Array Edge} {x5 : Option (Nat × Bool)} {v : Value}
/-- wpAnyG_pure, _load, _skip, _keep in few words: what is always shown alike is shown by itself. -/
theorem gp (i : Nat) (d : Option Nat) (h : wpAnyG P md ops Q ls S fuel (listed.setIfInBounds i true) a2 w) (hi : ops[i]? = some ⟨d, x1, x2, x3, x4, x5⟩ := by exact rfl)
    (hs : Region.noSelect ops = true := by kernel_rfl) (hf : Region.free md ops listed i = true := by kernel_rfl) (hr : (Region.ready md ops listed).contains i = true := by kernel_rfl) (hn : ls.contains i = false := by rfl)
    (hw : Region.wanted ⟨d, x1, x2, x3, x4, x5⟩ (yielded ops a.tmps) = true := by rfl) (hy : ∀ w, (execOp a.eval ⟨d, x1, x2, x3, x4, x5⟩).run P w = .ok (.value v) w := by (intro w; go_simp; first | done | with_reducible rfl))
    (ha : a.put d v = a2 := by ((try simp only [Act.put, List.setIfInBounds_toArray, List.set_cons_zero, List.set_cons_succ]); exact rfl)) (hQ : ∀ c a w, Q (.panic c) (a.put d v) w → Q (.panic c) a w := by (exact fun _ _ _ h => h)) : wpAnyG P md ops Q ls S (fuel + 1) listed a w :=
  wpAnyG_pure hi hs hf hr hn hQ hw hy (ha ▸ h)
theorem gq (i : Nat) (d : Option Nat) (v : Value) (hy : ∀ w, (execOp a.eval ⟨d, x1, x2, x3, x4, x5⟩).run P w = .ok (.value v) w) (h : wpAnyG P md ops Q ls S fuel (listed.setIfInBounds i true) a2 w) (hi : ops[i]? = some ⟨d, x1, x2, x3, x4, x5⟩ := by exact rfl)
    (hs : Region.noSelect ops = true := by kernel_rfl) (hf : Region.free md ops listed i = true := by kernel_rfl) (hr : (Region.ready md ops listed).contains i = true := by kernel_rfl) (hn : ls.contains i = false := by rfl)
    (hw : Region.wanted ⟨d, x1, x2, x3, x4, x5⟩ (yielded ops a.tmps) = true := by rfl)
    (ha : a.put d v = a2 := by ((try simp only [Act.put, List.setIfInBounds_toArray, List.set_cons_zero, List.set_cons_succ]); exact rfl)) (hQ : ∀ c a w, Q (.panic c) (a.put d v) w → Q (.panic c) a w := by (exact fun _ _ _ h => h)) : wpAnyG P md ops Q ls S (fuel + 1) listed a w :=
  wpAnyG_pure hi hs hf hr hn hQ hw hy (ha ▸ h)
theorem gm (i : Nat) (d : Option Nat) (v : Value) (hy : ∀ w, S w → (execOp a.eval ⟨d, x1, x2, x3, x4, x5⟩).run P w = .ok (.value v) w) (h : wpAnyG P md ops Q ls S fuel (listed.setIfInBounds i true) a2 w) (hi : ops[i]? = some ⟨d, x1, x2, x3, x4, x5⟩ := by exact rfl)
    (hs : Region.noSelect ops = true := by kernel_rfl) (hf : Region.free md ops listed i = true := by kernel_rfl) (hr : (Region.ready md ops listed).contains i = true := by kernel_rfl) (hn : ls.contains i = true := by rfl)
    (hw : Region.wanted ⟨d, x1, x2, x3, x4, x5⟩ (yielded ops a.tmps) = true := by rfl)
    (ha : a.put d v = a2 := by ((try simp only [Act.put, List.setIfInBounds_toArray, List.set_cons_zero, List.set_cons_succ]); exact rfl)) (hQ : ∀ c a w, Q (.panic c) (a.put d v) w → Q (.panic c) a w := by (exact fun _ _ _ h => h)) (hS : S w := by assumption) : wpAnyG P md ops Q ls S (fuel + 1) listed a w :=
  wpAnyG_load hi hs hf hr hn hQ hw hy hS (ha ▸ h)
theorem gl (i : Nat) (d : Option Nat) (h : wpAnyG P md ops Q ls S fuel (listed.setIfInBounds i true) a2 w) (hi : ops[i]? = some ⟨d, x1, x2, x3, x4, x5⟩ := by exact rfl)
    (hs : Region.noSelect ops = true := by kernel_rfl) (hf : Region.free md ops listed i = true := by kernel_rfl) (hr : (Region.ready md ops listed).contains i = true := by kernel_rfl) (hn : ls.contains i = true := by rfl)
    (hw : Region.wanted ⟨d, x1, x2, x3, x4, x5⟩ (yielded ops a.tmps) = true := by rfl) (hy : ∀ w, S w → (execOp a.eval ⟨d, x1, x2, x3, x4, x5⟩).run P w = .ok (.value v) w := by (intro w hS; (try dsimp only at hS); go_simp; first | done | with_reducible rfl))
    (ha : a.put d v = a2 := by ((try simp only [Act.put, List.setIfInBounds_toArray, List.set_cons_zero, List.set_cons_succ]); exact rfl)) (hQ : ∀ c a w, Q (.panic c) (a.put d v) w → Q (.panic c) a w := by (exact fun _ _ _ h => h)) (hS : S w := by assumption) : wpAnyG P md ops Q ls S (fuel + 1) listed a w :=
  wpAnyG_load hi hs hf hr hn hQ hw hy hS (ha ▸ h)
theorem gs (i : Nat) (d : Option Nat) (h : wpAnyG P md ops Q ls S fuel (listed.setIfInBounds i true) a2 w) (hi : ops[i]? = some ⟨d, x1, x2, x3, x4, x5⟩ := by exact rfl)
    (hs : Region.noSelect ops = true := by kernel_rfl) (hf : Region.free md ops listed i = true := by kernel_rfl) (hr : (Region.ready md ops listed).contains i = true := by kernel_rfl) (hn : ls.contains i = false := by rfl)
    (hw : Region.wanted ⟨d, x1, x2, x3, x4, x5⟩ (yielded ops a.tmps) = false := by rfl)
    (ha : a.put d undef = a2 := by ((try simp only [Act.put, List.setIfInBounds_toArray, List.set_cons_zero, List.set_cons_succ]); exact rfl)) (hQ : ∀ c a w, Q (.panic c) (a.put d undef) w → Q (.panic c) a w := by (exact fun _ _ _ h => h)) : wpAnyG P md ops Q ls S (fuel + 1) listed a w :=
  wpAnyG_skip hi hs hf hr hn hQ hw (ha ▸ h)
theorem gk (i : Nat) (d : Option Nat) (h : ∀ K : Act → World → Prop, Shut (∀ a' w', S w' → (S w' → wpAnyG P md ops Q ls S fuel (listed.setIfInBounds i true) a' w') → K a' w') →
      if Region.wanted ⟨d, x1, x2, x3, x4, x5⟩ (yielded ops a.tmps) = true then (⟨d, x1, x2, x3, x4, x5⟩ : Oper).wp P a w K Q else K (a.put d undef) w) (hr : Region.ready md ops listed = [i] := by kernel_rfl) (hi : ops[i]? = some ⟨d, x1, x2, x3, x4, x5⟩ := by exact rfl) : wpAnyG P md ops Q ls S (fuel + 1) listed a w :=
  wpAnyG_keep hr hi h
end
end Go.Proofs.YtabibfabieghpaaGreatDoor
namespace Go.Proofs.YtabibfabieghpaaGreatDoor
open Go.ChangeShapes Go.WideShapes Go.ChangeAt Go.RowKit

section
variable {H : Type} {enc : TypeId × Value → H} {P : Program}
theorem trodAll_below (hl : laidOutB P = true) {W W' : World} (hb : Below W.heap.size W W') :
    ∀ (ts : List TypeId) (vs : List Value) (ds : List (DataW H)) (ps : List MemPlace), (∀ t ∈ ts, P.readableRec t = true ∧ t < P.types.size) →
      DataW.TrodAll enc P W 0 (fun _ => true) true ts vs ds ps → (∀ x ∈ ps, x.block < W.heap.size) →
      DataW.TrodAll enc P W' 0 (fun b => decide (b < W.heap.size)) true ts vs ds ps
  | [], [], [], _, _, h, _ => h
  | t :: ts, v :: vs, d :: ds, ps, hr, h, hlt => by
    obtain ⟨p, q, h1, h2, rfl⟩ := h
    obtain ⟨hr1, hr2⟩ := hr t (by simp)
    exact ⟨p, q, Below.trod hl hr1 hr2 h1 hb (fun x hx => hlt x (by simp [hx])), trodAll_below hl hb ts vs ds q (fun t ht => hr t (by simp [ht])) h2 (fun x hx => hlt x (by simp [hx])), rfl⟩
  | [], _ :: _, _, _, _, h, _ => by cases h
  | [], [], _ :: _, _, _, h, _ => by cases h
  | _ :: _, [], _, _, _, h, _ => by cases h
  | _ :: _, _ :: _, [], _, _, h, _ => by cases h
theorem trodAll_length {w : World} {base : Nat} {sp : Nat → Bool} {held : Bool} : ∀ (ts : List TypeId) (vs : List Value) (ds : List (DataW H)) (ps : List MemPlace),
      DataW.TrodAll enc P w base sp held ts vs ds ps → ds.length = ts.length
  | [], [], [], _, _ => rfl
  | _ :: ts, _ :: vs, _ :: ds, _, h => by
    obtain ⟨p, q, _, h2, _⟩ := h
    simp [trodAll_length ts vs ds q h2]
  | [], _ :: _, _, _, h => by cases h
  | [], [], _ :: _, _, h => by cases h
  | _ :: _, [], _, _, h => by cases h
  | _ :: _, _ :: _, [], _, h => by cases h

end

/- ARGUMENTS -/
section
open Go.Deep
variable {H : Type} {enc : TypeId × Value → H} {P : Program} {w : World} {sp : Nat → Bool} {held : Bool}
theorem weightsEach_get {B : Nat} : ∀ {ts : List TypeId} {ds : List (DataW H)}, (DataW.weightsEach P ts ds).all (· ≤ B) = true → ∀ (j : Nat) {t : TypeId} {d : DataW H}, ts[j]? = some t → ds[j]? = some d → (d.weights P t).all (· ≤ B) = true
  | [], _, _, j, t, d, ht, _ => by simp at ht
  | _ :: _, [], _, j, t, d, _, hd => by simp at hd
  | t0 :: ts, d0 :: ds, h, 0, t, d, ht, hd => by
    unfold DataW.weightsEach at h
    rw [List.all_append, Bool.and_eq_true] at h
    simp at ht hd
    subst ht hd
    exact h.1
  | t0 :: ts, d0 :: ds, h, j + 1, t, d, ht, hd => by
    unfold DataW.weightsEach at h
    rw [List.all_append, Bool.and_eq_true] at h
    exact weightsEach_get h.2 j (by simpa using ht) (by simpa using hd)
theorem el_str {t : TypeId} (ht : P.underlying t = some .string) (n : Nat) (cs : List Value) (y : DataW H × List MemPlace) (h : DataW.trod enc P w 0 sp held n t cs = some y) :
    ∃ z : ByteArray, cs = [.string z] ∧ y.1 = .lit (.string z.data.toList) ∧ z.size ≤ maxLen := by
  obtain ⟨z, h1, rfl, h3⟩ := DataW.trod_string ht h
  exact ⟨z, h1, rfl, h3⟩
/-- A struct of one-cell fields: its cells and the readings of its fields. -/
theorem el_struct {t : TypeId} {fs : Array Field} (ht : P.underlying t = some (.struct fs)) (hone : oneCellFields P fs = true) (hC : P.cellsOf t = fs.size) (n : Nat) (cs : List Value) (y : DataW H × List MemPlace)
    (h : DataW.trod enc P w 0 sp held n t cs = some y) :
    ∃ (m : Nat) (ys : List (DataW H × List MemPlace)), cs.length = fs.size ∧ ys.length = fs.size ∧ y.1 = .agg (ys.map (·.1)) ∧
      ∀ (j : Nat) (f : Field) (v : Value) (u : DataW H × List MemPlace), fs[j]? = some f → cs[j]? = some v → ys[j]? = some u → DataW.trod enc P w 0 sp held m f.type [v] = some u := by
  obtain ⟨ys, m, _, hy, hlen, hyl, hf⟩ := DataW.trod_struct ht h
  refine ⟨m, ys, by rw [hlen, hC], hyl, by rw [hy], fun j f v u hj hv hu => ?_⟩
  obtain ⟨ho, hk⟩ := hone_of hone j f hj
  have h1 := hf j f hj
  rw [ho, hk] at h1
  have hjl : j < cs.length := (List.getElem?_eq_some_iff.1 hv).1
  have hone' : (cs.drop j).take 1 = [v] := by
    rw [List.drop_eq_getElem_cons hjl, (List.getElem?_eq_some_iff.1 hv).2]
    rfl
  rw [hone', hu] at h1
  exact h1
theorem string_size {t : TypeId} {s : ByteArray} {B : Nat} (h : ((DataW.lit (.string s.data.toList) : DataW H).weights P t).all (· ≤ B) = true) : s.size ≤ B := by
  unfold DataW.weights at h
  simp only [List.all_cons, List.all_nil, Bool.and_true, decide_eq_true_eq] at h
  exact h
end

end Go.Proofs.YtabibfabieghpaaGreatDoor
namespace Go.Proofs.YtabibfabieghpaaGreatDoor
open Go.ChangeShapes Go.WideShapes Go.ChangeAt Go.RowKit

theorem as_et : Tryz.prog.globalNamed "errors.errorType" = some 1 := by kernel_rfl
theorem as_rt : (Tryz.prog.cutTypes.find? (·.1 == "internal/reflectlite.rtype")).map (·.2) = some 227 := by kernel_rfl
theorem as_row : ((List.range Tryz.prog.types.size).filter fun t => Tryz.prog.rowNamed t [101, 114, 114, 111, 114]) = [174] := by kernel_rfl
theorem as_handle : typeHandle Tryz.prog 174 = .pointer (some ⟨4, 174, none⟩) := by kernel_rfl
/-- What the cell of errors.errorType holds. -/
abbrev errT : Value := .iface 227 (.agg #[.pointer (some ⟨4, 174, none⟩)])
/-- The listed variables. -/
abbrev laidE : List (String × DataW Unit) := [("errors.errorType", Rows.laid_errors_errorType)]

/-- What the condition gives a walk: the variable's one cell. -/
theorem handle_of_laid {W : World} (h : laidMetH Tryz.prog laidE W) : W.cell? ⟨1, 0, none⟩ = some errT := by
  have h' : laidMet Tryz.prog [] W ∧ handlesMet Tryz.prog laidE W := h
  obtain ⟨name, u, ty, e1, e2, e3, e4, e5⟩ := h'.2 _ (List.mem_singleton.2 rfl)
  have en : name = [101, 114, 114, 111, 114] := (Option.some.inj e1).symm
  subst en
  obtain rfl := Option.some.inj (as_rt.symm.trans e2)
  have hm : ty ∈ (List.range Tryz.prog.types.size).filter fun t => Tryz.prog.rowNamed t [101, 114, 114, 111, 114] := List.mem_filter.2 ⟨List.mem_range.2 e3, e4⟩
  rw [as_row] at hm
  obtain rfl := List.mem_singleton.1 hm
  rw [as_handle] at e5
  simpa using World.var?_cell as_et e5 0

/-- A world that meets the condition: the settled one, the variable's cell laid. -/
noncomputable def laidWorld (os : Os) : World :=
  let w0 := World.holding Tryz.prog os ⟨#[], #[], []⟩
  { w0 with heap := w0.heap.modify 1 fun
      | .cells _ t frozen => .cells #[errT] t frozen
      | o => o }
theorem no_standin {P : Program} {ts : Array TypeId} (h : (ts.toList.all fun t => !P.wantsStandIn t) = true) (j : Nat) (t : TypeId) (ht : ts[j]? = some t) : P.wantsStandIn t = false := by
  have := List.all_eq_true.1 h t (by simpa using Array.mem_of_getElem? ht)
  simpa using this
section
variable {H : Type} {enc : TypeId × Value → H}
end
end Go.Proofs.YtabibfabieghpaaGreatDoor
