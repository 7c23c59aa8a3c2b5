/- A small separation logic over the model's worlds: lists of memory parts that lie apart. No program in sight. -/
import Derived.WalkKit
import Derived.Deep.Draws
import Derived.Lib.Hide
namespace Go.Proofs.YtabibfabieghpaaGreatDoor
open Go.RowKit

/-- A part of memory: some blocks, each whole. -/
def Ph : Type := Nat → Option Obj
def Ph.emp : Ph := fun _ => none
def Ph.one (b : Nat) (o : Obj) : Ph := fun k => if k = b then some o else none
def Ph.join (a b : Ph) : Ph := fun k => (a k).or (b k)
def Ph.apart (a b : Ph) : Prop := ∀ k, a k = none ∨ b k = none
/-- What is said of a part of memory. -/
def Hp : Type := Ph → Prop
def Hp.sep (A B : Hp) : Hp := fun h => ∃ a b, Ph.apart a b ∧ h = Ph.join a b ∧ A a ∧ B b
def Hp.all : List Hp → Hp
  | [] => fun h => h = Ph.emp
  | A :: L => Hp.sep A (Hp.all L)
def Hp.ro (S : Ph) : Hp := fun h => h = S
def Hp.obj (b : Nat) (o : Obj) : Hp := Hp.ro (Ph.one b o)
def Hp.blk (b : Nat) (t : TypeId) (cs : Array Value) : Hp := Hp.obj b (.cells cs t (0, 0))
def Hp.ex {α : Type} (f : α → Hp) : Hp := fun h => ∃ x, f x h
def Hp.pure (p : Prop) : Hp := fun h => p ∧ h = Ph.emp
def Hp.emp : Hp := fun h => h = Ph.emp
/-- In w, whose streams are E's, the parts lie, apart from one another. -/
def Own (E w : World) (L : List Hp) : Prop :=
  w.os = E.os ∧ w.tape = E.tape ∧ w.output = E.output ∧ ∃ h : Ph, (∀ k o, h k = some o → w.heap[k]? = some o) ∧ Hp.all L h

theorem Ph.join_comm {a b : Ph} (h : Ph.apart a b) : Ph.join a b = Ph.join b a := by
  funext k
  unfold Ph.join
  rcases h k with e | e <;> rw [e]
  · cases b k <;> rfl
  · cases a k <;> rfl
theorem Ph.apart_comm {a b : Ph} (h : Ph.apart a b) : Ph.apart b a := fun k => (h k).symm
theorem Ph.join_emp (a : Ph) : Ph.join a Ph.emp = a := by funext k; unfold Ph.join Ph.emp; cases a k <;> rfl
theorem Ph.emp_join (a : Ph) : Ph.join Ph.emp a = a := by funext k; unfold Ph.join Ph.emp; cases a k <;> rfl
theorem Ph.apart_emp (a : Ph) : Ph.apart a Ph.emp := fun _ => .inr rfl
theorem Ph.emp_apart (a : Ph) : Ph.apart Ph.emp a := fun _ => .inl rfl
theorem Ph.join_assoc (a b c : Ph) : Ph.join (Ph.join a b) c = Ph.join a (Ph.join b c) := by
  funext k; unfold Ph.join; cases a k <;> cases b k <;> rfl
theorem Ph.join_some {a b : Ph} {k : Nat} {o : Obj} (h : a k = some o) : Ph.join a b k = some o := by unfold Ph.join; rw [h]; rfl
theorem Ph.join_none {a b : Ph} {k : Nat} : Ph.join a b k = none ↔ a k = none ∧ b k = none := by unfold Ph.join; cases a k <;> cases b k <;> simp
theorem Ph.apart_join {a b c : Ph} : Ph.apart a (Ph.join b c) ↔ Ph.apart a b ∧ Ph.apart a c := by
  constructor
  · intro h
    refine ⟨fun k => ?_, fun k => ?_⟩ <;> rcases h k with e | e
    · exact .inl e
    · exact .inr (Ph.join_none.1 e).1
    · exact .inl e
    · exact .inr (Ph.join_none.1 e).2
  · rintro ⟨h1, h2⟩ k
    rcases h1 k with e | e
    · exact .inl e
    · rcases h2 k with e2 | e2
      · exact .inl e2
      · exact .inr (Ph.join_none.2 ⟨e, e2⟩)

theorem Hp.sep_swap (A B C : Hp) : Hp.sep A (Hp.sep B C) = Hp.sep B (Hp.sep A C) := by
  have key : ∀ (A B C : Hp) (h : Ph), Hp.sep A (Hp.sep B C) h → Hp.sep B (Hp.sep A C) h := by
    rintro A B C h ⟨a, bc, hab, rfl, hA, b, c, hbc, rfl, hB, hC⟩
    obtain ⟨h1, h2⟩ := Ph.apart_join.1 hab
    refine ⟨b, Ph.join a c, Ph.apart_join.2 ⟨Ph.apart_comm h1, hbc⟩, ?_, hB, a, c, h2, rfl, hA, hC⟩
    rw [← Ph.join_assoc, Ph.join_comm h1, Ph.join_assoc]
  funext h
  exact propext ⟨key A B C h, key B A C h⟩
theorem Hp.sep_comm (A B : Hp) : Hp.sep A B = Hp.sep B A := by
  have key : ∀ (A B : Hp) (h : Ph), Hp.sep A B h → Hp.sep B A h := by
    rintro A B h ⟨a, b, hab, rfl, hA, hB⟩
    exact ⟨b, a, Ph.apart_comm hab, Ph.join_comm hab, hB, hA⟩
  funext h
  exact propext ⟨key A B h, key B A h⟩
theorem Hp.sep_assoc (A B C : Hp) : Hp.sep (Hp.sep A B) C = Hp.sep A (Hp.sep B C) := by
  rw [Hp.sep_comm, Hp.sep_swap, Hp.sep_comm C B]
instance : Std.Commutative Hp.sep := ⟨Hp.sep_comm⟩
instance : Std.Associative Hp.sep := ⟨Hp.sep_assoc⟩
theorem Hp.all_append (L M : List Hp) : Hp.all (L ++ M) = Hp.sep (Hp.all L) (Hp.all M) := by
  induction L with
  | nil =>
    funext h
    refine propext ⟨fun hM => ⟨Ph.emp, h, Ph.emp_apart _, (Ph.emp_join h).symm, rfl, hM⟩, ?_⟩
    rintro ⟨a, b, _, rfl, ha, hb⟩
    have ha' : a = Ph.emp := ha
    rw [ha', Ph.emp_join]
    exact hb
  | cons A L ih =>
    show Hp.sep A (Hp.all (L ++ M)) = Hp.sep (Hp.sep A (Hp.all L)) (Hp.all M)
    rw [ih]
    funext h
    refine propext ⟨?_, ?_⟩
    · rintro ⟨a, _, h1, rfl, hA, b, c, h2, rfl, hB, hC⟩
      obtain ⟨h3, h4⟩ := Ph.apart_join.1 h1
      exact ⟨Ph.join a b, c, Ph.apart_comm (Ph.apart_join.2 ⟨Ph.apart_comm h4, Ph.apart_comm h2⟩), (Ph.join_assoc _ _ _).symm, ⟨a, b, h3, rfl, hA, hB⟩, hC⟩
    · rintro ⟨_, c, h1, rfl, ⟨a, b, h2, rfl, hA, hB⟩, hC⟩
      obtain ⟨h3, h4⟩ := Ph.apart_join.1 (Ph.apart_comm h1)
      exact ⟨a, Ph.join b c, Ph.apart_join.2 ⟨h2, Ph.apart_comm h3⟩, Ph.join_assoc _ _ _, hA, b, c, Ph.apart_comm h4, rfl, hB, hC⟩
theorem Hp.all_perm {L M : List Hp} (h : L.Perm M) : Hp.all L = Hp.all M := by
  induction h with
  | nil => rfl
  | cons A _ ih => show Hp.sep A _ = Hp.sep A _; rw [ih]
  | swap A B L => exact Hp.sep_swap B A (Hp.all L)
  | trans _ _ ih1 ih2 => exact ih1.trans ih2

section
variable {E w w' : World} {A B C D A1 A2 A3 A4 A5 A6 A7 A8 : Hp} {L M : List Hp}
theorem Own.perm (h : Own E w L) (hp : L.Perm M) : Own E w M := by
  obtain ⟨h1, h2, h3, x, hx, hL⟩ := h
  exact ⟨h1, h2, h3, x, hx, by rw [← Hp.all_perm hp]; exact hL⟩
theorem Own.ac (h : Own E w L) (e : Hp.all L = Hp.all M) : Own E w M := by
  obtain ⟨h1, h2, h3, x, hx, hL⟩ := h
  exact ⟨h1, h2, h3, x, hx, by rw [← e]; exact hL⟩
theorem perm_mid (a : Hp) (P : List Hp) : (P ++ a :: L).Perm (a :: (P ++ L)) := List.perm_middle
theorem Own.f1 (h : Own E w (A1 :: A :: L)) : Own E w (A :: A1 :: L) := h.perm (perm_mid A [A1])
theorem Own.f2 (h : Own E w (A1 :: A2 :: A :: L)) : Own E w (A :: A1 :: A2 :: L) := h.perm (perm_mid A [A1, A2])
theorem Own.f3 (h : Own E w (A1 :: A2 :: A3 :: A :: L)) : Own E w (A :: A1 :: A2 :: A3 :: L) := h.perm (perm_mid A [A1, A2, A3])
theorem Own.f4 (h : Own E w (A1 :: A2 :: A3 :: A4 :: A :: L)) : Own E w (A :: A1 :: A2 :: A3 :: A4 :: L) := h.perm (perm_mid A [A1, A2, A3, A4])
theorem Own.f5 (h : Own E w (A1 :: A2 :: A3 :: A4 :: A5 :: A :: L)) : Own E w (A :: A1 :: A2 :: A3 :: A4 :: A5 :: L) := h.perm (perm_mid A [A1, A2, A3, A4, A5])
theorem Own.f6 (h : Own E w (A1 :: A2 :: A3 :: A4 :: A5 :: A6 :: A :: L)) : Own E w (A :: A1 :: A2 :: A3 :: A4 :: A5 :: A6 :: L) := h.perm (perm_mid A [A1, A2, A3, A4, A5, A6])
theorem Own.f7 (h : Own E w (A1 :: A2 :: A3 :: A4 :: A5 :: A6 :: A7 :: A :: L)) : Own E w (A :: A1 :: A2 :: A3 :: A4 :: A5 :: A6 :: A7 :: L) := h.perm (perm_mid A [A1, A2, A3, A4, A5, A6, A7])
/-- Back: the first part goes to place k. -/
theorem Own.b1 (h : Own E w (A :: A1 :: L)) : Own E w (A1 :: A :: L) := h.perm (perm_mid A [A1]).symm
theorem Own.b2 (h : Own E w (A :: A1 :: A2 :: L)) : Own E w (A1 :: A2 :: A :: L) := h.perm (perm_mid A [A1, A2]).symm
theorem Own.b3 (h : Own E w (A :: A1 :: A2 :: A3 :: L)) : Own E w (A1 :: A2 :: A3 :: A :: L) := h.perm (perm_mid A [A1, A2, A3]).symm
theorem Own.b4 (h : Own E w (A :: A1 :: A2 :: A3 :: A4 :: L)) : Own E w (A1 :: A2 :: A3 :: A4 :: A :: L) := h.perm (perm_mid A [A1, A2, A3, A4]).symm
theorem Own.b5 (h : Own E w (A :: A1 :: A2 :: A3 :: A4 :: A5 :: L)) : Own E w (A1 :: A2 :: A3 :: A4 :: A5 :: A :: L) := h.perm (perm_mid A [A1, A2, A3, A4, A5]).symm
theorem Own.b6 (h : Own E w (A :: A1 :: A2 :: A3 :: A4 :: A5 :: A6 :: L)) : Own E w (A1 :: A2 :: A3 :: A4 :: A5 :: A6 :: A :: L) := h.perm (perm_mid A [A1, A2, A3, A4, A5, A6]).symm
theorem Own.b7 (h : Own E w (A :: A1 :: A2 :: A3 :: A4 :: A5 :: A6 :: A7 :: L)) : Own E w (A1 :: A2 :: A3 :: A4 :: A5 :: A6 :: A7 :: A :: L) := h.perm (perm_mid A [A1, A2, A3, A4, A5, A6, A7]).symm

theorem Own.drop (h : Own E w (A :: L)) : Own E w L := by
  obtain ⟨h1, h2, h3, _, hx, a, b, hab, rfl, _, hL⟩ := h
  exact ⟨h1, h2, h3, b, fun k o hk => hx k o (by rw [Ph.join_comm hab]; exact Ph.join_some hk), hL⟩
theorem Own.ex {α : Type} {f : α → Hp} : Own E w (Hp.ex f :: L) ↔ ∃ x, Own E w (f x :: L) := by
  constructor
  · rintro ⟨h1, h2, h3, _, hx, a, b, hab, rfl, ⟨x, hf⟩, hL⟩
    exact ⟨x, h1, h2, h3, _, hx, a, b, hab, rfl, hf, hL⟩
  · rintro ⟨x, h1, h2, h3, _, hx, a, b, hab, rfl, hf, hL⟩
    exact ⟨h1, h2, h3, _, hx, a, b, hab, rfl, ⟨x, hf⟩, hL⟩
theorem Own.emp : Own E w (Hp.emp :: L) ↔ Own E w L := by
  constructor
  · exact Own.drop
  · rintro ⟨h1, h2, h3, x, hx, hL⟩
    exact ⟨h1, h2, h3, x, hx, Ph.emp, x, Ph.emp_apart _, (Ph.emp_join x).symm, rfl, hL⟩
theorem Own.pure {p : Prop} : Own E w (Hp.pure p :: L) ↔ p ∧ Own E w L := by
  constructor
  · intro h
    refine ⟨?_, h.drop⟩
    obtain ⟨_, _, _, _, _, _, _, _, _, ⟨hp, _⟩, _⟩ := h
    exact hp
  · rintro ⟨hp, h1, h2, h3, x, hx, hL⟩
    exact ⟨h1, h2, h3, x, hx, Ph.emp, x, Ph.emp_apart _, (Ph.emp_join x).symm, ⟨hp, rfl⟩, hL⟩
theorem Own.star : Own E w (Hp.all M :: L) ↔ Own E w (M ++ L) := by
  unfold Own
  rw [Hp.all_append]
  exact Iff.rfl
/-- One part may be said otherwise. -/
theorem Own.imp (h : Own E w (A :: L)) (hab : ∀ x, A x → B x) : Own E w (B :: L) := by
  obtain ⟨h1, h2, h3, _, hx, a, b, hd, rfl, hA, hL⟩ := h
  exact ⟨h1, h2, h3, _, hx, a, b, hd, rfl, hab a hA, hL⟩
/-- The streams are those of another world. -/
theorem Own.env {E' : World} (h : Own E w L) (e1 : E'.os = E.os) (e2 : E'.tape = E.tape) (e3 : E'.output = E.output) : Own E' w L :=
  ⟨h.1.trans e1.symm, h.2.1.trans e2.symm, h.2.2.1.trans e3.symm, h.2.2.2⟩

theorem Own.heap {S : Ph} (h : Own E w (Hp.ro S :: L)) {k : Nat} {o : Obj} (hk : S k = some o) : w.heap[k]? = some o := by
  obtain ⟨_, _, _, _, hx, a, b, _, rfl, hA, _⟩ := h
  have hA' : a = S := hA
  subst hA'
  exact hx k o (Ph.join_some hk)
theorem Own.at_ {b : Nat} {o : Obj} (h : Own E w (Hp.obj b o :: L)) : w.heap[b]? = some o := h.heap (by simp [Ph.one])
theorem lt_of_some {w : World} {k : Nat} {o : Obj} (h : w.heap[k]? = some o) : k < w.heap.size := by
  rcases Nat.lt_or_ge k w.heap.size with hlt | hge
  · exact hlt
  · rw [Array.getElem?_eq_none hge] at h; cases h
theorem Own.lt {b : Nat} {o : Obj} (h : Own E w (Hp.obj b o :: L)) : b < w.heap.size := lt_of_some h.at_
theorem Own.cell {b : Nat} {t : TypeId} {cs : Array Value} (h : Own E w (Hp.blk b t cs :: L)) (i : Nat) : w.cell? ⟨b, i, none⟩ = cs[i]? := cell_of_row w b i cs t (0, 0) h.at_
theorem Own.frozen {b : Nat} {t : TypeId} {cs : Array Value} (h : Own E w (Hp.blk b t cs :: L)) (i : Nat) : w.frozen? ⟨b, i, none⟩ = false := by
  simp [World.frozen?, h.at_]

/-- One part is turned into another one; the others stay. -/
theorem Own.change (h : Own E w (A :: L)) (e1 : w'.os = w.os) (e2 : w'.tape = w.tape) (e3 : w'.output = w.output)
    (hc : ∀ a, A a → (∀ k o, a k = some o → w.heap[k]? = some o) →
      ∃ a', B a' ∧ (∀ k o, a' k = some o → w'.heap[k]? = some o) ∧ ∀ k, a k = none → k < w.heap.size → a' k = none ∧ w'.heap[k]? = w.heap[k]?) : Own E w' (B :: L) := by
  obtain ⟨h1, h2, h3, _, hx, a, b, hd, rfl, hA, hL⟩ := h
  obtain ⟨a', hB, ha', hrest⟩ := hc a hA (fun k o hk => hx k o (Ph.join_some hk))
  have hb : ∀ k o, b k = some o → w.heap[k]? = some o := fun k o hk => hx k o (by rw [Ph.join_comm hd]; exact Ph.join_some hk)
  have hd' : Ph.apart a' b := fun k => by
    cases hbk : b k with
    | none => exact .inr rfl
    | some o =>
      rcases hd k with e | e
      · exact .inl (hrest k e (lt_of_some (hb k o hbk))).1
      · rw [hbk] at e; cases e
  refine ⟨e1.trans h1, e2.trans h2, e3.trans h3, Ph.join a' b, fun k o hk => ?_, a', b, hd', rfl, hB, hL⟩
  unfold Ph.join at hk
  cases hak : a' k with
  | some o' => rw [hak] at hk; simp at hk; subst hk; exact ha' k _ hak
  | none =>
    rw [hak] at hk
    simp at hk
    have hlt := lt_of_some (hb k o hk)
    rcases hd k with e | e
    · rw [(hrest k e hlt).2]; exact hb k o hk
    · rw [hk] at e; cases e
theorem Own.drew (h : Own E w L) : Own E w.drew L := h
theorem Own.drewN (h : Own E w L) (n : Nat) : Own E (w.drewN n) L := h
theorem Own.alloc (h : Own E w L) (o : Obj) : Own E (w.alloc o) (Hp.obj w.heap.size o :: L) := by
  refine (Own.emp.2 h).change rfl rfl rfl ?_
  intro a ha _
  refine ⟨Ph.one w.heap.size o, rfl, fun k o' hk => ?_, fun k _ hlt => ⟨?_, ?_⟩⟩
  · unfold Ph.one at hk
    split at hk
    · rename_i e; subst e; injection hk with hk; subst hk; exact heap_alloc_new w _
    · cases hk
  · unfold Ph.one; rw [if_neg (by omega)]
  · exact Below.heap_alloc w o k hlt
theorem Own.set {b : Nat} {t : TypeId} {cs : Array Value} (h : Own E w (Hp.blk b t cs :: L)) (i : Nat) (v : Value) :
    Own E (w.setCell ⟨b, i, none⟩ v) (Hp.blk b t (cs.setIfInBounds i v) :: L) := by
  have hat := h.at_
  refine h.change rfl rfl rfl ?_
  intro a ha _
  have ha' : a = Ph.one b (.cells cs t (0, 0)) := ha
  subst ha'
  refine ⟨Ph.one b (.cells (cs.setIfInBounds i v) t (0, 0)), rfl, fun k o' hk => ?_, fun k hn hlt => ⟨?_, ?_⟩⟩
  · unfold Ph.one at hk
    split at hk
    · rename_i e; subst e; injection hk with hk; subst hk; simp [World.setCell, Array.getElem?_modify, hat]
    · cases hk
  · unfold Ph.one at hn ⊢
    split at hn
    · cases hn
    · rename_i e; rw [if_neg e]
  · refine Below.heap_setCell w _ v k ?_
    rintro rfl
    unfold Ph.one at hn
    rw [if_pos rfl] at hn
    cases hn
/-- Another world in which the part lies as it is said now, all else being as it was. -/
theorem Own.turn {b : Nat} {o o' : Obj} (h : Own E w (Hp.obj b o :: L)) (e1 : w'.os = w.os) (e2 : w'.tape = w.tape) (e3 : w'.output = w.output)
    (hb : w'.heap[b]? = some o') (hk : ∀ k, k < w.heap.size → k ≠ b → w'.heap[k]? = w.heap[k]?) : Own E w' (Hp.obj b o' :: L) := by
  refine h.change e1 e2 e3 ?_
  intro a ha _
  have ha' : a = Ph.one b o := ha
  subst ha'
  refine ⟨Ph.one b o', rfl, fun k o2 hk2 => ?_, fun k hn hlt => ⟨?_, ?_⟩⟩
  · unfold Ph.one at hk2
    split at hk2
    · rename_i e; subst e; injection hk2 with hk2; subst hk2; exact hb
    · cases hk2
  · unfold Ph.one at hn ⊢
    split at hn
    · cases hn
    · rename_i e; rw [if_neg e]
  · refine hk k hlt ?_
    rintro rfl
    unfold Ph.one at hn
    rw [if_pos rfl] at hn
    cases hn
theorem Own.setObj {b : Nat} {o : Obj} (h : Own E w (Hp.obj b o :: L)) (o' : Obj) : Own E { w with heap := w.heap.setIfInBounds b o' } (Hp.obj b o' :: L) :=
  h.turn rfl rfl rfl (by have := h.lt; simp [this]) (fun k _ hne => by simp [Ne.symm hne])
/-- Two parts are apart: their blocks differ. -/
theorem Own.ne {b c : Nat} {o o' : Obj} (h : Own E w (Hp.obj b o :: Hp.obj c o' :: L)) : b ≠ c := by
  obtain ⟨_, _, _, _, _, a, _, hd, rfl, hA, x, y, _, rfl, hB, _⟩ := h
  have hA' : a = Ph.one b o := hA
  have hB' : x = Ph.one c o' := hB
  subst hA' hB'
  rintro rfl
  rcases hd b with e | e
  · simp [Ph.one] at e
  · have := (Ph.join_none.1 e).1; simp [Ph.one] at this
theorem Own.ne_ro {S : Ph} {c : Nat} {o : Obj} (h : Own E w (Hp.ro S :: Hp.obj c o :: L)) {k : Nat} {o' : Obj} (hk : S k = some o') : k ≠ c := by
  obtain ⟨_, _, _, _, _, a, _, hd, rfl, hA, x, y, _, rfl, hB, _⟩ := h
  have hA' : a = S := hA
  have hB' : x = Ph.one c o := hB
  subst hA' hB'
  rintro rfl
  rcases hd k with e | e
  · rw [hk] at e; cases e
  · have := (Ph.join_none.1 e).1; simp [Ph.one] at this
/-- Two lent parts are one. -/
theorem Own.merge {S T : Ph} : Own E w (Hp.ro S :: Hp.ro T :: L) → Own E w (Hp.ro (Ph.join S T) :: L) ∧ Ph.apart S T := by
  rintro ⟨h1, h2, h3, _, hx, a, _, hd, rfl, hA, x, y, hd2, rfl, hB, hL⟩
  have hA' : a = S := hA
  have hB' : x = T := hB
  subst hA' hB'
  obtain ⟨k1, k2⟩ := Ph.apart_join.1 hd
  exact ⟨⟨h1, h2, h3, _, hx, Ph.join a x, y, Ph.apart_comm (Ph.apart_join.2 ⟨Ph.apart_comm k2, Ph.apart_comm hd2⟩), (Ph.join_assoc _ _ _).symm, rfl, hL⟩, k1⟩
theorem Own.part {S T : Ph} (h : Own E w (Hp.ro (Ph.join S T) :: L)) (hd : Ph.apart S T) : Own E w (Hp.ro S :: Hp.ro T :: L) := by
  obtain ⟨h1, h2, h3, _, hx, a, y, hd2, rfl, hA, hL⟩ := h
  have hA' : a = Ph.join S T := hA
  subst hA'
  obtain ⟨k1, k2⟩ := Ph.apart_join.1 (Ph.apart_comm hd2)
  exact ⟨h1, h2, h3, _, hx, S, Ph.join T y, Ph.apart_join.2 ⟨hd, Ph.apart_comm k1⟩, Ph.join_assoc _ _ _, rfl, T, y, Ph.apart_comm k2, rfl, rfl, hL⟩
end

/-- All of a world's memory, as a part. -/
def Ph.of (w : World) : Ph := fun k => w.heap[k]?
theorem Own.start (W : World) : Own W W [Hp.ro (Ph.of W)] :=
  ⟨rfl, rfl, rfl, Ph.of W, fun _ _ h => h, Ph.of W, Ph.emp, Ph.apart_emp _, (Ph.join_emp _).symm, rfl, rfl⟩
theorem Own.below {W w : World} {L : List Hp} (h : Own W w (Hp.ro (Ph.of W) :: L)) : Below W.heap.size W w := by
  refine ⟨h.1, h.2.1, h.2.2.1, ?_, fun k hk => ?_⟩
  · rcases Nat.eq_zero_or_pos W.heap.size with e | e
    · omega
    · have hl : Ph.of W (W.heap.size - 1) = some W.heap[W.heap.size - 1] := by unfold Ph.of; rw [Array.getElem?_eq_getElem (by omega)]
      have := lt_of_some (h.heap hl)
      omega
  · have hl : Ph.of W k = some W.heap[k] := by unfold Ph.of; rw [Array.getElem?_eq_getElem hk]
    rw [h.heap hl, Array.getElem?_eq_getElem hk]
/-- What was read ahead is there. -/
theorem Own.old {W w : World} {L : List Hp} (h : Own W w (Hp.ro (Ph.of W) :: L)) {a : Addr} {v : Value} (hc : W.cell? a = some v) : w.cell? a = some v := by
  have hlt := World.block_lt_of_cell? W a hc
  exact (h.below.cell hlt).trans hc

/- LISTS IN MEMORY -/
def Ph.cell (S : Ph) (a : Addr) : Option Value :=
  match S a.block with
  | some (.cells c _ _) => if a.spot.isSome then none else c[a.off]?
  | _ => none
theorem Ph.of_cell (w : World) (a : Addr) : (Ph.of w).cell a = w.cell? a := rfl
theorem Ph.cell_sub {S T : Ph} (h : ∀ k o, S k = some o → T k = some o) {a : Addr} {v : Value} (hc : S.cell a = some v) : T.cell a = some v := by
  unfold Ph.cell at hc ⊢
  cases hs : S a.block with
  | none => rw [hs] at hc; cases hc
  | some o => rw [h _ _ hs]; rw [hs] at hc; exact hc
theorem Own.sub {E w : World} {L : List Hp} {S : Ph} (h : Own E w (Hp.ro S :: L)) : ∀ k o, S k = some o → Ph.of w k = some o := fun _ _ hk => h.heap hk
theorem Own.rd {E w : World} {L : List Hp} {S : Ph} (h : Own E w (Hp.ro S :: L)) {a : Addr} {v : Value} (hc : S.cell a = some v) : w.cell? a = some v := Ph.cell_sub h.sub hc
/-- The slice '.slice A n _' reads as xs, each element as its cells. -/
def Rds {α : Type} (S : Ph) (size : Nat) (en : α → List Value) (A : Option Addr) (n : Nat) (xs : List α) : Prop :=
  xs.length = n ∧ (∀ x, (en x).length = size) ∧ ∀ k (hk : k < xs.length), ∃ b off, A = some ⟨b, off, none⟩ ∧ ∀ j v, (en xs[k])[j]? = some v → S.cell ⟨b, off + k * size + j, none⟩ = some v
theorem Rds.sub {α : Type} {S T : Ph} {size : Nat} {en : α → List Value} {A : Option Addr} {n : Nat} {xs : List α} (h : Rds S size en A n xs) (hs : ∀ k o, S k = some o → T k = some o) : Rds T size en A n xs :=
  ⟨h.1, h.2.1, fun k hk => by
    obtain ⟨b, off, e, hc⟩ := h.2.2 k hk
    exact ⟨b, off, e, fun j v hv => Ph.cell_sub hs (hc j v hv)⟩⟩
theorem Rds.at_ {α : Type} {w : World} {size : Nat} {en : α → List Value} {A : Option Addr} {n : Nat} {xs : List α} (h : Rds (Ph.of w) size en A n xs) {k : Nat} (hk : k < n) :
    ∃ (x : α) (b off : Nat), xs[k]? = some x ∧ A = some ⟨b, off, none⟩ ∧ ∀ j v, (en x)[j]? = some v → w.cell? ⟨b, off + k * size + j, none⟩ = some v := by
  have hl : k < xs.length := by have := h.1; omega
  obtain ⟨b, off, e, hc⟩ := h.2.2 k hl
  exact ⟨xs[k], b, off, List.getElem?_eq_getElem hl, e, hc⟩
theorem Rds.get {α : Type} {S : Ph} {size : Nat} {en : α → List Value} {A : Option Addr} {n : Nat} {xs : List α} (h : Rds S size en A n xs) {k : Nat} (hk : k < n) :
    ∃ (x : α) (b off : Nat), xs[k]? = some x ∧ A = some ⟨b, off, none⟩ ∧ ∀ j v, (en x)[j]? = some v → S.cell ⟨b, off + k * size + j, none⟩ = some v := by
  have hl : k < xs.length := by have := h.1; omega
  obtain ⟨b, off, e, hc⟩ := h.2.2 k hl
  exact ⟨xs[k], b, off, List.getElem?_eq_getElem hl, e, hc⟩
theorem Rds.get1 {α : Type} {S : Ph} {en : α → List Value} {A : Option Addr} {n : Nat} {xs : List α} (h : Rds S 1 en A n xs) {k : Nat} (hk : k < n) :
    ∃ (x : α) (b off : Nat), xs[k]? = some x ∧ A = some ⟨b, off, none⟩ ∧ ∀ v, (en x)[0]? = some v → S.cell ⟨b, off + k, none⟩ = some v := by
  obtain ⟨x, b, off, hx, e, hc⟩ := h.get hk
  refine ⟨x, b, off, hx, e, fun v hv => ?_⟩
  have := hc 0 v hv
  simpa using this
/-- One cell an element. -/
theorem Rds.at1 {α : Type} {w : World} {en : α → List Value} {A : Option Addr} {n : Nat} {xs : List α} (h : Rds (Ph.of w) 1 en A n xs) {k : Nat} (hk : k < n) :
    ∃ (x : α) (b off : Nat), xs[k]? = some x ∧ A = some ⟨b, off, none⟩ ∧ ∀ v, (en x)[0]? = some v → w.cell? ⟨b, off + k, none⟩ = some v := by
  obtain ⟨x, b, off, hx, e, hc⟩ := h.at_ hk
  refine ⟨x, b, off, hx, e, fun v hv => ?_⟩
  have := hc 0 v hv
  simpa using this
theorem Rds.nil {α : Type} {S : Ph} {size : Nat} {en : α → List Value} (he : ∀ x, (en x).length = size) {A : Option Addr} : Rds S size en A 0 ([] : List α) := ⟨rfl, he, fun _ hk => by cases hk⟩
abbrev en64 (n : Int) : List Value := [.int .i64 n]
abbrev enStr (s : ByteArray) : List Value := [.string s]
theorem exists_list {α : Type} {Q : Nat → α → Prop} : ∀ n, (∀ i, i < n → ∃ x, Q i x) → ∃ xs : List α, xs.length = n ∧ ∀ i (h : i < xs.length), Q i xs[i]
  | 0, _ => ⟨[], rfl, fun _ h => by cases h⟩
  | n + 1, h => by
    obtain ⟨xs, hl, hx⟩ := exists_list n (fun i hi => h i (by omega))
    obtain ⟨x, hq⟩ := h n (by omega)
    refine ⟨xs ++ [x], by simp [hl], fun i hi => ?_⟩
    by_cases e : i < xs.length
    · rw [List.getElem_append_left e]; exact hx i e
    · have : i = n := by simp at hi; omega
      subst this
      rw [List.getElem_append_right (by omega)]
      simpa [hl] using hq

end Go.Proofs.YtabibfabieghpaaGreatDoor
