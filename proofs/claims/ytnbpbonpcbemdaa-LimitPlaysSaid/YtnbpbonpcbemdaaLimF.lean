/- Names that do not meddle with each other, in plain Lean. -/
import Derived.Test.YtnbpbonpcbemdaaLimD
namespace Go.Proofs.Ytnbpbonpcbemdaa
open Go.RowKit
/-- what is kept of a name -/
def keptR : List Bkt → ByteArray → Option Bkt
  | [], _ => none
  | x :: l, s => if x.name = s then some x else keptR l s
theorem keptR_cons (x : Bkt) (l : List Bkt) (s : ByteArray) : keptR (x :: l) s = if x.name = s then some x else keptR l s := rfl
def dropR : List Bkt → ByteArray → List Bkt
  | [], _ => []
  | x :: l, s => if x.name = s then l else x :: dropR l s
theorem keptR_eq : ∀ (l : List Bkt) (s : ByteArray), ((findN l s).bind fun k => l[k]?) = keptR l s
  | [], _ => rfl
  | x :: l, s => by
    unfold findN keptR
    by_cases h : x.name = s
    · rw [if_pos h, if_pos h]; rfl
    · rw [if_neg h, if_neg h, ← keptR_eq l s]
      cases findN l s <;> rfl
theorem dropR_eq : ∀ (l : List Bkt) (s : ByteArray), dropN l s = dropR l s
  | [], _ => rfl
  | x :: l, s => by
    have ih := dropR_eq l s
    unfold dropN at ih ⊢
    unfold findN dropR
    by_cases h : x.name = s
    · rw [if_pos h, if_pos h]; rfl
    · rw [if_neg h, if_neg h, ← ih]
      cases findN l s <;> rfl
theorem ofN_R (burst : Nat) (l : List Bkt) (s : ByteArray) (t : Int) : ofN burst l s t = (keptR l s).getD ⟨s, burst, t⟩ := by
  unfold ofN; rw [keptR_eq]
theorem keptR_drop : ∀ (l : List Bkt) (s z : ByteArray), z ≠ s → keptR (dropR l s) z = keptR l z
  | [], _, _, _ => rfl
  | x :: l, s, z, h => by
    unfold dropR
    by_cases hx : x.name = s
    · rw [if_pos hx, keptR_cons, if_neg (by rw [hx]; exact fun e => h e.symm)]
    · rw [if_neg hx, keptR_cons, keptR_cons, keptR_drop l s z h]
theorem dropR_sub : ∀ (l : List Bkt) (s : ByteArray), ((dropR l s).map Bkt.name).Sublist (l.map Bkt.name)
  | [], _ => List.Sublist.refl _
  | x :: l, s => by
    unfold dropR
    split
    · exact List.sublist_cons_self ..
    · exact List.Sublist.cons_cons _ (dropR_sub l s)
theorem dropR_not : ∀ (l : List Bkt) (s : ByteArray), (l.map Bkt.name).Nodup → s ∉ (dropR l s).map Bkt.name
  | [], _, _ => by simp [dropR]
  | x :: l, s, h => by
    rw [List.map_cons, List.nodup_cons] at h
    unfold dropR
    by_cases hx : x.name = s
    · rw [if_pos hx, ← hx]; exact h.1
    · rw [if_neg hx, List.map_cons, List.mem_cons]
      rintro (e | e)
      · exact hx e.symm
      · exact dropR_not l s h.2 e
theorem nodup_le {α : Type} [DecidableEq α] : ∀ (l m : List α), l.Nodup → (∀ x ∈ l, x ∈ m) → l.length ≤ m.length
  | [], _, _, _ => Nat.zero_le _
  | x :: l, m, h, hs => by
    rw [List.nodup_cons] at h
    have hx := hs x (List.mem_cons_self ..)
    have h2 := nodup_le l (m.erase x) h.2 fun y hy => (List.mem_erase_of_ne (by rintro rfl; exact h.1 hy)).2 (hs y (List.mem_cons_of_mem _ hy))
    rw [List.length_erase_of_mem hx] at h2
    have : 0 < m.length := List.length_pos_of_mem hx
    rw [List.length_cons]
    omega
/-- Of the sixteen names, each once. -/
structure Six (l : List Bkt) : Prop where
  nd : (l.map Bkt.name).Nodup
  of : ∀ s ∈ l.map Bkt.name, s ∈ (List.range 16).map nmS
theorem Six.len {l : List Bkt} (h : Six l) : l.length ≤ 16 := by
  have := nodup_le _ _ h.nd h.of
  rwa [List.length_map, List.length_map, List.length_range] at this
theorem Six.cons {l : List Bkt} (h : Six l) (y : Bkt) (k : Nat) (hk : k < 16) (hy : y.name = nmS k) : Six (y :: dropR l y.name) := by
  refine ⟨?_, ?_⟩
  · rw [List.map_cons, List.nodup_cons]
    exact ⟨dropR_not l _ h.nd, (dropR_sub l _).nodup h.nd⟩
  · intro s hs
    rw [List.map_cons, List.mem_cons] at hs
    rcases hs with rfl | hs
    · rw [hy]; exact List.mem_map.2 ⟨k, List.mem_range.2 hk, rfl⟩
    · exact h.of s ((dropR_sub l _).subset hs)
def newN (rate burst : Nat) (l : List Bkt) (s : ByteArray) (cost : Nat) (now : Int) : Bkt := ⟨s, Fl.D (hasN rate burst l s now) (Fl.Z cost), max (nearN now) (ofN burst l s (nearN now)).at_⟩
theorem tookN_six {rate burst : Nat} {l : List Bkt} {cost k : Nat} {now : Int} (h : Six l) (hk : k < 16) : tookN rate burst l (nmS k) cost now = newN rate burst l (nmS k) cost now :: dropR l (nmS k) ∧ Six (tookN rate burst l (nmS k) cost now) := by
  have h2 := h.cons (newN rate burst l (nmS k) cost now) k hk rfl
  have e : tookN rate burst l (nmS k) cost now = newN rate burst l (nmS k) cost now :: dropR l (nmS k) := by
    unfold tookN
    rw [dropR_eq]
    exact List.take_of_length_le h2.len
  exact ⟨e, by rw [e]; exact h2⟩
theorem nmS_inj : ∀ a, a < 16 → ∀ b, b < 16 → nmS a = nmS b → a = b := by decide
/-- One of a name, or none. -/
def One (m : List Bkt) (z : ByteArray) : Prop := m = [] ∨ ∃ y, m = [y] ∧ y.name = z
theorem One.len {m : List Bkt} {z : ByteArray} (h : One m z) : m.length ≤ 1 := by
  rcases h with rfl | ⟨y, rfl, -⟩ <;> simp
theorem One.took {rate burst cost : Nat} {now : Int} {m : List Bkt} {z : ByteArray} (h : One m z) : tookN rate burst m z cost now = [newN rate burst m z cost now] := by
  have e : dropR m z = [] := by
    rcases h with rfl | ⟨y, rfl, hy⟩
    · rfl
    · unfold dropR; rw [if_pos hy]
  unfold tookN
  rw [dropR_eq, e]
  rfl
theorem hasN_same {rate burst : Nat} {l m : List Bkt} {z : ByteArray} (h : keptR l z = keptR m z) (t : Int) : hasN rate burst l z t = hasN rate burst m z t := by
  unfold hasN; rw [ofN_R, ofN_R, h]
theorem ofN_same {burst : Nat} {l m : List Bkt} {z : ByteArray} (h : keptR l z = keptR m z) (t : Int) : ofN burst l z t = ofN burst m z t := by
  rw [ofN_R, ofN_R, h]
theorem newN_same {rate burst cost : Nat} {l m : List Bkt} {z : ByteArray} (h : keptR l z = keptR m z) (t : Int) : newN rate burst l z cost t = newN rate burst m z cost t := by
  unfold newN; rw [hasN_same h, ofN_same h]
theorem keptR_head (x : Bkt) (l : List Bkt) : keptR (x :: l) x.name = some x := by unfold keptR; rw [if_pos rfl]
/-- Both let in. -/
theorem took_both {rate burst cost k : Nat} {l m : List Bkt} {now : Int} (hs : Six l) (hk : k < 16) (ho : One m (nmS k)) (h : keptR l (nmS k) = keptR m (nmS k)) :
    keptR (tookN rate burst l (nmS k) cost now) (nmS k) = keptR (tookN rate burst m (nmS k) cost now) (nmS k) ∧ One (tookN rate burst m (nmS k) cost now) (nmS k) := by
  rw [(tookN_six hs hk).1, ho.took, newN_same h]
  exact ⟨(keptR_head (newN rate burst m (nmS k) cost now) _).trans (keptR_head (newN rate burst m (nmS k) cost now) []).symm, .inr ⟨_, rfl, rfl⟩⟩
/-- Another one let in. -/
theorem took_other {rate burst cost k j : Nat} {l m : List Bkt} {now : Int} (hs : Six l) (hk : k < 16) (hj : j < 16) (hne : k ≠ j) (h : keptR l (nmS j) = keptR m (nmS j)) :
    keptR (tookN rate burst l (nmS k) cost now) (nmS j) = keptR m (nmS j) := by
  have hn : nmS j ≠ nmS k := fun e => hne (nmS_inj j hj k hk e).symm
  rw [(tookN_six hs hk).1, ← h, keptR_cons, if_neg (fun e => hn e.symm)]
  exact keptR_drop l _ _ hn
end Go.Proofs.Ytnbpbonpcbemdaa
