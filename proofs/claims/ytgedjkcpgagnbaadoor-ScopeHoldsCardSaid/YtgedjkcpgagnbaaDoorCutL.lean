/- A text cut at its spaces, in plain Lean. -/
import Derived.Lib.Split
import Derived.Lib.IndexBytes
import Derived.Lib.SplitLaws
import Derived.Lib.IndexLaws
namespace Go.Proofs.YtgedjkcpgagnbaaDoor
/-- What the spaces of a text part, byte by byte. -/
def cutL : List UInt8 → List (List UInt8)
  | [] => [[]]
  | c :: l => if c = 32 then [] :: cutL l else match cutL l with
    | [] => [[c]]
    | p :: ps => (c :: p) :: ps
theorem cutL_ne : ∀ l : List UInt8, cutL l ≠ []
  | [] => by simp [cutL]
  | c :: l => by
    unfold cutL
    split
    · simp
    · split <;> simp
theorem cutL_whole : ∀ {p : List UInt8}, (∀ x ∈ p, x ≠ 32) → cutL p = [p]
  | [], _ => rfl
  | c :: p, h => by
    unfold cutL
    rw [if_neg (h c (List.mem_cons_self ..)), cutL_whole fun x hx => h x (List.mem_cons_of_mem _ hx)]
theorem cutL_hit : ∀ {p : List UInt8} (l : List UInt8), (∀ x ∈ p, x ≠ 32) → cutL (p ++ 32 :: l) = p :: cutL l
  | [], l, _ => by simp [cutL]
  | c :: p, l, h => by
    show (if c = 32 then [] :: cutL (p ++ 32 :: l) else match cutL (p ++ 32 :: l) with | [] => [[c]] | q :: qs => (c :: q) :: qs) = _
    rw [if_neg (h c (List.mem_cons_self ..)), cutL_hit l fun x hx => h x (List.mem_cons_of_mem _ hx)]
theorem split_cut : ∀ (n : Nat) (s : List UInt8), s.length ≤ n → Lib.splitK [32] 0 (Lib.count s [32]) s = cutL s := fun n => by
  induction n with
  | zero =>
    intro s hs
    have : s = [] := List.eq_nil_of_length_eq_zero (by omega)
    subst this
    rfl
  | succ n ih =>
    intro s hs
    have h1 := Lib.indexByte_ge s 32
    by_cases hm : Lib.indexByte s 32 = -1
    · have e : Lib.index s [32] = -1 := by rw [Lib.index_one]; exact hm
      rw [Lib.count_miss e]
      show [s] = _
      rw [cutL_whole]
      intro x hx e2
      subst e2
      obtain ⟨k, hk⟩ := List.getElem?_of_mem hx
      exact Lib.indexByte_none hm k hk
    · obtain ⟨i, hi⟩ : ∃ i : Nat, Lib.indexByte s 32 = i := ⟨(Lib.indexByte s 32).toNat, by omega⟩
      have e : Lib.index s [32] = i := by rw [Lib.index_one]; exact hi
      obtain ⟨h2, h3⟩ := Lib.indexByte_some hi
      obtain ⟨hl, h2'⟩ := List.getElem?_eq_some_iff.1 h2
      have es : s = s.take i ++ 32 :: s.drop (i + 1) := by
        conv => lhs; rw [← List.take_append_drop i s, List.drop_eq_getElem_cons hl, h2']
      rw [Lib.count_hit (by simp) e, Nat.add_comm 1]
      unfold Lib.splitK
      have hne : ¬ (Lib.index s [32] == -1) = true := fun q => by have := beq_iff_eq.1 q; omega
      rw [if_neg hne, e]
      show s.take i :: Lib.splitK [32] 0 (Lib.count (s.drop (i + 1)) [32]) (s.drop (i + 1)) = _
      rw [ih _ (by rw [List.length_drop]; omega)]
      conv => rhs; rw [es]
      rw [cutL_hit]
      intro x hx e2
      subst e2
      obtain ⟨k, hk⟩ := List.getElem?_of_mem hx
      have hk2 : k < i := by
        have := (List.getElem?_eq_some_iff.1 hk).1
        rw [List.length_take] at this
        omega
      rw [List.getElem?_take_of_lt hk2] at hk
      exact h3 k hk2 hk
abbrev spB : ByteArray := ⟨#[32]⟩
/-- What the spaces of a text part. -/
def pieces (s : ByteArray) : List ByteArray := Lib.splitB spB 0 (Lib.countB s spB) s
theorem pieces_len (s : ByteArray) : (pieces s).length = Lib.countB s spB + 1 ∧ Lib.countB s spB ≤ s.size := ⟨Lib.splitB_all spB (by decide) 0 _ s rfl, Lib.countB_le spB (by decide) s.size s (Nat.le_refl _)⟩
theorem pieces_data (s : ByteArray) : (pieces s).map (fun x => x.data.toList) = cutL s.data.toList := by
  unfold pieces
  rw [Lib.splitB_data]
  exact split_cut _ _ (Nat.le_refl _)
theorem pieces_of {s : ByteArray} {xs : List ByteArray} (h : cutL s.data.toList = xs.map fun x => x.data.toList) : pieces s = xs := by
  have h1 := (pieces_data s).trans h
  have h2 := congrArg (List.map fun b : List UInt8 => (⟨b.toArray⟩ : ByteArray)) h1
  rw [List.map_map, List.map_map] at h2
  have e : ((fun b : List UInt8 => (⟨b.toArray⟩ : ByteArray)) ∘ fun s : ByteArray => s.data.toList) = id := by funext b; rfl
  rwa [e, List.map_id, List.map_id] at h2
/-- Each piece is no longer than the text. -/
theorem cutL_le : ∀ (l : List UInt8), ∀ p ∈ cutL l, p.length ≤ l.length
  | [], p, hp => by simp [cutL] at hp; simp [hp]
  | c :: l, p, hp => by
    have ih := cutL_le l
    unfold cutL at hp
    split at hp
    · rcases List.mem_cons.1 hp with rfl | hp
      · simp
      · have := ih p hp; simp; omega
    · split at hp
      · rename_i e; exact absurd e (cutL_ne l)
      · rename_i q qs e
        rcases List.mem_cons.1 hp with rfl | hp
        · have := ih q (by rw [e]; exact List.mem_cons_self ..); simp; omega
        · have := ih p (by rw [e]; exact List.mem_cons_of_mem _ hp); simp; omega
end Go.Proofs.YtgedjkcpgagnbaaDoor
