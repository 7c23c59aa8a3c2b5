/- Go's order of texts, and lists of texts that rise, in plain Lean. -/
import Derived.Test.YtabibfabieghpaaGreatDoorStr
namespace Go.Proofs.YtabibfabieghpaaGreatDoor
open Go.RowKit
namespace Tx
theorem lt_irrefl : ∀ a : List UInt8, Op.bytesLess a a = false
  | [] => rfl
  | a :: x => by simp [Op.bytesLess, lt_irrefl x]
theorem lt_tri : ∀ a b : List UInt8, Op.bytesLess a b = true ∨ a = b ∨ Op.bytesLess b a = true
  | [], [] => .inr (.inl rfl)
  | [], _ :: _ => .inl rfl
  | _ :: _, [] => .inr (.inr rfl)
  | a :: x, b :: y => by
    simp only [Op.bytesLess, Bool.or_eq_true, decide_eq_true_eq, Bool.and_eq_true, beq_iff_eq, List.cons.injEq]
    rcases (by have h := @UInt8.toNat_inj a b; have h1 := @UInt8.lt_iff_toNat_lt a b; have h2 := @UInt8.lt_iff_toNat_lt b a; rcases Nat.lt_trichotomy a.toNat b.toNat with e | e | e; exact .inl (h1.2 e); exact .inr (.inl (h.1 e)); exact .inr (.inr (h2.2 e)) : a < b ∨ a = b ∨ b < a) with e | e | e
    · exact .inl (.inl e)
    · subst e
      rcases lt_tri x y with e2 | e2 | e2
      · exact .inl (.inr ⟨rfl, e2⟩)
      · exact .inr (.inl ⟨rfl, e2⟩)
      · exact .inr (.inr (.inr ⟨rfl, e2⟩))
    · exact .inr (.inr (.inl e))
theorem lt_trans : ∀ {a b c : List UInt8}, Op.bytesLess a b = true → Op.bytesLess b c = true → Op.bytesLess a c = true
  | _, [], _, h, _ => by simp [Op.bytesLess] at h
  | _, _ :: _, [], _, h => by simp [Op.bytesLess] at h
  | [], _ :: _, _ :: _, _, _ => rfl
  | a :: x, b :: y, c :: z, h1, h2 => by
    simp only [Op.bytesLess, Bool.or_eq_true, decide_eq_true_eq, Bool.and_eq_true, beq_iff_eq] at h1 h2 ⊢
    have hab := @UInt8.lt_iff_toNat_lt a b
    have hbc := @UInt8.lt_iff_toNat_lt b c
    have hac := @UInt8.lt_iff_toNat_lt a c
    rcases h1 with h1 | ⟨rfl, h1⟩ <;> rcases h2 with h2 | ⟨rfl, h2⟩
    · exact .inl (hac.2 (Nat.lt_trans (hab.1 h1) (hbc.1 h2)))
    · exact .inl h1
    · exact .inl h2
    · exact .inr ⟨rfl, lt_trans h1 h2⟩
theorem lt_asymm {a b : List UInt8} (h : Op.bytesLess a b = true) : Op.bytesLess b a = false := by
  cases e : Op.bytesLess b a with
  | false => rfl
  | true => exact absurd (lt_trans h e) (by rw [lt_irrefl]; decide)
theorem lt_ne {a b : List UInt8} (h : Op.bytesLess a b = true) : a ≠ b := by
  rintro rfl; rw [lt_irrefl] at h; cases h
end Tx
/-- a below b. -/
def slt (a b : ByteArray) : Bool := Op.bytesLess a.data.toList b.data.toList
theorem slt_walk (a b : ByteArray) : Op.bytesLess a.toList b.toList = slt a b := by unfold slt; rw [ByteArray.toList_eq, ByteArray.toList_eq]
theorem str_eq_of {a b : ByteArray} (h : a.data.toList = b.data.toList) : a = b := ByteArray.ext (Array.toList_inj.1 h)
/-- How two texts stand, as the walk spells it. -/
theorem slt_tri (a b : ByteArray) : (slt a b = true ∧ slt b a = false ∧ a ≠ b ∧ Op.bytesLess a.toList b.toList = true ∧ Op.bytesLess b.toList a.toList = false ∧ (a.toList == b.toList) = false ∧ (b.toList == a.toList) = false)
    ∨ (slt a b = false ∧ slt b a = false ∧ a = b ∧ Op.bytesLess a.toList b.toList = false ∧ Op.bytesLess b.toList a.toList = false ∧ (a.toList == b.toList) = true ∧ (b.toList == a.toList) = true)
    ∨ (slt a b = false ∧ slt b a = true ∧ a ≠ b ∧ Op.bytesLess a.toList b.toList = false ∧ Op.bytesLess b.toList a.toList = true ∧ (a.toList == b.toList) = false ∧ (b.toList == a.toList) = false) := by
  simp only [slt_walk]
  simp only [slt, ByteArray.toList_eq, beq_eq_false_iff_ne, beq_iff_eq]
  rcases Tx.lt_tri a.data.toList b.data.toList with h | h | h
  · have h2 := Tx.lt_asymm h
    have h3 := Tx.lt_ne h
    exact .inl ⟨h, h2, fun e => h3 (by rw [e]), h, h2, h3, h3.symm⟩
  · obtain rfl := str_eq_of h
    have h2 := Tx.lt_irrefl a.data.toList
    exact .inr (.inl ⟨h2, h2, rfl, h2, h2, rfl, rfl⟩)
  · have h2 := Tx.lt_asymm h
    have h3 := Tx.lt_ne h
    exact .inr (.inr ⟨h2, h, fun e => h3 (by rw [e]), h2, h, h3.symm, h3⟩)
theorem slt_trans {a b c : ByteArray} (h1 : slt a b = true) (h2 : slt b c = true) : slt a c = true := Tx.lt_trans h1 h2
theorem slt_irrefl (a : ByteArray) : slt a a = false := Tx.lt_irrefl _
theorem slt_asymm {a b : ByteArray} (h1 : slt a b = true) : slt b a = false := Tx.lt_asymm h1
theorem slt_le {a b c : ByteArray} (h1 : slt a b = true) (h2 : slt c b = false) : slt a c = true := by
  rcases slt_tri b c with ⟨h, -⟩ | ⟨-, -, rfl, -⟩ | ⟨-, h, -⟩
  · exact slt_trans h1 h
  · exact h1
  · rw [h] at h2; cases h2
/-- Each above the one ahead of it. -/
def risesB : List ByteArray → Bool
  | a :: b :: l => slt a b && risesB (b :: l)
  | _ => true
theorem risesB_iff : ∀ xs : List ByteArray, risesB xs = true ↔ ∀ i a b, xs[i]? = some a → xs[i + 1]? = some b → slt a b = true
  | [] => by simp [risesB]
  | [_] => by simp [risesB]
  | a :: b :: l => by
    have ih := risesB_iff (b :: l)
    simp only [risesB, Bool.and_eq_true]
    constructor
    · rintro ⟨h1, h2⟩ i x y hx hy
      cases i with
      | zero =>
        simp at hx hy
        subst hx hy
        exact h1
      | succ i => exact ih.1 h2 i x y (by simpa using hx) (by simpa using hy)
    · intro h
      exact ⟨h 0 a b rfl rfl, ih.2 fun i x y hx hy => h (i + 1) x y (by simpa using hx) (by simpa using hy)⟩
/-- In a list that rises, whatever stands further back is above. -/
theorem rises_lt {xs : List ByteArray} (h : risesB xs = true) : ∀ (d i : Nat) (a b : ByteArray), xs[i]? = some a → xs[i + d + 1]? = some b → slt a b = true
  | 0, i, a, b, ha, hb => (risesB_iff xs).1 h i a b ha hb
  | d + 1, i, a, b, ha, hb => by
    have hl : i + d + 1 < xs.length := by have := (List.getElem?_eq_some_iff.1 hb).1; omega
    exact slt_trans (rises_lt h d i a _ ha (List.getElem?_eq_getElem hl)) ((risesB_iff xs).1 h (i + d + 1) _ b (List.getElem?_eq_getElem hl) hb)
end Go.Proofs.YtabibfabieghpaaGreatDoor
namespace Go.Proofs.YtabibfabieghpaaGreatDoor
open Go.RowKit
theorem rises_step {xs : List ByteArray} {k : Nat} {a b : ByteArray} (hp : ∀ i a b, i + 1 < k + 1 → xs[i]? = some a → xs[i + 1]? = some b → slt a b = true) (ha : xs[k]? = some a) (hb : xs[k + 1]? = some b) (h : slt a b = true) :
    ∀ i a b, i + 1 < k + 1 + 1 → xs[i]? = some a → xs[i + 1]? = some b → slt a b = true := fun i x y hi hx hy => by
  by_cases e : i = k
  · subst e
    rw [ha] at hx
    rw [hb] at hy
    injection hx with hx
    injection hy with hy
    subst hx hy
    exact h
  · exact hp i x y (by omega) hx hy
theorem rises_not {xs : List ByteArray} {k : Nat} {a b : ByteArray} (ha : xs[k]? = some a) (hb : xs[k + 1]? = some b) (h : slt a b = false) : risesB xs = false := by
  cases e : risesB xs with
  | false => rfl
  | true => rw [(risesB_iff xs).1 e k a b ha hb] at h; cases h
end Go.Proofs.YtabibfabieghpaaGreatDoor
