/- Digits of sixteen: of the program and of the document. -/
import Derived.Test.YtokephnlelpjhaaDoorFromStd
namespace Go.Proofs.YtokephnlelpjhaaDoor
open Go.RowKit
abbrev hexB : ByteArray := ⟨#[48, 49, 50, 51, 52, 53, 54, 55, 56, 57, 97, 98, 99, 100, 101, 102]⟩
theorem hex_size : hexB.size = 16 := by kernel_rfl
abbrev hexD (k : Nat) : UInt8 := hexB.data.toList.getD k 0
def hexL : List UInt8 → List UInt8
  | [] => []
  | c :: l => hexD (c.toNat / 16) :: hexD (c.toNat % 16) :: hexL l
def unhexL : List UInt8 → Option (List UInt8)
  | [] => some []
  | [_] => none
  | a :: b :: l => match pl hexB.data.toList a, pl hexB.data.toList b with
    | some x, some y => (unhexL l).map (UInt8.ofNat (x * 16 + y) :: ·)
    | _, _ => none
theorem hexL_len : ∀ l : List UInt8, (hexL l).length = 2 * l.length
  | [] => rfl
  | c :: l => by simp only [hexL, List.length_cons, hexL_len l]; omega
theorem hexL_snoc (l : List UInt8) (c : UInt8) : hexL (l ++ [c]) = hexL l ++ [hexD (c.toNat / 16), hexD (c.toNat % 16)] := by
  induction l with
  | nil => rfl
  | cons a l ih => simp only [List.cons_append, hexL, ih]
theorem hex_pl : ∀ k : Fin 16, pl hexB.data.toList (hexD k.1) = some k.1 := by decide +kernel
theorem hex_back : ∀ l : List UInt8, unhexL (hexL l) = some l
  | [] => rfl
  | c :: l => by
    have hc := c.toNat_lt
    have h1 := hex_pl ⟨c.toNat / 16, by omega⟩
    have h2 := hex_pl ⟨c.toNat % 16, by omega⟩
    simp only [hexL, unhexL]
    dsimp only at h1 h2
    rw [h1, h2, hex_back l]
    simp only [Option.map_some]
    rw [Six.ofNat_eq c _ (by omega)]
theorem pl_get {s : List UInt8} {c : UInt8} {k : Nat} (h : pl s c = some k) : s.getD k 0 = c := by
  unfold pl at h
  obtain ⟨hk, h1, _⟩ := List.findIdx?_eq_some_iff_getElem.1 h
  rw [List.getD_eq_getElem?_getD, List.getElem?_eq_getElem hk]
  simpa using h1
theorem hex_again : ∀ (l t : List UInt8), unhexL l = some t → hexL t = l
  | [], t, h => by simp [unhexL] at h; subst h; rfl
  | [_], t, h => by simp [unhexL] at h
  | a :: b :: l, t, h => by
    simp only [unhexL] at h
    split at h
    · rename_i x y hx hy
      obtain ⟨t', h1, rfl⟩ := Option.map_eq_some_iff.1 h
      have hx16 := pl_lt hx
      have hy16 := pl_lt hy
      have e16 : hexB.data.toList.length = 16 := rfl
      rw [e16] at hx16 hy16
      have ex := pl_get hx
      have ey := pl_get hy
      have en : (UInt8.ofNat (x * 16 + y)).toNat = x * 16 + y := by
        rw [UInt8.toNat_ofNat']
        omega
      simp only [hexL, en]
      rw [hex_again l t' h1]
      have e1 : (x * 16 + y) / 16 = x := by omega
      have e2 : (x * 16 + y) % 16 = y := by omega
      rw [e1, e2]
      show hexB.data.toList.getD x 0 :: hexB.data.toList.getD y 0 :: l = _
      rw [ex, ey]
    · cases h
end Go.Proofs.YtokephnlelpjhaaDoor
