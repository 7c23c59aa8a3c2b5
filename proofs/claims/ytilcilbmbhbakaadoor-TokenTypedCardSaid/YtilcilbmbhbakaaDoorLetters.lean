/- Bytes by signs of six bits, in plain Lean. No program in sight. -/
import Derived.Test.YtilcilbmbhbakaaDoorSl
namespace Go.Proofs.YtilcilbmbhbakaaDoor
namespace Six
/-- The signs that are whole among the m lowest bits of h. -/
def em (sg : Nat → UInt8) (h : Nat) : Nat → List UInt8
  | m + 6 => sg (h / 2 ^ m % 64) :: em sg h m
  | _ => []
def enc (sg : Nat → UInt8) : Nat → Nat → List UInt8 → List UInt8
  | h, n, [] => if 0 < n then [sg (h * 2 ^ (6 - n) % 64)] else []
  | h, n, c :: l => em sg (h * 256 + c.toNat) (n + 8) ++ enc sg ((h * 256 + c.toNat) % 2 ^ ((n + 8) % 6)) ((n + 8) % 6) l
abbrev eqs : UInt8 := 61
/-- What stands behind the signs of so many bytes. -/
def fill (n : Nat) : List UInt8 := if n % 3 = 1 then [eqs, eqs] else if n % 3 = 2 then [eqs] else []
def grp (sg : Nat → UInt8) (f : Bool) : List UInt8 → List UInt8
  | [] => []
  | [a] => [sg (a.toNat * 65536 / 262144 % 64), sg (a.toNat * 65536 * 64 / 262144 % 64)] ++ if f then [eqs, eqs] else []
  | [a, b] => [sg ((a.toNat * 65536 + b.toNat * 256) / 262144 % 64), sg ((a.toNat * 65536 + b.toNat * 256) * 64 / 262144 % 64), sg ((a.toNat * 65536 + b.toNat * 256) * 4096 / 262144 % 64)] ++ if f then [eqs] else []
  | a :: b :: c :: l => sg ((a.toNat * 65536 + b.toNat * 256 + c.toNat) / 262144 % 64) :: sg ((a.toNat * 65536 + b.toNat * 256 + c.toNat) * 64 / 262144 % 64) :: sg ((a.toNat * 65536 + b.toNat * 256 + c.toNat) * 4096 / 262144 % 64) :: sg ((a.toNat * 65536 + b.toNat * 256 + c.toNat) * 262144 / 262144 % 64) :: grp sg f l
theorem em8 (sg : Nat → UInt8) (h : Nat) : em sg h 8 = [sg (h / 4 % 64)] := rfl
theorem em10 (sg : Nat → UInt8) (h : Nat) : em sg h 10 = [sg (h / 16 % 64)] := rfl
theorem em12 (sg : Nat → UInt8) (h : Nat) : em sg h 12 = [sg (h / 64 % 64), sg (h / 1 % 64)] := rfl
theorem enc0 (sg : Nat → UInt8) (h n : Nat) (hn : 0 < n) : enc sg h n [] = [sg (h * 2 ^ (6 - n) % 64)] := by simp [enc, hn]
theorem encz (sg : Nat → UInt8) (h : Nat) : enc sg h 0 [] = [] := rfl
theorem encc (sg : Nat → UInt8) (h n : Nat) (c : UInt8) (l : List UInt8) : enc sg h n (c :: l) = em sg (h * 256 + c.toNat) (n + 8) ++ enc sg ((h * 256 + c.toNat) % 2 ^ ((n + 8) % 6)) ((n + 8) % 6) l := rfl
theorem enc_h0 (sg : Nat → UInt8) (h : Nat) (l : List UInt8) : enc sg (h % 1) 0 l = enc sg 0 0 l := by rw [Nat.mod_one]
theorem enc1 (sg : Nat → UInt8) (a : UInt8) : enc sg 0 0 [a] = grp sg false [a] := by
  have ha := a.toNat_lt
  rw [encc]
  show em sg (0 * 256 + a.toNat) 8 ++ enc sg ((0 * 256 + a.toNat) % 4) 2 [] = _
  rw [em8, enc0 _ _ _ (by omega)]
  show sg _ :: [sg _] = [sg _, sg _]
  exact List.cons_eq_cons.2 ⟨congrArg sg (by omega), List.cons_eq_cons.2 ⟨congrArg sg (by show (0 * 256 + a.toNat) % 4 * 16 % 64 = _; omega), rfl⟩⟩
theorem enc2 (sg : Nat → UInt8) (a b : UInt8) : enc sg 0 0 [a, b] = grp sg false [a, b] := by
  have ha := a.toNat_lt
  have hb := b.toNat_lt
  rw [encc]
  show em sg (0 * 256 + a.toNat) 8 ++ enc sg ((0 * 256 + a.toNat) % 4) 2 [b] = _
  rw [em8, encc]
  show [_] ++ (em sg ((0 * 256 + a.toNat) % 4 * 256 + b.toNat) 10 ++ enc sg (((0 * 256 + a.toNat) % 4 * 256 + b.toNat) % 16) 4 []) = _
  rw [em10, enc0 _ _ _ (by omega)]
  show sg _ :: sg _ :: [sg _] = [sg _, sg _, sg _]
  exact List.cons_eq_cons.2 ⟨congrArg sg (by omega), List.cons_eq_cons.2 ⟨congrArg sg (by omega), List.cons_eq_cons.2 ⟨congrArg sg (by show ((0 * 256 + a.toNat) % 4 * 256 + b.toNat) % 16 * 4 % 64 = _; omega), rfl⟩⟩⟩
theorem enc3 (sg : Nat → UInt8) (a b c : UInt8) (l : List UInt8) : enc sg 0 0 (a :: b :: c :: l) = sg ((a.toNat * 65536 + b.toNat * 256 + c.toNat) / 262144 % 64) :: sg ((a.toNat * 65536 + b.toNat * 256 + c.toNat) * 64 / 262144 % 64) :: sg ((a.toNat * 65536 + b.toNat * 256 + c.toNat) * 4096 / 262144 % 64) :: sg ((a.toNat * 65536 + b.toNat * 256 + c.toNat) * 262144 / 262144 % 64) :: enc sg 0 0 l := by
  have ha := a.toNat_lt
  have hb := b.toNat_lt
  have hc := c.toNat_lt
  rw [encc]
  show em sg (0 * 256 + a.toNat) 8 ++ enc sg ((0 * 256 + a.toNat) % 4) 2 (b :: c :: l) = _
  rw [em8, encc]
  show [_] ++ (em sg ((0 * 256 + a.toNat) % 4 * 256 + b.toNat) 10 ++ enc sg (((0 * 256 + a.toNat) % 4 * 256 + b.toNat) % 16) 4 (c :: l)) = _
  rw [em10, encc]
  show [_] ++ ([_] ++ (em sg (((0 * 256 + a.toNat) % 4 * 256 + b.toNat) % 16 * 256 + c.toNat) 12 ++ enc sg ((((0 * 256 + a.toNat) % 4 * 256 + b.toNat) % 16 * 256 + c.toNat) % 1) 0 l)) = _
  rw [em12, enc_h0]
  show sg _ :: sg _ :: sg _ :: sg _ :: _ = _
  exact List.cons_eq_cons.2 ⟨congrArg sg (by omega), List.cons_eq_cons.2 ⟨congrArg sg (by omega), List.cons_eq_cons.2 ⟨congrArg sg (by omega), List.cons_eq_cons.2 ⟨congrArg sg (by omega), rfl⟩⟩⟩⟩
theorem three {P : List UInt8 → Prop} (h0 : P []) (h1 : ∀ a, P [a]) (h2 : ∀ a b, P [a, b]) (h3 : ∀ a b c l, P l → P (a :: b :: c :: l)) : ∀ l, P l
  | [] => h0
  | [a] => h1 a
  | [a, b] => h2 a b
  | a :: b :: c :: l => h3 a b c l (three h0 h1 h2 h3 l)
theorem enc_grp (sg : Nat → UInt8) (l : List UInt8) : enc sg 0 0 l = grp sg false l := by
  induction l using three with
  | h0 => rfl
  | h1 a => exact enc1 sg a
  | h2 a b => exact enc2 sg a b
  | h3 a b c l ih => rw [enc3, ih]; rfl
theorem fill_add (n : Nat) : fill (n + 3) = fill n := by unfold fill; rw [Nat.add_mod_right]
theorem grp_fill (sg : Nat → UInt8) (l : List UInt8) : grp sg true l = enc sg 0 0 l ++ fill l.length := by
  induction l using three with
  | h0 => rfl
  | h1 a => rw [enc1]; rfl
  | h2 a b => rw [enc2]; rfl
  | h3 a b c l ih => rw [enc3]; simp only [grp, ih, List.length_cons, fill_add, List.cons_append]
theorem enc_len (sg : Nat → UInt8) (l : List UInt8) : (enc sg 0 0 l).length = (4 * l.length + 2) / 3 := by
  induction l using three with
  | h0 => rfl
  | h1 a => rw [enc1]; simp [grp]
  | h2 a b => rw [enc2]; simp [grp]
  | h3 a b c l ih => rw [enc3]; simp only [List.length_cons, ih]; omega
theorem fill_len (n : Nat) : (fill n).length = (n + 2) / 3 * 4 - (4 * n + 2) / 3 := by
  unfold fill
  split
  · show 2 = _; omega
  · split
    · show 1 = _; omega
    · show 0 = _; omega
/-- Bytes out of signs. -/
def dec (pl : UInt8 → Option Nat) : Nat → Nat → List UInt8 → Option (List UInt8)
  | _, _, [] => some []
  | h, n, c :: l => match pl c with
    | none => none
    | some k => if 8 ≤ n + 6 then (dec pl ((h * 64 + k) % 2 ^ (n + 6 - 8)) (n + 6 - 8) l).map (UInt8.ofNat ((h * 64 + k) / 2 ^ (n + 6 - 8)) :: ·) else dec pl (h * 64 + k) (n + 6) l
section
variable {pl : UInt8 → Option Nat} {sg : Nat → UInt8}
theorem dec_none {h n : Nat} {c : UInt8} {l : List UInt8} (hc : pl c = none) : dec pl h n (c :: l) = none := by simp only [dec, hc]
theorem dec_low {h n k : Nat} {c : UInt8} {l : List UInt8} (hc : pl c = some k) (hn : n + 6 < 8) : dec pl h n (c :: l) = dec pl (h * 64 + k) (n + 6) l := by
  simp only [dec, hc]; rw [if_neg (by omega)]
theorem dec_high {h n k : Nat} {c : UInt8} {l : List UInt8} (hc : pl c = some k) (hn : 8 ≤ n + 6) : dec pl h n (c :: l) = (dec pl ((h * 64 + k) % 2 ^ (n + 6 - 8)) (n + 6 - 8) l).map (UInt8.ofNat ((h * 64 + k) / 2 ^ (n + 6 - 8)) :: ·) := by
  simp only [dec, hc]; rw [if_pos hn]
theorem ofNat_eq (a : UInt8) (n : Nat) (h : n = a.toNat) : UInt8.ofNat n = a := by subst h; exact UInt8.ofNat_toNat
theorem dec_enc (hp : ∀ k, k < 64 → pl (sg k) = some k) (l : List UInt8) : dec pl 0 0 (enc sg 0 0 l) = some l := by
  induction l using three with
  | h0 => rfl
  | h1 a =>
    have ha := a.toNat_lt
    rw [enc1]
    show dec pl 0 0 [sg _, sg _] = _
    rw [dec_low (hp _ (by omega)) (by omega), dec_high (hp _ (by omega)) (by omega)]
    show (some []).map _ = _
    show some [UInt8.ofNat _] = _
    rw [ofNat_eq a _ (by show ((0 * 64 + _) * 64 + _) / 16 = _; omega)]
  | h2 a b =>
    have ha := a.toNat_lt
    have hb := b.toNat_lt
    rw [enc2]
    show dec pl 0 0 [sg _, sg _, sg _] = _
    rw [dec_low (hp _ (by omega)) (by omega), dec_high (hp _ (by omega)) (by omega), dec_high (hp _ (by omega)) (by omega)]
    show some [UInt8.ofNat _, UInt8.ofNat _] = _
    rw [ofNat_eq a _ (by show ((0 * 64 + _) * 64 + _) / 16 = _; omega), ofNat_eq b _ (by show (((0 * 64 + _) * 64 + _) % 16 * 64 + _) / 4 = _; omega)]
  | h3 a b c l ih =>
    have ha := a.toNat_lt
    have hb := b.toNat_lt
    have hc := c.toNat_lt
    rw [enc3, dec_low (hp _ (by omega)) (by omega), dec_high (hp _ (by omega)) (by omega), dec_high (hp _ (by omega)) (by omega), dec_high (hp _ (by omega)) (by omega)]
    have e : ∀ x, dec pl (x % 2 ^ (0 + 6 + 6 - 8 + 6 - 8 + 6 - 8)) (0 + 6 + 6 - 8 + 6 - 8 + 6 - 8) (enc sg 0 0 l) = some l := fun x => by
      show dec pl (x % 1) 0 _ = _
      rw [Nat.mod_one]; exact ih
    rw [e]
    show some (UInt8.ofNat _ :: UInt8.ofNat _ :: UInt8.ofNat _ :: l) = _
    rw [ofNat_eq a _ (by show ((0 * 64 + _) * 64 + _) / 16 = _; omega), ofNat_eq b _ (by show (((0 * 64 + _) * 64 + _) % 16 * 64 + _) / 4 = _; omega), ofNat_eq c _ (by show ((((0 * 64 + _) * 64 + _) % 16 * 64 + _) % 4 * 64 + _) / 1 = _; omega)]
end
end Six
end Go.Proofs.YtilcilbmbhbakaaDoor
