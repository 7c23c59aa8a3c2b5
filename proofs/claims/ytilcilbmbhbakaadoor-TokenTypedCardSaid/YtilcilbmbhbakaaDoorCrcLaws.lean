/- The CRC is affine, and tells each change within four neighbouring bytes. In plain Lean. -/
import Derived.Test.YtilcilbmbhbakaaDoorRun
namespace Go.Proofs.YtilcilbmbhbakaaDoor
namespace Crc
theorem sh_eq (r : BitVec 32) : sh r = (r >>> 1) ^^^ (if r.getLsbD 0 then 0xedb88320#32 else 0#32) := by
  unfold sh
  have h : (r &&& 1#32 = 1#32) ↔ r.getLsbD 0 = true := by
    constructor
    · intro h
      have := congrArg (·.getLsbD 0) h
      simpa using this
    · intro h
      refine BitVec.eq_of_getLsbD_eq fun i hi => ?_
      rcases i with _ | i
      · simp [h]
      · simp
  by_cases hb : r.getLsbD 0 = true
  · rw [if_pos (h.2 hb), if_pos hb]
  · rw [if_neg (fun e => hb (h.1 e)), if_neg hb]; simp
theorem xlc (x y z : BitVec 32) : x ^^^ (y ^^^ z) = y ^^^ (x ^^^ z) := by rw [← BitVec.xor_assoc, BitVec.xor_comm x y, BitVec.xor_assoc]
theorem xcan (x y p : BitVec 32) : x ^^^ y = (x ^^^ p) ^^^ (y ^^^ p) := by
  rw [BitVec.xor_assoc, xlc p y p, BitVec.xor_self, BitVec.xor_zero]
theorem sh_xor (a b : BitVec 32) : sh (a ^^^ b) = sh a ^^^ sh b := by
  rw [sh_eq, sh_eq, sh_eq, BitVec.ushiftRight_xor_distrib]
  have h : (a ^^^ b).getLsbD 0 = (a.getLsbD 0 ^^ b.getLsbD 0) := by simp
  rw [h]
  cases a.getLsbD 0 <;> cases b.getLsbD 0 <;> simp only [Bool.xor_false, Bool.xor_self, Bool.xor_true, Bool.not_false, if_true, BitVec.xor_zero, Bool.false_eq_true, if_false]
  · rw [BitVec.xor_assoc]
  · rw [BitVec.xor_assoc, BitVec.xor_assoc, BitVec.xor_comm (b >>> 1)]
  · exact xcan _ _ _
theorem sh_zero : sh 0#32 = 0#32 := rfl
theorem shs_xor (n : Nat) (a b : BitVec 32) : shs n (a ^^^ b) = shs n a ^^^ shs n b := by
  induction n with
  | zero => rfl
  | succ n ih => simp only [shs, ih, sh_xor]
theorem shs_add (n m : Nat) (r : BitVec 32) : shs (n + m) r = shs n (shs m r) := by
  induction n with
  | zero => simp [shs]
  | succ n ih => rw [Nat.succ_add]; simp only [shs, ih]
theorem sh_inj0 (r : BitVec 32) (h : sh r = 0#32) : r = 0#32 := by
  rw [sh_eq] at h
  have h31 := congrArg (·.getLsbD 31) h
  simp only [BitVec.getLsbD_xor, BitVec.getLsbD_ushiftRight] at h31
  have e0 : r.getLsbD (1 + 31) = false := BitVec.getLsbD_of_ge _ _ (by omega)
  rw [e0] at h31
  by_cases hb : r.getLsbD 0 = true
  · rw [if_pos hb] at h31
    exact absurd h31 (by decide)
  · rw [if_neg hb, BitVec.xor_zero] at h
    refine BitVec.eq_of_getLsbD_eq fun i hi => ?_
    rcases i with _ | i
    · simpa using hb
    · have := congrArg (·.getLsbD i) h
      simp only [BitVec.getLsbD_ushiftRight] at this
      rw [Nat.add_comm] at this
      simpa using this
theorem shs_inj0 (n : Nat) (r : BitVec 32) (h : shs n r = 0#32) : r = 0#32 := by
  induction n with
  | zero => exact h
  | succ n ih => exact ih (sh_inj0 _ h)
theorem shs_inj (n : Nat) {a b : BitVec 32} (h : shs n a = shs n b) : a = b := by
  have h1 : shs n (a ^^^ b) = 0#32 := by rw [shs_xor, h, BitVec.xor_self]
  have := shs_inj0 n _ h1
  rwa [BitVec.xor_eq_zero_iff] at this
abbrev w8 (c : UInt8) : BitVec 32 := c.toBitVec.setWidth 32
theorem w8_xor (a b : UInt8) : w8 (a ^^^ b) = w8 a ^^^ w8 b := by simp [w8]
theorem w8_inj {a b : UInt8} (h : w8 a = w8 b) : a = b := by
  refine UInt8.toNat_inj.1 ?_
  have := congrArg BitVec.toNat h
  simpa [w8] using this
theorem step_xor (r s : BitVec 32) (a b : UInt8) : step (r ^^^ s) (a ^^^ b) = step r a ^^^ step s b := by
  unfold step
  rw [← shs_xor]
  congr 1
  have := w8_xor a b
  simp only [w8] at this
  rw [this]
  rw [BitVec.xor_assoc, BitVec.xor_assoc, xlc s]
theorem step_inj {r s : BitVec 32} {a : UInt8} (h : step r a = step s a) : r = s := by
  have := shs_inj 8 h
  have h2 := congrArg (· ^^^ w8 a) this
  simpa [BitVec.xor_assoc] using h2
theorem run_app (r : BitVec 32) (a b : List UInt8) : run r (a ++ b) = run (run r a) b := by simp [run]
theorem run_inj {r s : BitVec 32} (l : List UInt8) (h : run r l = run s l) : r = s := by
  induction l generalizing r s with
  | nil => exact h
  | cons c l ih => exact step_inj (ih h)
/-- The xor of three texts of one length. -/
theorem run_three : ∀ (a b c : List UInt8) (r : BitVec 32), a.length = b.length → a.length = c.length →
    ∀ (r1 r2 r3 : BitVec 32), r = r1 ^^^ r2 ^^^ r3 → run r (List.zipWith (· ^^^ ·) (List.zipWith (· ^^^ ·) a b) c) = run r1 a ^^^ run r2 b ^^^ run r3 c
  | [], [], [], r, _, _, r1, r2, r3, h => h
  | x :: a, y :: b, z :: c, r, h1, h2, r1, r2, r3, h => by
    subst h
    exact run_three a b c _ (by simpa using h1) (by simpa using h2) _ _ _ (by rw [step_xor, step_xor])
  | [], _ :: _, _, _, h, _, _, _, _, _ => by simp at h
  | _ :: _, [], _, _, h, _, _, _, _, _ => by simp at h
  | [], _, _ :: _, _, _, h, _, _, _, _ => by simp at h
  | _ :: _, _, [], _, _, h, _, _, _, _ => by simp at h
theorem crc_three (a b c : List UInt8) (h1 : a.length = b.length) (h2 : a.length = c.length) :
    crc (List.zipWith (· ^^^ ·) (List.zipWith (· ^^^ ·) a b) c) = crc a ^^^ crc b ^^^ crc c := by
  unfold crc
  rw [run_three a b c (BitVec.allOnes 32) h1 h2 (BitVec.allOnes 32) (BitVec.allOnes 32) (BitVec.allOnes 32) (by simp)]
  generalize run _ a = x
  generalize run _ b = y
  generalize run _ c = z
  rw [← BitVec.xor_allOnes, ← BitVec.xor_allOnes (x := x), ← BitVec.xor_allOnes (x := y), ← BitVec.xor_allOnes (x := z)]
  rw [← xcan]
  simp only [BitVec.xor_assoc]

def word : List UInt8 → BitVec 32
  | [] => 0#32
  | c :: l => w8 c ^^^ (word l <<< 8)
theorem w8_high (c : UInt8) (i : Nat) (h : 8 ≤ i) : (w8 c).getLsbD i = false := by
  simp only [w8, BitVec.getLsbD_setWidth]
  rw [BitVec.getLsbD_of_ge _ _ h]
  simp
theorem word_high : ∀ (l : List UInt8) (i : Nat), 8 * l.length ≤ i → (word l).getLsbD i = false
  | [], i, _ => by simp [word]
  | c :: l, i, h => by
    have h1 : 8 * l.length + 8 ≤ i := by simpa [Nat.mul_add] using h
    unfold word
    rw [BitVec.getLsbD_xor, w8_high c i (by omega), BitVec.getLsbD_shiftLeft, word_high l (i - 8) (by omega)]
    simp
theorem sh_shl (u : BitVec 32) (h : u.getLsbD 31 = false) : sh (u <<< 1) = u := by
  rw [sh_eq]
  have e : (u <<< 1).getLsbD 0 = false := by simp
  rw [e]
  simp only [Bool.false_eq_true, if_false, BitVec.xor_zero]
  refine BitVec.eq_of_getLsbD_eq fun i hi => ?_
  rw [BitVec.getLsbD_ushiftRight, BitVec.getLsbD_shiftLeft]
  by_cases h31 : i = 31
  · subst h31; simpa using h
  · have h1 : 1 + i < 32 := by omega
    have h2 : 1 + i - 1 = i := by omega
    simp [h1, h2]
theorem shs_shl (v : BitVec 32) (h : ∀ i, 24 ≤ i → v.getLsbD i = false) : ∀ n, n ≤ 8 → shs n (v <<< n) = v
  | 0, _ => by simp [shs]
  | n + 1, hn => by
    have ih := shs_shl v h n (by omega)
    have e : v <<< (n + 1) = (v <<< n) <<< 1 := BitVec.shiftLeft_add v n 1
    have e1 : shs (n + 1) (v <<< (n + 1)) = shs n (shs 1 (v <<< (n + 1))) := shs_add n 1 _
    rw [e1, e]
    show shs n (sh ((v <<< n) <<< 1)) = v
    rw [sh_shl _ ?_, ih]
    rw [BitVec.getLsbD_shiftLeft, h (31 - n) (by omega)]
    simp
theorem run_word : ∀ (l : List UInt8) (r : BitVec 32), l.length ≤ 4 → run r l = shs (8 * l.length) (r ^^^ word l)
  | [], r, _ => by simp [run, word, shs]
  | c :: l, r, h => by
    have h1 : l.length ≤ 3 := by simpa using h
    have ih := run_word l (step r c) (by omega)
    have e0 : run r (c :: l) = run (step r c) l := rfl
    have e1 : word l = shs 8 (word l <<< 8) := (shs_shl _ (fun i hi => word_high l i (by omega)) 8 (Nat.le_refl _)).symm
    have e2 : step r c ^^^ word l = shs 8 (r ^^^ word (c :: l)) := by
      conv => lhs; rw [e1]
      unfold step
      rw [← shs_xor]
      show _ = shs 8 (r ^^^ (w8 c ^^^ (word l <<< 8)))
      rw [BitVec.xor_assoc]
    rw [e0, ih, e2, ← shs_add, List.length_cons, Nat.mul_add]
theorem word_inj : ∀ (x y : List UInt8), x.length = y.length → x.length ≤ 4 → word x = word y → x = y
  | [], [], _, _, _ => rfl
  | [], _ :: _, h, _, _ => by simp at h
  | _ :: _, [], h, _, _ => by simp at h
  | c :: x, d :: y, h, h4, e => by
    have hl : x.length = y.length := by simpa using h
    have h3 : x.length ≤ 3 := by simpa using h4
    unfold word at e
    have hc : c = d := by
      refine w8_inj (BitVec.eq_of_getLsbD_eq fun i hi => ?_)
      by_cases h8 : 8 ≤ i
      · rw [w8_high c i h8, w8_high d i h8]
      · have := congrArg (·.getLsbD i) e
        have h8' : i < 8 := by omega
        simpa [BitVec.getLsbD_shiftLeft, h8'] using this
    subst hc
    have e2 : word x <<< 8 = word y <<< 8 := by
      have := congrArg (w8 c ^^^ ·) e
      simpa [← BitVec.xor_assoc] using this
    have e3 := congrArg (shs 8) e2
    rw [shs_shl _ (fun i hi => word_high x i (by omega)) 8 (Nat.le_refl _), shs_shl _ (fun i hi => word_high y i (by omega)) 8 (Nat.le_refl _)] at e3
    rw [word_inj x y hl (by omega) e3]
/-- A change within four neighbouring bytes is told. -/
theorem burst (p x y q : List UInt8) (hl : x.length = y.length) (h4 : x.length ≤ 4) (h : crc (p ++ (x ++ q)) = crc (p ++ (y ++ q))) : x = y := by
  unfold crc at h
  have h1 : run (BitVec.allOnes 32) (p ++ (x ++ q)) = run (BitVec.allOnes 32) (p ++ (y ++ q)) := by
    have := congrArg (~~~ ·) h
    simpa using this
  rw [run_app, run_app, run_app, run_app] at h1
  have h2 := run_inj q h1
  rw [run_word x _ h4, run_word y _ (by omega), ← hl] at h2
  have h3 := shs_inj _ h2
  refine word_inj x y hl h4 ?_
  have := congrArg (run (BitVec.allOnes 32) p ^^^ ·) h3
  simpa [← BitVec.xor_assoc] using this
end Crc
end Go.Proofs.YtilcilbmbhbakaaDoor
