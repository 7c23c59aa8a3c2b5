/- CodecThrough in plain lists: what is written of items is read back; what is a byte short is told; what is read of any text is written as that text. -/
import Derived.Test.YtokephnlelpjhaaDoorRd
import Derived.Test.YtokephnlelpjhaaDoorAdd
namespace Go.Proofs.YtokephnlelpjhaaDoor
open Go.RowKit
theorem byN_mod (k a b : Nat) : byN k (a * 256 ^ k + b) = byN k b := by
  induction k generalizing a b with
  | zero => rfl
  | succ k ih =>
    show UInt8.ofNat ((a * 256 ^ (k + 1) + b) / 256 ^ k) :: byN k (a * 256 ^ (k + 1) + b) = UInt8.ofNat (b / 256 ^ k) :: byN k b
    have e1 : a * 256 ^ (k + 1) + b = (a * 256) * 256 ^ k + b := by rw [Nat.pow_succ, Nat.mul_comm (256 ^ k) 256, ← Nat.mul_assoc]
    rw [e1, ih (a * 256) b]
    congr 1
    rw [Nat.mul_comm (a * 256), Nat.mul_add_div (Nat.pow_pos (by omega))]
    refine UInt8.toNat_inj.1 ?_
    rw [UInt8.toNat_ofNat', UInt8.toNat_ofNat']
    omega
theorem numL_byN (k m : Nat) : numL (byN k m) = m % 256 ^ k := by
  induction k with
  | zero => rw [Nat.pow_zero, Nat.mod_one]; rfl
  | succ k ih =>
    show numL (UInt8.ofNat (m / 256 ^ k) :: byN k m) = _
    have e := Nat.mod_pow_succ (x := m) (b := 256) (k := k)
    rw [numL_cons, byN_len, ih, UInt8.toNat_ofNat', e, Nat.mul_comm, Nat.add_comm]
theorem byN_numL (l : List UInt8) : byN l.length (numL l) = l := by
  induction l with
  | nil => rfl
  | cons c m ih =>
    rw [numL_cons]
    show UInt8.ofNat ((c.toNat * 256 ^ m.length + numL m) / 256 ^ m.length) :: byN m.length (c.toNat * 256 ^ m.length + numL m) = c :: m
    rw [byN_mod, ih, Nat.mul_comm, Nat.mul_add_div (Nat.pow_pos (by omega)), Nat.div_eq_of_lt (numL_lt m), Nat.add_zero]
    congr 1
    exact UInt8.ofNat_toNat
/-- An item as it came in. -/
structure It where
  kind : Int
  size : Int
  n : Int
  most : Int
  s : ByteArray
def iKind (x : It) : Nat := pickN x.kind 3
def iSize (x : It) : Nat := 1 + pickN x.size 8
def absN (n : Int) : Nat := (if n < 0 then -(n + 1) else n).toNat
def iNum (x : It) : Nat := if iSize x < 8 then absN x.n % 256 ^ iSize x else absN x.n
def iMost (x : It) : Nat := max (pickN x.most 65536) (min x.s.size 65535)
def iCut (x : It) : ByteArray := frontB x.s (min x.s.size 65535)
def iBytes (x : It) : List UInt8 :=
  if iKind x = 0 then byN (iSize x) (iNum x)
  else if iKind x = 1 then byN (ahead (iMost x)) (iCut x).size ++ (iCut x).data.toList
  else x.s.data.toList
def iNext (x : It) (s : ByteArray) (e : Int) : ByteArray × Int :=
  if iKind x = 0 then (rNum s e (iSize x)).2
  else if iKind x = 1 then (rText s e (iMost x)).2
  else (rRaw s e x.s.size).2
def iSame (x : It) (s : ByteArray) (e : Int) : Prop :=
  if iKind x = 0 then (rNum s e (iSize x)).1 = iNum x
  else if iKind x = 1 then (rText s e (iMost x)).1 = iCut x
  else (rRaw s e x.s.size).1 = x.s
def iAgain (x : It) (s : ByteArray) (e : Int) : List UInt8 :=
  if iKind x = 0 then byN (iSize x) (rNum s e (iSize x)).1.toNat
  else if iKind x = 1 then byN (ahead (iMost x)) (rText s e (iMost x)).1.size ++ (rText s e (iMost x)).1.data.toList
  else (rRaw s e x.s.size).1.data.toList
/-- What the row of items says. -/
def allI (xs : List It) : List UInt8 := xs.flatMap iBytes
theorem iSize_ok (x : It) : 1 ≤ iSize x ∧ iSize x ≤ 8 := by
  have := pickN_lt x.size 8 (by omega)
  unfold iSize
  omega
theorem iMost_ok (x : It) : iMost x ≤ 65535 := by
  have := pickN_lt x.most 65536 (by omega)
  unfold iMost
  omega
theorem iCut_size (x : It) : (iCut x).size = min x.s.size 65535 := front_size _ _ (Nat.min_le_left _ _)
theorem iCut_most (x : It) : (iCut x).size ≤ iMost x := by
  rw [iCut_size]
  unfold iMost
  omega
theorem ahead_ok (m : Nat) : 1 ≤ ahead m ∧ ahead m ≤ 2 := by unfold ahead; split <;> omega
theorem ahead_fits (m n : Nat) (hm : m ≤ 65535) (h : n ≤ m) : n < 256 ^ ahead m := by
  unfold ahead
  split
  · show n < 65536; omega
  · show n < 256; omega
theorem iNum_lt (x : It) (h : -9223372036854775808 ≤ x.n ∧ x.n ≤ 9223372036854775807) : iNum x < 256 ^ iSize x ∧ iNum x < 9223372036854775808 := by
  have ha : absN x.n < 9223372036854775808 := by unfold absN; split <;> omega
  have h8 := iSize_ok x
  unfold iNum
  by_cases hs : iSize x < 8
  · rw [if_pos hs]
    have h1 := Nat.mod_lt (absN x.n) (Nat.pow_pos (n := iSize x) (show 0 < 256 by omega))
    exact ⟨h1, Nat.lt_of_le_of_lt (Nat.mod_le _ _) ha⟩
  · rw [if_neg hs, show iSize x = 8 by omega]
    exact ⟨Nat.lt_trans ha (by decide), ha⟩
/- Texts as lists. -/
theorem bytes_size (l : List UInt8) : (⟨l.toArray⟩ : ByteArray).size = l.length := by show l.toArray.size = _; simp
theorem rest_mk (l m : List UInt8) (k : Nat) (h : l.length = k) : restB ⟨(l ++ m).toArray⟩ k = ⟨m.toArray⟩ := by
  refine bytes_ext _ _ ?_
  rw [rest_data]
  show (l ++ m).drop k = m
  rw [← h, List.drop_left]
theorem front_mk (l m : List UInt8) (k : Nat) (h : l.length = k) : frontB ⟨(l ++ m).toArray⟩ k = ⟨l.toArray⟩ := by
  refine bytes_ext _ _ ?_
  rw [front_data]
  show (l ++ m).take k = l
  rw [← h, List.take_left]
theorem mk_data (s : ByteArray) : (⟨s.data.toList.toArray⟩ : ByteArray) = s := rfl
/-- What was written is read, and what stands behind it is left. -/
theorem back_num (k m : Nat) (R : List UInt8) (h1 : 1 ≤ k) (h8 : k ≤ 8) (hm : m < 256 ^ k) (hm2 : m < 9223372036854775808) : rNum ⟨(byN k m ++ R).toArray⟩ 0 k = ((m : Int), ⟨R.toArray⟩, 0) := by
  unfold rNum
  rw [if_neg (by omega), if_neg (by omega), bytes_size, List.length_append, byN_len, if_neg (by omega), Int.toNat_natCast]
  have e1 : (⟨(byN k m ++ R).toArray⟩ : ByteArray).data.toList.take k = byN k m := by
    show (byN k m ++ R).take k = _
    exact List.take_left' (byN_len k m)
  rw [e1, numL_byN, Nat.mod_eq_of_lt hm, if_neg (by omega), rest_mk _ _ _ (byN_len k m)]
theorem back_text (most : Nat) (t R : List UInt8) (hm : most ≤ 65535) (ht : t.length ≤ most) : rText ⟨(byN (ahead most) t.length ++ t ++ R).toArray⟩ 0 most = (⟨t.toArray⟩, ⟨R.toArray⟩, 0) := by
  have ha := ahead_ok most
  unfold rText
  rw [if_neg (by omega), if_neg (by omega), bytes_size, List.length_append, List.length_append, byN_len, Int.toNat_natCast, if_neg (by omega)]
  have e1 : (⟨(byN (ahead most) t.length ++ t ++ R).toArray⟩ : ByteArray).data.toList.take (ahead most) = byN (ahead most) t.length := by
    show (byN (ahead most) t.length ++ t ++ R).take (ahead most) = _
    rw [List.append_assoc]
    exact List.take_left' (byN_len _ _)
  rw [e1, numL_byN, Nat.mod_eq_of_lt (ahead_fits most _ hm ht), if_neg (by omega), if_neg (by omega)]
  have hl : (byN (ahead most) t.length ++ t).length = ahead most + t.length := by rw [List.length_append, byN_len]
  rw [front_mk _ _ _ hl, rest_mk _ _ _ hl, rest_mk _ _ _ (byN_len _ _)]
theorem back_raw (t R : List UInt8) : rRaw ⟨(t ++ R).toArray⟩ 0 t.length = (⟨t.toArray⟩, ⟨R.toArray⟩, 0) := by
  unfold rRaw
  rw [if_neg (by omega), if_neg (by omega), bytes_size, List.length_append, if_neg (by omega), Int.toNat_natCast, rest_mk _ _ _ rfl, front_mk _ _ _ rfl]
theorem back_item (x : It) (R : List UInt8) (h : -9223372036854775808 ≤ x.n ∧ x.n ≤ 9223372036854775807) : iNext x ⟨(iBytes x ++ R).toArray⟩ 0 = (⟨R.toArray⟩, 0) ∧ iSame x ⟨(iBytes x ++ R).toArray⟩ 0 := by
  unfold iNext iSame iBytes
  by_cases h0 : iKind x = 0
  · rw [if_pos h0, if_pos h0, if_pos h0]
    have hs := iSize_ok x
    have hn := iNum_lt x h
    rw [back_num _ _ R hs.1 hs.2 hn.1 hn.2]
    exact ⟨rfl, rfl⟩
  rw [if_neg h0, if_neg h0, if_neg h0]
  by_cases h1 : iKind x = 1
  · rw [if_pos h1, if_pos h1, if_pos h1]
    have e := back_text (iMost x) (iCut x).data.toList R (iMost_ok x) (iCut_most x)
    rw [show (iCut x).data.toList.length = (iCut x).size from rfl] at e
    rw [e]
    exact ⟨rfl, rfl⟩
  rw [if_neg h1, if_neg h1, if_neg h1]
  have e := back_raw x.s.data.toList R
  rw [show x.s.data.toList.length = x.s.size from rfl] at e
  rw [e]
  exact ⟨rfl, rfl⟩
/-- A reader with something wrong stays as it is. -/
theorem wrong_item (x : It) (s : ByteArray) (e : Int) (he : e ≠ 0) : iNext x s e = (s, e) := by
  unfold iNext rNum rText rRaw
  rw [if_pos he, if_pos he, if_pos he]
  split
  · rfl
  · split <;> rfl
/-- A byte less of what an item says: it is told. -/
theorem short_num (s : ByteArray) (k : Nat) (h1 : 1 ≤ k) (h8 : k ≤ 8) (hs : s.size + 1 = k) : (rNum s 0 k).2.2 = 22 := by
  unfold rNum
  rw [if_neg (by omega), if_neg (by omega), if_pos (by omega)]
theorem short_item (x : It) (l : List UInt8) (c : UInt8) (hl : iBytes x = l ++ [c]) : (iNext x ⟨l.toArray⟩ 0).2 = 22 := by
  have hlen := congrArg List.length hl
  rw [List.length_append, List.length_singleton] at hlen
  unfold iNext
  unfold iBytes at hl hlen
  by_cases h0 : iKind x = 0
  · rw [if_pos h0] at hl hlen ⊢
    rw [byN_len] at hlen
    have hs := iSize_ok x
    exact short_num _ _ hs.1 hs.2 (by rw [bytes_size]; omega)
  rw [if_neg h0] at hl hlen ⊢
  by_cases h1 : iKind x = 1
  · rw [if_pos h1] at hl hlen ⊢
    have ha := ahead_ok (iMost x)
    have hm := iMost_ok x
    have hc := iCut_most x
    rw [List.length_append, byN_len, show (iCut x).data.toList.length = (iCut x).size from rfl] at hlen
    unfold rText
    rw [if_neg (by omega), if_neg (by omega), bytes_size, Int.toNat_natCast]
    by_cases hz : (iCut x).size = 0
    · rw [if_pos (by omega)]
    · rw [if_neg (by omega)]
      have e1 : (⟨l.toArray⟩ : ByteArray).data.toList.take (ahead (iMost x)) = byN (ahead (iMost x)) (iCut x).size := by
        show l.take (ahead (iMost x)) = _
        have e2 := congrArg (List.take (ahead (iMost x))) hl
        rw [List.take_left' (byN_len _ _), List.take_append_of_le_length (by omega)] at e2
        exact e2.symm
      rw [e1, numL_byN, Nat.mod_eq_of_lt (ahead_fits _ _ hm hc), if_neg (by omega), if_pos (by omega)]
  · rw [if_neg h1] at hl hlen ⊢
    rw [show x.s.data.toList.length = x.s.size from rfl] at hlen
    unfold rRaw
    rw [if_neg (by omega), if_neg (by omega), bytes_size, if_pos (by omega)]
/-- What an item reads of any text without an error is written as it stood there. -/
theorem again_item (x : It) (s s' : ByteArray) (h : iNext x s 0 = (s', 0)) : s.data.toList = iAgain x s 0 ++ s'.data.toList := by
  have hsl : s.data.toList.length = s.size := rfl
  unfold iNext at h
  unfold iAgain
  by_cases h0 : iKind x = 0
  · rw [if_pos h0] at h ⊢
    have hs := iSize_ok x
    unfold rNum at h ⊢
    rw [if_neg (by omega), if_neg (by omega), Int.toNat_natCast] at h ⊢
    by_cases h2 : (s.size : Int) < iSize x
    · rw [if_pos h2] at h; cases h
    rw [if_neg h2] at h ⊢
    by_cases h3 : 9223372036854775808 ≤ numL (s.data.toList.take (iSize x))
    · rw [if_pos h3] at h; cases h
    rw [if_neg h3] at h ⊢
    obtain rfl := (Prod.mk.inj (show (restB s (iSize x), (0 : Int)) = (s', 0) from h)).1
    clear h
    rw [rest_data, Int.toNat_natCast]
    have e := byN_numL (s.data.toList.take (iSize x))
    rw [List.length_take, Nat.min_eq_left (by omega)] at e
    rw [e, List.take_append_drop]
  rw [if_neg h0] at h ⊢
  by_cases h1 : iKind x = 1
  · rw [if_pos h1] at h ⊢
    have ha := ahead_ok (iMost x)
    have hm := iMost_ok x
    unfold rText at h ⊢
    rw [if_neg (by omega), if_neg (by omega), Int.toNat_natCast] at h ⊢
    by_cases h2 : s.size < ahead (iMost x)
    · rw [if_pos h2] at h; cases h
    rw [if_neg h2] at h ⊢
    obtain ⟨m, hmm⟩ : ∃ m, m = numL (s.data.toList.take (ahead (iMost x))) := ⟨_, rfl⟩
    rw [← hmm] at h ⊢
    by_cases h3 : iMost x < m
    · rw [if_pos h3] at h; cases h
    rw [if_neg h3] at h ⊢
    by_cases h4 : s.size < ahead (iMost x) + m
    · rw [if_pos h4] at h; cases h
    rw [if_neg h4] at h ⊢
    obtain rfl := (Prod.mk.inj (show (restB s (ahead (iMost x) + m), (0 : Int)) = (s', 0) from h)).1
    clear h
    have z : (restB (frontB s (ahead (iMost x) + m)) (ahead (iMost x))).size = m := by
      rw [rest_size, front_size _ _ (by omega)]; omega
    have e := byN_numL (s.data.toList.take (ahead (iMost x)))
    rw [List.length_take, Nat.min_eq_left (by omega), ← hmm] at e
    show _ = byN _ (restB (frontB s (ahead (iMost x) + m)) (ahead (iMost x))).size ++ (restB (frontB s (ahead (iMost x) + m)) (ahead (iMost x))).data.toList ++ _
    have e3 := List.take_append_drop (ahead (iMost x)) (s.data.toList.take (ahead (iMost x) + m))
    rw [List.take_take, Nat.min_eq_left (by omega)] at e3
    rw [z, e, rest_data, rest_data, front_data, e3, List.take_append_drop]
  · rw [if_neg h1] at h ⊢
    unfold rRaw at h ⊢
    rw [if_neg (by omega), if_neg (by omega), Int.toNat_natCast] at h ⊢
    by_cases h2 : (s.size : Int) < x.s.size
    · rw [if_pos h2] at h; cases h
    rw [if_neg h2] at h ⊢
    obtain rfl := (Prod.mk.inj (show (restB s x.s.size, (0 : Int)) = (s', 0) from h)).1
    clear h
    rw [front_data, rest_data, List.take_append_drop]
theorem rNum_size' (s : ByteArray) (e n : Int) : (rNum s e n).2.1.size ≤ s.size := by
  unfold rNum
  repeat' split
  all_goals first | exact Nat.le_refl _ | (rw [rest_size]; omega)
/-- Where it is refused nothing is taken, and nothing is said. -/
theorem rText_both (s : ByteArray) (e n : Int) (hg : ¬ (e = 0 ∧ (rText s e n).2.2 = 0)) : (rText s e n).1.size + (rText s e n).2.1.size ≤ s.size := by
  unfold rText at hg ⊢
  by_cases h1 : e ≠ 0
  · rw [if_pos h1]; exact Nat.le_of_eq (Nat.zero_add _)
  rw [if_neg h1] at hg ⊢
  by_cases h2 : n < 0 ∨ 65535 < n
  · rw [if_pos h2]; exact Nat.le_of_eq (Nat.zero_add _)
  rw [if_neg h2] at hg ⊢
  by_cases h3 : s.size < ahead n.toNat
  · rw [if_pos h3]; exact Nat.le_of_eq (Nat.zero_add _)
  rw [if_neg h3] at hg ⊢
  by_cases h4 : n.toNat < numL (s.data.toList.take (ahead n.toNat))
  · rw [if_pos h4]; exact Nat.le_of_eq (Nat.zero_add _)
  rw [if_neg h4] at hg ⊢
  by_cases h5 : s.size < ahead n.toNat + numL (s.data.toList.take (ahead n.toNat))
  · rw [if_pos h5]; exact Nat.le_of_eq (Nat.zero_add _)
  rw [if_neg h5] at hg
  exact absurd ⟨Decidable.not_not.1 h1, rfl⟩ hg
theorem rRaw_both (s : ByteArray) (e n : Int) (hg : ¬ (e = 0 ∧ (rRaw s e n).2.2 = 0)) : (rRaw s e n).1.size + (rRaw s e n).2.1.size ≤ s.size := by
  unfold rRaw at hg ⊢
  by_cases h1 : e ≠ 0
  · rw [if_pos h1]; exact Nat.le_of_eq (Nat.zero_add _)
  rw [if_neg h1] at hg ⊢
  by_cases h2 : n < 0
  · rw [if_pos h2]; exact Nat.le_of_eq (Nat.zero_add _)
  rw [if_neg h2] at hg ⊢
  by_cases h3 : (s.size : Int) < n
  · rw [if_pos h3]; exact Nat.le_of_eq (Nat.zero_add _)
  rw [if_neg h3] at hg
  exact absurd ⟨Decidable.not_not.1 h1, rfl⟩ hg
/-- How much is written of what is read. -/
theorem again_len (x : It) (s : ByteArray) (e : Int) : (iAgain x s e).length + (iNext x s e).1.size ≤ 8 + s.size := by
  by_cases hg : e = 0 ∧ (iNext x s e).2 = 0
  · obtain ⟨rfl, h2⟩ := hg
    have h := again_item x s (iNext x s 0).1 (Prod.ext rfl h2)
    have hl := congrArg List.length h
    rw [List.length_append, show s.data.toList.length = s.size from rfl, show (iNext x s 0).1.data.toList.length = (iNext x s 0).1.size from rfl] at hl
    omega
  have hs := iSize_ok x
  have ha := ahead_ok (iMost x)
  unfold iNext at hg ⊢
  unfold iAgain
  by_cases h0 : iKind x = 0
  · rw [if_pos h0] at hg ⊢
    rw [if_pos h0, byN_len]
    have := rNum_size' s e (iSize x)
    omega
  rw [if_neg h0] at hg ⊢
  rw [if_neg h0]
  by_cases h1 : iKind x = 1
  · rw [if_pos h1] at hg ⊢
    rw [if_pos h1, List.length_append, byN_len, show (rText s e (iMost x)).1.data.toList.length = (rText s e (iMost x)).1.size from rfl]
    have := rText_both s e (iMost x) hg
    omega
  · rw [if_neg h1] at hg ⊢
    rw [if_neg h1, show (rRaw s e x.s.size).1.data.toList.length = (rRaw s e x.s.size).1.size from rfl]
    have := rRaw_both s e x.s.size hg
    omega
end Go.Proofs.YtokephnlelpjhaaDoor
