/- Signs with filling, in plain Lean. -/
import Derived.Test.YtilcilbmbhbakaaDoorB64
namespace Go.Proofs.YtilcilbmbhbakaaDoor
namespace Six
def strip1 (l : List UInt8) : List UInt8 := if l.getLast? = some 61 then l.dropLast else l
def unf : Nat → List UInt8 → List UInt8
  | 0, l => l
  | n + 1, l => if l.getLast? = some 61 then unf n l.dropLast else l
def stripAll (l : List UInt8) : List UInt8 := unf l.length l
theorem strip1_snoc (l : List UInt8) : strip1 (l ++ [61]) = l := by simp [strip1]
theorem strip1_none {l : List UInt8} (h : l.getLast? ≠ some 61) : strip1 l = l := by simp [strip1, h]
theorem strip1_some {l : List UInt8} (h : l.getLast? = some 61) : strip1 l = l.dropLast := by simp [strip1, h]
theorem stripAll_none {l : List UInt8} (h : l.getLast? ≠ some 61) : stripAll l = l := by
  unfold stripAll
  cases l.length with
  | zero => rfl
  | succ n => simp [unf, h]
theorem stripAll_some {l : List UInt8} (h : l.getLast? = some 61) : stripAll l = stripAll l.dropLast := by
  unfold stripAll
  rw [List.length_dropLast]
  cases hl : l.length with
  | zero => rw [List.eq_nil_of_length_eq_zero hl] at h; cases h
  | succ n => simp [unf, h]
theorem stripAll_snoc (l : List UInt8) : stripAll (l ++ [61]) = stripAll l := by
  rw [stripAll_some (by simp)]; simp
theorem last_no {l : List UInt8} (h : 61 ∉ l) : l.getLast? ≠ some 61 := fun e => h (List.mem_of_getLast? e)
/-- What filling may be. -/
theorem fill_cases (n : Nat) : fill n = [] ∨ fill n = [61] ∨ fill n = [61, 61] := by
  unfold fill
  split
  · exact .inr (.inr rfl)
  · split
    · exact .inr (.inl rfl)
    · exact .inl rfl
theorem bare_filled {e : List UInt8} (h : 61 ∉ e) (n : Nat) : strip1 (strip1 (e ++ fill n)) = e := by
  rcases fill_cases n with h1 | h1 | h1 <;> rw [h1]
  · rw [List.append_nil, strip1_none (last_no h), strip1_none (last_no h)]
  · rw [strip1_snoc, strip1_none (last_no h)]
  · rw [show e ++ [61, 61] = (e ++ [61]) ++ [61] by simp, strip1_snoc, strip1_snoc]
theorem all_filled {e : List UInt8} (h : 61 ∉ e) (n : Nat) : stripAll (e ++ fill n) = e := by
  rcases fill_cases n with h1 | h1 | h1 <;> rw [h1]
  · rw [List.append_nil, stripAll_none (last_no h)]
  · rw [stripAll_snoc, stripAll_none (last_no h)]
  · rw [show e ++ [61, 61] = (e ++ [61]) ++ [61] by simp, stripAll_snoc, stripAll_snoc, stripAll_none (last_no h)]
theorem enc_mem (sg : Nat → UInt8) (x : UInt8) (l : List UInt8) : x ∈ enc sg 0 0 l → ∃ k, k < 64 ∧ x = sg k := by
  induction l using three with
  | h0 => intro h; cases h
  | h1 a =>
    rw [enc1]
    intro h
    simp only [grp, List.mem_append, List.mem_cons, List.not_mem_nil, or_false, Bool.false_eq_true, if_false] at h
    rcases h with h | h
    · exact ⟨_, Nat.mod_lt _ (by omega), h⟩
    · exact ⟨_, Nat.mod_lt _ (by omega), h⟩
  | h2 a b =>
    rw [enc2]
    intro h
    simp only [grp, List.mem_append, List.mem_cons, List.not_mem_nil, or_false, Bool.false_eq_true, if_false] at h
    rcases h with h | h | h
    · exact ⟨_, Nat.mod_lt _ (by omega), h⟩
    · exact ⟨_, Nat.mod_lt _ (by omega), h⟩
    · exact ⟨_, Nat.mod_lt _ (by omega), h⟩
  | h3 a b c l ih =>
    rw [enc3]
    intro h
    simp only [List.mem_cons] at h
    rcases h with h | h | h | h | h
    · exact ⟨_, Nat.mod_lt _ (by omega), h⟩
    · exact ⟨_, Nat.mod_lt _ (by omega), h⟩
    · exact ⟨_, Nat.mod_lt _ (by omega), h⟩
    · exact ⟨_, Nat.mod_lt _ (by omega), h⟩
    · exact ih h
end Six
open Go.RowKit
theorem mail_no : ∀ k : Fin 64, sgOf mailB k.1 ≠ 61 := by decide +kernel
theorem mail_pl : ∀ k : Fin 64, pl mailB.data.toList (sgOf mailB k.1) = some k.1 := by decide +kernel
theorem names_pl : ∀ k : Fin 64, pl namesB.data.toList (sgOf namesB k.1) = some k.1 := by decide +kernel
theorem mail_61 (t : List UInt8) : 61 ∉ Six.enc (sgOf mailB) 0 0 t := fun h => by
  obtain ⟨k, hk, e⟩ := Six.enc_mem _ _ _ h
  exact mail_no ⟨k, hk⟩ e.symm
theorem mail_back (t : List UInt8) : Six.dec (pl mailB.data.toList) 0 0 (Six.enc (sgOf mailB) 0 0 t) = some t := Six.dec_enc (fun k hk => mail_pl ⟨k, hk⟩) t
theorem names_back (t : List UInt8) : Six.dec (pl namesB.data.toList) 0 0 (Six.enc (sgOf namesB) 0 0 t) = some t := Six.dec_enc (fun k hk => names_pl ⟨k, hk⟩) t
/-- What is read of a text with filling: by the program, by the document. -/
def fromM (l : List UInt8) : Option (List UInt8) :=
  match fromS mailB.data.toList (Six.strip1 (Six.strip1 l)) with
  | some t => if Six.strip1 (Six.strip1 l) ++ Six.fill t.length = l then some t else none
  | none => none
def fromD (l : List UInt8) : Option (List UInt8) :=
  match Six.dec (pl mailB.data.toList) 0 0 (Six.stripAll l) with
  | some t => if Six.grp (sgOf mailB) true t = l then some t else none
  | none => none
theorem fromS_some (signs s t : List UInt8) : fromS signs s = some t ↔ Six.dec (pl signs) 0 0 s = some t ∧ Six.enc (fun k => signs.getD k 0) 0 0 t = s := by
  rw [fromS_dec]
  cases Six.dec (pl signs) 0 0 s with
  | none => simp
  | some u =>
    simp only
    split
    · rename_i h
      constructor
      · intro e; injection e with e; subst e; exact ⟨rfl, h⟩
      · rintro ⟨e, _⟩; exact e
    · rename_i h
      constructor
      · intro e; cases e
      · rintro ⟨e, h2⟩; injection e with e; subst e; exact absurd h2 h
theorem fromM_some (l t : List UInt8) : fromM l = some t ↔ l = Six.enc (sgOf mailB) 0 0 t ++ Six.fill t.length := by
  constructor
  · intro h
    unfold fromM at h
    split at h
    · rename_i u hu
      split at h
      · rename_i he
        injection h with h
        subst h
        have h2 := ((fromS_some _ _ _).1 hu).2
        rw [← h2] at he
        exact he.symm
      · cases h
    · cases h
  · intro h
    have hb : Six.strip1 (Six.strip1 l) = Six.enc (sgOf mailB) 0 0 t := by rw [h]; exact Six.bare_filled (mail_61 t) _
    unfold fromM
    rw [hb, (fromS_some _ _ t).2 ⟨mail_back t, rfl⟩]
    simp only
    rw [if_pos h.symm]
theorem fromD_some (l t : List UInt8) : fromD l = some t ↔ l = Six.enc (sgOf mailB) 0 0 t ++ Six.fill t.length := by
  constructor
  · intro h
    unfold fromD at h
    split at h
    · split at h
      · rename_i he
        injection h with h
        subst h
        rw [← he, Six.grp_fill]
      · cases h
    · cases h
  · intro h
    have hb : Six.stripAll l = Six.enc (sgOf mailB) 0 0 t := by rw [h]; exact Six.all_filled (mail_61 t) _
    unfold fromD
    rw [hb, mail_back]
    simp only
    rw [Six.grp_fill, if_pos h.symm]
theorem fromM_fromD (l : List UInt8) : fromM l = fromD l := by
  apply Option.ext
  intro t
  rw [fromM_some, fromD_some]
end Go.Proofs.YtilcilbmbhbakaaDoor
