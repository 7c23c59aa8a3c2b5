/- OfToken, the program and the reference; member. The reference's member and OfToken. Structs compared. Scopes in plain Lean: what is printed is parsed back; what was parsed is a scope. The reference's Scope and spaced, of any list. The reference's spaced, of a scope. The reference's FamilyMay (printed by gen_xfam.py). -/
import Derived.Test.YtabibfabieghpaaGreatDoorPkz0
import Derived.Test.YtabibfabieghpaaGreatDoorPkXrTok
import Derived.Test.YtabibfabieghpaaGreatDoorPkz5
import Derived.Test.YtabibfabieghpaaGreatDoorPkz4
import Derived.Test.YtabibfabieghpaaGreatDoorPkz7
namespace Go.Proofs.YtabibfabieghpaaGreatDoor
open Go.RowKit
def ofK (b c : Int) : ByteArray := ⟨(109 :: (byN 8 b.toNat ++ byN 4 c.toNat)).toArray⟩
def ofV (a : Int) : ByteArray := ⟨(byN 8 a.toNat).toArray⟩
def ofR (a b c : Int) (s : ByteArray) (d : Int) (f : Bool) (e g : Int) (r : ByteArray) : ByteArray × ByteArray × Int :=
  if tokMay a b c s d f e g r then (ofK b c, ofV a, 0) else (noB, noB, 140)
def ofFs (tb : Nat) : List (Fk × Addr) := [(.num 8, ⟨tb, 1, none⟩), (.num 4, ⟨tb, 2, none⟩)]
def ofFl (tb : Nat) (b c : Int) : List Fld := [(.num 8, ⟨tb, 1, none⟩, .n b), (.num 4, ⟨tb, 2, none⟩, .n c)]
section
variable {E : World} {L : List Hp}
end
end Go.Proofs.YtabibfabieghpaaGreatDoor
namespace Go.Proofs.YtabibfabieghpaaGreatDoor
open Go.RowKit
section
variable {E : World} {L : List Hp}
end
end Go.Proofs.YtabibfabieghpaaGreatDoor
namespace Go.Proofs.YtabibfabieghpaaGreatDoor
open Go.RowKit
/-- eqFields, told by what it reads of the fields. -/
def eqF (d : Nat) (xs ys : Array Value) : List (Bool × TypeId × Nat) → Sem Bool
  | [] => pure true
  | f :: fs =>
    if f.1 = true then do
      let a ← part f.2.1 xs f.2.2
      let b ← part f.2.1 ys f.2.2
      let r ← Op.equalIn d f.2.1 a b
      if (!r) = true then pure false else eqF d xs ys fs
    else eqF d xs ys fs
abbrev fTold (f : Field) : Bool × TypeId × Nat := (decide (f.name ≠ "_"), f.type, f.offset)
theorem eqF_of (d : Nat) (xs ys : Array Value) : ∀ fs : List Field, Op.eqFields d xs ys fs = eqF d xs ys (fs.map fTold)
  | [] => rfl
  | f :: fs => by
    have ih := eqF_of d xs ys fs
    rw [List.map_cons]
    unfold Op.eqFields eqF
    simp only [ih, decide_eq_true_eq]
theorem beq_str (a b : ByteArray) : (a.toList == b.toList) = decide (a = b) := by
  rw [Bool.eq_iff_iff, beq_iff_eq, decide_eq_true_eq, ByteArray.toList_eq, ByteArray.toList_eq]
  constructor
  · intro h
    exact (bytes_ext a _ h).trans (bytes_ext b _ rfl).symm
  · rintro rfl; rfl
section
variable {w : World}
theorem eq_pair (k v k' v' : ByteArray) : (Op.equalIn 10000 ITT (.agg #[.string k, .string v]) (.agg #[.string k', .string v'])).run Tryz.prog w = .ok (decide (k = k' ∧ v = v')) w := by
  have hu : (Tryz.prog).underlying ITT = some (.struct ((Tryz.prog).fieldsOf ITT)) := by kernel_rfl
  rw [run_equalIn_struct w 9999 ITT _ _ hu (by kernel_rfl), eqF_of, show ((Tryz.prog).fieldsOf ITT).toList.map fTold = [(true, 9, 0), (true, 9, 1)] by kernel_rfl]
  cases h1 : decide (k = k') <;> cases h2 : decide (v = v') <;> simp_all [eqF, part, run_equalIn_string, beq_str]
theorem run_pair (k v k' v' : ByteArray) : (binOp .neq ITT (.agg #[.string k, .string v]) (.agg #[.string k', .string v'])).run Tryz.prog w = .ok (.bool (!decide (k = k' ∧ v = v'))) w := by
  rw [run_neq_struct, eq_pair]; rfl
theorem eq_key (g : Int) (s : ByteArray) (a b : Int) : (Op.equalIn 10000 25 (.agg #[.int .i64 g, .string s, .int .i64 a, .int .i64 b]) (.agg #[.int .i64 g, .string s, .int .i64 a, .int .i64 b])).run Tryz.prog w = .ok true w := by
  have hu : (Tryz.prog).underlying 25 = some (.struct ((Tryz.prog).fieldsOf 25)) := by kernel_rfl
  rw [run_equalIn_struct w 9999 _ _ _ hu (by kernel_rfl), eqF_of, show ((Tryz.prog).fieldsOf 25).toList.map fTold = [(true, 3, 0), (true, 9, 1), (true, 3, 2), (true, 3, 3)] by kernel_rfl]
  simp [eqF, part, run_equalIn_string, run_equalIn_int]
theorem eq_event (i t k j : Int) (s : ByteArray) : (Op.equalIn 10000 27 (.agg #[.int .i64 i, .int .i64 t, .int .i64 k, .int .i64 j, .string s]) (.agg #[.int .i64 i, .int .i64 t, .int .i64 k, .int .i64 j, .string s])).run Tryz.prog w = .ok true w := by
  have hu : (Tryz.prog).underlying 27 = some (.struct ((Tryz.prog).fieldsOf 27)) := by kernel_rfl
  rw [run_equalIn_struct w 9999 _ _ _ hu (by kernel_rfl), eqF_of, show ((Tryz.prog).fieldsOf 27).toList.map fTold = [(true, 3, 0), (true, 3, 1), (true, 3, 2), (true, 3, 3), (true, 9, 4)] by kernel_rfl]
  simp [eqF, part, run_equalIn_string, run_equalIn_int]
theorem eq_chain (a b : Int) (s r : ByteArray) : (Op.equalIn 10000 29 (.agg #[.int .i64 a, .int .i64 b, .string s, .string r]) (.agg #[.int .i64 a, .int .i64 b, .string s, .string r])).run Tryz.prog w = .ok true w := by
  have hu : (Tryz.prog).underlying 29 = some (.struct ((Tryz.prog).fieldsOf 29)) := by kernel_rfl
  rw [run_equalIn_struct w 9999 _ _ _ hu (by kernel_rfl), eqF_of, show ((Tryz.prog).fieldsOf 29).toList.map fTold = [(true, 3, 0), (true, 3, 1), (true, 9, 2), (true, 9, 3)] by kernel_rfl]
  simp [eqF, part, run_equalIn_string, run_equalIn_int]
theorem eq_tok (a b c : Int) (s : ByteArray) (d : Int) (f : Bool) (e g : Int) (r : ByteArray) : (Op.equalIn 10000 TOKT (.agg (tokC a b c s d f e g r).toArray) (.agg (tokC a b c s d f e g r).toArray)).run Tryz.prog w = .ok true w := by
  have hu : (Tryz.prog).underlying TOKT = some (.struct ((Tryz.prog).fieldsOf TOKT)) := by kernel_rfl
  rw [run_equalIn_struct w 9999 _ _ _ hu (by kernel_rfl), eqF_of, show ((Tryz.prog).fieldsOf TOKT).toList.map fTold = [(true, 3, 0), (true, 3, 1), (true, 3, 2), (true, 9, 3), (true, 3, 4), (true, 4, 5), (true, 3, 6), (true, 3, 7), (true, 9, 8)] by kernel_rfl]
  simp [tokC, eqF, part, run_equalIn_string, run_equalIn_int, run_equalIn_bool]
end
end Go.Proofs.YtabibfabieghpaaGreatDoor
namespace Go.Proofs.YtabibfabieghpaaGreatDoor
open Go.RowKit
theorem join_len (xs : List ByteArray) : (joinL xs).length + 1 = (if xs = [] then 1 else bytesL xs) := by
  cases xs with
  | nil => rfl
  | cons x r =>
    rw [if_neg (by simp)]
    show (x.data.toList ++ r.flatMap fun y => 32 :: y.data.toList).length + 1 = (x.size + 1) + (r.map fun s => s.size + 1).sum
    have h : ∀ r : List ByteArray, (r.flatMap fun y => 32 :: y.data.toList).length = (r.map fun s => s.size + 1).sum := fun r => by
      induction r with
      | nil => rfl
      | cons y r ih => rw [List.flatMap_cons, List.length_append, ih, List.map_cons, List.sum_cons]; rfl
    rw [List.length_append, h r]
    show x.size + _ + 1 = _
    omega
theorem fit_iff (xs : List ByteArray) : fitL xs = true ↔ xs.length ≤ 8 ∧ (joinL xs).length ≤ 60 := by
  have h := join_len xs
  unfold fitL
  simp only [Bool.and_eq_true, decide_eq_true_eq]
  by_cases e : xs = []
  · subst e; simp [bytesL, joinL]
  · rw [if_neg e] at h
    omega
/-- Names that rise: a scope, if they fit. -/
theorem scErr_rise {xs : List ByteArray} (hn : xs.all nameB = true) (hr : Rise xs) : scErr xs = manyE xs := by
  have e : scOk xs = true := by unfold scOk; rw [hn, rise_risesB hr]; rfl
  unfold scErr manyE
  rw [if_pos e]
  by_cases hf : fitL xs = true
  · rw [if_pos hf, if_pos ((fit_iff xs).1 hf)]
  · rw [if_neg hf, if_neg (fun h => hf ((fit_iff xs).2 h))]
theorem scErr_zero {xs : List ByteArray} (h : scErr xs = 0) : xs.all nameB = true ∧ Rise xs ∧ fitL xs = true := by
  unfold scErr at h
  split at h
  · rename_i hok
    unfold scOk at hok
    rw [Bool.and_eq_true] at hok
    split at h
    · rename_i hf
      exact ⟨hok.1, risesB_rise hok.2, (fit_iff xs).2 hf⟩
    · cases h
  · cases h
theorem ok_not_space {c : UInt8} (h : okC c = true) : c ≠ 32 := by rintro rfl; revert h; decide
theorem name_no_space {s : ByteArray} (h : nameB s = true) : ∀ c ∈ s.data.toList, c ≠ 32 := by
  unfold nameB at h
  simp only [Bool.and_eq_true] at h
  exact fun c hc => ok_not_space (List.all_eq_true.1 h.1.1 c hc)
theorem cut_join : ∀ {xs : List ByteArray}, xs ≠ [] → xs.all nameB = true → cutL (joinL xs) = xs.map fun s => s.data.toList
  | [], h, _ => absurd rfl h
  | [x], _, hn => by
    show cutL (x.data.toList ++ []) = _
    rw [List.append_nil]
    exact cutL_whole (name_no_space (List.all_eq_true.1 hn x (List.mem_cons_self ..)))
  | x :: y :: r, _, hn => by
    have h1 := List.all_eq_true.1 hn
    show cutL (x.data.toList ++ 32 :: (y.data.toList ++ r.flatMap fun y => 32 :: y.data.toList)) = _
    rw [cutL_hit _ (name_no_space (h1 x (List.mem_cons_self ..)))]
    have ih := cut_join (xs := y :: r) (by simp) (List.all_eq_true.2 fun z hz => h1 z (List.mem_cons_of_mem _ hz))
    have ih' : cutL (y.data.toList ++ r.flatMap fun y => 32 :: y.data.toList) = (y :: r).map fun s => s.data.toList := ih
    rw [ih']
    rfl
theorem name_pos {s : ByteArray} (h : nameB s = true) : 0 < s.size := by
  unfold nameB at h
  simp only [Bool.and_eq_true, decide_eq_true_eq] at h
  exact h.1.2
/-- Parse of Print. -/
theorem parse_print {xs : List ByteArray} (h : scErr xs = 0) : parseV (scTxt xs) = (xs, 0) := by
  obtain ⟨hn, hr, hf⟩ := scErr_zero h
  have e : scTxt xs = ⟨(joinL xs).toArray⟩ := by unfold scTxt; rw [if_pos h]
  rw [e]
  by_cases h0 : xs = []
  · subst h0; rfl
  · have hp : pieces ⟨(joinL xs).toArray⟩ = xs := pieces_of (cut_join h0 hn)
    have hs : (⟨(joinL xs).toArray⟩ : ByteArray).size ≠ 0 := by
      obtain ⟨x, r, rfl⟩ := List.exists_cons_of_ne_nil h0
      have := name_pos (List.all_eq_true.1 hn x (List.mem_cons_self ..))
      show (x.data.toList ++ _).toArray.size ≠ 0
      have h2 : x.data.toList.length = x.size := rfl
      simp only [List.size_toArray, List.length_append, h2]
      omega
    unfold parseV
    rw [if_neg hs, hp, if_pos hn, sortL_of_rise hr]
    unfold fewL manyE
    rw [if_pos hf, if_pos hf]
theorem names_sort {xs : List ByteArray} (hn : xs.all nameB = true) : (sortL xs).all nameB = true := List.all_eq_true.2 fun x hx => List.all_eq_true.1 hn x ((mem_sortL x xs).1 hx)
/-- What was parsed is a scope, or nothing. -/
theorem parse_right (s : ByteArray) : ((parseV s).2 = 0 ∧ scErr (parseV s).1 = 0) ∨ ((parseV s).1 = [] ∧ ((parseV s).2 = 60 ∨ (parseV s).2 = 61)) := by
  unfold parseV
  split
  · exact .inl ⟨rfl, rfl⟩
  · split
    · rename_i hn
      rcases manyE_cases (sortL (pieces s)) with ⟨h1, h2⟩ | ⟨h1, h2⟩
      · left
        show manyE _ = 0 ∧ scErr (fewL _) = 0
        rw [h1, h2]
        exact ⟨rfl, by rw [scErr_rise (names_sort hn) (rise_sortL _)]; exact h1⟩
      · right
        show fewL _ = [] ∧ (manyE _ = 60 ∨ manyE _ = 61)
        rw [h1, h2]
        exact ⟨rfl, .inr rfl⟩
    · exact .inr ⟨rfl, .inl rfl⟩
end Go.Proofs.YtabibfabieghpaaGreatDoor
namespace Go.Proofs.YtabibfabieghpaaGreatDoor
open Go.RowKit
/-- The bytes of the first names with a space between them. -/
def blen (xs : List ByteArray) (k : Nat) : Nat := k - 1 + tot (xs.take k)
theorem blen_step {xs : List ByteArray} {k : Nat} {x : ByteArray} (hx : xs[k]? = some x) : blen xs (k + 1) = blen xs k + x.size + (if 0 < k then 1 else 0) := by
  unfold blen
  rw [tot_take xs k x hx]
  split <;> omega
theorem joinL_len2 (xs : List ByteArray) (h : xs ≠ []) : (joinL xs).length = xs.length - 1 + tot xs := by
  cases xs with
  | nil => exact absurd rfl h
  | cons x r =>
    have := flatJ_len r
    show (x.data.toList ++ flatJ r).length = _
    rw [List.length_append, this]
    show x.size + (r.length + tot r) = r.length + 1 - 1 + (x.size + tot r)
    omega
theorem blen_all (xs : List ByteArray) : blen xs xs.length = (joinL xs).length := by
  unfold blen
  rw [List.take_length]
  cases xs with
  | nil => rfl
  | cons x r => rw [joinL_len2 _ (by simp)]
theorem names_take {xs : List ByteArray} {k : Nat} (h : ∀ i a, i < k → xs[i]? = some a → nameB a = true) : tot (xs.take k) ≤ 16 * k := by
  have h1 : (xs.take k).all nameB = true := by
    rw [List.all_eq_true]
    intro x hx
    obtain ⟨i, hi, rfl⟩ := List.getElem_of_mem hx
    have hi2 : i < k := by rw [List.length_take] at hi; omega
    refine h i _ hi2 ?_
    rw [← List.getElem?_take_of_lt hi2]
    exact List.getElem?_eq_getElem hi
  have h2 := tot_names _ h1
  rw [List.length_take] at h2
  omega
theorem w64_nat (a b : Nat) (h : a + b + 1 ≤ 158329674399744) : wrap64 ((a : Int) + b) = (a : Int) + b ∧ wrap64 ((a : Int) + b + 1) = (a : Int) + b + 1 := by
  unfold wrap64
  omega
section
variable {E : World} {S : Ph} {L : List Hp}
set_option maxRecDepth 20000 in
set_option maxHeartbeats 4000000 in
theorem xscope_any (A : Option Addr) (n c : Nat) (xs : List ByteArray) (w : World) (hr : Rds S 1 enStr A n xs) (hsz : ∀ x ∈ xs, x.size ≤ 1000000000000000000) (hn43 : n ≤ 8796093022208) (h : Own E w (Hp.ro S :: L)) :
    Calls Tryz.prog 127 #[.slice A n c] w fun e w' => e = .returned (.bool (decide (scErr xs = 0))) ∧ Own E w' (Hp.ro S :: L) := by
  have HN43 := Lib.hid hn43
  have HLEN := Lib.hid hr.1
  clear hn43
  go_enter Tryz.func127, Tryz.ntmps127
  go_wp2_with fail
  go_loopw [3, 4] (fun s i wr => ∃ k : Nat, k ≤ n ∧ i = .int .i64 k ∧ s = .int .i64 (blen xs k : Nat) ∧ (∀ i a, i < k → xs[i]? = some a → nameB a = true) ∧ (∀ i a b, i + 1 < k → xs[i]? = some a → xs[i + 1]? = some b → slt a b = true) ∧ Own E wr (Hp.ro S :: L)) (fun _ i _ => n - (intOf i).toNat)
  case atStart => exact ⟨0, by omega, rfl, by simp [blen, tot], fun _ _ h => absurd h (by omega), fun _ _ _ h => absurd h (by omega), h⟩
  case round =>
    obtain ⟨k, hk, rfl, rfl, hnm, hri, hw⟩ := hrel
    clear h
    by_cases hlt : k < n
    · obtain ⟨x, b, off, hx, rfl, hc⟩ := hr.get1 hlt
      have HCX := Lib.hid (hc _ rfl)
      have hcx := hw.rd HCX.out
      have HNM := Lib.hid hnm
      have HRI := Lib.hid hri
      have hxs := hsz x (List.mem_of_getElem? hx)
      have KN := fun w => xname_any x w hxs
      have hbt := names_take hnm
      have hbs := blen_step hx
      have hbu : blen xs k ≤ 17 * k := by unfold blen; omega
      have HX := Lib.hid hx
      have HK2 := Lib.hid hlt
      have i1 : (k : Int) < n := by omega
      have i5 := Lib.hid (show wrap64 ((k : Int) + 1) = ((k + 1 : Nat) : Int) by have := HN43.out; unfold wrap64; omega)
      cases e : nameB x with
      | false =>
        rw [e] at KN
        have HE := Lib.hid e
        clear hr hx hc hk hlt hnm hri hsz e hbt hbs hbu hxs
        go_wp2_with (refine (KN _).mono ?_; rintro e wr2 ⟨rfl, rfl⟩)
        have h := hw.drew
        refine wp_region_text [] (fun _ => True) (by kernel_rfl) ?_ (fun hS => ?_)
        · trivial
        refine gp 0 (some 17) ?_
        refine gp 1 (some 18) ?_
        refine gp 2 (some 19) ?_
        refine gs 3 (some 20) ?_
        refine gs 4 (some 21) ?_
        refine gs 5 (some 22) ?_
        refine gs 6 (some 23) ?_
        refine gs 7 (some 24) ?_
        refine gs 8 (some 25) ?_
        refine gs 9 (some 26) ?_
        refine gs 10 (some 27) ?_
        refine gs 11 (some 28) ?_
        refine gs 12 (some 29) ?_
        refine gs 13 (some 30) ?_
        refine gs 14 (some 31) ?_
        refine gs 15 (some 32) ?_
        refine gs 16 (some 33) ?_
        refine gp 17 (some 34) ?_
        refine wpAnyG_done (by kernel_rfl) ?_ _
        refine NoPanic.normal ?_
        go_wp2_with fail
        go_ret
        have e6 := names_not HX.out HE.out
        exact ⟨by rw [e6]; rfl, h⟩
      | true =>
        rw [e] at KN
        have HE := Lib.hid e
        have hsz16 := nm_size e
        cases k with
        | zero =>
          have hcx : wr.cell? ⟨b, off, none⟩ = some (.string x) := hcx
          have hd : ∀ w', Own E w' (Hp.ro S :: L) → w'.cell? ⟨b, off, none⟩ = some (.string x) := fun w' h => h.rd HCX.out
          have HD := Lib.hid hd
          have j1 : (0 : Int) < n := by omega
          have hb0 : blen xs 0 = 0 := by simp [blen, tot]
          have HB := Lib.hid (show ((x.size : Nat) : Int) = ((blen xs 1 : Nat) : Int) by rw [hbs, hb0]; simp)
          clear hr hx hc hk hlt hnm hri hsz e hbt hbs hbu hxs hd i1
          rw [hb0]
          go_wp2_with (refine (KN _).mono ?_; rintro e wr2 ⟨rfl, rfl⟩)
          have h := hw.drew
          clear hw
          refine wp_region_text [] (fun _ => True) (by kernel_rfl) ?_ (fun hS => ?_)
          · trivial
          refine gp 0 (some 17) ?_
          refine gp 1 (some 18) ?_
          refine gp 2 (some 19) ?_
          refine gp 3 (some 20) ?_
          refine gp 4 (some 21) ?_
          refine gp 5 (some 22) ?_
          refine gs 6 (some 23) ?_
          refine gs 7 (some 24) ?_
          refine gs 8 (some 25) ?_
          refine gs 9 (some 26) ?_
          refine gs 10 (some 27) ?_
          refine gs 11 (some 28) ?_
          refine gs 12 (some 29) ?_
          refine gs 13 (some 30) ?_
          refine gs 14 (some 31) ?_
          refine gs 15 (some 32) ?_
          refine gp 16 (some 33) ?_
          refine gp 17 (some 34) ?_
          refine wpAnyG_done (by kernel_rfl) ?_ _
          refine NoPanic.normal ?_
          have hcx2 := HD.out _ h
          have HF := Lib.hid h
          clear h
          go_wp2_with fail
          go_roundw
          case rel =>
            refine ⟨1, by omega, by first | rfl | go_num, by first | exact congrArg (Value.int .i64) HB.out | (simp; exact HB.out), fun i a hi ha => ?_, fun _ _ _ h => absurd h (by omega), HF.out⟩
            obtain rfl : i = 0 := by omega
            rw [HX.out] at ha
            injection ha with ha
            rw [← ha]; exact HE.out
          case measure => simp [intOf]; omega
        | succ k =>
          obtain ⟨y, b', off', hy, e9, hc'⟩ := hr.get1 (k := k) (by omega)
          injection e9 with e9
          injection e9 with e1 e2
          subst e1 e2
          have hd : ∀ w', Own E w' (Hp.ro S :: L) → w'.cell? ⟨b, off + k, none⟩ = some (.string y) ∧ w'.cell? ⟨b, off + (k + 1), none⟩ = some (.string x) := fun w' h => ⟨h.rd (hc' _ rfl), h.rd HCX.out⟩
          have HD := Lib.hid hd
          have HY := Lib.hid hy
          have i5 := Lib.hid (show wrap64 ((k : Int) + 1 + 1) = ((k + 2 : Nat) : Int) by have := HN43.out; unfold wrap64; omega)
          have j1 : (0 : Int) < (k : Int) + 1 := by omega
          have j2 : wrap64 (k : Int) = (k : Int) := by have := HN43.out; unfold wrap64; omega
          have j7 : IntKind.i64.wrap (k : Int) = (k : Int) := by have := HN43.out; rw [IntKind.wrap_i64]; omega
          have j3 : (k : Int) + 1 < n := by omega
          have j8 : (0 : Int) ≤ (k : Int) + 1 := by omega
          have j9 : (0 : Int) ≤ (k : Int) := by omega
          have j4 : (k : Int) < n := by omega
          have HB := Lib.hid (show (blen xs (k + 2) : Nat) = blen xs (k + 1) + x.size + 1 from by show blen xs (k + 1 + 1) = _; rw [hbs]; simp)
          have HU := Lib.hid (show blen xs (k + 1) + x.size + 1 ≤ 158329674399744 by have := HN43.out; omega)
          generalize hbl : blen xs (k + 1) = bl at *
          obtain ⟨j5, j6⟩ := w64_nat bl x.size HU.out
          clear hr hx hc hk hlt hnm hri hsz e hbt hbs hbu hxs hd i1 hy hc' hbl
          cases e2 : slt y x with
          | true =>
            have HE2 := Lib.hid e2
            have hl := fun w => run_geq_str 9 y x w
            simp only [e2, Bool.not_true] at hl
            clear e2
            go_wp2_with (refine (KN _).mono ?_; rintro e wr2 ⟨rfl, rfl⟩)
            have h := hw.drew
            clear hw
            refine wp_region_text [10, 14] (fun w' => w'.cell? ⟨b, off + k, none⟩ = some (.string y) ∧ w'.cell? ⟨b, off + (k + 1), none⟩ = some (.string x)) (by kernel_rfl) ?_ (fun hS => ?_)
            · exact HD.out _ h
            refine gp 0 (some 17) ?_
            refine gp 1 (some 18) ?_
            refine gp 2 (some 19) ?_
            refine gp 3 (some 20) ?_
            refine gq 4 (some 21) (.bool true) ?_ ?_
            · intro w
              go_simp; first | done | omega | (simp; omega)
            refine gp 5 (some 22) ?_
            refine gp 6 (some 23) ?_
            refine gp 7 (some 24) ?_
            refine gq 8 (some 25) (.int .i64 k) ?_ ?_
            · intro w
              go_simp; first | done | exact j7 | omega | simp [j7]
            refine gq 9 (some 26) (.pointer (some ⟨b, off + k, none⟩)) ?_ ?_
            · intro w
              go_simp; first | done | omega | (simp; omega) | (intros; omega)
            refine gl 10 (some 27) ?_
            refine gp 11 (some 28) ?_
            refine gp 12 (some 29) ?_
            refine gq 13 (some 30) (.pointer (some ⟨b, off + (k + 1), none⟩)) ?_ ?_
            · intro w
              go_simp; first | done | omega | (rw [if_pos (by omega)]) | (simp; omega) | (intros; omega)
            refine gl 14 (some 31) ?_
            refine gq 15 (some 32) (.bool false) ?_ ?_
            · intro w
              go_simp; first | done | (rw [hl]; rfl) | simp [hl]
            refine gp 16 (some 33) ?_
            refine gp 17 (some 34) ?_
            refine wpAnyG_done (by kernel_rfl) ?_ _
            refine NoPanic.normal ?_
            have hcx2 := (HD.out _ h).2
            have HF := Lib.hid h
            clear h
            go_wp2_with fail
            go_roundw
            case rel =>
              refine ⟨k + 2, by have := HK2.out; omega, ?_, ?_, fun i a hi ha => ?_, rises_step HRI.out HY.out HX.out HE2.out, HF.out⟩
              · first | rfl | exact congrArg (Value.int .i64) i5.out | (rw [← i5.out]; simp)
              · exact congrArg (Value.int .i64) (by have := HB.out; rw [j6]; omega)
              · by_cases hi2 : i < k + 1
                · exact HNM.out i a hi2 ha
                · obtain rfl : i = k + 1 := by omega
                  rw [HX.out] at ha
                  injection ha with ha
                  rw [← ha]; exact HE.out
            case measure =>
              have e7 := i5.out
              have e8 := HK2.out
              first
                | (rw [e7]; simp only [intOf]; omega)
                | (simp [intOf]; omega)
          | false =>
            have HE2 := Lib.hid e2
            have hl := fun w => run_geq_str 9 y x w
            simp only [e2, Bool.not_false] at hl
            clear e2
            go_wp2_with (refine (KN _).mono ?_; rintro e wr2 ⟨rfl, rfl⟩)
            have h := hw.drew
            clear hw
            refine wp_region_text [10, 14] (fun w' => w'.cell? ⟨b, off + k, none⟩ = some (.string y) ∧ w'.cell? ⟨b, off + (k + 1), none⟩ = some (.string x)) (by kernel_rfl) ?_ (fun hS => ?_)
            · exact HD.out _ h
            refine gp 0 (some 17) ?_
            refine gp 1 (some 18) ?_
            refine gp 2 (some 19) ?_
            refine gp 3 (some 20) ?_
            refine gq 4 (some 21) (.bool true) ?_ ?_
            · intro w
              go_simp; first | done | omega | (simp; omega)
            refine gp 5 (some 22) ?_
            refine gp 6 (some 23) ?_
            refine gp 7 (some 24) ?_
            refine gq 8 (some 25) (.int .i64 k) ?_ ?_
            · intro w
              go_simp; first | done | exact j7 | omega | simp [j7]
            refine gq 9 (some 26) (.pointer (some ⟨b, off + k, none⟩)) ?_ ?_
            · intro w
              go_simp; first | done | omega | (simp; omega) | (intros; omega)
            refine gl 10 (some 27) ?_
            refine gp 11 (some 28) ?_
            refine gp 12 (some 29) ?_
            refine gq 13 (some 30) (.pointer (some ⟨b, off + (k + 1), none⟩)) ?_ ?_
            · intro w
              go_simp; first | done | omega | (rw [if_pos (by omega)]) | (simp; omega) | (intros; omega)
            refine gl 14 (some 31) ?_
            refine gq 15 (some 32) (.bool true) ?_ ?_
            · intro w
              go_simp; first | done | (rw [hl]; rfl) | simp [hl]
            refine gp 16 (some 33) ?_
            refine gp 17 (some 34) ?_
            refine wpAnyG_done (by kernel_rfl) ?_ _
            refine NoPanic.normal ?_
            go_wp2_with fail
            go_ret
            have e6 := rise_not HY.out HX.out HE2.out
            exact ⟨by rw [e6]; rfl, h⟩
    · obtain rfl : k = n := by omega
      have hall := names_all HLEN.out.symm hnm
      have hris : risesB xs = true := (risesB_iff xs).2 fun i a b ha hb => hri i a b (by rw [← HLEN.out]; exact (List.getElem?_eq_some_iff.1 hb).1) ha hb
      have hok : scOk xs = true := by unfold scOk; rw [hall, hris]; rfl
      have he : scErr xs = if xs.length ≤ 8 ∧ (joinL xs).length ≤ 60 then 0 else 61 := by unfold scErr; rw [if_pos hok]
      have hbb : blen xs k = (joinL xs).length := by rw [← HLEN.out]; exact blen_all xs
      rw [HLEN.out, ← hbb] at he
      have hbt := names_take hnm
      have hbu : blen xs k ≤ 158329674399744 := by have := HN43.out; unfold blen; omega
      have HE := Lib.hid he
      have i1 : ¬ (k : Int) < (k : Int) := by omega
      generalize blen xs k = bl at *
      clear hall hris hok he hbb hnm hri hr hbt hsz
      have H := Lib.hid hw
      clear hw
      go_wp2_with fail
      all_goals go_ret
      all_goals
        refine ⟨(show Ending.returned (Value.bool _) = Ending.returned (Value.bool _) from ret_bool ?_), H.out⟩
        have h1 := HE.out
        rw [Bool.eq_iff_iff]
        split at h1
        · rw [h1]
          (first | omega | (simp <;> omega) | ((try simp only [Bool.not_eq_true'] at *); (try simp only [Bool.not_eq_false'] at *); (try simp only [decide_eq_true_eq] at *); (try simp only [decide_eq_false_iff_not] at *); (try simp only [bne_iff_ne] at *); (try simp only [ne_eq] at *); (try simp only [bne_eq_false_iff_eq] at *); first | omega | (simp <;> omega)))
        · rw [h1]
          (first | omega | (simp <;> omega) | ((try simp only [Bool.not_eq_true'] at *); (try simp only [Bool.not_eq_false'] at *); (try simp only [decide_eq_true_eq] at *); (try simp only [decide_eq_false_iff_not] at *); (try simp only [bne_iff_ne] at *); (try simp only [ne_eq] at *); (try simp only [bne_eq_false_iff_eq] at *); first | omega | (simp <;> omega)))
end
end Go.Proofs.YtabibfabieghpaaGreatDoor
namespace Go.Proofs.YtabibfabieghpaaGreatDoor
open Go.RowKit
theorem joinL_snoc : ∀ (xs : List ByteArray) (k : Nat) (x : ByteArray), xs[k]? = some x → joinL (xs.take (k + 1)) = if k = 0 then x.data.toList else joinL (xs.take k) ++ [32] ++ x.data.toList
  | [], k, x, h => by simp at h
  | y :: r, 0, x, h => by
    simp at h
    subst h
    simp [joinL]
  | y :: r, k + 1, x, h => by
    have h2 : r[k]? = some x := by simpa using h
    have h3 := flatJ_take r k x h2
    show y.data.toList ++ flatJ (r.take (k + 1)) = y.data.toList ++ flatJ (r.take k) ++ [32] ++ x.data.toList
    rw [h3]
    simp
section
variable {E : World} {S : Ph} {L : List Hp}
set_option maxRecDepth 20000 in
set_option maxHeartbeats 4000000 in
theorem spaced_any (A : Option Addr) (n c : Nat) (xs : List ByteArray) (w : World) (hr : Rds S 1 enStr A n xs) (hsc : scErr xs = 0) (h : Own E w (Hp.ro S :: L)) :
    Calls Tryz.prog 92 #[.slice A n c] w fun e w' => e = .returned (.string (scTxt xs)) ∧ Own E w' (Hp.ro S :: L) := by
  have hall : xs.length ≤ 8 ∧ (joinL xs).length ≤ 60 ∧ xs.all nameB = true := by
    unfold scErr at hsc
    split at hsc
    · rename_i hok
      split at hsc
      · rename_i hl
        refine ⟨hl.1, hl.2, ?_⟩
        unfold scOk at hok
        rw [Bool.and_eq_true] at hok
        exact hok.1
      · cases hsc
    · cases hsc
  have hv : scTxt xs = ⟨(joinL xs).toArray⟩ := by unfold scTxt; rw [if_pos hsc]
  rw [hv]
  have hn8 : n ≤ 8 := by rw [← hr.1]; exact hall.1
  have HLEN := Lib.hid hr.1
  have HALL := Lib.hid hall.2.2
  have hjs : ∀ k, (joinL (xs.take k)).length ≤ 1000 := fun k => by
    have h1 := joinL_len (xs.take k)
    have h2 := tot_le xs k
    have h3 := tot_names xs hall.2.2
    have h4 : (xs.take k).length ≤ xs.length := by rw [List.length_take]; omega
    have := hall.1
    omega
  have HJ := Lib.hid hjs
  clear hall hv hsc hjs
  go_enter Tryz.func92, Tryz.ntmps92
  go_wp2_with fail
  go_loopw [3, 4] (fun s i wr => ∃ k : Nat, k ≤ n ∧ i = .int .i64 k ∧ s = .string ⟨(joinL (xs.take k)).toArray⟩ ∧ Own E wr (Hp.ro S :: L)) (fun _ i _ => n - (intOf i).toNat)
  case atStart => exact ⟨0, by omega, rfl, rfl, h⟩
  case round =>
    obtain ⟨k, hk, rfl, rfl, hw⟩ := hrel
    clear h
    by_cases hlt : k < n
    · obtain ⟨x, b, off, hx, rfl, hc⟩ := hr.get1 hlt
      have hcx := hw.rd (hc _ rfl)
      have hsn := joinL_snoc xs k x hx
      have hj := HJ.out k
      have hx16 := nm_size (List.all_eq_true.1 HALL.out x (List.mem_of_getElem? hx))
      have i1 : (k : Int) < n := by omega
      have i5 : wrap64 ((k : Int) + 1) = ((k + 1 : Nat) : Int) := by unfold wrap64; omega
      have q0 : (⟨(joinL (xs.take k)).toArray⟩ : ByteArray).size ≤ 1000 := by rw [fl_size]; exact hj
      cases k with
      | zero =>
        have hcx : wr.cell? ⟨b, off, none⟩ = some (.string x) := hcx
        rw [if_pos rfl] at hsn
        have HS := Lib.hid (show ((⟨(joinL (xs.take 0)).toArray⟩ : ByteArray) ++ x) = ⟨(joinL (xs.take (0 + 1))).toArray⟩ by
          rw [hsn]
          refine bytes_ext _ _ ?_
          simp [joinL])
        have j1 : (0 : Int) < n := by omega
        generalize (⟨(joinL (xs.take 0)).toArray⟩ : ByteArray) = J at *
        have q1 : ¬ 9223372036854775807 < J.size + x.size := by omega
        clear hr hx hc hsn hj q0 hx16 hk hlt i1
        have H := Lib.hid hw
        clear hw
        go_wp2_with fail
        go_roundw
        case rel => exact ⟨1, by omega, by first | rfl | go_num, congrArg Value.string HS.out, H.out⟩
        case measure => simp [intOf]; omega
      | succ k =>
        rw [if_neg (by omega)] at hsn
        have HS := Lib.hid (show ((⟨(joinL (xs.take (k + 1))).toArray⟩ : ByteArray) ++ ⟨#[32]⟩ ++ x) = ⟨(joinL (xs.take (k + 1 + 1))).toArray⟩ by
          rw [hsn]
          refine bytes_ext _ _ ?_
          simp)
        generalize (⟨(joinL (xs.take (k + 1))).toArray⟩ : ByteArray) = J at *
        have j1 : (0 : Int) < ((k + 1 : Nat) : Int) := by omega
        have q1 : ¬ 9223372036854775807 < J.size + 1 := by omega
        have q3 : (J ++ ⟨#[32]⟩ : ByteArray).size = J.size + 1 := by rw [ByteArray.size_append]; rfl
        have q2 : ¬ 9223372036854775807 < (J ++ ⟨#[32]⟩ : ByteArray).size + x.size := by omega
        have HK := Lib.hid hlt
        clear hr hx hc hsn hj hx16 hk hlt
        have H := Lib.hid hw
        clear hw
        go_wp2_with fail
        go_roundw
        case rel => exact ⟨k + 2, by have := HK.out; omega, by first | rfl | exact congrArg (Value.int .i64) i5 | (rw [← i5]; simp), congrArg Value.string HS.out, H.out⟩
        case measure =>
          have e8 := HK.out
          first
            | (rw [i5]; simp only [intOf]; omega)
            | (simp [intOf]; omega)
    · obtain rfl : k = n := by omega
      have e9 : xs.take k = xs := List.take_of_length_le (by rw [HLEN.out]; omega)
      rw [e9]
      have i1 : ¬ (k : Int) < (k : Int) := by omega
      have H := Lib.hid hw
      clear hw
      go_wp2_with fail
      go_ret
      exact ⟨rfl, H.out⟩
end
end Go.Proofs.YtabibfabieghpaaGreatDoor
namespace Go.Proofs.YtabibfabieghpaaGreatDoor
open Go.RowKit
section
variable {E : World} {S : Ph} {L : List Hp}
set_option maxRecDepth 20000 in
set_option maxHeartbeats 8000000 in
theorem xfamilymay_any (id : Int) (cl su : ByteArray) (A : Option Addr) (n c : Nat) (cr us ii ab gr ge tk st en co : Int) (xs : List ByteArray) (w : World) (hr : Rds S 1 enStr A n xs) (hsz : ∀ x ∈ xs, x.size ≤ 1000000000000000000) (hcl : cl.size ≤ 1000000000000000000) (hsu : su.size ≤ 1000000000000000000) (hn43 : n ≤ 8796093022208) (h : Own E w (Hp.ro S :: L)) :
    Calls Tryz.prog 105 #[.agg (famC id cl su A n c cr us ii ab gr ge tk st en co).toArray] w fun ev w' => ev = .returned (.bool (decide (famMay id cl su xs cr us ii ab gr ge tk st en co))) ∧ Own E w' (Hp.ro S :: L) := by
  have H1 := Lib.hid (show Own E _ (Hp.blk w.heap.size FMT (famC id cl su A n c cr us ii ab gr ge tk st en co).toArray :: Hp.ro S :: L) from h.alloc (.cells (famC id cl su A n c cr us ii ab gr ge tk st en co).toArray FMT))
  obtain ⟨n1, hn1⟩ : ∃ nv : Int, nameB cl = decide (nv = 1) := ⟨if nameB cl then 1 else 0, by cases nameB cl <;> rfl⟩
  obtain ⟨n2, hn2⟩ : ∃ nv : Int, nameB su = decide (nv = 1) := ⟨if nameB su then 1 else 0, by cases nameB su <;> rfl⟩
  obtain ⟨q1, hq1⟩ : ∃ q : Int, st = 1 ↔ q = 1 := ⟨if st = 1 then 1 else 0, by split <;> simp_all⟩
  have z1 : (st == 1) = decide (q1 = 1) := by rw [Bool.eq_iff_iff, beq_iff_eq, decide_eq_true_eq, hq1]
  have KR := Lib.hid (fun (w3 : World) (h3 : Own E w3 (Hp.blk w.heap.size FMT (famC id cl su A n c cr us ii ab gr ge tk st en co).toArray :: Hp.ro S :: L)) => xscope_any (E := E) (S := S) (L := Hp.blk w.heap.size FMT (famC id cl su A n c cr us ii ab gr ge tk st en co).toArray :: L) A n c xs w3 hr hsz hn43 h3.f1)
  obtain ⟨sx, hsx⟩ : ∃ sx : Int, sx = scErr xs := ⟨_, rfl⟩
  rw [← hsx] at KR
  have k8 := fun w => xname_any cl w hcl
  have k9 := fun w => xname_any su w hsu
  rw [hn1] at k8
  rw [hn2] at k9
  have hiff : famMay id cl su xs cr us ii ab gr ge tk st en co ↔ ((1 ≤ id ∧ id ≤ 4611686018427387904) ∧ n1 = 1 ∧ n2 = 1 ∧ sx = 0 ∧ (0 ≤ cr ∧ cr ≤ 1099511627776) ∧ (0 ≤ us ∧ us ≤ 1099511627776) ∧ cr ≤ us ∧ (1 ≤ ii ∧ ii ≤ 1099511627776) ∧ (1 ≤ ab ∧ ab ≤ 1099511627776) ∧ (0 ≤ gr ∧ gr ≤ 1099511627776) ∧ (1 ≤ ge ∧ ge ≤ 1073741824) ∧ (1 ≤ tk ∧ tk ≤ 4611686018427387904) ∧ (co = 0 ∨ (1 ≤ co ∧ co ≤ 4611686018427387904)) ∧ ((q1 = 1 ∧ en = 0) ∨ ((st = 2 ∨ st = 3 ∨ st = 4) ∧ (0 ≤ en ∧ en ≤ 1099511627776) ∧ us ≤ en))) := by
    unfold famMay
    rw [hn1, hn2, ← hsx, decide_eq_true_iff, decide_eq_true_iff, ← hq1]
  have HI := Lib.hid hiff
  have HQ := Lib.hid hq1
  have k1 := fun w => xid_any id w
  have k2 := fun w => xid_any tk w
  have k3 := fun w => xtime_any cr w
  have k4 := fun w => xtime_any us w
  have k5 := fun w => xtime_any gr w
  have k6 := fun w => xtime_any en w
  clear h hiff hn1 hn2 hq1 hsx hr hsz hcl hsu
  go_enter Tryz.func105, Tryz.ntmps105
  obtain ⟨d0, d1, d2, d3, d4, d5, d6, d7, d8, d9, d10, d11, d12, d13⟩ := fam_cells id cl su A n c cr us ii ab gr ge tk st en co H1.out
  go_wp2_with (first
    | (with_reducible refine (k1 _).mono ?_; rintro ev w2 ⟨rfl, rfl⟩)
    | (with_reducible refine (k2 _).mono ?_; rintro ev w2 ⟨rfl, rfl⟩)
    | (with_reducible refine (k3 _).mono ?_; rintro ev w2 ⟨rfl, rfl⟩)
    | (with_reducible refine (k4 _).mono ?_; rintro ev w2 ⟨rfl, rfl⟩)
    | (with_reducible refine (k5 _).mono ?_; rintro ev w2 ⟨rfl, rfl⟩)
    | (with_reducible refine (k6 _).mono ?_; rintro ev w2 ⟨rfl, rfl⟩)
    | (with_reducible refine (k8 _).mono ?_; rintro ev w2 ⟨rfl, rfl⟩)
    | (with_reducible refine (k9 _).mono ?_; rintro ev w2 ⟨rfl, rfl⟩)
    | (with_reducible refine (KR.out _ H1.out).mono ?_; clear H1 d0 d1 d2 d3 d4 d5 d6 d7 d8 d9 d10 d11 d12 d13; rintro ev w2 ⟨rfl, h⟩; have H1 := Lib.hid (show Own E w2 (Hp.blk w.heap.size FMT (famC id cl su A n c cr us ii ab gr ge tk st en co).toArray :: Hp.ro S :: L) from h.f1); clear h; obtain ⟨d0, d1, d2, d3, d4, d5, d6, d7, d8, d9, d10, d11, d12, d13⟩ := fam_cells id cl su A n c cr us ii ab gr ge tk st en co H1.out))
  all_goals go_ret
  all_goals
    refine ⟨(show Ending.returned (Value.bool _) = Ending.returned (Value.bool _) from ret_bool ?_), H1.out.drop⟩
    rw [Bool.eq_iff_iff]
    refine Iff.trans ?_ (decide_eq_true_iff.trans HI.out).symm
    have hq := HQ.out
    (first | omega | (simp <;> omega) | ((try simp only [Bool.not_eq_true'] at *); (try simp only [Bool.not_eq_false'] at *); (try simp only [decide_eq_true_eq] at *); (try simp only [decide_eq_false_iff_not] at *); (try simp only [bne_iff_ne] at *); (try simp only [ne_eq] at *); (try simp only [bne_eq_false_iff_eq] at *); first | omega | (simp <;> omega)))
end
end Go.Proofs.YtabibfabieghpaaGreatDoor
