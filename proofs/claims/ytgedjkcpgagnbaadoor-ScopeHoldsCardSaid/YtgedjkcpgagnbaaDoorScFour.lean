/- scope.Join, Meet, Minus, Within. -/
import Derived.Test.YtgedjkcpgagnbaaDoorScOps
namespace Go.Proofs.YtgedjkcpgagnbaaDoor
open Go.RowKit Go.Maps
theorem fit_sub {xs : List ByteArray} {p : ByteArray → Bool} (h : fitL xs = true) : fitL (xs.filter p) = true := by
  unfold fitL at *
  simp only [Bool.and_eq_true, decide_eq_true_eq] at *
  have h1 := List.length_filter_le p xs
  have h2 : ∀ l : List ByteArray, bytesL (l.filter p) ≤ bytesL l := fun l => by
    induction l with
    | nil => simp
    | cons a l ih =>
      by_cases e : p a = true
      · rw [List.filter_cons_of_pos e]
        simp only [bytesL, List.map_cons, List.sum_cons] at ih ⊢
        omega
      · rw [List.filter_cons_of_neg e]
        simp only [bytesL, List.map_cons, List.sum_cons] at ih ⊢
        omega
  have := h2 xs
  exact ⟨by omega, by omega⟩
theorem those_is {xs ys : List ByteArray} (W : Bool) (h1 : scErr xs = 0) (h2 : scErr ys = 0) : fewL (sortL (xs.filter fun x => hasB x ys == W)) = thoseV xs ys W := by
  obtain ⟨-, hr, hf⟩ := scErr_zero h1
  unfold thoseV
  rw [if_pos ⟨h1, h2⟩, sortL_of_rise (List.Pairwise.sublist List.filter_sublist hr)]
  unfold fewL
  rw [if_pos (fit_sub hf)]
section
variable {E : World} {S : Ph} {L : List Hp}
set_option maxRecDepth 20000 in
set_option maxHeartbeats 4000000 in
theorem join6_any (A B : Option Addr) (n c m d : Nat) (xs ys : List ByteArray) (w : World) (hra : Rds S 1 enStr A n xs) (hrb : Rds S 1 enStr B m ys) (hnc : n ≤ c) (hmd : m ≤ d) (hn : n ≤ 8796093022208) (hm : m ≤ 8796093022208) (h : Own E w (Hp.ro S :: L)) :
    Calls Tryd.prog 23 #[.slice A n c, .slice B m d] w fun e w' => ∃ v, e = .returned (.tuple #[v, .int .i64 (joinV xs ys).2]) ∧ Own E w' (Hp.lst ST v ((joinV xs ys).1.map Value.string) :: Hp.ro S :: L) := by
  have H := Lib.hid h
  have e0 : joinV xs ys = if scErr xs = 0 ∧ scErr ys = 0 then (fewL (sortL (xs ++ ys)), manyE (sortL (xs ++ ys))) else ([], 60) := rfl
  by_cases h1 : scErr xs = 0 ∧ scErr ys = 0
  · rw [if_pos h1] at e0
    have E0 := Lib.hid e0
    have KB := Lib.hid (fun w h => both_ok (E := E) (L := L) A B n c m d xs ys w hra hrb hnc hmd hn hm h1.1 h1.2 h)
    have hn8 : n ≤ 8 := by rw [← hra.1]; exact (right8 h1.1).1
    have hm8 : m ≤ 8 := by rw [← hrb.1]; exact (right8 h1.2).1
    have KC := Lib.hid (fun b1 b2 D1 D2 w h => copy_any (E := E) (L := Hp.ro S :: L) b1 n b2 m D1 D2 w hn hm h)
    have h16 : ∀ x ∈ xs ++ ys, x.size ≤ 16 := names16 (by rw [List.all_append, (right8 h1.1).2, (right8 h1.2).2]; rfl)
    have KT := Lib.hid (fun b1 b2 D1 D2 w (hk : Keyd (Lib.mergeD D1 D2) (xs ++ ys)) h => sctold_any (E := E) (L := Hp.mp Tryd.prog ST intEl b2 m D2 :: Hp.ro S :: L) b1 (n + m) (Lib.mergeD D1 D2) (xs ++ ys) w hk h16 (by omega) h)
    clear h hra hrb hn hm h1 e0 hnc hmd hn8 hm8 h16
    generalize sortL (xs ++ ys) = l at *
    go_enter Tryd.func23, Tryd.ntmps23
    go_wp2_with (first
      | (with_reducible refine (KB.out _ H.out).mono ?_; clear KB H; rintro e w2 ⟨b1, b2, D1, D2, rfl, hC1, hC2, h⟩; have HK := Lib.hid (merge_has h.mpOwns h.f1.mpOwns hC1.keyd hC2.keyd); have H2 := Lib.hid h; clear h hC1 hC2)
      | (with_reducible refine (KC.out _ _ _ _ _ H2.out).mono ?_; clear KC H2; rintro e w3 ⟨rfl, h⟩; have H3 := Lib.hid h; clear h)
      | (with_reducible refine (KT.out _ _ _ _ _ HK.out H3.out).mono ?_; clear KT H3; rintro e w4 ⟨v, rfl, h⟩; have H4 := Lib.hid h; clear h))
    go_ret2
    rw [E0.out]
    exact ⟨v, rfl, H4.out.f1.drop.f1.drop⟩
  · rw [if_neg h1] at e0
    have E0 := Lib.hid e0
    have KB := Lib.hid (fun w h => both_not (E := E) (L := L) A B n c m d xs ys w hra hrb hnc hmd hn hm h1 h)
    clear h hra hrb hn hm h1 e0 hnc hmd
    go_enter Tryd.func23, Tryd.ntmps23
    go_wp2_with (with_reducible refine (KB.out _ H.out).mono ?_; clear KB H; rintro e w2 ⟨rfl, h⟩; have H2 := Lib.hid h; clear h)
    go_ret2
    rw [E0.out]
    exact ⟨_, rfl, H2.out.emptyLst ST none⟩
set_option maxRecDepth 20000 in
set_option maxHeartbeats 4000000 in
theorem meet6_any (A B : Option Addr) (n c m d : Nat) (xs ys : List ByteArray) (w : World) (hra : Rds S 1 enStr A n xs) (hrb : Rds S 1 enStr B m ys) (hnc : n ≤ c) (hmd : m ≤ d) (hn : n ≤ 8796093022208) (hm : m ≤ 8796093022208) (h : Own E w (Hp.ro S :: L)) :
    Calls Tryd.prog 21 #[.slice A n c, .slice B m d] w fun e w' => ∃ v, e = .returned v ∧ Own E w' (Hp.lst ST v ((thoseV xs ys true).map Value.string) :: Hp.ro S :: L) := by
  have H := Lib.hid h
  by_cases h1 : scErr xs = 0 ∧ scErr ys = 0
  · have E0 := Lib.hid (those_is true h1.1 h1.2)
    have KB := Lib.hid (fun w h => both_ok (E := E) (L := L) A B n c m d xs ys w hra hrb hnc hmd hn hm h1.1 h1.2 h)
    have h16 : ∀ x ∈ xs, x.size ≤ 16 := names16 (right8 h1.1).2
    have KL := Lib.hid (fun b1 fb b2 D1 D2 w (hC1 : Counts D1 xs) (hC2 : Counts D2 ys) h => lessMeet (E := E) (L := Hp.ro S :: L) b1 n fb b2 m D1 D2 xs ys w hC1.keyd h16 hC2 hn h)
    clear h hra hrb hn hm h1 hnc hmd h16
    go_enter Tryd.func21, Tryd.ntmps21
    go_wp2_with (first
      | (with_reducible refine (KB.out _ H.out).mono ?_; clear KB H; rintro e w2 ⟨b1, b2, D1, D2, rfl, hC1, hC2, h⟩; have HC1 := Lib.hid hC1; have HC2 := Lib.hid hC2; have H2 := Lib.hid (h.alloc (.cells #[.map (some b2)] NMT)).f1; clear h hC1 hC2)
      | (with_reducible refine (KL.out _ _ _ _ _ _ HC1.out HC2.out H2.out).mono ?_; clear KL H2; rintro e w3 ⟨v, rfl, h⟩; have H3 := Lib.hid h; clear h))
    go_ret
    rw [← E0.out]
    exact ⟨v, rfl, H3.out⟩
  · have KB := Lib.hid (fun w h => both_not (E := E) (L := L) A B n c m d xs ys w hra hrb hnc hmd hn hm h1 h)
    have E0 := Lib.hid (show thoseV xs ys true = [] by unfold thoseV; rw [if_neg h1])
    clear h hra hrb hn hm h1 hnc hmd
    go_enter Tryd.func21, Tryd.ntmps21
    go_wp2_with (with_reducible refine (KB.out _ H.out).mono ?_; clear KB H; rintro e w2 ⟨rfl, h⟩; have H2 := Lib.hid (h.alloc (.cells #[.map none] NMT)); clear h)
    go_ret
    rw [E0.out]
    exact ⟨_, rfl, H2.out.drop.emptyLst ST none⟩
set_option maxRecDepth 20000 in
set_option maxHeartbeats 4000000 in
theorem minus6_any (A B : Option Addr) (n c m d : Nat) (xs ys : List ByteArray) (w : World) (hra : Rds S 1 enStr A n xs) (hrb : Rds S 1 enStr B m ys) (hnc : n ≤ c) (hmd : m ≤ d) (hn : n ≤ 8796093022208) (hm : m ≤ 8796093022208) (h : Own E w (Hp.ro S :: L)) :
    Calls Tryd.prog 22 #[.slice A n c, .slice B m d] w fun e w' => ∃ v, e = .returned v ∧ Own E w' (Hp.lst ST v ((thoseV xs ys false).map Value.string) :: Hp.ro S :: L) := by
  have H := Lib.hid h
  by_cases h1 : scErr xs = 0 ∧ scErr ys = 0
  · have E0 := Lib.hid (those_is false h1.1 h1.2)
    have KB := Lib.hid (fun w h => both_ok (E := E) (L := L) A B n c m d xs ys w hra hrb hnc hmd hn hm h1.1 h1.2 h)
    have h16 : ∀ x ∈ xs, x.size ≤ 16 := names16 (right8 h1.1).2
    have KL := Lib.hid (fun b1 fb b2 D1 D2 w (hC1 : Counts D1 xs) (hC2 : Counts D2 ys) h => lessMinus (E := E) (L := Hp.ro S :: L) b1 n fb b2 m D1 D2 xs ys w hC1.keyd h16 hC2 hn h)
    clear h hra hrb hn hm h1 hnc hmd h16
    go_enter Tryd.func22, Tryd.ntmps22
    go_wp2_with (first
      | (with_reducible refine (KB.out _ H.out).mono ?_; clear KB H; rintro e w2 ⟨b1, b2, D1, D2, rfl, hC1, hC2, h⟩; have HC1 := Lib.hid hC1; have HC2 := Lib.hid hC2; have H2 := Lib.hid (h.alloc (.cells #[.map (some b2)] NMT)).f1; clear h hC1 hC2)
      | (with_reducible refine (KL.out _ _ _ _ _ _ HC1.out HC2.out H2.out).mono ?_; clear KL H2; rintro e w3 ⟨v, rfl, h⟩; have H3 := Lib.hid h; clear h))
    go_ret
    rw [← E0.out]
    exact ⟨v, rfl, H3.out⟩
  · have KB := Lib.hid (fun w h => both_not (E := E) (L := L) A B n c m d xs ys w hra hrb hnc hmd hn hm h1 h)
    have E0 := Lib.hid (show thoseV xs ys false = [] by unfold thoseV; rw [if_neg h1])
    clear h hra hrb hn hm h1 hnc hmd
    go_enter Tryd.func22, Tryd.ntmps22
    go_wp2_with (with_reducible refine (KB.out _ H.out).mono ?_; clear KB H; rintro e w2 ⟨rfl, h⟩; have H2 := Lib.hid (h.alloc (.cells #[.map none] NMT)); clear h)
    go_ret
    rw [E0.out]
    exact ⟨_, rfl, H2.out.drop.emptyLst ST none⟩
theorem within_len {xs ys : List ByteArray} (h1 : scErr xs = 0) (h2 : scErr ys = 0) : decide (((thoseV xs ys false).length : Int) = 0) = withinV xs ys := by
  unfold thoseV withinV
  rw [if_pos ⟨h1, h2⟩, decide_eq_true h1, decide_eq_true h2, Bool.true_and, Bool.true_and, Bool.eq_iff_iff, decide_eq_true_eq, List.all_eq_true]
  constructor
  · intro h x hx
    have h3 : (xs.filter fun x => hasB x ys == false) = [] := List.eq_nil_of_length_eq_zero (by omega)
    have h4 := List.filter_eq_nil_iff.1 h3 x hx
    cases e : hasB x ys with
    | true => rfl
    | false => rw [e] at h4; exact absurd rfl h4
  · intro h
    have h3 : (xs.filter fun x => hasB x ys == false) = [] := List.filter_eq_nil_iff.2 fun x hx => by rw [h x hx]; decide
    rw [h3]; rfl
set_option maxRecDepth 20000 in
set_option maxHeartbeats 4000000 in
theorem within6_any (A B : Option Addr) (n c m d : Nat) (xs ys : List ByteArray) (w : World) (hra : Rds S 1 enStr A n xs) (hrb : Rds S 1 enStr B m ys) (hnc : n ≤ c) (hmd : m ≤ d) (hn : n ≤ 8796093022208) (hm : m ≤ 8796093022208) (h : Own E w (Hp.ro S :: L)) :
    Calls Tryd.prog 24 #[.slice A n c, .slice B m d] w fun e w' => e = .returned (.bool (withinV xs ys)) ∧ Own E w' (Hp.ro S :: L) := by
  have KA := Lib.hid (fun w h => right_any (E := E) (L := L) A n c xs w hra hnc hn h)
  have KB := Lib.hid (fun w h => right_any (E := E) (L := L) B m d ys w hrb hmd hm h)
  have H := Lib.hid h
  by_cases h1 : scErr xs = 0
  · by_cases h2 : scErr ys = 0
    · rw [decide_eq_true h1] at KA
      rw [decide_eq_true h2] at KB
      have E0 := Lib.hid (within_len h1 h2)
      have KM := Lib.hid (fun w h => minus6_any (E := E) (L := L) A B n c m d xs ys w hra hrb hnc hmd hn hm h)
      clear h hra hrb hn hm h1 h2 hnc hmd
      generalize thoseV xs ys false = l at *
      go_enter Tryd.func24, Tryd.ntmps24
      go_wp2_with (first
        | (with_reducible refine (KA.out _ H.out).mono ?_; clear KA H; rintro e w2 ⟨rfl, h⟩; have H2 := Lib.hid h; clear h)
        | (with_reducible refine (KB.out _ H2.out).mono ?_; clear KB H2; rintro e w3 ⟨rfl, h⟩; have H3 := Lib.hid h; clear h)
        | (with_reducible refine (KM.out _ H3.out).mono ?_; clear KM H3; rintro e w4 ⟨v, rfl, h⟩; obtain ⟨A4, c4, rfl, -⟩ := lst_len h; have H4 := Lib.hid h.drop; clear h))
      go_ret
      refine ⟨?_, H4.out⟩
      rw [← E0.out]
      refine congrArg (fun b => Ending.returned (.bool b)) ?_
      show ((l.length : Int) == 0) = decide ((l.length : Int) = 0)
      rw [Bool.eq_iff_iff, beq_iff_eq, decide_eq_true_eq]
    · rw [decide_eq_true h1] at KA
      rw [decide_eq_false h2] at KB
      have E0 := Lib.hid (show withinV xs ys = false by unfold withinV; rw [decide_eq_false h2, Bool.and_false, Bool.false_and])
      clear h hra hrb hn hm h1 h2 hnc hmd
      go_enter Tryd.func24, Tryd.ntmps24
      go_wp2_with (first
        | (with_reducible refine (KA.out _ H.out).mono ?_; clear KA H; rintro e w2 ⟨rfl, h⟩; have H2 := Lib.hid h; clear h)
        | (with_reducible refine (KB.out _ H2.out).mono ?_; clear KB H2; rintro e w3 ⟨rfl, h⟩; have H3 := Lib.hid h; clear h))
      go_ret
      exact ⟨by rw [E0.out]; rfl, H3.out⟩
  · rw [decide_eq_false h1] at KA
    have E0 := Lib.hid (show withinV xs ys = false by unfold withinV; rw [decide_eq_false h1, Bool.false_and, Bool.false_and])
    clear h hra hrb hn hm h1 hnc hmd KB
    go_enter Tryd.func24, Tryd.ntmps24
    go_wp2_with (with_reducible refine (KA.out _ H.out).mono ?_; clear KA H; rintro e w2 ⟨rfl, h⟩; have H2 := Lib.hid h; clear h)
    go_ret
    exact ⟨by rw [E0.out]; rfl, H2.out⟩
end
end Go.Proofs.YtgedjkcpgagnbaaDoor
