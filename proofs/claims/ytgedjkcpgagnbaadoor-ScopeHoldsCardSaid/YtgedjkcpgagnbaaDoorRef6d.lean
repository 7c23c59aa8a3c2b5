/- The reference's Join, Meet, Minus, Within. -/
import Derived.Test.YtgedjkcpgagnbaaDoorRef6c
namespace Go.Proofs.YtgedjkcpgagnbaaDoor
open Go.RowKit
/-- Two scopes together. -/
def joinV (xs ys : List ByteArray) : List ByteArray × Int :=
  if scErr xs = 0 ∧ scErr ys = 0 then (fewL (sortL (xs ++ ys)), manyE (sortL (xs ++ ys))) else ([], 60)
/-- Of one scope the names that another has, or has not. -/
def thoseV (xs ys : List ByteArray) (want : Bool) : List ByteArray :=
  if scErr xs = 0 ∧ scErr ys = 0 then xs.filter fun x => hasB x ys == want else []
def withinV (xs ys : List ByteArray) : Bool := decide (scErr xs = 0) && decide (scErr ys = 0) && xs.all fun x => hasB x ys
theorem right8 {xs : List ByteArray} (h : scErr xs = 0) : xs.length ≤ 8 ∧ xs.all nameB = true := by
  obtain ⟨h1, -, h3⟩ := scErr_zero h
  exact ⟨((fit_iff xs).1 h3).1, h1⟩
section
variable {E : World} {S : Ph} {L : List Hp}
set_option maxRecDepth 20000 in
set_option maxHeartbeats 4000000 in
theorem xjoin_any (A B : Option Addr) (n c m d : Nat) (xs ys : List ByteArray) (w : World) (hra : Rds S 1 enStr A n xs) (hrb : Rds S 1 enStr B m ys) (hsa : ∀ x ∈ xs, x.size ≤ 1000000000000000000) (hsb : ∀ x ∈ ys, x.size ≤ 1000000000000000000) (hn : n ≤ 8796093022208) (hm : m ≤ 8796093022208) (h : Own E w (Hp.ro S :: L)) :
    Calls Tryd.prog 35 #[.slice A n c, .slice B m d] w fun e w' => ∃ v, e = .returned (.tuple #[v, .int .i64 (joinV xs ys).2]) ∧ Own E w' (Hp.lst ST v ((joinV xs ys).1.map Value.string) :: Hp.ro S :: L) := by
  have KA := Lib.hid (fun w h => xright_any (E := E) (L := L) A n c xs w hra hsa hn h)
  have KB := Lib.hid (fun w h => xright_any (E := E) (L := L) B m d ys w hrb hsb hm h)
  have H := Lib.hid h
  have e0 : joinV xs ys = if scErr xs = 0 ∧ scErr ys = 0 then (fewL (sortL (xs ++ ys)), manyE (sortL (xs ++ ys))) else ([], 60) := rfl
  by_cases h1 : scErr xs = 0
  · by_cases h2 : scErr ys = 0
    · rw [decide_eq_true h1] at KA
      rw [decide_eq_true h2] at KB
      rw [if_pos ⟨h1, h2⟩] at e0
      have hna := (right8 h1).2
      have hnb := (right8 h2).2
      have la := (right8 h1).1
      have lb := (right8 h2).1
      have HLA := Lib.hid hra.1
      have HLB := Lib.hid hrb.1
      have hn8 : n ≤ 8 := by rw [← hra.1]; exact la
      have hm8 : m ≤ 8 := by rw [← hrb.1]; exact lb
      have HN8 := Lib.hid hn8
      have HM8 := Lib.hid hm8
      have hsort : ∀ l : List ByteArray, l.length ≤ 16 → (sortL l).length + 1 ≤ 8796093022208 := fun l hl => by have := length_sortL l; omega
      have HSORT := Lib.hid hsort
      have E0 := Lib.hid e0
      have HNS := Lib.hid (names16 (names_sort (xs := xs ++ ys) (by rw [List.all_append, hna, hnb]; rfl)))
      clear h h1 h2 hsa hsb hn hm hna hnb la lb e0 hsort hn8 hm8
      go_enter Tryd.func35, Tryd.ntmps35
      go_wp2_with (first
        | (with_reducible refine (KA.out _ H.out).mono ?_; clear KA H; rintro e w2 ⟨rfl, h⟩; have H2 := Lib.hid h; clear h)
        | (with_reducible refine (KB.out _ H2.out).mono ?_; clear KB H2; rintro e w3 ⟨rfl, h⟩; have H3 := Lib.hid (h.emptyLst ST none); clear h))
      go_loopw [8, 9] (fun o i wr => ∃ (k : Nat) (A' : Option Addr) (c' : Nat), k ≤ n ∧ i = .int .i64 k ∧ o = .slice A' (sortL (xs.take k)).length c' ∧ Own E wr (Hp.lst ST (.slice A' (sortL (xs.take k)).length c') ((sortL (xs.take k)).map Value.string) :: Hp.ro S :: L)) (fun _ i _ => n - (intOf i).toNat)
      case atStart => exact ⟨0, none, 0, by omega, rfl, rfl, H3.out⟩
      case round =>
        obtain ⟨k, A', c', hk, rfl, rfl, hw⟩ := hrel
        clear H3
        by_cases hlt : k < n
        · obtain ⟨x, b, off, hx, rfl, hcc⟩ := hra.get1 hlt
          have hcx := hw.f1.rd (hcc _ rfl)
          have i1 : (k : Int) < n := by omega
          have i5 : wrap64 ((k : Int) + 1) = ((k + 1 : Nat) : Int) := by have := HN8.out; unfold wrap64; omega
          have e2 : sortL (xs.take (k + 1)) = insL x (sortL (xs.take k)) := by rw [List.take_add_one, hx]; exact sortL_snoc _ _
          have KW := Lib.hid (fun w h => xwith_any (E := E) (L := Hp.ro S :: L) (.slice A' (sortL (xs.take k)).length c') (sortL (xs.take k)) x w (rise_sortL _) (HSORT.out _ (by have := HN8.out; rw [List.length_take]; omega)) h)
          rw [← e2] at KW
          have H := Lib.hid hw
          have HK := Lib.hid hlt
          clear hx hcc hk hlt hw e2
          go_wp2_with (with_reducible refine (KW.out _ H.out).mono ?_; clear KW H; rintro e w4 ⟨v4, rfl, h⟩; obtain ⟨A4, c4, rfl, -⟩ := lst_len h; have H4 := Lib.hid h; clear h)
          go_roundw
          case rel => exact ⟨k + 1, A4, c4, by have := HK.out; omega, by rw [i5], rfl, H4.out⟩
          case measure =>
            have := HK.out
            rw [i5]
            simp only [intOf]
            omega
        · obtain rfl : k = n := by omega
          have e9 : xs.take k = xs := List.take_of_length_le (by rw [HLA.out]; omega)
          rw [e9] at hw
          simp only [e9]
          have i1 : ¬ (k : Int) < (k : Int) := by omega
          have H := Lib.hid hw
          clear hw e9 hk hlt
          go_wp2_with fail
          go_loopw [8, 10] (fun o i wr => ∃ (q : Nat) (A' : Option Addr) (c' : Nat), q ≤ m ∧ i = .int .i64 q ∧ o = .slice A' (sortL (xs ++ ys.take q)).length c' ∧ Own E wr (Hp.lst ST (.slice A' (sortL (xs ++ ys.take q)).length c') ((sortL (xs ++ ys.take q)).map Value.string) :: Hp.ro S :: L)) (fun _ i _ => m - (intOf i).toNat)
          case atStart =>
            have e8 : xs ++ ys.take 0 = xs := by simp
            exact ⟨0, A', c', by omega, rfl, by rw [e8], by rw [e8]; exact H.out⟩
          case round =>
            obtain ⟨q, A2, c2, hq, rfl, rfl, hw⟩ := hrel
            clear H
            by_cases hlt : q < m
            · obtain ⟨x, b, off, hx, rfl, hcc⟩ := hrb.get1 hlt
              have hcx := hw.f1.rd (hcc _ rfl)
              have i2 : (q : Int) < m := by omega
              have i5 : wrap64 ((q : Int) + 1) = ((q + 1 : Nat) : Int) := by have := HM8.out; unfold wrap64; omega
              have e2 : sortL (xs ++ ys.take (q + 1)) = insL x (sortL (xs ++ ys.take q)) := by rw [List.take_add_one, hx, ← List.append_assoc]; exact sortL_snoc _ _
              have KW := Lib.hid (fun w h => xwith_any (E := E) (L := Hp.ro S :: L) (.slice A2 (sortL (xs ++ ys.take q)).length c2) (sortL (xs ++ ys.take q)) x w (rise_sortL _) (HSORT.out _ (by have := HN8.out; have := HM8.out; rw [List.length_append, List.length_take, HLA.out]; omega)) h)
              rw [← e2] at KW
              have H := Lib.hid hw
              have HK := Lib.hid hlt
              clear hx hcc hq hlt hw e2
              go_wp2_with (with_reducible refine (KW.out _ H.out).mono ?_; clear KW H; rintro e w4 ⟨v4, rfl, h⟩; obtain ⟨A4, c4, rfl, -⟩ := lst_len h; have H4 := Lib.hid h; clear h)
              go_roundw
              case rel => exact ⟨q + 1, A4, c4, by have := HK.out; omega, by rw [i5], rfl, H4.out⟩
              case measure =>
                have := HK.out
                rw [i5]
                simp only [intOf]
                omega
            · obtain rfl : q = m := by omega
              have e9 : ys.take q = ys := List.take_of_length_le (by rw [HLB.out]; omega)
              rw [e9] at hw
              simp only [e9]
              have i2 : ¬ (q : Int) < (q : Int) := by omega
              have KF := Lib.hid (fun w h => xfits_lst (E := E) (L := Hp.ro S :: L) (.slice A2 (sortL (xs ++ ys)).length c2) (sortL (xs ++ ys)) w HNS.out h)
              have H := Lib.hid hw
              clear hw e9 hq hlt hra hrb
              cases hf : fitL (sortL (xs ++ ys)) with
              | false =>
                rw [hf] at KF
                have e3 : fewL (sortL (xs ++ ys)) = [] ∧ manyE (sortL (xs ++ ys)) = 61 := by unfold fewL manyE; rw [hf]; exact ⟨rfl, rfl⟩
                rw [e3.1, e3.2] at E0
                clear hf e3
                go_wp2_with (with_reducible refine (KF.out _ H.out).mono ?_; clear KF H; rintro e w4 ⟨rfl, h⟩; have H4 := Lib.hid h; clear h)
                go_ret2
                rw [E0.out]
                exact ⟨_, rfl, H4.out.drop.emptyLst ST none⟩
              | true =>
                rw [hf] at KF
                have e3 : fewL (sortL (xs ++ ys)) = sortL (xs ++ ys) ∧ manyE (sortL (xs ++ ys)) = 0 := by unfold fewL manyE; rw [hf]; exact ⟨rfl, rfl⟩
                rw [e3.1, e3.2] at E0
                clear hf e3
                go_wp2_with (with_reducible refine (KF.out _ H.out).mono ?_; clear KF H; rintro e w4 ⟨rfl, h⟩; have H4 := Lib.hid h; clear h)
                go_ret2
                rw [E0.out]
                exact ⟨_, rfl, H4.out⟩
    · rw [decide_eq_true h1] at KA
      rw [decide_eq_false h2] at KB
      rw [if_neg (fun h => h2 h.2)] at e0
      have E0 := Lib.hid e0
      clear h h1 h2 hsa hsb hn hm e0 hra hrb
      go_enter Tryd.func35, Tryd.ntmps35
      go_wp2_with (first
        | (with_reducible refine (KA.out _ H.out).mono ?_; clear KA H; rintro e w2 ⟨rfl, h⟩; have H2 := Lib.hid h; clear h)
        | (with_reducible refine (KB.out _ H2.out).mono ?_; clear KB H2; rintro e w3 ⟨rfl, h⟩; have H3 := Lib.hid (h.emptyLst ST none); clear h))
      go_ret2
      rw [E0.out]
      exact ⟨_, rfl, H3.out⟩
  · rw [decide_eq_false h1] at KA
    rw [if_neg (fun h => h1 h.1)] at e0
    have E0 := Lib.hid e0
    clear h h1 hsa hsb hn hm e0 hra hrb
    go_enter Tryd.func35, Tryd.ntmps35
    go_wp2_with (first
      | (with_reducible refine (KA.out _ H.out).mono ?_; clear KA H; rintro e w2 ⟨rfl, h⟩; have H2 := Lib.hid h; clear h)
      | (with_reducible refine (KB.out _ H2.out).mono ?_; clear KB H2; rintro e w3 ⟨rfl, h⟩; have H3 := Lib.hid (h.emptyLst ST none); clear h))
    go_ret2
    rw [E0.out]
    exact ⟨_, rfl, H3.out⟩
set_option maxRecDepth 20000 in
set_option maxHeartbeats 4000000 in
theorem xthose_any (A B : Option Addr) (n c m d : Nat) (xs ys : List ByteArray) (want : Bool) (w : World) (hra : Rds S 1 enStr A n xs) (hrb : Rds S 1 enStr B m ys) (hsa : ∀ x ∈ xs, x.size ≤ 1000000000000000000) (hsb : ∀ x ∈ ys, x.size ≤ 1000000000000000000) (hn : n ≤ 8796093022208) (hm : m ≤ 8796093022208) (h : Own E w (Hp.ro S :: L)) :
    Calls Tryd.prog 51 #[.slice A n c, .slice B m d, .bool want] w fun e w' => ∃ v, e = .returned v ∧ Own E w' (Hp.lst ST v ((thoseV xs ys want).map Value.string) :: Hp.ro S :: L) := by
  have KA := Lib.hid (fun w h => xright_any (E := E) (L := L) A n c xs w hra hsa hn h)
  have KB := Lib.hid (fun w h => xright_any (E := E) (L := L) B m d ys w hrb hsb hm h)
  have H := Lib.hid h
  have e0 : thoseV xs ys want = if scErr xs = 0 ∧ scErr ys = 0 then xs.filter (fun x => hasB x ys == want) else [] := rfl
  by_cases h1 : scErr xs = 0
  · by_cases h2 : scErr ys = 0
    · rw [decide_eq_true h1] at KA
      rw [decide_eq_true h2] at KB
      rw [if_pos ⟨h1, h2⟩] at e0
      have la := (right8 h1).1
      have HLA := Lib.hid hra.1
      have hn8 : n ≤ 8 := by rw [← hra.1]; exact la
      have HM := Lib.hid hm
      have HN8 := Lib.hid hn8
      have E0 := Lib.hid e0
      clear h h1 h2 hsa hsb hn hm la e0 hn8
      go_enter Tryd.func51, Tryd.ntmps51
      go_wp2_with (first
        | (with_reducible refine (KA.out _ H.out).mono ?_; clear KA H; rintro e w2 ⟨rfl, h⟩; have H2 := Lib.hid h; clear h)
        | (with_reducible refine (KB.out _ H2.out).mono ?_; clear KB H2; rintro e w3 ⟨rfl, h⟩; have H3 := Lib.hid (h.emptyLst ST none); clear h))
      go_loopw [9, 10] (fun o i wr => ∃ (k : Nat) (out : List ByteArray) (A' : Option Addr) (c' : Nat), k ≤ n ∧ i = .int .i64 k ∧ out = (xs.take k).filter (fun x => hasB x ys == want) ∧ out.length ≤ k ∧ o = .slice A' out.length c' ∧ Own E wr (Hp.lst ST (.slice A' out.length c') (out.map Value.string) :: Hp.ro S :: L)) (fun _ i _ => n - (intOf i).toNat)
      case atStart => exact ⟨0, [], none, 0, by omega, rfl, rfl, by simp, rfl, H3.out⟩
      case round =>
        obtain ⟨k, out, A', c', hk, rfl, hout, hol, rfl, hw⟩ := hrel
        clear H3
        by_cases hlt : k < n
        · obtain ⟨x, b, off, hx, rfl, hcc⟩ := hra.get1 hlt
          have hcx := hw.f1.rd (hcc _ rfl)
          have HD := Lib.hid (fun w' h => Own.rd (E := E) (w := w') (L := Hp.lst ST (.slice A' out.length c') (out.map Value.string) :: L) h (hcc _ rfl))
          have i1 : (k : Int) < n := by omega
          have i5 : wrap64 ((k : Int) + 1) = ((k + 1 : Nat) : Int) := by have := HN8.out; unfold wrap64; omega
          have HK := Lib.hid hlt
          have HOL := Lib.hid hol
          have ht : xs.take (k + 1) = xs.take k ++ [x] := by rw [List.take_add_one, hx]; rfl
          have KH := Lib.hid (fun w h => xhas_any (E := E) (L := Hp.lst ST (.slice A' out.length c') (out.map Value.string) :: L) B m d ys x w hrb HM.out h)
          have H := Lib.hid hw.f1
          cases hb : (hasB x ys == want) with
          | true =>
            have HR := Lib.hid (show out ++ [x] = (xs.take (k + 1)).filter (fun x => hasB x ys == want) by rw [ht, List.filter_append, hout]; simp [hb])
            have hb2 : hasB x ys = want := beq_iff_eq.1 hb
            rw [hb2] at KH
            have KP := Lib.hid (fun w h => push_str (E := E) (L := Hp.ro S :: L) (v := .slice A' out.length c') (xs := out) (w := w) h x (by have := HOL.out; have := HN8.out; have := HK.out; omega))
            have e4 : (want == want) = true := by cases want <;> rfl
            clear hx hcc hk hlt hw hout hol ht hb hb2
            have HL6 := Lib.hid (show (out ++ [x]).length = out.length + 1 by rw [List.length_append]; rfl)
            go_wp2_with (first
              | (with_reducible refine (KH.out _ H.out).mono ?_; clear KH H; rintro e w4 ⟨rfl, h⟩; have hcx2 := HD.out _ h; obtain ⟨A5, c5, w5, hap, h5⟩ := KP.out _ h.f1; have H5 := Lib.hid h5; clear h5 h)
              | (with_reducible refine at_slot (k := some 43) ?_; refine wpList_append_run (o := ⟨some 43, _, _, _, _, _⟩) hap rfl rfl rfl rfl ?_; clear hap))
            go_roundw
            case rel => exact ⟨k + 1, _, A5, c5, by have := HK.out; omega, by rw [i5], HR.out, by have := HOL.out; rw [HL6.out]; omega, by rw [HL6.out], by rw [HL6.out]; exact H5.out⟩
            case measure =>
              have := HK.out
              rw [i5]
              simp only [intOf]
              omega
          | false =>
            have HR := Lib.hid (show out = (xs.take (k + 1)).filter (fun x => hasB x ys == want) by rw [ht, List.filter_append, hout]; simp [hb])
            clear hx hcc hk hlt hw hout hol ht HD
            go_wp2_with (with_reducible refine (KH.out _ H.out).mono ?_; clear KH H; rintro e w4 ⟨rfl, h⟩; have H5 := Lib.hid h.f1; clear h)
            go_roundw
            case rel => exact ⟨k + 1, _, A', c', by have := HK.out; omega, by rw [i5], HR.out, by have := HOL.out; omega, rfl, H5.out⟩
            case measure =>
              have := HK.out
              rw [i5]
              simp only [intOf]
              omega
        · obtain rfl : k = n := by omega
          have e9 : xs.take k = xs := List.take_of_length_le (by rw [HLA.out]; omega)
          rw [e9] at hout
          have HO := Lib.hid (E0.out.trans hout.symm)
          have i1 : ¬ (k : Int) < (k : Int) := by omega
          have H := Lib.hid hw
          clear hw e9 hk hlt hra hrb hout E0
          go_wp2_with fail
          go_ret
          rw [HO.out]
          exact ⟨_, rfl, H.out⟩
    · rw [decide_eq_true h1] at KA
      rw [decide_eq_false h2] at KB
      rw [if_neg (fun h => h2 h.2)] at e0
      have E0 := Lib.hid e0
      clear h h1 h2 hsa hsb hn hm e0 hra hrb
      go_enter Tryd.func51, Tryd.ntmps51
      go_wp2_with (first
        | (with_reducible refine (KA.out _ H.out).mono ?_; clear KA H; rintro e w2 ⟨rfl, h⟩; have H2 := Lib.hid h; clear h)
        | (with_reducible refine (KB.out _ H2.out).mono ?_; clear KB H2; rintro e w3 ⟨rfl, h⟩; have H3 := Lib.hid (h.emptyLst ST none); clear h))
      go_loopw [9, 10] (fun o i wr => o = .slice none 0 0 ∧ i = .int .i64 0 ∧ Own E wr (Hp.lst ST (.slice none 0 0) [] :: Hp.ro S :: L)) (fun _ _ _ => 0)
      case atStart => exact ⟨rfl, rfl, H3.out⟩
      case round =>
        obtain ⟨rfl, rfl, hw⟩ := hrel
        clear H3
        have H := Lib.hid hw
        clear hw
        by_cases hlt : (0 : Int) < n
        · go_wp2_with fail
          go_ret
          rw [E0.out]
          exact ⟨_, rfl, H.out⟩
        · go_wp2_with fail
          go_ret
          rw [E0.out]
          exact ⟨_, rfl, H.out⟩
  · rw [decide_eq_false h1] at KA
    rw [if_neg (fun h => h1 h.1)] at e0
    have E0 := Lib.hid e0
    clear h h1 hsa hsb hn hm e0 hra hrb
    generalize decide (scErr ys = 0) = db at KB
    go_enter Tryd.func51, Tryd.ntmps51
    go_wp2_with (first
      | (with_reducible refine (KA.out _ H.out).mono ?_; clear KA H; rintro e w2 ⟨rfl, h⟩; have H2 := Lib.hid h; clear h)
      | (with_reducible refine (KB.out _ H2.out).mono ?_; clear KB H2; rintro e w3 ⟨rfl, h⟩; have H3 := Lib.hid (h.emptyLst ST none); clear h))
    go_loopw [9, 10] (fun o i wr => o = .slice none 0 0 ∧ i = .int .i64 0 ∧ Own E wr (Hp.lst ST (.slice none 0 0) [] :: Hp.ro S :: L)) (fun _ _ _ => 0)
    case atStart => exact ⟨rfl, rfl, H3.out⟩
    case round =>
      obtain ⟨rfl, rfl, hw⟩ := hrel
      clear H3
      have H := Lib.hid hw
      clear hw
      by_cases hlt : (0 : Int) < n
      · go_wp2_with fail
        go_ret
        rw [E0.out]
        exact ⟨_, rfl, H.out⟩
      · go_wp2_with fail
        go_ret
        rw [E0.out]
        exact ⟨_, rfl, H.out⟩
theorem xmeet_any (A B : Option Addr) (n c m d : Nat) (xs ys : List ByteArray) (w : World) (hra : Rds S 1 enStr A n xs) (hrb : Rds S 1 enStr B m ys) (hsa : ∀ x ∈ xs, x.size ≤ 1000000000000000000) (hsb : ∀ x ∈ ys, x.size ≤ 1000000000000000000) (hn : n ≤ 8796093022208) (hm : m ≤ 8796093022208) (h : Own E w (Hp.ro S :: L)) :
    Calls Tryd.prog 36 #[.slice A n c, .slice B m d] w fun e w' => ∃ v, e = .returned v ∧ Own E w' (Hp.lst ST v ((thoseV xs ys true).map Value.string) :: Hp.ro S :: L) := by
  have K := Lib.hid (xthose_any A B n c m d xs ys true w hra hrb hsa hsb hn hm h)
  clear h hra hrb
  go_enter Tryd.func36, Tryd.ntmps36
  go_wp2_with (with_reducible refine K.out.mono ?_; clear K; rintro e w2 ⟨v, rfl, h⟩; have H := Lib.hid h; clear h)
  go_ret
  exact ⟨_, rfl, H.out⟩
theorem xminus_any (A B : Option Addr) (n c m d : Nat) (xs ys : List ByteArray) (w : World) (hra : Rds S 1 enStr A n xs) (hrb : Rds S 1 enStr B m ys) (hsa : ∀ x ∈ xs, x.size ≤ 1000000000000000000) (hsb : ∀ x ∈ ys, x.size ≤ 1000000000000000000) (hn : n ≤ 8796093022208) (hm : m ≤ 8796093022208) (h : Own E w (Hp.ro S :: L)) :
    Calls Tryd.prog 37 #[.slice A n c, .slice B m d] w fun e w' => ∃ v, e = .returned v ∧ Own E w' (Hp.lst ST v ((thoseV xs ys false).map Value.string) :: Hp.ro S :: L) := by
  have K := Lib.hid (xthose_any A B n c m d xs ys false w hra hrb hsa hsb hn hm h)
  clear h hra hrb
  go_enter Tryd.func37, Tryd.ntmps37
  go_wp2_with (with_reducible refine K.out.mono ?_; clear K; rintro e w2 ⟨v, rfl, h⟩; have H := Lib.hid h; clear h)
  go_ret
  exact ⟨_, rfl, H.out⟩
end
end Go.Proofs.YtgedjkcpgagnbaaDoor
