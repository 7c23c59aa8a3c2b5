/- latchkeylaw06.ScopeBack. -/
import Derived.Test.YtgedjkcpgagnbaaDoorAlg6
namespace Go.Proofs.YtgedjkcpgagnbaaDoor
open Go.RowKit
theorem txt_size {xs : List ByteArray} : (scTxt xs).size ≤ 60 := by
  unfold scTxt
  split
  · rename_i h
    rw [mk_size]
    exact ((fit_iff xs).1 (scErr_zero h).2.2).2
  · exact Nat.zero_le _
theorem txt_none {xs : List ByteArray} (h : ¬ scErr xs = 0) : scTxt xs = ⟨#[]⟩ := by unfold scTxt; rw [if_neg h]
theorem parse_none : parseV ⟨#[]⟩ = ([], 0) := by kernel_rfl
section
variable {E : World} {S : Ph} {L : List Hp}
theorem Lent.start1 {w : World} {A : Option Addr} {n c : Nat} {xs : List ByteArray} (hn : n = xs.length) (hr : Rds S 1 enStr A n xs) (hc : n ≤ c) (h : Own E w (Hp.ro S :: L)) : Lent E S L w S [(A, c, xs)] := ⟨h, Ext.refl S, (Lists.nil S).cons hn hr hc⟩
set_option maxRecDepth 100000 in
set_option maxHeartbeats 8000000 in
theorem back_any (s : ByteArray) (A : Option Addr) (n c : Nat) (xs : List ByteArray) (w : World) (hs : s.size ≤ 1000000000000000000) (hn : n ≤ 1000000000000000000) (hsz : ∀ x ∈ xs, x.size ≤ 1000000000000000000) (hr : Rds S 1 enStr A n xs) (hc : n ≤ c) (hM : Max0 E (Hp.ro S :: L)) (h : Own E w (Hp.ro S :: L)) :
    Calls Tryd.prog 6 #[.string s, .slice A n c] w fun e w' => e = .returned (.bool true) ∧ Own E w' (Hp.ro S :: L) := by
  have hl := hr.1
  go_enter Tryd.func6, Tryd.ntmps6
  go_wp2_with fail
  refine (weighs_any A n c xs _ hn hsz hr h).mono ?_
  rintro e w0 ⟨⟨y, hy1, hy2, rfl⟩, h⟩
  have HY := Lib.hid hy2
  clear hy2
  go_wp2_with fail
  refine (addsup_any s.size y _ hs (by omega)).mono ?_
  rintro e w1 ⟨rfl, z, hz1, hz2, rfl⟩
  by_cases hb : 2147483647 < z
  · have hbi : (2147483647 : Int) < z := by omega
    have H := Lib.hid h
    clear h hr hsz
    go_wp2_with fail
    go_ret
    exact ⟨rfl, H.out⟩
  have hbi : ¬ (2147483647 : Int) < z := by omega
  have hle := hz2 (by omega)
  have hle2 := HY.out (by omega)
  have KA := Lib.hid (awake_any w0 hM h)
  have hs2 : s.size ≤ 4000000000 := by omega
  have hn2 : xs.length ≤ 8796093022208 := by omega
  have KP : Hid (∀ w T l, Lent E S L w T l → Calls Tryd.prog 10 #[.string s] w fun e w' => ∃ T' A c, e = .returned (.tuple #[.slice A (parseV s).1.length c, .int .i64 (parseV s).2]) ∧ Lent E S L w' T' ((A, c, (parseV s).1) :: l)) := Lib.hid fun w T l h => lparse s hs2 hM h
  have KS : Hid (∀ w, Own E w (Hp.ro S :: L) → Lent E S L w S [(A, c, xs)]) := Lib.hid fun w h => Lent.start1 hl.symm hr hc h
  have HK : ∃ (tx : ByteArray) (er : Int) (px : List ByteArray) (sb rb : Bool), ((er = 0 ∧ sb = true ∧ rb = true) ∨ ((er == 0) = false ∧ tx = ⟨#[]⟩ ∧ rb = false)) ∧
      (∀ w T (l : List (Option Addr × Nat × List ByteArray)), Lent E S L w T l → ∀ (i : Nat), l[i]? = some (A, c, xs) → Calls Tryd.prog 20 #[.slice A xs.length c] w fun e w' => e = .returned (.tuple #[.string tx, .int .i64 er]) ∧ Lent E S L w' T l) ∧
      (∀ w T l, Lent E S L w T l → Calls Tryd.prog 10 #[.string tx] w fun e w' => ∃ T' A c, e = .returned (.tuple #[.slice A px.length c, .int .i64 0]) ∧ Lent E S L w' T' ((A, c, px) :: l)) ∧
      (∀ w T (l : List (Option Addr × Nat × List ByteArray)), Lent E S L w T l → ∀ (B : Option Addr) (d i j : Nat), l[i]? = some (B, d, px) → l[j]? = some (A, c, xs) → Calls Tryd.prog 12 #[.slice B px.length d, .slice A xs.length c] w fun e w' => e = .returned (.bool sb) ∧ Lent E S L w' T l) ∧
      (∀ w T (l : List (Option Addr × Nat × List ByteArray)), Lent E S L w T l → ∀ (i : Nat), l[i]? = some (A, c, xs) → Calls Tryd.prog 19 #[.slice A xs.length c] w fun e w' => e = .returned (.bool rb) ∧ Lent E S L w' T l) := by
    by_cases h0 : scErr xs = 0
    · refine ⟨scTxt xs, 0, xs, true, true, .inl ⟨rfl, rfl, rfl⟩, fun w T l h i hi => ?_, fun w T l h => ?_, fun w T l h B d i j hi hj => ?_, fun w T l h i hi => ?_⟩
      · have h2 := lprint i hi hn2 h
        rw [h0] at h2
        exact h2
      · have h2 := lparse (scTxt xs) (Nat.le_trans txt_size (by omega)) hM h
        rw [parse_print h0] at h2
        exact h2
      · have h2 := lsame i j hi hj hn2 h
        rw [decide_eq_true rfl] at h2
        exact h2
      · have h2 := lright i hi hn2 h
        rw [decide_eq_true h0] at h2
        exact h2
    · refine ⟨⟨#[]⟩, scErr xs, [], decide ([] = xs), false, .inr ⟨by rw [beq_eq_false_iff_ne]; exact h0, rfl, rfl⟩, fun w T l h i hi => ?_, fun w T l h => ?_, fun w T l h B d i j hi hj => lsame i j hi hj (by simp) h, fun w T l h i hi => ?_⟩
      · have h2 := lprint i hi hn2 h
        rw [txt_none h0] at h2
        exact h2
      · have h2 := lparse ⟨#[]⟩ (by decide) hM h
        rw [parse_none] at h2
        exact h2
      · have h2 := lright i hi hn2 h
        rw [decide_eq_false h0] at h2
        exact h2
  have ps := parse_right s
  have KB : Hid (∀ a : List ByteArray, scErr a = 0 → a.length ≤ 8 ∧ (∀ w T l, Lent E S L w T l → ∀ B d i, l[i]? = some (B, d, a) → Calls Tryd.prog 19 #[.slice B a.length d] w fun e w' => e = .returned (.bool true) ∧ Lent E S L w' T l) ∧
      (∀ w T l, Lent E S L w T l → ∀ B d i, l[i]? = some (B, d, a) → Calls Tryd.prog 20 #[.slice B a.length d] w fun e w' => e = .returned (.tuple #[.string (scTxt a), .int .i64 0]) ∧ Lent E S L w' T l) ∧
      (∀ w T l, Lent E S L w T l → Calls Tryd.prog 10 #[.string (scTxt a)] w fun e w' => ∃ T' A c, e = .returned (.tuple #[.slice A a.length c, .int .i64 0]) ∧ Lent E S L w' T' ((A, c, a) :: l)) ∧
      (∀ w T l, Lent E S L w T l → ∀ A c B d i j, l[i]? = some (A, c, a) → l[j]? = some (B, d, a) → Calls Tryd.prog 12 #[.slice A a.length c, .slice B a.length d] w fun e w' => e = .returned (.bool true) ∧ Lent E S L w' T l)) := Lib.hid fun a ha => by
    have l8 := (right8 ha).1
    refine ⟨l8, fun w T l h B d i hi => ?_, fun w T l h B d i hi => ?_, fun w T l h => ?_, fun w T l h A c B d i j hi hj => ?_⟩
    · have h2 := lright i hi (by omega) h
      rw [decide_eq_true ha] at h2
      exact h2
    · have h2 := lprint i hi (by omega) h
      rw [ha] at h2
      exact h2
    · have h2 := lparse (scTxt a) (Nat.le_trans txt_size (by omega)) hM h
      rw [parse_print ha] at h2
      exact h2
    · have h2 := lsame i j hi hj (by omega) h
      rw [decide_eq_true rfl] at h2
      exact h2
  clear hs h hz1 hz2 hle hle2 hb hM HY hy1 hsz hr hc hs2 hn2
  subst hl
  obtain ⟨tx, er, px, sb, rb, hor, k1, k2, k3, k4⟩ := HK
  have K1 := Lib.hid k1
  have K2 := Lib.hid k2
  have K3 := Lib.hid k3
  have K4 := Lib.hid k4
  have HOR := Lib.hid hor
  clear k1 k2 k3 k4 hor
  generalize parseV s = pa at *
  obtain ⟨a, ea⟩ := pa
  dsimp only at ps KP
  rcases ps with ⟨rfl, ha⟩ | ⟨rfl, he⟩
  · obtain ⟨l8, B1, B2, B3, B4⟩ := KB.out a ha
    have C1 := Lib.hid B1
    have C2 := Lib.hid B2
    have C3 := Lib.hid B3
    have C4 := Lib.hid B4
    have t60 : (scTxt a).size ≤ 60 := txt_size
    have j1 : ¬ (60 : Int) < (scTxt a).size := by omega
    have j2 : ¬ (8 : Int) < a.length := by omega
    clear KB B1 B2 B3 B4 ha
    generalize scTxt a = ta at *
    go_wp2_with (first
      | (with_reducible refine KA.out.mono ?_; clear KA; rintro e w1 ⟨rfl, h⟩; have H0 := Lib.hid (KS.out _ h); clear h)
      | (with_reducible refine (KP.out _ _ _ H0.out).mono ?_; clear KP H0; rintro e w2 ⟨T1, A1, c1, rfl, h⟩; have H1 := Lib.hid h; clear h)
      | (with_reducible refine (C1.out _ _ _ H1.out _ _ 0 rfl).mono ?_; clear C1 H1; rintro e w3 ⟨rfl, h⟩; have H2 := Lib.hid h; clear h)
      | (with_reducible refine (C2.out _ _ _ H2.out _ _ 0 rfl).mono ?_; clear C2 H2; rintro e w4 ⟨rfl, h⟩; have H3 := Lib.hid h; clear h)
      | (with_reducible refine (C3.out _ _ _ H3.out).mono ?_; clear C3 H3; rintro e w5 ⟨T4, A4, c4, rfl, h⟩; have H4 := Lib.hid h; clear h)
      | (with_reducible refine (C4.out _ _ _ H4.out _ _ _ _ 1 0 rfl rfl).mono ?_; clear C4 H4; rintro e w6 ⟨rfl, h⟩; have H5 := Lib.hid h; clear h)
      | (with_reducible refine (K1.out _ _ _ H5.out 2 rfl).mono ?_; clear K1 H5; rintro e w7 ⟨rfl, h⟩; have H6 := Lib.hid h; clear h)
      | (with_reducible refine (K2.out _ _ _ H6.out).mono ?_; clear K2 H6; rintro e w8 ⟨T7, A7, c7, rfl, h⟩; have H7 := Lib.hid h; clear h))
    rcases HOR.out with ⟨rfl, rfl, rfl⟩ | ⟨hne, rfl, rfl⟩
    · clear HOR
      go_wp2_with (first
      | (with_reducible refine (K3.out _ _ _ H7.out _ _ 0 3 rfl rfl).mono ?_; clear K3 H7; rintro e w9 ⟨rfl, h⟩; have H8 := Lib.hid h; clear h)
      | (with_reducible refine (K4.out _ _ _ H8.out 3 rfl).mono ?_; clear K4 H8; rintro e w10 ⟨rfl, h⟩; have H9 := Lib.hid h; clear h))
      go_ret
      exact ⟨rfl, H9.out.back⟩
    · clear HOR
      go_wp2_with (first
      | (with_reducible refine (K3.out _ _ _ H7.out _ _ 0 3 rfl rfl).mono ?_; clear K3 H7; rintro e w9 ⟨rfl, h⟩; have H8 := Lib.hid h; clear h)
      | (with_reducible refine (K4.out _ _ _ H8.out 3 rfl).mono ?_; clear K4 H8; rintro e w10 ⟨rfl, h⟩; have H9 := Lib.hid h; clear h))
      go_ret
      exact ⟨rfl, H9.out.back⟩
  · clear KB
    rcases he with rfl | rfl
    · go_wp2_with (first
        | (with_reducible refine KA.out.mono ?_; clear KA; rintro e w1 ⟨rfl, h⟩; have H0 := Lib.hid (KS.out _ h); clear h)
        | (with_reducible refine (KP.out _ _ _ H0.out).mono ?_; clear KP H0; rintro e w2 ⟨T1, A1, c1, rfl, h⟩; have H1 := Lib.hid h; clear h)
        | (with_reducible refine (K1.out _ _ _ H1.out 1 rfl).mono ?_; clear K1 H1; rintro e w7 ⟨rfl, h⟩; have H6 := Lib.hid h; clear h)
        | (with_reducible refine (K2.out _ _ _ H6.out).mono ?_; clear K2 H6; rintro e w8 ⟨T7, A7, c7, rfl, h⟩; have H7 := Lib.hid h; clear h))
      rcases HOR.out with ⟨rfl, rfl, rfl⟩ | ⟨hne, rfl, rfl⟩
      · clear HOR
        go_wp2_with (first
        | (with_reducible refine (K3.out _ _ _ H7.out _ _ 0 2 rfl rfl).mono ?_; clear K3 H7; rintro e w9 ⟨rfl, h⟩; have H8 := Lib.hid h; clear h)
        | (with_reducible refine (K4.out _ _ _ H8.out 2 rfl).mono ?_; clear K4 H8; rintro e w10 ⟨rfl, h⟩; have H9 := Lib.hid h; clear h))
        go_ret
        exact ⟨rfl, H9.out.back⟩
      · clear HOR
        go_wp2_with (first
        | (with_reducible refine (K3.out _ _ _ H7.out _ _ 0 2 rfl rfl).mono ?_; clear K3 H7; rintro e w9 ⟨rfl, h⟩; have H8 := Lib.hid h; clear h)
        | (with_reducible refine (K4.out _ _ _ H8.out 2 rfl).mono ?_; clear K4 H8; rintro e w10 ⟨rfl, h⟩; have H9 := Lib.hid h; clear h))
        go_ret
        exact ⟨rfl, H9.out.back⟩
    · go_wp2_with (first
        | (with_reducible refine KA.out.mono ?_; clear KA; rintro e w1 ⟨rfl, h⟩; have H0 := Lib.hid (KS.out _ h); clear h)
        | (with_reducible refine (KP.out _ _ _ H0.out).mono ?_; clear KP H0; rintro e w2 ⟨T1, A1, c1, rfl, h⟩; have H1 := Lib.hid h; clear h)
        | (with_reducible refine (K1.out _ _ _ H1.out 1 rfl).mono ?_; clear K1 H1; rintro e w7 ⟨rfl, h⟩; have H6 := Lib.hid h; clear h)
        | (with_reducible refine (K2.out _ _ _ H6.out).mono ?_; clear K2 H6; rintro e w8 ⟨T7, A7, c7, rfl, h⟩; have H7 := Lib.hid h; clear h))
      rcases HOR.out with ⟨rfl, rfl, rfl⟩ | ⟨hne, rfl, rfl⟩
      · clear HOR
        go_wp2_with (first
        | (with_reducible refine (K3.out _ _ _ H7.out _ _ 0 2 rfl rfl).mono ?_; clear K3 H7; rintro e w9 ⟨rfl, h⟩; have H8 := Lib.hid h; clear h)
        | (with_reducible refine (K4.out _ _ _ H8.out 2 rfl).mono ?_; clear K4 H8; rintro e w10 ⟨rfl, h⟩; have H9 := Lib.hid h; clear h))
        go_ret
        exact ⟨rfl, H9.out.back⟩
      · clear HOR
        go_wp2_with (first
        | (with_reducible refine (K3.out _ _ _ H7.out _ _ 0 2 rfl rfl).mono ?_; clear K3 H7; rintro e w9 ⟨rfl, h⟩; have H8 := Lib.hid h; clear h)
        | (with_reducible refine (K4.out _ _ _ H8.out 2 rfl).mono ?_; clear K4 H8; rintro e w10 ⟨rfl, h⟩; have H9 := Lib.hid h; clear h))
        go_ret
        exact ⟨rfl, H9.out.back⟩
end
end Go.Proofs.YtgedjkcpgagnbaaDoor
