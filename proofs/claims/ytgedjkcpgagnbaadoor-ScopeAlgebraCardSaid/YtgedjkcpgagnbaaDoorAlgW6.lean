/- latchkeylaw06.ScopeAlgebra. -/
import Derived.Test.YtgedjkcpgagnbaaDoorAlg6
namespace Go.Proofs.YtgedjkcpgagnbaaDoor
open Go.RowKit
section
variable {E : World} {S : Ph} {L : List Hp}
set_option maxRecDepth 100000 in
set_option maxHeartbeats 8000000 in
theorem algebra_any (s t : ByteArray) (w : World) (hs : s.size ≤ 1000000000000000000) (ht : t.size ≤ 1000000000000000000) (hM : Max0 E (Hp.ro S :: L)) (h : Own E w (Hp.ro S :: L)) :
    Calls Tryd.prog 7 #[.string s, .string t] w fun e w' => e = .returned (.bool true) ∧ Own E w' (Hp.ro S :: L) := by
  go_enter Tryd.func7, Tryd.ntmps7
  go_wp2_with fail
  refine (addsup_any s.size t.size _ hs ht).mono ?_
  rintro e w1 ⟨rfl, z, hz1, hz2, rfl⟩
  by_cases hb : 2147483647 < z
  · have hbi : (2147483647 : Int) < z := by omega
    go_wp2_with fail
    go_ret
    exact ⟨rfl, h⟩
  have hbi : ¬ (2147483647 : Int) < z := by omega
  have hle := hz2 (by omega)
  have KA := Lib.hid (awake_any w hM h)
  have KP : Hid (∀ w T l, Lent E S L w T l → Calls Tryd.prog 10 #[.string s] w fun e w' => ∃ T' A c, e = .returned (.tuple #[.slice A (parseV s).1.length c, .int .i64 (parseV s).2]) ∧ Lent E S L w' T' ((A, c, (parseV s).1) :: l)) := Lib.hid fun w T l h => lparse s (by omega) hM h
  have KQ : Hid (∀ w T l, Lent E S L w T l → Calls Tryd.prog 10 #[.string t] w fun e w' => ∃ T' A c, e = .returned (.tuple #[.slice A (parseV t).1.length c, .int .i64 (parseV t).2]) ∧ Lent E S L w' T' ((A, c, (parseV t).1) :: l)) := Lib.hid fun w T l h => lparse t (by omega) hM h
  have ps := parse_right s
  have pt := parse_right t
  clear hs ht h hz1 hz2 hle hb hM
  generalize parseV s = pa at *
  generalize parseV t = pb at *
  obtain ⟨a, ea⟩ := pa
  obtain ⟨b, eb⟩ := pb
  dsimp only at ps pt KP KQ
  by_cases h1 : ea = 0
  · by_cases h2 : eb = 0
    · have ha : scErr a = 0 := by
        rcases ps with ⟨-, h⟩ | ⟨-, h⟩
        · exact h
        · omega
      have hbr : scErr b = 0 := by
        rcases pt with ⟨-, h⟩ | ⟨-, h⟩
        · exact h
        · omega
      subst h1 h2
      have la := (right8 ha).1
      have lb := (right8 hbr).1
      have lm := (right8 (those_right true ha hbr)).1
      have ln := (right8 (those_right false ha hbr)).1
      obtain ⟨f1, f2, f3, f4, f5, f6, f7, f8, f9, f10⟩ := alg ha hbr
      clear ps pt ha hbr
      obtain ⟨m, hm⟩ : ∃ m, m = thoseV a b true := ⟨_, rfl⟩
      obtain ⟨n, hn⟩ : ∃ n, n = thoseV a b false := ⟨_, rfl⟩
      obtain ⟨x, hx⟩ : ∃ x, x = (joinV a b).1 := ⟨_, rfl⟩
      obtain ⟨ex, hex⟩ : ∃ ex, ex = (joinV a b).2 := ⟨_, rfl⟩
      have hj : joinV a b = (x, ex) := by rw [hx, hex]
      have LX := Lib.hid (show x.length ≤ 8 by rw [hx]; exact join_small a b)
      rw [← hm] at f1 f2 f6 f7 f10 lm
      rw [← hn] at f2 f5 f8 f9 f10 ln
      rw [← hx, ← hex] at f5
      rw [← hex] at f4
      rw [hj] at f3
      have K1 : Hid (∀ w T l, Lent E S L w T l → ∀ A c B d i j, l[i]? = some (A, c, a) → l[j]? = some (B, d, b) → Calls Tryd.prog 21 #[.slice A a.length c, .slice B b.length d] w fun e w' => ∃ T' A' c', e = .returned (.slice A' m.length c') ∧ Lent E S L w' T' ((A', c', m) :: l)) := Lib.hid fun w T l h A c B d i j hi hj => by
        have h2 := lmeet i j hi hj (by omega) (by omega) h
        rw [← hm] at h2
        exact h2
      have K2 : Hid (∀ w T l, Lent E S L w T l → ∀ A c B d i j, l[i]? = some (A, c, a) → l[j]? = some (B, d, b) → Calls Tryd.prog 22 #[.slice A a.length c, .slice B b.length d] w fun e w' => ∃ T' A' c', e = .returned (.slice A' n.length c') ∧ Lent E S L w' T' ((A', c', n) :: l)) := Lib.hid fun w T l h A c B d i j hi hj => by
        have h2 := lminus i j hi hj (by omega) (by omega) h
        rw [← hn] at h2
        exact h2
      have K3 : Hid (∀ w T l, Lent E S L w T l → ∀ A c B d i j, l[i]? = some (A, c, b) → l[j]? = some (B, d, a) → Calls Tryd.prog 21 #[.slice A b.length c, .slice B a.length d] w fun e w' => ∃ T' A' c', e = .returned (.slice A' m.length c') ∧ Lent E S L w' T' ((A', c', m) :: l)) := Lib.hid fun w T l h A c B d i j hi hj => by
        have h2 := lmeet i j hi hj (by omega) (by omega) h
        rw [f1] at h2
        exact h2
      have K4 : Hid (∀ w T l, Lent E S L w T l → ∀ A c B d i j, l[i]? = some (A, c, m) → l[j]? = some (B, d, n) → Calls Tryd.prog 23 #[.slice A m.length c, .slice B n.length d] w fun e w' => ∃ T' A' c', e = .returned (.tuple #[.slice A' a.length c', .int .i64 0]) ∧ Lent E S L w' T' ((A', c', a) :: l)) := Lib.hid fun w T l h A c B d i j hi hj => by
        have h2 := ljoin i j hi hj (by omega) (by omega) h
        rw [f2] at h2
        exact h2
      have KS : Hid (∀ w T l, Lent E S L w T l → ∀ (q : List ByteArray) A c B d i j, q.length ≤ 8 → l[i]? = some (A, c, q) → l[j]? = some (B, d, q) → Calls Tryd.prog 12 #[.slice A q.length c, .slice B q.length d] w fun e w' => e = .returned (.bool true) ∧ Lent E S L w' T l) := Lib.hid fun w T l h q A c B d i j hq hi hj => by
        have h2 := lsame i j hi hj (by omega) h
        rw [decide_eq_true rfl] at h2
        exact h2
      have K5 : Hid (∀ w T l, Lent E S L w T l → ∀ A c B d i j, l[i]? = some (A, c, a) → l[j]? = some (B, d, b) → Calls Tryd.prog 23 #[.slice A a.length c, .slice B b.length d] w fun e w' => ∃ T' A' c', e = .returned (.tuple #[.slice A' x.length c', .int .i64 ex]) ∧ Lent E S L w' T' ((A', c', x) :: l)) := Lib.hid fun w T l h A c B d i j hi hj2 => by
        have h2 := ljoin i j hi hj2 (by omega) (by omega) h
        rw [hj] at h2
        exact h2
      have K6 : Hid (∀ w T l, Lent E S L w T l → ∀ A c B d i j, l[i]? = some (A, c, b) → l[j]? = some (B, d, a) → Calls Tryd.prog 23 #[.slice A b.length c, .slice B a.length d] w fun e w' => ∃ T' A' c', e = .returned (.tuple #[.slice A' x.length c', .int .i64 ex]) ∧ Lent E S L w' T' ((A', c', x) :: l)) := Lib.hid fun w T l h A c B d i j hi hj2 => by
        have h2 := ljoin i j hi hj2 (by omega) (by omega) h
        rw [f3] at h2
        exact h2
      have KW : Hid (∀ w T l, Lent E S L w T l → ∀ (q r : List ByteArray) A c B d i j, q.length ≤ 8 → r.length ≤ 8 → withinV q r = true → l[i]? = some (A, c, q) → l[j]? = some (B, d, r) → Calls Tryd.prog 24 #[.slice A q.length c, .slice B r.length d] w fun e w' => e = .returned (.bool true) ∧ Lent E S L w' T l) := Lib.hid fun w T l h q r A c B d i j hq hr hw hi hj => by
        have h2 := lwithin i j hi hj (by omega) (by omega) h
        rw [hw] at h2
        exact h2
      have K7 : Hid (∀ w T l, Lent E S L w T l → ∀ A c B d i j, l[i]? = some (A, c, n) → l[j]? = some (B, d, b) → Calls Tryd.prog 21 #[.slice A n.length c, .slice B b.length d] w fun e w' => ∃ T' A' c', e = .returned (.slice A' 0 c') ∧ Lent E S L w' T' ((A', c', []) :: l)) := Lib.hid fun w T l h A c B d i j hi hj => by
        have h2 := lmeet i j hi hj (by omega) (by omega) h
        rw [f8] at h2
        exact h2
      obtain ⟨db, hdb⟩ : ∃ db, db = decide ((n.length : Int) = 0) := ⟨_, rfl⟩
      rw [← hdb] at f9
      have K8 : Hid (∀ w T l, Lent E S L w T l → ∀ A c B d i j, l[i]? = some (A, c, a) → l[j]? = some (B, d, b) → Calls Tryd.prog 24 #[.slice A a.length c, .slice B b.length d] w fun e w' => e = .returned (.bool db) ∧ Lent E S L w' T l) := Lib.hid fun w T l h A c B d i j hi hj => by
        have h2 := lwithin i j hi hj (by omega) (by omega) h
        rw [f9] at h2
        exact h2
      have jz : ((n.length : Int) == 0) = db := by rw [hdb, Bool.eq_iff_iff, beq_iff_eq, decide_eq_true_eq]
      have j2 : wrap64 ((m.length : Int) + n.length) = a.length := by unfold wrap64; omega
      have LA := Lib.hid la
      have LB := Lib.hid lb
      have LM := Lib.hid lm
      have LN := Lib.hid ln
      have F5 := Lib.hid f5
      have F6 := Lib.hid f6
      have F7 := Lib.hid f7
      have F4 := Lib.hid f4
      clear f1 f2 f3 f4 f5 f6 f7 f8 f9 f10 la lb lm ln hm hn hx hex hj hdb
      go_wp2_with (first
        | (with_reducible refine KA.out.mono ?_; clear KA; rintro e w1 ⟨rfl, h⟩; have H0 := Lib.hid (Lent.start h); clear h)
        | (with_reducible refine (KP.out _ _ _ H0.out).mono ?_; clear KP H0; rintro e w2 ⟨T1, A1, c1, rfl, h⟩; have H1 := Lib.hid h; clear h)
        | (with_reducible refine (KQ.out _ _ _ H1.out).mono ?_; clear KQ H1; rintro e w3 ⟨T2, A2, c2, rfl, h⟩; have H2 := Lib.hid h; clear h)
        | (with_reducible refine (K1.out _ _ _ H2.out _ _ _ _ 1 0 rfl rfl).mono ?_; clear K1 H2; rintro e w4 ⟨T3, A3, c3, rfl, h⟩; have H3 := Lib.hid h; clear h)
        | (with_reducible refine (K2.out _ _ _ H3.out _ _ _ _ 2 1 rfl rfl).mono ?_; clear K2 H3; rintro e w5 ⟨T4, A4, c4, rfl, h⟩; have H4 := Lib.hid h; clear h)
        | (with_reducible refine (K3.out _ _ _ H4.out _ _ _ _ 2 3 rfl rfl).mono ?_; clear K3 H4; rintro e w6 ⟨T5, A5, c5, rfl, h⟩; have H5 := Lib.hid h; clear h)
        | (with_reducible refine (K4.out _ _ _ H5.out _ _ _ _ 2 1 rfl rfl).mono ?_; clear K4 H5; rintro e w7 ⟨T6, A6, c6, rfl, h⟩; have H6 := Lib.hid h; clear h)
        | (with_reducible refine (KS.out _ _ _ H6.out m _ _ _ _ 3 1 LM.out rfl rfl).mono ?_; clear H6; rintro e w8 ⟨rfl, h⟩; have H7 := Lib.hid h; clear h)
        | (with_reducible refine (KS.out _ _ _ H7.out a _ _ _ _ 0 5 LA.out rfl rfl).mono ?_; clear H7; rintro e w9 ⟨rfl, h⟩; have H8 := Lib.hid h; clear h)
        | (with_reducible refine (K5.out _ _ _ H8.out _ _ _ _ 5 4 rfl rfl).mono ?_; clear K5 H8; rintro e w10 ⟨T9, A9, c9, rfl, h⟩; have H9 := Lib.hid h; clear h)
        | (with_reducible refine (K6.out _ _ _ H9.out _ _ _ _ 5 6 rfl rfl).mono ?_; clear K6 H9; rintro e w11 ⟨T10, A10, c10, rfl, h⟩; have H10 := Lib.hid h; clear h))
      by_cases hx0 : ex = 0
      · subst hx0
        obtain ⟨g1, g2, g3, g4, -⟩ := F5.out rfl
        have K9 : Hid (∀ w T l, Lent E S L w T l → ∀ A c B d i j, l[i]? = some (A, c, x) → l[j]? = some (B, d, b) → Calls Tryd.prog 22 #[.slice A x.length c, .slice B b.length d] w fun e w' => ∃ T' A' c', e = .returned (.slice A' n.length c') ∧ Lent E S L w' T' ((A', c', n) :: l)) := Lib.hid fun w T l h A c B d i j hi hj => by
          have h2 := lminus i j hi hj (by have := LX.out; omega) (by have := LB.out; omega) h
          rw [g3] at h2
          exact h2
        have j1 : wrap64 ((b.length : Int) + n.length) = x.length := by have := LX.out; unfold wrap64; omega
        have G1 := Lib.hid g1
        have G2 := Lib.hid g2
        clear g1 g2 g3 g4 F5 F4
        go_wp2_with (first
          | (with_reducible refine (KS.out _ _ _ H10.out x _ _ _ _ 1 0 LX.out rfl rfl).mono ?_; clear H10; rintro e w12 ⟨rfl, h⟩; have H11 := Lib.hid h; clear h)
          | (with_reducible refine (KW.out _ _ _ H11.out a x _ _ _ _ 7 1 LA.out LX.out G1.out rfl rfl).mono ?_; clear H11; rintro e w13 ⟨rfl, h⟩; have H12 := Lib.hid h; clear h)
          | (with_reducible refine (KW.out _ _ _ H12.out b x _ _ _ _ 6 1 LB.out LX.out G2.out rfl rfl).mono ?_; clear H12; rintro e w14 ⟨rfl, h⟩; have H13 := Lib.hid h; clear h)
          | (with_reducible refine (K9.out _ _ _ H13.out _ _ _ _ 1 6 rfl rfl).mono ?_; clear K9 H13; rintro e w15 ⟨T14, A14, c14, rfl, h⟩; have H14 := Lib.hid h; clear h)
          | (with_reducible refine (KS.out _ _ _ H14.out n _ _ _ _ 0 5 LN.out rfl rfl).mono ?_; clear H14; rintro e w16 ⟨rfl, h⟩; have H15 := Lib.hid h; clear h)
          | (with_reducible refine (KW.out _ _ _ H15.out m a _ _ _ _ 6 8 LM.out LA.out F6.out rfl rfl).mono ?_; clear H15; rintro e w17 ⟨rfl, h⟩; have H16 := Lib.hid h; clear h)
          | (with_reducible refine (KW.out _ _ _ H16.out m b _ _ _ _ 6 7 LM.out LB.out F7.out rfl rfl).mono ?_; clear H16; rintro e w18 ⟨rfl, h⟩; have H17 := Lib.hid h; clear h)
          | (with_reducible refine (K7.out _ _ _ H17.out _ _ _ _ 5 7 rfl rfl).mono ?_; clear K7 H17; rintro e w19 ⟨T18, A18, c18, rfl, h⟩; have H18 := Lib.hid h; clear h))
        go_wp2_with (with_reducible refine (K8.out _ _ _ H18.out _ _ _ _ 9 8 rfl rfl).mono ?_; clear K8 H18; rintro e w20 ⟨rfl, h⟩; have H19 := Lib.hid h; clear h)
        go_ret
        exact ⟨rfl, H19.out.back⟩
      · have e61 : ex = 61 := by
          rcases F4.out with h | h
          · exact absurd h hx0
          · exact h
        subst e61
        clear F5 F4 hx0
        go_wp2_with (first
          | (with_reducible refine (KS.out _ _ _ H10.out x _ _ _ _ 1 0 LX.out rfl rfl).mono ?_; clear H10; rintro e w12 ⟨rfl, h⟩; have H15 := Lib.hid h; clear h)
          | (with_reducible refine (KW.out _ _ _ H15.out m a _ _ _ _ 5 7 LM.out LA.out F6.out rfl rfl).mono ?_; clear H15; rintro e w17 ⟨rfl, h⟩; have H16 := Lib.hid h; clear h)
          | (with_reducible refine (KW.out _ _ _ H16.out m b _ _ _ _ 5 6 LM.out LB.out F7.out rfl rfl).mono ?_; clear H16; rintro e w18 ⟨rfl, h⟩; have H17 := Lib.hid h; clear h)
          | (with_reducible refine (K7.out _ _ _ H17.out _ _ _ _ 4 6 rfl rfl).mono ?_; clear K7 H17; rintro e w19 ⟨T18, A18, c18, rfl, h⟩; have H18 := Lib.hid h; clear h))
        go_wp2_with (with_reducible refine (K8.out _ _ _ H18.out _ _ _ _ 8 7 rfl rfl).mono ?_; clear K8 H18; rintro e w20 ⟨rfl, h⟩; have H19 := Lib.hid h; clear h)
        go_ret
        exact ⟨rfl, H19.out.back⟩
    · have z1 : (eb != 0) = true := by rw [bne_iff_ne]; exact h2
      subst h1
      clear ps pt h2
      go_wp2_with (first
        | (with_reducible refine KA.out.mono ?_; clear KA; rintro e w1 ⟨rfl, h⟩; have H0 := Lib.hid (Lent.start h); clear h)
        | (with_reducible refine (KP.out _ _ _ H0.out).mono ?_; clear KP H0; rintro e w2 ⟨T1, A1, c1, rfl, h⟩; have H1 := Lib.hid h; clear h)
        | (with_reducible refine (KQ.out _ _ _ H1.out).mono ?_; clear KQ H1; rintro e w3 ⟨T2, A2, c2, rfl, h⟩; have H2 := Lib.hid h; clear h))
      go_ret
      exact ⟨rfl, H2.out.back⟩
  · have z1 : (ea != 0) = true := by rw [bne_iff_ne]; exact h1
    clear ps pt h1
    go_wp2_with (first
      | (with_reducible refine KA.out.mono ?_; clear KA; rintro e w1 ⟨rfl, h⟩; have H0 := Lib.hid (Lent.start h); clear h)
      | (with_reducible refine (KP.out _ _ _ H0.out).mono ?_; clear KP H0; rintro e w2 ⟨T1, A1, c1, rfl, h⟩; have H1 := Lib.hid h; clear h)
      | (with_reducible refine (KQ.out _ _ _ H1.out).mono ?_; clear KQ H1; rintro e w3 ⟨T2, A2, c2, rfl, h⟩; have H2 := Lib.hid h; clear h))
    go_ret
    exact ⟨rfl, H2.out.back⟩
end
end Go.Proofs.YtgedjkcpgagnbaaDoor
