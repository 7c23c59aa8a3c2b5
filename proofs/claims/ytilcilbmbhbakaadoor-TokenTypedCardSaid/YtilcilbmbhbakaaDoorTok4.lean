/- token.Parse. -/
import Derived.Test.YtilcilbmbhbakaaDoorTok3
namespace Go.Proofs.YtilcilbmbhbakaaDoor
open Go.RowKit
def parseV (k : Int) (s : ByteArray) : Int × ByteArray × Int := if k ≠ 1 ∧ k ≠ 2 then (0, ⟨#[]⟩, 1) else readT k s
theorem readT_bad (k : Int) (s : ByteArray) : (readT k s).2.2 = 0 ∨ readT k s = (0, ⟨#[]⟩, (readT k s).2.2) := by
  unfold readT
  by_cases h1 : begins s (pfx (3 - k))
  · rw [if_pos h1]; exact .inr rfl
  rw [if_neg h1]
  by_cases h2 : s.size ≠ 52 ∨ ¬ begins s (pfx k)
  · rw [if_pos h2]; exact .inr rfl
  rw [if_neg h2]
  cases fromS namesB.data.toList (s.data.toList.drop 4) with
  | none => exact .inr rfl
  | some b =>
    dsimp only
    by_cases h3 : numL (b.take 8) < 1 ∨ 4611686018427387904 < numL (b.take 8)
    · rw [if_pos h3]; exact .inr rfl
    rw [if_neg h3]
    by_cases h4 : b = laidT k (numL (b.take 8)) ((b.drop 8).take 24)
    · rw [if_pos h4]; exact .inl rfl
    · rw [if_neg h4]; exact .inr rfl
section
variable {E : World} {L : List Hp}
theorem is_here (f : Nat) (k : Int) (a : Addr) (w : World) (h : Own E w (Hp.blk f FT #[.int .i64 k, sentV a] :: L)) :
    Calls Tryd.prog 20 #[faultV f, sentV a] w fun e w' => e = .returned (.bool true) ∧ w' = w := is_wrap_same f 0 a w (h.cell 1)
theorem is_else (f : Nat) (k : Int) (a b : Addr) (w : World) (hne : a ≠ b) (ha : ∃ c t, w.heap[a.block]? = some (.cells c t (0, 0))) (hb : ∃ c t, w.heap[b.block]? = some (.cells c t (0, 0))) (h : Own E w (Hp.blk f FT #[.int .i64 k, sentV a] :: L)) :
    Calls Tryd.prog 20 #[faultV f, sentV b] w fun e w' => e = .returned (.bool false) ∧ w' = w := by
  obtain ⟨ca, ta, ha⟩ := ha
  obtain ⟨cb, tb, hb⟩ := hb
  exact is_wrap_other f 0 b a ca cb ta tb w (h.cell 1) hne ha hb
set_option maxHeartbeats 1000000 in
theorem parse_any (k : Int) (s : ByteArray) (a0 a1 a2 : Addr) (id : Int) (v : ByteArray) (c : Int) (w : World) (hr : parseV k s = (id, v, c)) (hk : -9223372036854775808 ≤ k ∧ k ≤ 9223372036854775807) (hG : Sent E L a0 a1 a2) (h : Own E w L) :
    Calls Tryd.prog 8 #[.int .i64 k, .string s] w fun ev w' => ev = .returned (.tuple #[.int .i64 id, .string v, .int .i64 c]) ∧ Own E w' L := by
  unfold parseV at hr
  by_cases hkk : k ≠ 1 ∧ k ≠ 2
  · rw [if_pos hkk] at hr
    cases hr
    have e0 := pfx_none k hkk
    clear hkk
    go_enter Tryd.func8, Tryd.ntmps8
    go_wp2_with fail
    refine (prefix_any k _).mono ?_
    rintro e w1 ⟨rfl, rfl⟩
    rw [e0]
    go_wp2_with fail
    go_ret3
    exact ⟨rfl, h⟩
  rw [if_neg hkk] at hr
  have hbad := readT_bad k s
  rw [hr] at hbad
  have hp4 := pfx_four k hkk
  obtain ⟨p, hp⟩ : ∃ p, p = pfx k := ⟨_, rfl⟩
  rw [← hp] at hp4
  have hpe : p.toList.isEmpty = false := text_some (by omega)
  have HP := Lib.hid hp
  have HBAD := Lib.hid hbad
  have HR := Lib.hid hr
  have hk12 : k = 1 ∨ k = 2 := by omega
  clear hp hbad hr hkk
  go_enter Tryd.func8, Tryd.ntmps8
  go_wp2_with fail
  refine (prefix_any k _).mono ?_
  rintro e w1 ⟨rfl, rfl⟩
  rw [← HP.out]
  go_wp2_with fail
  refine (read_any k s a0 a1 a2 _ hk12 hG h).mono ?_
  rintro e w2 hsaid
  rw [HR.out] at hsaid
  rcases hsaid with ⟨hc0, rfl, h2⟩ | ⟨f, a, hcase, rfl, h2⟩
  · dsimp only at hc0
    subst hc0
    have hs := (hG.2 _ h2).1
    have s0 := hs.1
    have s1 := hs.2.1
    have s2 := hs.2.2
    have H2 := Lib.hid h2
    clear h2 hs
    go_wp2_with fail
    refine (is_nil a0 _).mono ?_
    rintro e w3 ⟨rfl, rfl⟩
    go_wp2_with fail
    refine (is_nil a1 _).mono ?_
    rintro e w3 ⟨rfl, rfl⟩
    go_wp2_with fail
    refine (is_nil a2 _).mono ?_
    rintro e w3 ⟨rfl, rfl⟩
    go_wp2_with fail
    go_ret3
    exact ⟨rfl, H2.out⟩
  · have hs := hG.cons.2 _ h2
    have s0 := hs.1.1
    have s1 := hs.1.2.1
    have s2 := hs.1.2.2
    have HS := Lib.hid hs.2
    have H2 := Lib.hid h2
    have hval : (id, v, c) = ((0 : Int), (⟨#[]⟩ : ByteArray), c) := by
      rcases HBAD.out with hz | hz
      · have hz' : c = 0 := hz
        have hc' : (c = 170 ∧ a = a0) ∨ (c = 171 ∧ a = a1) ∨ (c = 172 ∧ a = a2) := hcase
        omega
      · exact hz
    obtain ⟨rfl, hv, -⟩ : id = 0 ∧ v = ⟨#[]⟩ ∧ True := by
      have e1 := Prod.mk.inj hval
      exact ⟨e1.1, (Prod.mk.inj e1.2).1, trivial⟩
    subst hv
    clear h2 hs hval
    have hc' : (c = 170 ∧ a = a0) ∨ (c = 171 ∧ a = a1) ∨ (c = 172 ∧ a = a2) := hcase
    clear hcase
    rcases hc' with ⟨rfl, rfl⟩ | ⟨rfl, rfl⟩ | ⟨rfl, rfl⟩
    · go_wp2_with fail
      refine (is_here f k a _ H2.out).mono ?_
      rintro e w3 ⟨rfl, rfl⟩
      go_wp2_with fail
      go_ret3
      exact ⟨rfl, H2.out.drop⟩
    · go_wp2_with fail
      refine (is_else f k a a0 _ hG.1.1.symm HS.out.2.1 HS.out.1 H2.out).mono ?_
      rintro e w3 ⟨rfl, rfl⟩
      go_wp2_with fail
      refine (is_here f k a _ H2.out).mono ?_
      rintro e w3 ⟨rfl, rfl⟩
      go_wp2_with fail
      go_ret3
      exact ⟨rfl, H2.out.drop⟩
    · go_wp2_with fail
      refine (is_else f k a a0 _ hG.1.2.1.symm HS.out.2.2 HS.out.1 H2.out).mono ?_
      rintro e w3 ⟨rfl, rfl⟩
      go_wp2_with fail
      refine (is_else f k a a1 _ hG.1.2.2.symm HS.out.2.2 HS.out.2.1 H2.out).mono ?_
      rintro e w3 ⟨rfl, rfl⟩
      go_wp2_with fail
      refine (is_here f k a _ H2.out).mono ?_
      rintro e w3 ⟨rfl, rfl⟩
      go_wp2_with fail
      go_ret3
      exact ⟨rfl, H2.out.drop⟩
end
end Go.Proofs.YtilcilbmbhbakaaDoor
