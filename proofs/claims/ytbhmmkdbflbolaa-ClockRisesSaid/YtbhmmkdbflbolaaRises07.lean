/- ClockRises, ClockAgrees. -/
import Derived.Test.YtbhmmkdbflbolaaRef07
namespace Go.Proofs.Ytbhmmkdbflbolaa
open Go.RowKit

set_option maxHeartbeats 1000000 in
theorem rises {E : World} {L : List Hp} {S : Ph} (t : Int) (A : Option Addr) (n c : Nat) (zs : List Int) (w : World) (hn : n ≤ maxLen) (hr : Rds S 1 en64 A n zs) (h : Own E w (Hp.ro S :: L)) :
    Calls Try.prog 4 #[.int .i64 t, .slice A n c] w fun e w' => e = .returned (.bool true) ∧ Own E w' (Hp.ro S :: L) := by
  unfold maxLen at hn
  have hl := Lib.hid hr.1
  have hbt := near_bd t
  go_enter Try.func4, Try.ntmps4
  go_wp2_with fail
  refine (Ref07.awake _ h).mono ?_
  rintro e w1 ⟨rfl, h1⟩
  go_wp2_with fail
  refine (Clock.new _ _ h1).mono ?_
  rintro e w2 ⟨b, rfl, h2⟩
  go_wp2_with fail
  refine (Ref07.lawNearest _ _).mono ?_
  rintro e w' ⟨rfl, rfl⟩
  go_wp2_with fail
  refine (Clock.now b _ _ h2).mono ?_
  rintro e w' ⟨rfl, rfl⟩
  have e0 : (near t != near t) = false := by simp
  go_wp2_with fail
  clear h h1
  go_loopw [7, 8] (fun q i wr => ∃ k : Nat, k ≤ n ∧ i = .int .i64 k ∧ ∃ m : Int, q = .int .i64 m ∧ Own E wr (Clock.At b m :: Hp.ro S :: L)) (fun _ i _ => n - (intOf i).toNat)
  case atStart => exact ⟨0, Nat.zero_le _, rfl, _, rfl, h2⟩
  case round =>
    obtain ⟨k, hk, rfl, m, rfl, hw⟩ := hrel
    clear h2
    by_cases hlt : k < n
    · obtain ⟨x, ba, off, hx, rfl, hc⟩ := hr.get1 hlt
      have c1 := hw.f1.rd (hc _ rfl)
      have HC := Lib.hid (hc _ rfl)
      clear hc hr hx
      have hsee := Clock.see b m x wr hw
      rcases (by omega : m < near x ∧ max m (near x) = near x ∨ near x ≤ m ∧ max m (near x) = m) with ⟨hlt2, hm⟩ | ⟨hlt2, hm⟩
      all_goals
        rw [hm] at hsee
        clear hm
        have HS := Lib.hid hsee
        clear hsee
        go_wp2_with fail
        refine (Clock.now b _ _ hw).mono ?_
        rintro e w' ⟨rfl, rfl⟩
        go_wp2_with fail
        refine HS.out.mono ?_
        rintro e w3 ⟨rfl, h3⟩
        have c3 := h3.f1.rd HC.out
        go_wp2_with fail
        refine (Ref07.lawNearest _ _).mono ?_
        rintro e w' ⟨rfl, rfl⟩
        clear hw
        have e1 : (near x != near x) = false := by simp
        have e2 : (m != m) = false := by simp
        go_wp2_with fail
        refine (Clock.now b _ _ h3).mono ?_
        rintro e w' ⟨rfl, rfl⟩
        go_wp2_with fail
        go_roundw
        case rel => exact ⟨k + 1, by omega, by go_num, _, rfl, h3⟩
        case measure => simp [intOf]; omega
    · go_wp2_with fail
      go_ret
      exact ⟨rfl, hw.drop⟩

theorem near_id {n : Int} (h0 : 0 ≤ n) (h1 : n ≤ 1099511627776) : near n = n := by unfold near; omega
theorem firstOf_bd (zs : List Int) : 0 ≤ firstOf zs ∧ firstOf zs ≤ 1099511627776 := by
  have key : ∀ (zs : List Int) (a : Int), 0 ≤ a → a ≤ 1099511627776 → 0 ≤ zs.foldl (fun o t => min o (near t)) a ∧ zs.foldl (fun o t => min o (near t)) a ≤ 1099511627776 := by
    intro zs
    induction zs with
    | nil => intro a h0 h1; exact ⟨h0, h1⟩
    | cons z zs ih =>
      intro a h0 h1
      have := near_bd z
      refine ih (min a (near z)) ?_ ?_ <;> omega
  exact key zs _ (by omega) (by omega)
theorem foldl_le (zs : List Int) : ∀ a : Int, zs.foldl (fun o t => min o (near t)) a ≤ a ∧ ∀ z ∈ zs, zs.foldl (fun o t => min o (near t)) a ≤ near z := by
  induction zs with
  | nil => intro a; exact ⟨Int.le_refl _, fun _ h => by cases h⟩
  | cons z zs ih =>
    intro a
    obtain ⟨h1, h2⟩ := ih (min a (near z))
    refine ⟨by simp only [List.foldl_cons]; omega, fun y hy => ?_⟩
    simp only [List.foldl_cons]
    rcases List.mem_cons.1 hy with rfl | hy
    · omega
    · exact h2 y hy
theorem foldl_in (zs : List Int) : ∀ a : Int, zs.foldl (fun o t => min o (near t)) a = a ∨ ∃ z ∈ zs, zs.foldl (fun o t => min o (near t)) a = near z := by
  induction zs with
  | nil => intro a; exact .inl rfl
  | cons z zs ih =>
    intro a
    simp only [List.foldl_cons]
    rcases ih (min a (near z)) with h | ⟨y, hy, h⟩
    · rcases (by omega : min a (near z) = a ∨ min a (near z) = near z) with e | e
      · exact .inl (h.trans e)
      · exact .inr ⟨z, by simp, h.trans e⟩
    · exact .inr ⟨y, by simp [hy], h⟩
def hits (zs : List Int) (f : Int) : Bool := zs.any fun z => near z == f
theorem hits_all (zs : List Int) (h : zs ≠ []) : hits zs (firstOf zs) = true := by
  unfold hits
  rw [List.any_eq_true]
  rcases foldl_in zs 1099511627776 with e | ⟨z, hz, e⟩
  · cases zs with
    | nil => exact absurd rfl h
    | cons z zs =>
      refine ⟨z, by simp, ?_⟩
      have h1 := (foldl_le (z :: zs) 1099511627776).2 z (by simp)
      have h2 := near_bd z
      rw [e] at h1
      have h3 : near z = 1099511627776 := by omega
      unfold firstOf
      rw [e, h3]
      rfl
  · exact ⟨z, hz, by unfold firstOf; rw [e]; simp⟩

theorem at0 (zs : List Int) (n : Nat) (hl : zs.length = n) (b : Bool) (hb : b = decide (n = 0)) : Value.bool b = .bool (decide (zs = []) || hits (zs.take 0) (firstOf zs)) := by
  subst hb hl
  cases zs <;> simp [hits]
theorem hits_snoc (zs : List Int) (k : Nat) (x f : Int) (hx : zs[k]? = some x) : hits (zs.take (k + 1)) f = (hits (zs.take k) f || near x == f) := by
  unfold hits
  rw [List.take_add_one, hx]
  simp
theorem left_first (zs : List Int) (k : Nat) (x : Int) (hx : zs[k]? = some x) : left x (firstOf zs) = 0 := by
  have h1 := (foldl_le zs 1099511627776).2 x (List.mem_of_getElem? hx)
  have h2 := firstOf_bd zs
  unfold left
  rw [near_id h2.1 h2.2]
  have h3 : firstOf zs ≤ near x := h1
  omega

set_option maxHeartbeats 20000000 in
theorem agrees {E : World} {L : List Hp} {S : Ph} (t d now : Int) (A : Option Addr) (n c : Nat) (zs : List Int) (w : World) (hn : n ≤ maxLen) (hr : Rds S 1 en64 A n zs) (h : Own E w (Hp.ro S :: L)) :
    Calls Try.prog 6 #[.int .i64 t, .int .i64 d, .int .i64 now, .slice A n c] w fun e w' => e = .returned (.bool true) ∧ Own E w' (Hp.ro S :: L) := by
  unfold maxLen at hn
  have hl := Lib.hid hr.1
  have hbt := near_bd t
  have hbd := near_bd d
  have hbn := near_bd now
  have hfb := firstOf_bd zs
  have hfl := Lib.hid ((foldl_le zs 1099511627776).2)
  -- the sum
  obtain ⟨s, hs⟩ : ∃ s, s = near (near (near t) + near d) := ⟨_, rfl⟩
  have hs' : s = min (near t + near d) 1099511627776 := by rw [hs, near_id hbt.1 hbt.2]; unfold near at *; omega
  have hadd := fun w => Clock.add (near t) (near d) w
  rw [← hs] at hadd
  have hl1 : left (near t) s = s - near t := by unfold left; rw [near_id hbt.1 hbt.2, near_id (n := s) (by omega) (by omega)]; omega
  have hl2 : left s (near t) = 0 := by unfold left; rw [near_id hbt.1 hbt.2, near_id (n := s) (by omega) (by omega)]; omega
  have hleft1 := fun w => Clock.left_ (near t) s w
  have hleft2 := fun w => Clock.left_ s (near t) w
  rw [hl1] at hleft1
  rw [hl2] at hleft2
  have hback := fun w => Clock.add s (-near d) w
  have hb1 : near (near s + -near d) = if near t + near d ≤ 1099511627776 then near t else 1099511627776 - near d := by
    rw [near_id (n := s) (by omega) (by omega)]
    split <;> (unfold near at *; omega)
  rw [hb1] at hback
  have hin := fun w => Clock.within_ now t (near d) w
  have hout := fun z (hz : z ≤ 0) w => Clock.within_ now t z w
  have ho : ∀ z, z ≤ 0 → within now t z = false := by
    intro z hz
    unfold within
    by_cases h1 : near t ≤ near now
    · simp; omega
    · simp [h1]
  have HA := Lib.hid hadd
  have H1 := Lib.hid hleft1
  have H2 := Lib.hid hleft2
  have HB := Lib.hid hback
  have HO := Lib.hid ho
  clear hadd hleft1 hleft2 hback ho hl1 hl2 hb1 hs hin hout
  have g1 : s ≤ near t + near d := by omega
  have g2 : s ≤ 1099511627776 := by omega
  have g3 : near t ≤ s := by omega
  have hcase : (near t + near d ≤ 1099511627776 ∧ s = near t + near d) ∨ (1099511627776 < near t + near d ∧ s = 1099511627776) := by omega
  clear hs'
  have hin : ∀ b : Bool, b = (decide (near t ≤ near now) && (decide (near now < s) || decide (1099511627776 < near t + near d))) → within now t (near d) = b := by
    rintro b rfl
    unfold within
    rw [Bool.eq_iff_iff]
    simp
    omega
  have HI := Lib.hid hin
  clear hin
  have hfin : zs ≠ [] → hits zs (firstOf zs) = true := hits_all zs
  have HF := Lib.hid hfin
  clear hfin
  have hz0 : n = 0 → firstOf zs = 1099511627776 := fun h0 => by
    have : zs = [] := List.eq_nil_of_length_eq_zero (hl.out.trans h0)
    rw [this]; rfl
  have HZ := Lib.hid hz0
  clear hz0
  have hq0 : within now t 0 = false := HO.out _ (by omega)
  obtain ⟨r, hr1, hr2⟩ : ∃ r, r = (if near t + near d ≤ 1099511627776 then near t else 1099511627776 - near d) ∧ (near t + near d ≤ 1099511627776 → r = near t) := ⟨_, rfl, fun h => if_pos h⟩
  have hbk := HB.out
  rw [← hr1] at hbk
  have HB2 := Lib.hid hbk
  clear hbk HB hr1
  have HR := Lib.hid hr2
  clear hr2
  have HN1 := Lib.hid (fun w => Ref07.lawNearest t w)
  have HN2 := Lib.hid (fun w => Ref07.lawNearest d w)
  have HN3 := Lib.hid (fun w => Ref07.lawNearest now w)
  generalize near t = F at *
  generalize near d = M at *
  generalize near now = N at *
  -- one walk for each way through the tests
  have hc1 : (F + M ≤ 1099511627776 ∧ s = F + M ∧ r = F) ∨ (1099511627776 < F + M ∧ s = 1099511627776) := by
    rcases hcase with ⟨k1, k2⟩ | ⟨k1, k2⟩
    · exact .inl ⟨k1, k2, HR.out k1⟩
    · exact .inr ⟨k1, k2⟩
  clear hcase HR
  have hc2 : (F ≤ N ∧ N < s) ∨ (F ≤ N ∧ s ≤ N) ∨ (N < F) := by omega
  have hc3 : n = 0 ∨ 0 < n := by omega
  rcases hc1 with ⟨k1, rfl, rfl⟩ | ⟨k1, rfl⟩ <;> rcases hc2 with ⟨m1, m2⟩ | ⟨m1, m2⟩ | m1 <;> rcases hc3 with hn0 | hn0 <;> rcases (by omega : 0 < d ∨ d ≤ 0) with hd0 | hd0
  all_goals
    first
      | have hi : within now t (M) = true := HI.out _ (by simp; omega)
      | have hi : within now t (M) = false := HI.out _ (by simp; omega)
    first
      | (have hn1 : ((n : Int) == 0) = true := (by simp; omega); have hn2 := HZ.out hn0; have HN0 := Lib.hid hn0; clear hn0)
      | have hn1 : ((n : Int) == 0) = false := by (simp; omega)
    first | have hq1 : within now t d = false := HO.out d (by omega) | skip
    clear hfl HI hfb HO
    go_enter Try.func6, Try.ntmps6
    go_wp2_with fail
    refine (Ref07.awake _ h).mono ?_
    rintro e w1 ⟨rfl, h1⟩
    go_wp2_with fail
    refine (HN1.out _).mono ?_
    rintro e w' ⟨rfl, rfl⟩
    go_wp2_with fail
    refine (HN2.out _).mono ?_
    rintro e w' ⟨rfl, rfl⟩
    go_wp2_with fail
    refine (HA.out _).mono ?_
    rintro e w' ⟨rfl, rfl⟩
    go_wp2_with fail
    refine (H1.out _).mono ?_
    rintro e w' ⟨rfl, rfl⟩
    go_wp2_with fail
    refine (H2.out _).mono ?_
    rintro e w' ⟨rfl, rfl⟩
    go_wp2_with fail
    refine (HB2.out _).mono ?_
    rintro e w' ⟨rfl, rfl⟩
    go_wp2_with fail
    refine (HN3.out _).mono ?_
    rintro e w' ⟨rfl, rfl⟩
    go_wp2_with fail
    refine (Clock.within_ _ _ _ _).mono ?_
    rintro e w' ⟨rfl, rfl⟩
    go_wp2_with fail
    refine (Clock.within_ _ _ _ _).mono ?_
    rintro e w' ⟨rfl, rfl⟩
    go_wp2_with fail
    refine (Clock.first _ _ _ zs _ (by unfold maxLen; omega) (hr.sub h1.sub)).mono ?_
    rintro e w' ⟨rfl, rfl⟩
    go_wp2_with fail
    go_loop [17, 18] (fun q i => ∃ k : Nat, k ≤ zs.length ∧ i = .int .i64 k ∧ q = .bool (decide (zs = []) || hits (zs.take k) (firstOf zs))) (fun _ i => zs.length - (intOf i).toNat)
    case atStart => exact ⟨0, Nat.zero_le _, rfl, at0 zs _ hl.out _ (by first | (simp; omega) | (have := HN0.out; simp; omega))⟩
    case round =>
      obtain ⟨k, hk, rfl, rfl⟩ := hrel
      have hk' : k ≤ n := by rw [← hl.out]; exact hk
      by_cases hlt : k < n
      all_goals try (exfalso; have := HN0.out; omega)
      all_goals first
        | (
            have hall : (decide (zs = []) || hits (zs.take k) (firstOf zs)) = true := by
              rw [List.take_of_length_le (by rw [hl.out]; omega)]
              by_cases hz : zs = []
              · simp [hz]
              · rw [HF.out hz]; simp
            rw [hall]
            clear hall
            go_wp2_with fail
            go_ret
            exact ⟨rfl, h1⟩)
        | (
            have hk2 : k < zs.length := by rw [hl.out]; exact hlt
            obtain ⟨x, ba, off, hx, rfl, hc⟩ := hr.get1 hlt
            have c1 := h1.rd (hc _ rfl)
            have hs := Lib.hid (hits_snoc zs k x (firstOf zs) hx)
            have hleft : left x (firstOf zs) = 0 := left_first zs k x hx
            have hlz : ((left x (firstOf zs)) != 0) = false := by rw [hleft]; rfl
            clear hx hc hleft
            have hb0 : (decide (zs = []) || hits (zs.take k) (firstOf zs)) = true ∨ (decide (zs = []) || hits (zs.take k) (firstOf zs)) = false := by cases (decide (zs = []) || hits (zs.take k) (firstOf zs)) <;> simp
            rcases hb0 with hb | hb
            · rw [hb]
              have HB3 := Lib.hid hb
              clear hb
              go_wp2_with fail
              refine (Clock.left_ _ _ _).mono ?_
              rintro e w' ⟨rfl, rfl⟩
              go_wp2_with fail
              go_round
              case rel => exact ⟨k + 1, by omega, by go_num, congrArg Value.bool (by rw [hs.out, ← Bool.or_assoc, HB3.out]; rfl)⟩
              case measure => simp [intOf]; omega
            · rw [hb]
              have HB3 := Lib.hid hb
              clear hb
              go_wp2_with fail
              refine (Ref07.lawNearest _ _).mono ?_
              rintro e w' ⟨rfl, rfl⟩
              go_wp2_with fail
              refine (Clock.left_ _ _ _).mono ?_
              rintro e w' ⟨rfl, rfl⟩
              go_wp2_with fail
              go_round
              case rel => exact ⟨k + 1, by omega, by go_num, congrArg Value.bool (by rw [hs.out, ← Bool.or_assoc, HB3.out, Bool.false_or])⟩
              case measure => simp [intOf]; omega)
end Go.Proofs.Ytbhmmkdbflbolaa
