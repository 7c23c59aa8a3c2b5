/- FromStandard, of the program and of the document. -/
import Derived.Test.YtokephnlelpjhaaDoorStd
namespace Go.Proofs.YtokephnlelpjhaaDoor
open Go.RowKit
def Six.itr : Nat → List UInt8 → List UInt8
  | 0, l => l
  | q + 1, l => Six.strip1 (Six.itr q l)
theorem fromM_of (l : List UInt8) : fromM l = if (unSix mailB.data.toList (Six.itr 2 l)).2 then (if Six.itr 2 l ++ Six.fill (unSix mailB.data.toList (Six.itr 2 l)).1.length = l then some (unSix mailB.data.toList (Six.itr 2 l)).1 else none) else none := by
  unfold fromM fromS
  show (match (if (unSix mailB.data.toList (Six.itr 2 l)).2 then some (unSix mailB.data.toList (Six.itr 2 l)).1 else none) with | some t => if Six.itr 2 l ++ Six.fill t.length = l then some t else none | none => none) = _
  cases (unSix mailB.data.toList (Six.itr 2 l)).2 <;> simp
theorem unSix_len (signs l : List UInt8) (h : (unSix signs l).2 = true) : (unSix signs l).1.length ≤ l.length := by
  unfold unSix at *
  cases hd : Six.dec (pl signs) 0 0 l with
  | none => rw [hd] at h; cases h
  | some t => exact dec_len _ _ _ _ _ hd
section
variable {E : World} {L : List Hp}
set_option maxRecDepth 20000 in
set_option maxHeartbeats 1000000 in
theorem fromstandard_any (s : ByteArray) (w : World) (hs : s.size ≤ 10000000000000) (h : Own E w L) :
    Calls Tryd.prog 41 #[.string s] w fun e w' => e = .returned (readV (fromM s.data.toList)) ∧ Own E w' L := by
  obtain ⟨R, hR⟩ : ∃ R, R = fromM s.data.toList := ⟨_, rfl⟩
  rw [← hR]
  rw [fromM_of] at hR
  have HR := Lib.hid hR
  clear hR
  go_enter Tryd.func41, Tryd.ntmps41
  go_wp2_with fail
  go_loopw [4, 9] (fun a i wr => ∃ (q : Nat) (u : ByteArray), q ≤ 2 ∧ i = .int .i64 q ∧ a = .string u ∧ u.size ≤ 10000000000000 ∧ u.data.toList = Six.itr q s.data.toList ∧ wr = w) (fun _ i _ => 2 - (intOf i).toNat)
  case atStart => exact ⟨0, s, by omega, rfl, rfl, hs, rfl, rfl⟩
  case round =>
    obtain ⟨q, u, hq, rfl, rfl, hus, hu, rfl⟩ := hrel
    by_cases hq2 : q < 2
    · have hul : u.data.toList.length = u.size := rfl
      by_cases h0 : 0 < u.size
      · have hne : u.data.toList ≠ [] := fun h => by rw [h] at hul; simp at hul; omega
        have hl := last_get hne
        rw [hul] at hl
        obtain ⟨m, hm⟩ : ∃ m, m = u.size - 1 := ⟨_, rfl⟩
        have hix := byte_index u (m : Int) m rfl (by omega)
        rw [← hm] at hl
        generalize u.data.toList.getD m 0 = y at *
        have h0i : (0 : Int) < u.size := by omega
        have hmi : (u.size : Int) - 1 = (m : Int) := by omega
        have HM := Lib.hid hm
        have HU := Lib.hid hu
        have HL := Lib.hid hl
        clear hm hu hl hul hne
        by_cases hy : y = 61
        · subst hy
          go_wp2_with fail
          have hsl : u.extract 0 m = u.extract 0 (u.size - 1) := by rw [HM.out]
          have hsz : (u.extract 0 m).size = m := by rw [ByteArray.size_extract]; have := HM.out; omega
          go_roundw
          case rel => exact ⟨q + 1, u.extract 0 m, by omega, by go_num, rfl, by rw [hsz]; have := HM.out; omega, by rw [hsl, cut_last, ← Six.strip1_some HL.out, HU.out]; rfl, trivial⟩
          case measure => simp [intOf]; omega
        · have hyi : ¬ (y.toNat : Int) = 61 := fun h => hy (UInt8.toNat_inj.1 (by show y.toNat = 61; omega))
          have HY := Lib.hid hy
          clear hy
          go_wp2_with fail
          go_roundw
          case rel => exact ⟨q + 1, u, by omega, by go_num, rfl, hus, by
            have e := Six.strip1_none (l := u.data.toList) (by rw [HL.out]; intro h; injection h with h; exact HY.out h)
            show _ = Six.strip1 (Six.itr q s.data.toList)
            rw [← HU.out, e], trivial⟩
          case measure => simp [intOf]; omega
      · have h0i : ¬ (0 : Int) < u.size := by omega
        have hu0 : u.data.toList = [] := List.eq_nil_of_length_eq_zero (by omega)
        have HU := Lib.hid hu
        have HU0 := Lib.hid hu0
        clear hu hu0 hul
        go_wp2_with fail
        go_roundw
        case rel => exact ⟨q + 1, u, by omega, by go_num, rfl, hus, by
          have e := Six.strip1_none (l := u.data.toList) (by rw [HU0.out]; simp)
          show _ = Six.strip1 (Six.itr q s.data.toList)
          rw [← HU.out, e], trivial⟩
        case measure => simp [intOf]; omega
    · obtain rfl : q = 2 := by omega
      have hr := HR.out
      have hul := unSix_len mailB.data.toList u.data.toList
      rw [← hu] at hr
      have HR2 := Lib.hid hr
      have HU := Lib.hid hul
      clear HR hr hul hu
      go_wp2_with fail
      refine (fromSixes_any u mailB _ mail_size hus h).mono ?_
      rintro e w1 ⟨rfl, h1⟩
      generalize unSix mailB.data.toList u.data.toList = v at *
      obtain ⟨t, ok⟩ := v
      cases ok with
      | false =>
        obtain rfl : R = none := HR2.out
        clear HR2 HU
        dsimp only
        go_wp2_with fail
        go_ret2
        exact ⟨rfl, h1⟩
      | true =>
        have htl : t.length ≤ u.data.toList.length := HU.out rfl
        have hsz : u.data.toList.length = u.size := rfl
        have hts : (⟨t.toArray⟩ : ByteArray).size = t.length := rfl
        have HR3 : Hid (R = if u.data.toList ++ Six.fill t.length = s.data.toList then some t else none) := HR2.out
        clear HR2 HU
        dsimp only
        go_wp2_with fail
        refine (filling_any t.length _).mono ?_
        rintro e w2 ⟨rfl, rfl⟩
        have hfs := fill_size t.length
        obtain ⟨f, hf⟩ : ∃ f : ByteArray, f = ⟨(Six.fill t.length).toArray⟩ := ⟨_, rfl⟩
        rw [← hf] at hfs ⊢
        have hcat : ¬ 9223372036854775807 < u.size + f.size := by omega
        have hdat : (u ++ f).data.toList = u.data.toList ++ Six.fill t.length := by rw [app_data, hf]
        clear hf hts htl hsz
        by_cases heq : u.data.toList ++ Six.fill t.length = s.data.toList
        · obtain rfl : R = some t := HR3.out.trans (if_pos heq)
          have hes : u ++ f = s := by rw [bytes_ext (u ++ f) _ hdat, heq]
          have hzs : ((u ++ f).toList == s.toList) = true := by rw [hes]; simp
          clear heq hdat hes HR3
          go_wp2_with fail
          go_ret2
          exact ⟨rfl, h1⟩
        · obtain rfl : R = none := HR3.out.trans (if_neg heq)
          have hzs : ((u ++ f).toList == s.toList) = false := str_ne (by rw [hdat]; exact heq)
          clear heq hdat HR3
          go_wp2_with fail
          go_ret2
          exact ⟨rfl, h1⟩
set_option maxRecDepth 20000 in
theorem reffromstandard_any (s : ByteArray) (w : World) (hs : s.size ≤ 10000000000000) (h : Own E w L) :
    Calls Tryd.prog 42 #[.string s] w fun e w' => e = .returned (readV (fromM s.data.toList)) ∧ Own E w' L := by
  rw [fromM_fromD]
  obtain ⟨R, hR⟩ : ∃ R, R = fromD s.data.toList := ⟨_, rfl⟩
  rw [← hR]
  unfold fromD at hR
  have hul : (Six.stripAll s.data.toList).length ≤ s.data.toList.length := by
    have : ∀ (n : Nat) (l : List UInt8), (Six.unf n l).length ≤ l.length := by
      intro n
      induction n with
      | zero => intro l; exact Nat.le_refl _
      | succ n ih =>
        intro l
        unfold Six.unf
        split
        · refine Nat.le_trans (ih _) ?_
          rw [List.length_dropLast]; omega
        · exact Nat.le_refl _
    exact this _ _
  obtain ⟨u, hu⟩ : ∃ u : ByteArray, u = ⟨(Six.stripAll s.data.toList).toArray⟩ := ⟨_, rfl⟩
  have hud : u.data.toList = Six.stripAll s.data.toList := by rw [hu]
  have hus : u.size ≤ 10000000000000 := by
    have e : u.size = (Six.stripAll s.data.toList).length := by rw [hu]; rfl
    have e2 : s.data.toList.length = s.size := rfl
    omega
  rw [← hud] at hR
  have HR := Lib.hid hR
  have HU := Lib.hid hu
  clear hR hu hul hud
  go_enter Tryd.func42, Tryd.ntmps42
  go_wp2_with fail
  refine (unfilled_any s _ hs).mono ?_
  rintro e w1 ⟨rfl, rfl⟩
  rw [← HU.out]
  go_wp2_with fail
  refine (refbytes_any u mailB _ mail_size hus h).mono ?_
  rintro e w1 ⟨rfl, h1⟩
  cases hd : Six.dec (pl mailB.data.toList) 0 0 u.data.toList with
  | none =>
    obtain rfl : R = none := by have := HR.out; rw [hd] at this; exact this
    dsimp only [Option.getD, Option.isSome]
    clear hd HR
    go_wp2_with fail
    go_ret2
    exact ⟨rfl, h1⟩
  | some t =>
    have hl := dec_len _ _ _ _ _ hd
    have hsl : u.data.toList.length = u.size := rfl
    have hr := HR.out
    rw [hd] at hr
    have HR2 := Lib.hid hr
    dsimp only [Option.getD, Option.isSome]
    clear hd HR hr
    go_wp2_with fail
    refine (refsigns_any ⟨t.toArray⟩ mailB true _ mail_size (by show t.length ≤ _; omega) h1).mono ?_
    rintro e w2 ⟨rfl, h2⟩
    rw [show (⟨t.toArray⟩ : ByteArray).data.toList = t from rfl]
    clear hl hsl
    by_cases heq : Six.grp (sgOf mailB) true t = s.data.toList
    · obtain rfl : R = some t := HR2.out.trans (if_pos heq)
      have hes : (⟨(Six.grp (sgOf mailB) true t).toArray⟩ : ByteArray) = s := by rw [heq]
      rw [hes]
      clear heq hes HR2
      go_wp2_with fail
      go_ret2
      exact ⟨rfl, h2⟩
    · obtain rfl : R = none := HR2.out.trans (if_neg heq)
      have hzs : ((⟨(Six.grp (sgOf mailB) true t).toArray⟩ : ByteArray).toList == s.toList) = false := str_ne heq
      generalize (⟨(Six.grp (sgOf mailB) true t).toArray⟩ : ByteArray) = z at *
      clear heq HR2
      go_wp2_with fail
      go_ret2
      exact ⟨rfl, h2⟩
end
end Go.Proofs.YtokephnlelpjhaaDoor
