/- latchkeyref02.place, bytes. -/
import Derived.Test.YtilcilbmbhbakaaDoorSixDec
namespace Go.Proofs.YtilcilbmbhbakaaDoor
open Go.RowKit
set_option maxHeartbeats 1000000 in
theorem refplace_any (s : ByteArray) (c : UInt8) (vc : Int) (hvc : vc = (c.toNat : Int)) (hs : s.size ≤ 1000000) (w : World) :
    Calls Tryd.prog 64 #[.string s, .int .u8 vc] w fun e w' => e = .returned (.int .i64 (plI s.data.toList c)) ∧ w = w' := by
  subst hvc
  have hsl : s.data.toList.length = s.size := rfl
  have HS := Lib.hid hsl
  clear hsl
  go_enter Tryd.func64, Tryd.ntmps64
  go_wp2_with fail
  go_loopw [5] (fun i wr => ∃ k : Nat, k ≤ s.size ∧ i = .int .i64 k ∧ (∀ j, (h : j < k) → (hl : j < s.data.toList.length) → s.data.toList[j] ≠ c) ∧ wr = w) (fun i _ => s.size - (intOf i).toNat)
  case atStart => exact ⟨0, by omega, rfl, fun j h => absurd h (by omega), rfl⟩
  case round =>
    obtain ⟨k, hk, rfl, hb, rfl⟩ := hrel
    by_cases hlt : k < s.size
    · have hkl : k < s.data.toList.length := hlt
      have hix := byte_index s (k : Int) k rfl hlt
      have hg : s.data.toList.getD k 0 = s.data.toList[k] := by rw [List.getD_eq_getElem?_getD, List.getElem?_eq_getElem hkl]; rfl
      rw [hg] at hix
      have HB := Lib.hid hb
      clear hb hg
      by_cases he : s.data.toList[k] = c
      · have hp : plI s.data.toList c = k := by unfold plI; rw [pl_some hkl he (fun i hi => HB.out i hi (by omega))]
        have HP := Lib.hid hp
        rw [he] at hix
        clear hp he hkl
        go_wp2_with fail
        go_ret
        exact ⟨ret_i64 (by rw [HP.out]), rfl⟩
      · have hne : ¬ ((s.data.toList[k]).toNat : Int) = (c.toNat : Int) := fun h => he (UInt8.toNat_inj.1 (by omega))
        have HE := Lib.hid (show ∀ hl : k < s.data.toList.length, s.data.toList[k]'hl ≠ c from fun _ => he)
        clear he
        generalize s.data.toList[k] = y at hix hne
        clear hkl
        go_wp2_with fail
        go_roundw
        case rel => exact ⟨k + 1, by omega, by go_num, fun j hj hl => by
          rcases Nat.lt_succ_iff_lt_or_eq.1 hj with h | h
          · exact HB.out j h hl
          · subst h; exact HE.out hl, trivial⟩
        case measure => simp [intOf]; omega
    · have hp : plI s.data.toList c = -1 := by unfold plI; rw [pl_none (fun i hi => hb i (by rw [HS.out] at hi; omega) hi)]
      have HP := Lib.hid hp
      clear hp hb
      go_wp2_with fail
      go_ret
      exact ⟨ret_i64 HP.out.symm, rfl⟩
set_option maxRecDepth 100000 in
set_option maxHeartbeats 2000000 in
theorem refbytes_any {E : World} {L : List Hp} (s signs : ByteArray) (w : World) (hsg : signs.size = 64) (hs : s.size ≤ 10000000000000) (h : Own E w L) :
    Calls Tryd.prog 42 #[.string s, .string signs] w fun e w' => e = .returned (.tuple #[.string ⟨((Six.dec (pl signs.data.toList) 0 0 s.data.toList).getD []).toArray⟩, .bool (Six.dec (pl signs.data.toList) 0 0 s.data.toList).isSome]) ∧ Own E w' L := by
  obtain ⟨R, hR⟩ : ∃ R, R = Six.dec (pl signs.data.toList) 0 0 s.data.toList := ⟨_, rfl⟩
  rw [← hR]
  have hsl : s.data.toList.length = s.size := rfl
  have hgl : signs.data.toList.length = 64 := hsg
  have hRl : ∀ t, R = some t → t.length ≤ s.size := fun t ht => by rw [← hsl]; exact dec_len _ _ _ _ _ (hR.symm.trans ht)
  have HRl := Lib.hid hRl
  have HS := Lib.hid hsl
  have HG := Lib.hid hgl
  have HR := Lib.hid hR
  have H1 := Lib.hid (h.nilRow U8 1)
  clear h hsl hR hgl hRl
  go_enter Tryd.func42, Tryd.ntmps42
  go_wp2_with fail
  go_loopw [6, 7, 8, 9] (fun v a b i wr => ∃ (k h m : Nat) (o : List UInt8), k ≤ s.size ∧ i = .int .i64 k ∧ a = .int .i64 h ∧ b = .int .i64 m ∧ m < 8 ∧ o.length ≤ k ∧ h < 2 ^ m ∧ (Six.dec (pl signs.data.toList) h m (s.data.toList.drop k)).map (o ++ ·) = R ∧ Own E wr (Hp.row U8 1 v o.length (o.map V8') :: L)) (fun _ _ _ i _ => s.size - (intOf i).toNat)
  case atStart => exact ⟨0, 0, 0, [], by omega, rfl, rfl, rfl, by omega, by simp, by omega, by rw [HR.out]; simp, H1.out⟩
  case round =>
    obtain ⟨k, h, m, o, hk, rfl, rfl, rfl, hm, hok, hh, ho, hw⟩ := hrel
    clear H1
    by_cases hlt : k < s.size
    · have hlk : k < s.data.toList.length := hlt
      have hix := byte_index s (k : Int) k rfl hlt
      rw [show s.data.toList.getD k 0 = s.data.toList[k] by rw [List.getD_eq_getElem?_getD, List.getElem?_eq_getElem hlk]; rfl] at hix
      rw [List.drop_eq_getElem_cons hlk] at ho
      have hh128 : h < 128 := Nat.lt_of_lt_of_le hh (Nat.le_trans (Nat.pow_le_pow_right (by omega) (show m ≤ 7 by omega)) (by omega))
      have HO := Lib.hid ho
      have HW := Lib.hid hw
      have HH := Lib.hid hh
      clear ho hw hh
      generalize s.data.toList[k] = c at *
      clear hlk
      have i1 : (0 : Int) ≤ (k : Int) := by omega
      have i2 : (k : Int) < s.size := by omega
      go_wp2_with fail
      refine (refplace_any signs c (c.toNat : Int) rfl (by omega) _).mono ?_
      rintro e w2 ⟨rfl, rfl⟩
      cases hpl : pl signs.data.toList c with
      | none =>
        have hpi : plI signs.data.toList c = -1 := by unfold plI; rw [hpl]
        have ho2 := HO.out
        rw [Six.dec_none hpl] at ho2
        have ho3 : R = none := ho2.symm
        subst ho3
        have HW2 := Lib.hid HW.out.drop
        rw [hpi]
        clear hpi hpl ho2 HO HW
        go_wp2_with fail
        go_ret2
        exact ⟨rfl, HW2.out⟩
      | some p =>
        have hpi : plI signs.data.toList c = p := by unfold plI; rw [hpl]
        have hp64 : p < 64 := by have := pl_lt hpl; rw [HG.out] at this; exact this
        rw [hpi]
        have hor : (64 : Int) * h + p = ((h * 64 + p : Nat) : Int) := by omega
        obtain ⟨H, hH⟩ : ∃ H, H = h * 64 + p := ⟨_, rfl⟩
        rw [← hH] at hor
        have hHb : H < 16384 := by omega
        have HHd := Lib.hid hH
        have HPL := Lib.hid hpl
        have hp0 : ¬ (p : Int) < 0 := by omega
        clear hpi hpl hH
        by_cases h8 : 8 ≤ m + 6
        · have h8i : (8 : Int) ≤ (m : Int) + 6 := by omega
          have e8 : m + 6 - 8 = m - 2 := by omega
          obtain ⟨y, hy⟩ : ∃ y, y = UInt8.ofNat (H / 2 ^ (m - 2)) := ⟨_, rfl⟩
          have hV : (H : Int) / 2 ^ (m - 2) % 256 = (y.toNat : Int) := by
            have e1 : (H : Int) / 2 ^ (m - 2) = ((H / 2 ^ (m - 2) : Nat) : Int) := by rw [Int.natCast_ediv, Int.natCast_pow]; rfl
            have e2 : y.toNat = H / 2 ^ (m - 2) % 2 ^ 8 := by rw [hy]; exact UInt8.toNat_ofNat'
            rw [e1, e2]
            omega
          have ho2 := HO.out
          rw [Six.dec_high HPL.out h8, ← HHd.out, e8, ← hy, Option.map_map] at ho2
          have ho3 : (Six.dec (pl signs.data.toList) (H % 2 ^ (m - 2)) (m - 2) (s.data.toList.drop (k + 1))).map ((o ++ [y]) ++ ·) = R := by
            rw [← ho2]
            congr 1
            funext z
            simp
          obtain ⟨v', w5, hap, h5⟩ := add_u8 ((H : Int) / 2 ^ (m - 2) % 256) y hV (by omega) HW.out
          have HO3 := Lib.hid ho3
          have H5 := Lib.hid h5
          have HK := Lib.hid (mask H (m - 2) (by omega) (by omega))
          clear ho2 ho3 h5 hV hy HO HW e8
          go_wp2_with (with_reducible refine at_slot (k := some 40) ?_; refine wpList_append_run (o := ⟨some 40, _, _, _, _, _⟩) hap rfl rfl rfl rfl ?_; clear hap)
          go_roundw
          case rel => exact ⟨k + 1, H % 2 ^ (m - 2), m - 2, o ++ [y], by omega, by go_num, by rw [HK.out], by go_num, by omega, by simp; omega, Nat.mod_lt _ (Nat.two_pow_pos _), HO3.out, by rw [List.length_append]; exact H5.out⟩
          case measure => simp [intOf]; omega
        · have h8i : ¬ (8 : Int) ≤ (m : Int) + 6 := by omega
          have hHm : H < 2 ^ (m + 6) := by
            have := HH.out
            have e1 := HHd.out
            rw [Nat.pow_add]
            omega
          have ho2 := HO.out
          rw [Six.dec_low HPL.out (by omega), ← HHd.out] at ho2
          have HO2 := Lib.hid ho2
          have HHm := Lib.hid hHm
          clear ho2 hHm HO
          go_wp2_with fail
          go_roundw
          case rel => exact ⟨k + 1, H, m + 6, o, by omega, by go_num, rfl, by go_num, by omega, by omega, HHm.out, HO2.out, HW.out⟩
          case measure => simp [intOf]; omega
    · obtain rfl : k = s.size := by omega
      rw [List.drop_of_length_le (by rw [HS.out]; omega)] at ho
      have hRo : R = some o := by rw [← ho]; simp [Six.dec]
      subst hRo
      have hst := hw.rowString (P := Tryd.prog) (src := BT) (dst := ST) (e := U8) (by kernel_rfl) (by kernel_rfl) (by kernel_rfl)
      have HW := Lib.hid hw.drop
      clear ho hw hh hlt
      go_wp2_with (with_reducible refine at_slot (k := some 47) ?_; refine wpList_conv_run (o := ⟨some 47, _, _, _, _, _⟩) hst rfl rfl rfl ?_; clear hst)
      go_ret2
      exact ⟨rfl, HW.out⟩
end Go.Proofs.YtilcilbmbhbakaaDoor
