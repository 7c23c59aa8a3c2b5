/- codec.fromSixes. -/
import Derived.Test.YtilcilbmbhbakaaDoorSixEnc
namespace Go.Proofs.YtilcilbmbhbakaaDoor
open Go.RowKit
theorem pl_lt {s : List UInt8} {c : UInt8} {k : Nat} (h : pl s c = some k) : k < s.length := by
  unfold pl at h
  exact (List.findIdx?_eq_some_iff_getElem.1 h).1
theorem six_or (h c : Nat) (hc : c < 64) (hh : h < 16777216) : bits .or .i64 ((h : Int) * 64) (c : Int) = ((h * 64 + c : Nat) : Int) := by
  rw [show (h : Int) * 64 = ((h * 64 : Nat) : Int) by omega]
  rw [i64_or_nat _ _ (by omega) (by omega)]
  have := Nat.shiftLeft_add_eq_or_of_lt (b := c) (i := 6) (by omega) h
  rw [Nat.shiftLeft_eq] at this
  rw [← this]
/-- What fromSixes says. -/
def unSixOf (signs s : List UInt8) : Option (List UInt8) → List UInt8 × Bool
  | none => ([], false)
  | some t => (t, Six.enc (fun k => signs.getD k 0) 0 0 t == s)
def unSix (signs s : List UInt8) : List UInt8 × Bool := unSixOf signs s (Six.dec (pl signs) 0 0 s)
theorem dec_len (p : UInt8 → Option Nat) : ∀ (l : List UInt8) (h n : Nat) (t : List UInt8), Six.dec p h n l = some t → t.length ≤ l.length
  | [], _, _, t, e => by simp [Six.dec] at e; subst e; simp
  | c :: l, h, n, t, e => by
    simp only [Six.dec] at e
    split at e
    · cases e
    · split at e
      · obtain ⟨t', h1, h2⟩ := Option.map_eq_some_iff.1 e
        have := dec_len p l _ _ _ h1
        subst h2
        simp only [List.length_cons]; omega
      · have := dec_len p l _ _ _ e
        simp only [List.length_cons]; omega
set_option maxRecDepth 100000 in
set_option maxHeartbeats 2000000 in
theorem fromSixes_any {E : World} {L : List Hp} (s signs : ByteArray) (w : World) (hsg : signs.size = 64) (hs : s.size ≤ 10000000000000) (h : Own E w L) :
    Calls Tryd.prog 60 #[.string s, .string signs] w fun e w' => e = .returned (.tuple #[.string ⟨(unSix signs.data.toList s.data.toList).1.toArray⟩, .bool (unSix signs.data.toList s.data.toList).2]) ∧ Own E w' L := by
  obtain ⟨cap, w1, hcv, h1⟩ := sl_to_bytes (P := Tryd.prog) (src := ST) (dst := BT) (e := U8) (by kernel_rfl) (by kernel_rfl) (by kernel_rfl) s (by unfold maxLen; omega) h
  generalize w.heap.size = g at *
  obtain ⟨R, hR⟩ : ∃ R, R = Six.dec (pl signs.data.toList) 0 0 s.data.toList := ⟨_, rfl⟩
  have hU : unSix signs.data.toList s.data.toList = unSixOf signs.data.toList s.data.toList R := by rw [hR]; rfl
  rw [hU]
  have hsl : s.data.toList.length = s.size := rfl
  have hgl : signs.data.toList.length = 64 := hsg
  have hRl : ∀ t, R = some t → t.length ≤ s.size := fun t ht => by rw [← hsl]; exact dec_len _ _ _ _ _ (hR.symm.trans ht)
  have HRl := Lib.hid hRl
  have HS := Lib.hid hsl
  have HG := Lib.hid hgl
  have HR := Lib.hid hR
  have H1 := Lib.hid (h1.nilRow U8 1)
  clear h1 h hsl hR hgl hRl hU
  go_enter Tryd.func60, Tryd.ntmps60
  go_wp2_with (with_reducible refine at_slot (k := some 14) ?_; refine wpList_conv_run (o := ⟨some 14, _, _, _, _, _⟩) hcv rfl rfl rfl ?_; clear hcv)
  go_loopw [6, 7, 8, 16] (fun v a b i wr => ∃ (k h m : Nat) (o : List UInt8), k ≤ s.size ∧ i = .int .i64 k ∧ a = .int .i64 h ∧ b = .int .i64 m ∧ m < 8 ∧ o.length ≤ k ∧ h < 2 ^ m ∧ (Six.dec (pl signs.data.toList) h m (s.data.toList.drop k)).map (o ++ ·) = R ∧ Own E wr (Hp.row U8 1 v o.length (o.map V8') :: Hp.row U8 1 (.slice (some ⟨g, 0, none⟩) s.size cap) s.size (s.data.toList.map V8') :: L)) (fun _ _ _ i _ => s.size - (intOf i).toNat)
  case atStart => exact ⟨0, 0, 0, [], by omega, rfl, rfl, rfl, by omega, by simp, by omega, by rw [HR.out]; simp, H1.out⟩
  case round =>
    obtain ⟨k, h, m, o, hk, rfl, rfl, rfl, hm, hok, hh, ho, hw⟩ := hrel
    clear H1
    by_cases hlt : k < s.size
    · have hlk : k < s.data.toList.length := hlt
      obtain ⟨g', hg, c1, _⟩ := hw.f1.rowCells k (V8' s.data.toList[k]) (by rw [List.getElem?_map, List.getElem?_eq_getElem hlk]; rfl)
      injection hg with hg
      injection hg with hg
      subst hg
      rw [List.drop_eq_getElem_cons hlk] at ho
      have hh128 : h < 128 := Nat.lt_of_lt_of_le hh (Nat.le_trans (Nat.pow_le_pow_right (by omega) (show m ≤ 7 by omega)) (by omega))
      have HO := Lib.hid ho
      have HW := Lib.hid hw
      have HH := Lib.hid hh
      clear ho hw hh
      generalize s.data.toList[k] = c at *
      clear hlk
      have i1 : (0 : Int) ≤ (k : Int) := by omega
      have i2 : (k : Int) < s.size := by omega
      go_wp2_with fail
      refine (place_any signs c (c.toNat : Int) rfl (by omega) _).mono ?_
      rintro e w2 ⟨rfl, rfl⟩
      cases hpl : pl signs.data.toList c with
      | none =>
        have hpi : plI signs.data.toList c = -1 := by unfold plI; rw [hpl]
        have ho2 := HO.out
        rw [Six.dec_none hpl] at ho2
        have ho3 : R = none := ho2.symm
        subst ho3
        have HW2 := Lib.hid HW.out.drop.drop
        rw [hpi]
        clear hpi hpl ho2 HO HW
        go_wp2_with fail
        go_ret2
        exact ⟨rfl, HW2.out⟩
      | some p =>
        have hpi : plI signs.data.toList c = p := by unfold plI; rw [hpl]
        have hp64 : p < 64 := by have := pl_lt hpl; rw [HG.out] at this; exact this
        rw [hpi]
        have hor := six_or h p hp64 (by omega)
        obtain ⟨H, hH⟩ : ∃ H, H = h * 64 + p := ⟨_, rfl⟩
        rw [← hH] at hor
        have hHb : H < 16384 := by omega
        have HHd := Lib.hid hH
        have HPL := Lib.hid hpl
        have hp0 : ¬ (p : Int) < 0 := by omega
        clear hpi hpl hH
        by_cases h8 : 8 ≤ m + 6
        · have h8i : (8 : Int) ≤ (m : Int) + 6 := by omega
          have e8 : m + 6 - 8 = m - 2 := by omega
          obtain ⟨y, hy⟩ : ∃ y, y = UInt8.ofNat (H / 2 ^ (m - 2)) := ⟨_, rfl⟩
          have hV : (H : Int) / 2 ^ (m - 2) % 256 = (y.toNat : Int) := by
            have e1 : (H : Int) / 2 ^ (m - 2) = ((H / 2 ^ (m - 2) : Nat) : Int) := by rw [Int.natCast_ediv, Int.natCast_pow]; rfl
            have e2 : y.toNat = H / 2 ^ (m - 2) % 2 ^ 8 := by rw [hy]; exact UInt8.toNat_ofNat'
            rw [e1, e2]
            omega
          have ho2 := HO.out
          rw [Six.dec_high HPL.out h8, ← HHd.out, e8, ← hy, Option.map_map] at ho2
          have ho3 : (Six.dec (pl signs.data.toList) (H % 2 ^ (m - 2)) (m - 2) (s.data.toList.drop (k + 1))).map ((o ++ [y]) ++ ·) = R := by
            rw [← ho2]
            congr 1
            funext z
            simp
          obtain ⟨v', w5, hap, h5⟩ := add_u8 ((H : Int) / 2 ^ (m - 2) % 256) y hV (by omega) HW.out
          have HO3 := Lib.hid ho3
          have H5 := Lib.hid h5
          have HK := Lib.hid (mask H (m - 2) (by omega) (by omega))
          clear ho2 ho3 h5 hV hy HO HW e8
          go_wp2_with (with_reducible refine at_slot (k := some 41) ?_; refine wpList_append_run (o := ⟨some 41, _, _, _, _, _⟩) hap rfl rfl rfl rfl ?_; clear hap)
          go_roundw
          case rel => exact ⟨k + 1, H % 2 ^ (m - 2), m - 2, o ++ [y], by omega, by go_num, by rw [HK.out], by go_num, by omega, by simp; omega, Nat.mod_lt _ (Nat.two_pow_pos _), HO3.out, by rw [List.length_append]; exact H5.out⟩
          case measure => simp [intOf]; omega
        · have h8i : ¬ (8 : Int) ≤ (m : Int) + 6 := by omega
          have HK := Lib.hid (mask H (m + 6) (by omega) (by omega))
          have hHm : H < 2 ^ (m + 6) := by
            have := HH.out
            have e1 := HHd.out
            rw [Nat.pow_add]
            omega
          have ho2 := HO.out
          rw [Six.dec_low HPL.out (by omega), ← HHd.out] at ho2
          have HO2 := Lib.hid ho2
          have HHm := Lib.hid hHm
          clear ho2 hHm HO
          go_wp2_with fail
          go_roundw
          case rel => exact ⟨k + 1, H, m + 6, o, by omega, by go_num, by rw [HK.out, Nat.mod_eq_of_lt HHm.out], by go_num, by omega, by omega, HHm.out, HO2.out, HW.out⟩
          case measure => simp [intOf]; omega
    · obtain rfl : k = s.size := by omega
      rw [List.drop_of_length_le (by rw [HS.out]; omega)] at ho
      have hRo : R = some o := by rw [← ho]; simp [Six.dec]
      subst hRo
      have hst := hw.rowString (P := Tryd.prog) (src := BT) (dst := ST) (e := U8) (by kernel_rfl) (by kernel_rfl) (by kernel_rfl)
      have HW := Lib.hid hw.drop.drop
      clear ho hw hh hlt
      go_wp2_with (with_reducible refine at_slot (k := some 49) ?_; refine wpList_conv_run (o := ⟨some 49, _, _, _, _, _⟩) hst rfl rfl rfl ?_; clear hst)
      refine (sixes_any ⟨o.toArray⟩ signs _ hsg (by show o.length ≤ _; omega) HW.out).mono ?_
      rintro e w2 ⟨rfl, h2⟩
      have HW2 := Lib.hid h2
      clear h2 HW
      rw [show (⟨o.toArray⟩ : ByteArray).data.toList = o from rfl]
      by_cases heq : Six.enc (sgOf signs) 0 0 o = s.data.toList
      · have hes : (⟨(Six.enc (sgOf signs) 0 0 o).toArray⟩ : ByteArray) = s := by rw [heq]
        have hb : (Six.enc (sgOf signs) 0 0 o == s.data.toList) = true := by rw [heq]; simp
        have hu : unSixOf signs.data.toList s.data.toList (some o) = (o, true) := by rw [← hb]; rfl
        have HU := Lib.hid hu
        rw [hes]
        clear hes hb hu heq
        go_wp2_with fail
        go_ret2
        rw [HU.out]
        exact ⟨rfl, HW2.out⟩
      · have hes : ¬ (⟨(Six.enc (sgOf signs) 0 0 o).toArray⟩ : ByteArray) = s := fun h => heq (by rw [← h])
        have hb : (Six.enc (sgOf signs) 0 0 o == s.data.toList) = false := by simpa using heq
        have hu : unSixOf signs.data.toList s.data.toList (some o) = (o, false) := by rw [← hb]; rfl
        have HU := Lib.hid hu
        have hzs : ((⟨(Six.enc (sgOf signs) 0 0 o).toArray⟩ : ByteArray).toList == s.toList) = false := by
          rw [ByteArray.toList_eq, ByteArray.toList_eq, beq_eq_false_iff_ne]; exact heq
        generalize (⟨(Six.enc (sgOf signs) 0 0 o).toArray⟩ : ByteArray) = z at *
        clear hb hu heq
        go_wp2_with fail
        go_ret2
        rw [HU.out]
        exact ⟨rfl, HW2.out⟩
end Go.Proofs.YtilcilbmbhbakaaDoor
