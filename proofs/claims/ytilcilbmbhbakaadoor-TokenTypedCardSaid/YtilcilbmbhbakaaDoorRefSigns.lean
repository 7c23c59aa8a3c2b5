/- latchkeyref02.signs. -/
import Derived.Test.YtilcilbmbhbakaaDoorRefBytes
namespace Go.Proofs.YtilcilbmbhbakaaDoor
namespace Six
/-- So many bytes of a group, nought where there is none. -/
def v3 (l : List UInt8) : Nat → Nat
  | 0 => 0
  | q + 1 => v3 l q * 256 + (l.getD q 0).toNat
theorem v3_lt (l : List UInt8) : ∀ q, v3 l q < 256 ^ q
  | 0 => by simp [v3]
  | q + 1 => by
    have := v3_lt l q
    have h := (l.getD q 0).toNat_lt
    rw [Nat.pow_succ]
    simp only [v3]
    omega
def cs (sg : Nat → UInt8) (f : Bool) (N many q : Nat) : List UInt8 := if q ≤ many then [sg (N * 64 ^ q / 262144 % 64)] else if f then [eqs] else []
def rest (sg : Nat → UInt8) (f : Bool) (N many q : Nat) : List UInt8 := (List.range' q (4 - q)).flatMap (cs sg f N many)
theorem rest_step (sg : Nat → UInt8) (f : Bool) (N many q : Nat) (h : q < 4) : rest sg f N many q = cs sg f N many q ++ rest sg f N many (q + 1) := by
  unfold rest
  rw [show 4 - q = (4 - (q + 1)) + 1 by omega, List.range'_succ, List.flatMap_cons]
theorem rest_end (sg : Nat → UInt8) (f : Bool) (N many : Nat) : rest sg f N many 4 = [] := rfl
theorem grp_step (sg : Nat → UInt8) (f : Bool) (l : List UInt8) (h : l ≠ []) : grp sg f l = rest sg f (v3 l 3) (min 3 l.length) 0 ++ grp sg f (l.drop 3) := by
  match l, h with
  | [a], _ =>
    have e : v3 [a] 3 = a.toNat * 65536 := by simp [v3]; omega
    rw [e]
    cases f <;> simp [rest, cs, grp, List.range']
  | [a, b], _ =>
    have e : v3 [a, b] 3 = a.toNat * 65536 + b.toNat * 256 := by simp [v3]; omega
    rw [e]
    cases f <;> simp [rest, cs, grp, List.range']
  | a :: b :: c :: l, _ =>
    have e : v3 (a :: b :: c :: l) 3 = a.toNat * 65536 + b.toNat * 256 + c.toNat := by simp [v3]; omega
    rw [e]
    have e2 : min 3 (a :: b :: c :: l).length = 3 := by simp
    rw [e2]
    simp [rest, cs, grp, List.range']
end Six
open Go.RowKit
set_option maxRecDepth 100000 in
set_option maxHeartbeats 2000000 in
theorem refsigns_any {E : World} {L : List Hp} (s signs : ByteArray) (f : Bool) (w : World) (hsg : signs.size = 64) (hs : s.size ≤ 10000000000000) (h : Own E w L) :
    Calls Tryd.prog 43 #[.string s, .string signs, .bool f] w fun e w' => e = .returned (.string ⟨(Six.grp (sgOf signs) f s.data.toList).toArray⟩) ∧ Own E w' L := by
  obtain ⟨T, hT⟩ : ∃ T, T = Six.grp (sgOf signs) f s.data.toList := ⟨_, rfl⟩
  rw [← hT]
  have hsl : s.data.toList.length = s.size := rfl
  have hTl : T.length ≤ 45000000000000 := by
    rw [hT]
    cases f with
    | false => rw [← Six.enc_grp, Six.enc_len, hsl]; omega
    | true => rw [Six.grp_fill, List.length_append, Six.enc_len, Six.fill_len, hsl]; omega
  have HS := Lib.hid hsl
  have HT := Lib.hid hT
  have HTl := Lib.hid hTl
  have H1 := Lib.hid (h.nilRow U8 1)
  clear h hsl hT hTl
  go_enter Tryd.func43, Tryd.ntmps43
  go_wp2_with fail
  go_loopw [7, 8] (fun v i wr => ∃ (k : Nat) (o : List UInt8), k ≤ s.size + 2 ∧ i = .int .i64 k ∧ o ++ Six.grp (sgOf signs) f (s.data.toList.drop k) = T ∧ Own E wr (Hp.row U8 1 v o.length (o.map V8') :: L)) (fun _ i _ => s.size + 3 - (intOf i).toNat)
  case atStart => exact ⟨0, [], by omega, rfl, HT.out.symm, H1.out⟩
  case round =>
    obtain ⟨k, o, hk, rfl, ho, hw⟩ := hrel
    clear H1
    by_cases hlt : k < s.size
    · obtain ⟨l, hl⟩ : ∃ l, l = s.data.toList.drop k := ⟨_, rfl⟩
      have hll : l.length = s.size - k := by rw [hl, List.length_drop, HS.out]
      have hne : l ≠ [] := by intro h0; rw [h0] at hll; simp at hll; omega
      rw [← hl, Six.grp_step _ _ _ hne] at ho
      have hld : l.drop 3 = s.data.toList.drop (k + 3) := by rw [hl, List.drop_drop]
      rw [hld] at ho
      have hget : ∀ q, k + q < s.size → l.getD q 0 = s.data.toList.getD (k + q) 0 := fun q hq => by
        rw [hl, List.getD_eq_getElem?_getD, List.getD_eq_getElem?_getD, List.getElem?_drop]
      have hnone : ∀ q, ¬ k + q < s.size → l.getD q 0 = 0 := fun q hq => by
        rw [List.getD_eq_getElem?_getD, List.getElem?_eq_none (by omega)]; rfl
      have HGt := Lib.hid hget
      have HNo := Lib.hid hnone
      have HLl := Lib.hid hll
      have HO := Lib.hid ho
      have HW := Lib.hid hw
      clear ho hw hll hl hld hget hnone hne
      go_wp2_with fail
      go_loopw [9, 10, 11] (fun a b i wq => ∃ q : Nat, q ≤ 3 ∧ a = .int .i64 (Six.v3 l q : Nat) ∧ b = .int .i64 (min q l.length : Nat) ∧ i = .int .i64 ((k + q : Nat) : Int) ∧ wq = wr) (fun _ _ i _ => k + 3 - (intOf i).toNat)
      case atStart => exact ⟨0, by omega, rfl, by simp, rfl, rfl⟩
      case round =>
        obtain ⟨q, hq, rfl, rfl, rfl, rfl⟩ := hrel
        have hv := Six.v3_lt l q
        by_cases hq3 : q < 3
        · have hv2 : Six.v3 l q < 65536 := Nat.lt_of_lt_of_le hv (Nat.le_trans (Nat.pow_le_pow_right (by omega) (show q ≤ 2 by omega)) (by omega))
          have hvs : Six.v3 l (q + 1) = Six.v3 l q * 256 + (l.getD q 0).toNat := rfl
          obtain ⟨m, hm⟩ : ∃ m, m = k + q := ⟨_, rfl⟩
          rw [← hm]
          have hmk : (m : Int) < (k : Int) + 3 := by omega
          have HM := Lib.hid hm
          by_cases hms : m < s.size
          · have hix := byte_index s (m : Int) m rfl hms
            rw [hm, ← HGt.out q (by omega), ← hm] at hix
            have hmin : min (q + 1) l.length = min q l.length + 1 := by rw [HLl.out]; omega
            have HMn := Lib.hid hmin
            have HV := Lib.hid hvs
            have hb3 : min q l.length ≤ 3 := by omega
            generalize Six.v3 l q = a at *
            generalize l.getD q 0 = y at *
            generalize min q l.length = b at *
            have hy := y.toNat_lt
            have i0 : (0 : Int) ≤ (m : Int) := by omega
            have i1 : (m : Int) < s.size := by omega
            clear hmin hvs hm hv
            go_wp2_with fail
            go_roundw
            case rel => exact ⟨q + 1, by omega, by rw [HV.out]; go_num, by rw [HMn.out]; go_num, by have := HM.out; go_num, trivial⟩
            case measure => have := HM.out; simp [intOf]; omega
          · have hy0 := HNo.out q (by omega)
            rw [hy0] at hvs
            have hvs2 : Six.v3 l (q + 1) = Six.v3 l q * 256 := hvs
            have hmin : min (q + 1) l.length = min q l.length := by rw [HLl.out]; omega
            have HMn := Lib.hid hmin
            have HV := Lib.hid hvs2
            have hb3 : min q l.length ≤ 3 := by omega
            generalize Six.v3 l q = a at *
            generalize min q l.length = b at *
            have i1 : ¬ (m : Int) < s.size := by omega
            clear hmin hvs hvs2 hm hv hy0
            go_wp2_with fail
            go_roundw
            case rel => exact ⟨q + 1, by omega, by rw [HV.out]; go_num, by rw [HMn.out], by have := HM.out; go_num, trivial⟩
            case measure => have := HM.out; simp [intOf]; omega
        · obtain rfl : q = 3 := by omega
          have hb3 : min 3 l.length ≤ 3 := by omega
          obtain ⟨N, hN⟩ : ∃ N, N = Six.v3 l 3 := ⟨_, rfl⟩
          obtain ⟨b, hbm⟩ : ∃ b, b = min 3 l.length := ⟨_, rfl⟩
          have ho := HO.out
          rw [← hN, ← hbm] at ho
          rw [← hN] at hv
          rw [← hbm] at hb3
          rw [← hN, ← hbm]
          have HO2 := Lib.hid ho
          have HN := Lib.hid (show N < 16777216 from hv)
          have hk3 : ((k + 3 : Nat) : Int) = (k : Int) + 3 := by omega
          rw [hk3]
          have hkk : ¬ (k : Int) + 3 < (k : Int) + 3 := by omega
          clear ho hv hN hbm HO hk3
          go_wp2_with fail
          go_loopw [7, 9, 12] (fun v a i wq => ∃ (r : Nat) (o : List UInt8), r ≤ 4 ∧ a = .int .i64 (N * 64 ^ r : Nat) ∧ i = .int .i64 r ∧ o ++ (Six.rest (sgOf signs) f N b r ++ Six.grp (sgOf signs) f (s.data.toList.drop (k + 3))) = T ∧ Own E wq (Hp.row U8 1 v o.length (o.map V8') :: L)) (fun _ _ i _ => 4 - (intOf i).toNat)
          case atStart => exact ⟨0, o, by omega, by simp, rfl, HO2.out, HW.out⟩
          case round =>
            obtain ⟨r, o, hr, rfl, rfl, ho, hw⟩ := hrel
            clear HW HO2
            by_cases hr4 : r < 4
            · rw [Six.rest_step _ _ _ _ _ hr4] at ho
              unfold Six.cs at ho
              have h1 : (64 : Nat) ^ r ≤ 64 ^ 3 := Nat.pow_le_pow_right (by omega) (by omega)
              have h2 : N * 64 ^ r ≤ 16777216 * 64 ^ 3 := Nat.mul_le_mul (Nat.le_of_lt HN.out) h1
              have h3 : N * 64 ^ (r + 1) = N * 64 ^ r * 64 := by rw [Nat.pow_succ, Nat.mul_assoc]
              generalize N * 64 ^ r = M at *
              have hM : M ≤ 4398046511104 := h2
              obtain ⟨x, hx⟩ : ∃ x, x = M / 262144 % 64 := ⟨_, rfl⟩
              have hx64 : x < 64 := by omega
              have hxi : (M : Int) / 262144 % 64 = (x : Int) := by omega
              have hix := byte_index signs (x : Int) x rfl (by omega)
              rw [← hx] at ho
              have H3 := Lib.hid h3
              have HO := Lib.hid ho
              have HW := Lib.hid hw
              have x0 : (0 : Int) ≤ (x : Int) := by omega
              have x1 : (x : Int) < 64 := by omega
              clear h1 h2 h3 ho hw hx
              by_cases hrb : r ≤ b
              · have hrbi : (r : Int) ≤ b := by omega
                have ho2 := HO.out
                rw [if_pos hrb] at ho2
                generalize hy : signs.data.toList.getD x 0 = y at *
                have ho3 : (o ++ [y]) ++ (Six.rest (sgOf signs) f N b (r + 1) ++ Six.grp (sgOf signs) f (s.data.toList.drop (k + 3))) = T := by rw [← hy, ← ho2]; simp
                have hol : o.length + 1 ≤ 140737488355328 := by
                  have e := congrArg List.length ho3
                  rw [List.length_append, List.length_append, List.length_singleton] at e
                  have := HTl.out
                  omega
                obtain ⟨v', w5, hap, h5⟩ := add_u8 (y.toNat : Int) y rfl hol HW.out
                have H5 := Lib.hid h5
                have HO3 := Lib.hid ho3
                clear ho2 ho3 hol h5 HO HW hy
                go_wp2_with (with_reducible refine at_slot (k := some 58) ?_; refine wpList_append_run (o := ⟨some 58, _, _, _, _, _⟩) hap rfl rfl rfl rfl ?_; clear hap)
                go_roundw
                case rel => exact ⟨r + 1, o ++ [y], by omega, by rw [H3.out]; go_num, by go_num, HO3.out, by rw [List.length_append]; exact H5.out⟩
                case measure => simp [intOf]; omega
              · have hrbi : ¬ (r : Int) ≤ b := by omega
                have ho2 := HO.out
                rw [if_neg hrb] at ho2
                cases f with
                | true =>
                  have ho3 : (o ++ [Six.eqs]) ++ (Six.rest (sgOf signs) true N b (r + 1) ++ Six.grp (sgOf signs) true (s.data.toList.drop (k + 3))) = T := by rw [← ho2]; simp
                  have hol : o.length + 1 ≤ 140737488355328 := by
                    have e := congrArg List.length ho3
                    rw [List.length_append, List.length_append, List.length_singleton] at e
                    have := HTl.out
                    omega
                  obtain ⟨v', w5, hap, h5⟩ := add_u8 61 Six.eqs rfl hol HW.out
                  have H5 := Lib.hid h5
                  have HO3 := Lib.hid ho3
                  clear ho2 ho3 hol h5 HO HW
                  go_wp2_with (with_reducible refine at_slot (k := some 62) ?_; refine wpList_append_run (o := ⟨some 62, _, _, _, _, _⟩) hap rfl rfl rfl rfl ?_; clear hap)
                  go_roundw
                  case rel => exact ⟨r + 1, o ++ [Six.eqs], by omega, by rw [H3.out]; go_num, by go_num, HO3.out, by rw [List.length_append]; exact H5.out⟩
                  case measure => simp [intOf]; omega
                | false =>
                  have ho3 : o ++ (Six.rest (sgOf signs) false N b (r + 1) ++ Six.grp (sgOf signs) false (s.data.toList.drop (k + 3))) = T := by rw [← ho2]; simp
                  have HO3 := Lib.hid ho3
                  clear ho2 ho3 HO
                  go_wp2_with fail
                  go_roundw
                  case rel => exact ⟨r + 1, o, by omega, by rw [H3.out]; go_num, by go_num, HO3.out, HW.out⟩
                  case measure => simp [intOf]; omega
            · obtain rfl : r = 4 := by omega
              rw [Six.rest_end, List.nil_append] at ho
              have HO := Lib.hid ho
              have HW := Lib.hid hw
              clear ho hw
              go_wp2_with fail
              first
                | refine ⟨⟨k + 3, o, by omega, by go_num, HO.out, HW.out⟩, by simp [intOf]; omega⟩
                | (go_roundw
                   case rel => exact ⟨k + 3, o, by omega, by go_num, HO.out, HW.out⟩
                   case measure => simp [intOf]; omega)
    · rw [List.drop_of_length_le (by rw [HS.out]; omega)] at ho
      have hoT : o = T := by rw [← ho]; simp [Six.grp]
      subst hoT
      have hst := hw.rowString (P := Tryd.prog) (src := BT) (dst := ST) (e := U8) (by kernel_rfl) (by kernel_rfl) (by kernel_rfl)
      have HW := Lib.hid hw.drop
      clear ho hw
      have i1 : ¬ (k : Int) < s.size := by omega
      go_wp2_with (with_reducible refine at_slot (k := some 64) ?_; refine wpList_conv_run (o := ⟨some 64, _, _, _, _, _⟩) hst rfl rfl rfl ?_; clear hst)
      go_ret
      exact ⟨rfl, HW.out⟩
end Go.Proofs.YtilcilbmbhbakaaDoor
