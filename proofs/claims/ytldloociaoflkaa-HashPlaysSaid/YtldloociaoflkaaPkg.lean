/- hash.Sum, hash.padded, hash.MAC. -/
import Derived.Test.YtldloociaoflkaaSum
namespace Go.Proofs.Ytldloociaoflkaa
open Go.RowKit
abbrev ST : TypeId := 9
def joined (xs : List ByteArray) : List UInt8 := xs.flatMap fun s => s.data.toList
theorem joined_snoc (xs : List ByteArray) (k : Nat) (x : ByteArray) (h : xs[k]? = some x) : joined (xs.take (k + 1)) = joined (xs.take k) ++ x.data.toList := by
  unfold joined
  rw [List.take_add_one, h]
  simp
theorem joined_le (xs : List ByteArray) (k : Nat) : (joined (xs.take k)).length ≤ (joined xs).length := by
  have h := congrArg joined (List.take_append_drop k xs)
  have h2 : joined (xs.take k ++ xs.drop k) = joined (xs.take k) ++ joined (xs.drop k) := by unfold joined; rw [List.flatMap_append]
  rw [h2] at h
  have := congrArg List.length h
  rw [List.length_append] at this
  omega
set_option maxHeartbeats 1000000 in
theorem hsum_any {E : World} {S : Ph} {L : List Hp} (A : Option Addr) (n c : Nat) (xs : List ByteArray) (w : World) (hn : n ≤ maxLen) (hr : Rds S 1 enStr A n xs) (hl : (joined xs).length ≤ 1152921504606846975) (h : Own E w (Hp.ro S :: L)) :
    Calls Try.prog 16 #[.slice A n c] w fun e w' => e = .returned (.string ⟨(Sha.sum (joined xs)).toArray⟩) ∧ Own E w' (Hp.ro S :: L) := by
  unfold maxLen at hn
  have HL := Lib.hid hl
  clear hl
  go_enter Try.func16, Try.ntmps16
  go_wp2_with fail
  refine (new_any _ h).mono ?_
  rintro e w1 ⟨b, rfl, h1⟩
  go_wp2_with fail
  go_loopw [9] (fun i wr => ∃ k : Nat, k ≤ n ∧ i = .int .i64 k ∧ Own E wr (Hp.hasher b (joined (xs.take k)) :: Hp.ro S :: L)) (fun i _ => n - (intOf i).toNat)
  case atStart => exact ⟨0, by omega, rfl, h1⟩
  case round =>
    obtain ⟨k, hk, rfl, hw⟩ := hrel
    clear h1 h
    by_cases hlt : k < n
    · obtain ⟨x, g, off, hx, rfl, hc⟩ := hr.get1 hlt
      have c1 := hw.f1.rd (hc _ rfl)
      have ek := joined_snoc xs k x hx
      have hle := joined_le xs (k + 1)
      have hb : (joined (xs.take k)).length + x.size ≤ 9223372036854775807 := by
        rw [ek, List.length_append] at hle
        have e1 : x.data.toList.length = x.size := rfl
        have := HL.out
        omega
      have EK := Lib.hid ek
      have HW := Lib.hid hw
      have HB := Lib.hid hb
      clear ek hle hb hw hc hx hr
      go_wp2_with fail
      refine (write_any b _ x _ HB.out HW.out).mono ?_
      rintro e w2 ⟨rfl, h2⟩
      rw [← EK.out] at h2
      have H2 := Lib.hid h2
      clear h2 HW
      go_wp2_with fail
      go_roundw
      case rel => exact ⟨k + 1, by omega, by go_num, H2.out⟩
      case measure => simp [intOf]; omega
    · obtain rfl : k = n := by omega
      have e0 : xs.take k = xs := List.take_of_length_le (by have := hr.1; omega)
      rw [e0] at hw
      clear hlt e0 hr
      go_wp2_with fail
      refine (sum_any b _ _ HL.out hw).mono ?_
      rintro e w2 ⟨rfl, h2⟩
      go_wp2_with fail
      go_ret
      exact ⟨rfl, h2.drop⟩

theorem u8x (a b : UInt8) : bits .xor .u8 (a.toNat : Int) (b.toNat : Int) = ((a ^^^ b).toNat : Int) := by
  rw [u8_xor_nat _ _ a.toNat_lt b.toNat_lt, UInt8.toNat_xor]
def crossed (K : List UInt8) (x : UInt8) (k : Nat) : List UInt8 := (K.take k).map (· ^^^ x) ++ K.drop k
theorem crossed_len (K : List UInt8) (x : UInt8) (k : Nat) : (crossed K x k).length = K.length := by
  simp [crossed]; omega
theorem crossed_get (K : List UInt8) (x : UInt8) (k : Nat) (h : k < K.length) : ((crossed K x k).map V8).toArray[k]? = some (V8 K[k]) := by
  unfold crossed
  rw [List.drop_eq_getElem_cons h, List.map_append, List.map_cons]
  exact get_mid _ _ _ _ (by simp; omega)
theorem crossed_set (K : List UInt8) (x : UInt8) (k : Nat) (h : k < K.length) : ((crossed K x k).map V8).toArray.setIfInBounds k (V8 (K[k] ^^^ x)) = ((crossed K x (k + 1)).map V8).toArray := by
  unfold crossed
  rw [List.drop_eq_getElem_cons h, List.map_append, List.map_cons, set_mid _ _ _ _ _ (by simp; omega), List.take_add_one, List.getElem?_eq_getElem h]
  have e : (K.take k ++ [K[k]]).map (· ^^^ x) ++ K.drop (k + 1) = (K.take k).map (· ^^^ x) ++ (K[k] ^^^ x) :: K.drop (k + 1) := by
    rw [List.map_append, List.append_assoc]; rfl
  show _ = (((K.take k ++ [K[k]]).map (· ^^^ x) ++ K.drop (k + 1)).map V8).toArray
  rw [e, List.map_append, List.map_cons]
theorem crossed_all (K : List UInt8) (x : UInt8) (k : Nat) (h : K.length ≤ k) : crossed K x k = K.map (· ^^^ x) := by
  unfold crossed
  rw [List.take_of_length_le h, List.drop_eq_nil_of_le h, List.append_nil]
set_option maxHeartbeats 1000000 in
theorem padded_any {E : World} {L : List Hp} (s : ByteArray) (x : UInt8) (vx : Int) (hvx : vx = (x.toNat : Int)) (w : World) (hs : s.size ≤ 64) (h : Own E w L) :
    Calls Try.prog 38 #[.string s, .int .u8 vx] w fun e w' => e = .returned (.string ⟨(Sha.padded s.data.toList x).toArray⟩) ∧ Own E w' L := by
  subst hvx
  obtain ⟨w1, hmk0, -, -, h1⟩ := sl_make (P := Try.prog) (T := BT) (e := U8) (z := .int .u8 0) (bytes := 1) (by kernel_rfl) u8_info rfl .i64 .i64 64 64 (by omega) (by omega) (by unfold maxLen; omega) h
  have hmk : (Instr.makeSlice BT (.int .i64 64) (.int .i64 64)).run Try.prog w = .ok (.slice (some ⟨w.heap.size, 0, none⟩) 64 64) w1 := hmk0
  clear hmk0
  generalize w.heap.size = g at *
  obtain ⟨w2, hcp, h2⟩ := sl_copy_string (P := Try.prog) (dT := BT) (sT := ST) (ty := 3) (elem := U8) (by kernel_rfl) (by kernel_rfl) (off := 0) h1 64 64 s hs (by simp; omega)
  obtain ⟨K, hK⟩ : ∃ K, K = s.data.toList ++ List.replicate (64 - s.data.toList.length) (0 : UInt8) := ⟨_, rfl⟩
  have hsz : s.data.toList.length = s.size := rfl
  have hKl : K.length = 64 := by rw [hK, List.length_append, List.length_replicate, hsz]; omega
  have e1 : splice (List.replicate 64 (Value.int .u8 0)) 0 (Lib.byteCells s.data.toList) = (crossed K x 0).map V8 := by
    unfold splice crossed
    have e2 : (Lib.byteCells s.data.toList) = s.data.toList.map V8 := rfl
    rw [e2, hK, List.length_map, hsz, List.drop_replicate]
    simp
  rw [e1] at h2
  have hfin : Sha.padded s.data.toList x = crossed K x 64 := by
    rw [crossed_all K x 64 (by omega), hK]; rfl
  have HF := Lib.hid hfin
  have HK := Lib.hid hKl
  have H2 := Lib.hid h2
  clear hK hKl hsz e1 hfin h1 h2
  go_enter Try.func38, Try.ntmps38
  go_wp2_with (first | (refine wpList_make_run (o := ⟨some 7, _, _, _, _, _⟩) hmk rfl rfl rfl rfl ?_; clear hmk) | (refine wpList_copy_run (o := ⟨some 10, _, _, _, _, _⟩) hcp rfl rfl rfl rfl ?_; clear hcp))
  go_loopw [13] (fun i wr => ∃ k : Nat, k ≤ 64 ∧ i = .int .i64 k ∧ Own E wr (Hp.blk g U8 ((crossed K x k).map V8).toArray :: L)) (fun i _ => 64 - (intOf i).toNat)
  case atStart => exact ⟨0, by omega, rfl, H2.out⟩
  case round =>
    obtain ⟨k, hk, rfl, hw⟩ := hrel
    clear H2
    by_cases hlt : k < 64
    · have hlk : k < K.length := by rw [HK.out]; exact hlt
      have c1 := hw.cell k
      rw [crossed_get K x k hlk] at c1
      have f1 := hw.frozen k
      have h3 := hw.set k (V8 (K[k] ^^^ x))
      rw [crossed_set K x k hlk] at h3
      have H3 := Lib.hid h3
      have hx := u8x K[k] x
      clear h3 hw
      generalize K[k] = y at *
      generalize y ^^^ x = z at *
      have i1 : (0 : Int) ≤ (k : Int) := by omega
      have i2 : (k : Int) < 64 := by omega
      clear hlk h
      go_wp2_with fail
      go_roundw
      case rel => exact ⟨k + 1, by omega, by go_num, H3.out⟩
      case measure => simp [intOf]; omega
    · obtain rfl : k = 64 := by omega
      have h4 := hw.toRow 1 64 64 (by omega) (by unfold maxLen; omega) (by simp [crossed_len, HK.out])
      have e3 : ((crossed K x 64).map V8).toArray.toList.take (64 * 1) = (Sha.padded s.data.toList x).map V8' := by
        rw [HF.out]
        exact List.take_of_length_le (by simp [crossed_len, HK.out])
      rw [e3] at h4
      have hst := h4.rowString (P := Try.prog) (src := BT) (dst := ST) (e := U8) (by kernel_rfl) (by kernel_rfl) (by kernel_rfl)
      have HD := Lib.hid h4.drop
      clear h4 hw e3 h hlt
      go_wp2_with (refine wpList_conv_run (o := ⟨some 25, _, _, _, _, _⟩) hst rfl rfl rfl ?_; clear hst)
      go_ret
      exact ⟨rfl, HD.out⟩

theorem Rds.of_blk {b : Nat} {t : TypeId} {cs : Array Value} {fr : Nat × Nat} (xs : List ByteArray) (hc : cs = (xs.map Value.string).toArray) : Rds (Ph.one b (.cells cs t fr)) 1 enStr (some ⟨b, 0, none⟩) xs.length xs :=
  ⟨rfl, fun _ => rfl, fun k hk => ⟨b, 0, rfl, fun j v hv => by
    obtain rfl : j = 0 := by
      have := (List.getElem?_eq_some_iff.1 hv).1
      simp at this; omega
    have hv' : v = .string xs[k] := by simpa using hv.symm
    subst hv'
    simp [Ph.cell, Ph.one, hc, hk]⟩⟩
set_option maxHeartbeats 2000000 in
theorem mac_any {E : World} {S : Ph} {L : List Hp} (key : ByteArray) (A : Option Addr) (n c : Nat) (xs : List ByteArray) (w : World) (hn : n ≤ maxLen) (hr : Rds S 1 enStr A n xs) (hk : key.size ≤ 140737488355328) (hl : (joined xs).length ≤ 140737488355328) (h : Own E w (Hp.ro S :: L)) :
    Calls Try.prog 20 #[.string key, .slice A n c] w fun e w' => e = .returned (.string ⟨(Sha.mac key.data.toList (joined xs)).toArray⟩) ∧ Own E w' (Hp.ro S :: L) := by
  unfold maxLen at hn
  obtain ⟨K, hK⟩ : ∃ K : ByteArray, K = ⟨(Sha.key key.data.toList).toArray⟩ := ⟨_, rfl⟩
  have hK2 : K.data.toList = Sha.key key.data.toList := by rw [hK]
  have hKs : K.size ≤ 64 := by
    have e : K.size = (Sha.key key.data.toList).length := by rw [hK]; rfl
    rw [e]
    unfold Sha.key
    split
    · rw [Sha.sum_length]; omega
    · omega
  have HL := Lib.hid hl
  have hF : Sha.mac key.data.toList (joined xs) = Sha.sum (Sha.padded K.data.toList 92 ++ Sha.sum (Sha.padded K.data.toList 54 ++ joined xs)) := by rw [hK2]; rfl
  have HF := Lib.hid hF
  clear hl hK2 hF
  by_cases hlong : 64 < key.size
  · have hl1 : (joined [key]).length ≤ 1152921504606846975 := by
      have e : (joined [key]).length = key.size := by simp [joined]
      rw [e]; omega
    have hk3 : K = ⟨(Sha.sum (joined [key])).toArray⟩ := by
      rw [hK]
      unfold Sha.key
      rw [if_pos (show 64 < key.data.toList.length from hlong)]
      simp [joined]
    have HK := Lib.hid hk3
    have h1 := h.alloc (.cells #[.string key] ST)
    clear hk3 hK
    go_enter Try.func20, Try.ntmps20
    go_wp2_with fail
    refine (hsum_any _ 1 1 [key] _ (by unfold maxLen; omega) (Rds.of_blk [key] rfl) hl1 h1).mono ?_
    rintro e w1 ⟨rfl, h2⟩
    rw [← HK.out]
    have h3 := h2.drop
    clear h2 h1 h hl1 HK hlong hk
    go_wp2_with fail
    refine (new_any _ h3).mono ?_
    rintro e w2 ⟨b, rfl, h4⟩
    clear h3
    go_wp2_with fail
    refine (padded_any K 54 54 rfl _ hKs h4).mono ?_
    rintro e w3 ⟨rfl, h5⟩
    clear h4
    have hpl : ∀ x, (Sha.padded K.data.toList x).length = 64 := fun x => by
      have e : K.data.toList.length = K.size := rfl
      simp [Sha.padded]; omega
    have HP := Lib.hid hpl
    have hw1 : ([] : List UInt8).length + (⟨(Sha.padded K.data.toList 54).toArray⟩ : ByteArray).size ≤ 9223372036854775807 := by
      have e : (⟨(Sha.padded K.data.toList 54).toArray⟩ : ByteArray).size = 64 := HP.out 54
      rw [e]; simp
    clear hpl
    go_wp2_with fail
    refine (write_any b [] _ _ hw1 h5).mono ?_
    rintro e w4 ⟨rfl, h6⟩
    clear hw1 h5
    rw [List.nil_append] at h6
    have H6 : Hid (Own E w4 (Hp.hasher b (Sha.padded K.data.toList 54 ++ joined (xs.take 0)) :: Hp.ro S :: L)) := Lib.hid (by simpa [joined] using h6)
    clear h6
    go_wp2_with fail
    go_loopw [21] (fun i wr => ∃ k : Nat, k ≤ n ∧ i = .int .i64 k ∧ Own E wr (Hp.hasher b (Sha.padded K.data.toList 54 ++ joined (xs.take k)) :: Hp.ro S :: L)) (fun i _ => n - (intOf i).toNat)
    case atStart => exact ⟨0, by omega, rfl, H6.out⟩
    case round =>
      obtain ⟨k, hk, rfl, hw⟩ := hrel
      clear H6
      by_cases hlt : k < n
      · obtain ⟨x, g, off, hx, rfl, hc⟩ := hr.get1 hlt
        have c1 := hw.f1.rd (hc _ rfl)
        have ek := joined_snoc xs k x hx
        have hle := joined_le xs (k + 1)
        have hb : (Sha.padded K.data.toList 54 ++ joined (xs.take k)).length + x.size ≤ 9223372036854775807 := by
          rw [ek, List.length_append] at hle
          rw [List.length_append, HP.out]
          have e1 : x.data.toList.length = x.size := rfl
          have := HL.out
          omega
        have EK := Lib.hid ek
        have HW := Lib.hid hw
        have HB := Lib.hid hb
        clear ek hle hb hw hc hx hr
        go_wp2_with fail
        refine (write_any b _ x _ HB.out HW.out).mono ?_
        rintro e w5 ⟨rfl, h7⟩
        rw [List.append_assoc, ← EK.out] at h7
        have H7 := Lib.hid h7
        clear h7 HW
        go_wp2_with fail
        go_roundw
        case rel => exact ⟨k + 1, by omega, by go_num, H7.out⟩
        case measure => simp [intOf]; omega
      · obtain rfl : k = n := by omega
        have e0 : xs.take k = xs := List.take_of_length_le (by have := hr.1; omega)
        rw [e0] at hw
        clear hlt e0 hr
        go_wp2_with fail
        refine (padded_any K 92 92 rfl _ hKs hw).mono ?_
        rintro e w6 ⟨rfl, h8⟩
        clear hw
        have hb2 : (Sha.padded K.data.toList 54 ++ joined xs).length ≤ 1152921504606846975 := by
          rw [List.length_append, HP.out]
          have := HL.out
          omega
        go_wp2_with fail
        refine (sum_any b _ _ hb2 h8).mono ?_
        rintro e w7 ⟨rfl, h9⟩
        clear h8 hb2
        obtain ⟨p1, hp1⟩ : ∃ p : ByteArray, p = ⟨(Sha.padded K.data.toList 92).toArray⟩ := ⟨_, rfl⟩
        obtain ⟨p2, hp2⟩ : ∃ p : ByteArray, p = ⟨(Sha.sum (Sha.padded K.data.toList 54 ++ joined xs)).toArray⟩ := ⟨_, rfl⟩
        have hj : joined [p1, p2] = Sha.padded K.data.toList 92 ++ Sha.sum (Sha.padded K.data.toList 54 ++ joined xs) := by rw [hp1, hp2]; simp [joined]
        have hjl : (joined [p1, p2]).length ≤ 1152921504606846975 := by
          rw [hj, List.length_append, HP.out, Sha.sum_length]; omega
        rw [← hp1, ← hp2]
        have HJ := Lib.hid hj
        have HJL := Lib.hid hjl
        have h10 := h9.alloc (.cells #[.string p1, .string p2] ST)
        clear hp1 hp2 hj hjl h9
        go_wp2_with fail
        refine (hsum_any _ 2 2 [p1, p2] _ (by unfold maxLen; omega) (Rds.of_blk [p1, p2] rfl) HJL.out h10).mono ?_
        rintro e w8 ⟨rfl, h11⟩
        go_wp2_with fail
        go_ret
        exact ⟨by rw [HJ.out, HF.out]; rfl, h11.drop.drop⟩
  · have hk3 : K = key := by
      rw [hK]
      unfold Sha.key
      rw [if_neg (show ¬ 64 < key.data.toList.length from hlong)]
    obtain rfl := hk3
    have h3 := h
    clear hK h hk
    go_enter Try.func20, Try.ntmps20
    go_wp2_with fail
    refine (new_any _ h3).mono ?_
    rintro e w2 ⟨b, rfl, h4⟩
    clear h3
    go_wp2_with fail
    refine (padded_any K 54 54 rfl _ hKs h4).mono ?_
    rintro e w3 ⟨rfl, h5⟩
    clear h4
    have hpl : ∀ x, (Sha.padded K.data.toList x).length = 64 := fun x => by
      have e : K.data.toList.length = K.size := rfl
      simp [Sha.padded]; omega
    have HP := Lib.hid hpl
    have hw1 : ([] : List UInt8).length + (⟨(Sha.padded K.data.toList 54).toArray⟩ : ByteArray).size ≤ 9223372036854775807 := by
      have e : (⟨(Sha.padded K.data.toList 54).toArray⟩ : ByteArray).size = 64 := HP.out 54
      rw [e]; simp
    clear hpl
    go_wp2_with fail
    refine (write_any b [] _ _ hw1 h5).mono ?_
    rintro e w4 ⟨rfl, h6⟩
    clear hw1 h5
    rw [List.nil_append] at h6
    have H6 : Hid (Own E w4 (Hp.hasher b (Sha.padded K.data.toList 54 ++ joined (xs.take 0)) :: Hp.ro S :: L)) := Lib.hid (by simpa [joined] using h6)
    clear h6
    go_wp2_with fail
    go_loopw [21] (fun i wr => ∃ k : Nat, k ≤ n ∧ i = .int .i64 k ∧ Own E wr (Hp.hasher b (Sha.padded K.data.toList 54 ++ joined (xs.take k)) :: Hp.ro S :: L)) (fun i _ => n - (intOf i).toNat)
    case atStart => exact ⟨0, by omega, rfl, H6.out⟩
    case round =>
      obtain ⟨k, hk, rfl, hw⟩ := hrel
      clear H6
      by_cases hlt : k < n
      · obtain ⟨x, g, off, hx, rfl, hc⟩ := hr.get1 hlt
        have c1 := hw.f1.rd (hc _ rfl)
        have ek := joined_snoc xs k x hx
        have hle := joined_le xs (k + 1)
        have hb : (Sha.padded K.data.toList 54 ++ joined (xs.take k)).length + x.size ≤ 9223372036854775807 := by
          rw [ek, List.length_append] at hle
          rw [List.length_append, HP.out]
          have e1 : x.data.toList.length = x.size := rfl
          have := HL.out
          omega
        have EK := Lib.hid ek
        have HW := Lib.hid hw
        have HB := Lib.hid hb
        clear ek hle hb hw hc hx hr
        go_wp2_with fail
        refine (write_any b _ x _ HB.out HW.out).mono ?_
        rintro e w5 ⟨rfl, h7⟩
        rw [List.append_assoc, ← EK.out] at h7
        have H7 := Lib.hid h7
        clear h7 HW
        go_wp2_with fail
        go_roundw
        case rel => exact ⟨k + 1, by omega, by go_num, H7.out⟩
        case measure => simp [intOf]; omega
      · obtain rfl : k = n := by omega
        have e0 : xs.take k = xs := List.take_of_length_le (by have := hr.1; omega)
        rw [e0] at hw
        clear hlt e0 hr
        go_wp2_with fail
        refine (padded_any K 92 92 rfl _ hKs hw).mono ?_
        rintro e w6 ⟨rfl, h8⟩
        clear hw
        have hb2 : (Sha.padded K.data.toList 54 ++ joined xs).length ≤ 1152921504606846975 := by
          rw [List.length_append, HP.out]
          have := HL.out
          omega
        go_wp2_with fail
        refine (sum_any b _ _ hb2 h8).mono ?_
        rintro e w7 ⟨rfl, h9⟩
        clear h8 hb2
        obtain ⟨p1, hp1⟩ : ∃ p : ByteArray, p = ⟨(Sha.padded K.data.toList 92).toArray⟩ := ⟨_, rfl⟩
        obtain ⟨p2, hp2⟩ : ∃ p : ByteArray, p = ⟨(Sha.sum (Sha.padded K.data.toList 54 ++ joined xs)).toArray⟩ := ⟨_, rfl⟩
        have hj : joined [p1, p2] = Sha.padded K.data.toList 92 ++ Sha.sum (Sha.padded K.data.toList 54 ++ joined xs) := by rw [hp1, hp2]; simp [joined]
        have hjl : (joined [p1, p2]).length ≤ 1152921504606846975 := by
          rw [hj, List.length_append, HP.out, Sha.sum_length]; omega
        rw [← hp1, ← hp2]
        have HJ := Lib.hid hj
        have HJL := Lib.hid hjl
        have h10 := h9.alloc (.cells #[.string p1, .string p2] ST)
        clear hp1 hp2 hj hjl h9
        go_wp2_with fail
        refine (hsum_any _ 2 2 [p1, p2] _ (by unfold maxLen; omega) (Rds.of_blk [p1, p2] rfl) HJL.out h10).mono ?_
        rintro e w8 ⟨rfl, h11⟩
        go_wp2_with fail
        go_ret
        exact ⟨by rw [HJ.out, HF.out]; rfl, h11.drop.drop⟩
end Go.Proofs.Ytldloociaoflkaa
