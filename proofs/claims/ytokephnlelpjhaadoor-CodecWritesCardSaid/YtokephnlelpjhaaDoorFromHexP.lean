/- codec.FromHex. -/
import Derived.Test.YtokephnlelpjhaaDoorFromHex
namespace Go.Proofs.YtokephnlelpjhaaDoor
open Go.RowKit
theorem four_or (h c : Nat) (hc : c < 16) (hh : h < 16777216) : bits .or .i64 ((h : Int) * 16) (c : Int) = ((h * 16 + c : Nat) : Int) := by
  rw [show (h : Int) * 16 = ((h * 16 : Nat) : Int) by omega]
  rw [i64_or_nat _ _ (by omega) (by omega)]
  have := Nat.shiftLeft_add_eq_or_of_lt (b := c) (i := 4) (by omega) h
  rw [Nat.shiftLeft_eq] at this
  rw [← this]
section
variable {E : World} {L : List Hp}
set_option maxRecDepth 20000 in
set_option maxHeartbeats 1000000 in
theorem fromhex_any (s : ByteArray) (w : World) (hs : s.size ≤ 10000000000000) (h : Own E w L) :
    Calls Tryd.prog 43 #[.string s] w fun e w' => e = .returned (readV (unhexL s.data.toList)) ∧ Own E w' L := by
  obtain ⟨R, hR⟩ : ∃ R, R = unhexL s.data.toList := ⟨_, rfl⟩
  rw [← hR]
  have hsl : s.data.toList.length = s.size := rfl
  rcases (by omega : s.size % 2 = 1 ∨ s.size % 2 = 0) with hp | hp
  · obtain rfl : R = none := by rw [hR]; exact unhex_odd _ (by rw [hsl]; exact hp)
    have hpi : (s.size : Int) % 2 = 1 := by omega
    clear hR hsl
    go_enter Tryd.func43, Tryd.ntmps43
    go_wp2_with fail
    go_ret2
    exact ⟨rfl, h⟩
  have hpi : (s.size : Int) % 2 = 0 := by omega
  have HR := Lib.hid hR
  have HS := Lib.hid hsl
  have H1 := Lib.hid (h.nilRow U8 1)
  clear hR hsl h
  go_enter Tryd.func43, Tryd.ntmps43
  go_wp2_with fail
  go_loopw [4, 5] (fun v i wr => ∃ (q : Nat) (o : List UInt8), 2 * q ≤ s.size ∧ i = .int .i64 ((2 * q : Nat) : Int) ∧ o.length ≤ q ∧ (unhexL (s.data.toList.drop (2 * q))).map (o ++ ·) = R ∧ Own E wr (Hp.row U8 1 v o.length (o.map V8') :: L)) (fun _ i _ => s.size - (intOf i).toNat)
  case atStart => exact ⟨0, [], by omega, rfl, by simp, by rw [HR.out]; simp, H1.out⟩
  case round =>
    obtain ⟨q, o, hq, rfl, hol, ho, hw⟩ := hrel
    clear H1 hpi
    obtain ⟨k, hk⟩ : ∃ k, k = 2 * q := ⟨_, rfl⟩
    rw [← hk] at ho hq ⊢
    by_cases hlt : k < s.size
    · have hlk : k < s.data.toList.length := hlt
      have hlk1 : k + 1 < s.data.toList.length := by rw [HS.out]; omega
      have hlt1 : k + 1 < s.size := by omega
      have hix1 := byte_index s (k : Int) k rfl hlt
      have hix2 := byte_index s ((k : Int) + 1) (k + 1) (by omega) hlt1
      rw [show s.data.toList.getD k 0 = s.data.toList[k] by rw [List.getD_eq_getElem?_getD, List.getElem?_eq_getElem hlk]; rfl] at hix1
      rw [show s.data.toList.getD (k + 1) 0 = s.data.toList[k + 1] by rw [List.getD_eq_getElem?_getD, List.getElem?_eq_getElem hlk1]; rfl] at hix2
      rw [List.drop_eq_getElem_cons hlk, List.drop_eq_getElem_cons hlk1] at ho
      have hqb : q ≤ 10000000000000 := by omega
      have HK := Lib.hid hk
      have HO := Lib.hid ho
      have HW := Lib.hid hw
      clear ho hw hk
      generalize s.data.toList[k] = a at *
      generalize s.data.toList[k + 1] = b at *
      clear hlk hlk1
      have i1 : (0 : Int) ≤ (k : Int) := by omega
      have i2 : (k : Int) < s.size := by omega
      have i3 : (k : Int) + 1 < s.size := by omega
      have i4 : (0 : Int) ≤ (k : Int) + 1 := by omega
      have i5 : wrap64 ((k : Int) + 1) = (k : Int) + 1 := wrap64_in _ (by omega)
      have i6 : IntKind.i64.wrap ((k : Int) + 1) = (k : Int) + 1 := IntWalk.i64_in _ (by omega)
      go_wp2_with fail
      refine wp_region_text [] (fun _ => True) (by kernel_rfl) ?_ (fun hS => ?_)
      · trivial
      refine wpAnyG_pure (i := 0) (oi := ⟨some 18, _, _, _, _, _⟩) (v := ?_) rfl (by kernel_rfl) (by kernel_rfl) (by kernel_rfl) (by rfl) (fun _ _ _ h => h) (by rfl) ?_ ?_
      rotate_left
      · intro w
        go_simp
        first | done | with_reducible rfl
      try simp only [Act.put, List.setIfInBounds_toArray, List.set_cons_zero, List.set_cons_succ]
      refine wpAnyG_pure (i := 1) (oi := ⟨some 19, _, _, _, _, _⟩) (v := ?_) rfl (by kernel_rfl) (by kernel_rfl) (by kernel_rfl) (by rfl) (fun _ _ _ h => h) (by rfl) ?_ ?_
      rotate_left
      · intro w
        go_simp
        first | done | with_reducible rfl
      try simp only [Act.put, List.setIfInBounds_toArray, List.set_cons_zero, List.set_cons_succ]
      refine wpAnyG_pure (i := 2) (oi := ⟨some 20, _, _, _, _, _⟩) (v := ?_) rfl (by kernel_rfl) (by kernel_rfl) (by kernel_rfl) (by rfl) (fun _ _ _ h => h) (by rfl) ?_ ?_
      rotate_left
      · intro w
        go_simp
        first | done | with_reducible rfl
      try simp only [Act.put, List.setIfInBounds_toArray, List.set_cons_zero, List.set_cons_succ]
      refine wpAnyG_pure (i := 4) (oi := ⟨some 22, _, _, _, _, _⟩) (v := ?_) rfl (by kernel_rfl) (by kernel_rfl) (by kernel_rfl) (by rfl) (fun _ _ _ h => h) (by rfl) ?_ ?_
      rotate_left
      · intro w
        go_simp
        first | done | with_reducible rfl
      try simp only [Act.put, List.setIfInBounds_toArray, List.set_cons_zero, List.set_cons_succ]
      refine wpAnyG_pure (i := 5) (oi := ⟨some 23, _, _, _, _, _⟩) (v := ?_) rfl (by kernel_rfl) (by kernel_rfl) (by kernel_rfl) (by rfl) (fun _ _ _ h => h) (by rfl) ?_ ?_
      rotate_left
      · intro w
        go_simp
        first | done | with_reducible rfl
      try simp only [Act.put, List.setIfInBounds_toArray, List.set_cons_zero, List.set_cons_succ]
      refine wpAnyG_pure (i := 6) (oi := ⟨some 24, _, _, _, _, _⟩) (v := ?_) rfl (by kernel_rfl) (by kernel_rfl) (by kernel_rfl) (by rfl) (fun _ _ _ h => h) (by rfl) ?_ ?_
      rotate_left
      · intro w
        go_simp
        first | done | with_reducible rfl
      try simp only [Act.put, List.setIfInBounds_toArray, List.set_cons_zero, List.set_cons_succ]
      refine wpAnyG_pure (i := 7) (oi := ⟨some 25, _, _, _, _, _⟩) (v := ?_) rfl (by kernel_rfl) (by kernel_rfl) (by kernel_rfl) (by rfl) (fun _ _ _ h => h) (by rfl) ?_ ?_
      rotate_left
      · intro w
        go_simp
        first | done | with_reducible rfl
      try simp only [Act.put, List.setIfInBounds_toArray, List.set_cons_zero, List.set_cons_succ]
      refine wpAnyG_keep (i := 3) (oi := ⟨some 21, _, _, _, _, _⟩) (by kernel_rfl) rfl (fun K hK => ?_)
      rw [if_pos (by rfl)]
      go_simp
      refine (place_any hexB a (a.toNat : Int) rfl (by rw [hex_size]; omega) _).mono ?_
      rintro e w2 ⟨rfl, rfl⟩
      refine hK.out _ _ ?_ (fun hS => ?_)
      · trivial
      clear hK K
      refine wpAnyG_keep (i := 8) (oi := ⟨some 26, _, _, _, _, _⟩) (by kernel_rfl) rfl (fun K hK => ?_)
      rw [if_pos (by rfl)]
      go_simp
      refine (place_any hexB b (b.toNat : Int) rfl (by rw [hex_size]; omega) _).mono ?_
      rintro e w2 ⟨rfl, rfl⟩
      refine hK.out _ _ ?_ (fun hS => ?_)
      · trivial
      clear hK K
      refine wpAnyG_pure (i := 9) (oi := ⟨some 6, _, _, _, _, _⟩) (v := ?_) rfl (by kernel_rfl) (by kernel_rfl) (by kernel_rfl) (by rfl) (fun _ _ _ h => h) (by rfl) ?_ ?_
      rotate_left
      · intro w
        go_simp
        first | done | with_reducible rfl
      try simp only [Act.put, List.setIfInBounds_toArray, List.set_cons_zero, List.set_cons_succ]
      refine wpAnyG_pure (i := 10) (oi := ⟨some 7, _, _, _, _, _⟩) (v := ?_) rfl (by kernel_rfl) (by kernel_rfl) (by kernel_rfl) (by rfl) (fun _ _ _ h => h) (by rfl) ?_ ?_
      rotate_left
      · intro w
        go_simp
        first | done | with_reducible rfl
      try simp only [Act.put, List.setIfInBounds_toArray, List.set_cons_zero, List.set_cons_succ]
      refine wpAnyG_done (by kernel_rfl) ?_ _
      refine NoPanic.normal ?_
      clear i5 i6
      cases hpa : pl hexB.data.toList a with
      | none =>
        have ho2 := HO.out
        rw [unhex_none1 hpa] at ho2
        obtain rfl : R = none := ho2.symm
        have HW2 := Lib.hid HW.out.drop
        rw [plI_none hpa]
        generalize plI hexB.data.toList b = y at *
        clear hpa ho2 HO HW
        go_wp2_with fail
        go_ret2
        exact ⟨rfl, HW2.out⟩
      | some x =>
        have hx := hex_lt hpa
        rw [plI_some hpa]
        have hx0 : ¬ (x : Int) < 0 := by omega
        cases hpb : pl hexB.data.toList b with
        | none =>
          have ho2 := HO.out
          rw [unhex_none2 hpb] at ho2
          obtain rfl : R = none := ho2.symm
          have HW2 := Lib.hid HW.out.drop
          rw [plI_none hpb]
          clear hpa hpb ho2 HO HW
          go_wp2_with fail
          go_ret2
          exact ⟨rfl, HW2.out⟩
        | some y =>
          have hy := hex_lt hpb
          rw [plI_some hpb]
          have hy0 : ¬ (y : Int) < 0 := by omega
          have ho2 := HO.out
          rw [unhex_some hpa hpb, Option.map_map] at ho2
          have ho3 : (unhexL (s.data.toList.drop (2 * (q + 1)))).map ((o ++ [cons2 x y]) ++ ·) = R := by
            rw [← ho2, show 2 * (q + 1) = k + 1 + 1 by have := HK.out; omega]
            congr 1
            funext z
            simp
          have hV : ((x * 16 + y : Nat) : Int) = ((cons2 x y).toNat : Int) := by
            unfold cons2
            rw [UInt8.toNat_ofNat']
            omega
          obtain ⟨v', w5, hap, h5⟩ := add_u8 ((x * 16 + y : Nat) : Int) (cons2 x y) hV (by omega) HW.out.drew
          have hap2 : (Builtin.append_ #[BT, BT] BT #[_, .slice (some ⟨wr.heap.size, 0, none⟩) 1 1]).run Tryd.prog (wr.alloc (.cells #[.int .u8 ((x * 16 + y : Nat) : Int)] U8)).drew = .ok v' w5 := hap
          clear hap
          have hor := four_or x y hy (by omega)
          have HO3 := Lib.hid ho3
          have H5 := Lib.hid h5
          have hmm : x * 16 + y < 256 := by omega
          clear hpa hpb ho2 ho3 h5 hV HO HW
          generalize cons2 x y = z at *
          generalize x * 16 + y = m at *
          go_wp2_with (with_reducible refine at_slot (k := some 40) ?_; refine wpList_append_run (o := ⟨some 40, _, _, _, _, _⟩) hap2 rfl rfl rfl rfl ?_; clear hap2)
          go_roundw
          case rel => exact ⟨q + 1, o ++ [z], by have := HK.out; omega, by have := HK.out; go_num, by simp; omega, HO3.out, by rw [List.length_append]; exact H5.out⟩
          case measure => simp [intOf]; omega
    · have hks : k = s.size := by omega
      rw [List.drop_of_length_le (by rw [HS.out]; omega)] at ho
      obtain rfl : R = some o := by rw [← ho]; simp [unhexL]
      have hst := hw.rowString (P := Tryd.prog) (src := BT) (dst := ST) (e := U8) (by kernel_rfl) (by kernel_rfl) (by kernel_rfl)
      have HW := Lib.hid hw.drop
      have i1 : ¬ (k : Int) < s.size := by omega
      clear ho hw hk hks
      go_wp2_with (with_reducible refine at_slot (k := some 42) ?_; refine wpList_conv_run (o := ⟨some 42, _, _, _, _, _⟩) hst rfl rfl rfl ?_; clear hst)
      go_ret2
      exact ⟨rfl, HW.out⟩
end
end Go.Proofs.YtokephnlelpjhaaDoor
