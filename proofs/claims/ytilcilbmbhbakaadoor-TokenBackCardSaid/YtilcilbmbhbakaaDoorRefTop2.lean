/- latchkeyref01.Sum, MAC. -/
import Derived.Test.YtilcilbmbhbakaaDoorRefTop
namespace Go.Proofs.YtilcilbmbhbakaaDoor
open Go.RowKit
theorem sfill_len (n : Nat) : (Sha.fill n).length = 72 - (n + 8) % 64 := by simp [Sha.fill, Sha.eight]; omega
theorem putArr_whole (cs vs : List Value) (h : cs.length = vs.length) : putArr cs.toArray 0 vs = vs.toArray := putArr_zero cs vs h
theorem flat_step (l : List (BitVec 32)) (k : Nat) (h : k < l.length) : (l.take (k + 1)).flatMap Sha.four = (l.take k).flatMap Sha.four ++ Sha.four (l.getD k 0) := by
  rw [List.take_add_one, List.getElem?_eq_getElem h, List.flatMap_append]
  simp [List.getD, h]
set_option maxRecDepth 100000 in
set_option maxHeartbeats 4000000 in
theorem refsum_any {E : World} {L : List Hp} (s : ByteArray) (w : World) (hs : s.size ≤ 140737488355000) (h : Own E w L) :
    Calls Tryd.prog 30 #[.string s] w fun e w' => e = .returned (.string ⟨(Sha.sum s.data.toList).toArray⟩) ∧ Own E w' L := by
  obtain ⟨T, hT⟩ : ∃ T : ByteArray, T = ⟨(s.data.toList ++ Sha.fill s.size).toArray⟩ := ⟨_, rfl⟩
  have hTd : T.data.toList = s.data.toList ++ Sha.fill s.size := by rw [hT]
  have hTs : T.size = s.size + (72 - (s.size + 8) % 64) := by
    have e : T.size = (s.data.toList ++ Sha.fill s.size).length := by rw [hT]; rfl
    rw [e, List.length_append, sfill_len]; rfl
  obtain ⟨m, hm⟩ : ∃ m, T.size = 64 * m := ⟨(s.size + (72 - (s.size + 8) % 64)) / 64, by omega⟩
  have hmb : m ≤ 2199023255552 := by omega
  have hfin : Sha.sum s.data.toList = Sha.out (Sha.after T.data.toList m) := by
    unfold Sha.sum Sha.st
    have e1 : s.data.toList.length = s.size := rfl
    rw [e1, ← hTd]
    have e2 : T.data.toList.length = T.size := rfl
    rw [e2, hm]
    congr 2
    omega
  have HF := Lib.hid hfin
  have HT := Lib.hid hT
  have HM := Lib.hid hm
  clear hfin hTd hTs hT hm
  go_enter Tryd.func30, Tryd.ntmps30
  go_wp2_with fail
  refine (filled_ref s _ hs h).mono ?_
  rintro e w1 ⟨rfl, h1⟩
  rw [← HT.out]
  clear h
  go_wp2_with fail
  refine (reffirst_any _ h1).mono ?_
  rintro e w2 ⟨rfl, h2⟩
  clear h1
  have hA := Lib.hid (run_allocI8 w2)
  have h3 := Lib.hid (h2.alloc (.cells (zi 8).toArray I8))
  have H2 := Lib.hid h2
  clear h2
  go_wp2_with (first | (refine wpList_yield (o := ⟨some 4, _, _, _, _, _⟩) (v := .pointer (some ⟨w2.heap.size, 0, none⟩)) (w' := w2.alloc (.cells (zi 8).toArray I8)) (by kernel_rfl) rfl ?_) | (refine wpList_store_whole (o := ⟨none, _, _, _, _, _⟩) (cs := zi 8) (vs := SI Sha.H0) h3.out (by simp [zi, Sha.S8.list]) (V64_one _) (sizeI8 _ H0_length) rfl rfl rfl rfl ?_; intro w3 h4))
  clear hA h3 H2
  generalize w2.heap.size = b4 at *
  refine (table_any _ h4).mono ?_
  rintro e w5 ⟨rfl, h5⟩
  clear h4
  have h6 := Lib.hid (h5.alloc (.cells (zi 64).toArray I64A))
  clear h5
  go_wp2_with (first | (refine wpList_yield (o := ⟨some 5, _, _, _, _, _⟩) (v := .pointer (some ⟨w5.heap.size, 0, none⟩)) (w' := w5.alloc (.cells (zi 64).toArray I64A)) (by kernel_rfl) rfl ?_) | (refine wpList_store_whole (o := ⟨none, _, _, _, _, _⟩) (cs := zi 64) (vs := KI) h6.out (by simp [zi, K_length]) (V64_one _) (sizeI64 _ K_length) rfl rfl rfl rfl ?_; intro w7 h7))
  clear h6
  generalize w5.heap.size = b5 at *
  have h8 : Own E w7 (Hp.blk b4 I8 (SI (Sha.after T.data.toList 0)).toArray :: Hp.blk b5 I64A KI.toArray :: L) := h7.f1
  have H8 := Lib.hid h8
  clear h8 h7
  go_loopw [6] (fun i wr => ∃ (k n : Nat), k ≤ m ∧ n = 64 * k ∧ i = .int .i64 n ∧ Own E wr (Hp.blk b4 I8 (SI (Sha.after T.data.toList k)).toArray :: Hp.blk b5 I64A KI.toArray :: L)) (fun i _ => T.size - (intOf i).toNat)
  case atStart => exact ⟨0, 0, by omega, rfl, rfl, H8.out⟩
  case round =>
    obtain ⟨k, n, hk, hn, rfl, hw⟩ := hrel
    clear H8
    have hms := HM.out
    by_cases hlt : k < m
    · have hnT : n + 64 ≤ T.size := by omega
      have hnb : T.size ≤ 140737488355328 := by omega
      obtain ⟨X, hX⟩ : ∃ X : ByteArray, X = T.extract n (n + 64) := ⟨_, rfl⟩
      have hXs : X.size = 64 := by rw [hX, ByteArray.size_extract]; omega
      have hXd : X.data.toList = (T.data.toList.drop (64 * k)).take 64 := by
        rw [hX, Lib.extract_data, hn]
        congr 1
        omega
      have hst : Sha.after T.data.toList (k + 1) = Sha.compress (Sha.after T.data.toList k) X.data.toList := by rw [hXd]; rfl
      have HST := Lib.hid hst
      have HX := Lib.hid hX
      have HXs := Lib.hid hXs
      have Hn := Lib.hid hn
      clear hst hX hXs hXd hn hms
      generalize Sha.after T.data.toList k = S at *
      have r1 := hw.range 0 (SI S) (fun j u hu => by simpa using hu)
      have r2 := hw.f1.range 0 KI (fun j u hu => by simpa using hu)
      have HW := Lib.hid hw
      clear hw
      have i1 : (0 : Int) ≤ (n : Int) := by omega
      have i2 : (n : Int) ≤ (n : Int) + 64 := by omega
      have i3 : (n : Int) + 64 ≤ T.size := by omega
      have i4 : ((n : Int) + 64).toNat = n + 64 := by omega
      have wr1 : IntKind.i64.wrap ((n : Int) + 64) = (n : Int) + 64 := IntWalk.i64_in _ (by omega)
      go_wp2_with fail
      refine wp_region_text [0, 1] (fun w' => w'.rangeAt b4 0 (SI S) ∧ w'.rangeAt b5 0 KI) (by kernel_rfl) ?_ (fun hS => ?_)
      · exact ⟨r1, r2⟩
      refine wpAnyG_load (i := 0) (oi := ⟨some 19, _, _, _, _, _⟩) (v := (.agg (SI S).toArray)) rfl (by kernel_rfl) (by kernel_rfl) (by kernel_rfl) (by rfl) (fun _ _ _ h => h) (by rfl) ?_ (by assumption) ?_
      · intro w hS
        exact exec_load_mid I8 (.tmp 4) rfl b4 0 (by rfl) (SI S) (.array 8 3) hS.1 (by kernel_rfl) rfl (sizeI8 S.list rfl)
      try simp only [Act.put, List.setIfInBounds_toArray, List.set_cons_zero, List.set_cons_succ]
      refine wpAnyG_load (i := 1) (oi := ⟨some 20, _, _, _, _, _⟩) (v := (.agg KI.toArray)) rfl (by kernel_rfl) (by kernel_rfl) (by kernel_rfl) (by rfl) (fun _ _ _ h => h) (by rfl) ?_ (by assumption) ?_
      · intro w hS
        exact exec_load_mid I64A (.tmp 5) rfl b5 0 (by rfl) KI (.array 64 3) hS.2 (by kernel_rfl) rfl (sizeI64 _ K_length)
      try simp only [Act.put, List.setIfInBounds_toArray, List.set_cons_zero, List.set_cons_succ]
      refine wpAnyG_pure (i := 2) (oi := ⟨some 21, _, _, _, _, _⟩) (v := ?_) rfl (by kernel_rfl) (by kernel_rfl) (by kernel_rfl) (by rfl) (fun _ _ _ h => h) (by rfl) ?_ ?_
      rotate_left
      · intro w
        go_simp
        first | done | with_reducible rfl
      try simp only [Act.put, List.setIfInBounds_toArray, List.set_cons_zero, List.set_cons_succ]
      refine wpAnyG_pure (i := 3) (oi := ⟨some 22, _, _, _, _, _⟩) (v := ?_) rfl (by kernel_rfl) (by kernel_rfl) (by kernel_rfl) (by rfl) (fun _ _ _ h => h) (by rfl) ?_ ?_
      rotate_left
      · intro w
        go_simp
        first | done | with_reducible rfl
      try simp only [Act.put, List.setIfInBounds_toArray, List.set_cons_zero, List.set_cons_succ]
      refine wpAnyG_pure (i := 4) (oi := ⟨some 23, _, _, _, _, _⟩) (v := ?_) rfl (by kernel_rfl) (by kernel_rfl) (by kernel_rfl) (by rfl) (fun _ _ _ h => h) (by rfl) ?_ ?_
      rotate_left
      · intro w
        go_simp
        first | done | with_reducible rfl
      try simp only [Act.put, List.setIfInBounds_toArray, List.set_cons_zero, List.set_cons_succ]
      refine wpAnyG_pure (i := 5) (oi := ⟨some 24, _, _, _, _, _⟩) (v := ?_) rfl (by kernel_rfl) (by kernel_rfl) (by kernel_rfl) (by rfl) (fun _ _ _ h => h) (by rfl) ?_ ?_
      rotate_left
      · intro w
        go_simp
        first | done | with_reducible rfl
      try simp only [Act.put, List.setIfInBounds_toArray, List.set_cons_zero, List.set_cons_succ]
      refine wpAnyG_pure (i := 6) (oi := ⟨some 25, _, _, _, _, _⟩) (v := ?_) rfl (by kernel_rfl) (by kernel_rfl) (by kernel_rfl) (by rfl) (fun _ _ _ h => h) (by rfl) ?_ ?_
      rotate_left
      · intro w
        go_simp
        first | done | with_reducible rfl
      try simp only [Act.put, List.setIfInBounds_toArray, List.set_cons_zero, List.set_cons_succ]
      refine wpAnyG_keep (i := 7) (oi := ⟨some 26, _, _, _, _, _⟩) (by kernel_rfl) rfl (fun K hK => ?_)
      rw [if_pos (by rfl)]
      go_simp
      rw [← HX.out]
      refine (refblock_any S X HXs.out _ (by exact HW.out)).mono ?_
      rintro e w9 ⟨rfl, h9⟩
      rw [← HST.out]
      refine hK.out _ _ ?_ (fun hS => ?_)
      · exact ⟨h9.range 0 (SI S) (fun j u hu => by simpa using hu), h9.f1.range 0 KI (fun j u hu => by simpa using hu)⟩
      clear hK K
      try simp only [Act.put, List.setIfInBounds_toArray, List.set_cons_zero, List.set_cons_succ]
      refine wpAnyG_break (i := 8) (oi := ⟨none, _, _, _, _, _⟩) (by kernel_rfl) rfl (by kernel_rfl) (fun K hK => ?_)
      rw [if_pos (by rfl)]
      refine wp_store_arr h9 0 (SI (Sha.after T.data.toList (k + 1))) (by simp [Sha.S8.list]) (V64_one _) (sizeI8 _ rfl) rfl rfl rfl ?_
      intro w10 h10
      refine hK.out _ _ ?_
      clear hK K
      try simp only [Act.put]
      refine wpAnyG_done (by kernel_rfl) ?_ _
      refine NoPanic.normal ?_
      rw [putArr_zero (SI S) _ (by rw [SI_len, SI_len])] at h10
      have H10 := Lib.hid h10
      clear wr1 i1 i2 i3 i4 h10 h9 r1 r2 hS HW
      go_wp2_with fail
      go_roundw
      case rel => exact ⟨k + 1, n + 64, by omega, by rw [Hn.out]; omega, by go_num, H10.out⟩
      case measure => simp [intOf]; omega
    · have hkm : k = m := by omega
      have hnT : n = T.size := by omega
      have hfin2 : Sha.sum s.data.toList = (Sha.after T.data.toList k).list.flatMap Sha.four := by rw [HF.out, hkm]; rfl
      have HF2 := Lib.hid hfin2
      have hnn : ¬ (n : Int) < T.size := by omega
      clear hkm hnT hms hn hfin2 hlt
      generalize Sha.after T.data.toList k = S at *
      have h11 := Lib.hid hw
      clear hw
      go_wp2_with fail
      go_loopw [7, 8] (fun v i wr => ∃ (k : Nat) (o : ByteArray), k ≤ 8 ∧ i = .int .i64 k ∧ v = .string o ∧ o.data.toList = (S.list.take k).flatMap Sha.four ∧ Own E wr (Hp.blk b4 I8 (SI S).toArray :: Hp.blk b5 I64A KI.toArray :: L)) (fun _ i _ => 8 - (intOf i).toNat)
      case atStart => exact ⟨0, ⟨#[]⟩, by omega, rfl, rfl, rfl, h11.out⟩
      case round =>
        obtain ⟨k, o, hk8, rfl, rfl, ho, hv⟩ := hrel
        clear h11
        by_cases hlt : k < 8
        · have c1 := hv.cell k
          rw [show (SI S).toArray[k]? = some (V64 (S.list.getD k 0)) by
            have : k < S.list.length := S8_lt S hlt
            simp [this]] at c1
          have es := flat_step S.list k (S8_lt S hlt)
          rw [← ho] at es
          have hob : o.size ≤ 32 := by
            have e : o.size = ((S.list.take k).flatMap Sha.four).length := by rw [← ho]; rfl
            have e2 : (S.list.flatMap Sha.four).length = 32 := rfl
            have e3 : ((S.list.take k).flatMap Sha.four).length ≤ (S.list.flatMap Sha.four).length := by
              have h9 : S.list.take k ++ S.list.drop k = S.list := List.take_append_drop k _
              have h10 := congrArg (fun l => (l.flatMap Sha.four).length) h9
              simp only [List.flatMap_append, List.length_append] at h10
              omega
            omega
          have ES := Lib.hid es
          have HV := Lib.hid hv
          clear es hv ho
          generalize S.list.getD k 0 = x at *
          have i1 : (0 : Int) ≤ (k : Int) := by omega
          have i2 : (k : Int) < 8 := by omega
          obtain ⟨X, hX⟩ : ∃ X : ByteArray, X = ⟨(Sha.four x).toArray⟩ := ⟨_, rfl⟩
          have hXb : X.size ≤ 4 := by rw [hX]; exact Nat.le_refl _
          have hXd : X.data.toList = Sha.four x := by rw [hX]
          have HX := Lib.hid hX
          have HXd := Lib.hid hXd
          clear hX hXd
          go_wp2_with fail
          refine (big_word x _ HV.out).mono ?_
          rintro e w12 ⟨rfl, h12⟩
          rw [← HX.out]
          have H12 := Lib.hid h12
          clear h12 HV
          go_wp2_with fail
          go_roundw
          case rel => exact ⟨k + 1, o ++ X, by omega, by go_num, rfl, by rw [app_data, HXd.out, ES.out], H12.out⟩
          case measure => simp [intOf]; omega
        · obtain rfl : k = 8 := by omega
          have e8 : o.data.toList = Sha.sum s.data.toList := by rw [HF2.out, ho]; rfl
          have E8 := Lib.hid e8
          have HV := Lib.hid hv
          clear e8 ho hv hlt
          go_wp2_with fail
          go_ret
          exact ⟨str_ext E8.out, HV.out.drop.drop⟩
end Go.Proofs.YtilcilbmbhbakaaDoor
