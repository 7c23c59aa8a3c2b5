/- HashBursts. -/
import Derived.Test.YtldloociaoflkaaKeys
import Derived.Test.YtldloociaoflkaaAffine
import Derived.Test.YtldloociaoflkaaWord64
namespace Go.Proofs.Ytldloociaoflkaa
open Go.RowKit
theorem ret_bool {a b : Bool} (h : a = b) : Ending.returned (.bool a) = .returned (.bool b) := by rw [h]
abbrev B4 : TypeId := 53
/-- A text whose bytes from f on are crossed with those of T, i of them. -/
def bent (l T : List UInt8) (f i : Nat) : List UInt8 := l.take f ++ (List.zipWith (· ^^^ ·) ((l.drop f).take i) (T.take i) ++ l.drop (f + i))
theorem bent_zero (l T : List UInt8) (f : Nat) : bent l T f 0 = l := by simp [bent]
theorem bent_len (l T : List UInt8) (f i : Nat) (hf : f + i ≤ l.length) (hi : i ≤ T.length) : (bent l T f i).length = l.length := by
  simp [bent]; omega
theorem bent_get (l T : List UInt8) (f i : Nat) (h : f + i < l.length) (hi : i < T.length) : (bent l T f i)[f + i]? = some l[f + i] := by
  have e : l.drop (f + i) = l[f + i] :: l.drop (f + i + 1) := List.drop_eq_getElem_cons h
  unfold bent
  rw [e, ← List.append_assoc, List.getElem?_append_right (by simp; omega)]
  have e2 : f + i - (l.take f ++ List.zipWith (· ^^^ ·) ((l.drop f).take i) (T.take i)).length = 0 := by simp; omega
  rw [e2]; rfl
theorem bent_set (l T : List UInt8) (f i : Nat) (h : f + i < l.length) (hi : i < T.length) : (bent l T f i).set (f + i) (l[f + i] ^^^ T[i]) = bent l T f (i + 1) := by
  have e : l.drop (f + i) = l[f + i] :: l.drop (f + i + 1) := List.drop_eq_getElem_cons h
  unfold bent
  rw [e, ← List.append_assoc, lset_mid _ _ _ _ _ (by simp; omega)]
  have e1 : (l.drop f).take (i + 1) = (l.drop f).take i ++ [l[f + i]] := by
    rw [List.take_add_one, List.getElem?_drop, List.getElem?_eq_getElem h]; rfl
  have e2 : T.take (i + 1) = T.take i ++ [T[i]] := by rw [List.take_add_one, List.getElem?_eq_getElem hi]; rfl
  rw [e1, e2, List.zipWith_append (by simp; omega)]
  simp [Nat.add_assoc]
theorem bent_crc (l T : List UInt8) (f i : Nat) (hf : f + i ≤ l.length) (hi : i ≤ T.length) (h4 : i ≤ 4) (h : Crc.crc (bent l T f i) = Crc.crc l) : bent l T f i = l := by
  have e : l = l.take f ++ ((l.drop f).take i ++ l.drop (f + i)) := by
    rw [← List.drop_drop, List.take_append_drop, List.take_append_drop]
  have hx := Crc.burst (l.take f) (List.zipWith (· ^^^ ·) ((l.drop f).take i) (T.take i)) ((l.drop f).take i) (l.drop (f + i)) (by simp; omega) (by simp; omega) (by
    rw [← e]; exact h)
  unfold bent
  rw [hx, ← e]

set_option maxHeartbeats 2000000 in
theorem bursts_any {E : World} {L : List Hp} (s : ByteArray) (c : Int) (T : List UInt8) (hT : T.length = 4) (w : World) (hs : s.size ≤ 140737488355328) (hc : -9223372036854775808 ≤ c ∧ c ≤ 9223372036854775807) (h : Own E w L) :
    Calls Try.prog 9 #[.string s, .int .i64 c, .agg (T.map V8').toArray] w fun e w' => e = .returned (.bool true) ∧ Own E w' L := by
  obtain ⟨ts, hts⟩ : ∃ ts, ts = (T.map V8').toArray := ⟨_, rfl⟩
  have h0 := h.alloc (.cells ts B4)
  rw [← hts]
  have HT := Lib.hid hts
  have HT4 := Lib.hid hT
  have Hs := Lib.hid hs
  have Hc := Lib.hid hc
  have hl : s.data.toList.length = s.size := rfl
  have HL := Lib.hid hl
  clear hts h hT hc hl hs
  go_enter Try.func9, Try.ntmps9
  go_wp2_with fail
  generalize w.heap.size = tb at *
  refine (known_any _ h0).mono ?_
  rintro e w1 ⟨rfl, h1⟩
  clear h0
  obtain ⟨cap, w2, hcv, h2⟩ := sl_to_bytes (P := Try.prog) (src := ST) (dst := BT) (e := U8) (by kernel_rfl) (by kernel_rfl) (by kernel_rfl) s (Nat.le_trans Hs.out (by unfold maxLen; omega)) h1
  generalize w1.heap.size = g at *
  have H2 := Lib.hid h2
  have hsb := Hs.out
  clear h2 h1
  go_wp2_with (refine wpList_conv_run (o := ⟨some 14, _, _, _, _, _⟩) hcv rfl rfl rfl ?_; clear hcv)
  refine (pick_any c _ _ Hc.out (by omega) (by omega)).mono ?_
  rintro e w3 ⟨f, hf, rfl, rfl⟩
  have hf2 : f ≤ s.size := by omega
  go_wp2_with fail
  go_loopw [10] (fun i wr => ∃ k : Nat, k ≤ 4 ∧ f + k ≤ s.size ∧ i = .int .i64 k ∧ Own E wr (Hp.row U8 1 (.slice (some ⟨g, 0, none⟩) s.size cap) s.size ((bent s.data.toList T f k).map V8') :: Hp.blk tb B4 ts :: L)) (fun i _ => 4 - (intOf i).toNat)
  case atStart => exact ⟨0, by omega, by omega, rfl, by rw [bent_zero]; exact H2.out⟩
  case round =>
    obtain ⟨k, hk, hfk, rfl, hw⟩ := hrel
    clear H2
    by_cases hlt : k < 4 ∧ f + k < s.size
    · obtain ⟨hk4, hfs⟩ := hlt
      have hll : f + k < s.data.toList.length := hfs
      have hkT : k < T.length := by rw [HT4.out]; exact hk4
      obtain ⟨g', hg, c1, f1, h3⟩ := hw.rowSet (f + k) hfs (V8' (s.data.toList[f + k] ^^^ T[k]))
      injection hg with hg
      injection hg with hg
      subst hg
      have eb : ((bent s.data.toList T f k).map V8').set (f + k) (V8' (s.data.toList[f + k] ^^^ T[k])) = (bent s.data.toList T f (k + 1)).map V8' := by
        rw [← List.map_set, bent_set _ _ _ _ hll hkT]
      rw [eb] at h3
      have ec : ((bent s.data.toList T f k).map V8').getD (f + k) (V8' (s.data.toList[f + k] ^^^ T[k])) = V8' s.data.toList[f + k] := by
        rw [List.getD_eq_getElem?_getD, List.getElem?_map, bent_get _ _ _ _ hll hkT]; rfl
      rw [ec] at c1
      have c2 := hw.f1.cell k
      rw [HT.out] at c2
      have c2' : wr.cell? ⟨tb, k, none⟩ = some (V8' T[k]) := by rw [c2]; simp [hkT]
      have q1 := xor_bytes s.data.toList[f + k] T[k]
      have H3 := Lib.hid h3
      have H1 := Lib.hid hw
      clear eb ec c2 h3 hw
      generalize hy : s.data.toList[f + k] = y at *
      generalize hz : T[k] = z at *
      generalize y ^^^ z = u at *
      clear hy hz
      have i1 : (0 : Int) ≤ (f : Int) + (k : Int) := by omega
      have i2 : (f : Int) + (k : Int) < s.size := by omega
      have i3 : IntKind.i64.wrap ((f : Int) + (k : Int)) = (f : Int) + (k : Int) := IntWalk.i64_in _ (by omega)
      have i4 : ((f : Int) + (k : Int)).toNat = f + k := by omega
      have i5 : (0 : Int) ≤ (k : Int) := by omega
      have i6 : (k : Int) < 4 := by omega
      go_wp2_with fail
      refine wp_region_text [9, 12] (fun w' => w'.cell? ⟨g, f + k, none⟩ = some (V8' y) ∧ w'.cell? ⟨tb, k, none⟩ = some (V8' z)) (by kernel_rfl) ?_ (fun hS => ?_)
      · exact ⟨c1, c2'⟩
      refine wpAnyG_pure (i := 0) (oi := ⟨some 32, _, _, _, _, _⟩) (v := ?_) rfl (by kernel_rfl) (by kernel_rfl) (by kernel_rfl) (by rfl) (fun _ _ _ h => h) (by rfl) ?_ ?_
      rotate_left
      · intro w
        go_simp
        first | done | with_reducible rfl
      try simp only [Act.put, List.setIfInBounds_toArray, List.set_cons_zero, List.set_cons_succ]
      refine wpAnyG_pure (i := 1) (oi := ⟨some 33, _, _, _, _, _⟩) (v := ?_) rfl (by kernel_rfl) (by kernel_rfl) (by kernel_rfl) (by rfl) (fun _ _ _ h => h) (by rfl) ?_ ?_
      rotate_left
      · intro w
        go_simp
        first | done | with_reducible rfl
      try simp only [Act.put, List.setIfInBounds_toArray, List.set_cons_zero, List.set_cons_succ]
      refine wpAnyG_pure (i := 2) (oi := ⟨some 34, _, _, _, _, _⟩) (v := ?_) rfl (by kernel_rfl) (by kernel_rfl) (by kernel_rfl) (by rfl) (fun _ _ _ h => h) (by rfl) ?_ ?_
      rotate_left
      · intro w
        go_simp
        first | done | with_reducible rfl
      try simp only [Act.put, List.setIfInBounds_toArray, List.set_cons_zero, List.set_cons_succ]
      refine wpAnyG_pure (i := 3) (oi := ⟨some 35, _, _, _, _, _⟩) (v := ?_) rfl (by kernel_rfl) (by kernel_rfl) (by kernel_rfl) (by rfl) (fun _ _ _ h => h) (by rfl) ?_ ?_
      rotate_left
      · intro w
        go_simp
        first | done | with_reducible rfl
      try simp only [Act.put, List.setIfInBounds_toArray, List.set_cons_zero, List.set_cons_succ]
      refine wpAnyG_pure (i := 4) (oi := ⟨some 36, _, _, _, _, _⟩) (v := ?_) rfl (by kernel_rfl) (by kernel_rfl) (by kernel_rfl) (by rfl) (fun _ _ _ h => h) (by rfl) ?_ ?_
      rotate_left
      · intro w
        go_simp
        first | done | with_reducible rfl
      try simp only [Act.put, List.setIfInBounds_toArray, List.set_cons_zero, List.set_cons_succ]
      refine wpAnyG_pure (i := 5) (oi := ⟨some 37, _, _, _, _, _⟩) (v := ?_) rfl (by kernel_rfl) (by kernel_rfl) (by kernel_rfl) (by rfl) (fun _ _ _ h => h) (by rfl) ?_ ?_
      rotate_left
      · intro w
        go_simp
        first | done | with_reducible rfl
      try simp only [Act.put, List.setIfInBounds_toArray, List.set_cons_zero, List.set_cons_succ]
      refine wpAnyG_pure (i := 6) (oi := ⟨some 38, _, _, _, _, _⟩) (v := ?_) rfl (by kernel_rfl) (by kernel_rfl) (by kernel_rfl) (by rfl) (fun _ _ _ h => h) (by rfl) ?_ ?_
      rotate_left
      · intro w
        go_simp
        first | done | with_reducible rfl
      try simp only [Act.put, List.setIfInBounds_toArray, List.set_cons_zero, List.set_cons_succ]
      refine wpAnyG_pure (i := 7) (oi := ⟨some 39, _, _, _, _, _⟩) (v := ?_) rfl (by kernel_rfl) (by kernel_rfl) (by kernel_rfl) (by rfl) (fun _ _ _ h => h) (by rfl) ?_ ?_
      rotate_left
      · intro w
        go_simp
        first | done | with_reducible rfl
      try simp only [Act.put, List.setIfInBounds_toArray, List.set_cons_zero, List.set_cons_succ]
      refine wpAnyG_pure (i := 8) (oi := ⟨some 40, _, _, _, _, _⟩) (v := ?_) rfl (by kernel_rfl) (by kernel_rfl) (by kernel_rfl) (by rfl) (fun _ _ _ h => h) (by rfl) ?_ ?_
      rotate_left
      · intro w
        go_simp
        first | done | with_reducible rfl
      try simp only [Act.put, List.setIfInBounds_toArray, List.set_cons_zero, List.set_cons_succ]
      refine wpAnyG_load (i := 9) (oi := ⟨some 41, _, _, _, _, _⟩) (v := ?_) rfl (by kernel_rfl) (by kernel_rfl) (by kernel_rfl) (by rfl) (fun _ _ _ h => h) (by rfl) ?_ (by assumption) ?_
      rotate_left
      · intro w hS
        try dsimp only at hS
        go_simp
        first | done | with_reducible rfl
      try simp only [Act.put, List.setIfInBounds_toArray, List.set_cons_zero, List.set_cons_succ]
      refine wpAnyG_pure (i := 10) (oi := ⟨some 42, _, _, _, _, _⟩) (v := ?_) rfl (by kernel_rfl) (by kernel_rfl) (by kernel_rfl) (by rfl) (fun _ _ _ h => h) (by rfl) ?_ ?_
      rotate_left
      · intro w
        go_simp
        first | done | with_reducible rfl
      try simp only [Act.put, List.setIfInBounds_toArray, List.set_cons_zero, List.set_cons_succ]
      refine wpAnyG_pure (i := 11) (oi := ⟨some 43, _, _, _, _, _⟩) (v := ?_) rfl (by kernel_rfl) (by kernel_rfl) (by kernel_rfl) (by rfl) (fun _ _ _ h => h) (by rfl) ?_ ?_
      rotate_left
      · intro w
        go_simp
        first | done | with_reducible rfl
      try simp only [Act.put, List.setIfInBounds_toArray, List.set_cons_zero, List.set_cons_succ]
      refine wpAnyG_load (i := 12) (oi := ⟨some 44, _, _, _, _, _⟩) (v := ?_) rfl (by kernel_rfl) (by kernel_rfl) (by kernel_rfl) (by rfl) (fun _ _ _ h => h) (by rfl) ?_ (by assumption) ?_
      rotate_left
      · intro w hS
        try dsimp only at hS
        go_simp
        first | done | with_reducible rfl
      try simp only [Act.put, List.setIfInBounds_toArray, List.set_cons_zero, List.set_cons_succ]
      refine wpAnyG_pure (i := 13) (oi := ⟨some 45, _, _, _, _, _⟩) (v := ?_) rfl (by kernel_rfl) (by kernel_rfl) (by kernel_rfl) (by rfl) (fun _ _ _ h => h) (by rfl) ?_ ?_
      rotate_left
      · intro w
        go_simp
        first | done | with_reducible rfl
      try simp only [Act.put, List.setIfInBounds_toArray, List.set_cons_zero, List.set_cons_succ]
      refine wpAnyG_pure (i := 14) (oi := ⟨some 46, _, _, _, _, _⟩) (v := ?_) rfl (by kernel_rfl) (by kernel_rfl) (by kernel_rfl) (by rfl) (fun _ _ _ h => h) (by rfl) ?_ ?_
      rotate_left
      · intro w
        go_simp
        first | done | with_reducible rfl
      try simp only [Act.put, List.setIfInBounds_toArray, List.set_cons_zero, List.set_cons_succ]
      refine wpAnyG_break (i := 15) (oi := ⟨none, _, _, _, _, _⟩) (by kernel_rfl) rfl (by kernel_rfl) (fun K hK => ?_)
      rw [if_pos (by rfl)]
      go_simp
      refine hK.out _ _ ?_
      clear hK K
      try simp only [Act.put]
      refine wpAnyG_done (by kernel_rfl) ?_ _
      refine NoPanic.normal ?_
      clear i3 i4
      go_wp2_with fail
      go_roundw
      case rel => exact ⟨k + 1, by omega, by omega, by go_num, H3.out⟩
      case measure => simp [intOf]; omega
    · have hst := hw.rowString (P := Try.prog) (src := BT) (dst := ST) (e := U8) (by kernel_rfl) (by kernel_rfl) (by kernel_rfl)
      have hlen := bent_len s.data.toList T f k (by rw [HL.out]; exact hfk) (by rw [HT4.out]; exact hk)
      have hcrc := bent_crc s.data.toList T f k (by rw [HL.out]; exact hfk) (by rw [HT4.out]; exact hk) hk
      obtain ⟨Z, hZ⟩ : ∃ Z : ByteArray, Z = ⟨(bent s.data.toList T f k).toArray⟩ := ⟨_, rfl⟩
      have hZd : Z.data.toList = bent s.data.toList T f k := by rw [hZ]
      rw [← hZ] at hst
      have hZs : Z.size ≤ maxLen := by
        have e : Z.size = (bent s.data.toList T f k).length := by rw [hZ]; rfl
        rw [e, hlen, HL.out]; unfold maxLen; omega
      obtain ⟨x, hx⟩ : ∃ x, x = Crc.crc Z.data.toList := ⟨_, rfl⟩
      obtain ⟨y, hy⟩ : ∃ x, x = Crc.crc s.data.toList := ⟨_, rfl⟩
      have hboth : ∃ b : Bool, (tn x == tn y) = b ∧ (Z.toList == s.toList) = b := by
        by_cases he : Z.data.toList = s.data.toList
        · refine ⟨true, ?_, ?_⟩
          · rw [hx, hy, he]; simp
          · rw [ByteArray.toList_eq, ByteArray.toList_eq, he]; simp
        · refine ⟨false, ?_, ?_⟩
          · rw [beq_eq_false_iff_ne]
            intro e
            have e2 := tn_inj e
            rw [hx, hy, hZd] at e2
            exact he (by rw [hZd]; exact hcrc e2)
          · rw [ByteArray.toList_eq, ByteArray.toList_eq, beq_eq_false_iff_ne]
            exact he
      obtain ⟨bb, b1, b2⟩ := hboth
      have HW := Lib.hid hw.drop.drop
      have HX := Lib.hid hx
      have HY := Lib.hid hy
      have HZs := Lib.hid hZs
      have hHs : s.size ≤ maxLen := by unfold maxLen; omega
      have HHs := Lib.hid hHs
      have hexit : (decide ((k : Int) < 4) && decide ((f : Int) + (k : Int) < s.size)) = false := by
        rw [Bool.and_eq_false_iff, decide_eq_false_iff_not, decide_eq_false_iff_not]
        omega
      have hex2 : (k : Int) < 4 → ¬ (f : Int) + (k : Int) < s.size := by omega
      clear hx hy hZ hZd hZs hlen hcrc hw hHs
      by_cases hk4 : k < 4
      · have hf4 : ¬ (f : Int) + (k : Int) < s.size := hex2 (by omega)
        clear hexit hex2 hlt
        go_wp2_with (refine wpList_conv_run (o := ⟨some 48, _, _, _, _, _⟩) hst rfl rfl rfl ?_; clear hst)
        refine (crc_any Z _ HZs.out HW.out).mono ?_
        rintro e w4 ⟨rfl, h4⟩
        rw [← HX.out]
        go_wp2_with fail
        refine (crc_any s _ HHs.out h4).mono ?_
        rintro e w5 ⟨rfl, h5⟩
        rw [← HY.out]
        go_wp2_with fail
        go_ret
        exact ⟨ret_bool (by simp), h5⟩
      · obtain rfl : k = 4 := by omega
        clear hexit hex2 hlt
        go_wp2_with (refine wpList_conv_run (o := ⟨some 48, _, _, _, _, _⟩) hst rfl rfl rfl ?_; clear hst)
        refine (crc_any Z _ HZs.out HW.out).mono ?_
        rintro e w4 ⟨rfl, h4⟩
        rw [← HX.out]
        go_wp2_with fail
        refine (crc_any s _ HHs.out h4).mono ?_
        rintro e w5 ⟨rfl, h5⟩
        rw [← HY.out]
        go_wp2_with fail
        go_ret
        exact ⟨ret_bool (by simp), h5⟩
end Go.Proofs.Ytldloociaoflkaa
