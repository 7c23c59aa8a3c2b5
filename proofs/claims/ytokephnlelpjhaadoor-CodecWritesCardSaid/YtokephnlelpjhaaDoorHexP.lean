/- codec.Hex. -/
import Derived.Test.YtokephnlelpjhaaDoorHexEnc
namespace Go.Proofs.YtokephnlelpjhaaDoor
open Go.RowKit
section
variable {E : World} {L : List Hp}
set_option maxRecDepth 20000 in
set_option maxHeartbeats 1000000 in
theorem hex_any (s : ByteArray) (w : World) (hs : s.size ≤ 10000000000000) (h : Own E w L) :
    Calls Tryd.prog 49 #[.string s] w fun e w' => e = .returned (.string (hexS s)) ∧ Own E w' L := by
  have hsl : s.data.toList.length = s.size := rfl
  obtain ⟨w1, hmk0, -, h1, -⟩ := sl_make (P := Tryd.prog) (T := BT) (e := U8) (z := .int .u8 0) (bytes := 1) (by kernel_rfl) u8_info rfl .i64 .i64 0 (2 * s.size) (by omega) (by omega) (by unfold maxLen; omega) h
  generalize w.heap.size = g0 at *
  have hmk : (Instr.makeSlice BT (.int .i64 0) (.int .i64 (2 * (s.size : Int)))).run Tryd.prog w = .ok (.slice (some ⟨g0, 0, none⟩) 0 (2 * s.size)) w1 := by
    have e : ((2 * s.size : Nat) : Int) = 2 * (s.size : Int) := by omega
    rw [e] at hmk0
    exact hmk0
  obtain ⟨cap, w2, hcv, h2⟩ := sl_to_bytes (P := Tryd.prog) (src := ST) (dst := BT) (e := U8) (by kernel_rfl) (by kernel_rfl) (by kernel_rfl) s (by unfold maxLen; omega) h1
  generalize w1.heap.size = g at *
  have HS := Lib.hid hsl
  have H1 := Lib.hid h2.f1
  clear hsl h h1 h2 hmk0
  go_enter Tryd.func49, Tryd.ntmps49
  go_wp2_with (first | (with_reducible refine at_slot (k := some 9) ?_; refine wpList_make_run (o := ⟨some 9, _, _, _, _, _⟩) hmk rfl rfl rfl rfl ?_; clear hmk) | (with_reducible refine at_slot (k := some 11) ?_; refine wpList_conv_run (o := ⟨some 11, _, _, _, _, _⟩) hcv rfl rfl rfl ?_; clear hcv))
  go_loopw [3, 13] (fun v i wr => ∃ k : Nat, k ≤ s.size ∧ i = .int .i64 k ∧ Own E wr (Hp.row U8 1 v (2 * k) ((hexL (s.data.toList.take k)).map V8') :: Hp.row U8 1 (.slice (some ⟨g, 0, none⟩) s.size cap) s.size (s.data.toList.map V8') :: L)) (fun _ i _ => s.size - (intOf i).toNat)
  case atStart => exact ⟨0, by omega, rfl, H1.out⟩
  case round =>
    obtain ⟨k, hk, rfl, hw⟩ := hrel
    clear H1
    by_cases hlt : k < s.size
    · have hlk : k < s.data.toList.length := hlt
      obtain ⟨g', hg, c1, _⟩ := hw.f1.rowCells k (V8' s.data.toList[k]) (by rw [List.getElem?_map, List.getElem?_eq_getElem hlk]; rfl)
      injection hg with hg
      injection hg with hg
      subst hg
      have hst := hexL_step _ _ hlk
      have HSt := Lib.hid hst
      have HW := Lib.hid hw
      clear hst hw
      generalize s.data.toList[k] = c at *
      have hc := c.toNat_lt
      clear hlk
      obtain ⟨x, hx⟩ : ∃ x, x = c.toNat / 16 := ⟨_, rfl⟩
      obtain ⟨y, hy⟩ : ∃ y, y = c.toNat % 16 := ⟨_, rfl⟩
      have hxi : (c.toNat : Int) / 16 = (x : Int) := by omega
      have hyi : bits .and .u8 (c.toNat : Int) 15 = (y : Int) := by
        have e := u8_and_nat c.toNat 15 (by omega) (by omega)
        rw [show c.toNat &&& 15 = c.toNat % 16 from Nat.and_two_pow_sub_one_eq_mod _ 4, ← hy] at e
        exact e
      have hx16 : x < 16 := by omega
      have hy16 : y < 16 := by omega
      obtain ⟨p, hp⟩ : ∃ p, p = hexD x := ⟨_, rfl⟩
      obtain ⟨q, hq⟩ : ∃ q, q = hexD y := ⟨_, rfl⟩
      have hix1 : ∀ W, (Instr.index ST (.string hexB) (.int .u8 (x : Int))).run Tryd.prog W = .ok (.int .u8 p.toNat) W := by rw [hp]; exact byte_index8 hexB (x : Int) x rfl (by rw [hex_size]; exact hx16)
      have hix2 : ∀ W, (Instr.index ST (.string hexB) (.int .u8 (y : Int))).run Tryd.prog W = .ok (.int .u8 q.toNat) W := by rw [hq]; exact byte_index8 hexB (y : Int) y rfl (by rw [hex_size]; exact hy16)
      have hwx : IntKind.u8.wrap (x : Int) = x := IntWalk.u8_in _ (by omega)
      have hst2 := HSt.out
      rw [← hx, ← hy, ← hp, ← hq] at hst2
      obtain ⟨v', w5, hap, h5⟩ := add_two p q (by omega) HW.out.drew
      have hap2 : (Builtin.append_ #[BT, BT] BT #[_, .slice (some ⟨wr.heap.size, 0, none⟩) 2 2]).run Tryd.prog (wr.alloc (.cells #[.int .u8 p.toNat, .int .u8 q.toNat] U8)).drew = .ok v' w5 := hap
      rw [← hst2] at h5
      have H5 := Lib.hid h5
      have i1 : (0 : Int) ≤ (k : Int) := by omega
      have i2 : (k : Int) < s.size := by omega
      clear hap h5 hst2 HSt hx hy hp hq
      go_wp2_with fail
      refine wp_region_text [] (fun _ => True) (by kernel_rfl) ?_ (fun hS => ?_)
      · trivial
      refine wpAnyG_pure (i := 0) (oi := ⟨some 17, _, _, _, _, _⟩) (v := ?_) rfl (by kernel_rfl) (by kernel_rfl) (by kernel_rfl) (by rfl) (fun _ _ _ h => h) (by rfl) ?_ ?_
      rotate_left
      · intro w
        go_simp
        first | done | with_reducible rfl
      try simp only [Act.put, List.setIfInBounds_toArray, List.set_cons_zero, List.set_cons_succ]
      refine wpAnyG_pure (i := 1) (oi := ⟨some 18, _, _, _, _, _⟩) (v := ?_) rfl (by kernel_rfl) (by kernel_rfl) (by kernel_rfl) (by rfl) (fun _ _ _ h => h) (by rfl) ?_ ?_
      rotate_left
      · intro w
        go_simp
        first | done | with_reducible rfl
      try simp only [Act.put, List.setIfInBounds_toArray, List.set_cons_zero, List.set_cons_succ]
      refine wpAnyG_pure (i := 2) (oi := ⟨some 19, _, _, _, _, _⟩) (v := ?_) rfl (by kernel_rfl) (by kernel_rfl) (by kernel_rfl) (by rfl) (fun _ _ _ h => h) (by rfl) ?_ ?_
      rotate_left
      · intro w
        go_simp
        first | done | with_reducible rfl
      try simp only [Act.put, List.setIfInBounds_toArray, List.set_cons_zero, List.set_cons_succ]
      refine wpAnyG_pure (i := 3) (oi := ⟨some 20, _, _, _, _, _⟩) (v := ?_) rfl (by kernel_rfl) (by kernel_rfl) (by kernel_rfl) (by rfl) (fun _ _ _ h => h) (by rfl) ?_ ?_
      rotate_left
      · intro w
        go_simp
        first | done | with_reducible rfl
      try simp only [Act.put, List.setIfInBounds_toArray, List.set_cons_zero, List.set_cons_succ]
      refine wpAnyG_pure (i := 4) (oi := ⟨some 21, _, _, _, _, _⟩) (v := ?_) rfl (by kernel_rfl) (by kernel_rfl) (by kernel_rfl) (by rfl) (fun _ _ _ h => h) (by rfl) ?_ ?_
      rotate_left
      · intro w
        go_simp
        first | done | with_reducible rfl
      try simp only [Act.put, List.setIfInBounds_toArray, List.set_cons_zero, List.set_cons_succ]
      refine wpAnyG_pure (i := 5) (oi := ⟨some 22, _, _, _, _, _⟩) (v := ?_) rfl (by kernel_rfl) (by kernel_rfl) (by kernel_rfl) (by rfl) (fun _ _ _ h => h) (by rfl) ?_ ?_
      rotate_left
      · intro w
        go_simp
        first | done | with_reducible rfl
      try simp only [Act.put, List.setIfInBounds_toArray, List.set_cons_zero, List.set_cons_succ]
      refine wpAnyG_pure (i := 6) (oi := ⟨some 23, _, _, _, _, _⟩) (v := ?_) rfl (by kernel_rfl) (by kernel_rfl) (by kernel_rfl) (by rfl) (fun _ _ _ h => h) (by rfl) ?_ ?_
      rotate_left
      · intro w
        go_simp
        first | done | with_reducible rfl
      try simp only [Act.put, List.setIfInBounds_toArray, List.set_cons_zero, List.set_cons_succ]
      refine wpAnyG_keep (i := 7) (oi := ⟨some 24, _, _, _, _, _⟩) (by kernel_rfl) rfl (fun K hK => ?_)
      rw [if_pos (by rfl)]
      go_simp
      refine hK.out _ _ ?_ (fun hS => ?_)
      · trivial
      clear hK K
      try simp only [Act.put, List.setIfInBounds_toArray, List.set_cons_zero, List.set_cons_succ]
      refine wpAnyG_keep (i := 8) (oi := ⟨some 25, _, _, _, _, _⟩) (by kernel_rfl) rfl (fun K hK => ?_)
      rw [if_pos (by rfl)]
      refine wp_append_run hap2 rfl rfl rfl ?_
      refine hK.out _ _ ?_ (fun hS => ?_)
      · trivial
      clear hK K
      try simp only [Act.put, List.setIfInBounds_toArray, List.set_cons_zero, List.set_cons_succ]
      refine wpAnyG_pure (i := 9) (oi := ⟨some 3, _, _, _, _, _⟩) (v := ?_) rfl (by kernel_rfl) (by kernel_rfl) (by kernel_rfl) (by rfl) (fun _ _ _ h => h) (by rfl) ?_ ?_
      rotate_left
      · intro w
        go_simp
        first | done | with_reducible rfl
      try simp only [Act.put, List.setIfInBounds_toArray, List.set_cons_zero, List.set_cons_succ]
      refine wpAnyG_done (by kernel_rfl) ?_ _
      refine NoPanic.normal ?_
      go_wp2_with fail
      go_roundw
      case rel => exact ⟨k + 1, by omega, by go_num, H5.out⟩
      case measure => simp [intOf]; omega
    · obtain rfl : k = s.size := by omega
      rw [List.take_of_length_le (by rw [HS.out]; omega)] at hw
      have hst := hw.rowString (P := Tryd.prog) (src := BT) (dst := ST) (e := U8) (by kernel_rfl) (by kernel_rfl) (by kernel_rfl)
      have HW := Lib.hid hw.drop.drop
      clear hw
      go_wp2_with (with_reducible refine at_slot (k := some 28) ?_; refine wpList_conv_run (o := ⟨some 28, _, _, _, _, _⟩) hst rfl rfl rfl ?_; clear hst)
      go_ret
      exact ⟨rfl, HW.out⟩
end
end Go.Proofs.YtokephnlelpjhaaDoor
