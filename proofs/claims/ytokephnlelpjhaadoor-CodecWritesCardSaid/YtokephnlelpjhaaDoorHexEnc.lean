/- Hex, of the program and of the document. -/
import Derived.Test.YtokephnlelpjhaaDoorFromHexP
namespace Go.Proofs.YtokephnlelpjhaaDoor
open Go.RowKit
def hexS (s : ByteArray) : ByteArray := ⟨(hexL s.data.toList).toArray⟩
theorem hexL_step (l : List UInt8) (k : Nat) (h : k < l.length) : hexL (l.take (k + 1)) = hexL (l.take k) ++ [hexD (l[k].toNat / 16), hexD (l[k].toNat % 16)] := by
  rw [← hexL_snoc]
  congr 1
  rw [List.take_add_one, List.getElem?_eq_getElem h]; rfl
theorem add_two {E wr : World} {M : List Hp} {v : Value} {n : Nat} {l : List UInt8} (x y : UInt8) (hn : n + 2 ≤ 140737488355328) (h : Own E wr (Hp.row U8 1 v n (l.map V8') :: M)) :
    ∃ v' w', (Builtin.append_ #[BT, BT] BT #[v, .slice (some ⟨wr.heap.size, 0, none⟩) 2 2]).run Tryd.prog (wr.alloc (.cells #[.int .u8 x.toNat, .int .u8 y.toNat] U8)) = .ok v' w' ∧ Own E w' (Hp.row U8 1 v' (n + 2) ((l ++ [x, y]).map V8') :: M) := by
  obtain ⟨v', w', h1, h2, _⟩ := sl_append_new (P := Tryd.prog) (ty := BT) (t := BT) (by kernel_rfl) u8_info rfl (by omega) h #[.int .u8 x.toNat, .int .u8 y.toNat] 2 rfl (by
    intro u hu
    rcases List.mem_cons.1 hu with rfl | hu
    · rfl
    · rw [List.mem_singleton.1 hu]; rfl) (by unfold maxLen; omega) (by omega)
  exact ⟨v', w', h1, by rw [List.map_append]; exact h2⟩
theorem byte_index8 (s : ByteArray) (i : Int) (n : Nat) (h : i = (n : Int)) (hn : n < s.size) (W : World) : (Instr.index ST (.string s) (.int .u8 i)).run Tryd.prog W = .ok (.int .u8 (s.data.toList.getD n 0).toNat) W := by
  subst h
  rw [run_index_string (P := Tryd.prog) W _ s .u8 _ (by kernel_rfl), dif_pos ⟨by omega, by omega⟩]
  have hl : n < s.data.toList.length := hn
  have hg : s[((n : Int)).toNat]'(by simpa using hn) = s.data.toList.getD n 0 := by
    rw [List.getD_eq_getElem?_getD, List.getElem?_eq_getElem hl]
    rfl
  rw [hg]
section
variable {E : World} {L : List Hp}
set_option maxRecDepth 20000 in
set_option maxHeartbeats 1000000 in
theorem refhex_any (s : ByteArray) (w : World) (hs : s.size ≤ 10000000000000) (h : Own E w L) :
    Calls Tryd.prog 50 #[.string s] w fun e w' => e = .returned (.string (hexS s)) ∧ Own E w' L := by
  have hsl : s.data.toList.length = s.size := rfl
  have HS := Lib.hid hsl
  have H1 := Lib.hid (h.nilRow U8 1)
  clear hsl h
  go_enter Tryd.func50, Tryd.ntmps50
  go_wp2_with fail
  go_loopw [3, 4] (fun v i wr => ∃ k : Nat, k ≤ s.size ∧ i = .int .i64 k ∧ Own E wr (Hp.row U8 1 v (2 * k) ((hexL (s.data.toList.take k)).map V8') :: L)) (fun _ i _ => s.size - (intOf i).toNat)
  case atStart => exact ⟨0, by omega, rfl, H1.out⟩
  case round =>
    obtain ⟨k, hk, rfl, hw⟩ := hrel
    clear H1
    by_cases hlt : k < s.size
    · have hlk : k < s.data.toList.length := hlt
      have hix := byte_index s (k : Int) k rfl hlt
      rw [show s.data.toList.getD k 0 = s.data.toList[k] by rw [List.getD_eq_getElem?_getD, List.getElem?_eq_getElem hlk]; rfl] at hix
      have hst := hexL_step _ _ hlk
      have HSt := Lib.hid hst
      have HW := Lib.hid hw
      clear hst hw
      generalize s.data.toList[k] = c at *
      have hc := c.toNat_lt
      clear hlk
      obtain ⟨x, hx⟩ : ∃ x, x = c.toNat / 16 := ⟨_, rfl⟩
      obtain ⟨y, hy⟩ : ∃ y, y = c.toNat % 16 := ⟨_, rfl⟩
      have hxi : (c.toNat : Int) / 16 = (x : Int) := by omega
      have hyi : (c.toNat : Int) % 16 = (y : Int) := by omega
      have hyt : (c.toNat : Int).tmod 16 = (y : Int) := by rw [Int.tmod_eq_emod_of_nonneg (by omega)]; exact hyi
      have hx16 : x < 16 := by omega
      have hy16 : y < 16 := by omega
      obtain ⟨p, hp⟩ : ∃ p, p = hexD x := ⟨_, rfl⟩
      obtain ⟨q, hq⟩ : ∃ q, q = hexD y := ⟨_, rfl⟩
      have hix1 : ∀ W, (Instr.index ST (.string hexB) (.int .u8 (x : Int))).run Tryd.prog W = .ok (.int .u8 p.toNat) W := by rw [hp]; exact byte_index8 hexB (x : Int) x rfl (by rw [hex_size]; exact hx16)
      have hix2 : ∀ W, (Instr.index ST (.string hexB) (.int .u8 (y : Int))).run Tryd.prog W = .ok (.int .u8 q.toNat) W := by rw [hq]; exact byte_index8 hexB (y : Int) y rfl (by rw [hex_size]; exact hy16)
      have hwx : IntKind.u8.wrap (x : Int) = x := IntWalk.u8_in _ (by omega)
      have hwy : IntKind.u8.wrap (y : Int) = y := IntWalk.u8_in _ (by omega)
      have hst2 := HSt.out
      rw [← hx, ← hy, ← hp, ← hq] at hst2
      obtain ⟨v', w5, hap, h5⟩ := add_two p q (by omega) HW.out.drew
      have hap2 : (Builtin.append_ #[BT, BT] BT #[_, .slice (some ⟨wr.heap.size, 0, none⟩) 2 2]).run Tryd.prog (wr.alloc (.cells #[.int .u8 p.toNat, .int .u8 q.toNat] U8)).drew = .ok v' w5 := hap
      rw [← hst2] at h5
      have H5 := Lib.hid h5
      have i1 : (0 : Int) ≤ (k : Int) := by omega
      have i2 : (k : Int) < s.size := by omega
      clear hap h5 hst2 HSt hx hy hp hq
      go_wp2_with fail
      refine wp_region_text [] (fun _ => True) (by kernel_rfl) ?_ (fun hS => ?_)
      · trivial
      refine wpAnyG_pure (i := 0) (oi := ⟨some 11, _, _, _, _, _⟩) (v := ?_) rfl (by kernel_rfl) (by kernel_rfl) (by kernel_rfl) (by rfl) (fun _ _ _ h => h) (by rfl) ?_ ?_
      rotate_left
      · intro w
        go_simp
        first | done | with_reducible rfl
      try simp only [Act.put, List.setIfInBounds_toArray, List.set_cons_zero, List.set_cons_succ]
      refine wpAnyG_pure (i := 1) (oi := ⟨some 12, _, _, _, _, _⟩) (v := ?_) rfl (by kernel_rfl) (by kernel_rfl) (by kernel_rfl) (by rfl) (fun _ _ _ h => h) (by rfl) ?_ ?_
      rotate_left
      · intro w
        go_simp
        first | done | with_reducible rfl
      try simp only [Act.put, List.setIfInBounds_toArray, List.set_cons_zero, List.set_cons_succ]
      refine wpAnyG_pure (i := 2) (oi := ⟨some 13, _, _, _, _, _⟩) (v := ?_) rfl (by kernel_rfl) (by kernel_rfl) (by kernel_rfl) (by rfl) (fun _ _ _ h => h) (by rfl) ?_ ?_
      rotate_left
      · intro w
        go_simp
        first | done | with_reducible rfl
      try simp only [Act.put, List.setIfInBounds_toArray, List.set_cons_zero, List.set_cons_succ]
      refine wpAnyG_pure (i := 3) (oi := ⟨some 14, _, _, _, _, _⟩) (v := ?_) rfl (by kernel_rfl) (by kernel_rfl) (by kernel_rfl) (by rfl) (fun _ _ _ h => h) (by rfl) ?_ ?_
      rotate_left
      · intro w
        go_simp
        first | done | with_reducible rfl
      try simp only [Act.put, List.setIfInBounds_toArray, List.set_cons_zero, List.set_cons_succ]
      refine wpAnyG_pure (i := 4) (oi := ⟨some 15, _, _, _, _, _⟩) (v := ?_) rfl (by kernel_rfl) (by kernel_rfl) (by kernel_rfl) (by rfl) (fun _ _ _ h => h) (by rfl) ?_ ?_
      rotate_left
      · intro w
        go_simp
        first | done | with_reducible rfl
      try simp only [Act.put, List.setIfInBounds_toArray, List.set_cons_zero, List.set_cons_succ]
      refine wpAnyG_pure (i := 5) (oi := ⟨some 16, _, _, _, _, _⟩) (v := ?_) rfl (by kernel_rfl) (by kernel_rfl) (by kernel_rfl) (by rfl) (fun _ _ _ h => h) (by rfl) ?_ ?_
      rotate_left
      · intro w
        go_simp
        first | done | with_reducible rfl
      try simp only [Act.put, List.setIfInBounds_toArray, List.set_cons_zero, List.set_cons_succ]
      refine wpAnyG_pure (i := 6) (oi := ⟨some 17, _, _, _, _, _⟩) (v := ?_) rfl (by kernel_rfl) (by kernel_rfl) (by kernel_rfl) (by rfl) (fun _ _ _ h => h) (by rfl) ?_ ?_
      rotate_left
      · intro w
        go_simp
        first | done | with_reducible rfl
      try simp only [Act.put, List.setIfInBounds_toArray, List.set_cons_zero, List.set_cons_succ]
      refine wpAnyG_pure (i := 7) (oi := ⟨some 18, _, _, _, _, _⟩) (v := ?_) rfl (by kernel_rfl) (by kernel_rfl) (by kernel_rfl) (by rfl) (fun _ _ _ h => h) (by rfl) ?_ ?_
      rotate_left
      · intro w
        go_simp
        first | done | with_reducible rfl
      try simp only [Act.put, List.setIfInBounds_toArray, List.set_cons_zero, List.set_cons_succ]
      refine wpAnyG_pure (i := 8) (oi := ⟨some 19, _, _, _, _, _⟩) (v := ?_) rfl (by kernel_rfl) (by kernel_rfl) (by kernel_rfl) (by rfl) (fun _ _ _ h => h) (by rfl) ?_ ?_
      rotate_left
      · intro w
        go_simp
        first | done | with_reducible rfl
      try simp only [Act.put, List.setIfInBounds_toArray, List.set_cons_zero, List.set_cons_succ]
      refine wpAnyG_pure (i := 9) (oi := ⟨some 20, _, _, _, _, _⟩) (v := ?_) rfl (by kernel_rfl) (by kernel_rfl) (by kernel_rfl) (by rfl) (fun _ _ _ h => h) (by rfl) ?_ ?_
      rotate_left
      · intro w
        go_simp
        first | done | with_reducible rfl
      try simp only [Act.put, List.setIfInBounds_toArray, List.set_cons_zero, List.set_cons_succ]
      refine wpAnyG_pure (i := 10) (oi := ⟨some 21, _, _, _, _, _⟩) (v := ?_) rfl (by kernel_rfl) (by kernel_rfl) (by kernel_rfl) (by rfl) (fun _ _ _ h => h) (by rfl) ?_ ?_
      rotate_left
      · intro w
        go_simp
        first | done | with_reducible rfl
      try simp only [Act.put, List.setIfInBounds_toArray, List.set_cons_zero, List.set_cons_succ]
      refine wpAnyG_keep (i := 11) (oi := ⟨some 22, _, _, _, _, _⟩) (by kernel_rfl) rfl (fun K hK => ?_)
      rw [if_pos (by rfl)]
      go_simp
      refine hK.out _ _ ?_ (fun hS => ?_)
      · trivial
      clear hK K
      try simp only [Act.put, List.setIfInBounds_toArray, List.set_cons_zero, List.set_cons_succ]
      refine wpAnyG_keep (i := 12) (oi := ⟨some 23, _, _, _, _, _⟩) (by kernel_rfl) rfl (fun K hK => ?_)
      rw [if_pos (by rfl)]
      refine wp_append_run hap2 rfl rfl rfl ?_
      refine hK.out _ _ ?_ (fun hS => ?_)
      · trivial
      clear hK K
      try simp only [Act.put, List.setIfInBounds_toArray, List.set_cons_zero, List.set_cons_succ]
      refine wpAnyG_pure (i := 13) (oi := ⟨some 3, _, _, _, _, _⟩) (v := ?_) rfl (by kernel_rfl) (by kernel_rfl) (by kernel_rfl) (by rfl) (fun _ _ _ h => h) (by rfl) ?_ ?_
      rotate_left
      · intro w
        go_simp
        first | done | with_reducible rfl
      try simp only [Act.put, List.setIfInBounds_toArray, List.set_cons_zero, List.set_cons_succ]
      refine wpAnyG_done (by kernel_rfl) ?_ _
      refine NoPanic.normal ?_
      go_wp2_with fail
      go_roundw
      case rel => exact ⟨k + 1, by omega, by go_num, H5.out⟩
      case measure => simp [intOf]; omega
    · obtain rfl : k = s.size := by omega
      rw [List.take_of_length_le (by rw [HS.out]; omega)] at hw
      have hst := hw.rowString (P := Tryd.prog) (src := BT) (dst := ST) (e := U8) (by kernel_rfl) (by kernel_rfl) (by kernel_rfl)
      have HW := Lib.hid hw.drop
      clear hw
      go_wp2_with (with_reducible refine at_slot (k := some 25) ?_; refine wpList_conv_run (o := ⟨some 25, _, _, _, _, _⟩) hst rfl rfl rfl ?_; clear hst)
      go_ret
      exact ⟨rfl, HW.out⟩
end
end Go.Proofs.YtokephnlelpjhaaDoor
