/- latchkeyref01.block is one block of SHA-256. -/
import Derived.Test.YtilcilbmbhbakaaDoorRefWords
import Derived.Test.YtilcilbmbhbakaaDoorText
import Derived.Test.YtilcilbmbhbakaaDoorBytes
namespace Go.Proofs.YtilcilbmbhbakaaDoor
open Go.RowKit
attribute [local go_sem] wb_xor wb_and wb_not vb_shr3 vb_shr10
abbrev I8 : TypeId := 72
abbrev I64A : TypeId := 74
def zi (n : Nat) : List Value := List.replicate n (.int .i64 0)
theorem sizeI8 (l : List (BitVec 32)) (h : l.length = 8) : (Tryd.prog.info? I8).map (·.size) = some (l.map V64).length := by rw [List.length_map, h]; kernel_rfl
theorem sizeI64 (l : List (BitVec 32)) (h : l.length = 64) : (Tryd.prog.info? I64A).map (·.size) = some (l.map V64).length := by rw [List.length_map, h]; kernel_rfl
theorem V64_0 : V64 0#32 = .int .i64 0 := rfl
theorem ref_start {E w : World} {L : List Hp} {ss ks : Array Value} (h : Own E w L) (z8 z64 : Array Value) (h8 : z8 = (zi 8).toArray) (h64 : z64 = (zi 64).toArray) (b : List UInt8) :
    Own E ((((w.alloc (.cells ss I8)).alloc (.cells ks I64A)).alloc (.cells z8 I8)).alloc (.cells z64 I64A))
      (Hp.blk (w.heap.size + 1 + 1 + 1) I64A (WC b 0) :: Hp.blk (w.heap.size + 1 + 1) I8 (zi 8).toArray :: Hp.blk (w.heap.size + 1) I64A ks :: Hp.blk w.heap.size I8 ss :: L) := by
  subst h8 h64
  have h1 := (((h.alloc (.cells ss I8)).alloc (.cells ks I64A)).alloc (.cells (zi 8).toArray I8)).alloc (.cells (zi 64).toArray I64A)
  have e : WC b 0 = (zi 64).toArray := by
    unfold WC wsAt
    rw [if_pos (by omega)]
    simp [Sha.wds, zi, V64_0]
  rw [e]
  simpa [Hp.blk] using h1
theorem addTo_at64 (sl vl : List (BitVec 32)) (k : Nat) (h : sl.length = vl.length) (hk : k < sl.length) : ((addTo sl vl k).map V64).toArray[k]? = some (V64 (sl.getD k 0)) := by
  have e : sl.drop k = sl.getD k 0 :: sl.drop (k + 1) := by rw [List.drop_eq_getElem_cons hk]; simp [hk]
  unfold addTo
  rw [e, List.map_append, List.map_cons]
  exact get_mid _ _ _ _ (by simp; omega)
theorem addTo_set64 (sl vl : List (BitVec 32)) (k : Nat) (h : sl.length = vl.length) (hk : k < sl.length) : ((addTo sl vl k).map V64).toArray.setIfInBounds k (V64 (sl.getD k 0 + vl.getD k 0)) = ((addTo sl vl (k + 1)).map V64).toArray := by
  have e : sl.drop k = sl.getD k 0 :: sl.drop (k + 1) := by rw [List.drop_eq_getElem_cons hk]; simp [hk]
  have hk2 : k < vl.length := by omega
  have e2 : (List.zipWith (· + ·) sl vl).take (k + 1) = (List.zipWith (· + ·) sl vl).take k ++ [sl.getD k 0 + vl.getD k 0] := by
    rw [List.take_add_one]
    have e3 : (List.zipWith (· + ·) sl vl)[k]? = some (sl.getD k 0 + vl.getD k 0) := by
      rw [List.getElem?_zipWith]
      simp [hk, hk2]
    rw [e3]
    rfl
  unfold addTo
  rw [e, List.map_append, List.map_cons, set_mid _ _ _ _ _ (by simp; omega), e2]
  simp
theorem drop_four (l : List UInt8) (n : Nat) (h : n + 3 < l.length) : (l.drop n).take 4 = [l.getD n 0, l.getD (n + 1) 0, l.getD (n + 2) 0, l.getD (n + 3) 0] := by
  have e0 : l.drop n = l.getD n 0 :: l.drop (n + 1) := by rw [List.drop_eq_getElem_cons (by omega)]; simp [List.getD, show n < l.length by omega]
  have e1 : l.drop (n + 1) = l.getD (n + 1) 0 :: l.drop (n + 2) := by rw [List.drop_eq_getElem_cons (by omega)]; simp [List.getD, show n + 1 < l.length by omega]
  have e2 : l.drop (n + 2) = l.getD (n + 2) 0 :: l.drop (n + 3) := by rw [List.drop_eq_getElem_cons (by omega)]; simp [List.getD, show n + 2 < l.length by omega]
  have e3 : l.drop (n + 3) = l.getD (n + 3) 0 :: l.drop (n + 4) := by rw [List.drop_eq_getElem_cons (by omega)]; simp [List.getD, show n + 3 < l.length by omega]
  rw [e0, e1, e2, e3]
  rfl
set_option maxRecDepth 100000 in
set_option maxHeartbeats 4000000 in
theorem refblock_any {E : World} {L : List Hp} (s : Sha.S8) (text : ByteArray) (ht : text.size = 64) (w : World) (h : Own E w L) :
    Calls Tryd.prog 54 #[.agg (SI s).toArray, .agg KI.toArray, .string text] w fun e w' => e = .returned (.agg (SI (Sha.compress s text.data.toList)).toArray) ∧ Own E w' L := by
  obtain ⟨ss, hss⟩ : ∃ ss, ss = (SI s).toArray := ⟨_, rfl⟩
  obtain ⟨ks, hks⟩ : ∃ ks, ks = KI.toArray := ⟨_, rfl⟩
  rw [← hss, ← hks]
  have HS := Lib.hid hss
  have HK := Lib.hid hks
  have HT := Lib.hid ht
  have htl : text.data.toList.length = 64 := ht
  have HTL := Lib.hid htl
  clear hss hks ht htl
  go_enter Tryd.func54, Tryd.ntmps54
  go_wp2_with fail
  go_loopw [8] (fun i wr => ∃ t : Nat, t ≤ 64 ∧ i = .int .i64 t ∧ Own E wr (Hp.blk (w.heap.size + 1 + 1 + 1) I64A (WC text.data.toList t) :: Hp.blk (w.heap.size + 1 + 1) I8 (zi 8).toArray :: Hp.blk (w.heap.size + 1) I64A ks :: Hp.blk w.heap.size I8 ss :: L)) (fun i _ => 64 - (intOf i).toNat)
  case atStart => exact ⟨0, by omega, rfl, ref_start h _ _ (by kernel_rfl) (by kernel_rfl) _⟩
  case round =>
    obtain ⟨t, ht, rfl, hw⟩ := hrel
    clear h
    generalize hb3 : w.heap.size = b3 at *
    generalize hb4 : b3 + 1 = b4 at *
    generalize hb6 : b4 + 1 = b6 at *
    generalize hb7 : b6 + 1 = b7 at *
    clear hb3 hb4 hb6 hb7
    by_cases hlt : t < 64
    · by_cases h16 : t < 16
      · have hst := drop_four text.data.toList (4 * t) (by rw [HTL.out]; omega)
        have hsz := HT.out
        have i0 := byte_index text (4 * (t : Int)) (4 * t) (by omega) (by omega)
        have i1 := byte_index text (4 * (t : Int) + 1) (4 * t + 1) (by omega) (by omega)
        have i2 := byte_index text (4 * (t : Int) + 2) (4 * t + 2) (by omega) (by omega)
        have i3 := byte_index text (4 * (t : Int) + 3) (4 * t + 3) (by omega) (by omega)
        have c1 := hw.cell t
        rw [WC_at _ _ hlt] at c1
        have f1 := hw.frozen t
        have hlow := wsAt_low text.data.toList t h16
        rw [hst] at hlow
        clear hst hsz
        generalize text.data.toList.getD (4 * t) 0 = y0 at *
        generalize text.data.toList.getD (4 * t + 1) 0 = y1 at *
        generalize text.data.toList.getD (4 * t + 2) 0 = y2 at *
        generalize text.data.toList.getD (4 * t + 3) 0 = y3 at *
        have h3 := hw.drew.set t (V64 (Sha.wd [y0, y1, y2, y3]))
        rw [WC_set _ _ _ hlt hlow] at h3
        have hq := four_bytes y0 y1 y2 y3
        generalize Sha.wd [y0, y1, y2, y3] = x at *
        have HW := Lib.hid hw
        have H3 := Lib.hid h3
        clear hw hlow h3
        have j0 : (y0.toNat : Int) < 256 := by have := y0.toNat_lt; omega
        have j1 : (y1.toNat : Int) < 256 := by have := y1.toNat_lt; omega
        have j2 : (y2.toNat : Int) < 256 := by have := y2.toNat_lt; omega
        have j3 : (y3.toNat : Int) < 256 := by have := y3.toNat_lt; omega
        have k1 : (0 : Int) ≤ (t : Int) := by omega
        have k2 : (t : Int) < 64 := by omega
        have k3 : (t : Int) < 16 := by omega
        go_wp2_with fail
        have wr0 : IntKind.i64.wrap (4 * (t : Int)) = (4 * (t : Int)) := IntWalk.i64_in _ (by omega)
        have wr1 : IntKind.i64.wrap (4 * (t : Int) + 1) = (4 * (t : Int) + 1) := IntWalk.i64_in _ (by omega)
        have wr2 : IntKind.i64.wrap (4 * (t : Int) + 2) = (4 * (t : Int) + 2) := IntWalk.i64_in _ (by omega)
        have wr3 : IntKind.i64.wrap (4 * (t : Int) + 3) = (4 * (t : Int) + 3) := IntWalk.i64_in _ (by omega)
        have wr4 : IntKind.i64.wrap (y0.toNat : Int) = (y0.toNat : Int) := IntWalk.i64_in _ (by omega)
        have wr5 : IntKind.i64.wrap (y1.toNat : Int) = (y1.toNat : Int) := IntWalk.i64_in _ (by omega)
        have wr6 : IntKind.i64.wrap (y2.toNat : Int) = (y2.toNat : Int) := IntWalk.i64_in _ (by omega)
        have wr7 : IntKind.i64.wrap (y3.toNat : Int) = (y3.toNat : Int) := IntWalk.i64_in _ (by omega)
        have wr8 : IntKind.i64.wrap ((y0.toNat : Int) * 16777216) = ((y0.toNat : Int) * 16777216) := IntWalk.i64_in _ (by omega)
        have wr9 : IntKind.i64.wrap ((y1.toNat : Int) * 65536) = ((y1.toNat : Int) * 65536) := IntWalk.i64_in _ (by omega)
        have wr10 : IntKind.i64.wrap ((y2.toNat : Int) * 256) = ((y2.toNat : Int) * 256) := IntWalk.i64_in _ (by omega)
        refine wp_region_text [] (fun _ => True) (by kernel_rfl) ?_ (fun hS => ?_)
        · trivial
        refine wpAnyG_pure (i := 0) (oi := ⟨some 24, _, _, _, _, _⟩) (v := ?_) rfl (by kernel_rfl) (by kernel_rfl) (by kernel_rfl) (by rfl) (fun _ _ _ h => h) (by rfl) ?_ ?_
        rotate_left
        · intro w
          go_simp
          first | done | with_reducible rfl
        try simp only [Act.put, List.setIfInBounds_toArray, List.set_cons_zero, List.set_cons_succ]
        refine wpAnyG_pure (i := 1) (oi := ⟨some 25, _, _, _, _, _⟩) (v := ?_) rfl (by kernel_rfl) (by kernel_rfl) (by kernel_rfl) (by rfl) (fun _ _ _ h => h) (by rfl) ?_ ?_
        rotate_left
        · intro w
          go_simp
          first | done | with_reducible rfl
        try simp only [Act.put, List.setIfInBounds_toArray, List.set_cons_zero, List.set_cons_succ]
        refine wpAnyG_pure (i := 2) (oi := ⟨some 26, _, _, _, _, _⟩) (v := ?_) rfl (by kernel_rfl) (by kernel_rfl) (by kernel_rfl) (by rfl) (fun _ _ _ h => h) (by rfl) ?_ ?_
        rotate_left
        · intro w
          go_simp
          first | done | with_reducible rfl
        try simp only [Act.put, List.setIfInBounds_toArray, List.set_cons_zero, List.set_cons_succ]
        refine wpAnyG_pure (i := 3) (oi := ⟨some 27, _, _, _, _, _⟩) (v := ?_) rfl (by kernel_rfl) (by kernel_rfl) (by kernel_rfl) (by rfl) (fun _ _ _ h => h) (by rfl) ?_ ?_
        rotate_left
        · intro w
          go_simp
          first | done | with_reducible rfl
        try simp only [Act.put, List.setIfInBounds_toArray, List.set_cons_zero, List.set_cons_succ]
        refine wpAnyG_pure (i := 4) (oi := ⟨some 28, _, _, _, _, _⟩) (v := ?_) rfl (by kernel_rfl) (by kernel_rfl) (by kernel_rfl) (by rfl) (fun _ _ _ h => h) (by rfl) ?_ ?_
        rotate_left
        · intro w
          go_simp
          first | done | with_reducible rfl
        try simp only [Act.put, List.setIfInBounds_toArray, List.set_cons_zero, List.set_cons_succ]
        refine wpAnyG_pure (i := 5) (oi := ⟨some 29, _, _, _, _, _⟩) (v := ?_) rfl (by kernel_rfl) (by kernel_rfl) (by kernel_rfl) (by rfl) (fun _ _ _ h => h) (by rfl) ?_ ?_
        rotate_left
        · intro w
          go_simp
          first | done | with_reducible rfl
        try simp only [Act.put, List.setIfInBounds_toArray, List.set_cons_zero, List.set_cons_succ]
        refine wpAnyG_pure (i := 6) (oi := ⟨some 30, _, _, _, _, _⟩) (v := ?_) rfl (by kernel_rfl) (by kernel_rfl) (by kernel_rfl) (by rfl) (fun _ _ _ h => h) (by rfl) ?_ ?_
        rotate_left
        · intro w
          go_simp
          first | done | with_reducible rfl
        try simp only [Act.put, List.setIfInBounds_toArray, List.set_cons_zero, List.set_cons_succ]
        refine wpAnyG_pure (i := 7) (oi := ⟨some 31, _, _, _, _, _⟩) (v := ?_) rfl (by kernel_rfl) (by kernel_rfl) (by kernel_rfl) (by rfl) (fun _ _ _ h => h) (by rfl) ?_ ?_
        rotate_left
        · intro w
          go_simp
          first | done | with_reducible rfl
        try simp only [Act.put, List.setIfInBounds_toArray, List.set_cons_zero, List.set_cons_succ]
        refine wpAnyG_pure (i := 8) (oi := ⟨some 32, _, _, _, _, _⟩) (v := ?_) rfl (by kernel_rfl) (by kernel_rfl) (by kernel_rfl) (by rfl) (fun _ _ _ h => h) (by rfl) ?_ ?_
        rotate_left
        · intro w
          go_simp
          first | done | with_reducible rfl
        try simp only [Act.put, List.setIfInBounds_toArray, List.set_cons_zero, List.set_cons_succ]
        refine wpAnyG_pure (i := 9) (oi := ⟨some 33, _, _, _, _, _⟩) (v := ?_) rfl (by kernel_rfl) (by kernel_rfl) (by kernel_rfl) (by rfl) (fun _ _ _ h => h) (by rfl) ?_ ?_
        rotate_left
        · intro w
          go_simp
          first | done | with_reducible rfl
        try simp only [Act.put, List.setIfInBounds_toArray, List.set_cons_zero, List.set_cons_succ]
        refine wpAnyG_pure (i := 10) (oi := ⟨some 34, _, _, _, _, _⟩) (v := ?_) rfl (by kernel_rfl) (by kernel_rfl) (by kernel_rfl) (by rfl) (fun _ _ _ h => h) (by rfl) ?_ ?_
        rotate_left
        · intro w
          go_simp
          first | done | with_reducible rfl
        try simp only [Act.put, List.setIfInBounds_toArray, List.set_cons_zero, List.set_cons_succ]
        refine wpAnyG_pure (i := 11) (oi := ⟨some 35, _, _, _, _, _⟩) (v := ?_) rfl (by kernel_rfl) (by kernel_rfl) (by kernel_rfl) (by rfl) (fun _ _ _ h => h) (by rfl) ?_ ?_
        rotate_left
        · intro w
          go_simp
          first | done | with_reducible rfl
        try simp only [Act.put, List.setIfInBounds_toArray, List.set_cons_zero, List.set_cons_succ]
        refine wpAnyG_pure (i := 12) (oi := ⟨some 36, _, _, _, _, _⟩) (v := ?_) rfl (by kernel_rfl) (by kernel_rfl) (by kernel_rfl) (by rfl) (fun _ _ _ h => h) (by rfl) ?_ ?_
        rotate_left
        · intro w
          go_simp
          first | done | with_reducible rfl
        try simp only [Act.put, List.setIfInBounds_toArray, List.set_cons_zero, List.set_cons_succ]
        refine wpAnyG_pure (i := 13) (oi := ⟨some 37, _, _, _, _, _⟩) (v := ?_) rfl (by kernel_rfl) (by kernel_rfl) (by kernel_rfl) (by rfl) (fun _ _ _ h => h) (by rfl) ?_ ?_
        rotate_left
        · intro w
          go_simp
          first | done | with_reducible rfl
        try simp only [Act.put, List.setIfInBounds_toArray, List.set_cons_zero, List.set_cons_succ]
        refine wpAnyG_pure (i := 14) (oi := ⟨some 38, _, _, _, _, _⟩) (v := ?_) rfl (by kernel_rfl) (by kernel_rfl) (by kernel_rfl) (by rfl) (fun _ _ _ h => h) (by rfl) ?_ ?_
        rotate_left
        · intro w
          go_simp
          first | done | with_reducible rfl
        try simp only [Act.put, List.setIfInBounds_toArray, List.set_cons_zero, List.set_cons_succ]
        refine wpAnyG_pure (i := 15) (oi := ⟨some 39, _, _, _, _, _⟩) (v := ?_) rfl (by kernel_rfl) (by kernel_rfl) (by kernel_rfl) (by rfl) (fun _ _ _ h => h) (by rfl) ?_ ?_
        rotate_left
        · intro w
          go_simp
          first | done | with_reducible rfl
        try simp only [Act.put, List.setIfInBounds_toArray, List.set_cons_zero, List.set_cons_succ]
        refine wpAnyG_pure (i := 16) (oi := ⟨some 40, _, _, _, _, _⟩) (v := ?_) rfl (by kernel_rfl) (by kernel_rfl) (by kernel_rfl) (by rfl) (fun _ _ _ h => h) (by rfl) ?_ ?_
        rotate_left
        · intro w
          go_simp
          first | done | with_reducible rfl
        try simp only [Act.put, List.setIfInBounds_toArray, List.set_cons_zero, List.set_cons_succ]
        refine wpAnyG_pure (i := 17) (oi := ⟨some 41, _, _, _, _, _⟩) (v := ?_) rfl (by kernel_rfl) (by kernel_rfl) (by kernel_rfl) (by rfl) (fun _ _ _ h => h) (by rfl) ?_ ?_
        rotate_left
        · intro w
          go_simp
          first | done | with_reducible rfl
        try simp only [Act.put, List.setIfInBounds_toArray, List.set_cons_zero, List.set_cons_succ]
        refine wpAnyG_pure (i := 18) (oi := ⟨some 42, _, _, _, _, _⟩) (v := ?_) rfl (by kernel_rfl) (by kernel_rfl) (by kernel_rfl) (by rfl) (fun _ _ _ h => h) (by rfl) ?_ ?_
        rotate_left
        · intro w
          go_simp
          first | done | with_reducible rfl
        try simp only [Act.put, List.setIfInBounds_toArray, List.set_cons_zero, List.set_cons_succ]
        refine wpAnyG_pure (i := 19) (oi := ⟨some 43, _, _, _, _, _⟩) (v := ?_) rfl (by kernel_rfl) (by kernel_rfl) (by kernel_rfl) (by rfl) (fun _ _ _ h => h) (by rfl) ?_ ?_
        rotate_left
        · intro w
          go_simp
          first | done | with_reducible rfl
        try simp only [Act.put, List.setIfInBounds_toArray, List.set_cons_zero, List.set_cons_succ]
        refine wpAnyG_pure (i := 20) (oi := ⟨some 44, _, _, _, _, _⟩) (v := ?_) rfl (by kernel_rfl) (by kernel_rfl) (by kernel_rfl) (by rfl) (fun _ _ _ h => h) (by rfl) ?_ ?_
        rotate_left
        · intro w
          go_simp
          first | done | with_reducible rfl
        try simp only [Act.put, List.setIfInBounds_toArray, List.set_cons_zero, List.set_cons_succ]
        refine wpAnyG_pure (i := 21) (oi := ⟨some 45, _, _, _, _, _⟩) (v := ?_) rfl (by kernel_rfl) (by kernel_rfl) (by kernel_rfl) (by rfl) (fun _ _ _ h => h) (by rfl) ?_ ?_
        rotate_left
        · intro w
          go_simp
          first | done | with_reducible rfl
        try simp only [Act.put, List.setIfInBounds_toArray, List.set_cons_zero, List.set_cons_succ]
        refine wpAnyG_pure (i := 22) (oi := ⟨some 46, _, _, _, _, _⟩) (v := ?_) rfl (by kernel_rfl) (by kernel_rfl) (by kernel_rfl) (by rfl) (fun _ _ _ h => h) (by rfl) ?_ ?_
        rotate_left
        · intro w
          go_simp
          first | done | with_reducible rfl
        try simp only [Act.put, List.setIfInBounds_toArray, List.set_cons_zero, List.set_cons_succ]
        refine wpAnyG_pure (i := 23) (oi := ⟨some 47, _, _, _, _, _⟩) (v := ?_) rfl (by kernel_rfl) (by kernel_rfl) (by kernel_rfl) (by rfl) (fun _ _ _ h => h) (by rfl) ?_ ?_
        rotate_left
        · intro w
          go_simp
          first | done | with_reducible rfl
        try simp only [Act.put, List.setIfInBounds_toArray, List.set_cons_zero, List.set_cons_succ]
        refine wpAnyG_pure (i := 24) (oi := ⟨some 48, _, _, _, _, _⟩) (v := ?_) rfl (by kernel_rfl) (by kernel_rfl) (by kernel_rfl) (by rfl) (fun _ _ _ h => h) (by rfl) ?_ ?_
        rotate_left
        · intro w
          go_simp
          first | done | with_reducible rfl
        try simp only [Act.put, List.setIfInBounds_toArray, List.set_cons_zero, List.set_cons_succ]
        refine wpAnyG_pure (i := 25) (oi := ⟨some 49, _, _, _, _, _⟩) (v := ?_) rfl (by kernel_rfl) (by kernel_rfl) (by kernel_rfl) (by rfl) (fun _ _ _ h => h) (by rfl) ?_ ?_
        rotate_left
        · intro w
          go_simp
          first | done | with_reducible rfl
        try simp only [Act.put, List.setIfInBounds_toArray, List.set_cons_zero, List.set_cons_succ]
        refine wpAnyG_pure (i := 26) (oi := ⟨some 50, _, _, _, _, _⟩) (v := ?_) rfl (by kernel_rfl) (by kernel_rfl) (by kernel_rfl) (by rfl) (fun _ _ _ h => h) (by rfl) ?_ ?_
        rotate_left
        · intro w
          go_simp
          first | done | with_reducible rfl
        try simp only [Act.put, List.setIfInBounds_toArray, List.set_cons_zero, List.set_cons_succ]
        refine wpAnyG_pure (i := 27) (oi := ⟨some 51, _, _, _, _, _⟩) (v := ?_) rfl (by kernel_rfl) (by kernel_rfl) (by kernel_rfl) (by rfl) (fun _ _ _ h => h) (by rfl) ?_ ?_
        rotate_left
        · intro w
          go_simp
          first | done | with_reducible rfl
        try simp only [Act.put, List.setIfInBounds_toArray, List.set_cons_zero, List.set_cons_succ]
        refine wpAnyG_pure (i := 28) (oi := ⟨some 52, _, _, _, _, _⟩) (v := ?_) rfl (by kernel_rfl) (by kernel_rfl) (by kernel_rfl) (by rfl) (fun _ _ _ h => h) (by rfl) ?_ ?_
        rotate_left
        · intro w
          go_simp
          first | done | with_reducible rfl
        try simp only [Act.put, List.setIfInBounds_toArray, List.set_cons_zero, List.set_cons_succ]
        refine wpAnyG_pure (i := 29) (oi := ⟨some 53, _, _, _, _, _⟩) (v := ?_) rfl (by kernel_rfl) (by kernel_rfl) (by kernel_rfl) (by rfl) (fun _ _ _ h => h) (by rfl) ?_ ?_
        rotate_left
        · intro w
          go_simp
          first | done | with_reducible rfl
        try simp only [Act.put, List.setIfInBounds_toArray, List.set_cons_zero, List.set_cons_succ]
        refine wpAnyG_pure (i := 30) (oi := ⟨some 54, _, _, _, _, _⟩) (v := ?_) rfl (by kernel_rfl) (by kernel_rfl) (by kernel_rfl) (by rfl) (fun _ _ _ h => h) (by rfl) ?_ ?_
        rotate_left
        · intro w
          go_simp
          first | done | with_reducible rfl
        try simp only [Act.put, List.setIfInBounds_toArray, List.set_cons_zero, List.set_cons_succ]
        refine wpAnyG_break (i := 31) (oi := ⟨none, _, _, _, _, _⟩) (by kernel_rfl) rfl (by kernel_rfl) (fun K hK => ?_)
        rw [if_pos (by rfl)]
        go_simp
        refine hK.out _ _ ?_
        clear hK K
        try simp only [Act.put]
        refine wpAnyG_done (by kernel_rfl) ?_ _
        refine NoPanic.normal ?_
        clear wr0 wr1 wr2 wr3 wr4 wr5 wr6 wr7 wr8 wr9 wr10
        go_wp2_with fail
        go_roundw
        case rel => exact ⟨t + 1, by omega, by go_num, H3.out⟩
        case measure => simp [intOf]; omega
      · have h16' : 16 ≤ t := by omega
        have c1 := hw.cell (t - 15)
        have c2 := hw.cell (t - 2)
        have c3 := hw.cell (t - 16)
        have c4 := hw.cell (t - 7)
        rw [WC_get _ _ _ (by omega)] at c1 c2 c3 c4
        have c5 := hw.cell t
        rw [WC_at _ _ hlt] at c5
        have f5 := hw.frozen t
        have hh := wsAt_high text.data.toList t h16'
        generalize (wsAt text.data.toList t).getD (t - 15) 0 = x1 at *
        generalize (wsAt text.data.toList t).getD (t - 2) 0 = x2 at *
        generalize (wsAt text.data.toList t).getD (t - 16) 0 = x3 at *
        generalize (wsAt text.data.toList t).getD (t - 7) 0 = x4 at *
        have h3 := WC_set text.data.toList t _ hlt hh
        have HH := Lib.hid h3
        have HW := Lib.hid hw
        clear hh hw h3 h16
        have i1 : (0 : Int) ≤ (t : Int) - 15 := by omega
        have i2 : (t : Int) - 15 < 64 := by omega
        have i3 : (0 : Int) ≤ (t : Int) - 2 := by omega
        have i4 : (t : Int) - 2 < 64 := by omega
        have i5 : ((t : Int) - 15).toNat = t - 15 := by omega
        have i6 : ((t : Int) - 2).toNat = t - 2 := by omega
        have i7 : (15 : Int) ≤ (t : Int) := by omega
        have i8 : (2 : Int) ≤ (t : Int) := by omega
        have k3 : ¬ (t : Int) < 16 := by omega
        go_wp2_with fail
        clear i1 i2 i3 i4 i5 i6 i7 i8
        refine (RTurn.at7 x1 _).mono ?_
        rintro e w1 ⟨rfl, q1, rfl⟩
        go_wp2_with fail
        refine (RTurn.at18 x1 _).mono ?_
        rintro e w1 ⟨rfl, q2, rfl⟩
        go_wp2_with fail
        refine (RTurn.at17 x2 _).mono ?_
        rintro e w1 ⟨rfl, q3, rfl⟩
        go_wp2_with fail
        refine (RTurn.at19 x2 _).mono ?_
        rintro e w1 ⟨rfl, q4, rfl⟩
        go_wp2_with fail
        have esa : rotr x1 7 ^^^ rotr x1 18 ^^^ x1 >>> 3 = Sha.sig0 x1 := rfl
        have esb : rotr x2 17 ^^^ rotr x2 19 ^^^ x2 >>> 10 = Sha.sig1 x2 := rfl
        rw [esa, esb]
        clear esa esb c1 c2
        generalize Sha.sig0 x1 = sa at *
        generalize Sha.sig1 x2 = sb at *
        have low := low_sum4 x3 sa x4 sb
        obtain ⟨wq, hwq⟩ : ∃ wq, wq = wr.drewN (q1 + q2 + q3 + q4) := ⟨_, rfl⟩
        have cq3 : wq.cell? ⟨b7, t - 16, none⟩ = some (V64 x3) := by rw [hwq]; exact c3
        have cq4 : wq.cell? ⟨b7, t - 7, none⟩ = some (V64 x4) := by rw [hwq]; exact c4
        have cq5 : wq.cell? ⟨b7, t, none⟩ = some (V64 0#32) := by rw [hwq]; exact c5
        have fq5 : wq.frozen? ⟨b7, t, none⟩ = false := by rw [hwq]; exact f5
        have HQ : Hid (Own E wq (Hp.blk b7 I64A (WC text.data.toList t) :: Hp.blk b6 I8 (zi 8).toArray :: Hp.blk b4 I64A ks :: Hp.blk b3 I8 ss :: L)) := Lib.hid (by rw [hwq]; exact HW.out)
        rw [← hwq]
        clear hwq c3 c4 c5 f5 HW
        have HN := Lib.hid (HQ.out.drew.set t (V64 (x3 + sa + x4 + sb)))
        have i1 : (0 : Int) ≤ (t : Int) - 16 := by omega
        have i2 : (t : Int) - 16 < 64 := by omega
        have i3 : (0 : Int) ≤ (t : Int) - 7 := by omega
        have i4 : (t : Int) - 7 < 64 := by omega
        have i5 : ((t : Int) - 16).toNat = t - 16 := by omega
        have i6 : ((t : Int) - 7).toNat = t - 7 := by omega
        have i7 : (16 : Int) ≤ (t : Int) := by omega
        have i8 : (7 : Int) ≤ (t : Int) := by omega
        have i9 : (0 : Int) ≤ (t : Int) := by omega
        have i10 : (t : Int) < 64 := by omega
        have b1 := tn_bd x3
        have b2 := tn_bd sa
        have b3' := tn_bd x4
        have b4' := tn_bd sb
        have wr1 : IntKind.i64.wrap ((t : Int) - 16) = (t : Int) - 16 := IntWalk.i64_in _ (by omega)
        have wr2 : IntKind.i64.wrap ((t : Int) - 7) = (t : Int) - 7 := IntWalk.i64_in _ (by omega)
        have wr3 : IntKind.i64.wrap (tn x3 + tn sa) = tn x3 + tn sa := IntWalk.i64_in _ (by omega)
        have wr4 : IntKind.i64.wrap (tn x3 + tn sa + tn x4) = tn x3 + tn sa + tn x4 := IntWalk.i64_in _ (by omega)
        have wr5 : IntKind.i64.wrap (tn x3 + tn sa + tn x4 + tn sb) = tn x3 + tn sa + tn x4 + tn sb := IntWalk.i64_in _ (by omega)
        refine wp_region_text [4, 10] (fun w' => w'.cell? ⟨b7, t - 16, none⟩ = some (V64 x3) ∧ w'.cell? ⟨b7, t - 7, none⟩ = some (V64 x4)) (by kernel_rfl) ?_ (fun hS => ?_)
        · exact ⟨cq3, cq4⟩
        refine wpAnyG_pure (i := 0) (oi := ⟨some 79, _, _, _, _, _⟩) (v := ?_) rfl (by kernel_rfl) (by kernel_rfl) (by kernel_rfl) (by rfl) (fun _ _ _ h => h) (by rfl) ?_ ?_
        rotate_left
        · intro w
          go_simp
          first | done | with_reducible rfl
        try simp only [Act.put, List.setIfInBounds_toArray, List.set_cons_zero, List.set_cons_succ]
        refine wpAnyG_pure (i := 1) (oi := ⟨some 80, _, _, _, _, _⟩) (v := ?_) rfl (by kernel_rfl) (by kernel_rfl) (by kernel_rfl) (by rfl) (fun _ _ _ h => h) (by rfl) ?_ ?_
        rotate_left
        · intro w
          go_simp
          first | done | with_reducible rfl
        try simp only [Act.put, List.setIfInBounds_toArray, List.set_cons_zero, List.set_cons_succ]
        refine wpAnyG_pure (i := 2) (oi := ⟨some 81, _, _, _, _, _⟩) (v := ?_) rfl (by kernel_rfl) (by kernel_rfl) (by kernel_rfl) (by rfl) (fun _ _ _ h => h) (by rfl) ?_ ?_
        rotate_left
        · intro w
          go_simp
          first | done | with_reducible rfl
        try simp only [Act.put, List.setIfInBounds_toArray, List.set_cons_zero, List.set_cons_succ]
        refine wpAnyG_pure (i := 3) (oi := ⟨some 82, _, _, _, _, _⟩) (v := ?_) rfl (by kernel_rfl) (by kernel_rfl) (by kernel_rfl) (by rfl) (fun _ _ _ h => h) (by rfl) ?_ ?_
        rotate_left
        · intro w
          go_simp
          first | done | with_reducible rfl
        try simp only [Act.put, List.setIfInBounds_toArray, List.set_cons_zero, List.set_cons_succ]
        refine wpAnyG_load (i := 4) (oi := ⟨some 83, _, _, _, _, _⟩) (v := ?_) rfl (by kernel_rfl) (by kernel_rfl) (by kernel_rfl) (by rfl) (fun _ _ _ h => h) (by rfl) ?_ (by assumption) ?_
        rotate_left
        · intro w hS
          try dsimp only at hS
          go_simp
          first | done | with_reducible rfl
        try simp only [Act.put, List.setIfInBounds_toArray, List.set_cons_zero, List.set_cons_succ]
        refine wpAnyG_pure (i := 5) (oi := ⟨some 84, _, _, _, _, _⟩) (v := ?_) rfl (by kernel_rfl) (by kernel_rfl) (by kernel_rfl) (by rfl) (fun _ _ _ h => h) (by rfl) ?_ ?_
        rotate_left
        · intro w
          go_simp
          first | done | with_reducible rfl
        try simp only [Act.put, List.setIfInBounds_toArray, List.set_cons_zero, List.set_cons_succ]
        refine wpAnyG_pure (i := 6) (oi := ⟨some 85, _, _, _, _, _⟩) (v := ?_) rfl (by kernel_rfl) (by kernel_rfl) (by kernel_rfl) (by rfl) (fun _ _ _ h => h) (by rfl) ?_ ?_
        rotate_left
        · intro w
          go_simp
          first | done | with_reducible rfl
        try simp only [Act.put, List.setIfInBounds_toArray, List.set_cons_zero, List.set_cons_succ]
        refine wpAnyG_pure (i := 7) (oi := ⟨some 86, _, _, _, _, _⟩) (v := ?_) rfl (by kernel_rfl) (by kernel_rfl) (by kernel_rfl) (by rfl) (fun _ _ _ h => h) (by rfl) ?_ ?_
        rotate_left
        · intro w
          go_simp
          first | done | with_reducible rfl
        try simp only [Act.put, List.setIfInBounds_toArray, List.set_cons_zero, List.set_cons_succ]
        refine wpAnyG_pure (i := 8) (oi := ⟨some 87, _, _, _, _, _⟩) (v := ?_) rfl (by kernel_rfl) (by kernel_rfl) (by kernel_rfl) (by rfl) (fun _ _ _ h => h) (by rfl) ?_ ?_
        rotate_left
        · intro w
          go_simp
          first | done | with_reducible rfl
        try simp only [Act.put, List.setIfInBounds_toArray, List.set_cons_zero, List.set_cons_succ]
        refine wpAnyG_pure (i := 9) (oi := ⟨some 88, _, _, _, _, _⟩) (v := ?_) rfl (by kernel_rfl) (by kernel_rfl) (by kernel_rfl) (by rfl) (fun _ _ _ h => h) (by rfl) ?_ ?_
        rotate_left
        · intro w
          go_simp
          first | done | with_reducible rfl
        try simp only [Act.put, List.setIfInBounds_toArray, List.set_cons_zero, List.set_cons_succ]
        refine wpAnyG_load (i := 10) (oi := ⟨some 89, _, _, _, _, _⟩) (v := ?_) rfl (by kernel_rfl) (by kernel_rfl) (by kernel_rfl) (by rfl) (fun _ _ _ h => h) (by rfl) ?_ (by assumption) ?_
        rotate_left
        · intro w hS
          try dsimp only at hS
          go_simp
          first | done | with_reducible rfl
        try simp only [Act.put, List.setIfInBounds_toArray, List.set_cons_zero, List.set_cons_succ]
        refine wpAnyG_pure (i := 11) (oi := ⟨some 90, _, _, _, _, _⟩) (v := ?_) rfl (by kernel_rfl) (by kernel_rfl) (by kernel_rfl) (by rfl) (fun _ _ _ h => h) (by rfl) ?_ ?_
        rotate_left
        · intro w
          go_simp
          first | done | with_reducible rfl
        try simp only [Act.put, List.setIfInBounds_toArray, List.set_cons_zero, List.set_cons_succ]
        refine wpAnyG_pure (i := 12) (oi := ⟨some 91, _, _, _, _, _⟩) (v := ?_) rfl (by kernel_rfl) (by kernel_rfl) (by kernel_rfl) (by rfl) (fun _ _ _ h => h) (by rfl) ?_ ?_
        rotate_left
        · intro w
          go_simp
          first | done | with_reducible rfl
        try simp only [Act.put, List.setIfInBounds_toArray, List.set_cons_zero, List.set_cons_succ]
        refine wpAnyG_pure (i := 13) (oi := ⟨some 92, _, _, _, _, _⟩) (v := ?_) rfl (by kernel_rfl) (by kernel_rfl) (by kernel_rfl) (by rfl) (fun _ _ _ h => h) (by rfl) ?_ ?_
        rotate_left
        · intro w
          go_simp
          first | done | with_reducible rfl
        try simp only [Act.put, List.setIfInBounds_toArray, List.set_cons_zero, List.set_cons_succ]
        refine wpAnyG_pure (i := 14) (oi := ⟨some 93, _, _, _, _, _⟩) (v := ?_) rfl (by kernel_rfl) (by kernel_rfl) (by kernel_rfl) (by rfl) (fun _ _ _ h => h) (by rfl) ?_ ?_
        rotate_left
        · intro w
          go_simp
          first | done | with_reducible rfl
        try simp only [Act.put, List.setIfInBounds_toArray, List.set_cons_zero, List.set_cons_succ]
        refine wpAnyG_pure (i := 15) (oi := ⟨some 94, _, _, _, _, _⟩) (v := ?_) rfl (by kernel_rfl) (by kernel_rfl) (by kernel_rfl) (by rfl) (fun _ _ _ h => h) (by rfl) ?_ ?_
        rotate_left
        · intro w
          go_simp
          first | done | with_reducible rfl
        try simp only [Act.put, List.setIfInBounds_toArray, List.set_cons_zero, List.set_cons_succ]
        refine wpAnyG_break (i := 16) (oi := ⟨none, _, _, _, _, _⟩) (by kernel_rfl) rfl (by kernel_rfl) (fun K hK => ?_)
        rw [if_pos (by rfl)]
        go_simp
        refine hK.out _ _ ?_
        clear hK K
        try simp only [Act.put]
        refine wpAnyG_done (by kernel_rfl) ?_ _
        refine NoPanic.normal ?_
        clear wr1 wr2 wr3 wr4 wr5 i1 i2 i3 i4 i5 i6 i7 i8 i9 i10 b1 b2 b3' b4' cq3 cq4 cq5 fq5 hS low k3
        go_wp2_with fail
        go_roundw
        case rel =>
          exact ⟨t + 1, by omega, by go_num, by rw [← HH.out]; exact HN.out⟩
        case measure => simp [intOf]; omega
    · obtain rfl : t = 64 := by omega
      have e64 : WC text.data.toList 64 = ((Sha.sched text.data.toList).map V64).toArray := by
        unfold WC
        rw [wsAt_all]
        simp
      rw [e64] at hw
      clear e64 hlt
      have hal : Own E (wr.alloc (.cells (zi 8).toArray I8)) (Hp.blk wr.heap.size I8 (zi 8).toArray :: Hp.blk b7 I64A ((Sha.sched text.data.toList).map V64).toArray :: Hp.blk b6 I8 (zi 8).toArray :: Hp.blk b4 I64A ks :: Hp.blk b3 I8 ss :: L) := hw.alloc _
      rw [HS.out] at hw hal
      have HW := Lib.hid hw
      have HA := Lib.hid hal
      clear hw hal
      go_upto_region 12 with (fail)
      refine wp_region_list ?_
      refine wpList_load_arr (cs := (SI s).toArray) (HW.out.f3) 0 (SI s) (fun j u hu => by simpa using hu) (d0 := .array 8 3) (by kernel_rfl) rfl (sizeI8 s.list rfl) rfl rfl rfl ?_
      refine wpList_yield (v := .pointer (some ⟨wr.heap.size, 0, none⟩)) (w' := wr.alloc (.cells (zi 8).toArray I8)) (by kernel_rfl) rfl ?_
      refine wpList_store_whole (cs := zi 8) (vs := SI s) HA.out (by simp [zi, Sha.S8.list]) (V64_one _) (sizeI8 s.list rfl) rfl rfl rfl rfl ?_
      intro w3 h3
      clear HA HW
      generalize wr.heap.size = b13 at *
      go_wp2_with fail
      clear ht
      go_loopw [14] (fun i wr => ∃ k : Nat, k ≤ 64 ∧ i = .int .i64 k ∧ Own E wr (Hp.blk b13 I8 (SI (Sha.rounds s (Sha.sched text.data.toList) k)).toArray :: Hp.blk b7 I64A ((Sha.sched text.data.toList).map V64).toArray :: Hp.blk b6 I8 (zi 8).toArray :: Hp.blk b4 I64A ks :: Hp.blk b3 I8 (SI s).toArray :: L)) (fun i _ => 64 - (intOf i).toNat)
      case atStart => exact ⟨0, by omega, rfl, h3⟩
      case round =>
        obtain ⟨k, hk, rfl, hv⟩ := hrel
        clear h3
        by_cases hlt : k < 64
        · have hr : Sha.rounds s (Sha.sched text.data.toList) (k + 1) = Sha.round (Sha.rounds s (Sha.sched text.data.toList) k) (Sha.K.getD k 0) ((Sha.sched text.data.toList).getD k 0) := rfl
          have HR := Lib.hid hr
          clear hr
          have cw := hv.f1.cell k
          rw [show ((Sha.sched text.data.toList).map V64).toArray[k]? = some (V64 ((Sha.sched text.data.toList).getD k 0)) by
            have : k < (Sha.sched text.data.toList).length := by rw [Sha.sched_length]; exact hlt
            simp [this]] at cw
          have ck := hv.f3.cell k
          rw [HK.out, show KI.toArray[k]? = some (V64 (Sha.K.getD k 0)) by
            have : k < Sha.K.length := by rw [K_length]; exact hlt
            simp [this]] at ck
          generalize Sha.rounds s (Sha.sched text.data.toList) k = v at *
          generalize (Sha.sched text.data.toList).getD k 0 = ww at *
          generalize Sha.K.getD k 0 = kk at *
          obtain ⟨x0, x1, x2, x3, x4, x5, x6, x7⟩ := v
          have c0 : wr.cell? ⟨b13, 0, none⟩ = some (V64 x0) := hv.cell 0
          have c1 : wr.cell? ⟨b13, 1, none⟩ = some (V64 x1) := hv.cell 1
          have c2 : wr.cell? ⟨b13, 2, none⟩ = some (V64 x2) := hv.cell 2
          have c3 : wr.cell? ⟨b13, 3, none⟩ = some (V64 x3) := hv.cell 3
          have c4 : wr.cell? ⟨b13, 4, none⟩ = some (V64 x4) := hv.cell 4
          have c5 : wr.cell? ⟨b13, 5, none⟩ = some (V64 x5) := hv.cell 5
          have c6 : wr.cell? ⟨b13, 6, none⟩ = some (V64 x6) := hv.cell 6
          have c7 : wr.cell? ⟨b13, 7, none⟩ = some (V64 x7) := hv.cell 7
          have f0 : wr.frozen? ⟨b13, 0, none⟩ = false := hv.frozen 0
          have f1 : wr.frozen? ⟨b13, 1, none⟩ = false := hv.frozen 1
          have f2 : wr.frozen? ⟨b13, 2, none⟩ = false := hv.frozen 2
          have f3 : wr.frozen? ⟨b13, 3, none⟩ = false := hv.frozen 3
          have f4 : wr.frozen? ⟨b13, 4, none⟩ = false := hv.frozen 4
          have f5 : wr.frozen? ⟨b13, 5, none⟩ = false := hv.frozen 5
          have f6 : wr.frozen? ⟨b13, 6, none⟩ = false := hv.frozen 6
          have f7 : wr.frozen? ⟨b13, 7, none⟩ = false := hv.frozen 7
          have HV := Lib.hid hv
          have hv8 := hv
          rw [SI_arr] at hv8
          have H8 := Lib.hid hv8
          clear hv hv8
          have i1 : (0 : Int) ≤ (k : Int) := by omega
          have i2 : (k : Int) < 64 := by omega
          go_wp2_with fail
          have n7 := tn_bd x7
          have n1 := tn_bd (rotr x4 6 ^^^ rotr x4 11 ^^^ rotr x4 25)
          have n2 := tn_bd (x4 &&& x5 ^^^ ~~~x4 &&& x6)
          have n3 := tn_bd kk
          have n4 := tn_bd ww
          have wr1 : IntKind.i64.wrap (tn x7 + tn (rotr x4 6 ^^^ rotr x4 11 ^^^ rotr x4 25)) = tn x7 + tn (rotr x4 6 ^^^ rotr x4 11 ^^^ rotr x4 25) := IntWalk.i64_in _ (by omega)
          have wr2 : IntKind.i64.wrap (tn x7 + tn (rotr x4 6 ^^^ rotr x4 11 ^^^ rotr x4 25) + tn (x4 &&& x5 ^^^ ~~~x4 &&& x6)) = tn x7 + tn (rotr x4 6 ^^^ rotr x4 11 ^^^ rotr x4 25) + tn (x4 &&& x5 ^^^ ~~~x4 &&& x6) := IntWalk.i64_in _ (by omega)
          have wr3 : IntKind.i64.wrap (tn x7 + tn (rotr x4 6 ^^^ rotr x4 11 ^^^ rotr x4 25) + tn (x4 &&& x5 ^^^ ~~~x4 &&& x6) + tn kk) = tn x7 + tn (rotr x4 6 ^^^ rotr x4 11 ^^^ rotr x4 25) + tn (x4 &&& x5 ^^^ ~~~x4 &&& x6) + tn kk := IntWalk.i64_in _ (by omega)
          have wr4 : IntKind.i64.wrap (tn x7 + tn (rotr x4 6 ^^^ rotr x4 11 ^^^ rotr x4 25) + tn (x4 &&& x5 ^^^ ~~~x4 &&& x6) + tn kk + tn ww) = tn x7 + tn (rotr x4 6 ^^^ rotr x4 11 ^^^ rotr x4 25) + tn (x4 &&& x5 ^^^ ~~~x4 &&& x6) + tn kk + tn ww := IntWalk.i64_in _ (by omega)
          refine wp_region_text [1, 3, 6, 10, 15, 17, 20, 23, 29, 33] (fun w' => w'.cell? ⟨b13, 7, none⟩ = some (V64 x7) ∧ w'.cell? ⟨b13, 4, none⟩ = some (V64 x4) ∧ w'.cell? ⟨b13, 5, none⟩ = some (V64 x5) ∧ w'.cell? ⟨b13, 6, none⟩ = some (V64 x6) ∧ w'.cell? ⟨b4, k, none⟩ = some (V64 kk) ∧ w'.cell? ⟨b7, k, none⟩ = some (V64 ww)) (by kernel_rfl) ?_ (fun hS => ?_)
          · exact ⟨c7, c4, c5, c6, ck, cw⟩
          refine wpAnyG_pure (i := 0) (oi := ⟨some 100, _, _, _, _, _⟩) (v := ?_) rfl (by kernel_rfl) (by kernel_rfl) (by kernel_rfl) (by rfl) (fun _ _ _ h => h) (by rfl) ?_ ?_
          rotate_left
          · intro w
            go_simp
            first | done | with_reducible rfl
          try simp only [Act.put, List.setIfInBounds_toArray, List.set_cons_zero, List.set_cons_succ]
          refine wpAnyG_load (i := 1) (oi := ⟨some 101, _, _, _, _, _⟩) (v := ?_) rfl (by kernel_rfl) (by kernel_rfl) (by kernel_rfl) (by rfl) (fun _ _ _ h => h) (by rfl) ?_ (by assumption) ?_
          rotate_left
          · intro w hS
            try dsimp only at hS
            go_simp
            first | done | with_reducible rfl
          try simp only [Act.put, List.setIfInBounds_toArray, List.set_cons_zero, List.set_cons_succ]
          refine wpAnyG_pure (i := 2) (oi := ⟨some 102, _, _, _, _, _⟩) (v := ?_) rfl (by kernel_rfl) (by kernel_rfl) (by kernel_rfl) (by rfl) (fun _ _ _ h => h) (by rfl) ?_ ?_
          rotate_left
          · intro w
            go_simp
            first | done | with_reducible rfl
          try simp only [Act.put, List.setIfInBounds_toArray, List.set_cons_zero, List.set_cons_succ]
          refine wpAnyG_load (i := 3) (oi := ⟨some 103, _, _, _, _, _⟩) (v := ?_) rfl (by kernel_rfl) (by kernel_rfl) (by kernel_rfl) (by rfl) (fun _ _ _ h => h) (by rfl) ?_ (by assumption) ?_
          rotate_left
          · intro w hS
            try dsimp only at hS
            go_simp
            first | done | with_reducible rfl
          try simp only [Act.put, List.setIfInBounds_toArray, List.set_cons_zero, List.set_cons_succ]
          refine wpAnyG_pure (i := 5) (oi := ⟨some 105, _, _, _, _, _⟩) (v := ?_) rfl (by kernel_rfl) (by kernel_rfl) (by kernel_rfl) (by rfl) (fun _ _ _ h => h) (by rfl) ?_ ?_
          rotate_left
          · intro w
            go_simp
            first | done | with_reducible rfl
          try simp only [Act.put, List.setIfInBounds_toArray, List.set_cons_zero, List.set_cons_succ]
          refine wpAnyG_load (i := 6) (oi := ⟨some 106, _, _, _, _, _⟩) (v := ?_) rfl (by kernel_rfl) (by kernel_rfl) (by kernel_rfl) (by rfl) (fun _ _ _ h => h) (by rfl) ?_ (by assumption) ?_
          rotate_left
          · intro w hS
            try dsimp only at hS
            go_simp
            first | done | with_reducible rfl
          try simp only [Act.put, List.setIfInBounds_toArray, List.set_cons_zero, List.set_cons_succ]
          refine wpAnyG_pure (i := 9) (oi := ⟨some 109, _, _, _, _, _⟩) (v := ?_) rfl (by kernel_rfl) (by kernel_rfl) (by kernel_rfl) (by rfl) (fun _ _ _ h => h) (by rfl) ?_ ?_
          rotate_left
          · intro w
            go_simp
            first | done | with_reducible rfl
          try simp only [Act.put, List.setIfInBounds_toArray, List.set_cons_zero, List.set_cons_succ]
          refine wpAnyG_load (i := 10) (oi := ⟨some 110, _, _, _, _, _⟩) (v := ?_) rfl (by kernel_rfl) (by kernel_rfl) (by kernel_rfl) (by rfl) (fun _ _ _ h => h) (by rfl) ?_ (by assumption) ?_
          rotate_left
          · intro w hS
            try dsimp only at hS
            go_simp
            first | done | with_reducible rfl
          try simp only [Act.put, List.setIfInBounds_toArray, List.set_cons_zero, List.set_cons_succ]
          refine wpAnyG_pure (i := 14) (oi := ⟨some 114, _, _, _, _, _⟩) (v := ?_) rfl (by kernel_rfl) (by kernel_rfl) (by kernel_rfl) (by rfl) (fun _ _ _ h => h) (by rfl) ?_ ?_
          rotate_left
          · intro w
            go_simp
            first | done | with_reducible rfl
          try simp only [Act.put, List.setIfInBounds_toArray, List.set_cons_zero, List.set_cons_succ]
          refine wpAnyG_load (i := 15) (oi := ⟨some 115, _, _, _, _, _⟩) (v := ?_) rfl (by kernel_rfl) (by kernel_rfl) (by kernel_rfl) (by rfl) (fun _ _ _ h => h) (by rfl) ?_ (by assumption) ?_
          rotate_left
          · intro w hS
            try dsimp only at hS
            go_simp
            first | done | with_reducible rfl
          try simp only [Act.put, List.setIfInBounds_toArray, List.set_cons_zero, List.set_cons_succ]
          refine wpAnyG_pure (i := 16) (oi := ⟨some 116, _, _, _, _, _⟩) (v := ?_) rfl (by kernel_rfl) (by kernel_rfl) (by kernel_rfl) (by rfl) (fun _ _ _ h => h) (by rfl) ?_ ?_
          rotate_left
          · intro w
            go_simp
            first | done | with_reducible rfl
          try simp only [Act.put, List.setIfInBounds_toArray, List.set_cons_zero, List.set_cons_succ]
          refine wpAnyG_load (i := 17) (oi := ⟨some 117, _, _, _, _, _⟩) (v := ?_) rfl (by kernel_rfl) (by kernel_rfl) (by kernel_rfl) (by rfl) (fun _ _ _ h => h) (by rfl) ?_ (by assumption) ?_
          rotate_left
          · intro w hS
            try dsimp only at hS
            go_simp
            first | done | with_reducible rfl
          try simp only [Act.put, List.setIfInBounds_toArray, List.set_cons_zero, List.set_cons_succ]
          refine wpAnyG_pure (i := 18) (oi := ⟨some 118, _, _, _, _, _⟩) (v := ?_) rfl (by kernel_rfl) (by kernel_rfl) (by kernel_rfl) (by rfl) (fun _ _ _ h => h) (by rfl) ?_ ?_
          rotate_left
          · intro w
            go_simp
            first | done | with_reducible rfl
          try simp only [Act.put, List.setIfInBounds_toArray, List.set_cons_zero, List.set_cons_succ]
          refine wpAnyG_pure (i := 19) (oi := ⟨some 119, _, _, _, _, _⟩) (v := ?_) rfl (by kernel_rfl) (by kernel_rfl) (by kernel_rfl) (by rfl) (fun _ _ _ h => h) (by rfl) ?_ ?_
          rotate_left
          · intro w
            go_simp
            first | done | with_reducible rfl
          try simp only [Act.put, List.setIfInBounds_toArray, List.set_cons_zero, List.set_cons_succ]
          refine wpAnyG_load (i := 20) (oi := ⟨some 120, _, _, _, _, _⟩) (v := ?_) rfl (by kernel_rfl) (by kernel_rfl) (by kernel_rfl) (by rfl) (fun _ _ _ h => h) (by rfl) ?_ (by assumption) ?_
          rotate_left
          · intro w hS
            try dsimp only at hS
            go_simp
            first | done | with_reducible rfl
          try simp only [Act.put, List.setIfInBounds_toArray, List.set_cons_zero, List.set_cons_succ]
          refine wpAnyG_pure (i := 21) (oi := ⟨some 121, _, _, _, _, _⟩) (v := ?_) rfl (by kernel_rfl) (by kernel_rfl) (by kernel_rfl) (by rfl) (fun _ _ _ h => h) (by rfl) ?_ ?_
          rotate_left
          · intro w
            go_simp
            first | done | with_reducible rfl
          try simp only [Act.put, List.setIfInBounds_toArray, List.set_cons_zero, List.set_cons_succ]
          refine wpAnyG_pure (i := 22) (oi := ⟨some 122, _, _, _, _, _⟩) (v := ?_) rfl (by kernel_rfl) (by kernel_rfl) (by kernel_rfl) (by rfl) (fun _ _ _ h => h) (by rfl) ?_ ?_
          rotate_left
          · intro w
            go_simp
            first | done | with_reducible rfl
          try simp only [Act.put, List.setIfInBounds_toArray, List.set_cons_zero, List.set_cons_succ]
          refine wpAnyG_load (i := 23) (oi := ⟨some 123, _, _, _, _, _⟩) (v := ?_) rfl (by kernel_rfl) (by kernel_rfl) (by kernel_rfl) (by rfl) (fun _ _ _ h => h) (by rfl) ?_ (by assumption) ?_
          rotate_left
          · intro w hS
            try dsimp only at hS
            go_simp
            first | done | with_reducible rfl
          try simp only [Act.put, List.setIfInBounds_toArray, List.set_cons_zero, List.set_cons_succ]
          refine wpAnyG_pure (i := 24) (oi := ⟨some 124, _, _, _, _, _⟩) (v := ?_) rfl (by kernel_rfl) (by kernel_rfl) (by kernel_rfl) (by rfl) (fun _ _ _ h => h) (by rfl) ?_ ?_
          rotate_left
          · intro w
            go_simp
            first | done | with_reducible rfl
          try simp only [Act.put, List.setIfInBounds_toArray, List.set_cons_zero, List.set_cons_succ]
          refine wpAnyG_pure (i := 25) (oi := ⟨some 125, _, _, _, _, _⟩) (v := ?_) rfl (by kernel_rfl) (by kernel_rfl) (by kernel_rfl) (by rfl) (fun _ _ _ h => h) (by rfl) ?_ ?_
          rotate_left
          · intro w
            go_simp
            first | done | with_reducible rfl
          try simp only [Act.put, List.setIfInBounds_toArray, List.set_cons_zero, List.set_cons_succ]
          refine wpAnyG_pure (i := 27) (oi := ⟨some 127, _, _, _, _, _⟩) (v := ?_) rfl (by kernel_rfl) (by kernel_rfl) (by kernel_rfl) (by rfl) (fun _ _ _ h => h) (by rfl) ?_ ?_
          rotate_left
          · intro w
            go_simp
            first | done | with_reducible rfl
          try simp only [Act.put, List.setIfInBounds_toArray, List.set_cons_zero, List.set_cons_succ]
          refine wpAnyG_pure (i := 28) (oi := ⟨some 128, _, _, _, _, _⟩) (v := ?_) rfl (by kernel_rfl) (by kernel_rfl) (by kernel_rfl) (by rfl) (fun _ _ _ h => h) (by rfl) ?_ ?_
          rotate_left
          · intro w
            go_simp
            first | done | with_reducible rfl
          try simp only [Act.put, List.setIfInBounds_toArray, List.set_cons_zero, List.set_cons_succ]
          refine wpAnyG_load (i := 29) (oi := ⟨some 129, _, _, _, _, _⟩) (v := ?_) rfl (by kernel_rfl) (by kernel_rfl) (by kernel_rfl) (by rfl) (fun _ _ _ h => h) (by rfl) ?_ (by assumption) ?_
          rotate_left
          · intro w hS
            try dsimp only at hS
            go_simp
            first | done | with_reducible rfl
          try simp only [Act.put, List.setIfInBounds_toArray, List.set_cons_zero, List.set_cons_succ]
          refine wpAnyG_pure (i := 31) (oi := ⟨some 131, _, _, _, _, _⟩) (v := ?_) rfl (by kernel_rfl) (by kernel_rfl) (by kernel_rfl) (by rfl) (fun _ _ _ h => h) (by rfl) ?_ ?_
          rotate_left
          · intro w
            go_simp
            first | done | with_reducible rfl
          try simp only [Act.put, List.setIfInBounds_toArray, List.set_cons_zero, List.set_cons_succ]
          refine wpAnyG_pure (i := 32) (oi := ⟨some 132, _, _, _, _, _⟩) (v := ?_) rfl (by kernel_rfl) (by kernel_rfl) (by kernel_rfl) (by rfl) (fun _ _ _ h => h) (by rfl) ?_ ?_
          rotate_left
          · intro w
            go_simp
            first | done | with_reducible rfl
          try simp only [Act.put, List.setIfInBounds_toArray, List.set_cons_zero, List.set_cons_succ]
          refine wpAnyG_load (i := 33) (oi := ⟨some 133, _, _, _, _, _⟩) (v := ?_) rfl (by kernel_rfl) (by kernel_rfl) (by kernel_rfl) (by rfl) (fun _ _ _ h => h) (by rfl) ?_ (by assumption) ?_
          rotate_left
          · intro w hS
            try dsimp only at hS
            go_simp
            first | done | with_reducible rfl
          try simp only [Act.put, List.setIfInBounds_toArray, List.set_cons_zero, List.set_cons_succ]
          refine wpAnyG_keep (i := 4) (oi := ⟨some 104, _, _, _, _, _⟩) (by kernel_rfl) rfl (fun K hK => ?_)
          rw [if_pos (by rfl)]
          go_simp
          refine (RTurn.at6 x4 _).mono ?_
          rintro e w1 ⟨rfl, q1, rfl⟩
          refine hK.out _ _ ?_ (fun hS => ?_)
          · exact hS
          clear hK K
          try simp only [Act.put, List.setIfInBounds_toArray, List.set_cons_zero, List.set_cons_succ]
          refine wpAnyG_keep (i := 7) (oi := ⟨some 107, _, _, _, _, _⟩) (by kernel_rfl) rfl (fun K hK => ?_)
          rw [if_pos (by rfl)]
          go_simp
          refine (RTurn.at11 x4 _).mono ?_
          rintro e w1 ⟨rfl, q2, rfl⟩
          refine hK.out _ _ ?_ (fun hS => ?_)
          · exact hS
          clear hK K
          try simp only [Act.put, List.setIfInBounds_toArray, List.set_cons_zero, List.set_cons_succ]
          refine wpAnyG_pure (i := 8) (oi := ⟨some 108, _, _, _, _, _⟩) (v := ?_) rfl (by kernel_rfl) (by kernel_rfl) (by kernel_rfl) (by rfl) (fun _ _ _ h => h) (by rfl) ?_ ?_
          rotate_left
          · intro w
            go_simp
            first | done | with_reducible rfl
          try simp only [Act.put, List.setIfInBounds_toArray, List.set_cons_zero, List.set_cons_succ]
          refine wpAnyG_keep (i := 11) (oi := ⟨some 111, _, _, _, _, _⟩) (by kernel_rfl) rfl (fun K hK => ?_)
          rw [if_pos (by rfl)]
          go_simp
          refine (RTurn.at25 x4 _).mono ?_
          rintro e w1 ⟨rfl, q3, rfl⟩
          refine hK.out _ _ ?_ (fun hS => ?_)
          · exact hS
          clear hK K
          try simp only [Act.put, List.setIfInBounds_toArray, List.set_cons_zero, List.set_cons_succ]
          refine wpAnyG_pure (i := 12) (oi := ⟨some 112, _, _, _, _, _⟩) (v := ?_) rfl (by kernel_rfl) (by kernel_rfl) (by kernel_rfl) (by rfl) (fun _ _ _ h => h) (by rfl) ?_ ?_
          rotate_left
          · intro w
            go_simp
            first | done | with_reducible rfl
          try simp only [Act.put, List.setIfInBounds_toArray, List.set_cons_zero, List.set_cons_succ]
          refine wpAnyG_pure (i := 13) (oi := ⟨some 113, _, _, _, _, _⟩) (v := ?_) rfl (by kernel_rfl) (by kernel_rfl) (by kernel_rfl) (by rfl) (fun _ _ _ h => h) (by rfl) ?_ ?_
          rotate_left
          · intro w
            go_simp
            first | done | with_reducible rfl
          try simp only [Act.put, List.setIfInBounds_toArray, List.set_cons_zero, List.set_cons_succ]
          refine wpAnyG_pure (i := 26) (oi := ⟨some 126, _, _, _, _, _⟩) (v := ?_) rfl (by kernel_rfl) (by kernel_rfl) (by kernel_rfl) (by rfl) (fun _ _ _ h => h) (by rfl) ?_ ?_
          rotate_left
          · intro w
            go_simp
            first | done | with_reducible rfl
          try simp only [Act.put, List.setIfInBounds_toArray, List.set_cons_zero, List.set_cons_succ]
          refine wpAnyG_pure (i := 30) (oi := ⟨some 130, _, _, _, _, _⟩) (v := ?_) rfl (by kernel_rfl) (by kernel_rfl) (by kernel_rfl) (by rfl) (fun _ _ _ h => h) (by rfl) ?_ ?_
          rotate_left
          · intro w
            go_simp
            first | done | with_reducible rfl
          try simp only [Act.put, List.setIfInBounds_toArray, List.set_cons_zero, List.set_cons_succ]
          refine wpAnyG_pure (i := 34) (oi := ⟨some 134, _, _, _, _, _⟩) (v := ?_) rfl (by kernel_rfl) (by kernel_rfl) (by kernel_rfl) (by rfl) (fun _ _ _ h => h) (by rfl) ?_ ?_
          rotate_left
          · intro w
            go_simp
            first | done | with_reducible rfl
          try simp only [Act.put, List.setIfInBounds_toArray, List.set_cons_zero, List.set_cons_succ]
          refine wpAnyG_pure (i := 35) (oi := ⟨some 15, _, _, _, _, _⟩) (v := ?_) rfl (by kernel_rfl) (by kernel_rfl) (by kernel_rfl) (by rfl) (fun _ _ _ h => h) (by rfl) ?_ ?_
          rotate_left
          · intro w
            go_simp
            first | done | with_reducible rfl
          try simp only [Act.put, List.setIfInBounds_toArray, List.set_cons_zero, List.set_cons_succ]
          refine wpAnyG_done (by kernel_rfl) ?_ _
          refine NoPanic.normal ?_
          clear wr1 wr2 wr3 wr4 hS
          go_wp2_with fail
          have m1 := tn_bd (rotr x0 2 ^^^ rotr x0 13 ^^^ rotr x0 22)
          have m2 := tn_bd (x0 &&& x1 ^^^ x0 &&& x2 ^^^ x1 &&& x2)
          have wr5 : IntKind.i64.wrap (tn (rotr x0 2 ^^^ rotr x0 13 ^^^ rotr x0 22) + tn (x0 &&& x1 ^^^ x0 &&& x2 ^^^ x1 &&& x2)) = tn (rotr x0 2 ^^^ rotr x0 13 ^^^ rotr x0 22) + tn (x0 &&& x1 ^^^ x0 &&& x2 ^^^ x1 &&& x2) := IntWalk.i64_in _ (by omega)
          refine wp_region_text [1, 4, 8, 12, 14, 17, 19, 23, 25] (fun w' => w'.cell? ⟨b13, 0, none⟩ = some (V64 x0) ∧ w'.cell? ⟨b13, 1, none⟩ = some (V64 x1) ∧ w'.cell? ⟨b13, 2, none⟩ = some (V64 x2)) (by kernel_rfl) ?_ (fun hS => ?_)
          · exact ⟨c0, c1, c2⟩
          refine wpAnyG_pure (i := 0) (oi := ⟨some 135, _, _, _, _, _⟩) (v := ?_) rfl (by kernel_rfl) (by kernel_rfl) (by kernel_rfl) (by rfl) (fun _ _ _ h => h) (by rfl) ?_ ?_
          rotate_left
          · intro w
            go_simp
            first | done | with_reducible rfl
          try simp only [Act.put, List.setIfInBounds_toArray, List.set_cons_zero, List.set_cons_succ]
          refine wpAnyG_load (i := 1) (oi := ⟨some 136, _, _, _, _, _⟩) (v := ?_) rfl (by kernel_rfl) (by kernel_rfl) (by kernel_rfl) (by rfl) (fun _ _ _ h => h) (by rfl) ?_ (by assumption) ?_
          rotate_left
          · intro w hS
            try dsimp only at hS
            go_simp
            first | done | with_reducible rfl
          try simp only [Act.put, List.setIfInBounds_toArray, List.set_cons_zero, List.set_cons_succ]
          refine wpAnyG_pure (i := 3) (oi := ⟨some 138, _, _, _, _, _⟩) (v := ?_) rfl (by kernel_rfl) (by kernel_rfl) (by kernel_rfl) (by rfl) (fun _ _ _ h => h) (by rfl) ?_ ?_
          rotate_left
          · intro w
            go_simp
            first | done | with_reducible rfl
          try simp only [Act.put, List.setIfInBounds_toArray, List.set_cons_zero, List.set_cons_succ]
          refine wpAnyG_load (i := 4) (oi := ⟨some 139, _, _, _, _, _⟩) (v := ?_) rfl (by kernel_rfl) (by kernel_rfl) (by kernel_rfl) (by rfl) (fun _ _ _ h => h) (by rfl) ?_ (by assumption) ?_
          rotate_left
          · intro w hS
            try dsimp only at hS
            go_simp
            first | done | with_reducible rfl
          try simp only [Act.put, List.setIfInBounds_toArray, List.set_cons_zero, List.set_cons_succ]
          refine wpAnyG_pure (i := 7) (oi := ⟨some 142, _, _, _, _, _⟩) (v := ?_) rfl (by kernel_rfl) (by kernel_rfl) (by kernel_rfl) (by rfl) (fun _ _ _ h => h) (by rfl) ?_ ?_
          rotate_left
          · intro w
            go_simp
            first | done | with_reducible rfl
          try simp only [Act.put, List.setIfInBounds_toArray, List.set_cons_zero, List.set_cons_succ]
          refine wpAnyG_load (i := 8) (oi := ⟨some 143, _, _, _, _, _⟩) (v := ?_) rfl (by kernel_rfl) (by kernel_rfl) (by kernel_rfl) (by rfl) (fun _ _ _ h => h) (by rfl) ?_ (by assumption) ?_
          rotate_left
          · intro w hS
            try dsimp only at hS
            go_simp
            first | done | with_reducible rfl
          try simp only [Act.put, List.setIfInBounds_toArray, List.set_cons_zero, List.set_cons_succ]
          refine wpAnyG_pure (i := 11) (oi := ⟨some 146, _, _, _, _, _⟩) (v := ?_) rfl (by kernel_rfl) (by kernel_rfl) (by kernel_rfl) (by rfl) (fun _ _ _ h => h) (by rfl) ?_ ?_
          rotate_left
          · intro w
            go_simp
            first | done | with_reducible rfl
          try simp only [Act.put, List.setIfInBounds_toArray, List.set_cons_zero, List.set_cons_succ]
          refine wpAnyG_load (i := 12) (oi := ⟨some 147, _, _, _, _, _⟩) (v := ?_) rfl (by kernel_rfl) (by kernel_rfl) (by kernel_rfl) (by rfl) (fun _ _ _ h => h) (by rfl) ?_ (by assumption) ?_
          rotate_left
          · intro w hS
            try dsimp only at hS
            go_simp
            first | done | with_reducible rfl
          try simp only [Act.put, List.setIfInBounds_toArray, List.set_cons_zero, List.set_cons_succ]
          refine wpAnyG_pure (i := 13) (oi := ⟨some 148, _, _, _, _, _⟩) (v := ?_) rfl (by kernel_rfl) (by kernel_rfl) (by kernel_rfl) (by rfl) (fun _ _ _ h => h) (by rfl) ?_ ?_
          rotate_left
          · intro w
            go_simp
            first | done | with_reducible rfl
          try simp only [Act.put, List.setIfInBounds_toArray, List.set_cons_zero, List.set_cons_succ]
          refine wpAnyG_load (i := 14) (oi := ⟨some 149, _, _, _, _, _⟩) (v := ?_) rfl (by kernel_rfl) (by kernel_rfl) (by kernel_rfl) (by rfl) (fun _ _ _ h => h) (by rfl) ?_ (by assumption) ?_
          rotate_left
          · intro w hS
            try dsimp only at hS
            go_simp
            first | done | with_reducible rfl
          try simp only [Act.put, List.setIfInBounds_toArray, List.set_cons_zero, List.set_cons_succ]
          refine wpAnyG_pure (i := 15) (oi := ⟨some 150, _, _, _, _, _⟩) (v := ?_) rfl (by kernel_rfl) (by kernel_rfl) (by kernel_rfl) (by rfl) (fun _ _ _ h => h) (by rfl) ?_ ?_
          rotate_left
          · intro w
            go_simp
            first | done | with_reducible rfl
          try simp only [Act.put, List.setIfInBounds_toArray, List.set_cons_zero, List.set_cons_succ]
          refine wpAnyG_pure (i := 16) (oi := ⟨some 151, _, _, _, _, _⟩) (v := ?_) rfl (by kernel_rfl) (by kernel_rfl) (by kernel_rfl) (by rfl) (fun _ _ _ h => h) (by rfl) ?_ ?_
          rotate_left
          · intro w
            go_simp
            first | done | with_reducible rfl
          try simp only [Act.put, List.setIfInBounds_toArray, List.set_cons_zero, List.set_cons_succ]
          refine wpAnyG_load (i := 17) (oi := ⟨some 152, _, _, _, _, _⟩) (v := ?_) rfl (by kernel_rfl) (by kernel_rfl) (by kernel_rfl) (by rfl) (fun _ _ _ h => h) (by rfl) ?_ (by assumption) ?_
          rotate_left
          · intro w hS
            try dsimp only at hS
            go_simp
            first | done | with_reducible rfl
          try simp only [Act.put, List.setIfInBounds_toArray, List.set_cons_zero, List.set_cons_succ]
          refine wpAnyG_pure (i := 18) (oi := ⟨some 153, _, _, _, _, _⟩) (v := ?_) rfl (by kernel_rfl) (by kernel_rfl) (by kernel_rfl) (by rfl) (fun _ _ _ h => h) (by rfl) ?_ ?_
          rotate_left
          · intro w
            go_simp
            first | done | with_reducible rfl
          try simp only [Act.put, List.setIfInBounds_toArray, List.set_cons_zero, List.set_cons_succ]
          refine wpAnyG_load (i := 19) (oi := ⟨some 154, _, _, _, _, _⟩) (v := ?_) rfl (by kernel_rfl) (by kernel_rfl) (by kernel_rfl) (by rfl) (fun _ _ _ h => h) (by rfl) ?_ (by assumption) ?_
          rotate_left
          · intro w hS
            try dsimp only at hS
            go_simp
            first | done | with_reducible rfl
          try simp only [Act.put, List.setIfInBounds_toArray, List.set_cons_zero, List.set_cons_succ]
          refine wpAnyG_pure (i := 20) (oi := ⟨some 155, _, _, _, _, _⟩) (v := ?_) rfl (by kernel_rfl) (by kernel_rfl) (by kernel_rfl) (by rfl) (fun _ _ _ h => h) (by rfl) ?_ ?_
          rotate_left
          · intro w
            go_simp
            first | done | with_reducible rfl
          try simp only [Act.put, List.setIfInBounds_toArray, List.set_cons_zero, List.set_cons_succ]
          refine wpAnyG_pure (i := 21) (oi := ⟨some 156, _, _, _, _, _⟩) (v := ?_) rfl (by kernel_rfl) (by kernel_rfl) (by kernel_rfl) (by rfl) (fun _ _ _ h => h) (by rfl) ?_ ?_
          rotate_left
          · intro w
            go_simp
            first | done | with_reducible rfl
          try simp only [Act.put, List.setIfInBounds_toArray, List.set_cons_zero, List.set_cons_succ]
          refine wpAnyG_pure (i := 22) (oi := ⟨some 157, _, _, _, _, _⟩) (v := ?_) rfl (by kernel_rfl) (by kernel_rfl) (by kernel_rfl) (by rfl) (fun _ _ _ h => h) (by rfl) ?_ ?_
          rotate_left
          · intro w
            go_simp
            first | done | with_reducible rfl
          try simp only [Act.put, List.setIfInBounds_toArray, List.set_cons_zero, List.set_cons_succ]
          refine wpAnyG_load (i := 23) (oi := ⟨some 158, _, _, _, _, _⟩) (v := ?_) rfl (by kernel_rfl) (by kernel_rfl) (by kernel_rfl) (by rfl) (fun _ _ _ h => h) (by rfl) ?_ (by assumption) ?_
          rotate_left
          · intro w hS
            try dsimp only at hS
            go_simp
            first | done | with_reducible rfl
          try simp only [Act.put, List.setIfInBounds_toArray, List.set_cons_zero, List.set_cons_succ]
          refine wpAnyG_pure (i := 24) (oi := ⟨some 159, _, _, _, _, _⟩) (v := ?_) rfl (by kernel_rfl) (by kernel_rfl) (by kernel_rfl) (by rfl) (fun _ _ _ h => h) (by rfl) ?_ ?_
          rotate_left
          · intro w
            go_simp
            first | done | with_reducible rfl
          try simp only [Act.put, List.setIfInBounds_toArray, List.set_cons_zero, List.set_cons_succ]
          refine wpAnyG_load (i := 25) (oi := ⟨some 160, _, _, _, _, _⟩) (v := ?_) rfl (by kernel_rfl) (by kernel_rfl) (by kernel_rfl) (by rfl) (fun _ _ _ h => h) (by rfl) ?_ (by assumption) ?_
          rotate_left
          · intro w hS
            try dsimp only at hS
            go_simp
            first | done | with_reducible rfl
          try simp only [Act.put, List.setIfInBounds_toArray, List.set_cons_zero, List.set_cons_succ]
          refine wpAnyG_pure (i := 26) (oi := ⟨some 161, _, _, _, _, _⟩) (v := ?_) rfl (by kernel_rfl) (by kernel_rfl) (by kernel_rfl) (by rfl) (fun _ _ _ h => h) (by rfl) ?_ ?_
          rotate_left
          · intro w
            go_simp
            first | done | with_reducible rfl
          try simp only [Act.put, List.setIfInBounds_toArray, List.set_cons_zero, List.set_cons_succ]
          refine wpAnyG_pure (i := 27) (oi := ⟨some 162, _, _, _, _, _⟩) (v := ?_) rfl (by kernel_rfl) (by kernel_rfl) (by kernel_rfl) (by rfl) (fun _ _ _ h => h) (by rfl) ?_ ?_
          rotate_left
          · intro w
            go_simp
            first | done | with_reducible rfl
          try simp only [Act.put, List.setIfInBounds_toArray, List.set_cons_zero, List.set_cons_succ]
          refine wpAnyG_keep (i := 2) (oi := ⟨some 137, _, _, _, _, _⟩) (by kernel_rfl) rfl (fun K hK => ?_)
          rw [if_pos (by rfl)]
          go_simp
          refine (RTurn.at2 x0 _).mono ?_
          rintro e w1 ⟨rfl, q4, rfl⟩
          refine hK.out _ _ ?_ (fun hS => ?_)
          · exact hS
          clear hK K
          try simp only [Act.put, List.setIfInBounds_toArray, List.set_cons_zero, List.set_cons_succ]
          refine wpAnyG_keep (i := 5) (oi := ⟨some 140, _, _, _, _, _⟩) (by kernel_rfl) rfl (fun K hK => ?_)
          rw [if_pos (by rfl)]
          go_simp
          refine (RTurn.at13 x0 _).mono ?_
          rintro e w1 ⟨rfl, q5, rfl⟩
          refine hK.out _ _ ?_ (fun hS => ?_)
          · exact hS
          clear hK K
          try simp only [Act.put, List.setIfInBounds_toArray, List.set_cons_zero, List.set_cons_succ]
          refine wpAnyG_pure (i := 6) (oi := ⟨some 141, _, _, _, _, _⟩) (v := ?_) rfl (by kernel_rfl) (by kernel_rfl) (by kernel_rfl) (by rfl) (fun _ _ _ h => h) (by rfl) ?_ ?_
          rotate_left
          · intro w
            go_simp
            first | done | with_reducible rfl
          try simp only [Act.put, List.setIfInBounds_toArray, List.set_cons_zero, List.set_cons_succ]
          refine wpAnyG_keep (i := 9) (oi := ⟨some 144, _, _, _, _, _⟩) (by kernel_rfl) rfl (fun K hK => ?_)
          rw [if_pos (by rfl)]
          go_simp
          refine (RTurn.at22 x0 _).mono ?_
          rintro e w1 ⟨rfl, q6, rfl⟩
          refine hK.out _ _ ?_ (fun hS => ?_)
          · exact hS
          clear hK K
          try simp only [Act.put, List.setIfInBounds_toArray, List.set_cons_zero, List.set_cons_succ]
          refine wpAnyG_pure (i := 10) (oi := ⟨some 145, _, _, _, _, _⟩) (v := ?_) rfl (by kernel_rfl) (by kernel_rfl) (by kernel_rfl) (by rfl) (fun _ _ _ h => h) (by rfl) ?_ ?_
          rotate_left
          · intro w
            go_simp
            first | done | with_reducible rfl
          try simp only [Act.put, List.setIfInBounds_toArray, List.set_cons_zero, List.set_cons_succ]
          refine wpAnyG_pure (i := 28) (oi := ⟨some 163, _, _, _, _, _⟩) (v := ?_) rfl (by kernel_rfl) (by kernel_rfl) (by kernel_rfl) (by rfl) (fun _ _ _ h => h) (by rfl) ?_ ?_
          rotate_left
          · intro w
            go_simp
            first | done | with_reducible rfl
          try simp only [Act.put, List.setIfInBounds_toArray, List.set_cons_zero, List.set_cons_succ]
          refine wpAnyG_pure (i := 29) (oi := ⟨some 16, _, _, _, _, _⟩) (v := ?_) rfl (by kernel_rfl) (by kernel_rfl) (by kernel_rfl) (by rfl) (fun _ _ _ h => h) (by rfl) ?_ ?_
          rotate_left
          · intro w
            go_simp
            first | done | with_reducible rfl
          try simp only [Act.put, List.setIfInBounds_toArray, List.set_cons_zero, List.set_cons_succ]
          refine wpAnyG_done (by kernel_rfl) ?_ _
          refine NoPanic.normal ?_
          clear wr5 hS
          have d3 := tn_bd x3
          have low7 := low_sum7 (rotr x0 2 ^^^ rotr x0 13 ^^^ rotr x0 22) (x0 &&& x1 ^^^ x0 &&& x2 ^^^ x1 &&& x2) x7 (rotr x4 6 ^^^ rotr x4 11 ^^^ rotr x4 25) (x4 &&& x5 ^^^ ~~~x4 &&& x6) kk ww
          have low6 := low_sum6 x3 x7 (rotr x4 6 ^^^ rotr x4 11 ^^^ rotr x4 25) (x4 &&& x5 ^^^ ~~~x4 &&& x6) kk ww
          have ehr : Sha.round ⟨x0, x1, x2, x3, x4, x5, x6, x7⟩ kk ww = ⟨x7 + (rotr x4 6 ^^^ rotr x4 11 ^^^ rotr x4 25) + (x4 &&& x5 ^^^ ~~~x4 &&& x6) + kk + ww + (rotr x0 2 ^^^ rotr x0 13 ^^^ rotr x0 22) + (x0 &&& x1 ^^^ x0 &&& x2 ^^^ x1 &&& x2), x0, x1, x2, x3 + (x7 + (rotr x4 6 ^^^ rotr x4 11 ^^^ rotr x4 25) + (x4 &&& x5 ^^^ ~~~x4 &&& x6) + kk + ww), x4, x5, x6⟩ := rfl
          have EH := Lib.hid ehr
          clear ehr HV
          generalize x7 + (rotr x4 6 ^^^ rotr x4 11 ^^^ rotr x4 25) + (x4 &&& x5 ^^^ ~~~x4 &&& x6) + kk + ww + (rotr x0 2 ^^^ rotr x0 13 ^^^ rotr x0 22) + (x0 &&& x1 ^^^ x0 &&& x2 ^^^ x1 &&& x2) = na at *
          generalize x3 + (x7 + (rotr x4 6 ^^^ rotr x4 11 ^^^ rotr x4 25) + (x4 &&& x5 ^^^ ~~~x4 &&& x6) + kk + ww) = ne at *
          go_wp2_with fail
          go_roundw
          case rel =>
            refine ⟨k + 1, by omega, by go_num, ?_⟩
            rw [HR.out, EH.out]
            exact (own_set8 _ _ _ _ _ _ _ _ (by exact H8.out)).blkEq' (SI_arr ⟨na, x0, x1, x2, ne, x4, x5, x6⟩).symm
          case measure => simp [intOf]; omega
        · obtain rfl : k = 64 := by omega
          generalize hv64 : Sha.rounds s (Sha.sched text.data.toList) 64 = v at hv
          have hcomp : Sha.compress s text.data.toList = s.add v := by unfold Sha.compress; rw [hv64]
          have HC := Lib.hid hcomp
          have hv2 : Own E wr (Hp.blk b3 I8 ((addTo s.list v.list 0).map V64).toArray :: Hp.blk b13 I8 (SI v).toArray :: Hp.blk b6 I8 (zi 8).toArray :: L) := by
            rw [addTo_zero]
            exact hv.f1.drop.f2.drop.f2
          have HV2 := Lib.hid hv2
          clear hv hv2 hcomp hv64 hlt
          go_wp2_with fail
          go_loopw [17] (fun i wr => ∃ k : Nat, k ≤ 8 ∧ i = .int .i64 k ∧ Own E wr (Hp.blk b3 I8 ((addTo s.list v.list k).map V64).toArray :: Hp.blk b13 I8 (SI v).toArray :: Hp.blk b6 I8 (zi 8).toArray :: L)) (fun i _ => 8 - (intOf i).toNat)
          case atStart => exact ⟨0, by omega, rfl, HV2.out⟩
          case round =>
            obtain ⟨k, hk2, rfl, hv⟩ := hrel
            clear HV2
            by_cases hlt : k < 8
            · have c1 := hv.cell k
              rw [addTo_at64 s.list v.list k (S8_lens s v) (S8_lt s hlt)] at c1
              have c2 := hv.f1.cell k
              rw [show (SI v).toArray[k]? = some (V64 (v.list.getD k 0)) by
                have : k < v.list.length := S8_lt v hlt
                simp [this]] at c2
              have f1 := hv.frozen k
              have hs := Own.blkEq (addTo_set64 s.list v.list k (S8_lens s v) (S8_lt s hlt)) (hv.drew.set k (V64 (s.list.getD k 0 + v.list.getD k 0)))
              have Hs := Lib.hid hs
              have HV := Lib.hid hv
              clear hv hs
              generalize s.list.getD k 0 = x at *
              generalize v.list.getD k 0 = y at *
              have i1 : (0 : Int) ≤ (k : Int) := by omega
              have i2 : (k : Int) < 8 := by omega
              have n1 := tn_bd x
              have n2 := tn_bd y
              have low := low_sum2 x y
              generalize x + y = z at *
              have wr1 : IntKind.i64.wrap (tn x + tn y) = tn x + tn y := IntWalk.i64_in _ (by omega)
              go_wp2_with fail
              refine wp_region_text [3, 6] (fun w' => w'.cell? ⟨b3, k, none⟩ = some (V64 x) ∧ w'.cell? ⟨b13, k, none⟩ = some (V64 y)) (by kernel_rfl) ?_ (fun hS => ?_)
              · exact ⟨c1, c2⟩
              refine wpAnyG_pure (i := 0) (oi := ⟨some 190, _, _, _, _, _⟩) (v := ?_) rfl (by kernel_rfl) (by kernel_rfl) (by kernel_rfl) (by rfl) (fun _ _ _ h => h) (by rfl) ?_ ?_
              rotate_left
              · intro w
                go_simp
                first | done | with_reducible rfl
              try simp only [Act.put, List.setIfInBounds_toArray, List.set_cons_zero, List.set_cons_succ]
              refine wpAnyG_pure (i := 1) (oi := ⟨some 191, _, _, _, _, _⟩) (v := ?_) rfl (by kernel_rfl) (by kernel_rfl) (by kernel_rfl) (by rfl) (fun _ _ _ h => h) (by rfl) ?_ ?_
              rotate_left
              · intro w
                go_simp
                first | done | with_reducible rfl
              try simp only [Act.put, List.setIfInBounds_toArray, List.set_cons_zero, List.set_cons_succ]
              refine wpAnyG_pure (i := 2) (oi := ⟨some 192, _, _, _, _, _⟩) (v := ?_) rfl (by kernel_rfl) (by kernel_rfl) (by kernel_rfl) (by rfl) (fun _ _ _ h => h) (by rfl) ?_ ?_
              rotate_left
              · intro w
                go_simp
                first | done | with_reducible rfl
              try simp only [Act.put, List.setIfInBounds_toArray, List.set_cons_zero, List.set_cons_succ]
              refine wpAnyG_load (i := 3) (oi := ⟨some 193, _, _, _, _, _⟩) (v := ?_) rfl (by kernel_rfl) (by kernel_rfl) (by kernel_rfl) (by rfl) (fun _ _ _ h => h) (by rfl) ?_ (by assumption) ?_
              rotate_left
              · intro w hS
                try dsimp only at hS
                go_simp
                first | done | with_reducible rfl
              try simp only [Act.put, List.setIfInBounds_toArray, List.set_cons_zero, List.set_cons_succ]
              refine wpAnyG_pure (i := 4) (oi := ⟨some 194, _, _, _, _, _⟩) (v := ?_) rfl (by kernel_rfl) (by kernel_rfl) (by kernel_rfl) (by rfl) (fun _ _ _ h => h) (by rfl) ?_ ?_
              rotate_left
              · intro w
                go_simp
                first | done | with_reducible rfl
              try simp only [Act.put, List.setIfInBounds_toArray, List.set_cons_zero, List.set_cons_succ]
              refine wpAnyG_pure (i := 5) (oi := ⟨some 195, _, _, _, _, _⟩) (v := ?_) rfl (by kernel_rfl) (by kernel_rfl) (by kernel_rfl) (by rfl) (fun _ _ _ h => h) (by rfl) ?_ ?_
              rotate_left
              · intro w
                go_simp
                first | done | with_reducible rfl
              try simp only [Act.put, List.setIfInBounds_toArray, List.set_cons_zero, List.set_cons_succ]
              refine wpAnyG_load (i := 6) (oi := ⟨some 196, _, _, _, _, _⟩) (v := ?_) rfl (by kernel_rfl) (by kernel_rfl) (by kernel_rfl) (by rfl) (fun _ _ _ h => h) (by rfl) ?_ (by assumption) ?_
              rotate_left
              · intro w hS
                try dsimp only at hS
                go_simp
                first | done | with_reducible rfl
              try simp only [Act.put, List.setIfInBounds_toArray, List.set_cons_zero, List.set_cons_succ]
              refine wpAnyG_pure (i := 7) (oi := ⟨some 197, _, _, _, _, _⟩) (v := ?_) rfl (by kernel_rfl) (by kernel_rfl) (by kernel_rfl) (by rfl) (fun _ _ _ h => h) (by rfl) ?_ ?_
              rotate_left
              · intro w
                go_simp
                first | done | with_reducible rfl
              try simp only [Act.put, List.setIfInBounds_toArray, List.set_cons_zero, List.set_cons_succ]
              refine wpAnyG_pure (i := 8) (oi := ⟨some 198, _, _, _, _, _⟩) (v := ?_) rfl (by kernel_rfl) (by kernel_rfl) (by kernel_rfl) (by rfl) (fun _ _ _ h => h) (by rfl) ?_ ?_
              rotate_left
              · intro w
                go_simp
                first | done | with_reducible rfl
              try simp only [Act.put, List.setIfInBounds_toArray, List.set_cons_zero, List.set_cons_succ]
              refine wpAnyG_pure (i := 9) (oi := ⟨some 199, _, _, _, _, _⟩) (v := ?_) rfl (by kernel_rfl) (by kernel_rfl) (by kernel_rfl) (by rfl) (fun _ _ _ h => h) (by rfl) ?_ ?_
              rotate_left
              · intro w
                go_simp
                first | done | with_reducible rfl
              try simp only [Act.put, List.setIfInBounds_toArray, List.set_cons_zero, List.set_cons_succ]
              refine wpAnyG_break (i := 10) (oi := ⟨none, _, _, _, _, _⟩) (by kernel_rfl) rfl (by kernel_rfl) (fun K hK => ?_)
              rw [if_pos (by rfl)]
              go_simp
              refine hK.out _ _ ?_
              clear hK K
              try simp only [Act.put]
              refine wpAnyG_done (by kernel_rfl) ?_ _
              refine NoPanic.normal ?_
              clear wr1
              go_wp2_with fail
              go_roundw
              case rel =>
                (repeat apply Exists.intro)
                exact ⟨⟨k + 1, by omega, by go_num, Hs.out⟩, rfl⟩
              case measure => simp [intOf]; omega
            · obtain rfl : k = 8 := by omega
              rw [addTo_all, ← HC.out] at hv
              clear hlt hk2
              obtain ⟨o, ho⟩ : ∃ o, o = Sha.compress s text.data.toList := ⟨_, rfl⟩
              rw [← ho] at hv
              have HO := Lib.hid ho
              clear ho
              go_upto_region 23 with (fail)
              refine wp_region_list ?_
              refine wpList_load_arr hv 0 (SI o) (fun j u hu => by simpa using hu) (d0 := .array 8 3) (by kernel_rfl) rfl (sizeI8 o.list rfl) rfl rfl rfl ?_
              refine wpList_store_whole (cs := zi 8) (vs := SI o) (hv.drop.drop) (by simp [zi, Sha.S8.list]) (V64_one _) (sizeI8 o.list rfl) rfl rfl rfl rfl ?_
              intro w3 h3
              go_wp2_with fail
              exact bodyPost_ret (results_arr Tryd.results54 rfl h3 (d0 := .array 8 3) (by kernel_rfl) rfl (sizeI8 o.list rfl)) rfl ⟨by rw [HO.out], h3.drop⟩
end Go.Proofs.YtilcilbmbhbakaaDoor
