/- latchkeylaw02.CodecReads: true of any two texts and any script. -/
import Derived.Test.YtokephnlelpjhaaDoorScript
import Derived.Test.YtokephnlelpjhaaDoorXRd
import Derived.Test.YtokephnlelpjhaaDoorAwake2
namespace Go.Proofs.YtokephnlelpjhaaDoor
open Go.RowKit
abbrev PRT : TypeId := 43
abbrev PXT : TypeId := 46
abbrev ptr (b : Nat) : Value := .pointer (some ⟨b, 0, none⟩)
/-- Two Readers and two of the reference's, each two alike. -/
abbrev Two (b x : Nat) (s : ByteArray) (e : Int) (b' x' : Nat) (s' : ByteArray) (e' : Int) (M : List Hp) : List Hp :=
  Hp.rdr b s e :: Hp.xrd x s e :: Hp.rdr b' s' e' :: Hp.xrd x' s' e' :: M
theorem rNum_size (s : ByteArray) (e n : Int) : (rNum s e n).2.1.size ≤ s.size := by
  unfold rNum
  repeat' split
  all_goals first | exact Nat.le_refl _ | (rw [rest_size]; omega)
theorem rText_size (s : ByteArray) (e n : Int) : (rText s e n).2.1.size ≤ s.size := by
  unfold rText
  by_cases h1 : e ≠ 0
  · rw [if_pos h1]; exact Nat.le_refl _
  rw [if_neg h1]
  by_cases h2 : n < 0 ∨ 65535 < n
  · rw [if_pos h2]; exact Nat.le_refl _
  rw [if_neg h2]
  by_cases h3 : s.size < ahead n.toNat
  · rw [if_pos h3]; exact Nat.le_refl _
  rw [if_neg h3]
  by_cases h4 : n.toNat < numL (s.data.toList.take (ahead n.toNat))
  · rw [if_pos h4]; exact Nat.le_refl _
  rw [if_neg h4]
  by_cases h5 : s.size < ahead n.toNat + numL (s.data.toList.take (ahead n.toNat))
  · rw [if_pos h5]; exact Nat.le_refl _
  rw [if_neg h5]
  show (restB s _).size ≤ _
  rw [rest_size]
  exact Nat.sub_le _ _
theorem rRaw_size (s : ByteArray) (e n : Int) : (rRaw s e n).2.1.size ≤ s.size := by
  unfold rRaw
  repeat' split
  all_goals first | exact Nat.le_refl _ | (rw [rest_size]; omega)
/-- The one that is picked, ahead; and back. -/
theorem two_pick {E : World} {b0 x0 b1 x1 : Nat} {s0 s1 : ByteArray} {e0 e1 : Int} {Z : Nat} (z0 : s0.size ≤ Z) (z1 : s1.size ≤ Z) (j : Nat) (hj : j < 2) :
    ∃ b x s e b' x' s' e', #[ptr b0, ptr b1][j]? = some (ptr b) ∧ #[ptr x0, ptr x1][j]? = some (ptr x) ∧ s.size ≤ Z ∧ (∀ M w', Own E w' (Two b0 x0 s0 e0 b1 x1 s1 e1 M) → Own E w' (Two b x s e b' x' s' e' M)) ∧
      ∀ M w' t f, t.size ≤ Z → Own E w' (Two b x t f b' x' s' e' M) → ∃ t0 f0 t1 f1, t0.size ≤ Z ∧ t1.size ≤ Z ∧ Own E w' (Two b0 x0 t0 f0 b1 x1 t1 f1 M) := by
  rcases (by omega : j = 0 ∨ j = 1) with rfl | rfl
  · exact ⟨b0, x0, s0, e0, b1, x1, s1, e1, rfl, rfl, z0, fun _ _ h => h, fun _ _ t f hz h => ⟨t, f, s1, e1, hz, z1, h⟩⟩
  · exact ⟨b1, x1, s1, e1, b0, x0, s0, e0, rfl, rfl, z1, fun _ _ h => h.f2.f3.b1, fun _ _ t f hz h => ⟨s0, e0, t, f, z0, hz, h.f2.f3.b1⟩⟩
set_option maxRecDepth 100000 in
set_option maxHeartbeats 8000000 in
theorem reads_any {E : World} {S : Ph} {L : List Hp} (one two : ByteArray) (A : Option Addr) (n c : Nat) (xs : List Step) (w : World) (hn : n ≤ maxLen) (hr : Rds S 6 enStep A n xs)
    (hz : ∀ x ∈ xs, x.s.size ≤ 100000000000000000) (hok : ∀ x ∈ xs, i64B x.on) (h1 : one.size ≤ 140737488355328) (h2 : two.size ≤ 140737488355328) (hG : Laid0 E (Hp.ro S :: L)) (h : Own E w (Hp.ro S :: L)) :
    Calls Tryd.prog 4 #[.string one, .string two, .slice A n c] w fun e w' => e = .returned (.bool true) ∧ Own E w' (Hp.ro S :: L) := by
  have HR := Lib.hid hr
  have HK := Lib.hid hok
  obtain ⟨D, hD⟩ : ∃ D, D = addN one.size two.size := ⟨_, rfl⟩
  have hD1 : D ≤ 1000000000000000000 := by have := addN_top one.size two.size; omega
  have HD := Lib.hid hD
  have HZ := Lib.hid hz
  have HN := Lib.hid hn
  have o1 : one.size ≤ 1000000000000000000 := by omega
  have o2 : two.size ≤ 1000000000000000000 := by omega
  clear hr hok hD hz hn h1 h2
  go_enter Tryd.func4, Tryd.ntmps4
  go_wp2_with fail
  refine (size_any A n c xs _ HN.out HR.out HZ.out h).mono ?_
  rintro e w1 ⟨h1, z, hz1, hz2, rfl⟩
  clear h
  have HZ2 := Lib.hid hz2
  clear hz2
  go_wp2_with fail
  refine (add_any one.size two.size _ o1 o2).mono ?_
  rintro e w2 ⟨rfl, rfl⟩
  rw [← HD.out]
  go_wp2_with fail
  refine (add_any z D _ (by omega) hD1).mono ?_
  rintro e w2 ⟨rfl, rfl⟩
  obtain ⟨B, hB⟩ : ∃ B, B = addN z D := ⟨_, rfl⟩
  rw [← hB]
  by_cases hc : 2147483647 < B
  · have hci : (2147483647 : Int) < B := by omega
    go_wp2_with fail
    go_ret
    exact ⟨rfl, h1⟩
  have hci : ¬ (2147483647 : Int) < B := by omega
  have hfin : one.size ≤ 2147483647 ∧ two.size ≤ 2147483647 ∧ n ≤ 2147483647 := by
    have e1 := addN_le z D (by omega)
    have e2 := addN_le one.size two.size (by rw [← HD.out]; omega)
    have e3 := HZ2.out (by omega)
    have e4 := cost_len xs
    have e5 := HR.out.1
    omega
  obtain ⟨q1, q2, q3⟩ := hfin
  clear hB hc o1 o2 hD1 HD HZ2 HZ hz1
  go_wp2_with fail
  refine (awake_any _ h1).mono ?_
  rintro e w2 ⟨rfl, h2⟩
  clear h1
  go_wp2_with fail
  refine (newreader_any one _ h2).mono ?_
  rintro e w3 ⟨b0, rfl, h3'⟩
  have h3 := h3'.toRdr0
  clear h2 h3'
  go_wp2_with fail
  refine (newreader_any two _ h3).mono ?_
  rintro e w4 ⟨b1, rfl, h4⟩
  clear h3
  have h5 : Own E (w4.alloc (.cells #[ptr b0, ptr b1] PRT)) (Hp.blk w4.heap.size PRT #[ptr b0, ptr b1] :: Hp.rdr b1 two 0 :: Hp.rdr b0 one 0 :: Hp.ro S :: L) := h4.toRdr0.alloc _
  obtain ⟨gr, hgr⟩ : ∃ g, g = w4.heap.size := ⟨_, rfl⟩
  obtain ⟨w5, hw5⟩ : ∃ v, v = w4.alloc (.cells #[ptr b0, ptr b1] PRT) := ⟨_, rfl⟩
  rw [← hgr, ← hw5] at h5
  clear h4
  go_wp2_with fail
  rw [← hgr, ← hw5]
  clear hgr hw5
  refine (xnewreader_any one _ h5).mono ?_
  rintro e w6 ⟨x0, rfl, h6⟩
  clear h5
  go_wp2_with fail
  refine (xnewreader_any two _ h6).mono ?_
  rintro e w7 ⟨x1, rfl, h7⟩
  clear h6
  have h8 : Own E (w7.alloc (.cells #[ptr x0, ptr x1] PXT)) (Hp.blk w7.heap.size PXT #[ptr x0, ptr x1] :: Hp.xrd x1 two 0 :: Hp.xrd x0 one 0 :: Hp.blk gr PRT #[ptr b0, ptr b1] :: Hp.rdr b1 two 0 :: Hp.rdr b0 one 0 :: Hp.ro S :: L) := h7.alloc _
  have c80 : (w7.alloc (.cells #[ptr x0, ptr x1] PXT)).cell? ⟨gr, 0, none⟩ = some (ptr b0) := h8.f3.cell 0
  have c81 : (w7.alloc (.cells #[ptr x0, ptr x1] PXT)).cell? ⟨gr, 1, none⟩ = some (ptr b1) := h8.f3.cell 1
  obtain ⟨gy, hgy⟩ : ∃ g, g = w7.heap.size := ⟨_, rfl⟩
  obtain ⟨w8, hw8⟩ : ∃ v, v = w7.alloc (.cells #[ptr x0, ptr x1] PXT) := ⟨_, rfl⟩
  have h9 : Own E w8 (Two b0 x0 one 0 b1 x1 two 0 (Hp.blk gr PRT #[ptr b0, ptr b1] :: Hp.blk gy PXT #[ptr x0, ptr x1] :: Hp.ro S :: L)) := by
    rw [hw8, hgy]
    exact h8.ac (by simp only [Hp.all]; ac_rfl)
  have H9 := Lib.hid h9
  clear h7 h8 h9
  go_wp2_with fail
  rw [← hgy, ← hw8]
  clear hgy hw8 c80 c81
  go_loopw [10] (fun i wr => ∃ (k : Nat) (s0 : ByteArray) (e0 : Int) (s1 : ByteArray) (e1 : Int), k ≤ n ∧ i = .int .i64 k ∧ s0.size ≤ 2147483647 ∧ s1.size ≤ 2147483647 ∧ Own E wr (Two b0 x0 s0 e0 b1 x1 s1 e1 (Hp.blk gr PRT #[ptr b0, ptr b1] :: Hp.blk gy PXT #[ptr x0, ptr x1] :: Hp.ro S :: L))) (fun i _ => n - (intOf i).toNat)
  case atStart => exact ⟨0, one, 0, two, 0, by omega, rfl, q1, q2, H9.out⟩
  case round =>
    obtain ⟨k, s0, e0, s1, e1, hkn, rfl, z0, z1, hw⟩ := hrel
    clear H9
    by_cases hlt : k < n
    · obtain ⟨x, gx, off, hx, rfl, hc⟩ := HR.out.get hlt
      have hon := HK.out x (List.mem_of_getElem? hx)
      obtain ⟨kd, on, sz, nn, ss, xA, xl, xc, ll⟩ := x
      have hrange : wr.rangeAt gx (off + k * 6) (enStep ⟨kd, on, sz, nn, ss, xA, xl, xc, ll⟩) := fun j u hu => hw.f6.rd (hc j u hu)
      have HW := Lib.hid hw
      have HO := Lib.hid hon
      clear hc hx hw hon
      go_wp2_with (with_reducible refine at_slot (k := some 57) ?_; refine wpList_load_mid (op := ⟨some 57, _, _, _, _, _⟩) rfl OPT _ rfl gx (off + k * 6) rfl (enStep ⟨kd, on, sz, nn, ss, xA, xl, xc, ll⟩) _ hrange Tryd.underlying33 rfl (by kernel_rfl) ?_; clear hrange)
      have h1 : Own E (wr.alloc (.cells (enStep ⟨kd, on, sz, nn, ss, xA, xl, xc, ll⟩).toArray OPT)) (Hp.blk wr.heap.size OPT (enStep ⟨kd, on, sz, nn, ss, xA, xl, xc, ll⟩).toArray :: Two b0 x0 s0 e0 b1 x1 s1 e1 (Hp.blk gr PRT #[ptr b0, ptr b1] :: Hp.blk gy PXT #[ptr x0, ptr x1] :: Hp.ro S :: L)) := HW.out.alloc _
      have c0 : (wr.alloc (.cells (enStep ⟨kd, on, sz, nn, ss, xA, xl, xc, ll⟩).toArray OPT)).cell? ⟨wr.heap.size, 0, none⟩ = some (.int .i64 kd) := h1.cell 0
      have H1 := Lib.hid h1.b4
      clear h1 HW
      refine (pick_any on 2 _ HO.out (by omega) (by omega)).mono ?_
      rintro e w1 ⟨rfl, rfl⟩
      obtain ⟨j, hj⟩ : ∃ j, j = pickN on 2 := ⟨_, rfl⟩
      have hj2 : j < 2 := by rw [hj]; exact pickN_lt _ _ (by omega)
      rw [← hj]
      clear hj
      obtain ⟨b, x, s, e, b', x', s', e', hbj, hxj, zs, hto, hback⟩ := two_pick (E := E) (b0 := b0) (x0 := x0) (b1 := b1) (x1 := x1) (s0 := s0) (s1 := s1) (e0 := e0) (e1 := e1) (Z := 2147483647) z0 z1 j hj2
      have hji : (j : Int) < 2 := by omega
      have hj0 : (0 : Int) ≤ j := by omega
      obtain ⟨g7, hg7⟩ : ∃ g, g = wr.heap.size := ⟨_, rfl⟩
      obtain ⟨w2, hw2⟩ : ∃ v, v = wr.alloc (.cells (enStep ⟨kd, on, sz, nn, ss, xA, xl, xc, ll⟩).toArray OPT) := ⟨_, rfl⟩
      have H3 : Hid (Own E w2 (Two b x s e b' x' s' e' (Hp.blk g7 OPT (enStep ⟨kd, on, sz, nn, ss, xA, xl, xc, ll⟩).toArray :: Hp.blk gr PRT #[ptr b0, ptr b1] :: Hp.blk gy PXT #[ptr x0, ptr x1] :: Hp.ro S :: L))) := Lib.hid (by
        have q := H1.out
        rw [← hw2, ← hg7] at q
        exact hto _ _ q)
      have HC : Hid (∀ w' t f t2 f2, Own E w' (Hp.rdr b t f :: Hp.xrd x t2 f2 :: Hp.rdr b' s' e' :: Hp.xrd x' s' e' :: Hp.blk g7 OPT (enStep ⟨kd, on, sz, nn, ss, xA, xl, xc, ll⟩).toArray :: Hp.blk gr PRT #[ptr b0, ptr b1] :: Hp.blk gy PXT #[ptr x0, ptr x1] :: Hp.ro S :: L) →
          w'.cell? ⟨gr, j, none⟩ = some (ptr b) ∧ w'.cell? ⟨gy, j, none⟩ = some (ptr x) ∧ w'.cell? ⟨g7, 2, none⟩ = some (.int .i64 sz) ∧ w'.cell? ⟨g7, 3, none⟩ = some (.int .i64 nn)) := Lib.hid fun w' t f t2 f2 hq =>
        ⟨(hq.f5.cell j).trans hbj, (hq.f6.cell j).trans hxj, hq.f4.cell 2, hq.f4.cell 3⟩
      have HD2 : Hid (∀ w' t f t2 f2, Own E w' (Hp.xrd x t2 f2 :: Hp.rdr b t f :: Hp.rdr b' s' e' :: Hp.xrd x' s' e' :: Hp.blk g7 OPT (enStep ⟨kd, on, sz, nn, ss, xA, xl, xc, ll⟩).toArray :: Hp.blk gr PRT #[ptr b0, ptr b1] :: Hp.blk gy PXT #[ptr x0, ptr x1] :: Hp.ro S :: L) →
          w'.cell? ⟨gr, j, none⟩ = some (ptr b) ∧ w'.cell? ⟨gy, j, none⟩ = some (ptr x) ∧ w'.cell? ⟨g7, 2, none⟩ = some (.int .i64 sz) ∧ w'.cell? ⟨g7, 3, none⟩ = some (.int .i64 nn)) := Lib.hid fun w' t f t2 f2 hq =>
        ⟨(hq.f5.cell j).trans hbj, (hq.f6.cell j).trans hxj, hq.f4.cell 2, hq.f4.cell 3⟩
      have HB : Hid (∀ w' t f, t.size ≤ 2147483647 → Own E w' (Hp.xrd x t f :: Hp.rdr b t f :: Hp.rdr b' s' e' :: Hp.xrd x' s' e' :: Hp.blk g7 OPT (enStep ⟨kd, on, sz, nn, ss, xA, xl, xc, ll⟩).toArray :: Hp.blk gr PRT #[ptr b0, ptr b1] :: Hp.blk gy PXT #[ptr x0, ptr x1] :: Hp.ro S :: L) → ∃ t0 f0 t1 f1, t0.size ≤ 2147483647 ∧ t1.size ≤ 2147483647 ∧ Own E w' (Two b0 x0 t0 f0 b1 x1 t1 f1 (Hp.blk gr PRT #[ptr b0, ptr b1] :: Hp.blk gy PXT #[ptr x0, ptr x1] :: Hp.ro S :: L))) := Lib.hid fun w' t f hz hq => by
        obtain ⟨t0, f0, t1, f1, y0, y1, hy⟩ := hback _ _ t f hz hq.f1
        exact ⟨t0, f0, t1, f1, y0, y1, hy.f4.drop⟩
      rw [← hw2] at c0
      rw [← hg7] at c0
      rw [← hw2, ← hg7]
      clear hw2 hg7 H1 hbj hxj hto hback hj2 z0 z1
      by_cases k1 : kd = 1
      · subst k1
        obtain ⟨v, t, f, hr⟩ : ∃ v t f, rNum s e sz = (v, t, f) := ⟨_, _, _, rfl⟩
        have zt : t.size ≤ 2147483647 := by
          have := rNum_size s e sz
          rw [hr] at this
          exact Nat.le_trans this zs
        go_wp2_with fail
        refine wp_region_text [3, 5, 10, 12] (fun w' => w'.cell? ⟨gr, j, none⟩ = some (ptr b) ∧ w'.cell? ⟨gy, j, none⟩ = some (ptr x) ∧ w'.cell? ⟨g7, 2, none⟩ = some (.int .i64 sz) ∧ w'.cell? ⟨g7, 3, none⟩ = some (.int .i64 nn)) (by kernel_rfl) ?_ (fun hS => ?_)
        · exact HC.out _ _ _ _ _ H3.out.drew
        refine wpAnyG_pure (i := 0) (oi := ⟨some 65, _, _, _, _, _⟩) (v := ?_) rfl (by kernel_rfl) (by kernel_rfl) (by kernel_rfl) (by rfl) (fun _ _ _ h => h) (by rfl) ?_ ?_
        rotate_left
        · intro w
          go_simp
          first | done | with_reducible rfl
        try simp only [Act.put, List.setIfInBounds_toArray, List.set_cons_zero, List.set_cons_succ]
        refine wpAnyG_pure (i := 1) (oi := ⟨some 66, _, _, _, _, _⟩) (v := ?_) rfl (by kernel_rfl) (by kernel_rfl) (by kernel_rfl) (by rfl) (fun _ _ _ h => h) (by rfl) ?_ ?_
        rotate_left
        · intro w
          go_simp
          first | done | with_reducible rfl
        try simp only [Act.put, List.setIfInBounds_toArray, List.set_cons_zero, List.set_cons_succ]
        refine wpAnyG_pure (i := 2) (oi := ⟨some 67, _, _, _, _, _⟩) (v := ?_) rfl (by kernel_rfl) (by kernel_rfl) (by kernel_rfl) (by rfl) (fun _ _ _ h => h) (by rfl) ?_ ?_
        rotate_left
        · intro w
          go_simp
          first | done | with_reducible rfl
        try simp only [Act.put, List.setIfInBounds_toArray, List.set_cons_zero, List.set_cons_succ]
        refine wpAnyG_load (i := 3) (oi := ⟨some 68, _, _, _, _, _⟩) (v := ?_) rfl (by kernel_rfl) (by kernel_rfl) (by kernel_rfl) (by rfl) (fun _ _ _ h => h) (by rfl) ?_ (by assumption) ?_
        rotate_left
        · intro w hS
          try dsimp only at hS
          go_simp
          first | done | with_reducible rfl
        try simp only [Act.put, List.setIfInBounds_toArray, List.set_cons_zero, List.set_cons_succ]
        refine wpAnyG_pure (i := 4) (oi := ⟨some 69, _, _, _, _, _⟩) (v := ?_) rfl (by kernel_rfl) (by kernel_rfl) (by kernel_rfl) (by rfl) (fun _ _ _ h => h) (by rfl) ?_ ?_
        rotate_left
        · intro w
          go_simp
          first | done | with_reducible rfl
        try simp only [Act.put, List.setIfInBounds_toArray, List.set_cons_zero, List.set_cons_succ]
        refine wpAnyG_load (i := 5) (oi := ⟨some 70, _, _, _, _, _⟩) (v := ?_) rfl (by kernel_rfl) (by kernel_rfl) (by kernel_rfl) (by rfl) (fun _ _ _ h => h) (by rfl) ?_ (by assumption) ?_
        rotate_left
        · intro w hS
          try dsimp only at hS
          go_simp
          first | done | with_reducible rfl
        try simp only [Act.put, List.setIfInBounds_toArray, List.set_cons_zero, List.set_cons_succ]
        refine wpAnyG_pure (i := 7) (oi := ⟨some 72, _, _, _, _, _⟩) (v := ?_) rfl (by kernel_rfl) (by kernel_rfl) (by kernel_rfl) (by rfl) (fun _ _ _ h => h) (by rfl) ?_ ?_
        rotate_left
        · intro w
          go_simp
          first | done | with_reducible rfl
        try simp only [Act.put, List.setIfInBounds_toArray, List.set_cons_zero, List.set_cons_succ]
        refine wpAnyG_pure (i := 8) (oi := ⟨some 73, _, _, _, _, _⟩) (v := ?_) rfl (by kernel_rfl) (by kernel_rfl) (by kernel_rfl) (by rfl) (fun _ _ _ h => h) (by rfl) ?_ ?_
        rotate_left
        · intro w
          go_simp
          first | done | with_reducible rfl
        try simp only [Act.put, List.setIfInBounds_toArray, List.set_cons_zero, List.set_cons_succ]
        refine wpAnyG_pure (i := 9) (oi := ⟨some 74, _, _, _, _, _⟩) (v := ?_) rfl (by kernel_rfl) (by kernel_rfl) (by kernel_rfl) (by rfl) (fun _ _ _ h => h) (by rfl) ?_ ?_
        rotate_left
        · intro w
          go_simp
          first | done | with_reducible rfl
        try simp only [Act.put, List.setIfInBounds_toArray, List.set_cons_zero, List.set_cons_succ]
        refine wpAnyG_load (i := 10) (oi := ⟨some 75, _, _, _, _, _⟩) (v := ?_) rfl (by kernel_rfl) (by kernel_rfl) (by kernel_rfl) (by rfl) (fun _ _ _ h => h) (by rfl) ?_ (by assumption) ?_
        rotate_left
        · intro w hS
          try dsimp only at hS
          go_simp
          first | done | with_reducible rfl
        try simp only [Act.put, List.setIfInBounds_toArray, List.set_cons_zero, List.set_cons_succ]
        refine wpAnyG_pure (i := 11) (oi := ⟨some 76, _, _, _, _, _⟩) (v := ?_) rfl (by kernel_rfl) (by kernel_rfl) (by kernel_rfl) (by rfl) (fun _ _ _ h => h) (by rfl) ?_ ?_
        rotate_left
        · intro w
          go_simp
          first | done | with_reducible rfl
        try simp only [Act.put, List.setIfInBounds_toArray, List.set_cons_zero, List.set_cons_succ]
        refine wpAnyG_load (i := 12) (oi := ⟨some 77, _, _, _, _, _⟩) (v := ?_) rfl (by kernel_rfl) (by kernel_rfl) (by kernel_rfl) (by rfl) (fun _ _ _ h => h) (by rfl) ?_ (by assumption) ?_
        rotate_left
        · intro w hS
          try dsimp only at hS
          go_simp
          first | done | with_reducible rfl
        try simp only [Act.put, List.setIfInBounds_toArray, List.set_cons_zero, List.set_cons_succ]
        refine wpAnyG_keep (i := 6) (oi := ⟨some 71, _, _, _, _, _⟩) (by kernel_rfl) rfl (fun K hK => ?_)
        rw [if_pos (by rfl)]
        go_simp
        refine (rnum_all b s e sz v t f _ hr H3.out.drew).mono ?_
        rintro e8 w3 ⟨rfl, hq1⟩
        refine hK.out _ _ ?_ (fun hS => ?_)
        · exact HC.out _ _ _ _ _ hq1
        clear hK K
        try simp only [Act.put, List.setIfInBounds_toArray, List.set_cons_zero, List.set_cons_succ]
        refine wpAnyG_keep (i := 13) (oi := ⟨some 78, _, _, _, _, _⟩) (by kernel_rfl) rfl (fun K hK => ?_)
        rw [if_pos (by rfl)]
        go_simp
        refine (xrnum_all x s e sz v t f _ hr hq1.f1).mono ?_
        rintro e8 w4 ⟨rfl, hq2⟩
        refine hK.out _ _ ?_ (fun hS => ?_)
        · exact HD2.out _ _ _ _ _ hq2
        clear hK K
        try simp only [Act.put, List.setIfInBounds_toArray, List.set_cons_zero, List.set_cons_succ]
        refine wpAnyG_pure (i := 14) (oi := ⟨some 79, _, _, _, _, _⟩) (v := ?_) rfl (by kernel_rfl) (by kernel_rfl) (by kernel_rfl) (by rfl) (fun _ _ _ h => h) (by rfl) ?_ ?_
        rotate_left
        · intro w
          go_simp
          first | done | with_reducible rfl
        try simp only [Act.put, List.setIfInBounds_toArray, List.set_cons_zero, List.set_cons_succ]
        refine wpAnyG_pure (i := 15) (oi := ⟨some 13, _, _, _, _, _⟩) (v := ?_) rfl (by kernel_rfl) (by kernel_rfl) (by kernel_rfl) (by rfl) (fun _ _ _ h => h) (by rfl) ?_ ?_
        rotate_left
        · intro w
          go_simp
          first | done | with_reducible rfl
        try simp only [Act.put, List.setIfInBounds_toArray, List.set_cons_zero, List.set_cons_succ]
        refine wpAnyG_done (by kernel_rfl) ?_ _
        refine NoPanic.normal ?_
        obtain ⟨t0, f0, t1, f1, y0, y1, hy⟩ := HB.out _ _ _ zt hq2
        have HY := Lib.hid hy
        clear hy hq1 hq2 c0 hr
        go_wp2_with fail
        go_roundw
        case rel => exact ⟨k + 1, t0, f0, t1, f1, by omega, by go_num, y0, y1, HY.out⟩
        case measure => simp [intOf]; omega
      have b1 : (kd == 1) = false := by simpa using k1
      by_cases k2 : kd = 2
      · subst k2
        obtain ⟨v, t, f, hr⟩ : ∃ v t f, rText s e nn = (v, t, f) := ⟨_, _, _, rfl⟩
        have zt : t.size ≤ 2147483647 := by
          have := rText_size s e nn
          rw [hr] at this
          exact Nat.le_trans this zs
        go_wp2_with fail
        refine wp_region_text [3, 5, 10, 12] (fun w' => w'.cell? ⟨gr, j, none⟩ = some (ptr b) ∧ w'.cell? ⟨gy, j, none⟩ = some (ptr x) ∧ w'.cell? ⟨g7, 2, none⟩ = some (.int .i64 sz) ∧ w'.cell? ⟨g7, 3, none⟩ = some (.int .i64 nn)) (by kernel_rfl) ?_ (fun hS => ?_)
        · exact HC.out _ _ _ _ _ H3.out.drew
        refine wpAnyG_pure (i := 0) (oi := ⟨some 82, _, _, _, _, _⟩) (v := ?_) rfl (by kernel_rfl) (by kernel_rfl) (by kernel_rfl) (by rfl) (fun _ _ _ h => h) (by rfl) ?_ ?_
        rotate_left
        · intro w
          go_simp
          first | done | with_reducible rfl
        try simp only [Act.put, List.setIfInBounds_toArray, List.set_cons_zero, List.set_cons_succ]
        refine wpAnyG_pure (i := 1) (oi := ⟨some 83, _, _, _, _, _⟩) (v := ?_) rfl (by kernel_rfl) (by kernel_rfl) (by kernel_rfl) (by rfl) (fun _ _ _ h => h) (by rfl) ?_ ?_
        rotate_left
        · intro w
          go_simp
          first | done | with_reducible rfl
        try simp only [Act.put, List.setIfInBounds_toArray, List.set_cons_zero, List.set_cons_succ]
        refine wpAnyG_pure (i := 2) (oi := ⟨some 84, _, _, _, _, _⟩) (v := ?_) rfl (by kernel_rfl) (by kernel_rfl) (by kernel_rfl) (by rfl) (fun _ _ _ h => h) (by rfl) ?_ ?_
        rotate_left
        · intro w
          go_simp
          first | done | with_reducible rfl
        try simp only [Act.put, List.setIfInBounds_toArray, List.set_cons_zero, List.set_cons_succ]
        refine wpAnyG_load (i := 3) (oi := ⟨some 85, _, _, _, _, _⟩) (v := ?_) rfl (by kernel_rfl) (by kernel_rfl) (by kernel_rfl) (by rfl) (fun _ _ _ h => h) (by rfl) ?_ (by assumption) ?_
        rotate_left
        · intro w hS
          try dsimp only at hS
          go_simp
          first | done | with_reducible rfl
        try simp only [Act.put, List.setIfInBounds_toArray, List.set_cons_zero, List.set_cons_succ]
        refine wpAnyG_pure (i := 4) (oi := ⟨some 86, _, _, _, _, _⟩) (v := ?_) rfl (by kernel_rfl) (by kernel_rfl) (by kernel_rfl) (by rfl) (fun _ _ _ h => h) (by rfl) ?_ ?_
        rotate_left
        · intro w
          go_simp
          first | done | with_reducible rfl
        try simp only [Act.put, List.setIfInBounds_toArray, List.set_cons_zero, List.set_cons_succ]
        refine wpAnyG_load (i := 5) (oi := ⟨some 87, _, _, _, _, _⟩) (v := ?_) rfl (by kernel_rfl) (by kernel_rfl) (by kernel_rfl) (by rfl) (fun _ _ _ h => h) (by rfl) ?_ (by assumption) ?_
        rotate_left
        · intro w hS
          try dsimp only at hS
          go_simp
          first | done | with_reducible rfl
        try simp only [Act.put, List.setIfInBounds_toArray, List.set_cons_zero, List.set_cons_succ]
        refine wpAnyG_pure (i := 7) (oi := ⟨some 89, _, _, _, _, _⟩) (v := ?_) rfl (by kernel_rfl) (by kernel_rfl) (by kernel_rfl) (by rfl) (fun _ _ _ h => h) (by rfl) ?_ ?_
        rotate_left
        · intro w
          go_simp
          first | done | with_reducible rfl
        try simp only [Act.put, List.setIfInBounds_toArray, List.set_cons_zero, List.set_cons_succ]
        refine wpAnyG_pure (i := 8) (oi := ⟨some 90, _, _, _, _, _⟩) (v := ?_) rfl (by kernel_rfl) (by kernel_rfl) (by kernel_rfl) (by rfl) (fun _ _ _ h => h) (by rfl) ?_ ?_
        rotate_left
        · intro w
          go_simp
          first | done | with_reducible rfl
        try simp only [Act.put, List.setIfInBounds_toArray, List.set_cons_zero, List.set_cons_succ]
        refine wpAnyG_pure (i := 9) (oi := ⟨some 91, _, _, _, _, _⟩) (v := ?_) rfl (by kernel_rfl) (by kernel_rfl) (by kernel_rfl) (by rfl) (fun _ _ _ h => h) (by rfl) ?_ ?_
        rotate_left
        · intro w
          go_simp
          first | done | with_reducible rfl
        try simp only [Act.put, List.setIfInBounds_toArray, List.set_cons_zero, List.set_cons_succ]
        refine wpAnyG_load (i := 10) (oi := ⟨some 92, _, _, _, _, _⟩) (v := ?_) rfl (by kernel_rfl) (by kernel_rfl) (by kernel_rfl) (by rfl) (fun _ _ _ h => h) (by rfl) ?_ (by assumption) ?_
        rotate_left
        · intro w hS
          try dsimp only at hS
          go_simp
          first | done | with_reducible rfl
        try simp only [Act.put, List.setIfInBounds_toArray, List.set_cons_zero, List.set_cons_succ]
        refine wpAnyG_pure (i := 11) (oi := ⟨some 93, _, _, _, _, _⟩) (v := ?_) rfl (by kernel_rfl) (by kernel_rfl) (by kernel_rfl) (by rfl) (fun _ _ _ h => h) (by rfl) ?_ ?_
        rotate_left
        · intro w
          go_simp
          first | done | with_reducible rfl
        try simp only [Act.put, List.setIfInBounds_toArray, List.set_cons_zero, List.set_cons_succ]
        refine wpAnyG_load (i := 12) (oi := ⟨some 94, _, _, _, _, _⟩) (v := ?_) rfl (by kernel_rfl) (by kernel_rfl) (by kernel_rfl) (by rfl) (fun _ _ _ h => h) (by rfl) ?_ (by assumption) ?_
        rotate_left
        · intro w hS
          try dsimp only at hS
          go_simp
          first | done | with_reducible rfl
        try simp only [Act.put, List.setIfInBounds_toArray, List.set_cons_zero, List.set_cons_succ]
        refine wpAnyG_keep (i := 6) (oi := ⟨some 88, _, _, _, _, _⟩) (by kernel_rfl) rfl (fun K hK => ?_)
        rw [if_pos (by rfl)]
        go_simp
        refine (rtext_all b s e nn v t f _ hr (by omega) H3.out.drew).mono ?_
        rintro e8 w3 ⟨rfl, hq1⟩
        refine hK.out _ _ ?_ (fun hS => ?_)
        · exact HC.out _ _ _ _ _ hq1
        clear hK K
        try simp only [Act.put, List.setIfInBounds_toArray, List.set_cons_zero, List.set_cons_succ]
        refine wpAnyG_keep (i := 13) (oi := ⟨some 95, _, _, _, _, _⟩) (by kernel_rfl) rfl (fun K hK => ?_)
        rw [if_pos (by rfl)]
        go_simp
        refine (xrtext_all x s e nn v t f _ hr (by omega) hq1.f1).mono ?_
        rintro e8 w4 ⟨rfl, hq2⟩
        refine hK.out _ _ ?_ (fun hS => ?_)
        · exact HD2.out _ _ _ _ _ hq2
        clear hK K
        try simp only [Act.put, List.setIfInBounds_toArray, List.set_cons_zero, List.set_cons_succ]
        refine wpAnyG_pure (i := 14) (oi := ⟨some 96, _, _, _, _, _⟩) (v := ?_) rfl (by kernel_rfl) (by kernel_rfl) (by kernel_rfl) (by rfl) (fun _ _ _ h => h) (by rfl) ?_ ?_
        rotate_left
        · intro w
          go_simp
          first | done | with_reducible rfl
        try simp only [Act.put, List.setIfInBounds_toArray, List.set_cons_zero, List.set_cons_succ]
        refine wpAnyG_pure (i := 15) (oi := ⟨some 13, _, _, _, _, _⟩) (v := ?_) rfl (by kernel_rfl) (by kernel_rfl) (by kernel_rfl) (by rfl) (fun _ _ _ h => h) (by rfl) ?_ ?_
        rotate_left
        · intro w
          go_simp
          first | done | with_reducible rfl
        try simp only [Act.put, List.setIfInBounds_toArray, List.set_cons_zero, List.set_cons_succ]
        refine wpAnyG_done (by kernel_rfl) ?_ _
        refine NoPanic.normal ?_
        obtain ⟨t0, f0, t1, f1, y0, y1, hy⟩ := HB.out _ _ _ zt hq2
        have HY := Lib.hid hy
        clear hy hq1 hq2 c0 hr
        go_wp2_with fail
        go_roundw
        case rel => exact ⟨k + 1, t0, f0, t1, f1, by omega, by go_num, y0, y1, HY.out⟩
        case measure => simp [intOf]; omega
      have b2 : (kd == 2) = false := by simpa using k2
      by_cases k3 : kd = 3
      · subst k3
        obtain ⟨v, t, f, hr⟩ : ∃ v t f, rRaw s e nn = (v, t, f) := ⟨_, _, _, rfl⟩
        have zt : t.size ≤ 2147483647 := by
          have := rRaw_size s e nn
          rw [hr] at this
          exact Nat.le_trans this zs
        go_wp2_with fail
        refine wp_region_text [3, 5, 10, 12] (fun w' => w'.cell? ⟨gr, j, none⟩ = some (ptr b) ∧ w'.cell? ⟨gy, j, none⟩ = some (ptr x) ∧ w'.cell? ⟨g7, 2, none⟩ = some (.int .i64 sz) ∧ w'.cell? ⟨g7, 3, none⟩ = some (.int .i64 nn)) (by kernel_rfl) ?_ (fun hS => ?_)
        · exact HC.out _ _ _ _ _ H3.out.drew
        refine wpAnyG_pure (i := 0) (oi := ⟨some 99, _, _, _, _, _⟩) (v := ?_) rfl (by kernel_rfl) (by kernel_rfl) (by kernel_rfl) (by rfl) (fun _ _ _ h => h) (by rfl) ?_ ?_
        rotate_left
        · intro w
          go_simp
          first | done | with_reducible rfl
        try simp only [Act.put, List.setIfInBounds_toArray, List.set_cons_zero, List.set_cons_succ]
        refine wpAnyG_pure (i := 1) (oi := ⟨some 100, _, _, _, _, _⟩) (v := ?_) rfl (by kernel_rfl) (by kernel_rfl) (by kernel_rfl) (by rfl) (fun _ _ _ h => h) (by rfl) ?_ ?_
        rotate_left
        · intro w
          go_simp
          first | done | with_reducible rfl
        try simp only [Act.put, List.setIfInBounds_toArray, List.set_cons_zero, List.set_cons_succ]
        refine wpAnyG_pure (i := 2) (oi := ⟨some 101, _, _, _, _, _⟩) (v := ?_) rfl (by kernel_rfl) (by kernel_rfl) (by kernel_rfl) (by rfl) (fun _ _ _ h => h) (by rfl) ?_ ?_
        rotate_left
        · intro w
          go_simp
          first | done | with_reducible rfl
        try simp only [Act.put, List.setIfInBounds_toArray, List.set_cons_zero, List.set_cons_succ]
        refine wpAnyG_load (i := 3) (oi := ⟨some 102, _, _, _, _, _⟩) (v := ?_) rfl (by kernel_rfl) (by kernel_rfl) (by kernel_rfl) (by rfl) (fun _ _ _ h => h) (by rfl) ?_ (by assumption) ?_
        rotate_left
        · intro w hS
          try dsimp only at hS
          go_simp
          first | done | with_reducible rfl
        try simp only [Act.put, List.setIfInBounds_toArray, List.set_cons_zero, List.set_cons_succ]
        refine wpAnyG_pure (i := 4) (oi := ⟨some 103, _, _, _, _, _⟩) (v := ?_) rfl (by kernel_rfl) (by kernel_rfl) (by kernel_rfl) (by rfl) (fun _ _ _ h => h) (by rfl) ?_ ?_
        rotate_left
        · intro w
          go_simp
          first | done | with_reducible rfl
        try simp only [Act.put, List.setIfInBounds_toArray, List.set_cons_zero, List.set_cons_succ]
        refine wpAnyG_load (i := 5) (oi := ⟨some 104, _, _, _, _, _⟩) (v := ?_) rfl (by kernel_rfl) (by kernel_rfl) (by kernel_rfl) (by rfl) (fun _ _ _ h => h) (by rfl) ?_ (by assumption) ?_
        rotate_left
        · intro w hS
          try dsimp only at hS
          go_simp
          first | done | with_reducible rfl
        try simp only [Act.put, List.setIfInBounds_toArray, List.set_cons_zero, List.set_cons_succ]
        refine wpAnyG_pure (i := 7) (oi := ⟨some 106, _, _, _, _, _⟩) (v := ?_) rfl (by kernel_rfl) (by kernel_rfl) (by kernel_rfl) (by rfl) (fun _ _ _ h => h) (by rfl) ?_ ?_
        rotate_left
        · intro w
          go_simp
          first | done | with_reducible rfl
        try simp only [Act.put, List.setIfInBounds_toArray, List.set_cons_zero, List.set_cons_succ]
        refine wpAnyG_pure (i := 8) (oi := ⟨some 107, _, _, _, _, _⟩) (v := ?_) rfl (by kernel_rfl) (by kernel_rfl) (by kernel_rfl) (by rfl) (fun _ _ _ h => h) (by rfl) ?_ ?_
        rotate_left
        · intro w
          go_simp
          first | done | with_reducible rfl
        try simp only [Act.put, List.setIfInBounds_toArray, List.set_cons_zero, List.set_cons_succ]
        refine wpAnyG_pure (i := 9) (oi := ⟨some 108, _, _, _, _, _⟩) (v := ?_) rfl (by kernel_rfl) (by kernel_rfl) (by kernel_rfl) (by rfl) (fun _ _ _ h => h) (by rfl) ?_ ?_
        rotate_left
        · intro w
          go_simp
          first | done | with_reducible rfl
        try simp only [Act.put, List.setIfInBounds_toArray, List.set_cons_zero, List.set_cons_succ]
        refine wpAnyG_load (i := 10) (oi := ⟨some 109, _, _, _, _, _⟩) (v := ?_) rfl (by kernel_rfl) (by kernel_rfl) (by kernel_rfl) (by rfl) (fun _ _ _ h => h) (by rfl) ?_ (by assumption) ?_
        rotate_left
        · intro w hS
          try dsimp only at hS
          go_simp
          first | done | with_reducible rfl
        try simp only [Act.put, List.setIfInBounds_toArray, List.set_cons_zero, List.set_cons_succ]
        refine wpAnyG_pure (i := 11) (oi := ⟨some 110, _, _, _, _, _⟩) (v := ?_) rfl (by kernel_rfl) (by kernel_rfl) (by kernel_rfl) (by rfl) (fun _ _ _ h => h) (by rfl) ?_ ?_
        rotate_left
        · intro w
          go_simp
          first | done | with_reducible rfl
        try simp only [Act.put, List.setIfInBounds_toArray, List.set_cons_zero, List.set_cons_succ]
        refine wpAnyG_load (i := 12) (oi := ⟨some 111, _, _, _, _, _⟩) (v := ?_) rfl (by kernel_rfl) (by kernel_rfl) (by kernel_rfl) (by rfl) (fun _ _ _ h => h) (by rfl) ?_ (by assumption) ?_
        rotate_left
        · intro w hS
          try dsimp only at hS
          go_simp
          first | done | with_reducible rfl
        try simp only [Act.put, List.setIfInBounds_toArray, List.set_cons_zero, List.set_cons_succ]
        refine wpAnyG_keep (i := 6) (oi := ⟨some 105, _, _, _, _, _⟩) (by kernel_rfl) rfl (fun K hK => ?_)
        rw [if_pos (by rfl)]
        go_simp
        refine (rraw_all b s e nn v t f _ hr H3.out.drew).mono ?_
        rintro e8 w3 ⟨rfl, hq1⟩
        refine hK.out _ _ ?_ (fun hS => ?_)
        · exact HC.out _ _ _ _ _ hq1
        clear hK K
        try simp only [Act.put, List.setIfInBounds_toArray, List.set_cons_zero, List.set_cons_succ]
        refine wpAnyG_keep (i := 13) (oi := ⟨some 112, _, _, _, _, _⟩) (by kernel_rfl) rfl (fun K hK => ?_)
        rw [if_pos (by rfl)]
        go_simp
        refine (xrraw_all x s e nn v t f _ hr hq1.f1).mono ?_
        rintro e8 w4 ⟨rfl, hq2⟩
        refine hK.out _ _ ?_ (fun hS => ?_)
        · exact HD2.out _ _ _ _ _ hq2
        clear hK K
        try simp only [Act.put, List.setIfInBounds_toArray, List.set_cons_zero, List.set_cons_succ]
        refine wpAnyG_pure (i := 14) (oi := ⟨some 113, _, _, _, _, _⟩) (v := ?_) rfl (by kernel_rfl) (by kernel_rfl) (by kernel_rfl) (by rfl) (fun _ _ _ h => h) (by rfl) ?_ ?_
        rotate_left
        · intro w
          go_simp
          first | done | with_reducible rfl
        try simp only [Act.put, List.setIfInBounds_toArray, List.set_cons_zero, List.set_cons_succ]
        refine wpAnyG_pure (i := 15) (oi := ⟨some 13, _, _, _, _, _⟩) (v := ?_) rfl (by kernel_rfl) (by kernel_rfl) (by kernel_rfl) (by rfl) (fun _ _ _ h => h) (by rfl) ?_ ?_
        rotate_left
        · intro w
          go_simp
          first | done | with_reducible rfl
        try simp only [Act.put, List.setIfInBounds_toArray, List.set_cons_zero, List.set_cons_succ]
        refine wpAnyG_done (by kernel_rfl) ?_ _
        refine NoPanic.normal ?_
        obtain ⟨t0, f0, t1, f1, y0, y1, hy⟩ := HB.out _ _ _ zt hq2
        have HY := Lib.hid hy
        clear hy hq1 hq2 c0 hr
        go_wp2_with fail
        go_roundw
        case rel => exact ⟨k + 1, t0, f0, t1, f1, by omega, by go_num, y0, y1, HY.out⟩
        case measure => simp [intOf]; omega
      have b3 : (kd == 3) = false := by simpa using k3
      by_cases k4 : kd = 4
      · subst k4
        go_wp2_with fail
        refine wp_region_text [3, 8, 15, 20] (fun w' => w'.cell? ⟨gr, j, none⟩ = some (ptr b) ∧ w'.cell? ⟨gy, j, none⟩ = some (ptr x) ∧ w'.cell? ⟨g7, 2, none⟩ = some (.int .i64 sz) ∧ w'.cell? ⟨g7, 3, none⟩ = some (.int .i64 nn)) (by kernel_rfl) ?_ (fun hS => ?_)
        · exact HC.out _ _ _ _ _ H3.out.drew
        refine wpAnyG_pure (i := 0) (oi := ⟨some 116, _, _, _, _, _⟩) (v := ?_) rfl (by kernel_rfl) (by kernel_rfl) (by kernel_rfl) (by rfl) (fun _ _ _ h => h) (by rfl) ?_ ?_
        rotate_left
        · intro w
          go_simp
          first | done | with_reducible rfl
        try simp only [Act.put, List.setIfInBounds_toArray, List.set_cons_zero, List.set_cons_succ]
        refine wpAnyG_pure (i := 1) (oi := ⟨some 117, _, _, _, _, _⟩) (v := ?_) rfl (by kernel_rfl) (by kernel_rfl) (by kernel_rfl) (by rfl) (fun _ _ _ h => h) (by rfl) ?_ ?_
        rotate_left
        · intro w
          go_simp
          first | done | with_reducible rfl
        try simp only [Act.put, List.setIfInBounds_toArray, List.set_cons_zero, List.set_cons_succ]
        refine wpAnyG_pure (i := 2) (oi := ⟨some 118, _, _, _, _, _⟩) (v := ?_) rfl (by kernel_rfl) (by kernel_rfl) (by kernel_rfl) (by rfl) (fun _ _ _ h => h) (by rfl) ?_ ?_
        rotate_left
        · intro w
          go_simp
          first | done | with_reducible rfl
        try simp only [Act.put, List.setIfInBounds_toArray, List.set_cons_zero, List.set_cons_succ]
        refine wpAnyG_load (i := 3) (oi := ⟨some 119, _, _, _, _, _⟩) (v := ?_) rfl (by kernel_rfl) (by kernel_rfl) (by kernel_rfl) (by rfl) (fun _ _ _ h => h) (by rfl) ?_ (by assumption) ?_
        rotate_left
        · intro w hS
          try dsimp only at hS
          go_simp
          first | done | with_reducible rfl
        try simp only [Act.put, List.setIfInBounds_toArray, List.set_cons_zero, List.set_cons_succ]
        refine wpAnyG_pure (i := 5) (oi := ⟨some 121, _, _, _, _, _⟩) (v := ?_) rfl (by kernel_rfl) (by kernel_rfl) (by kernel_rfl) (by rfl) (fun _ _ _ h => h) (by rfl) ?_ ?_
        rotate_left
        · intro w
          go_simp
          first | done | with_reducible rfl
        try simp only [Act.put, List.setIfInBounds_toArray, List.set_cons_zero, List.set_cons_succ]
        refine wpAnyG_pure (i := 6) (oi := ⟨some 122, _, _, _, _, _⟩) (v := ?_) rfl (by kernel_rfl) (by kernel_rfl) (by kernel_rfl) (by rfl) (fun _ _ _ h => h) (by rfl) ?_ ?_
        rotate_left
        · intro w
          go_simp
          first | done | with_reducible rfl
        try simp only [Act.put, List.setIfInBounds_toArray, List.set_cons_zero, List.set_cons_succ]
        refine wpAnyG_pure (i := 7) (oi := ⟨some 123, _, _, _, _, _⟩) (v := ?_) rfl (by kernel_rfl) (by kernel_rfl) (by kernel_rfl) (by rfl) (fun _ _ _ h => h) (by rfl) ?_ ?_
        rotate_left
        · intro w
          go_simp
          first | done | with_reducible rfl
        try simp only [Act.put, List.setIfInBounds_toArray, List.set_cons_zero, List.set_cons_succ]
        refine wpAnyG_load (i := 8) (oi := ⟨some 124, _, _, _, _, _⟩) (v := ?_) rfl (by kernel_rfl) (by kernel_rfl) (by kernel_rfl) (by rfl) (fun _ _ _ h => h) (by rfl) ?_ (by assumption) ?_
        rotate_left
        · intro w hS
          try dsimp only at hS
          go_simp
          first | done | with_reducible rfl
        try simp only [Act.put, List.setIfInBounds_toArray, List.set_cons_zero, List.set_cons_succ]
        refine wpAnyG_keep (i := 4) (oi := ⟨some 120, _, _, _, _, _⟩) (by kernel_rfl) rfl (fun K hK => ?_)
        rw [if_pos (by rfl)]
        go_simp
        refine (rdone_all b s e _ (hG.cons.cons.cons.cons.cons.cons) H3.out.drew).mono ?_
        rintro e8 w3 ⟨rfl, hq1⟩
        refine hK.out _ _ ?_ (fun hS => ?_)
        · exact HC.out _ _ _ _ _ hq1
        clear hK K
        try simp only [Act.put, List.setIfInBounds_toArray, List.set_cons_zero, List.set_cons_succ]
        refine wpAnyG_keep (i := 9) (oi := ⟨some 125, _, _, _, _, _⟩) (by kernel_rfl) rfl (fun K hK => ?_)
        rw [if_pos (by rfl)]
        go_simp
        refine (xrdone_all x s e _ hq1.f1).mono ?_
        rintro e8 w4 ⟨rfl, rfl⟩
        refine hK.out _ _ ?_ (fun hS => ?_)
        · exact HC.out _ _ _ _ _ hq1
        clear hK K
        try simp only [Act.put, List.setIfInBounds_toArray, List.set_cons_zero, List.set_cons_succ]
        refine wpAnyG_pure (i := 10) (oi := ⟨some 126, _, _, _, _, _⟩) (v := ?_) rfl (by kernel_rfl) (by kernel_rfl) (by kernel_rfl) (by rfl) (fun _ _ _ h => h) (by rfl) ?_ ?_
        rotate_left
        · intro w
          go_simp
          first | done | with_reducible rfl
        try simp only [Act.put, List.setIfInBounds_toArray, List.set_cons_zero, List.set_cons_succ]
        refine wpAnyG_pure (i := 11) (oi := ⟨some 127, _, _, _, _, _⟩) (v := ?_) rfl (by kernel_rfl) (by kernel_rfl) (by kernel_rfl) (by rfl) (fun _ _ _ h => h) (by rfl) ?_ ?_
        rotate_left
        · intro w
          go_simp
          first | done | with_reducible rfl
        try simp only [Act.put, List.setIfInBounds_toArray, List.set_cons_zero, List.set_cons_succ]
        refine wpAnyG_pure (i := 12) (oi := ⟨some 128, _, _, _, _, _⟩) (v := ?_) rfl (by kernel_rfl) (by kernel_rfl) (by kernel_rfl) (by rfl) (fun _ _ _ h => h) (by rfl) ?_ ?_
        rotate_left
        · intro w
          go_simp
          first | done | with_reducible rfl
        try simp only [Act.put, List.setIfInBounds_toArray, List.set_cons_zero, List.set_cons_succ]
        refine wpAnyG_pure (i := 13) (oi := ⟨some 129, _, _, _, _, _⟩) (v := ?_) rfl (by kernel_rfl) (by kernel_rfl) (by kernel_rfl) (by rfl) (fun _ _ _ h => h) (by rfl) ?_ ?_
        rotate_left
        · intro w
          go_simp
          first | done | with_reducible rfl
        try simp only [Act.put, List.setIfInBounds_toArray, List.set_cons_zero, List.set_cons_succ]
        refine wpAnyG_pure (i := 14) (oi := ⟨some 130, _, _, _, _, _⟩) (v := ?_) rfl (by kernel_rfl) (by kernel_rfl) (by kernel_rfl) (by rfl) (fun _ _ _ h => h) (by rfl) ?_ ?_
        rotate_left
        · intro w
          go_simp
          first | done | with_reducible rfl
        try simp only [Act.put, List.setIfInBounds_toArray, List.set_cons_zero, List.set_cons_succ]
        refine wpAnyG_load (i := 15) (oi := ⟨some 131, _, _, _, _, _⟩) (v := ?_) rfl (by kernel_rfl) (by kernel_rfl) (by kernel_rfl) (by rfl) (fun _ _ _ h => h) (by rfl) ?_ (by assumption) ?_
        rotate_left
        · intro w hS
          try dsimp only at hS
          go_simp
          first | done | with_reducible rfl
        try simp only [Act.put, List.setIfInBounds_toArray, List.set_cons_zero, List.set_cons_succ]
        refine wpAnyG_pure (i := 17) (oi := ⟨some 133, _, _, _, _, _⟩) (v := ?_) rfl (by kernel_rfl) (by kernel_rfl) (by kernel_rfl) (by rfl) (fun _ _ _ h => h) (by rfl) ?_ ?_
        rotate_left
        · intro w
          go_simp
          first | done | with_reducible rfl
        try simp only [Act.put, List.setIfInBounds_toArray, List.set_cons_zero, List.set_cons_succ]
        refine wpAnyG_pure (i := 18) (oi := ⟨some 134, _, _, _, _, _⟩) (v := ?_) rfl (by kernel_rfl) (by kernel_rfl) (by kernel_rfl) (by rfl) (fun _ _ _ h => h) (by rfl) ?_ ?_
        rotate_left
        · intro w
          go_simp
          first | done | with_reducible rfl
        try simp only [Act.put, List.setIfInBounds_toArray, List.set_cons_zero, List.set_cons_succ]
        refine wpAnyG_pure (i := 19) (oi := ⟨some 135, _, _, _, _, _⟩) (v := ?_) rfl (by kernel_rfl) (by kernel_rfl) (by kernel_rfl) (by rfl) (fun _ _ _ h => h) (by rfl) ?_ ?_
        rotate_left
        · intro w
          go_simp
          first | done | with_reducible rfl
        try simp only [Act.put, List.setIfInBounds_toArray, List.set_cons_zero, List.set_cons_succ]
        refine wpAnyG_load (i := 20) (oi := ⟨some 136, _, _, _, _, _⟩) (v := ?_) rfl (by kernel_rfl) (by kernel_rfl) (by kernel_rfl) (by rfl) (fun _ _ _ h => h) (by rfl) ?_ (by assumption) ?_
        rotate_left
        · intro w hS
          try dsimp only at hS
          go_simp
          first | done | with_reducible rfl
        try simp only [Act.put, List.setIfInBounds_toArray, List.set_cons_zero, List.set_cons_succ]
        refine wpAnyG_keep (i := 16) (oi := ⟨some 132, _, _, _, _, _⟩) (by kernel_rfl) rfl (fun K hK => ?_)
        rw [if_pos (by rfl)]
        go_simp
        refine (rleft_all b s e _ hq1).mono ?_
        rintro e8 w4 ⟨rfl, rfl⟩
        refine hK.out _ _ ?_ (fun hS => ?_)
        · exact HC.out _ _ _ _ _ hq1
        clear hK K
        try simp only [Act.put, List.setIfInBounds_toArray, List.set_cons_zero, List.set_cons_succ]
        refine wpAnyG_keep (i := 21) (oi := ⟨some 137, _, _, _, _, _⟩) (by kernel_rfl) rfl (fun K hK => ?_)
        rw [if_pos (by rfl)]
        go_simp
        refine (xrleft_all x s e _ hq1.f1).mono ?_
        rintro e8 w4 ⟨rfl, rfl⟩
        refine hK.out _ _ ?_ (fun hS => ?_)
        · exact HC.out _ _ _ _ _ hq1
        clear hK K
        try simp only [Act.put, List.setIfInBounds_toArray, List.set_cons_zero, List.set_cons_succ]
        refine wpAnyG_pure (i := 22) (oi := ⟨some 138, _, _, _, _, _⟩) (v := ?_) rfl (by kernel_rfl) (by kernel_rfl) (by kernel_rfl) (by rfl) (fun _ _ _ h => h) (by rfl) ?_ ?_
        rotate_left
        · intro w
          go_simp
          first | done | with_reducible rfl
        try simp only [Act.put, List.setIfInBounds_toArray, List.set_cons_zero, List.set_cons_succ]
        refine wpAnyG_pure (i := 23) (oi := ⟨some 139, _, _, _, _, _⟩) (v := ?_) rfl (by kernel_rfl) (by kernel_rfl) (by kernel_rfl) (by rfl) (fun _ _ _ h => h) (by rfl) ?_ ?_
        rotate_left
        · intro w
          go_simp
          first | done | with_reducible rfl
        try simp only [Act.put, List.setIfInBounds_toArray, List.set_cons_zero, List.set_cons_succ]
        refine wpAnyG_pure (i := 24) (oi := ⟨some 13, _, _, _, _, _⟩) (v := ?_) rfl (by kernel_rfl) (by kernel_rfl) (by kernel_rfl) (by rfl) (fun _ _ _ h => h) (by rfl) ?_ ?_
        rotate_left
        · intro w
          go_simp
          first | done | with_reducible rfl
        try simp only [Act.put, List.setIfInBounds_toArray, List.set_cons_zero, List.set_cons_succ]
        refine wpAnyG_done (by kernel_rfl) ?_ _
        refine NoPanic.normal ?_
        obtain ⟨t0, f0, t1, f1, y0, y1, hy⟩ := HB.out _ _ _ zs hq1.f1
        have HY := Lib.hid hy
        clear hy hq1 c0
        go_wp2_with fail
        go_roundw
        case rel => exact ⟨k + 1, t0, f0, t1, f1, by omega, by go_num, y0, y1, HY.out⟩
        case measure => simp [intOf]; omega
      have b4 : (kd == 4) = false := by simpa using k4
      obtain ⟨t0, f0, t1, f1, y0, y1, hy⟩ := HB.out _ _ _ zs H3.out.f1
      have HY := Lib.hid hy
      clear hy
      go_wp2_with fail
      go_roundw
      case rel => exact ⟨k + 1, t0, f0, t1, f1, by omega, by go_num, y0, y1, HY.out⟩
      case measure => simp [intOf]; omega
    · obtain rfl : k = n := by omega
      have HW := Lib.hid hw
      have HC : Hid (∀ w', Own E w' (Two b0 x0 s0 e0 b1 x1 s1 e1 (Hp.blk gr PRT #[ptr b0, ptr b1] :: Hp.blk gy PXT #[ptr x0, ptr x1] :: Hp.ro S :: L)) →
          w'.cell? ⟨gr, 0, none⟩ = some (ptr b0) ∧ w'.cell? ⟨gr, 1, none⟩ = some (ptr b1) ∧ w'.cell? ⟨gy, 0, none⟩ = some (ptr x0) ∧ w'.cell? ⟨gy, 1, none⟩ = some (ptr x1)) := Lib.hid fun w' hq =>
        ⟨hq.f4.cell 0, hq.f4.cell 1, hq.f5.cell 0, hq.f5.cell 1⟩
      clear hw
      go_wp2_with fail
      refine wp_region_text [2, 6, 12, 16, 23, 27, 34, 38] (fun w' => w'.cell? ⟨gr, 0, none⟩ = some (ptr b0) ∧ w'.cell? ⟨gr, 1, none⟩ = some (ptr b1) ∧ w'.cell? ⟨gy, 0, none⟩ = some (ptr x0) ∧ w'.cell? ⟨gy, 1, none⟩ = some (ptr x1)) (by kernel_rfl) ?_ (fun hS => ?_)
      · exact HC.out _ HW.out.drew
      refine wpAnyG_pure (i := 0) (oi := ⟨some 142, _, _, _, _, _⟩) (v := ?_) rfl (by kernel_rfl) (by kernel_rfl) (by kernel_rfl) (by rfl) (fun _ _ _ h => h) (by rfl) ?_ ?_
      rotate_left
      · intro w
        go_simp
        first | done | with_reducible rfl
      try simp only [Act.put, List.setIfInBounds_toArray, List.set_cons_zero, List.set_cons_succ]
      refine wpAnyG_pure (i := 1) (oi := ⟨some 143, _, _, _, _, _⟩) (v := ?_) rfl (by kernel_rfl) (by kernel_rfl) (by kernel_rfl) (by rfl) (fun _ _ _ h => h) (by rfl) ?_ ?_
      rotate_left
      · intro w
        go_simp
        first | done | with_reducible rfl
      try simp only [Act.put, List.setIfInBounds_toArray, List.set_cons_zero, List.set_cons_succ]
      refine wpAnyG_load (i := 2) (oi := ⟨some 144, _, _, _, _, _⟩) (v := ?_) rfl (by kernel_rfl) (by kernel_rfl) (by kernel_rfl) (by rfl) (fun _ _ _ h => h) (by rfl) ?_ (by assumption) ?_
      rotate_left
      · intro w hS
        try dsimp only at hS
        go_simp
        first | done | with_reducible rfl
      try simp only [Act.put, List.setIfInBounds_toArray, List.set_cons_zero, List.set_cons_succ]
      refine wpAnyG_pure (i := 4) (oi := ⟨some 146, _, _, _, _, _⟩) (v := ?_) rfl (by kernel_rfl) (by kernel_rfl) (by kernel_rfl) (by rfl) (fun _ _ _ h => h) (by rfl) ?_ ?_
      rotate_left
      · intro w
        go_simp
        first | done | with_reducible rfl
      try simp only [Act.put, List.setIfInBounds_toArray, List.set_cons_zero, List.set_cons_succ]
      refine wpAnyG_pure (i := 5) (oi := ⟨some 147, _, _, _, _, _⟩) (v := ?_) rfl (by kernel_rfl) (by kernel_rfl) (by kernel_rfl) (by rfl) (fun _ _ _ h => h) (by rfl) ?_ ?_
      rotate_left
      · intro w
        go_simp
        first | done | with_reducible rfl
      try simp only [Act.put, List.setIfInBounds_toArray, List.set_cons_zero, List.set_cons_succ]
      refine wpAnyG_load (i := 6) (oi := ⟨some 148, _, _, _, _, _⟩) (v := ?_) rfl (by kernel_rfl) (by kernel_rfl) (by kernel_rfl) (by rfl) (fun _ _ _ h => h) (by rfl) ?_ (by assumption) ?_
      rotate_left
      · intro w hS
        try dsimp only at hS
        go_simp
        first | done | with_reducible rfl
      try simp only [Act.put, List.setIfInBounds_toArray, List.set_cons_zero, List.set_cons_succ]
      refine wpAnyG_keep (i := 3) (oi := ⟨some 145, _, _, _, _, _⟩) (by kernel_rfl) rfl (fun K hK => ?_)
      rw [if_pos (by rfl)]
      go_simp
      refine (rleft_all b0 s0 e0 _ HW.out.drew).mono ?_
      rintro e8 w4 ⟨rfl, rfl⟩
      refine hK.out _ _ ?_ (fun hS => ?_)
      · exact HC.out _ HW.out.drew
      clear hK K
      try simp only [Act.put, List.setIfInBounds_toArray, List.set_cons_zero, List.set_cons_succ]
      refine wpAnyG_keep (i := 7) (oi := ⟨some 149, _, _, _, _, _⟩) (by kernel_rfl) rfl (fun K hK => ?_)
      rw [if_pos (by rfl)]
      go_simp
      refine (xrleft_all x0 s0 e0 _ (Own.f1 HW.out.drew)).mono ?_
      rintro e8 w4 ⟨rfl, rfl⟩
      refine hK.out _ _ ?_ (fun hS => ?_)
      · exact HC.out _ HW.out.drew
      clear hK K
      try simp only [Act.put, List.setIfInBounds_toArray, List.set_cons_zero, List.set_cons_succ]
      refine wpAnyG_pure (i := 8) (oi := ⟨some 150, _, _, _, _, _⟩) (v := ?_) rfl (by kernel_rfl) (by kernel_rfl) (by kernel_rfl) (by rfl) (fun _ _ _ h => h) (by rfl) ?_ ?_
      rotate_left
      · intro w
        go_simp
        first | done | with_reducible rfl
      try simp only [Act.put, List.setIfInBounds_toArray, List.set_cons_zero, List.set_cons_succ]
      refine wpAnyG_pure (i := 9) (oi := ⟨some 151, _, _, _, _, _⟩) (v := ?_) rfl (by kernel_rfl) (by kernel_rfl) (by kernel_rfl) (by rfl) (fun _ _ _ h => h) (by rfl) ?_ ?_
      rotate_left
      · intro w
        go_simp
        first | done | with_reducible rfl
      try simp only [Act.put, List.setIfInBounds_toArray, List.set_cons_zero, List.set_cons_succ]
      refine wpAnyG_pure (i := 10) (oi := ⟨some 152, _, _, _, _, _⟩) (v := ?_) rfl (by kernel_rfl) (by kernel_rfl) (by kernel_rfl) (by rfl) (fun _ _ _ h => h) (by rfl) ?_ ?_
      rotate_left
      · intro w
        go_simp
        first | done | with_reducible rfl
      try simp only [Act.put, List.setIfInBounds_toArray, List.set_cons_zero, List.set_cons_succ]
      refine wpAnyG_pure (i := 11) (oi := ⟨some 153, _, _, _, _, _⟩) (v := ?_) rfl (by kernel_rfl) (by kernel_rfl) (by kernel_rfl) (by rfl) (fun _ _ _ h => h) (by rfl) ?_ ?_
      rotate_left
      · intro w
        go_simp
        first | done | with_reducible rfl
      try simp only [Act.put, List.setIfInBounds_toArray, List.set_cons_zero, List.set_cons_succ]
      refine wpAnyG_load (i := 12) (oi := ⟨some 154, _, _, _, _, _⟩) (v := ?_) rfl (by kernel_rfl) (by kernel_rfl) (by kernel_rfl) (by rfl) (fun _ _ _ h => h) (by rfl) ?_ (by assumption) ?_
      rotate_left
      · intro w hS
        try dsimp only at hS
        go_simp
        first | done | with_reducible rfl
      try simp only [Act.put, List.setIfInBounds_toArray, List.set_cons_zero, List.set_cons_succ]
      refine wpAnyG_pure (i := 14) (oi := ⟨some 156, _, _, _, _, _⟩) (v := ?_) rfl (by kernel_rfl) (by kernel_rfl) (by kernel_rfl) (by rfl) (fun _ _ _ h => h) (by rfl) ?_ ?_
      rotate_left
      · intro w
        go_simp
        first | done | with_reducible rfl
      try simp only [Act.put, List.setIfInBounds_toArray, List.set_cons_zero, List.set_cons_succ]
      refine wpAnyG_pure (i := 15) (oi := ⟨some 157, _, _, _, _, _⟩) (v := ?_) rfl (by kernel_rfl) (by kernel_rfl) (by kernel_rfl) (by rfl) (fun _ _ _ h => h) (by rfl) ?_ ?_
      rotate_left
      · intro w
        go_simp
        first | done | with_reducible rfl
      try simp only [Act.put, List.setIfInBounds_toArray, List.set_cons_zero, List.set_cons_succ]
      refine wpAnyG_load (i := 16) (oi := ⟨some 158, _, _, _, _, _⟩) (v := ?_) rfl (by kernel_rfl) (by kernel_rfl) (by kernel_rfl) (by rfl) (fun _ _ _ h => h) (by rfl) ?_ (by assumption) ?_
      rotate_left
      · intro w hS
        try dsimp only at hS
        go_simp
        first | done | with_reducible rfl
      try simp only [Act.put, List.setIfInBounds_toArray, List.set_cons_zero, List.set_cons_succ]
      refine wpAnyG_keep (i := 13) (oi := ⟨some 155, _, _, _, _, _⟩) (by kernel_rfl) rfl (fun K hK => ?_)
      rw [if_pos (by rfl)]
      go_simp
      refine (rleft_all b1 s1 e1 _ (Own.f2 HW.out.drew)).mono ?_
      rintro e8 w4 ⟨rfl, rfl⟩
      refine hK.out _ _ ?_ (fun hS => ?_)
      · exact HC.out _ HW.out.drew
      clear hK K
      try simp only [Act.put, List.setIfInBounds_toArray, List.set_cons_zero, List.set_cons_succ]
      refine wpAnyG_keep (i := 17) (oi := ⟨some 159, _, _, _, _, _⟩) (by kernel_rfl) rfl (fun K hK => ?_)
      rw [if_pos (by rfl)]
      go_simp
      refine (xrleft_all x1 s1 e1 _ (Own.f3 HW.out.drew)).mono ?_
      rintro e8 w4 ⟨rfl, rfl⟩
      refine hK.out _ _ ?_ (fun hS => ?_)
      · exact HC.out _ HW.out.drew
      clear hK K
      try simp only [Act.put, List.setIfInBounds_toArray, List.set_cons_zero, List.set_cons_succ]
      refine wpAnyG_pure (i := 18) (oi := ⟨some 160, _, _, _, _, _⟩) (v := ?_) rfl (by kernel_rfl) (by kernel_rfl) (by kernel_rfl) (by rfl) (fun _ _ _ h => h) (by rfl) ?_ ?_
      rotate_left
      · intro w
        go_simp
        first | done | with_reducible rfl
      try simp only [Act.put, List.setIfInBounds_toArray, List.set_cons_zero, List.set_cons_succ]
      refine wpAnyG_pure (i := 19) (oi := ⟨some 161, _, _, _, _, _⟩) (v := ?_) rfl (by kernel_rfl) (by kernel_rfl) (by kernel_rfl) (by rfl) (fun _ _ _ h => h) (by rfl) ?_ ?_
      rotate_left
      · intro w
        go_simp
        first | done | with_reducible rfl
      try simp only [Act.put, List.setIfInBounds_toArray, List.set_cons_zero, List.set_cons_succ]
      refine wpAnyG_pure (i := 20) (oi := ⟨some 162, _, _, _, _, _⟩) (v := ?_) rfl (by kernel_rfl) (by kernel_rfl) (by kernel_rfl) (by rfl) (fun _ _ _ h => h) (by rfl) ?_ ?_
      rotate_left
      · intro w
        go_simp
        first | done | with_reducible rfl
      try simp only [Act.put, List.setIfInBounds_toArray, List.set_cons_zero, List.set_cons_succ]
      refine wpAnyG_pure (i := 21) (oi := ⟨some 163, _, _, _, _, _⟩) (v := ?_) rfl (by kernel_rfl) (by kernel_rfl) (by kernel_rfl) (by rfl) (fun _ _ _ h => h) (by rfl) ?_ ?_
      rotate_left
      · intro w
        go_simp
        first | done | with_reducible rfl
      try simp only [Act.put, List.setIfInBounds_toArray, List.set_cons_zero, List.set_cons_succ]
      refine wpAnyG_pure (i := 22) (oi := ⟨some 164, _, _, _, _, _⟩) (v := ?_) rfl (by kernel_rfl) (by kernel_rfl) (by kernel_rfl) (by rfl) (fun _ _ _ h => h) (by rfl) ?_ ?_
      rotate_left
      · intro w
        go_simp
        first | done | with_reducible rfl
      try simp only [Act.put, List.setIfInBounds_toArray, List.set_cons_zero, List.set_cons_succ]
      refine wpAnyG_load (i := 23) (oi := ⟨some 165, _, _, _, _, _⟩) (v := ?_) rfl (by kernel_rfl) (by kernel_rfl) (by kernel_rfl) (by rfl) (fun _ _ _ h => h) (by rfl) ?_ (by assumption) ?_
      rotate_left
      · intro w hS
        try dsimp only at hS
        go_simp
        first | done | with_reducible rfl
      try simp only [Act.put, List.setIfInBounds_toArray, List.set_cons_zero, List.set_cons_succ]
      refine wpAnyG_pure (i := 25) (oi := ⟨some 167, _, _, _, _, _⟩) (v := ?_) rfl (by kernel_rfl) (by kernel_rfl) (by kernel_rfl) (by rfl) (fun _ _ _ h => h) (by rfl) ?_ ?_
      rotate_left
      · intro w
        go_simp
        first | done | with_reducible rfl
      try simp only [Act.put, List.setIfInBounds_toArray, List.set_cons_zero, List.set_cons_succ]
      refine wpAnyG_pure (i := 26) (oi := ⟨some 168, _, _, _, _, _⟩) (v := ?_) rfl (by kernel_rfl) (by kernel_rfl) (by kernel_rfl) (by rfl) (fun _ _ _ h => h) (by rfl) ?_ ?_
      rotate_left
      · intro w
        go_simp
        first | done | with_reducible rfl
      try simp only [Act.put, List.setIfInBounds_toArray, List.set_cons_zero, List.set_cons_succ]
      refine wpAnyG_load (i := 27) (oi := ⟨some 169, _, _, _, _, _⟩) (v := ?_) rfl (by kernel_rfl) (by kernel_rfl) (by kernel_rfl) (by rfl) (fun _ _ _ h => h) (by rfl) ?_ (by assumption) ?_
      rotate_left
      · intro w hS
        try dsimp only at hS
        go_simp
        first | done | with_reducible rfl
      try simp only [Act.put, List.setIfInBounds_toArray, List.set_cons_zero, List.set_cons_succ]
      refine wpAnyG_keep (i := 24) (oi := ⟨some 166, _, _, _, _, _⟩) (by kernel_rfl) rfl (fun K hK => ?_)
      rw [if_pos (by rfl)]
      go_simp
      refine (rdone_all b0 s0 e0 _ (hG.cons.cons.cons.cons.cons) HW.out.drew).mono ?_
      rintro e8 w3 ⟨rfl, hq1⟩
      refine hK.out _ _ ?_ (fun hS => ?_)
      · exact HC.out _ hq1
      clear hK K
      try simp only [Act.put, List.setIfInBounds_toArray, List.set_cons_zero, List.set_cons_succ]
      refine wpAnyG_keep (i := 28) (oi := ⟨some 170, _, _, _, _, _⟩) (by kernel_rfl) rfl (fun K hK => ?_)
      rw [if_pos (by rfl)]
      go_simp
      refine (xrdone_all x0 s0 e0 _ hq1.f1).mono ?_
      rintro e8 w4 ⟨rfl, rfl⟩
      refine hK.out _ _ ?_ (fun hS => ?_)
      · exact HC.out _ hq1
      clear hK K
      try simp only [Act.put, List.setIfInBounds_toArray, List.set_cons_zero, List.set_cons_succ]
      refine wpAnyG_pure (i := 29) (oi := ⟨some 171, _, _, _, _, _⟩) (v := ?_) rfl (by kernel_rfl) (by kernel_rfl) (by kernel_rfl) (by rfl) (fun _ _ _ h => h) (by rfl) ?_ ?_
      rotate_left
      · intro w
        go_simp
        first | done | with_reducible rfl
      try simp only [Act.put, List.setIfInBounds_toArray, List.set_cons_zero, List.set_cons_succ]
      refine wpAnyG_pure (i := 30) (oi := ⟨some 172, _, _, _, _, _⟩) (v := ?_) rfl (by kernel_rfl) (by kernel_rfl) (by kernel_rfl) (by rfl) (fun _ _ _ h => h) (by rfl) ?_ ?_
      rotate_left
      · intro w
        go_simp
        first | done | with_reducible rfl
      try simp only [Act.put, List.setIfInBounds_toArray, List.set_cons_zero, List.set_cons_succ]
      refine wpAnyG_pure (i := 31) (oi := ⟨some 173, _, _, _, _, _⟩) (v := ?_) rfl (by kernel_rfl) (by kernel_rfl) (by kernel_rfl) (by rfl) (fun _ _ _ h => h) (by rfl) ?_ ?_
      rotate_left
      · intro w
        go_simp
        first | done | with_reducible rfl
      try simp only [Act.put, List.setIfInBounds_toArray, List.set_cons_zero, List.set_cons_succ]
      refine wpAnyG_pure (i := 32) (oi := ⟨some 174, _, _, _, _, _⟩) (v := ?_) rfl (by kernel_rfl) (by kernel_rfl) (by kernel_rfl) (by rfl) (fun _ _ _ h => h) (by rfl) ?_ ?_
      rotate_left
      · intro w
        go_simp
        first | done | with_reducible rfl
      try simp only [Act.put, List.setIfInBounds_toArray, List.set_cons_zero, List.set_cons_succ]
      refine wpAnyG_pure (i := 33) (oi := ⟨some 175, _, _, _, _, _⟩) (v := ?_) rfl (by kernel_rfl) (by kernel_rfl) (by kernel_rfl) (by rfl) (fun _ _ _ h => h) (by rfl) ?_ ?_
      rotate_left
      · intro w
        go_simp
        first | done | with_reducible rfl
      try simp only [Act.put, List.setIfInBounds_toArray, List.set_cons_zero, List.set_cons_succ]
      refine wpAnyG_load (i := 34) (oi := ⟨some 176, _, _, _, _, _⟩) (v := ?_) rfl (by kernel_rfl) (by kernel_rfl) (by kernel_rfl) (by rfl) (fun _ _ _ h => h) (by rfl) ?_ (by assumption) ?_
      rotate_left
      · intro w hS
        try dsimp only at hS
        go_simp
        first | done | with_reducible rfl
      try simp only [Act.put, List.setIfInBounds_toArray, List.set_cons_zero, List.set_cons_succ]
      refine wpAnyG_pure (i := 36) (oi := ⟨some 178, _, _, _, _, _⟩) (v := ?_) rfl (by kernel_rfl) (by kernel_rfl) (by kernel_rfl) (by rfl) (fun _ _ _ h => h) (by rfl) ?_ ?_
      rotate_left
      · intro w
        go_simp
        first | done | with_reducible rfl
      try simp only [Act.put, List.setIfInBounds_toArray, List.set_cons_zero, List.set_cons_succ]
      refine wpAnyG_pure (i := 37) (oi := ⟨some 179, _, _, _, _, _⟩) (v := ?_) rfl (by kernel_rfl) (by kernel_rfl) (by kernel_rfl) (by rfl) (fun _ _ _ h => h) (by rfl) ?_ ?_
      rotate_left
      · intro w
        go_simp
        first | done | with_reducible rfl
      try simp only [Act.put, List.setIfInBounds_toArray, List.set_cons_zero, List.set_cons_succ]
      refine wpAnyG_load (i := 38) (oi := ⟨some 180, _, _, _, _, _⟩) (v := ?_) rfl (by kernel_rfl) (by kernel_rfl) (by kernel_rfl) (by rfl) (fun _ _ _ h => h) (by rfl) ?_ (by assumption) ?_
      rotate_left
      · intro w hS
        try dsimp only at hS
        go_simp
        first | done | with_reducible rfl
      try simp only [Act.put, List.setIfInBounds_toArray, List.set_cons_zero, List.set_cons_succ]
      refine wpAnyG_keep (i := 35) (oi := ⟨some 177, _, _, _, _, _⟩) (by kernel_rfl) rfl (fun K hK => ?_)
      rw [if_pos (by rfl)]
      go_simp
      refine (rdone_all b1 s1 e1 _ (hG.cons.cons.cons.cons.cons) hq1.f2).mono ?_
      rintro e8 w3 ⟨rfl, hq2⟩
      refine hK.out _ _ ?_ (fun hS => ?_)
      · exact HC.out _ hq2.b2
      clear hK K
      try simp only [Act.put, List.setIfInBounds_toArray, List.set_cons_zero, List.set_cons_succ]
      refine wpAnyG_keep (i := 39) (oi := ⟨some 181, _, _, _, _, _⟩) (by kernel_rfl) rfl (fun K hK => ?_)
      rw [if_pos (by rfl)]
      go_simp
      refine (xrdone_all x1 s1 e1 _ hq2.f3).mono ?_
      rintro e8 w4 ⟨rfl, rfl⟩
      refine hK.out _ _ ?_ (fun hS => ?_)
      · exact HC.out _ hq2.b2
      clear hK K
      try simp only [Act.put, List.setIfInBounds_toArray, List.set_cons_zero, List.set_cons_succ]
      refine wpAnyG_pure (i := 40) (oi := ⟨some 182, _, _, _, _, _⟩) (v := ?_) rfl (by kernel_rfl) (by kernel_rfl) (by kernel_rfl) (by rfl) (fun _ _ _ h => h) (by rfl) ?_ ?_
      rotate_left
      · intro w
        go_simp
        first | done | with_reducible rfl
      try simp only [Act.put, List.setIfInBounds_toArray, List.set_cons_zero, List.set_cons_succ]
      refine wpAnyG_pure (i := 41) (oi := ⟨some 183, _, _, _, _, _⟩) (v := ?_) rfl (by kernel_rfl) (by kernel_rfl) (by kernel_rfl) (by rfl) (fun _ _ _ h => h) (by rfl) ?_ ?_
      rotate_left
      · intro w
        go_simp
        first | done | with_reducible rfl
      try simp only [Act.put, List.setIfInBounds_toArray, List.set_cons_zero, List.set_cons_succ]
      refine wpAnyG_pure (i := 42) (oi := ⟨some 6, _, _, _, _, _⟩) (v := ?_) rfl (by kernel_rfl) (by kernel_rfl) (by kernel_rfl) (by rfl) (fun _ _ _ h => h) (by rfl) ?_ ?_
      rotate_left
      · intro w
        go_simp
        first | done | with_reducible rfl
      try simp only [Act.put, List.setIfInBounds_toArray, List.set_cons_zero, List.set_cons_succ]
      refine wpAnyG_done (by kernel_rfl) ?_ _
      refine NoPanic.normal ?_
      have HE := Lib.hid hq2.drop.drop.drop.drop.drop.drop
      clear hq1 hq2
      go_wp2_with fail
      go_ret
      exact ⟨rfl, HE.out⟩
end Go.Proofs.YtokephnlelpjhaaDoor
