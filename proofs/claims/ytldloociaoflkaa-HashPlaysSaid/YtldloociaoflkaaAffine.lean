/- HashAffine. -/
import Derived.Test.YtldloociaoflkaaKnown
import Derived.Test.YtldloociaoflkaaCrcLaws
import Derived.Test.YtldloociaoflkaaText
import Derived.WalkLawsBesides
namespace Go.Proofs.Ytldloociaoflkaa
open Go.RowKit
def curOf (z : List UInt8) (k : Nat) : List UInt8 := z.take k ++ List.replicate (z.length - k) 0
theorem lset_mid {α : Type} (A B : List α) (x u : α) (k : Nat) (hk : A.length = k) : (A ++ x :: B).set k u = A ++ u :: B := by
  subst hk; simp
theorem curOf_set (z : List UInt8) (k : Nat) (h : k < z.length) : ((curOf z k).map V8').set k (V8' z[k]) = (curOf z (k + 1)).map V8' := by
  unfold curOf
  have e : z.length - k = (z.length - (k + 1)) + 1 := by omega
  have e2 : z.take (k + 1) = z.take k ++ [z[k]] := by rw [List.take_add_one, List.getElem?_eq_getElem h]; rfl
  rw [← List.map_set, e, List.replicate_succ, lset_mid _ _ _ _ _ (by simp; omega), e2, List.append_assoc]
  rfl
theorem curOf_all (z : List UInt8) : curOf z z.length = z := by simp [curOf]
section
variable {P : Program} {ops : Array Oper} {rest : List Oper} {o : Oper} {a : Act} {w w' : World} {K : Act → World → Prop} {Q : Exit → Act → World → Prop} {v1 v2 v3 r : Value} {t1 t2 t3 : TypeId} {x y z : Operand}
theorem wpList_min_run (hrun : (Builtin.min_ #[t1, t2, t3] o.type #[v1, v2, v3]).run P w = .ok r w') (hgd : o.guard = none) (ho : o.op = .call { callee := .builtin .min, args := #[x, y, z], argTypes := #[t1, t2, t3] })
    (h1 : a.eval x = v1) (h2 : a.eval y = v2) (h3 : a.eval z = v3) (h : wpList P ops Q rest (a.put o.dst r) w') : wpList P ops Q (o :: rest) a w := by
  refine wpList_plain hgd fun K hK => ?_
  unfold Oper.wp execOp
  simp only [ho, resolve, invoke, builtin, Sem.run_bind, Sem.run_pure, Result.andThen_ok, List.map_toArray, List.map_cons, List.map_nil, h1, h2, h3, hrun]
  exact hK _ _ h
theorem min_three (x y z : Nat) (ty : TypeId) (w : World) : ∃ n : Nat, n ≤ x ∧ n ≤ y ∧ n ≤ z ∧ (Builtin.min_ #[t1, t2, t3] ty #[.int .i64 (x : Int), .int .i64 (y : Int), .int .i64 (z : Int)]).run P w = .ok (.int .i64 (n : Int)) w := by
  refine ⟨min z (min y x), by omega, by omega, by omega, ?_⟩
  rw [run_min_int3]
  congr 2
  split <;> split <;> omega
end
theorem xor_bytes (a b : UInt8) : bits .xor .u8 (a.toNat : Int) (b.toNat : Int) = ((a ^^^ b).toNat : Int) := by
  rw [u8_xor_nat _ _ a.toNat_lt b.toNat_lt, UInt8.toNat_xor]
set_option maxHeartbeats 1000000 in
theorem affine_any {E : World} {L : List Hp} (a b c : ByteArray) (w : World) (ha : a.size ≤ 140737488355328) (hb : b.size ≤ 140737488355328) (hc : c.size ≤ 140737488355328) (h : Own E w L) :
    Calls Try.prog 10 #[.string a, .string b, .string c] w fun e w' => e = .returned (.bool true) ∧ Own E w' L := by
  go_enter Try.func10, Try.ntmps10
  go_wp2_with fail
  refine (known_any _ h).mono ?_
  rintro e w1 ⟨rfl, h1⟩
  clear h
  obtain ⟨n, hna, hnb, hnc, hmin⟩ := min_three (P := Try.prog) (t1 := 3) (t2 := 3) (t3 := 3) a.size b.size c.size 3 w1
  obtain ⟨w2, hmk, -, h2, -⟩ := sl_make (P := Try.prog) (T := BT) (e := U8) (z := .int .u8 0) (bytes := 1) (by kernel_rfl) u8_info rfl .i64 .i64 n n (by omega) (by omega) (by unfold maxLen; omega) h1
  obtain ⟨z, hz⟩ : ∃ z : List UInt8, z = List.zipWith (· ^^^ ·) (List.zipWith (· ^^^ ·) (a.data.toList.take n) (b.data.toList.take n)) (c.data.toList.take n) := ⟨_, rfl⟩
  have la : (a.data.toList.take n).length = n := by
    have : a.data.toList.length = a.size := rfl
    simp; omega
  have lb : (b.data.toList.take n).length = n := by
    have : b.data.toList.length = b.size := rfl
    simp; omega
  have lc : (c.data.toList.take n).length = n := by
    have : c.data.toList.length = c.size := rfl
    simp; omega
  have lz : z.length = n := by rw [hz]; simp only [List.length_zipWith, la, lb, lc]; omega
  have hcrc : Crc.crc z = Crc.crc (a.data.toList.take n) ^^^ Crc.crc (b.data.toList.take n) ^^^ Crc.crc (c.data.toList.take n) := by rw [hz]; exact Crc.crc_three _ _ _ (by omega) (by omega)
  have hzk : ∀ k (hk : k < n) (h0 : k < z.length), z[k] = a[k]'(Nat.lt_of_lt_of_le hk hna) ^^^ b[k]'(Nat.lt_of_lt_of_le hk hnb) ^^^ c[k]'(Nat.lt_of_lt_of_le hk hnc) := fun k hk h0 => by
    subst hz
    simp only [List.getElem_zipWith, List.getElem_take]
    rfl
  have h3 : Own E w2 (Hp.row U8 1 (.slice (some ⟨w1.heap.size, 0, none⟩) n n) n ((curOf z 0).map V8') :: L) := by
    have e : (curOf z 0).map V8' = List.replicate n (.int .u8 0) := by unfold curOf; rw [lz]; simp
    rw [e]; exact h2
  have HZ := Lib.hid hzk
  have LZ := Lib.hid lz
  have HC := Lib.hid hcrc
  have H3 := Lib.hid h3
  clear hzk lz hcrc h3 h2 h1 hz la lb lc
  generalize w1.heap.size = g at *
  go_wp2_with (first | (refine wpList_min_run (o := ⟨some 18, _, _, _, _, _⟩) hmin rfl rfl rfl rfl rfl ?_; clear hmin) | (refine wpList_make_run (o := ⟨some 20, _, _, _, _, _⟩) hmk rfl rfl rfl rfl ?_; clear hmk))
  go_loopw [10] (fun i wr => ∃ k : Nat, k ≤ n ∧ i = .int .i64 k ∧ Own E wr (Hp.row U8 1 (.slice (some ⟨g, 0, none⟩) n n) n ((curOf z k).map V8') :: L)) (fun i _ => n - (intOf i).toNat)
  case atStart => exact ⟨0, by omega, rfl, H3.out⟩
  case round =>
    obtain ⟨k, hk, rfl, hw⟩ := hrel
    clear H3
    by_cases hlt : k < n
    · have hka : k < a.size := by omega
      have hkb : k < b.size := by omega
      have hkc : k < c.size := by omega
      have hlz : k < z.length := by rw [LZ.out]; exact hlt
      have ezk := HZ.out k hlt hlz
      obtain ⟨g', hg, c1, f1, h4⟩ := hw.rowSet k hlt (V8' z[k])
      injection hg with hg
      injection hg with hg
      subst hg
      rw [curOf_set z k hlz] at h4
      obtain ⟨p, hp⟩ : ∃ p, p = a[k] ^^^ b[k] := ⟨_, rfl⟩
      obtain ⟨q, hq⟩ : ∃ q, q = p ^^^ c[k] := ⟨_, rfl⟩
      have q1 : bits .xor .u8 (a[k].toNat : Int) (b[k].toNat : Int) = (p.toNat : Int) := by rw [hp]; exact xor_bytes _ _
      have q2 : bits .xor .u8 (p.toNat : Int) (c[k].toNat : Int) = (q.toNat : Int) := by rw [hq]; exact xor_bytes _ _
      have h5 : Own E (wr.setCell ⟨g, k, none⟩ (.int .u8 q.toNat)) (Hp.row U8 1 (.slice (some ⟨g, 0, none⟩) n n) n ((curOf z (k + 1)).map V8') :: L) := by
        have e : V8' z[k] = .int .u8 q.toNat := by rw [ezk, hq, hp]
        rw [← e]; exact h4
      have H5 := Lib.hid h5
      have i1 : (0 : Int) ≤ (k : Int) := by omega
      have i2 : (k : Int) < n := by omega
      have i3 : (k : Int) < a.size := by omega
      have i4 : (k : Int) < b.size := by omega
      have i5 : (k : Int) < c.size := by omega
      have H1 := Lib.hid hw
      clear h4 h5 hw ezk hp hq
      go_wp2_with fail
      refine wp_region_text [] (fun _ => True) (by kernel_rfl) ?_ (fun hS => ?_)
      · trivial
      refine wpAnyG_pure (i := 0) (oi := ⟨some 26, _, _, _, _, _⟩) (v := ?_) rfl (by kernel_rfl) (by kernel_rfl) (by kernel_rfl) (by rfl) (fun _ _ _ h => h) (by rfl) ?_ ?_
      rotate_left
      · intro w
        go_simp
        first | done | with_reducible rfl
      try simp only [Act.put, List.setIfInBounds_toArray, List.set_cons_zero, List.set_cons_succ]
      refine wpAnyG_pure (i := 1) (oi := ⟨some 27, _, _, _, _, _⟩) (v := ?_) rfl (by kernel_rfl) (by kernel_rfl) (by kernel_rfl) (by rfl) (fun _ _ _ h => h) (by rfl) ?_ ?_
      rotate_left
      · intro w
        go_simp
        first | done | with_reducible rfl
      try simp only [Act.put, List.setIfInBounds_toArray, List.set_cons_zero, List.set_cons_succ]
      refine wpAnyG_pure (i := 2) (oi := ⟨some 28, _, _, _, _, _⟩) (v := ?_) rfl (by kernel_rfl) (by kernel_rfl) (by kernel_rfl) (by rfl) (fun _ _ _ h => h) (by rfl) ?_ ?_
      rotate_left
      · intro w
        go_simp
        first | done | with_reducible rfl
      try simp only [Act.put, List.setIfInBounds_toArray, List.set_cons_zero, List.set_cons_succ]
      refine wpAnyG_pure (i := 3) (oi := ⟨some 29, _, _, _, _, _⟩) (v := ?_) rfl (by kernel_rfl) (by kernel_rfl) (by kernel_rfl) (by rfl) (fun _ _ _ h => h) (by rfl) ?_ ?_
      rotate_left
      · intro w
        go_simp
        first | done | with_reducible rfl
      try simp only [Act.put, List.setIfInBounds_toArray, List.set_cons_zero, List.set_cons_succ]
      refine wpAnyG_pure (i := 4) (oi := ⟨some 30, _, _, _, _, _⟩) (v := ?_) rfl (by kernel_rfl) (by kernel_rfl) (by kernel_rfl) (by rfl) (fun _ _ _ h => h) (by rfl) ?_ ?_
      rotate_left
      · intro w
        go_simp
        first | done | with_reducible rfl
      try simp only [Act.put, List.setIfInBounds_toArray, List.set_cons_zero, List.set_cons_succ]
      refine wpAnyG_pure (i := 5) (oi := ⟨some 31, _, _, _, _, _⟩) (v := ?_) rfl (by kernel_rfl) (by kernel_rfl) (by kernel_rfl) (by rfl) (fun _ _ _ h => h) (by rfl) ?_ ?_
      rotate_left
      · intro w
        go_simp
        first | done | with_reducible rfl
      try simp only [Act.put, List.setIfInBounds_toArray, List.set_cons_zero, List.set_cons_succ]
      refine wpAnyG_pure (i := 6) (oi := ⟨some 32, _, _, _, _, _⟩) (v := ?_) rfl (by kernel_rfl) (by kernel_rfl) (by kernel_rfl) (by rfl) (fun _ _ _ h => h) (by rfl) ?_ ?_
      rotate_left
      · intro w
        go_simp
        first | done | with_reducible rfl
      try simp only [Act.put, List.setIfInBounds_toArray, List.set_cons_zero, List.set_cons_succ]
      refine wpAnyG_pure (i := 7) (oi := ⟨some 33, _, _, _, _, _⟩) (v := ?_) rfl (by kernel_rfl) (by kernel_rfl) (by kernel_rfl) (by rfl) (fun _ _ _ h => h) (by rfl) ?_ ?_
      rotate_left
      · intro w
        go_simp
        first | done | with_reducible rfl
      try simp only [Act.put, List.setIfInBounds_toArray, List.set_cons_zero, List.set_cons_succ]
      refine wpAnyG_pure (i := 8) (oi := ⟨some 34, _, _, _, _, _⟩) (v := ?_) rfl (by kernel_rfl) (by kernel_rfl) (by kernel_rfl) (by rfl) (fun _ _ _ h => h) (by rfl) ?_ ?_
      rotate_left
      · intro w
        go_simp
        first | done | with_reducible rfl
      try simp only [Act.put, List.setIfInBounds_toArray, List.set_cons_zero, List.set_cons_succ]
      refine wpAnyG_pure (i := 9) (oi := ⟨some 35, _, _, _, _, _⟩) (v := ?_) rfl (by kernel_rfl) (by kernel_rfl) (by kernel_rfl) (by rfl) (fun _ _ _ h => h) (by rfl) ?_ ?_
      rotate_left
      · intro w
        go_simp
        first | done | with_reducible rfl
      try simp only [Act.put, List.setIfInBounds_toArray, List.set_cons_zero, List.set_cons_succ]
      refine wpAnyG_pure (i := 10) (oi := ⟨some 36, _, _, _, _, _⟩) (v := ?_) rfl (by kernel_rfl) (by kernel_rfl) (by kernel_rfl) (by rfl) (fun _ _ _ h => h) (by rfl) ?_ ?_
      rotate_left
      · intro w
        go_simp
        first | done | with_reducible rfl
      try simp only [Act.put, List.setIfInBounds_toArray, List.set_cons_zero, List.set_cons_succ]
      refine wpAnyG_pure (i := 11) (oi := ⟨some 37, _, _, _, _, _⟩) (v := ?_) rfl (by kernel_rfl) (by kernel_rfl) (by kernel_rfl) (by rfl) (fun _ _ _ h => h) (by rfl) ?_ ?_
      rotate_left
      · intro w
        go_simp
        first | done | with_reducible rfl
      try simp only [Act.put, List.setIfInBounds_toArray, List.set_cons_zero, List.set_cons_succ]
      refine wpAnyG_pure (i := 12) (oi := ⟨some 38, _, _, _, _, _⟩) (v := ?_) rfl (by kernel_rfl) (by kernel_rfl) (by kernel_rfl) (by rfl) (fun _ _ _ h => h) (by rfl) ?_ ?_
      rotate_left
      · intro w
        go_simp
        first | done | with_reducible rfl
      try simp only [Act.put, List.setIfInBounds_toArray, List.set_cons_zero, List.set_cons_succ]
      refine wpAnyG_pure (i := 13) (oi := ⟨some 39, _, _, _, _, _⟩) (v := ?_) rfl (by kernel_rfl) (by kernel_rfl) (by kernel_rfl) (by rfl) (fun _ _ _ h => h) (by rfl) ?_ ?_
      rotate_left
      · intro w
        go_simp
        first | done | with_reducible rfl
      try simp only [Act.put, List.setIfInBounds_toArray, List.set_cons_zero, List.set_cons_succ]
      refine wpAnyG_break (i := 14) (oi := ⟨none, _, _, _, _, _⟩) (by kernel_rfl) rfl (by kernel_rfl) (fun K hK => ?_)
      rw [if_pos (by rfl)]
      go_simp
      refine hK.out _ _ ?_
      clear hK K
      try simp only [Act.put]
      refine wpAnyG_done (by kernel_rfl) ?_ _
      refine NoPanic.normal ?_
      go_wp2_with fail
      go_roundw
      case rel => exact ⟨k + 1, by omega, by go_num, H5.out⟩
      case measure => simp [intOf]; omega
    · obtain rfl : k = n := by omega
      have e0 : curOf z k = z := by rw [← LZ.out]; exact curOf_all z
      rw [e0] at hw
      have hst := hw.rowString (P := Try.prog) (src := BT) (dst := ST) (e := U8) (by kernel_rfl) (by kernel_rfl) (by kernel_rfl)
      obtain ⟨Z, hZ⟩ : ∃ Z : ByteArray, Z = ⟨z.toArray⟩ := ⟨_, rfl⟩
      rw [← hZ] at hst
      have hrs : ∀ W, Own E W (Hp.row U8 1 (.slice (some ⟨g, 0, none⟩) k k) k (z.map V8') :: L) → (convert BT ST (.slice (some ⟨g, 0, none⟩) k k)).run Try.prog W = .ok (.string Z) W := fun W hW => by
        rw [hZ]; exact hW.rowString (P := Try.prog) (src := BT) (dst := ST) (e := U8) (by kernel_rfl) (by kernel_rfl) (by kernel_rfl)
      have ext : ∀ s : ByteArray, (s.extract 0 k).data.toList = s.data.toList.take k := fun s => by rw [Lib.extract_data]; simp
      have hsz : ∀ s : ByteArray, s.size ≤ 140737488355328 → (s.extract 0 k).size ≤ maxLen := fun s hs => by
        rw [ByteArray.size_extract]; unfold maxLen; omega
      have hZs : Z.size ≤ maxLen := by
        have e : Z.size = z.length := by rw [hZ]; rfl
        rw [e, LZ.out]; unfold maxLen; omega
      obtain ⟨x, hx⟩ : ∃ x, x = Crc.crc (a.extract 0 k).data.toList := ⟨_, rfl⟩
      obtain ⟨y, hy⟩ : ∃ x, x = Crc.crc (b.extract 0 k).data.toList := ⟨_, rfl⟩
      obtain ⟨u, hu⟩ : ∃ x, x = Crc.crc (c.extract 0 k).data.toList := ⟨_, rfl⟩
      obtain ⟨p, hp⟩ : ∃ p, p = x ^^^ y := ⟨_, rfl⟩
      obtain ⟨q, hq⟩ : ∃ q, q = Crc.crc Z.data.toList := ⟨_, rfl⟩
      have r1 : bits .xor .u32 (tn x) (tn y) = tn p := by rw [hp]; exact vb_xor _ _
      have r2 : bits .xor .u32 (tn p) (tn u) = tn q := by
        have e : q = p ^^^ u := by
          rw [hq, hp, hx, hy, hu, ext, ext, ext, hZ]
          exact HC.out
        rw [e]; exact vb_xor _ _
      have HA := Lib.hid (hsz a ha)
      have HB := Lib.hid (hsz b hb)
      have HCs := Lib.hid (hsz c hc)
      have HZs := Lib.hid hZs
      have X := Lib.hid hx
      have Y := Lib.hid hy
      have U := Lib.hid hu
      have Qd := Lib.hid hq
      have HR := Lib.hid hrs
      have HW := Lib.hid hw
      have i1 : (0 : Int) ≤ (k : Int) := by omega
      have i3 : (k : Int) ≤ a.size := by omega
      have i4 : (k : Int) ≤ b.size := by omega
      have i5 : (k : Int) ≤ c.size := by omega
      clear hw hrs hq hu hy hx hp hZs hsz ext hZ e0 hlt
      go_wp2_with fail
      refine wp_region_text [3] (fun w' => (convert BT ST (.slice (some ⟨g, 0, none⟩) k k)).run Try.prog w' = .ok (.string Z) w') (by kernel_rfl) ?_ (fun hS => ?_)
      · exact HR.out _ HW.out.drew
      refine wpAnyG_pure (i := 0) (oi := ⟨some 40, _, _, _, _, _⟩) (v := ?_) rfl (by kernel_rfl) (by kernel_rfl) (by kernel_rfl) (by rfl) (fun _ _ _ h => h) (by rfl) ?_ ?_
      rotate_left
      · intro w
        go_simp
        first | done | with_reducible rfl
      try simp only [Act.put, List.setIfInBounds_toArray, List.set_cons_zero, List.set_cons_succ]
      refine wpAnyG_pure (i := 1) (oi := ⟨some 41, _, _, _, _, _⟩) (v := ?_) rfl (by kernel_rfl) (by kernel_rfl) (by kernel_rfl) (by rfl) (fun _ _ _ h => h) (by rfl) ?_ ?_
      rotate_left
      · intro w
        go_simp
        first | done | with_reducible rfl
      try simp only [Act.put, List.setIfInBounds_toArray, List.set_cons_zero, List.set_cons_succ]
      refine wpAnyG_pure (i := 2) (oi := ⟨some 42, _, _, _, _, _⟩) (v := ?_) rfl (by kernel_rfl) (by kernel_rfl) (by kernel_rfl) (by rfl) (fun _ _ _ h => h) (by rfl) ?_ ?_
      rotate_left
      · intro w
        go_simp
        first | done | with_reducible rfl
      try simp only [Act.put, List.setIfInBounds_toArray, List.set_cons_zero, List.set_cons_succ]
      refine wpAnyG_load (i := 3) (oi := ⟨some 43, _, _, _, _, _⟩) (v := (.string Z)) rfl (by kernel_rfl) (by kernel_rfl) (by kernel_rfl) (by rfl) (fun _ _ _ h => h) (by rfl) ?_ (by assumption) ?_
      · intro w hS
        exact exec_conv_run hS rfl (by rfl)
      try simp only [Act.put, List.setIfInBounds_toArray, List.set_cons_zero, List.set_cons_succ]
      refine wpAnyG_pure (i := 5) (oi := ⟨some 45, _, _, _, _, _⟩) (v := ?_) rfl (by kernel_rfl) (by kernel_rfl) (by kernel_rfl) (by rfl) (fun _ _ _ h => h) (by rfl) ?_ ?_
      rotate_left
      · intro w
        go_simp
        first | done | with_reducible rfl
      try simp only [Act.put, List.setIfInBounds_toArray, List.set_cons_zero, List.set_cons_succ]
      refine wpAnyG_pure (i := 6) (oi := ⟨some 46, _, _, _, _, _⟩) (v := ?_) rfl (by kernel_rfl) (by kernel_rfl) (by kernel_rfl) (by rfl) (fun _ _ _ h => h) (by rfl) ?_ ?_
      rotate_left
      · intro w
        go_simp
        first | done | with_reducible rfl
      try simp only [Act.put, List.setIfInBounds_toArray, List.set_cons_zero, List.set_cons_succ]
      refine wpAnyG_pure (i := 7) (oi := ⟨some 47, _, _, _, _, _⟩) (v := ?_) rfl (by kernel_rfl) (by kernel_rfl) (by kernel_rfl) (by rfl) (fun _ _ _ h => h) (by rfl) ?_ ?_
      rotate_left
      · intro w
        go_simp
        first | done | with_reducible rfl
      try simp only [Act.put, List.setIfInBounds_toArray, List.set_cons_zero, List.set_cons_succ]
      refine wpAnyG_pure (i := 9) (oi := ⟨some 49, _, _, _, _, _⟩) (v := ?_) rfl (by kernel_rfl) (by kernel_rfl) (by kernel_rfl) (by rfl) (fun _ _ _ h => h) (by rfl) ?_ ?_
      rotate_left
      · intro w
        go_simp
        first | done | with_reducible rfl
      try simp only [Act.put, List.setIfInBounds_toArray, List.set_cons_zero, List.set_cons_succ]
      refine wpAnyG_pure (i := 10) (oi := ⟨some 50, _, _, _, _, _⟩) (v := ?_) rfl (by kernel_rfl) (by kernel_rfl) (by kernel_rfl) (by rfl) (fun _ _ _ h => h) (by rfl) ?_ ?_
      rotate_left
      · intro w
        go_simp
        first | done | with_reducible rfl
      try simp only [Act.put, List.setIfInBounds_toArray, List.set_cons_zero, List.set_cons_succ]
      refine wpAnyG_pure (i := 11) (oi := ⟨some 51, _, _, _, _, _⟩) (v := ?_) rfl (by kernel_rfl) (by kernel_rfl) (by kernel_rfl) (by rfl) (fun _ _ _ h => h) (by rfl) ?_ ?_
      rotate_left
      · intro w
        go_simp
        first | done | with_reducible rfl
      try simp only [Act.put, List.setIfInBounds_toArray, List.set_cons_zero, List.set_cons_succ]
      refine wpAnyG_pure (i := 14) (oi := ⟨some 54, _, _, _, _, _⟩) (v := ?_) rfl (by kernel_rfl) (by kernel_rfl) (by kernel_rfl) (by rfl) (fun _ _ _ h => h) (by rfl) ?_ ?_
      rotate_left
      · intro w
        go_simp
        first | done | with_reducible rfl
      try simp only [Act.put, List.setIfInBounds_toArray, List.set_cons_zero, List.set_cons_succ]
      refine wpAnyG_pure (i := 15) (oi := ⟨some 55, _, _, _, _, _⟩) (v := ?_) rfl (by kernel_rfl) (by kernel_rfl) (by kernel_rfl) (by rfl) (fun _ _ _ h => h) (by rfl) ?_ ?_
      rotate_left
      · intro w
        go_simp
        first | done | with_reducible rfl
      try simp only [Act.put, List.setIfInBounds_toArray, List.set_cons_zero, List.set_cons_succ]
      refine wpAnyG_pure (i := 16) (oi := ⟨some 56, _, _, _, _, _⟩) (v := ?_) rfl (by kernel_rfl) (by kernel_rfl) (by kernel_rfl) (by rfl) (fun _ _ _ h => h) (by rfl) ?_ ?_
      rotate_left
      · intro w
        go_simp
        first | done | with_reducible rfl
      try simp only [Act.put, List.setIfInBounds_toArray, List.set_cons_zero, List.set_cons_succ]
      refine wpAnyG_keep (i := 4) (oi := ⟨some 44, _, _, _, _, _⟩) (by kernel_rfl) rfl (fun K hK => ?_)
      rw [if_pos (by rfl)]
      go_simp
      refine (crc_any Z _ HZs.out (by exact HW.out)).mono ?_
      rintro e w5 ⟨rfl, h5⟩
      rw [← Qd.out]
      refine hK.out _ _ ?_ (fun hS => ?_)
      · exact HR.out _ h5
      clear hK K
      try simp only [Act.put, List.setIfInBounds_toArray, List.set_cons_zero, List.set_cons_succ]
      refine wpAnyG_keep (i := 8) (oi := ⟨some 48, _, _, _, _, _⟩) (by kernel_rfl) rfl (fun K hK => ?_)
      rw [if_pos (by rfl)]
      go_simp
      refine (crc_any (a.extract 0 k) _ HA.out (by exact h5)).mono ?_
      rintro e w6 ⟨rfl, h6⟩
      rw [← X.out]
      refine hK.out _ _ ?_ (fun hS => ?_)
      · exact HR.out _ h6
      clear hK K
      try simp only [Act.put, List.setIfInBounds_toArray, List.set_cons_zero, List.set_cons_succ]
      refine wpAnyG_keep (i := 12) (oi := ⟨some 52, _, _, _, _, _⟩) (by kernel_rfl) rfl (fun K hK => ?_)
      rw [if_pos (by rfl)]
      go_simp
      refine (crc_any (b.extract 0 k) _ HB.out (by exact h6)).mono ?_
      rintro e w7 ⟨rfl, h7⟩
      rw [← Y.out]
      refine hK.out _ _ ?_ (fun hS => ?_)
      · exact HR.out _ h7
      clear hK K
      try simp only [Act.put, List.setIfInBounds_toArray, List.set_cons_zero, List.set_cons_succ]
      refine wpAnyG_pure (i := 13) (oi := ⟨some 53, _, _, _, _, _⟩) (v := ?_) rfl (by kernel_rfl) (by kernel_rfl) (by kernel_rfl) (by rfl) (fun _ _ _ h => h) (by rfl) ?_ ?_
      rotate_left
      · intro w
        go_simp
        first | done | with_reducible rfl
      try simp only [Act.put, List.setIfInBounds_toArray, List.set_cons_zero, List.set_cons_succ]
      refine wpAnyG_keep (i := 17) (oi := ⟨some 57, _, _, _, _, _⟩) (by kernel_rfl) rfl (fun K hK => ?_)
      rw [if_pos (by rfl)]
      go_simp
      refine (crc_any (c.extract 0 k) _ HCs.out (by exact h7)).mono ?_
      rintro e w8 ⟨rfl, h8⟩
      rw [← U.out]
      refine hK.out _ _ ?_ (fun hS => ?_)
      · exact HR.out _ h8
      clear hK K
      try simp only [Act.put, List.setIfInBounds_toArray, List.set_cons_zero, List.set_cons_succ]
      refine wpAnyG_pure (i := 18) (oi := ⟨some 58, _, _, _, _, _⟩) (v := ?_) rfl (by kernel_rfl) (by kernel_rfl) (by kernel_rfl) (by rfl) (fun _ _ _ h => h) (by rfl) ?_ ?_
      rotate_left
      · intro w
        go_simp
        first | done | with_reducible rfl
      try simp only [Act.put, List.setIfInBounds_toArray, List.set_cons_zero, List.set_cons_succ]
      refine wpAnyG_pure (i := 19) (oi := ⟨some 59, _, _, _, _, _⟩) (v := ?_) rfl (by kernel_rfl) (by kernel_rfl) (by kernel_rfl) (by rfl) (fun _ _ _ h => h) (by rfl) ?_ ?_
      rotate_left
      · intro w
        go_simp
        first | done | with_reducible rfl
      try simp only [Act.put, List.setIfInBounds_toArray, List.set_cons_zero, List.set_cons_succ]
      refine wpAnyG_pure (i := 20) (oi := ⟨some 60, _, _, _, _, _⟩) (v := ?_) rfl (by kernel_rfl) (by kernel_rfl) (by kernel_rfl) (by rfl) (fun _ _ _ h => h) (by rfl) ?_ ?_
      rotate_left
      · intro w
        go_simp
        first | done | with_reducible rfl
      try simp only [Act.put, List.setIfInBounds_toArray, List.set_cons_zero, List.set_cons_succ]
      refine wpAnyG_pure (i := 21) (oi := ⟨some 6, _, _, _, _, _⟩) (v := ?_) rfl (by kernel_rfl) (by kernel_rfl) (by kernel_rfl) (by rfl) (fun _ _ _ h => h) (by rfl) ?_ ?_
      rotate_left
      · intro w
        go_simp
        first | done | with_reducible rfl
      try simp only [Act.put, List.setIfInBounds_toArray, List.set_cons_zero, List.set_cons_succ]
      refine wpAnyG_done (by kernel_rfl) ?_ _
      refine NoPanic.normal ?_
      go_wp2_with fail
      go_ret
      exact ⟨rfl, h8.drop⟩
end Go.Proofs.Ytldloociaoflkaa
