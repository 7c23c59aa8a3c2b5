/- hash.state.block: one block of 64 bytes. -/
import Derived.Test.YtilcilbmbhbakaaDoorBlock
import Derived.Test.YtilcilbmbhbakaaDoorRegion
import Derived.Deep.QuietTactic
import Derived.BigQuiet
namespace Go.Proofs.YtilcilbmbhbakaaDoor
open Go.RowKit
attribute [local go_sem] vb_xor vb_and vb_or vb_of8 vb_add vb_not'
attribute [local go_sem ↓] Go.wp_at_zero Go.wp_at_succ
abbrev SV (s : Sha.S8) : List Value := s.list.map V32
abbrev SC (b : List UInt8) : List Value := (Sha.sched b).map V32
abbrev KC : List Value := Sha.K.map V32
def StB (E : World) (s : Sha.S8) (b : List UInt8) (R : List Hp) (l : Nat → Bool) (env : Nat → Value) (w : World) : Prop :=
  ∃ b5 b6 b7 : Nat, (l 0 = true → env 0 = .agg (Sha.bytes b)) ∧ (l 1 = true → env 1 = .agg (SC b).toArray) ∧ (l 2 = true → env 2 = .agg KC.toArray) ∧ (l 3 = true → env 3 = .agg (SV s).toArray) ∧
    (l 4 = true → env 4 = .pointer (some ⟨b5, 0, none⟩)) ∧ (l 5 = true → env 5 = .pointer (some ⟨b6, 0, none⟩)) ∧ (l 6 = true → env 6 = .pointer (some ⟨b7, 0, none⟩)) ∧
    Own E w (Hp.opt (l 4) (Hp.blk b5 A64 (cond (l 7) (SC b).toArray z64.toArray)) :: Hp.opt (l 5) (Hp.blk b6 A64 (cond (l 8) KC.toArray z64.toArray)) :: Hp.opt (l 6) (Hp.blk b7 S8T (cond (l 9) (SV s).toArray z8.toArray)) :: R)

theorem sizeB (b : List UInt8) (h : b.length = 64) : (Tryd.prog.info? B64).map (·.size) = some (b.map V8).length := by rw [List.length_map, h]; kernel_rfl

theorem own_set8 {E w : World} {L : List Hp} {g : Nat} {t : TypeId} {y0 y1 y2 y3 y4 y5 y6 y7 : Value} (z0 z1 z2 z3 z4 z5 z6 z7 : Value) (h : Own E w (Hp.blk g t #[y0, y1, y2, y3, y4, y5, y6, y7] :: L)) :
    Own E ((((((((w.setCell ⟨g, 0, none⟩ z0).setCell ⟨g, 1, none⟩ z1).setCell ⟨g, 2, none⟩ z2).setCell ⟨g, 3, none⟩ z3).setCell ⟨g, 4, none⟩ z4).setCell ⟨g, 5, none⟩ z5).setCell ⟨g, 6, none⟩ z6).setCell ⟨g, 7, none⟩ z7) (Hp.blk g t #[z0, z1, z2, z3, z4, z5, z6, z7] :: L) := by
  have h8 := (((((((h.set 0 z0).set 1 z1).set 2 z2).set 3 z3).set 4 z4).set 5 z5).set 6 z6).set 7 z7
  simpa using h8
theorem SV_arr (s : Sha.S8) : (SV s).toArray = #[V32 s.a, V32 s.b, V32 s.c, V32 s.d, V32 s.e, V32 s.f, V32 s.g, V32 s.h] := rfl
def addTo (sl vl : List (BitVec 32)) (k : Nat) : List (BitVec 32) := (List.zipWith (· + ·) sl vl).take k ++ sl.drop k
theorem addTo_len (sl vl : List (BitVec 32)) (k : Nat) (h : sl.length = vl.length) (hk : k ≤ sl.length) : (addTo sl vl k).length = sl.length := by simp [addTo]; omega
theorem addTo_zero (sl vl : List (BitVec 32)) : addTo sl vl 0 = sl := by simp [addTo]
theorem addTo_at (sl vl : List (BitVec 32)) (k : Nat) (h : sl.length = vl.length) (hk : k < sl.length) : ((addTo sl vl k).map V32).toArray[k]? = some (V32 (sl.getD k 0)) := by
  have e : sl.drop k = sl.getD k 0 :: sl.drop (k + 1) := by rw [List.drop_eq_getElem_cons hk]; simp [hk]
  unfold addTo
  rw [e, List.map_append, List.map_cons]
  exact get_mid _ _ _ _ (by simp; omega)
theorem addTo_set (sl vl : List (BitVec 32)) (k : Nat) (h : sl.length = vl.length) (hk : k < sl.length) : ((addTo sl vl k).map V32).toArray.setIfInBounds k (V32 (sl.getD k 0 + vl.getD k 0)) = ((addTo sl vl (k + 1)).map V32).toArray := by
  have e : sl.drop k = sl.getD k 0 :: sl.drop (k + 1) := by rw [List.drop_eq_getElem_cons hk]; simp [hk]
  have hk2 : k < vl.length := by omega
  have e2 : (List.zipWith (· + ·) sl vl).take (k + 1) = (List.zipWith (· + ·) sl vl).take k ++ [sl.getD k 0 + vl.getD k 0] := by
    rw [List.take_add_one]
    have e3 : (List.zipWith (· + ·) sl vl)[k]? = some (sl.getD k 0 + vl.getD k 0) := by
      rw [List.getElem?_zipWith]
      simp [hk, hk2]
    rw [e3]
    rfl
  unfold addTo
  rw [e, List.map_append, List.map_cons, set_mid _ _ _ _ _ (by simp; omega), e2]
  simp
theorem S8_len (s : Sha.S8) : s.list.length = 8 := rfl
theorem S8_lens (s v : Sha.S8) : s.list.length = v.list.length := by rw [S8_len, S8_len]
theorem S8_lt (s : Sha.S8) {k : Nat} (h : k < 8) : k < s.list.length := by rw [S8_len]; exact h
theorem addTo_all (s v : Sha.S8) : addTo s.list v.list 8 = (s.add v).list := rfl
theorem arr_get (l : List (BitVec 32)) (k : Nat) (h : k < l.length) : (l.map V32).toArray[k]? = some (V32 (l.getD k 0)) := by simp [h]

theorem wp_mv {P : Program} {Q : Exit → Act → World → Prop} {o : Oper} {K : Act → World → Prop} {a : Act} {w : World} {x : Operand} {v : Value} (ho : o.op = .move x) (hx : a.eval x = v) (h : K (a.put o.dst v) w) : o.wp P a w K Q := by
  refine wp_yields (v := v) ?_ h
  obtain ⟨dst, op, type, pos, after, guard⟩ := o
  obtain rfl : op = _ := ho
  simp [execOp, hx]
theorem wp_ix8 {Q : Exit → Act → World → Prop} {o : Oper} {K : Act → World → Prop} {a : Act} {w : World} {x y : Operand} {b k : Nat} (ho : o.op = .indexAddr S8T x y) (hx : a.eval x = .pointer (some ⟨b, 0, none⟩)) (hy : a.eval y = .int .i64 k) (hk : k < 8)
    (h : K (a.put o.dst (.pointer (some ⟨b, k, none⟩))) w) : o.wp Tryd.prog a w K Q := by
  refine wp_yields (v := .pointer (some ⟨b, k, none⟩)) ?_ h
  obtain ⟨dst, op, type, pos, after, guard⟩ := o
  obtain rfl : op = _ := ho
  have i1 : (0 : Int) ≤ (k : Int) := by omega
  have i2 : (k : Int) < 8 := by omega
  simp only [execOp, hx, hy]
  go_simp
theorem wp_ld32 {Q : Exit → Act → World → Prop} {o : Oper} {K : Act → World → Prop} {a : Act} {w : World} {x : Operand} {A : Addr} {z : BitVec 32} (ho : o.op = .load U32 x) (hx : a.eval x = .pointer (some A)) (hc : w.cell? A = some (V32 z))
    (h : K (a.put o.dst (V32 z)) w) : o.wp Tryd.prog a w K Q := by
  refine wp_yields (v := V32 z) ?_ h
  obtain ⟨dst, op, type, pos, after, guard⟩ := o
  obtain rfl : op = _ := ho
  simp only [execOp, hx]
  go_simp
theorem wp_add32 {Q : Exit → Act → World → Prop} {o : Oper} {K : Act → World → Prop} {a : Act} {w : World} {x y : Operand} {t : TypeId} {u v : BitVec 32} (ho : o.op = .binOp .add U32 x y t) (hx : a.eval x = V32 u) (hy : a.eval y = V32 v)
    (h : K (a.put o.dst (V32 (u + v))) w) : o.wp Tryd.prog a w K Q := by
  refine wp_yields (v := V32 (u + v)) ?_ h
  obtain ⟨dst, op, type, pos, after, guard⟩ := o
  obtain rfl : op = _ := ho
  simp only [execOp, hx, hy]
  go_simp
theorem wp_st32 {Q : Exit → Act → World → Prop} {o : Oper} {K : Act → World → Prop} {a : Act} {w : World} {x y : Operand} {A : Addr} {z : BitVec 32} {v0 : Value} (ho : o.op = .store U32 x y) (hx : a.eval x = .pointer (some A)) (hy : a.eval y = V32 z) (hc : w.cell? A = some v0) (hf : w.frozen? A = false)
    (h : K (a.put o.dst undef) (w.setCell A (V32 z))) : o.wp Tryd.prog a w K Q := by
  obtain ⟨dst, op, type, pos, after, guard⟩ := o
  obtain rfl : op = _ := ho
  unfold Oper.wp
  have hc' : (w.cell? A).isSome = true := by rw [hc]; rfl
  simp only [execOp, hx, hy]
  go_simp
  exact h
def St15 (E w1 : World) (R : List Hp) (b2 b7 k : Nat) (x y : BitVec 32) (l : Nat → Bool) (env : Nat → Value) (w : World) : Prop :=
  (l 0 = true → env 0 = .int .i64 k) ∧ (l 1 = true → env 1 = .pointer (some ⟨b2, k, none⟩)) ∧ (l 2 = true → env 2 = V32 x) ∧ (l 3 = true → env 3 = .int .i64 k) ∧ (l 4 = true → env 4 = .pointer (some ⟨b7, k, none⟩)) ∧
    (l 5 = true → env 5 = V32 y) ∧ (l 6 = true → env 6 = V32 (x + y)) ∧ (l 7 = true → env 7 = .pointer (some ⟨b2, k, none⟩)) ∧ (l 8 = false → w = w1) ∧ (l 8 = true → Own E w R)
set_option maxRecDepth 100000 in
set_option maxHeartbeats 2000000 in
theorem block_any {E : World} {L : List Hp} (s : Sha.S8) (b : List UInt8) (hb : b.length = 64) (w : World) (h : Own E w L) :
    Calls Tryd.prog 57 #[.agg (SV s).toArray, .agg (Sha.bytes b)] w fun e w' => e = .returned (.agg (SV (Sha.compress s b)).toArray) ∧ Own E w' L := by
  obtain ⟨bs, hbs⟩ : ∃ bs, bs = Sha.bytes b := ⟨_, rfl⟩
  obtain ⟨ss, hss⟩ : ∃ ss, ss = (SV s).toArray := ⟨_, rfl⟩
  have h1 : Own E (((w.alloc (.cells ss S8T)).alloc (.cells bs B64)).alloc (.cells z8.toArray S8T)) (Hp.blk (w.heap.size + 1 + 1) S8T z8.toArray :: Hp.blk (w.heap.size + 1) B64 bs :: Hp.blk w.heap.size S8T ss :: L) := by
    have := ((h.alloc (.cells ss S8T)).alloc (.cells bs B64)).alloc (.cells z8.toArray S8T)
    simpa [Hp.blk] using this
  rw [← hbs, ← hss]
  have HB := Lib.hid hbs
  have HS := Lib.hid hss
  clear hbs hss
  go_enter Tryd.func57, Tryd.ntmps57
  go_upto_region 1 with (fail)
  refine wp_region_inv_f (Checked.mixed Tryd.checked) (fun a => a.tmps.size = 123 ∧ a.eval (.tmp 2) = .pointer (some ⟨w.heap.size, 0, none⟩) ∧ a.eval (.tmp 3) = .pointer (some ⟨w.heap.size + 1, 0, none⟩)) (StB E s b (Hp.blk (w.heap.size + 1 + 1) S8T z8.toArray :: Hp.blk (w.heap.size + 1) B64 bs :: Hp.blk w.heap.size S8T ss :: L)) (by kernel_rfl) ⟨rfl, rfl, rfl⟩ ?_ ?_ ?_
  · exact ⟨0, 0, 0, (fun h => by cases h), (fun h => by cases h), (fun h => by cases h), (fun h => by cases h), (fun h => by cases h), (fun h => by cases h), (fun h => by cases h), Own.optFalse _ (Own.optFalse _ (Own.optFalse _ h1.drew))⟩
  · intro a0 Q hF i o l env w2 hdd ho hl hdeps hcl hS
    obtain ⟨hsz, F2, F3⟩ := hF
    obtain ⟨b5, b6, b7, e0, e1, e2, e3, e4, e5, e6, hw⟩ := hS
    have hi : i < 10 := (Array.getElem?_eq_some_iff.1 ho).1
    rcases (by omega : i = 0 ∨ i = 1 ∨ i = 2 ∨ i = 3 ∨ i = 4 ∨ i = 5 ∨ i = 6 ∨ i = 7 ∨ i = 8 ∨ i = 9) with rfl | rfl | rfl | rfl | rfl | rfl | rfl | rfl | rfl | rfl
    · obtain rfl := Option.some.inj ho
      refine wpOp_of_wp ho rfl (wp_load_mid B64 (.tmp 3) rfl (w.heap.size + 1) 0 ((acts_eval_no (by kernel_rfl) _).trans F3) (b.map V8) (.array 64 U8) (hw.f4.range 0 _ (fun j u hu => by rw [HB.out]; simpa [Sha.bytes] using hu)) (by kernel_rfl) rfl (sizeB b hb) ?_)
      exact ⟨_, rfl, b5, b6, b7, fun _ => rfl, fun h => e1 h, fun h => e2 h, fun h => e3 h, fun h => e4 h, fun h => e5 h, fun h => e6 h, hw⟩
    · obtain rfl := Option.some.inj ho
      have d0 : l 0 = true := hdeps ⟨0, .data⟩ (by simp) rfl
      refine wpOp_of_wp ho rfl (wp_call1 ((acts_eval hdd (j := 0) rfl d0 (lt_size hsz (of_decide_eq_true rfl)) _ (of_decide_eq_true rfl)).trans (e0 d0)) rfl (by kernel_rfl) ?_)
      refine (sched_any b hb _ hw).mono ?_
      rintro e w3 ⟨rfl, h3⟩
      exact ⟨_, rfl, _, rfl, b5, b6, b7, fun h => e0 h, fun _ => rfl, fun h => e2 h, fun h => e3 h, fun h => e4 h, fun h => e5 h, fun h => e6 h, h3⟩
    · obtain rfl := Option.some.inj ho
      refine wpOp_of_wp ho rfl (wp_call0 rfl (by kernel_rfl) ?_)
      refine (rounds_any _ hw).mono ?_
      rintro e w3 ⟨rfl, h3⟩
      exact ⟨_, rfl, _, rfl, b5, b6, b7, fun h => e0 h, fun h => e1 h, fun _ => rfl, fun h => e3 h, fun h => e4 h, fun h => e5 h, fun h => e6 h, h3⟩
    · obtain rfl := Option.some.inj ho
      refine wpOp_of_wp ho rfl (wp_load_mid S8T (.tmp 2) rfl w.heap.size 0 ((acts_eval_no (by kernel_rfl) _).trans F2) (SV s) (.array 8 U32) (hw.f5.range 0 _ (fun j u hu => by rw [HS.out]; simpa using hu)) (by kernel_rfl) rfl (size8 _ rfl) ?_)
      exact ⟨_, rfl, b5, b6, b7, fun h => e0 h, fun h => e1 h, fun h => e2 h, fun _ => rfl, fun h => e4 h, fun h => e5 h, fun h => e6 h, hw⟩
    · obtain rfl := Option.some.inj ho
      have h7 : l 7 = false := by
        cases h7 : l 7 with
        | false => rfl
        | true => have := hcl 7 _ rfl h7 ⟨4, .data⟩ (by simp) rfl; rw [hl] at this; cases this
      have h' := Own.blkEq (show z64.toArray = cond (l 7) (SC b).toArray z64.toArray by rw [h7]; rfl) (hw.drop.alloc (.cells z64.toArray A64))
      exact wpOp_of_wp ho rfl (wp_yields (v := .pointer (some ⟨w2.heap.size, 0, none⟩)) (w' := w2.alloc (.cells z64.toArray A64)) (by kernel_rfl) ⟨_, rfl, w2.heap.size, b6, b7, fun h => e0 h, fun h => e1 h, fun h => e2 h, fun h => e3 h, fun _ => rfl, fun h => e5 h, fun h => e6 h, Own.optTrue rfl h'⟩)
    · obtain rfl := Option.some.inj ho
      have h8 : l 8 = false := by
        cases h8 : l 8 with
        | false => rfl
        | true => have := hcl 8 _ rfl h8 ⟨5, .data⟩ (by simp) rfl; rw [hl] at this; cases this
      have h' := Own.blkEq (show z64.toArray = cond (l 8) KC.toArray z64.toArray by rw [h8]; rfl) (hw.f1.drop.alloc (.cells z64.toArray A64))
      exact wpOp_of_wp ho rfl (wp_yields (v := .pointer (some ⟨w2.heap.size, 0, none⟩)) (w' := w2.alloc (.cells z64.toArray A64)) (by kernel_rfl) ⟨_, rfl, b5, w2.heap.size, b7, fun h => e0 h, fun h => e1 h, fun h => e2 h, fun h => e3 h, fun h => e4 h, fun _ => rfl, fun h => e6 h, (Own.optTrue rfl h').b1⟩)
    · obtain rfl := Option.some.inj ho
      have h9 : l 9 = false := by
        cases h9 : l 9 with
        | false => rfl
        | true => have := hcl 9 _ rfl h9 ⟨6, .data⟩ (by simp) rfl; rw [hl] at this; cases this
      have h' := Own.blkEq (show z8.toArray = cond (l 9) (SV s).toArray z8.toArray by rw [h9]; rfl) (hw.f2.drop.alloc (.cells z8.toArray S8T))
      exact wpOp_of_wp ho rfl (wp_yields (v := .pointer (some ⟨w2.heap.size, 0, none⟩)) (w' := w2.alloc (.cells z8.toArray S8T)) (by kernel_rfl) ⟨_, rfl, b5, b6, w2.heap.size, fun h => e0 h, fun h => e1 h, fun h => e2 h, fun h => e3 h, fun h => e4 h, fun h => e5 h, fun _ => rfl, (Own.optTrue rfl h').b2⟩)
    · obtain rfl := Option.some.inj ho
      have d4 : l 4 = true := hdeps ⟨4, .data⟩ (by simp) rfl
      have d1 : l 1 = true := hdeps ⟨1, .data⟩ (by simp) rfl
      rw [hl] at hw
      refine wpOp_of_wp ho rfl (wp_store_whole (cs := z64) (vs := SC b) (Own.ofOpt d4 hw) (by simp [z64, Sha.sched_length]) (V32_one _) (size64 _ (Sha.sched_length b)) rfl ((acts_eval hdd (j := 4) rfl d4 (lt_size hsz (of_decide_eq_true rfl)) _ (of_decide_eq_true rfl)).trans (e4 d4)) ((acts_eval hdd (j := 1) rfl d1 (lt_size hsz (of_decide_eq_true rfl)) _ (of_decide_eq_true rfl)).trans (e1 d1)) ?_)
      intro w3 h9
      have h10 := Own.optTrue d4 h9
      exact ⟨undef, rfl, b5, b6, b7, fun h => e0 h, fun h => e1 h, fun h => e2 h, fun h => e3 h, fun h => e4 h, fun h => e5 h, fun h => e6 h, h10⟩
    · obtain rfl := Option.some.inj ho
      have d5 : l 5 = true := hdeps ⟨5, .data⟩ (by simp) rfl
      have d2 : l 2 = true := hdeps ⟨2, .data⟩ (by simp) rfl
      rw [hl] at hw
      refine wpOp_of_wp ho rfl (wp_store_whole (cs := z64) (vs := KC) (Own.ofOpt d5 hw.f1) (by simp [z64, K_length]) (V32_one _) (size64 _ K_length) rfl ((acts_eval hdd (j := 5) rfl d5 (lt_size hsz (of_decide_eq_true rfl)) _ (of_decide_eq_true rfl)).trans (e5 d5)) ((acts_eval hdd (j := 2) rfl d2 (lt_size hsz (of_decide_eq_true rfl)) _ (of_decide_eq_true rfl)).trans (e2 d2)) ?_)
      intro w3 h9
      have h10 := Own.optTrue d5 h9
      exact ⟨undef, rfl, b5, b6, b7, fun h => e0 h, fun h => e1 h, fun h => e2 h, fun h => e3 h, fun h => e4 h, fun h => e5 h, fun h => e6 h, h10.b1⟩
    · obtain rfl := Option.some.inj ho
      have d6 : l 6 = true := hdeps ⟨6, .data⟩ (by simp) rfl
      have d3 : l 3 = true := hdeps ⟨3, .data⟩ (by simp) rfl
      rw [hl] at hw
      refine wpOp_of_wp ho rfl (wp_store_whole (cs := z8) (vs := SV s) (Own.ofOpt d6 hw.f2) (by simp [z8, Sha.S8.list]) (V32_one _) (size8 _ rfl) rfl ((acts_eval hdd (j := 6) rfl d6 (lt_size hsz (of_decide_eq_true rfl)) _ (of_decide_eq_true rfl)).trans (e6 d6)) ((acts_eval hdd (j := 3) rfl d3 (lt_size hsz (of_decide_eq_true rfl)) _ (of_decide_eq_true rfl)).trans (e3 d3)) ?_)
      intro w3 h9
      have h10 := Own.optTrue d6 h9
      exact ⟨undef, rfl, b5, b6, b7, fun h => e0 h, fun h => e1 h, fun h => e2 h, fun h => e3 h, fun h => e4 h, fun h => e5 h, fun h => e6 h, h10.b2⟩
  · intro l env w2 hall hS
    obtain ⟨b5, b6, b7, e0, e1, e2, e3, e4, e5, e6, hw⟩ := hS
    have t0 := hall 0 (of_decide_eq_true rfl)
    have t1 := hall 1 (of_decide_eq_true rfl)
    have t2 := hall 2 (of_decide_eq_true rfl)
    have t3 := hall 3 (of_decide_eq_true rfl)
    have t4 := hall 4 (of_decide_eq_true rfl)
    have t5 := hall 5 (of_decide_eq_true rfl)
    have t6 := hall 6 (of_decide_eq_true rfl)
    have t7 := hall 7 (of_decide_eq_true rfl)
    have t8 := hall 8 (of_decide_eq_true rfl)
    have t9 := hall 9 (of_decide_eq_true rfl)
    have hw2 : Own E w2 (Hp.blk b5 A64 (SC b).toArray :: Hp.blk b6 A64 KC.toArray :: Hp.blk b7 S8T (SV s).toArray :: Hp.blk (w.heap.size + 1 + 1) S8T z8.toArray :: Hp.blk (w.heap.size + 1) B64 bs :: Hp.blk w.heap.size S8T ss :: L) := by
      rw [t4, t5, t6, t7, t8, t9] at hw
      exact hw
    have HW := Lib.hid hw2
    clear hw hw2 h1
    simp only [List.size_toArray, List.length_cons, List.length_nil, Nat.zero_add, Nat.reduceAdd, acts, t0, t1, t2, t3, t4, t5, t6, t7, t8, t9, if_true, e0 t0, e1 t1, e2 t2, e3 t3, e4 t4, e5 t5, e6 t6]
    clear e0 e1 e2 e3 e4 e5 e6 t0 t1 t2 t3 t4 t5 t6 t7 t8 t9 hall
    go_wp2_with fail
    go_loopw [19] (fun i wr => ∃ k : Nat, k ≤ 64 ∧ i = .int .i64 k ∧ Own E wr (Hp.blk b5 A64 (SC b).toArray :: Hp.blk b6 A64 KC.toArray :: Hp.blk b7 S8T (SV (Sha.rounds s (Sha.sched b) k)).toArray :: Hp.blk (w.heap.size + 1 + 1) S8T z8.toArray :: Hp.blk (w.heap.size + 1) B64 bs :: Hp.blk w.heap.size S8T ss :: L)) (fun i _ => 64 - (intOf i).toNat)
    case atStart => exact ⟨0, by omega, rfl, HW.out⟩
    case round =>
      obtain ⟨k, hk, rfl, hv⟩ := hrel
      clear HW
      by_cases hlt : k < 64
      · have hr : Sha.rounds s (Sha.sched b) (k + 1) = Sha.round (Sha.rounds s (Sha.sched b) k) (Sha.K.getD k 0) ((Sha.sched b).getD k 0) := rfl
        have HR := Lib.hid hr
        clear hr
        have cw := hv.cell k
        rw [arr_get _ _ (by rw [Sha.sched_length]; exact hlt)] at cw
        have ck := hv.f1.cell k
        rw [arr_get _ _ (by rw [K_length]; exact hlt)] at ck
        generalize Sha.rounds s (Sha.sched b) k = v at *
        generalize (Sha.sched b).getD k 0 = ww at *
        generalize Sha.K.getD k 0 = kk at *
        obtain ⟨x0, x1, x2, x3, x4, x5, x6, x7⟩ := v
        have c0 : wr.cell? ⟨b7, 0, none⟩ = some (V32 x0) := hv.f2.cell 0
        have c1 : wr.cell? ⟨b7, 1, none⟩ = some (V32 x1) := hv.f2.cell 1
        have c2 : wr.cell? ⟨b7, 2, none⟩ = some (V32 x2) := hv.f2.cell 2
        have c3 : wr.cell? ⟨b7, 3, none⟩ = some (V32 x3) := hv.f2.cell 3
        have c4 : wr.cell? ⟨b7, 4, none⟩ = some (V32 x4) := hv.f2.cell 4
        have c5 : wr.cell? ⟨b7, 5, none⟩ = some (V32 x5) := hv.f2.cell 5
        have c6 : wr.cell? ⟨b7, 6, none⟩ = some (V32 x6) := hv.f2.cell 6
        have c7 : wr.cell? ⟨b7, 7, none⟩ = some (V32 x7) := hv.f2.cell 7
        have HV := Lib.hid hv
        clear hv
        have i1 : (0 : Int) ≤ (k : Int) := by omega
        have i2 : (k : Int) < 64 := by omega
        go_wp2_with fail
        go_quiet ((first | (go_at_call 70; first | with_reducible exact quiet_left (Turn.at6 x4 _) | with_reducible exact quiet_add_left (Turn.at6 x4 _)) | (go_at_call 70; first | with_reducible exact quiet_left (Turn.at11 x4 _) | with_reducible exact quiet_add_left (Turn.at11 x4 _)) | (go_at_call 70; first | with_reducible exact quiet_left (Turn.at25 x4 _) | with_reducible exact quiet_add_left (Turn.at25 x4 _))))
        go_wp2_with fail
        go_quiet (fail)
        go_wp2_with fail
        go_quiet ((first | (go_at_call 70; first | with_reducible exact quiet_left (Turn.at2 x0 _) | with_reducible exact quiet_add_left (Turn.at2 x0 _)) | (go_at_call 70; first | with_reducible exact quiet_left (Turn.at13 x0 _) | with_reducible exact quiet_add_left (Turn.at13 x0 _)) | (go_at_call 70; first | with_reducible exact quiet_left (Turn.at22 x0 _) | with_reducible exact quiet_add_left (Turn.at22 x0 _))))
        have i3 : IntKind.i64.wrap ((k : Int) + 1) = (k : Int) + 1 := IntWalk.i64_in _ (by omega)
        clear i3
        have h8 := HV.out.f2
        rw [SV_arr] at h8
        have H8 := Lib.hid h8
        have f0 : wr.frozen? ⟨b7, 0, none⟩ = false := HV.out.f2.frozen 0
        have f1 : wr.frozen? ⟨b7, 1, none⟩ = false := HV.out.f2.frozen 1
        have f2 : wr.frozen? ⟨b7, 2, none⟩ = false := HV.out.f2.frozen 2
        have f3 : wr.frozen? ⟨b7, 3, none⟩ = false := HV.out.f2.frozen 3
        have f4 : wr.frozen? ⟨b7, 4, none⟩ = false := HV.out.f2.frozen 4
        have f5 : wr.frozen? ⟨b7, 5, none⟩ = false := HV.out.f2.frozen 5
        have f6 : wr.frozen? ⟨b7, 6, none⟩ = false := HV.out.f2.frozen 6
        have f7 : wr.frozen? ⟨b7, 7, none⟩ = false := HV.out.f2.frozen 7
        clear h8 HV i1 i2
        go_wp2_with fail
        go_roundw
        case rel =>
          refine ⟨k + 1, by omega, by go_num, ?_⟩
          rw [HR.out]
          exact ((own_set8 _ _ _ _ _ _ _ _ (H8.out.drewN _)).blkEq' (SV_arr (Sha.round ⟨x0, x1, x2, x3, x4, x5, x6, x7⟩ kk ww)).symm).b2
        case measure => simp [intOf]; omega
      · obtain rfl : k = 64 := by omega
        generalize hv64 : Sha.rounds s (Sha.sched b) 64 = v at hv
        have hcomp : Sha.compress s b = s.add v := by unfold Sha.compress; rw [hv64]
        have HC := Lib.hid hcomp
        rw [HS.out] at hv
        have hv2 : Own E wr (Hp.blk w.heap.size S8T ((addTo s.list v.list 0).map V32).toArray :: Hp.blk b7 S8T (SV v).toArray :: Hp.blk (w.heap.size + 1 + 1) S8T z8.toArray :: L) := by
          rw [addTo_zero]
          exact ((hv.drop.drop).ac (M := Hp.blk (w.heap.size + 1) B64 bs :: Hp.blk w.heap.size S8T (SV s).toArray :: Hp.blk b7 S8T (SV v).toArray :: Hp.blk (w.heap.size + 1 + 1) S8T z8.toArray :: L) (by simp only [Hp.all]; ac_rfl)).drop
        have HV2 := Lib.hid hv2
        clear hv hv2 hcomp hv64 hlt
        go_wp2_with fail
        go_loopw [110] (fun i wr => ∃ k : Nat, k ≤ 8 ∧ i = .int .i64 k ∧ Own E wr (Hp.blk w.heap.size S8T ((addTo s.list v.list k).map V32).toArray :: Hp.blk b7 S8T (SV v).toArray :: Hp.blk (w.heap.size + 1 + 1) S8T z8.toArray :: L)) (fun i _ => 8 - (intOf i).toNat)
        case atStart => exact ⟨0, by omega, rfl, HV2.out⟩
        case round =>
          obtain ⟨k, hk2, rfl, hv⟩ := hrel
          clear HV2
          by_cases hlt : k < 8
          · have c1 := hv.cell k
            rw [addTo_at s.list v.list k (S8_lens s v) (S8_lt s hlt)] at c1
            have c2 := hv.f1.cell k
            rw [arr_get _ _ (S8_lt v hlt)] at c2
            have f1 := hv.frozen k
            have hs := Own.blkEq (addTo_set s.list v.list k (S8_lens s v) (S8_lt s hlt)) (hv.drew.set k (V32 (s.list.getD k 0 + v.list.getD k 0)))
            have Hs := Lib.hid hs
            have hne := Lib.hid (hv.ne)
            clear hv hs
            generalize s.list.getD k 0 = x at *
            generalize v.list.getD k 0 = y at *
            have i1 : (0 : Int) ≤ (k : Int) := by omega
            have i2 : (k : Int) < 8 := by omega
            go_upto_region 15 with (fail)
            refine wp_region_inv_f (Checked.mixed Tryd.checked) (fun a => a.tmps.size = 123 ∧ a.eval (.tmp 2) = .pointer (some ⟨w.heap.size, 0, none⟩) ∧ a.eval (.tmp 7) = .pointer (some ⟨b7, 0, none⟩) ∧ a.eval (.tmp 14) = .int .i64 k) (St15 E wr.drew (Hp.blk w.heap.size S8T ((addTo s.list v.list (k + 1)).map V32).toArray :: Hp.blk b7 S8T (SV v).toArray :: Hp.blk (w.heap.size + 1 + 1) S8T z8.toArray :: L) w.heap.size b7 k x y) (by kernel_rfl) ⟨rfl, rfl, rfl, rfl⟩ ?_ ?_ ?_
            · exact ⟨(fun h => by cases h), (fun h => by cases h), (fun h => by cases h), (fun h => by cases h), (fun h => by cases h), (fun h => by cases h), (fun h => by cases h), (fun h => by cases h), fun _ => rfl, fun h => by cases h⟩
            · intro a0 Q hF i o l env w2 hdd ho hl hdeps hcl hS
              obtain ⟨hsz, F2, F7, F14⟩ := hF
              obtain ⟨e0, e1, e2, e3, e4, e5, e6, e7, hw1, hw2⟩ := hS
              have hi : i < 9 := (Array.getElem?_eq_some_iff.1 ho).1
              rcases (by omega : i = 0 ∨ i = 1 ∨ i = 2 ∨ i = 3 ∨ i = 4 ∨ i = 5 ∨ i = 6 ∨ i = 7 ∨ i = 8) with rfl | rfl | rfl | rfl | rfl | rfl | rfl | rfl | rfl
              · obtain rfl := Option.some.inj ho
                refine wpOp_of_wp ho rfl (wp_mv rfl ((acts_eval_no (by kernel_rfl) _).trans F14) ?_)
                exact ⟨_, rfl, fun _ => rfl, fun h => e1 h, fun h => e2 h, fun h => e3 h, fun h => e4 h, fun h => e5 h, fun h => e6 h, fun h => e7 h, hw1, hw2⟩
              · obtain rfl := Option.some.inj ho
                have d0 : l 0 = true := hdeps ⟨0, .data⟩ (by simp) rfl
                refine wpOp_of_wp ho rfl (wp_ix8 rfl ((acts_eval_no (by kernel_rfl) _).trans F2) ((acts_eval hdd (j := 0) rfl d0 (lt_size hsz (of_decide_eq_true rfl)) _ (of_decide_eq_true rfl)).trans (e0 d0)) hlt ?_)
                exact ⟨_, rfl, fun h => e0 h, fun _ => rfl, fun h => e2 h, fun h => e3 h, fun h => e4 h, fun h => e5 h, fun h => e6 h, fun h => e7 h, hw1, hw2⟩
              · obtain rfl := Option.some.inj ho
                have d1 : l 1 = true := hdeps ⟨1, .data⟩ (by simp) rfl
                have h8 : l 8 = false := by
                  cases h8 : l 8 with
                  | false => rfl
                  | true =>
                    have h6 := hcl 8 _ rfl h8 ⟨6, .data⟩ (by simp) rfl
                    have := hcl 6 _ rfl h6 ⟨2, .data⟩ (by simp) rfl
                    rw [hl] at this; cases this
                have hwe := hw1 h8
                rw [hwe]
                have hw1 : l 8 = false → wr.drew = wr.drew := fun _ => rfl
                have hw2 : l 8 = true → Own E wr.drew (Hp.blk w.heap.size S8T ((addTo s.list v.list (k + 1)).map V32).toArray :: Hp.blk b7 S8T (SV v).toArray :: Hp.blk (w.heap.size + 1 + 1) S8T z8.toArray :: L) := fun h => by rw [h8] at h; cases h
                refine wpOp_of_wp ho rfl (wp_ld32 rfl ((acts_eval hdd (j := 1) rfl d1 (lt_size hsz (of_decide_eq_true rfl)) _ (of_decide_eq_true rfl)).trans (e1 d1)) c1 ?_)
                exact ⟨_, rfl, fun h => e0 h, fun h => e1 h, fun _ => rfl, fun h => e3 h, fun h => e4 h, fun h => e5 h, fun h => e6 h, fun h => e7 h, hw1, hw2⟩
              · obtain rfl := Option.some.inj ho
                refine wpOp_of_wp ho rfl (wp_mv rfl ((acts_eval_no (by kernel_rfl) _).trans F14) ?_)
                exact ⟨_, rfl, fun h => e0 h, fun h => e1 h, fun h => e2 h, fun _ => rfl, fun h => e4 h, fun h => e5 h, fun h => e6 h, fun h => e7 h, hw1, hw2⟩
              · obtain rfl := Option.some.inj ho
                have d3 : l 3 = true := hdeps ⟨3, .data⟩ (by simp) rfl
                refine wpOp_of_wp ho rfl (wp_ix8 rfl ((acts_eval_no (by kernel_rfl) _).trans F7) ((acts_eval hdd (j := 3) rfl d3 (lt_size hsz (of_decide_eq_true rfl)) _ (of_decide_eq_true rfl)).trans (e3 d3)) hlt ?_)
                exact ⟨_, rfl, fun h => e0 h, fun h => e1 h, fun h => e2 h, fun h => e3 h, fun _ => rfl, fun h => e5 h, fun h => e6 h, fun h => e7 h, hw1, hw2⟩
              · obtain rfl := Option.some.inj ho
                have d4 : l 4 = true := hdeps ⟨4, .data⟩ (by simp) rfl
                have h8 : l 8 = false := by
                  cases h8 : l 8 with
                  | false => rfl
                  | true =>
                    have h6 := hcl 8 _ rfl h8 ⟨6, .data⟩ (by simp) rfl
                    have := hcl 6 _ rfl h6 ⟨5, .data⟩ (by simp) rfl
                    rw [hl] at this; cases this
                have hwe := hw1 h8
                rw [hwe]
                have hw1 : l 8 = false → wr.drew = wr.drew := fun _ => rfl
                have hw2 : l 8 = true → Own E wr.drew (Hp.blk w.heap.size S8T ((addTo s.list v.list (k + 1)).map V32).toArray :: Hp.blk b7 S8T (SV v).toArray :: Hp.blk (w.heap.size + 1 + 1) S8T z8.toArray :: L) := fun h => by rw [h8] at h; cases h
                refine wpOp_of_wp ho rfl (wp_ld32 rfl ((acts_eval hdd (j := 4) rfl d4 (lt_size hsz (of_decide_eq_true rfl)) _ (of_decide_eq_true rfl)).trans (e4 d4)) c2 ?_)
                exact ⟨_, rfl, fun h => e0 h, fun h => e1 h, fun h => e2 h, fun h => e3 h, fun h => e4 h, fun _ => rfl, fun h => e6 h, fun h => e7 h, hw1, hw2⟩
              · obtain rfl := Option.some.inj ho
                have d2 : l 2 = true := hdeps ⟨2, .data⟩ (by simp) rfl
                have d5 : l 5 = true := hdeps ⟨5, .data⟩ (by simp) rfl
                refine wpOp_of_wp ho rfl (wp_add32 rfl ((acts_eval hdd (j := 2) rfl d2 (lt_size hsz (of_decide_eq_true rfl)) _ (of_decide_eq_true rfl)).trans (e2 d2)) ((acts_eval hdd (j := 5) rfl d5 (lt_size hsz (of_decide_eq_true rfl)) _ (of_decide_eq_true rfl)).trans (e5 d5)) ?_)
                exact ⟨_, rfl, fun h => e0 h, fun h => e1 h, fun h => e2 h, fun h => e3 h, fun h => e4 h, fun h => e5 h, fun _ => rfl, fun h => e7 h, hw1, hw2⟩
              · obtain rfl := Option.some.inj ho
                have d0 : l 0 = true := hdeps ⟨0, .data⟩ (by simp) rfl
                refine wpOp_of_wp ho rfl (wp_ix8 rfl ((acts_eval_no (by kernel_rfl) _).trans F2) ((acts_eval hdd (j := 0) rfl d0 (lt_size hsz (of_decide_eq_true rfl)) _ (of_decide_eq_true rfl)).trans (e0 d0)) hlt ?_)
                exact ⟨_, rfl, fun h => e0 h, fun h => e1 h, fun h => e2 h, fun h => e3 h, fun h => e4 h, fun h => e5 h, fun h => e6 h, fun _ => rfl, hw1, hw2⟩
              · obtain rfl := Option.some.inj ho
                have d7 : l 7 = true := hdeps ⟨7, .data⟩ (by simp) rfl
                have d6 : l 6 = true := hdeps ⟨6, .data⟩ (by simp) rfl
                have hwe := hw1 hl
                rw [hwe]
                refine wpOp_of_wp ho rfl (wp_st32 rfl ((acts_eval hdd (j := 7) rfl d7 (lt_size hsz (of_decide_eq_true rfl)) _ (of_decide_eq_true rfl)).trans (e7 d7)) ((acts_eval hdd (j := 6) rfl d6 (lt_size hsz (of_decide_eq_true rfl)) _ (of_decide_eq_true rfl)).trans (e6 d6)) c1 f1 ?_)
                exact ⟨_, rfl, fun h => e0 h, fun h => e1 h, fun h => e2 h, fun h => e3 h, fun h => e4 h, fun h => e5 h, fun h => e6 h, fun h => e7 h, fun h => (by cases h), fun _ => Hs.out⟩
            · intro l env w2 hall hS
              obtain ⟨e0, e1, e2, e3, e4, e5, e6, e7, hw1, hw2⟩ := hS
              have t0 := hall 0 (of_decide_eq_true rfl)
              have t1 := hall 1 (of_decide_eq_true rfl)
              have t2 := hall 2 (of_decide_eq_true rfl)
              have t3 := hall 3 (of_decide_eq_true rfl)
              have t4 := hall 4 (of_decide_eq_true rfl)
              have t5 := hall 5 (of_decide_eq_true rfl)
              have t6 := hall 6 (of_decide_eq_true rfl)
              have t7 := hall 7 (of_decide_eq_true rfl)
              have t8 := hall 8 (of_decide_eq_true rfl)
              have HW := Lib.hid (hw2 t8)
              clear hw1 hw2 c1 c2 f1
              simp only [List.size_toArray, List.length_cons, List.length_nil, Nat.zero_add, Nat.reduceAdd, acts, t0, t1, t2, t3, t4, t5, t6, t7, t8, if_true, e0 t0, e1 t1, e2 t2, e3 t3, e4 t4, e5 t5, e6 t6, e7 t7]
              clear e0 e1 e2 e3 e4 e5 e6 e7 t0 t1 t2 t3 t4 t5 t6 t7 t8 hall
              go_wp2_with fail
              go_roundw
              case rel =>
                (repeat apply Exists.intro)
                exact ⟨⟨k + 1, by omega, by go_num, HW.out⟩, rfl⟩
              case measure => simp [intOf]; omega
          · obtain rfl : k = 8 := by omega
            rw [addTo_all, ← HC.out] at hv
            clear hlt hk2
            obtain ⟨o, ho⟩ : ∃ o, o = Sha.compress s b := ⟨_, rfl⟩
            rw [← ho] at hv
            have HO := Lib.hid ho
            clear ho
            go_upto_region 17 with (fail)
            refine wp_region_list ?_
            refine wpList_load_arr hv 0 (SV o) (fun j u hu => by simpa using hu) (d0 := .array 8 U32) (by kernel_rfl) rfl (size8 _ rfl) rfl rfl rfl ?_
            refine wpList_store_whole (cs := z8) (vs := SV o) (hv.drop.drop) (by simp [z8, Sha.S8.list]) (V32_one _) (size8 _ rfl) rfl rfl rfl rfl ?_
            intro w3 h3
            go_wp2_with fail
            exact bodyPost_ret (results_arr Tryd.results57 rfl h3 (d0 := .array 8 U32) (by kernel_rfl) rfl (size8 _ rfl)) rfl ⟨by rw [HO.out], h3.drop⟩
end Go.Proofs.YtilcilbmbhbakaaDoor
