/- latchkeylaw02.CodecWrites: true of any script. -/
import Derived.Test.YtokephnlelpjhaaDoorMany0
import Derived.Test.YtokephnlelpjhaaDoorMany1
import Derived.Test.YtokephnlelpjhaaDoorMany2
import Derived.Test.YtokephnlelpjhaaDoorMany3
import Derived.Test.YtokephnlelpjhaaDoorMany4
import Derived.Test.YtokephnlelpjhaaDoorMany5
import Derived.Test.YtokephnlelpjhaaDoorAwake2
namespace Go.Proofs.YtokephnlelpjhaaDoor
open Go.RowKit
abbrev PWT : TypeId := 25
abbrev PXW : TypeId := 28
abbrev OLT : TypeId := 22
abbrev ptr (b : Nat) : Value := .pointer (some ⟨b, 0, none⟩)
section
variable {E : World} {L : List Hp}
theorem many_any {S : Ph} (b xb : Nat) (l : List UInt8) (e : Int) (x : Step) (w : World) (hx : StepOk S x) (hn : x.len ≤ 2147483000) (hl : l.length + 8 * x.len + 100 ≤ 140737488355328) (h : Own E w (Hp.wtr b l e :: Hp.xwr xb l e :: Hp.ro S :: L)) :
    Calls Tryd.prog 19 #[.pointer (some ⟨b, 0, none⟩), .pointer (some ⟨xb, 0, none⟩), .agg (enStep x).toArray] w fun ev w' => ev = .returned (.bool true) ∧ ∃ l' e', l'.length ≤ l.length + 8 * x.len ∧ Own E w' (Hp.wtr b l' e' :: Hp.xwr xb l' e' :: Hp.ro S :: L) := by
  obtain ⟨kd, on, sz, nn, ss, A, ln, cp, zs⟩ := x
  have hlt := pickN_lt nn 6 (by omega)
  have hr : Rds S 1 enI A ln zs := hx.rds
  have key : ∀ ys : List Int, ys.length = ln → (wMany (l, e) sz ys).1.length ≤ l.length + 8 * ln := fun ys hy => by
    have := wMany_len sz ys (l, e)
    rw [hy] at this
    exact this
  rcases (by omega : pickN nn 6 = 0 ∨ pickN nn 6 = 1 ∨ pickN nn 6 = 2 ∨ pickN nn 6 = 3 ∨ pickN nn 6 = 4 ∨ pickN nn 6 = 5) with hq | hq | hq | hq | hq | hq
  · refine (many_0 b xb l e kd on sz nn ss A ln cp zs w hq hx.n hr hx.el hn hl h).mono ?_
    rintro ev w' ⟨rfl, h2⟩
    exact ⟨rfl, _, _, key _ hr.1, h2⟩
  · refine (many_1 b xb l e kd on sz nn ss A ln cp zs w hq hx.n hr hx.el hn hl h).mono ?_
    rintro ev w' ⟨rfl, h2⟩
    exact ⟨rfl, _, _, key _ (by rw [List.length_map]; exact hr.1), h2⟩
  · refine (many_2 b xb l e kd on sz nn ss A ln cp zs w hq hx.n hr hx.el hn hl h).mono ?_
    rintro ev w' ⟨rfl, h2⟩
    exact ⟨rfl, _, _, key _ hr.1, h2⟩
  · refine (many_3 b xb l e kd on sz nn ss A ln cp zs w hq hx.n hr hx.el hn hl h).mono ?_
    rintro ev w' ⟨rfl, h2⟩
    exact ⟨rfl, _, _, key _ (by rw [List.length_map]; exact hr.1), h2⟩
  · refine (many_4 b xb l e kd on sz nn ss A ln cp zs w hq hx.n hr hx.el hn hl h).mono ?_
    rintro ev w' ⟨rfl, h2⟩
    exact ⟨rfl, _, _, key _ (by rw [List.length_map]; exact hr.1), h2⟩
  · refine (many_5 b xb l e kd on sz nn ss A ln cp zs w hq hx.n hr hx.el hn hl h).mono ?_
    rintro ev w' ⟨rfl, h2⟩
    exact ⟨rfl, _, _, key _ (by rw [List.length_map]; exact hr.1), h2⟩
end
/-- Two Writers and two of the reference's, each two alike, about the memory that came in. -/
abbrev TwoW (S : Ph) (b x : Nat) (l : List UInt8) (e : Int) (b' x' : Nat) (l' : List UInt8) (e' : Int) (M : List Hp) : List Hp :=
  Hp.wtr b l e :: Hp.xwr x l e :: Hp.ro S :: Hp.wtr b' l' e' :: Hp.xwr x' l' e' :: M
theorem two_pick {E : World} {S : Ph} {b0 x0 b1 x1 : Nat} {l0 l1 : List UInt8} {e0 e1 : Int} {Z : Nat} (z0 : l0.length ≤ Z) (z1 : l1.length ≤ Z) (j : Nat) (hj : j < 2) :
    ∃ b x l e b' x' l' e', #[ptr b0, ptr b1][j]? = some (ptr b) ∧ #[ptr x0, ptr x1][j]? = some (ptr x) ∧ l.length ≤ Z ∧ (∀ M w', Own E w' (TwoW S b0 x0 l0 e0 b1 x1 l1 e1 M) → Own E w' (TwoW S b x l e b' x' l' e' M)) ∧
      ∀ M w' Z' t f, Z ≤ Z' → t.length ≤ Z' → Own E w' (TwoW S b x t f b' x' l' e' M) → ∃ t0 f0 t1 f1, t0.length ≤ Z' ∧ t1.length ≤ Z' ∧ Own E w' (TwoW S b0 x0 t0 f0 b1 x1 t1 f1 M) := by
  rcases (by omega : j = 0 ∨ j = 1) with rfl | rfl
  · exact ⟨b0, x0, l0, e0, b1, x1, l1, e1, rfl, rfl, z0, fun _ _ h => h, fun _ _ _ t f hz ht h => ⟨t, f, l1, e1, ht, by omega, h⟩⟩
  · exact ⟨b1, x1, l1, e1, b0, x0, l0, e0, rfl, rfl, z1, fun _ _ h => h.f3.f4.f1.f4.b2, fun _ _ _ t f hz ht h => ⟨l0, e0, t, f, by omega, ht, h.f3.f4.f1.f4.b2⟩⟩
theorem wText_len (l : List UInt8) (e m : Int) (s : ByteArray) : (wText l e m s).1.length ≤ l.length + 2 + s.size := by
  have ha : ahead m.toNat ≤ 2 := by unfold ahead; split <;> omega
  unfold wText
  by_cases h1 : m < 0 ∨ 65535 < m
  · rw [if_pos h1]; show l.length ≤ _; omega
  rw [if_neg h1]
  by_cases h2 : m < s.size
  · rw [if_pos h2]; show l.length ≤ _; omega
  rw [if_neg h2]
  show (l ++ byN (ahead m.toNat) s.size ++ s.data.toList).length ≤ _
  rw [List.length_append, List.length_append, byN_len, show s.data.toList.length = s.size from rfl]
  omega
theorem flat_get (xs : List Step) (k j : Nat) (x : Step) (hx : xs[k]? = some x) (hj : j < 6) : (xs.flatMap enStep)[k * 6 + j]? = (enStep x)[j]? := by
  induction xs generalizing k with
  | nil => cases hx
  | cons y ys ih =>
    rw [List.flatMap_cons]
    cases k with
    | zero =>
      simp only [List.getElem?_cons_zero, Option.some.injEq] at hx
      subst hx
      rw [Nat.zero_mul, Nat.zero_add, List.getElem?_append_left (show j < (enStep y).length from hj)]
    | succ k =>
      rw [List.getElem?_append_right (by show 6 ≤ _; omega), show (k + 1) * 6 + j - (enStep y).length = k * 6 + j by show (k + 1) * 6 + j - 6 = _; omega]
      exact ih k hx
theorem flat_len (xs : List Step) : (xs.flatMap enStep).length = xs.length * 6 := by
  induction xs with
  | nil => rfl
  | cons x l ih =>
    simp only [List.flatMap_cons, List.length_append, ih, List.length_cons, List.length_nil]
    omega
/-- Done, of the one and of the other. -/
abbrev done0 : Step := ⟨4, 0, 0, 0, ⟨#[]⟩, none, 0, 0, []⟩
abbrev done1 : Step := ⟨4, 1, 0, 0, ⟨#[]⟩, none, 0, 0, []⟩
theorem done_ok (S : Ph) (x : Step) (hx : x = done0 ∨ x = done1) : StepOk S x := by
  have h0 : i64B 0 := ⟨by omega, by omega⟩
  have h1 : i64B 1 := ⟨by omega, by omega⟩
  rcases hx with rfl | rfl
  · exact ⟨h0, h0, h0, Nat.le_refl _, Nat.zero_le _, Rds.nil (en := enI) (fun _ => rfl), fun _ h => by cases h⟩
  · exact ⟨h1, h0, h0, Nat.le_refl _, Nat.zero_le _, Rds.nil (en := enI) (fun _ => rfl), fun _ h => by cases h⟩
theorem steps_one (xs : List Step) : ∀ u ∈ xs.flatMap enStep, u.oneCell' = true := by
  intro u hu
  obtain ⟨x, _, hx⟩ := List.mem_flatMap.1 hu
  simp only [List.mem_cons, List.not_mem_nil, or_false] at hx
  rcases hx with rfl | rfl | rfl | rfl | rfl | rfl <;> rfl
theorem op_info : (Tryd.prog.info? OPT).map (fun i => (i.zero, i.size, i.bytes)) = some (some (.agg #[.int .i64 0, .int .i64 0, .int .i64 0, .int .i64 0, .string .empty, .slice none 0 0]), 6, 72) := by kernel_rfl
set_option maxRecDepth 100000 in
set_option maxHeartbeats 8000000 in
theorem writes_any {E : World} {S : Ph} {L : List Hp} (A : Option Addr) (n c : Nat) (xs : List Step) (w : World) (hn : n ≤ maxLen) (hr : Rds S 6 enStep A n xs)
    (hz : ∀ x ∈ xs, x.s.size ≤ 100000000000000000) (hok : ∀ x ∈ xs, StepOk S x) (hG : Laid0 E (Hp.ro S :: L)) (h : Own E w (Hp.ro S :: L)) :
    Calls Tryd.prog 3 #[.slice A n c] w fun e w' => e = .returned (.bool true) ∧ Own E w' (Hp.ro S :: L) := by
  have HR := Lib.hid hr
  have HK := Lib.hid hok
  have HZ := Lib.hid hz
  have HN := Lib.hid hn
  clear hr hok hz hn
  go_enter Tryd.func3, Tryd.ntmps3
  go_wp2_with fail
  refine (size_any A n c xs _ HN.out HR.out HZ.out h).mono ?_
  rintro e w1 ⟨h1, z, hz1, hz2, rfl⟩
  clear h
  by_cases hc : 2147483647 < z
  · have hci : (2147483647 : Int) < z := by omega
    go_wp2_with fail
    go_ret
    exact ⟨rfl, h1⟩
  have hci : ¬ (2147483647 : Int) < z := by omega
  have hcost := hz2 (by omega)
  have hclen := cost_len xs
  have hxl := HR.out.1
  have hn2 : n ≤ 21474837 := by omega
  have HCOST : Hid (cost xs ≤ 2147483647) := Lib.hid (by omega)
  clear hc hcost hclen hz1 hz2
  go_wp2_with fail
  refine (awake_any _ h1).mono ?_
  rintro e w2 ⟨rfl, h2⟩
  clear h1
  go_wp2_with fail
  refine (newwriter_any _ h2).mono ?_
  rintro e w3 ⟨b0, rfl, h3'⟩
  have h3 := h3'.toWtr0
  clear h2 h3'
  go_wp2_with fail
  refine (newwriter_any _ h3).mono ?_
  rintro e w4 ⟨b1, rfl, h4⟩
  clear h3
  have h5 : Own E (w4.alloc (.cells #[ptr b0, ptr b1] PWT)) (Hp.blk w4.heap.size PWT #[ptr b0, ptr b1] :: Hp.wtr b1 [] 0 :: Hp.wtr b0 [] 0 :: Hp.ro S :: L) := h4.toWtr0.alloc _
  obtain ⟨gr, hgr⟩ : ∃ g, g = w4.heap.size := ⟨_, rfl⟩
  obtain ⟨w5, hw5⟩ : ∃ v, v = w4.alloc (.cells #[ptr b0, ptr b1] PWT) := ⟨_, rfl⟩
  rw [← hgr, ← hw5] at h5
  clear h4
  go_wp2_with fail
  rw [← hgr, ← hw5]
  clear hgr hw5
  refine (xnewwriter_any _ h5).mono ?_
  rintro e w6 ⟨x0, rfl, h6⟩
  clear h5
  go_wp2_with fail
  refine (xnewwriter_any _ h6).mono ?_
  rintro e w7 ⟨x1, rfl, h7⟩
  clear h6
  have h8 : Own E (w7.alloc (.cells #[ptr x0, ptr x1] PXW)) (Hp.blk w7.heap.size PXW #[ptr x0, ptr x1] :: Hp.xwr x1 [] 0 :: Hp.xwr x0 [] 0 :: Hp.blk gr PWT #[ptr b0, ptr b1] :: Hp.wtr b1 [] 0 :: Hp.wtr b0 [] 0 :: Hp.ro S :: L) := h7.alloc _
  have c80 : (w7.alloc (.cells #[ptr x0, ptr x1] PXW)).cell? ⟨gr, 0, none⟩ = some (ptr b0) := h8.f3.cell 0
  have c81 : (w7.alloc (.cells #[ptr x0, ptr x1] PXW)).cell? ⟨gr, 1, none⟩ = some (ptr b1) := h8.f3.cell 1
  have hrd : RdC (w7.alloc (.cells #[ptr x0, ptr x1] PXW)) A (xs.flatMap enStep) := (HR.out.sub h8.f6.sub).rdc
  have hfl : (xs.flatMap enStep).length = n * 6 := by rw [flat_len, hxl]
  obtain ⟨v1, w9, hap1, h9, -⟩ := sl_append (P := Tryd.prog) (t := OLT) (ty := OLT) (by kernel_rfl) op_info rfl (by omega) (h8.nilRow OPT 6) A n c (xs.flatMap enStep) hfl hrd (steps_one xs) (by unfold maxLen; omega) (by omega)
  rw [Nat.zero_add, List.nil_append] at h9
  obtain ⟨v2, w10, hap2, h10, -⟩ := sl_append_new (P := Tryd.prog) (t := OLT) (ty := OLT) (by kernel_rfl) op_info rfl (by omega) h9 ([done0, done0, done1].flatMap enStep).toArray 3 rfl (by simpa using steps_one [done0, done0, done1]) (by unfold maxLen; omega) (by omega)
  clear h7 h8 h9 hrd hfl
  go_wp2_with (first | (with_reducible refine at_slot (k := some 39) ?_; refine wpList_append_run (o := ⟨some 39, _, _, _, _, _⟩) hap1 rfl rfl rfl rfl ?_; clear hap1) | (with_reducible refine at_slot (k := some 44) ?_; refine wpList_append_run (o := ⟨some 44, _, _, _, _, _⟩) hap2 rfl rfl rfl rfl ?_; clear hap2))
  obtain ⟨A2, c2, rfl⟩ := h10.rowSlice
  obtain ⟨ys, hys⟩ : ∃ ys, ys = xs ++ [done0, done0, done1] := ⟨_, rfl⟩
  have hfl : xs.flatMap enStep ++ ([done0, done0, done1].flatMap enStep).toArray.toList = ys.flatMap enStep := by rw [hys, List.flatMap_append]
  rw [hfl] at h10
  obtain ⟨gy, hgy⟩ : ∃ g, g = w7.heap.size := ⟨_, rfl⟩
  rw [← hgy] at h10 ⊢
  have hyl : ys.length = n + 3 := by rw [hys, List.length_append, hxl]; rfl
  have HYK : Hid (∀ y ∈ ys, StepOk S y) := Lib.hid fun y hy => by
    rw [hys] at hy
    rcases List.mem_append.1 hy with hy | hy
    · exact HK.out y hy
    · simp only [List.mem_cons, List.not_mem_nil, or_false] at hy
      rcases hy with rfl | rfl | rfl
      · exact done_ok S _ (.inl rfl)
      · exact done_ok S _ (.inl rfl)
      · exact done_ok S _ (.inr rfl)
  have HYC : Hid (cost ys ≤ 2147484000) := Lib.hid (by
    have e1 := HCOST.out
    rw [hys, cost_app]
    have e2 : cost [done0, done0, done1] = 300 := by rfl
    omega)
  have H10 : Hid (Own E w10 (TwoW S b0 x0 [] 0 b1 x1 [] 0 (Hp.blk gr PWT #[ptr b0, ptr b1] :: Hp.blk gy PXW #[ptr x0, ptr x1] :: Hp.row OPT 6 (.slice A2 (n + 3) c2) (n + 3) (ys.flatMap enStep) :: L))) := Lib.hid (h10.ac (by simp only [Hp.all]; ac_rfl))
  clear h10 hys hfl hgy c80 c81 HCOST HK HZ HN HR
  go_loopw [6] (fun i wr => ∃ (k : Nat) (l0 : List UInt8) (e0 : Int) (l1 : List UInt8) (e1 : Int), k ≤ n + 3 ∧ i = .int .i64 k ∧ l0.length ≤ cost (ys.take k) ∧ l1.length ≤ cost (ys.take k) ∧ Own E wr (TwoW S b0 x0 l0 e0 b1 x1 l1 e1 (Hp.blk gr PWT #[ptr b0, ptr b1] :: Hp.blk gy PXW #[ptr x0, ptr x1] :: Hp.row OPT 6 (.slice A2 (n + 3) c2) (n + 3) (ys.flatMap enStep) :: L))) (fun i _ => n + 3 - (intOf i).toNat)
  case atStart => exact ⟨0, [], 0, [], 0, by omega, rfl, Nat.zero_le _, Nat.zero_le _, H10.out⟩
  case round =>
    obtain ⟨k, l0, e0, l1, e1, hkn, rfl, z0, z1, hw⟩ := hrel
    clear H10
    by_cases hlt : k < n + 3
    · have hrr := Own.rowRds (en := enStep) (fun _ => rfl) hw.f7 hyl
      obtain ⟨x, gx, off, hx, rfl, hc⟩ := hrr.get hlt
      have hxo := HYK.out x (List.mem_of_getElem? hx)
      have hsn := cost_snoc ys k x hx
      have hcl := cost_le ys (k + 1)
      obtain ⟨kd, on, sz, nn, ss, xA, xl, xc, ll⟩ := x
      have hrange : wr.rangeAt gx (off + k * 6) (enStep ⟨kd, on, sz, nn, ss, xA, xl, xc, ll⟩) := fun j u hu => hc j u hu
      have HSN : Hid (cost (ys.take (k + 1)) = cost (ys.take k) + (100 + ss.size + 8 * min xl 2147483647)) := Lib.hid hsn
      have HCL : Hid (cost (ys.take (k + 1)) ≤ 2147484000) := Lib.hid (Nat.le_trans hcl HYC.out)
      have HW := Lib.hid hw
      have HO := Lib.hid hxo
      have hlt2 : (k : Int) < (n : Int) + 3 := by omega
      clear hc hx hw hxo hrr hsn hcl
      go_wp2_with (with_reducible refine at_slot (k := some 54) ?_; refine wpList_load_mid (op := ⟨some 54, _, _, _, _, _⟩) rfl OPT _ rfl gx (off + k * 6) rfl (enStep ⟨kd, on, sz, nn, ss, xA, xl, xc, ll⟩) _ hrange Tryd.underlying33 rfl (by kernel_rfl) ?_; clear hrange)
      have h1 : Own E (wr.alloc (.cells (enStep ⟨kd, on, sz, nn, ss, xA, xl, xc, ll⟩).toArray OPT)) (Hp.blk wr.heap.size OPT (enStep ⟨kd, on, sz, nn, ss, xA, xl, xc, ll⟩).toArray :: TwoW S b0 x0 l0 e0 b1 x1 l1 e1 (Hp.blk gr PWT #[ptr b0, ptr b1] :: Hp.blk gy PXW #[ptr x0, ptr x1] :: Hp.row OPT 6 (.slice (some ⟨gx, off, none⟩) (n + 3) c2) (n + 3) (ys.flatMap enStep) :: L)) := HW.out.alloc _
      have c0 : (wr.alloc (.cells (enStep ⟨kd, on, sz, nn, ss, xA, xl, xc, ll⟩).toArray OPT)).cell? ⟨wr.heap.size, 0, none⟩ = some (.int .i64 kd) := h1.cell 0
      have H1 := Lib.hid h1.b5
      clear h1 HW
      refine (pick_any on 2 _ HO.out.on (by omega) (by omega)).mono ?_
      rintro ev w1' ⟨rfl, rfl⟩
      obtain ⟨j, hj⟩ : ∃ j, j = pickN on 2 := ⟨_, rfl⟩
      have hj2 : j < 2 := by rw [hj]; exact pickN_lt _ _ (by omega)
      rw [← hj]
      clear hj
      obtain ⟨b, x, l, e, b', x', l', e', hbj, hxj, zs, hto, hback⟩ := two_pick (E := E) (S := S) (b0 := b0) (x0 := x0) (b1 := b1) (x1 := x1) (l0 := l0) (l1 := l1) (e0 := e0) (e1 := e1) (Z := cost (ys.take k)) z0 z1 j hj2
      have hji : (j : Int) < 2 := by omega
      have hj0 : (0 : Int) ≤ j := by omega
      obtain ⟨g7, hg7⟩ : ∃ g, g = wr.heap.size := ⟨_, rfl⟩
      obtain ⟨w2', hw2⟩ : ∃ v, v = wr.alloc (.cells (enStep ⟨kd, on, sz, nn, ss, xA, xl, xc, ll⟩).toArray OPT) := ⟨_, rfl⟩
      have H3 : Hid (Own E w2' (TwoW S b x l e b' x' l' e' (Hp.blk g7 OPT (enStep ⟨kd, on, sz, nn, ss, xA, xl, xc, ll⟩).toArray :: Hp.blk gr PWT #[ptr b0, ptr b1] :: Hp.blk gy PXW #[ptr x0, ptr x1] :: Hp.row OPT 6 (.slice (some ⟨gx, off, none⟩) (n + 3) c2) (n + 3) (ys.flatMap enStep) :: L))) := Lib.hid (by
        have q := H1.out
        rw [← hw2, ← hg7] at q
        exact hto _ _ q)
      have HC : Hid (∀ w' t f t2 f2, Own E w' (Hp.wtr b t f :: Hp.xwr x t2 f2 :: Hp.ro S :: Hp.wtr b' l' e' :: Hp.xwr x' l' e' :: Hp.blk g7 OPT (enStep ⟨kd, on, sz, nn, ss, xA, xl, xc, ll⟩).toArray :: Hp.blk gr PWT #[ptr b0, ptr b1] :: Hp.blk gy PXW #[ptr x0, ptr x1] :: Hp.row OPT 6 (.slice (some ⟨gx, off, none⟩) (n + 3) c2) (n + 3) (ys.flatMap enStep) :: L) →
          w'.cell? ⟨gr, j, none⟩ = some (ptr b) ∧ w'.cell? ⟨gy, j, none⟩ = some (ptr x) ∧ w'.cell? ⟨g7, 2, none⟩ = some (.int .i64 sz) ∧ w'.cell? ⟨g7, 3, none⟩ = some (.int .i64 nn) ∧ w'.cell? ⟨g7, 4, none⟩ = some (.string ss)) := Lib.hid fun w' t f t2 f2 hq =>
        ⟨(hq.f6.cell j).trans hbj, (hq.f7.cell j).trans hxj, hq.f5.cell 2, hq.f5.cell 3, hq.f5.cell 4⟩
      have HRG : Hid (∀ w' t f t2 f2, Own E w' (Hp.wtr b t f :: Hp.xwr x t2 f2 :: Hp.ro S :: Hp.wtr b' l' e' :: Hp.xwr x' l' e' :: Hp.blk g7 OPT (enStep ⟨kd, on, sz, nn, ss, xA, xl, xc, ll⟩).toArray :: Hp.blk gr PWT #[ptr b0, ptr b1] :: Hp.blk gy PXW #[ptr x0, ptr x1] :: Hp.row OPT 6 (.slice (some ⟨gx, off, none⟩) (n + 3) c2) (n + 3) (ys.flatMap enStep) :: L) → w'.rangeAt g7 0 (enStep ⟨kd, on, sz, nn, ss, xA, xl, xc, ll⟩)) := Lib.hid fun w' t f t2 f2 hq => hq.f5.range 0 _ (fun j u hu => by simpa using hu)
      have HB : Hid (∀ w' t f, t.length ≤ cost (ys.take (k + 1)) → Own E w' (TwoW S b x t f b' x' l' e' (Hp.blk g7 OPT (enStep ⟨kd, on, sz, nn, ss, xA, xl, xc, ll⟩).toArray :: Hp.blk gr PWT #[ptr b0, ptr b1] :: Hp.blk gy PXW #[ptr x0, ptr x1] :: Hp.row OPT 6 (.slice (some ⟨gx, off, none⟩) (n + 3) c2) (n + 3) (ys.flatMap enStep) :: L)) → ∃ t0 f0 t1 f1, t0.length ≤ cost (ys.take (k + 1)) ∧ t1.length ≤ cost (ys.take (k + 1)) ∧ Own E w' (TwoW S b0 x0 t0 f0 b1 x1 t1 f1 (Hp.blk gr PWT #[ptr b0, ptr b1] :: Hp.blk gy PXW #[ptr x0, ptr x1] :: Hp.row OPT 6 (.slice (some ⟨gx, off, none⟩) (n + 3) c2) (n + 3) (ys.flatMap enStep) :: L))) := Lib.hid fun w' t f ht hq => by
        obtain ⟨t0, f0, t1, f1, y0, y1, hy⟩ := hback _ _ (cost (ys.take (k + 1))) t f (by have := HSN.out; omega) ht hq
        exact ⟨t0, f0, t1, f1, y0, y1, hy.f5.drop⟩
      have HLL : Hid (l.length + ss.size + 8 * xl + 70000 ≤ 140737488355328 ∧ xl ≤ 2147483000) := Lib.hid (by
        have e1 := HSN.out
        have e2 := HCL.out
        omega)
      have HZS := Lib.hid zs
      rw [← hw2] at c0
      rw [← hg7] at c0
      rw [← hw2, ← hg7]
      clear hw2 hg7 H1 hbj hxj hto hback hj2 z0 z1 zs
      by_cases k1 : kd = 1
      · subst k1
        obtain ⟨t, f, hr⟩ : ∃ t f, wNum l e sz nn = (t, f) := ⟨_, _, rfl⟩
        have zt : t.length ≤ cost (ys.take (k + 1)) := by
          have q := wNum_len l e sz nn
          rw [hr] at q
          have q2 := HSN.out
          have q3 := HZS.out
          dsimp only at q
          omega
        have HRR := Lib.hid hr
        clear hr
        go_wp2_with fail
        refine wp_region_text [3, 5, 7] (fun w' => w'.cell? ⟨gr, j, none⟩ = some (ptr b) ∧ w'.cell? ⟨gy, j, none⟩ = some (ptr x) ∧ w'.cell? ⟨g7, 2, none⟩ = some (.int .i64 sz) ∧ w'.cell? ⟨g7, 3, none⟩ = some (.int .i64 nn) ∧ w'.cell? ⟨g7, 4, none⟩ = some (.string ss)) (by kernel_rfl) ?_ (fun hS => ?_)
        · exact HC.out _ _ _ _ _ H3.out.drew
        refine wpAnyG_pure (i := 0) (oi := ⟨some 62, _, _, _, _, _⟩) (v := ?_) rfl (by kernel_rfl) (by kernel_rfl) (by kernel_rfl) (by rfl) (fun _ _ _ h => h) (by rfl) ?_ ?_
        rotate_left
        · intro w
          go_simp
          first | done | with_reducible rfl
        try simp only [Act.put, List.setIfInBounds_toArray, List.set_cons_zero, List.set_cons_succ]
        refine wpAnyG_pure (i := 1) (oi := ⟨some 63, _, _, _, _, _⟩) (v := ?_) rfl (by kernel_rfl) (by kernel_rfl) (by kernel_rfl) (by rfl) (fun _ _ _ h => h) (by rfl) ?_ ?_
        rotate_left
        · intro w
          go_simp
          first | done | with_reducible rfl
        try simp only [Act.put, List.setIfInBounds_toArray, List.set_cons_zero, List.set_cons_succ]
        refine wpAnyG_pure (i := 2) (oi := ⟨some 64, _, _, _, _, _⟩) (v := ?_) rfl (by kernel_rfl) (by kernel_rfl) (by kernel_rfl) (by rfl) (fun _ _ _ h => h) (by rfl) ?_ ?_
        rotate_left
        · intro w
          go_simp
          first | done | with_reducible rfl
        try simp only [Act.put, List.setIfInBounds_toArray, List.set_cons_zero, List.set_cons_succ]
        refine wpAnyG_load (i := 3) (oi := ⟨some 65, _, _, _, _, _⟩) (v := ?_) rfl (by kernel_rfl) (by kernel_rfl) (by kernel_rfl) (by rfl) (fun _ _ _ h => h) (by rfl) ?_ (by assumption) ?_
        rotate_left
        · intro w hS
          try dsimp only at hS
          go_simp
          first | done | with_reducible rfl
        try simp only [Act.put, List.setIfInBounds_toArray, List.set_cons_zero, List.set_cons_succ]
        refine wpAnyG_pure (i := 4) (oi := ⟨some 66, _, _, _, _, _⟩) (v := ?_) rfl (by kernel_rfl) (by kernel_rfl) (by kernel_rfl) (by rfl) (fun _ _ _ h => h) (by rfl) ?_ ?_
        rotate_left
        · intro w
          go_simp
          first | done | with_reducible rfl
        try simp only [Act.put, List.setIfInBounds_toArray, List.set_cons_zero, List.set_cons_succ]
        refine wpAnyG_load (i := 5) (oi := ⟨some 67, _, _, _, _, _⟩) (v := ?_) rfl (by kernel_rfl) (by kernel_rfl) (by kernel_rfl) (by rfl) (fun _ _ _ h => h) (by rfl) ?_ (by assumption) ?_
        rotate_left
        · intro w hS
          try dsimp only at hS
          go_simp
          first | done | with_reducible rfl
        try simp only [Act.put, List.setIfInBounds_toArray, List.set_cons_zero, List.set_cons_succ]
        refine wpAnyG_pure (i := 6) (oi := ⟨some 68, _, _, _, _, _⟩) (v := ?_) rfl (by kernel_rfl) (by kernel_rfl) (by kernel_rfl) (by rfl) (fun _ _ _ h => h) (by rfl) ?_ ?_
        rotate_left
        · intro w
          go_simp
          first | done | with_reducible rfl
        try simp only [Act.put, List.setIfInBounds_toArray, List.set_cons_zero, List.set_cons_succ]
        refine wpAnyG_load (i := 7) (oi := ⟨some 69, _, _, _, _, _⟩) (v := ?_) rfl (by kernel_rfl) (by kernel_rfl) (by kernel_rfl) (by rfl) (fun _ _ _ h => h) (by rfl) ?_ (by assumption) ?_
        rotate_left
        · intro w hS
          try dsimp only at hS
          go_simp
          first | done | with_reducible rfl
        try simp only [Act.put, List.setIfInBounds_toArray, List.set_cons_zero, List.set_cons_succ]
        refine wpAnyG_keep (i := 8) (oi := ⟨some 70, _, _, _, _, _⟩) (by kernel_rfl) rfl (fun K hK => ?_)
        rw [if_pos (by rfl)]
        go_simp
        refine (wnum_all b l e sz nn t f _ HRR.out HO.out.n.2 (by have := HLL.out; omega) H3.out.drew).mono ?_
        rintro e8 w3' ⟨rfl, hq1⟩
        refine hK.out _ _ ?_ (fun hS => ?_)
        · exact HC.out _ _ _ _ _ hq1
        clear hK K
        try simp only [Act.put, List.setIfInBounds_toArray, List.set_cons_zero, List.set_cons_succ]
        refine wpAnyG_done (by kernel_rfl) ?_ _
        refine NoPanic.normal ?_
        go_wp2_with fail
        refine wp_region_text [3, 5, 7] (fun w' => w'.cell? ⟨gr, j, none⟩ = some (ptr b) ∧ w'.cell? ⟨gy, j, none⟩ = some (ptr x) ∧ w'.cell? ⟨g7, 2, none⟩ = some (.int .i64 sz) ∧ w'.cell? ⟨g7, 3, none⟩ = some (.int .i64 nn) ∧ w'.cell? ⟨g7, 4, none⟩ = some (.string ss)) (by kernel_rfl) ?_ (fun hS => ?_)
        · exact HC.out _ _ _ _ _ hq1.drew
        refine wpAnyG_pure (i := 0) (oi := ⟨some 71, _, _, _, _, _⟩) (v := ?_) rfl (by kernel_rfl) (by kernel_rfl) (by kernel_rfl) (by rfl) (fun _ _ _ h => h) (by rfl) ?_ ?_
        rotate_left
        · intro w
          go_simp
          first | done | with_reducible rfl
        try simp only [Act.put, List.setIfInBounds_toArray, List.set_cons_zero, List.set_cons_succ]
        refine wpAnyG_pure (i := 1) (oi := ⟨some 72, _, _, _, _, _⟩) (v := ?_) rfl (by kernel_rfl) (by kernel_rfl) (by kernel_rfl) (by rfl) (fun _ _ _ h => h) (by rfl) ?_ ?_
        rotate_left
        · intro w
          go_simp
          first | done | with_reducible rfl
        try simp only [Act.put, List.setIfInBounds_toArray, List.set_cons_zero, List.set_cons_succ]
        refine wpAnyG_pure (i := 2) (oi := ⟨some 73, _, _, _, _, _⟩) (v := ?_) rfl (by kernel_rfl) (by kernel_rfl) (by kernel_rfl) (by rfl) (fun _ _ _ h => h) (by rfl) ?_ ?_
        rotate_left
        · intro w
          go_simp
          first | done | with_reducible rfl
        try simp only [Act.put, List.setIfInBounds_toArray, List.set_cons_zero, List.set_cons_succ]
        refine wpAnyG_load (i := 3) (oi := ⟨some 74, _, _, _, _, _⟩) (v := ?_) rfl (by kernel_rfl) (by kernel_rfl) (by kernel_rfl) (by rfl) (fun _ _ _ h => h) (by rfl) ?_ (by assumption) ?_
        rotate_left
        · intro w hS
          try dsimp only at hS
          go_simp
          first | done | with_reducible rfl
        try simp only [Act.put, List.setIfInBounds_toArray, List.set_cons_zero, List.set_cons_succ]
        refine wpAnyG_pure (i := 4) (oi := ⟨some 75, _, _, _, _, _⟩) (v := ?_) rfl (by kernel_rfl) (by kernel_rfl) (by kernel_rfl) (by rfl) (fun _ _ _ h => h) (by rfl) ?_ ?_
        rotate_left
        · intro w
          go_simp
          first | done | with_reducible rfl
        try simp only [Act.put, List.setIfInBounds_toArray, List.set_cons_zero, List.set_cons_succ]
        refine wpAnyG_load (i := 5) (oi := ⟨some 76, _, _, _, _, _⟩) (v := ?_) rfl (by kernel_rfl) (by kernel_rfl) (by kernel_rfl) (by rfl) (fun _ _ _ h => h) (by rfl) ?_ (by assumption) ?_
        rotate_left
        · intro w hS
          try dsimp only at hS
          go_simp
          first | done | with_reducible rfl
        try simp only [Act.put, List.setIfInBounds_toArray, List.set_cons_zero, List.set_cons_succ]
        refine wpAnyG_pure (i := 6) (oi := ⟨some 77, _, _, _, _, _⟩) (v := ?_) rfl (by kernel_rfl) (by kernel_rfl) (by kernel_rfl) (by rfl) (fun _ _ _ h => h) (by rfl) ?_ ?_
        rotate_left
        · intro w
          go_simp
          first | done | with_reducible rfl
        try simp only [Act.put, List.setIfInBounds_toArray, List.set_cons_zero, List.set_cons_succ]
        refine wpAnyG_load (i := 7) (oi := ⟨some 78, _, _, _, _, _⟩) (v := ?_) rfl (by kernel_rfl) (by kernel_rfl) (by kernel_rfl) (by rfl) (fun _ _ _ h => h) (by rfl) ?_ (by assumption) ?_
        rotate_left
        · intro w hS
          try dsimp only at hS
          go_simp
          first | done | with_reducible rfl
        try simp only [Act.put, List.setIfInBounds_toArray, List.set_cons_zero, List.set_cons_succ]
        refine wpAnyG_keep (i := 8) (oi := ⟨some 79, _, _, _, _, _⟩) (by kernel_rfl) rfl (fun K hK => ?_)
        rw [if_pos (by rfl)]
        go_simp
        refine (xwnum_any x l e sz nn t f _ HRR.out HO.out.n.2 (by have := HLL.out; omega) hq1.drew.f1).mono ?_
        rintro e8 w4' ⟨rfl, hq2⟩
        refine hK.out _ _ ?_ (fun hS => ?_)
        · exact HC.out _ _ _ _ _ hq2.f1
        clear hK K
        try simp only [Act.put, List.setIfInBounds_toArray, List.set_cons_zero, List.set_cons_succ]
        refine wpAnyG_done (by kernel_rfl) ?_ _
        refine NoPanic.normal ?_
        have hfin := hq2.f1
        clear hq1 hq2
        obtain ⟨t0, f0, t1, f1, y0, y1, hy⟩ := HB.out _ _ _ zt hfin
        have HY := Lib.hid hy
        clear hy hfin c0
        go_wp2_with fail
        go_roundw
        case rel => exact ⟨k + 1, t0, f0, t1, f1, by omega, by go_num, y0, y1, HY.out⟩
        case measure => simp [intOf]; omega
      have hb1 : (kd == 1) = false := by simpa using k1
      by_cases k2 : kd = 2
      · subst k2
        obtain ⟨t, f, hr⟩ : ∃ t f, wText l e nn ss = (t, f) := ⟨_, _, rfl⟩
        have zt : t.length ≤ cost (ys.take (k + 1)) := by
          have q := wText_len l e nn ss
          rw [hr] at q
          have q2 := HSN.out
          have q3 := HZS.out
          dsimp only at q
          omega
        have HRR := Lib.hid hr
        clear hr
        go_wp2_with fail
        refine wp_region_text [3, 5, 7] (fun w' => w'.cell? ⟨gr, j, none⟩ = some (ptr b) ∧ w'.cell? ⟨gy, j, none⟩ = some (ptr x) ∧ w'.cell? ⟨g7, 2, none⟩ = some (.int .i64 sz) ∧ w'.cell? ⟨g7, 3, none⟩ = some (.int .i64 nn) ∧ w'.cell? ⟨g7, 4, none⟩ = some (.string ss)) (by kernel_rfl) ?_ (fun hS => ?_)
        · exact HC.out _ _ _ _ _ H3.out.drew
        refine wpAnyG_pure (i := 0) (oi := ⟨some 82, _, _, _, _, _⟩) (v := ?_) rfl (by kernel_rfl) (by kernel_rfl) (by kernel_rfl) (by rfl) (fun _ _ _ h => h) (by rfl) ?_ ?_
        rotate_left
        · intro w
          go_simp
          first | done | with_reducible rfl
        try simp only [Act.put, List.setIfInBounds_toArray, List.set_cons_zero, List.set_cons_succ]
        refine wpAnyG_pure (i := 1) (oi := ⟨some 83, _, _, _, _, _⟩) (v := ?_) rfl (by kernel_rfl) (by kernel_rfl) (by kernel_rfl) (by rfl) (fun _ _ _ h => h) (by rfl) ?_ ?_
        rotate_left
        · intro w
          go_simp
          first | done | with_reducible rfl
        try simp only [Act.put, List.setIfInBounds_toArray, List.set_cons_zero, List.set_cons_succ]
        refine wpAnyG_pure (i := 2) (oi := ⟨some 84, _, _, _, _, _⟩) (v := ?_) rfl (by kernel_rfl) (by kernel_rfl) (by kernel_rfl) (by rfl) (fun _ _ _ h => h) (by rfl) ?_ ?_
        rotate_left
        · intro w
          go_simp
          first | done | with_reducible rfl
        try simp only [Act.put, List.setIfInBounds_toArray, List.set_cons_zero, List.set_cons_succ]
        refine wpAnyG_load (i := 3) (oi := ⟨some 85, _, _, _, _, _⟩) (v := ?_) rfl (by kernel_rfl) (by kernel_rfl) (by kernel_rfl) (by rfl) (fun _ _ _ h => h) (by rfl) ?_ (by assumption) ?_
        rotate_left
        · intro w hS
          try dsimp only at hS
          go_simp
          first | done | with_reducible rfl
        try simp only [Act.put, List.setIfInBounds_toArray, List.set_cons_zero, List.set_cons_succ]
        refine wpAnyG_pure (i := 4) (oi := ⟨some 86, _, _, _, _, _⟩) (v := ?_) rfl (by kernel_rfl) (by kernel_rfl) (by kernel_rfl) (by rfl) (fun _ _ _ h => h) (by rfl) ?_ ?_
        rotate_left
        · intro w
          go_simp
          first | done | with_reducible rfl
        try simp only [Act.put, List.setIfInBounds_toArray, List.set_cons_zero, List.set_cons_succ]
        refine wpAnyG_load (i := 5) (oi := ⟨some 87, _, _, _, _, _⟩) (v := ?_) rfl (by kernel_rfl) (by kernel_rfl) (by kernel_rfl) (by rfl) (fun _ _ _ h => h) (by rfl) ?_ (by assumption) ?_
        rotate_left
        · intro w hS
          try dsimp only at hS
          go_simp
          first | done | with_reducible rfl
        try simp only [Act.put, List.setIfInBounds_toArray, List.set_cons_zero, List.set_cons_succ]
        refine wpAnyG_pure (i := 6) (oi := ⟨some 88, _, _, _, _, _⟩) (v := ?_) rfl (by kernel_rfl) (by kernel_rfl) (by kernel_rfl) (by rfl) (fun _ _ _ h => h) (by rfl) ?_ ?_
        rotate_left
        · intro w
          go_simp
          first | done | with_reducible rfl
        try simp only [Act.put, List.setIfInBounds_toArray, List.set_cons_zero, List.set_cons_succ]
        refine wpAnyG_load (i := 7) (oi := ⟨some 89, _, _, _, _, _⟩) (v := ?_) rfl (by kernel_rfl) (by kernel_rfl) (by kernel_rfl) (by rfl) (fun _ _ _ h => h) (by rfl) ?_ (by assumption) ?_
        rotate_left
        · intro w hS
          try dsimp only at hS
          go_simp
          first | done | with_reducible rfl
        try simp only [Act.put, List.setIfInBounds_toArray, List.set_cons_zero, List.set_cons_succ]
        refine wpAnyG_keep (i := 8) (oi := ⟨some 90, _, _, _, _, _⟩) (by kernel_rfl) rfl (fun K hK => ?_)
        rw [if_pos (by rfl)]
        go_simp
        refine (wtext_all b l e nn ss t f _ HRR.out (by have := HLL.out; omega) H3.out.drew).mono ?_
        rintro e8 w3' ⟨rfl, hq1⟩
        refine hK.out _ _ ?_ (fun hS => ?_)
        · exact HC.out _ _ _ _ _ hq1
        clear hK K
        try simp only [Act.put, List.setIfInBounds_toArray, List.set_cons_zero, List.set_cons_succ]
        refine wpAnyG_done (by kernel_rfl) ?_ _
        refine NoPanic.normal ?_
        go_wp2_with fail
        refine wp_region_text [3, 5, 7] (fun w' => w'.cell? ⟨gr, j, none⟩ = some (ptr b) ∧ w'.cell? ⟨gy, j, none⟩ = some (ptr x) ∧ w'.cell? ⟨g7, 2, none⟩ = some (.int .i64 sz) ∧ w'.cell? ⟨g7, 3, none⟩ = some (.int .i64 nn) ∧ w'.cell? ⟨g7, 4, none⟩ = some (.string ss)) (by kernel_rfl) ?_ (fun hS => ?_)
        · exact HC.out _ _ _ _ _ hq1.drew
        refine wpAnyG_pure (i := 0) (oi := ⟨some 91, _, _, _, _, _⟩) (v := ?_) rfl (by kernel_rfl) (by kernel_rfl) (by kernel_rfl) (by rfl) (fun _ _ _ h => h) (by rfl) ?_ ?_
        rotate_left
        · intro w
          go_simp
          first | done | with_reducible rfl
        try simp only [Act.put, List.setIfInBounds_toArray, List.set_cons_zero, List.set_cons_succ]
        refine wpAnyG_pure (i := 1) (oi := ⟨some 92, _, _, _, _, _⟩) (v := ?_) rfl (by kernel_rfl) (by kernel_rfl) (by kernel_rfl) (by rfl) (fun _ _ _ h => h) (by rfl) ?_ ?_
        rotate_left
        · intro w
          go_simp
          first | done | with_reducible rfl
        try simp only [Act.put, List.setIfInBounds_toArray, List.set_cons_zero, List.set_cons_succ]
        refine wpAnyG_pure (i := 2) (oi := ⟨some 93, _, _, _, _, _⟩) (v := ?_) rfl (by kernel_rfl) (by kernel_rfl) (by kernel_rfl) (by rfl) (fun _ _ _ h => h) (by rfl) ?_ ?_
        rotate_left
        · intro w
          go_simp
          first | done | with_reducible rfl
        try simp only [Act.put, List.setIfInBounds_toArray, List.set_cons_zero, List.set_cons_succ]
        refine wpAnyG_load (i := 3) (oi := ⟨some 94, _, _, _, _, _⟩) (v := ?_) rfl (by kernel_rfl) (by kernel_rfl) (by kernel_rfl) (by rfl) (fun _ _ _ h => h) (by rfl) ?_ (by assumption) ?_
        rotate_left
        · intro w hS
          try dsimp only at hS
          go_simp
          first | done | with_reducible rfl
        try simp only [Act.put, List.setIfInBounds_toArray, List.set_cons_zero, List.set_cons_succ]
        refine wpAnyG_pure (i := 4) (oi := ⟨some 95, _, _, _, _, _⟩) (v := ?_) rfl (by kernel_rfl) (by kernel_rfl) (by kernel_rfl) (by rfl) (fun _ _ _ h => h) (by rfl) ?_ ?_
        rotate_left
        · intro w
          go_simp
          first | done | with_reducible rfl
        try simp only [Act.put, List.setIfInBounds_toArray, List.set_cons_zero, List.set_cons_succ]
        refine wpAnyG_load (i := 5) (oi := ⟨some 96, _, _, _, _, _⟩) (v := ?_) rfl (by kernel_rfl) (by kernel_rfl) (by kernel_rfl) (by rfl) (fun _ _ _ h => h) (by rfl) ?_ (by assumption) ?_
        rotate_left
        · intro w hS
          try dsimp only at hS
          go_simp
          first | done | with_reducible rfl
        try simp only [Act.put, List.setIfInBounds_toArray, List.set_cons_zero, List.set_cons_succ]
        refine wpAnyG_pure (i := 6) (oi := ⟨some 97, _, _, _, _, _⟩) (v := ?_) rfl (by kernel_rfl) (by kernel_rfl) (by kernel_rfl) (by rfl) (fun _ _ _ h => h) (by rfl) ?_ ?_
        rotate_left
        · intro w
          go_simp
          first | done | with_reducible rfl
        try simp only [Act.put, List.setIfInBounds_toArray, List.set_cons_zero, List.set_cons_succ]
        refine wpAnyG_load (i := 7) (oi := ⟨some 98, _, _, _, _, _⟩) (v := ?_) rfl (by kernel_rfl) (by kernel_rfl) (by kernel_rfl) (by rfl) (fun _ _ _ h => h) (by rfl) ?_ (by assumption) ?_
        rotate_left
        · intro w hS
          try dsimp only at hS
          go_simp
          first | done | with_reducible rfl
        try simp only [Act.put, List.setIfInBounds_toArray, List.set_cons_zero, List.set_cons_succ]
        refine wpAnyG_keep (i := 8) (oi := ⟨some 99, _, _, _, _, _⟩) (by kernel_rfl) rfl (fun K hK => ?_)
        rw [if_pos (by rfl)]
        go_simp
        refine (xwtext_any x l e nn ss t f _ HRR.out (by have := HLL.out; omega) hq1.drew.f1).mono ?_
        rintro e8 w4' ⟨rfl, hq2⟩
        refine hK.out _ _ ?_ (fun hS => ?_)
        · exact HC.out _ _ _ _ _ hq2.f1
        clear hK K
        try simp only [Act.put, List.setIfInBounds_toArray, List.set_cons_zero, List.set_cons_succ]
        refine wpAnyG_done (by kernel_rfl) ?_ _
        refine NoPanic.normal ?_
        have hfin := hq2.f1
        clear hq1 hq2
        obtain ⟨t0, f0, t1, f1, y0, y1, hy⟩ := HB.out _ _ _ zt hfin
        have HY := Lib.hid hy
        clear hy hfin c0
        go_wp2_with fail
        go_roundw
        case rel => exact ⟨k + 1, t0, f0, t1, f1, by omega, by go_num, y0, y1, HY.out⟩
        case measure => simp [intOf]; omega
      have hb2 : (kd == 2) = false := by simpa using k2
      by_cases k3 : kd = 3
      · subst k3
        obtain ⟨t, f, hr⟩ : ∃ t f, ((l ++ ss.data.toList, e) : List UInt8 × Int) = (t, f) := ⟨_, _, rfl⟩
        have zt : t.length ≤ cost (ys.take (k + 1)) := by
          obtain rfl : l ++ ss.data.toList = t := congrArg Prod.fst hr
          rw [List.length_append, show ss.data.toList.length = ss.size from rfl]
          have q2 := HSN.out
          have q3 := HZS.out
          omega
        obtain rfl : l ++ ss.data.toList = t := congrArg Prod.fst hr
        obtain rfl : e = f := congrArg Prod.snd hr
        clear hr
        go_wp2_with fail
        refine wp_region_text [3, 5] (fun w' => w'.cell? ⟨gr, j, none⟩ = some (ptr b) ∧ w'.cell? ⟨gy, j, none⟩ = some (ptr x) ∧ w'.cell? ⟨g7, 2, none⟩ = some (.int .i64 sz) ∧ w'.cell? ⟨g7, 3, none⟩ = some (.int .i64 nn) ∧ w'.cell? ⟨g7, 4, none⟩ = some (.string ss)) (by kernel_rfl) ?_ (fun hS => ?_)
        · exact HC.out _ _ _ _ _ H3.out.drew
        refine wpAnyG_pure (i := 0) (oi := ⟨some 102, _, _, _, _, _⟩) (v := ?_) rfl (by kernel_rfl) (by kernel_rfl) (by kernel_rfl) (by rfl) (fun _ _ _ h => h) (by rfl) ?_ ?_
        rotate_left
        · intro w
          go_simp
          first | done | with_reducible rfl
        try simp only [Act.put, List.setIfInBounds_toArray, List.set_cons_zero, List.set_cons_succ]
        refine wpAnyG_pure (i := 1) (oi := ⟨some 103, _, _, _, _, _⟩) (v := ?_) rfl (by kernel_rfl) (by kernel_rfl) (by kernel_rfl) (by rfl) (fun _ _ _ h => h) (by rfl) ?_ ?_
        rotate_left
        · intro w
          go_simp
          first | done | with_reducible rfl
        try simp only [Act.put, List.setIfInBounds_toArray, List.set_cons_zero, List.set_cons_succ]
        refine wpAnyG_pure (i := 2) (oi := ⟨some 104, _, _, _, _, _⟩) (v := ?_) rfl (by kernel_rfl) (by kernel_rfl) (by kernel_rfl) (by rfl) (fun _ _ _ h => h) (by rfl) ?_ ?_
        rotate_left
        · intro w
          go_simp
          first | done | with_reducible rfl
        try simp only [Act.put, List.setIfInBounds_toArray, List.set_cons_zero, List.set_cons_succ]
        refine wpAnyG_load (i := 3) (oi := ⟨some 105, _, _, _, _, _⟩) (v := ?_) rfl (by kernel_rfl) (by kernel_rfl) (by kernel_rfl) (by rfl) (fun _ _ _ h => h) (by rfl) ?_ (by assumption) ?_
        rotate_left
        · intro w hS
          try dsimp only at hS
          go_simp
          first | done | with_reducible rfl
        try simp only [Act.put, List.setIfInBounds_toArray, List.set_cons_zero, List.set_cons_succ]
        refine wpAnyG_pure (i := 4) (oi := ⟨some 106, _, _, _, _, _⟩) (v := ?_) rfl (by kernel_rfl) (by kernel_rfl) (by kernel_rfl) (by rfl) (fun _ _ _ h => h) (by rfl) ?_ ?_
        rotate_left
        · intro w
          go_simp
          first | done | with_reducible rfl
        try simp only [Act.put, List.setIfInBounds_toArray, List.set_cons_zero, List.set_cons_succ]
        refine wpAnyG_load (i := 5) (oi := ⟨some 107, _, _, _, _, _⟩) (v := ?_) rfl (by kernel_rfl) (by kernel_rfl) (by kernel_rfl) (by rfl) (fun _ _ _ h => h) (by rfl) ?_ (by assumption) ?_
        rotate_left
        · intro w hS
          try dsimp only at hS
          go_simp
          first | done | with_reducible rfl
        try simp only [Act.put, List.setIfInBounds_toArray, List.set_cons_zero, List.set_cons_succ]
        refine wpAnyG_keep (i := 6) (oi := ⟨some 108, _, _, _, _, _⟩) (by kernel_rfl) rfl (fun K hK => ?_)
        rw [if_pos (by rfl)]
        go_simp
        refine (wraw_all b l e ss _ (by have := HLL.out; omega) H3.out.drew).mono ?_
        rintro e8 w3' ⟨rfl, hq1⟩
        refine hK.out _ _ ?_ (fun hS => ?_)
        · exact HC.out _ _ _ _ _ hq1
        clear hK K
        try simp only [Act.put, List.setIfInBounds_toArray, List.set_cons_zero, List.set_cons_succ]
        refine wpAnyG_done (by kernel_rfl) ?_ _
        refine NoPanic.normal ?_
        go_wp2_with fail
        refine wp_region_text [3, 5] (fun w' => w'.cell? ⟨gr, j, none⟩ = some (ptr b) ∧ w'.cell? ⟨gy, j, none⟩ = some (ptr x) ∧ w'.cell? ⟨g7, 2, none⟩ = some (.int .i64 sz) ∧ w'.cell? ⟨g7, 3, none⟩ = some (.int .i64 nn) ∧ w'.cell? ⟨g7, 4, none⟩ = some (.string ss)) (by kernel_rfl) ?_ (fun hS => ?_)
        · exact HC.out _ _ _ _ _ hq1.drew
        refine wpAnyG_pure (i := 0) (oi := ⟨some 109, _, _, _, _, _⟩) (v := ?_) rfl (by kernel_rfl) (by kernel_rfl) (by kernel_rfl) (by rfl) (fun _ _ _ h => h) (by rfl) ?_ ?_
        rotate_left
        · intro w
          go_simp
          first | done | with_reducible rfl
        try simp only [Act.put, List.setIfInBounds_toArray, List.set_cons_zero, List.set_cons_succ]
        refine wpAnyG_pure (i := 1) (oi := ⟨some 110, _, _, _, _, _⟩) (v := ?_) rfl (by kernel_rfl) (by kernel_rfl) (by kernel_rfl) (by rfl) (fun _ _ _ h => h) (by rfl) ?_ ?_
        rotate_left
        · intro w
          go_simp
          first | done | with_reducible rfl
        try simp only [Act.put, List.setIfInBounds_toArray, List.set_cons_zero, List.set_cons_succ]
        refine wpAnyG_pure (i := 2) (oi := ⟨some 111, _, _, _, _, _⟩) (v := ?_) rfl (by kernel_rfl) (by kernel_rfl) (by kernel_rfl) (by rfl) (fun _ _ _ h => h) (by rfl) ?_ ?_
        rotate_left
        · intro w
          go_simp
          first | done | with_reducible rfl
        try simp only [Act.put, List.setIfInBounds_toArray, List.set_cons_zero, List.set_cons_succ]
        refine wpAnyG_load (i := 3) (oi := ⟨some 112, _, _, _, _, _⟩) (v := ?_) rfl (by kernel_rfl) (by kernel_rfl) (by kernel_rfl) (by rfl) (fun _ _ _ h => h) (by rfl) ?_ (by assumption) ?_
        rotate_left
        · intro w hS
          try dsimp only at hS
          go_simp
          first | done | with_reducible rfl
        try simp only [Act.put, List.setIfInBounds_toArray, List.set_cons_zero, List.set_cons_succ]
        refine wpAnyG_pure (i := 4) (oi := ⟨some 113, _, _, _, _, _⟩) (v := ?_) rfl (by kernel_rfl) (by kernel_rfl) (by kernel_rfl) (by rfl) (fun _ _ _ h => h) (by rfl) ?_ ?_
        rotate_left
        · intro w
          go_simp
          first | done | with_reducible rfl
        try simp only [Act.put, List.setIfInBounds_toArray, List.set_cons_zero, List.set_cons_succ]
        refine wpAnyG_load (i := 5) (oi := ⟨some 114, _, _, _, _, _⟩) (v := ?_) rfl (by kernel_rfl) (by kernel_rfl) (by kernel_rfl) (by rfl) (fun _ _ _ h => h) (by rfl) ?_ (by assumption) ?_
        rotate_left
        · intro w hS
          try dsimp only at hS
          go_simp
          first | done | with_reducible rfl
        try simp only [Act.put, List.setIfInBounds_toArray, List.set_cons_zero, List.set_cons_succ]
        refine wpAnyG_keep (i := 6) (oi := ⟨some 115, _, _, _, _, _⟩) (by kernel_rfl) rfl (fun K hK => ?_)
        rw [if_pos (by rfl)]
        go_simp
        refine (xwraw_any x l e ss _ (by have := HLL.out; omega) hq1.drew.f1).mono ?_
        rintro e8 w4' ⟨rfl, hq2⟩
        refine hK.out _ _ ?_ (fun hS => ?_)
        · exact HC.out _ _ _ _ _ hq2.f1
        clear hK K
        try simp only [Act.put, List.setIfInBounds_toArray, List.set_cons_zero, List.set_cons_succ]
        refine wpAnyG_done (by kernel_rfl) ?_ _
        refine NoPanic.normal ?_
        have hfin := hq2.f1
        clear hq1 hq2
        obtain ⟨t0, f0, t1, f1, y0, y1, hy⟩ := HB.out _ _ _ zt hfin
        have HY := Lib.hid hy
        clear hy hfin c0
        go_wp2_with fail
        go_roundw
        case rel => exact ⟨k + 1, t0, f0, t1, f1, by omega, by go_num, y0, y1, HY.out⟩
        case measure => simp [intOf]; omega
      have hb3 : (kd == 3) = false := by simpa using k3
      by_cases k5 : kd = 5
      · subst k5
        go_wp2_with fail
        refine wp_region_text [3, 7, 8] (fun w' => (w'.cell? ⟨gr, j, none⟩ = some (ptr b) ∧ w'.cell? ⟨gy, j, none⟩ = some (ptr x)) ∧ w'.rangeAt g7 0 (enStep ⟨5, on, sz, nn, ss, xA, xl, xc, ll⟩)) (by kernel_rfl) ?_ (fun hS => ?_)
        · exact ⟨⟨(HC.out _ _ _ _ _ H3.out.drew).1, (HC.out _ _ _ _ _ H3.out.drew).2.1⟩, HRG.out _ _ _ _ _ H3.out.drew⟩
        refine wpAnyG_pure (i := 0) (oi := ⟨some 118, _, _, _, _, _⟩) (v := ?_) rfl (by kernel_rfl) (by kernel_rfl) (by kernel_rfl) (by rfl) (fun _ _ _ h => h) (by rfl) ?_ ?_
        rotate_left
        · intro w
          go_simp
          first | done | with_reducible rfl
        try simp only [Act.put, List.setIfInBounds_toArray, List.set_cons_zero, List.set_cons_succ]
        refine wpAnyG_pure (i := 1) (oi := ⟨some 119, _, _, _, _, _⟩) (v := ?_) rfl (by kernel_rfl) (by kernel_rfl) (by kernel_rfl) (by rfl) (fun _ _ _ h => h) (by rfl) ?_ ?_
        rotate_left
        · intro w
          go_simp
          first | done | with_reducible rfl
        try simp only [Act.put, List.setIfInBounds_toArray, List.set_cons_zero, List.set_cons_succ]
        refine wpAnyG_pure (i := 2) (oi := ⟨some 120, _, _, _, _, _⟩) (v := ?_) rfl (by kernel_rfl) (by kernel_rfl) (by kernel_rfl) (by rfl) (fun _ _ _ h => h) (by rfl) ?_ ?_
        rotate_left
        · intro w
          go_simp
          first | done | with_reducible rfl
        try simp only [Act.put, List.setIfInBounds_toArray, List.set_cons_zero, List.set_cons_succ]
        refine wpAnyG_load (i := 3) (oi := ⟨some 121, _, _, _, _, _⟩) (v := ?_) rfl (by kernel_rfl) (by kernel_rfl) (by kernel_rfl) (by rfl) (fun _ _ _ h => h) (by rfl) ?_ (by assumption) ?_
        rotate_left
        · intro w hS
          try dsimp only at hS
          go_simp
          first | done | with_reducible rfl
        try simp only [Act.put, List.setIfInBounds_toArray, List.set_cons_zero, List.set_cons_succ]
        refine wpAnyG_pure (i := 4) (oi := ⟨some 122, _, _, _, _, _⟩) (v := ?_) rfl (by kernel_rfl) (by kernel_rfl) (by kernel_rfl) (by rfl) (fun _ _ _ h => h) (by rfl) ?_ ?_
        rotate_left
        · intro w
          go_simp
          first | done | with_reducible rfl
        try simp only [Act.put, List.setIfInBounds_toArray, List.set_cons_zero, List.set_cons_succ]
        refine wpAnyG_pure (i := 5) (oi := ⟨some 123, _, _, _, _, _⟩) (v := ?_) rfl (by kernel_rfl) (by kernel_rfl) (by kernel_rfl) (by rfl) (fun _ _ _ h => h) (by rfl) ?_ ?_
        rotate_left
        · intro w
          go_simp
          first | done | with_reducible rfl
        try simp only [Act.put, List.setIfInBounds_toArray, List.set_cons_zero, List.set_cons_succ]
        refine wpAnyG_pure (i := 6) (oi := ⟨some 124, _, _, _, _, _⟩) (v := ?_) rfl (by kernel_rfl) (by kernel_rfl) (by kernel_rfl) (by rfl) (fun _ _ _ h => h) (by rfl) ?_ ?_
        rotate_left
        · intro w
          go_simp
          first | done | with_reducible rfl
        try simp only [Act.put, List.setIfInBounds_toArray, List.set_cons_zero, List.set_cons_succ]
        refine wpAnyG_load (i := 7) (oi := ⟨some 125, _, _, _, _, _⟩) (v := ?_) rfl (by kernel_rfl) (by kernel_rfl) (by kernel_rfl) (by rfl) (fun _ _ _ h => h) (by rfl) ?_ (by assumption) ?_
        rotate_left
        · intro w hS
          try dsimp only at hS
          go_simp
          first | done | with_reducible rfl
        try simp only [Act.put, List.setIfInBounds_toArray, List.set_cons_zero, List.set_cons_succ]
        refine wpAnyG_load (i := 8) (oi := ⟨some 126, _, _, _, _, _⟩) (v := (.agg (enStep ⟨5, on, sz, nn, ss, xA, xl, xc, ll⟩).toArray)) rfl (by kernel_rfl) (by kernel_rfl) (by kernel_rfl) (by rfl) (fun _ _ _ h => h) (by rfl) ?_ (by assumption) ?_
        · intro w hS
          exact exec_load_mid OPT (.tmp 7) rfl g7 0 (by rfl) (enStep ⟨5, on, sz, nn, ss, xA, xl, xc, ll⟩) _ hS.2 Tryd.underlying33 rfl (by kernel_rfl)
        try simp only [Act.put, List.setIfInBounds_toArray, List.set_cons_zero, List.set_cons_succ]
        refine wpAnyG_keep (i := 9) (oi := ⟨some 127, _, _, _, _, _⟩) (by kernel_rfl) rfl (fun K hK => ?_)
        rw [if_pos (by rfl)]
        go_simp
        refine (many_any b x l e ⟨5, on, sz, nn, ss, xA, xl, xc, ll⟩ _ HO.out HLL.out.2 (by have := HLL.out; dsimp only; omega) H3.out.drew).mono ?_
        rintro e8 w3' ⟨rfl, t, f, hlen, hq1⟩
        refine hK.out _ _ ?_ (fun hS => ?_)
        · exact ⟨⟨(HC.out _ _ _ _ _ hq1).1, (HC.out _ _ _ _ _ hq1).2.1⟩, HRG.out _ _ _ _ _ hq1⟩
        clear hK K
        try simp only [Act.put, List.setIfInBounds_toArray, List.set_cons_zero, List.set_cons_succ]
        refine wpAnyG_pure (i := 10) (oi := ⟨some 9, _, _, _, _, _⟩) (v := ?_) rfl (by kernel_rfl) (by kernel_rfl) (by kernel_rfl) (by rfl) (fun _ _ _ h => h) (by rfl) ?_ ?_
        rotate_left
        · intro w
          go_simp
          first | done | with_reducible rfl
        try simp only [Act.put, List.setIfInBounds_toArray, List.set_cons_zero, List.set_cons_succ]
        refine wpAnyG_done (by kernel_rfl) ?_ _
        refine NoPanic.normal ?_
        have zt : t.length ≤ cost (ys.take (k + 1)) := by
          have q2 := HSN.out
          have q3 := HZS.out
          have q4 := HCL.out
          dsimp only at hlen
          omega
        have hfin := hq1
        clear hq1 hlen
        obtain ⟨t0, f0, t1, f1, y0, y1, hy⟩ := HB.out _ _ _ zt hfin
        have HY := Lib.hid hy
        clear hy hfin c0
        go_wp2_with fail
        go_roundw
        case rel => exact ⟨k + 1, t0, f0, t1, f1, by omega, by go_num, y0, y1, HY.out⟩
        case measure => simp [intOf]; omega
      have hb5 : (kd == 5) = false := by simpa using k5
      by_cases k4 : kd = 4
      · subst k4
        obtain ⟨v, f, hr⟩ : ∃ v f, wDone l e = (v, f) := ⟨_, _, rfl⟩
        have HRR := Lib.hid hr
        clear hr
        have hcc := HC.out _ _ _ _ _ H3.out
        have d1 := hcc.1
        clear hcc
        go_wp2_with fail
        refine (wdone_all b l e v f _ HRR.out (fun w hw => hG _ (hw.f1.f1.drop.f1.drop.f1.drop.f1.drop.f1.drop.f1.drop.f1.drop) ) H3.out).mono ?_
        rintro e8 w3' ⟨rfl, hq1⟩
        have d2 := (HC.out _ _ _ _ _ hq1).2.1
        clear d1
        go_wp2_with fail
        refine (xwdone_any x l e v f _ HRR.out hq1.f1).mono ?_
        rintro e8 w4' ⟨rfl, hq2⟩
        have zt : l.length ≤ cost (ys.take (k + 1)) := by
          have q2 := HSN.out
          have q3 := HZS.out
          omega
        have hfin := hq2.f1
        clear hq1 hq2 d2
        obtain ⟨t0, f0, t1, f1, y0, y1, hy⟩ := HB.out _ _ _ zt hfin
        have HY := Lib.hid hy
        clear hy hfin c0
        go_wp2_with fail
        go_roundw
        case rel => exact ⟨k + 1, t0, f0, t1, f1, by omega, by go_num, y0, y1, HY.out⟩
        case measure => simp [intOf]; omega
      have hb4 : (kd == 4) = false := by simpa using k4
      have zt : l.length ≤ cost (ys.take (k + 1)) := by
        have q2 := HSN.out
        have q3 := HZS.out
        omega
      obtain ⟨t0, f0, t1, f1, y0, y1, hy⟩ := HB.out _ _ _ zt H3.out
      have HY := Lib.hid hy
      clear hy
      go_wp2_with fail
      go_roundw
      case rel => exact ⟨k + 1, t0, f0, t1, f1, by omega, by go_num, y0, y1, HY.out⟩
      case measure => simp [intOf]; omega
    · obtain rfl : k = n + 3 := by omega
      have HE := Lib.hid (hw.f2.f1.drop.f1.drop.f1.drop.f1.drop.f1.drop.f1.drop.f1.drop)
      clear hw
      go_wp2_with fail
      go_ret
      exact ⟨rfl, HE.out⟩
end Go.Proofs.YtokephnlelpjhaaDoor
