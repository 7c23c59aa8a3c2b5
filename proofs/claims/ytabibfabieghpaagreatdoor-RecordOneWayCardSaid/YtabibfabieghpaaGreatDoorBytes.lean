/- Conversions between strings and slices of bytes; append of a string. No program in sight. -/
import Derived.Test.YtabibfabieghpaaGreatDoorOps
import Derived.Lib.ConvBytes
import Derived.Laws.BytesArg
import Derived.Lib.AppendStr
import Derived.Laws.MakeOwn
import Derived.Laws.OwnMore
namespace Go.Proofs.YtabibfabieghpaaGreatDoor
open Go.RowKit Go.Lib
abbrev V8' (x : UInt8) : Value := .int .u8 x.toNat
section
variable {P : Program} {E w w' : World} {L : List Hp}
theorem Own.rowRdC {e : TypeId} {size : Nat} {A : Option Addr} {n c : Nat} {xs : List Value} (h : Own E w (Hp.row e size (.slice A n c) n xs :: L)) : RdC w A xs := fun hne => by
  obtain ⟨v, xs', rfl⟩ : ∃ v xs', xs = v :: xs' := by
    cases xs with
    | nil => exact absurd rfl hne
    | cons v xs' => exact ⟨v, xs', rfl⟩
  obtain ⟨g, hA, _, _⟩ := h.rowCells 0 v rfl
  refine ⟨_, hA, fun j u hu => ?_⟩
  obtain ⟨g', hA', hc, _⟩ := h.rowCells j u hu
  rw [hA] at hA'
  injection hA' with hA'
  injection hA' with hA'
  subst hA'
  rw [add_eq, Nat.zero_add]; exact hc
/-- string(b). -/
theorem sl_to_string {src dst e : TypeId} (hs : P.underlying src = some (.slice e)) (he : P.underlying e = some (.int .u8)) (hd : P.underlying dst = some .string) (A : Option Addr) (l : List UInt8) (n c : Nat) (hn : l.length = n)
    (hr : RdC w A (l.map V8')) : (convert src dst (.slice A n c)).run P w = .ok (.string ⟨l.toArray⟩) w := by
  cases A with
  | none =>
    have : l = [] := by
      cases l with
      | nil => rfl
      | cons x l =>
        obtain ⟨ad, h, _⟩ := hr (by simp)
        cases h
    subst this
    rw [run_convert_bytes_nil w src e hs he n c dst hd]
    rfl
  | some ad =>
    have hl : (loadCells ad n).run P w = .ok ((l.map fun b => (b.toNat : Int)).map (Value.int .u8)).toArray w := by
      have e1 : (l.map fun b => (b.toNat : Int)).map (Value.int .u8) = l.map V8' := by rw [List.map_map]; rfl
      rw [e1]
      have := run_loadCells_list (P := P) w ad (l.map V8') (fun j v hj => by
        obtain ⟨ad', e2, hc⟩ := hr (by intro e; rw [e] at hj; simp at hj)
        injection e2 with e2
        subst e2
        exact hc j v hj)
      rw [List.length_map, hn] at this
      exact this
    rw [run_convert_bytes_string w src dst e _ n c hs he hd, run_bytesToString w ad n c _ hl, foldl_push_bytes]
    congr 2
    have e3 : (l.map fun b => (b.toNat : Int)).map (fun n => UInt8.ofNat n.toNat) = l := by
      rw [List.map_map]
      conv => rhs; rw [← List.map_id l]
      refine List.map_congr_left fun b _ => ?_
      simp
    rw [e3]
    show (⟨#[] ++ l.toArray⟩ : ByteArray) = _
    simp
/-- []byte(s). -/
theorem sl_to_bytes {src dst e : TypeId} (hs : P.underlying src = some .string) (hd : P.underlying dst = some (.slice e)) (he : P.underlying e = some (.int .u8)) (s : ByteArray) (hm : s.size ≤ maxLen) (h : Own E w L) :
    ∃ cap w', (convert src dst (.string s)).run P w = .ok (.slice (some ⟨w.heap.size, 0, none⟩) s.size cap) w' ∧
      Own E w' (Hp.row e 1 (.slice (some ⟨w.heap.size, 0, none⟩) s.size cap) s.size (s.data.toList.map V8') :: L) := by
  refine ⟨_, _, Lib.run_convert_string_bytes (P := P) w src dst e s hs hd he, ?_⟩
  have hsz : s.data.size = s.size := rfl
  have hge : s.size ≤ grownCap w s.size 0 e := grownCap_ge w s.size 0 e
  have hle : grownCap w s.size 0 e ≤ maxLen := grownCap_le_maxLen w s.size 0 e hm
  have hcs : (Lib.bytesCells w e s).size = grownCap w s.size 0 e := by
    unfold Lib.bytesCells
    simp only [Array.size_append, Array.size_map, Array.size_replicate, hsz]
    omega
  have h1 : Own E (Lib.bytesWorld w e s) (Hp.obj w.heap.size (.cells (Lib.bytesCells w e s) e ((Lib.bytesCells w e s).size, (Lib.bytesCells w e s).size + 1)) :: L) := by
    have h0 := h.drew.alloc (.cells (Lib.bytesCells w e s) e)
    refine h0.turn rfl rfl rfl (Lib.bytesWorld_at_new w e s) fun k hk hne => ?_
    have hk' : k < w.heap.size + 1 := by
      have e : (w.drew.alloc (.cells (Lib.bytesCells w e s) e)).heap.size = w.heap.size + 1 := Array.size_push _
      omega
    have hne' : k ≠ w.heap.size := hne
    rw [Lib.bytesWorld_at_old w e s k (by omega)]
    exact (heap_alloc_old w.drew (.cells (Lib.bytesCells w e s) e) (show k < w.heap.size by omega)).symm
  have h2 := (Own.mkMk (.inr (Nat.le_refl _)) h1).mtoRow 1 s.size _ hge hle (by rw [hcs]; omega)
  have e2 : (Lib.bytesCells w e s).toList.take (s.size * 1) = s.data.toList.map V8' := by
    unfold Lib.bytesCells
    rw [Nat.mul_one, Array.toList_append, Array.toList_map, List.take_append_of_le_length (by simp [hsz]), List.take_of_length_le (by simp [hsz])]
  rw [e2] at h2
  exact h2
theorem V8'_one (l : List UInt8) : ∀ v ∈ l.map V8', v.oneCell' = true := by
  intro v hv
  obtain ⟨z, _, rfl⟩ := List.mem_map.1 hv
  rfl
/-- append(v, s...), v owned, s a string. -/
theorem sl_append_string {t u ty e : TypeId} (ht : P.underlying t = some (.slice e)) (hu : P.underlying u = some .string) (hinfo : (P.info? e).map (fun i => (i.zero, i.size, i.bytes)) = some (some (.int .u8 0), 1, 1))
    {v : Value} {n : Nat} {xs : List Value} (h : Own E w (Hp.row e 1 v n xs :: L)) (s : ByteArray) (h63 : n + s.size ≤ 140737488355328) :
    ∃ v' w', (Builtin.append_ #[t, u] ty #[v, .string s]).run P w = .ok v' w' ∧ Own E w' (Hp.row e 1 v' (n + s.size) (xs ++ s.data.toList.map V8') :: L) ∧ (v' = .slice none 0 0 ↔ v = .slice none 0 0 ∧ s.size = 0) := by
  obtain ⟨i, hi, hzz⟩ := Option.map_eq_some_iff.1 hinfo
  simp only [Prod.mk.injEq] at hzz
  obtain ⟨hz, hsize, hby⟩ := hzz
  obtain ⟨hxl, hform⟩ := h.rowForm
  have hcells : strCells s = s.data.toList.map V8' := rfl
  have hlen : (xs ++ s.data.toList.map V8').length = (n + s.size) * 1 := by rw [List.length_append, hxl, ← hcells, strCells_length]; omega
  have hgrown : ∀ old, old < n + s.size → Own E w L → Own E (w.drew.alloc (.cells (xs.toArray ++ (strCells s).toArray ++ Builtin.zeroCells (Value.int .u8 0).cells (grownCap w (n + s.size) old e - (n + s.size))) e))
      (Hp.row e 1 (.slice (some ⟨w.heap.size, 0, none⟩) (n + s.size) (grownCap w (n + s.size) old e)) (n + s.size) (xs ++ s.data.toList.map V8') :: L) := fun old hlt ho => by
    have hge := grownCap_ge w (n + s.size) old e
    have hcm := grownCap_le_maxLen w (n + s.size) old e (by unfold maxLen; omega)
    refine ((ho.drew.alloc _).toRow 1 (n + s.size) _ hge hcm ?_).imp ?_
    · have hz1 : (Value.int IntKind.u8 0).cells.size = 1 := rfl
      simp only [Array.size_append, List.size_toArray, size_zeroCells, hz1, hxl, strCells_length]
      omega
    · intro x hx
      have e7 : (xs.toArray ++ (strCells s).toArray ++ Builtin.zeroCells (Value.int .u8 0).cells (grownCap w (n + s.size) old e - (n + s.size))).toList.take ((n + s.size) * 1) = xs ++ s.data.toList.map V8' := by
        rw [← hlen, Array.toList_append]
        have e8 : (xs.toArray ++ (strCells s).toArray).toList = xs ++ s.data.toList.map V8' := by simp [hcells]
        rw [e8]
        exact List.take_left
      rw [e7] at hx
      exact hx
  rcases hform with ⟨rfl, rfl, rfl, ho⟩ | ⟨g, cap, cur, rfl, hnc, hcm, hcs, htake, ho⟩
  · by_cases hm : s.size = 0
    · have hn : strCells s = [] := List.eq_nil_of_length_eq_zero (by rw [strCells_length]; exact hm)
      refine ⟨.slice none 0 0, w, ?_, ?_, by simp [hm]⟩
      · have hf := run_firstCells_string (P := P) w 1 s
        rw [hm] at hf
        simp [Builtin.append_, run_underlying ht, run_underlying hu, sizeOf, typeInfo, hi, hsize, Builtin.lenOf, hm, hf]
      · rw [← hcells, hn, hm]; exact h
    · have hr := run_append_nil_string (P := P) w t u ty e i (.int .u8 0) ht hu hi hz s (by omega) (by omega) (by rw [hby]; omega)
      have e1 : (s.data.map fun b => Value.int .u8 b.toNat) = (strCells s).toArray := by
        apply Array.ext'
        simp [strCells]
      rw [e1] at hr
      have hg := hgrown 0 (by omega) ho
      simp only [Nat.zero_add, List.nil_append, Array.empty_append] at hg ⊢
      exact ⟨_, _, hr, hg, by simp [hm]⟩
  · by_cases hroom : n + s.size ≤ cap
    · have hfit : n * 1 + (strCells s).length ≤ cur.size := by rw [strCells_length]; omega
      have hf := run_firstCells_string (P := P) w 1 s
      have hst := run_storeCells_cells (P := P) g (n * 1) (strCells s) 0 w (fun j hj => by rw [ho.mcell, Array.getElem?_eq_getElem (by omega)]; rfl) (fun j hj => ho.mfrozen _ (by omega)) (strCells_oneCell s)
      simp only [Nat.add_zero] at hst
      have hrun : (Builtin.append_ #[t, u] ty #[.slice (some ⟨g, 0, none⟩) n cap, .string s]).run P w = .ok (.slice (some ⟨g, 0, none⟩) (n + s.size) cap) (w.setCells g (n * 1) (strCells s)) := by
        simp only [Nat.mul_one] at hst
        simp [Builtin.append_, run_underlying ht, run_underlying hu, sizeOf, typeInfo, hi, hsize, Builtin.lenOf, hroom, hf, Addr.add_lit, hst]
      refine ⟨_, _, hrun, ?_, by simp⟩
      have h7 := (ho.msetCells (strCells s) (n * 1)).mtoRow 1 (n + s.size) cap hroom hcm (by rw [putArr_size]; exact hcs)
      have e7 : (putArr cur (n * 1) (strCells s)).toList.take ((n + s.size) * 1) = xs ++ s.data.toList.map V8' := by
        have e8 := putArr_splice cur.toList (strCells s) (n * 1) (by simpa using hfit)
        have e9 : cur.toList.toArray = cur := by simp
        rw [e9] at e8
        rw [e8, ← hlen]
        unfold splice
        rw [htake, ← List.append_assoc]
        exact List.take_left
      rw [e7] at h7
      exact h7
    · have holds : ∀ j u, xs[j]? = some u → w.cell? ((⟨g, 0, none⟩ : Addr).add j) = some u := fun j u hu => by
        obtain ⟨g', hA, hc, _⟩ := h.rowCells j u hu
        injection hA with hA
        injection hA with hA
        subst hA
        rw [add_eq, Nat.zero_add]; exact hc
      have hr := run_append_grow_string (P := P) w t u ty e i (.int .u8 0) ht hu hi hz ⟨g, 0, none⟩ n cap xs (by rw [hsize]; exact hxl) holds s (by omega) (by omega) (by rw [hby]; exact growslice_fits (by omega) (by omega))
      exact ⟨_, _, hr, hgrown cap (by omega) ho.drop, by simp⟩
variable {ops : Array Oper} {rest : List Oper} {o : Oper} {a : Act} {K : Act → World → Prop} {Q : Exit → Act → World → Prop} {r : Value}
theorem wp_make_run {T : TypeId} {vl vc : Value} {x y : Operand} (hrun : (Instr.makeSlice T vl vc).run P w = .ok r w') (ho : o.op = .makeSlice T x y) (hx : a.eval x = vl) (hy : a.eval y = vc) (h : K (a.put o.dst r) w') : o.wp P a w K Q := by
  unfold Oper.wp execOp
  simp only [ho, hx, hy, Sem.run_bind, Sem.run_pure, Result.andThen_ok, hrun]
  exact h
theorem wpList_make_run {T : TypeId} {vl vc : Value} {x y : Operand} (hrun : (Instr.makeSlice T vl vc).run P w = .ok r w') (hgd : o.guard = none) (ho : o.op = .makeSlice T x y) (hx : a.eval x = vl) (hy : a.eval y = vc)
    (h : wpList P ops Q rest (a.put o.dst r) w') : wpList P ops Q (o :: rest) a w :=
  wpList_plain hgd fun _ hK => wp_make_run hrun ho hx hy (hK _ _ h)
theorem wp_conv_run {S T : TypeId} {vx : Value} {x : Operand} (hrun : (convert S T vx).run P w = .ok r w') (ho : o.op = .convert S T x) (hx : a.eval x = vx) (h : K (a.put o.dst r) w') : o.wp P a w K Q := by
  unfold Oper.wp execOp
  simp only [ho, hx, Sem.run_bind, Sem.run_pure, Result.andThen_ok, hrun]
  exact h
theorem wpList_conv_run {S T : TypeId} {vx : Value} {x : Operand} (hrun : (convert S T vx).run P w = .ok r w') (hgd : o.guard = none) (ho : o.op = .convert S T x) (hx : a.eval x = vx)
    (h : wpList P ops Q rest (a.put o.dst r) w') : wpList P ops Q (o :: rest) a w :=
  wpList_plain hgd fun _ hK => wp_conv_run hrun ho hx (hK _ _ h)
theorem exec_conv_run {S T : TypeId} {vx : Value} {x : Operand} (hrun : (convert S T vx).run P w = .ok r w') (ho : o.op = .convert S T x) (hx : a.eval x = vx) : (execOp a.eval o).run P w = .ok (.value r) w' := by
  unfold execOp
  simp only [ho, hx, Sem.run_bind, Sem.run_pure, Result.andThen_ok, hrun]
/-- make([]T, n, c), T of one cell. -/
theorem sl_make {T e : TypeId} {z : Value} {bytes : Nat} (hT : P.underlying T = some (.slice e)) (hinfo : (P.info? e).map (fun i => (i.zero, i.size, i.bytes)) = some (some z, 1, bytes)) (hz : z.cells = #[z]) (kl kc : IntKind) (n c : Nat) (hnc : n ≤ c)
    (hb : bytes * c ≤ 281474976710656) (hm : c ≤ maxLen) (h : Own E w L) :
    ∃ w', (Instr.makeSlice T (.int kl n) (.int kc c)).run P w = .ok (.slice (some ⟨w.heap.size, 0, none⟩) n c) w' ∧ w' = w.alloc (.cells (List.replicate c z).toArray e) ∧
      Own E w' (Hp.row e 1 (.slice (some ⟨w.heap.size, 0, none⟩) n c) n (List.replicate n z) :: L) ∧ Own E w' (Hp.blk w.heap.size e (List.replicate c z).toArray :: L) := by
  obtain ⟨i, hi, hzz⟩ := Option.map_eq_some_iff.1 hinfo
  simp only [Prod.mk.injEq] at hzz
  obtain ⟨hz0, hsize, hby⟩ := hzz
  unfold maxLen at hm
  have hb' : (i.bytes : Int) * (c : Int) ≤ 281474976710656 := by
    rw [hby]
    have h9 : ((bytes * c : Nat) : Int) ≤ 281474976710656 := by omega
    rwa [Int.natCast_mul] at h9
  have hr := run_make (P := P) w T e i z hT hi hz0 kl kc n c (by omega) (by omega) hb' (by omega)
  simp only [Int.toNat_natCast, hz, hsize, Nat.mul_one] at hr
  have e1 : madeCells #[z] c = (List.replicate c z).toArray := by rw [← toList_madeCells_one]
  rw [e1] at hr
  have hb2 := h.alloc (.cells (List.replicate c z).toArray e)
  refine ⟨_, hr, rfl, ?_, hb2⟩
  have h2 := Own.toRow (e := e) (cur := (List.replicate c z).toArray) hb2 1 n c hnc (by unfold maxLen; omega) (by simp)
  have e2 : (List.replicate c z).toArray.toList.take (n * 1) = List.replicate n z := by simp [List.take_replicate, Nat.min_eq_left hnc]
  rw [e2] at h2
  exact h2

/-- append(v, x, y ..): the new elements lie in a block of their own. -/
theorem sl_append_new {t ty e : TypeId} {z : Value} {size bytes : Nat} (ht : P.underlying t = some (.slice e)) (hinfo : (P.info? e).map (fun i => (i.zero, i.size, i.bytes)) = some (some z, size, bytes))
    (hzs : z.cells.size = size) (hsz : 0 < size) {v : Value} {n : Nat} {xs : List Value} (h : Own E w (Hp.row e size v n xs :: L)) (news : Array Value) (m : Nat) (hl : news.size = m * size)
    (h1 : ∀ u ∈ news.toList, u.oneCell' = true) (h63 : n + m ≤ maxLen) (hbytes : (n + m) * bytes ≤ 140737488355328) :
    ∃ v' w', (Builtin.append_ #[t, t] ty #[v, .slice (some ⟨w.heap.size, 0, none⟩) m m]).run P (w.alloc (.cells news e)) = .ok v' w' ∧ Own E w' (Hp.row e size v' (n + m) (xs ++ news.toList) :: L) ∧ (v' = .slice none 0 0 ↔ v = .slice none 0 0 ∧ m = 0) := by
  have h2 := h.alloc (.cells news e)
  have hr : RdC (w.alloc (.cells news e)) (some ⟨w.heap.size, 0, none⟩) news.toList := RdC.of_block h2.at_ _ (fun j u hu => by simpa using hu)
  obtain ⟨v', w', hrun, h3, h4⟩ := sl_append (P := P) (ty := ty) ht hinfo hzs hsz h2.f1 (some ⟨w.heap.size, 0, none⟩) m m news.toList (by simpa using hl) hr h1 h63 hbytes
  exact ⟨v', w', hrun, h3.f1.drop, h4⟩
theorem Own.rowSlice {e : TypeId} {size : Nat} {v : Value} {n : Nat} {xs : List Value} (h : Own E w (Hp.row e size v n xs :: L)) : ∃ A c, v = .slice A n c := by
  obtain ⟨_, hf⟩ := h.rowForm
  rcases hf with ⟨h1, h2, _⟩ | ⟨g, cap, cur, h1, _⟩
  · subst h2; exact ⟨_, _, h1⟩
  · exact ⟨_, _, h1⟩
/-- string(b), b owned. -/
theorem Own.rowString {src dst e : TypeId} (hs : P.underlying src = some (.slice e)) (he : P.underlying e = some (.int .u8)) (hd : P.underlying dst = some .string) {v : Value} {n : Nat} {l : List UInt8} (h : Own E w (Hp.row e 1 v n (l.map V8') :: L)) :
    (convert src dst v).run P w = .ok (.string ⟨l.toArray⟩) w := by
  obtain ⟨A, c, rfl⟩ := h.rowSlice
  have hl : l.length = n := by have := h.rowForm.1; simpa using this
  exact sl_to_string hs he hd A l n c hl h.rowRdC
end
end Go.Proofs.YtabibfabieghpaaGreatDoor
