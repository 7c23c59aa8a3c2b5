/- record.OfFamily, of a family that may be (printed by gen_offam.py). -/
import Derived.Test.YtabibfabieghpaaGreatDoorEnd
namespace Go.Proofs.YtabibfabieghpaaGreatDoor
open Go.RowKit
theorem fmt_u : ∃ d, Tryz.prog.underlying FMT = some d ∧ d.isRow = true := by
  have h : (Tryz.prog.underlying FMT).map (fun d => d.isRow) = some true := by kernel_rfl
  obtain ⟨d, hd, hr⟩ := Option.map_eq_some_iff.1 h
  exact ⟨d, hd, hr⟩
abbrev PST : TypeId := 58
def enP (x : ByteArray × ByteArray) : List Value := [.string x.1, .string x.2]
theorem itt_info : (Tryz.prog.info? ITT).map (fun i => (i.zero.isSome, i.size)) = some (true, 2) := by kernel_rfl
theorem run_pairs (xs : List (ByteArray × ByteArray)) (n : Nat) (hn : xs.length = n) (h0 : 0 < n) (h1 : n ≤ 100) (parts : Array (Nat × Value)) (hp : parts.toList = ((xs.map fun x => Value.agg (enP x).toArray).zipIdx 0).map fun x => (x.2, x.1)) (w : World) :
    (Instr.buildSlice PST n parts).run Tryz.prog w = .ok (.slice (some ⟨w.heap.size, 0, none⟩) n n) (w.alloc (.cells (xs.flatMap enP).toArray ITT)) := by
  obtain ⟨i, hi, hz⟩ := Option.map_eq_some_iff.1 itt_info
  simp only [Prod.mk.injEq] at hz
  obtain ⟨z, hz0⟩ := Option.isSome_iff_exists.1 hz.1
  have e : (xs.map fun x => Value.agg (enP x).toArray).flatMap (fun v => v.cells.toList) = xs.flatMap enP := by
    rw [List.flatMap_map]
    rfl
  have hf := Great.fill_whole (s := 2) (by omega) (xs.map fun x => Value.agg (enP x).toArray) ((Array.range (n * 2)).map (z.cells[· % z.cells.size]!)) (fun v hv => by
    obtain ⟨x, _, rfl⟩ := List.mem_map.1 hv
    rfl) (by simp [hn])
  rw [e, ← hp] at hf
  exact run_buildSlice w PST ITT n parts _ i z (by kernel_rfl) hi hz0 (by rw [hz.2]; omega) (by rw [hz.2]; omega) (by rw [hz.2]; exact hf)
theorem wp_pairs {E : World} {L : List Hp} {o : Oper} {a : Act} {w : World} {K : Act → World → Prop} {Q : Exit → Act → World → Prop} {n : Nat} {parts : Array (Nat × Operand)} (xs : List (ByteArray × ByteArray)) (h : Own E w L) (ho : o.op = .buildSlice PST n parts) (hn : xs.length = n) (h0 : 0 < n) (h1 : n ≤ 100)
    (hp : (parts.map fun (i, x) => (i, a.eval x)).toList = ((xs.map fun x => Value.agg (enP x).toArray).zipIdx 0).map fun x => (x.2, x.1))
    (hK : ∀ g w', Own E w' (Hp.blk g ITT (xs.flatMap enP).toArray :: L) → K (a.put o.dst (.slice (some ⟨g, 0, none⟩) n n)) w') : o.wp Tryz.prog a w K Q := by
  unfold Oper.wp execOp
  simp only [ho, Sem.run_bind, run_pairs xs n hn h0 h1 _ hp w, Result.andThen_ok]
  exact hK _ _ (h.alloc _)
theorem near_id {n : Int} (h0 : 0 ≤ n) (h1 : n ≤ 1099511627776) : near n = n := by unfold near; omega
/-- When a family that may be ended, or will. -/
theorem end_range {id : Int} {cl su : ByteArray} {xs : List ByteArray} {cr us ii ab gr ge tk st en co : Int} (_ : famMay id cl su xs cr us ii ab gr ge tk st en co) : 0 ≤ endV st cr us ii ab en ∧ endV st cr us ii ab en ≤ 1099511627776 := by
  unfold endV firstOf
  split
  · simp only [List.foldl_cons, List.foldl_nil]
    have h1 := near_bd (near (near cr + min 1099511627776 (near ab)))
    have h2 := near_bd (near (near us + min 1099511627776 (near ii)))
    omega
  · simp only [List.foldl_cons, List.foldl_nil]
    have h1 := near_bd en
    omega
def exFs (eb tb : Nat) : List (Fk × Addr) := [(.num 6, ⟨eb, 0, none⟩), (.num 8, ⟨tb, 0, none⟩)]
def exFl (eb tb : Nat) (b c : Int) : List Fld := [(.num 6, ⟨eb, 0, none⟩, .n b), (.num 8, ⟨tb, 0, none⟩, .n c)]
theorem ex_printed (eb tb : Nat) (b c : Int) (hb : 0 ≤ b ∧ b ≤ 1099511627776) (hc : 1 ≤ c ∧ c ≤ 4611686018427387904) : printedV ((exFl eb tb b c).map Fld.kv) = ⟨(byN 6 b.toNat ++ byN 8 c.toNat).toArray⟩ := by
  rw [printed_fits (by
    intro x hx
    simp only [exFl, List.map_cons, List.map_nil, List.mem_cons, List.not_mem_nil, or_false] at hx
    rcases hx with rfl | rfl
    · exact ⟨by decide, by decide, by show (0 : Int) ≤ b; omega, by show b < (256 : Int) ^ 6; omega, by show b ≤ (9223372036854775807 : Int); omega⟩
    · exact ⟨by decide, by decide, by show (0 : Int) ≤ c; omega, by show c < (256 : Int) ^ 8; omega, by show c ≤ (9223372036854775807 : Int); omega⟩)]
  refine bytes_ext _ _ ?_
  show (byN 6 b.toNat ++ (byN 8 c.toNat ++ [])).toArray.toList = _
  simp
/-- The two entries of a family. -/
def exK (fin id : Int) : ByteArray := ⟨(120 :: (byN 6 fin.toNat ++ byN 8 id.toNat)).toArray⟩
def suK (su : ByteArray) (id : Int) : ByteArray := ⟨(115 :: (su.data.toList ++ 0 :: byN 8 id.toNat)).toArray⟩
section
variable {E : World} {S : Ph} {L : List Hp}
set_option maxRecDepth 20000 in
set_option maxHeartbeats 8000000 in
theorem offam_any (id : Int) (cl su : ByteArray) (A : Option Addr) (n c : Nat) (cr us ii ab gr ge tk st en co : Int) (xs : List ByteArray) (w : World) (hm : famMay id cl su xs cr us ii ab gr ge tk st en co) (hr : Rds S 1 enStr A n xs) (hnc : n ≤ c) (hn43 : n ≤ 8796093022208) (hG : Laid0 E (Hp.ro S :: L)) (h : Own E w (Hp.ro S :: L)) :
    Calls Tryz.prog 29 #[.agg (famC id cl su A n c cr us ii ab gr ge tk st en co).toArray] w fun ev w' => ∃ g, ev = .returned (.tuple #[.slice (some ⟨g, 0, none⟩) 2 2, .int .i64 0]) ∧ Own E w' (Hp.blk g ITT ([(exK (endV st cr us ii ab en) id, noB), (suK su id, noB)].flatMap enP).toArray :: Hp.ro S :: L) := by
  have H3 := Lib.hid (show Own E _ (Hp.blk w.heap.size FMT (famC id cl su A n c cr us ii ab gr ge tk st en co).toArray :: Hp.ro S :: L) from h.alloc (.cells (famC id cl su A n c cr us ii ab gr ge tk st en co).toArray FMT))
  have hrg := fam_range hm
  have hev := end_range hm
  have hid := hm.1
  have KM : Hid (∀ w3 : World, Own E w3 (Hp.blk w.heap.size FMT (famC id cl su A n c cr us ii ab gr ge tk st en co).toArray :: Hp.ro S :: L) → Calls Tryz.prog 81 #[.agg (famC id cl su A n c cr us ii ab gr ge tk st en co).toArray] w3 fun ev w' => ev = .returned (.bool true) ∧ Own E w' (Hp.blk w.heap.size FMT (famC id cl su A n c cr us ii ab gr ge tk st en co).toArray :: Hp.ro S :: L)) := Lib.hid fun w3 h3 => (familymay_any id cl su A n c cr us ii ab gr ge tk st en co xs w3 hr hnc hn43 (show Own E w3 (Hp.ro S :: Hp.blk w.heap.size FMT (famC id cl su A n c cr us ii ab gr ge tk st en co).toArray :: L) from h3.f1)).mono fun ev w' he => ⟨by rw [he.1, decide_eq_true hm], he.2.f1⟩
  have KE : Hid (∀ w3 : World, Own E w3 (Hp.blk w.heap.size FMT (famC id cl su A n c cr us ii ab gr ge tk st en co).toArray :: Hp.ro S :: L) → Calls Tryz.prog 30 #[.agg (famC id cl su A n c cr us ii ab gr ge tk st en co).toArray] w3 fun ev w' => ev = .returned (.int .i64 (endV st cr us ii ab en)) ∧ Own E w' (Hp.blk w.heap.size FMT (famC id cl su A n c cr us ii ab gr ge tk st en co).toArray :: Hp.ro S :: L)) := Lib.hid fun w3 h3 => end_any id cl su A n c cr us ii ab gr ge tk st en co w3 h3
  have HNUM : Hid (∀ (eb : Nat) (w3 : World), Own E w3 (Hp.blk eb I64 #[.int .i64 (endV st cr us ii ab en)] :: Hp.blk w.heap.size FMT (famC id cl su A n c cr us ii ab gr ge tk st en co).toArray :: Hp.ro S :: L) → Calls Tryz.prog 60 #[.string ⟨#[0]⟩, .int .i64 8, .int .i64 id] w3 fun ev w' => ev = .returned (.string ⟨(0 :: byN 8 id.toNat).toArray⟩) ∧ Own E w' (Hp.blk eb I64 #[.int .i64 (endV st cr us ii ab en)] :: Hp.blk w.heap.size FMT (famC id cl su A n c cr us ii ab gr ge tk st en co).toArray :: Hp.ro S :: L)) := Lib.hid fun eb w3 h3 => by
    have hnum := numbered_any (E := E) ⟨#[0]⟩ 8 id w3 (by decide) (by omega) hG.cons.cons h3
    rw [key_num 0 8 id (by omega) (by omega) (by omega) (by omega) (by omega)] at hnum
    exact hnum
  have HP : Hid (∀ (bb eb : Nat) (w3 : World), Own E w3 (Hp.blk bb FT ((exFs eb w.heap.size).flatMap enF).toArray :: Hp.blk eb I64 #[.int .i64 (endV st cr us ii ab en)] :: Hp.blk w.heap.size FMT (famC id cl su A n c cr us ii ab gr ge tk st en co).toArray :: Hp.ro S :: L) →
      Calls Tryz.prog 61 #[.slice (some ⟨bb, 0, none⟩) 2 2] w3 fun ev w' => ev = .returned (.string ⟨(byN 6 (endV st cr us ii ab en).toNat ++ byN 8 id.toNat).toArray⟩) ∧ Own E w' (Hp.blk eb I64 #[.int .i64 (endV st cr us ii ab en)] :: Hp.blk w.heap.size FMT (famC id cl su A n c cr us ii ab gr ge tk st en co).toArray :: Hp.ro S :: L)) := Lib.hid fun bb eb w3 h3 => by
    have h4 : Own E w3 (Hp.ro (Ph.one eb (.cells #[.int .i64 (endV st cr us ii ab en)] I64 (0, 0))) :: Hp.ro (Ph.one w.heap.size (.cells (famC id cl su A n c cr us ii ab gr ge tk st en co).toArray FMT (0, 0))) :: Hp.blk bb FT ((exFl eb w.heap.size (endV st cr us ii ab en) id).flatMap enFld).toArray :: Hp.ro S :: L) := h3.f2.f2
    obtain ⟨m1, d1⟩ := h4.merge
    have hok : ∀ x ∈ exFl eb w.heap.size (endV st cr us ii ab en) id, FldOk (Ph.join (Ph.one eb (.cells #[.int .i64 (endV st cr us ii ab en)] I64 (0, 0))) (Ph.one w.heap.size (.cells (famC id cl su A n c cr us ii ab gr ge tk st en co).toArray FMT (0, 0)))) x := by
      intro x hx
      simp only [exFl, List.mem_cons, List.not_mem_nil, or_false] at hx
      rcases hx with rfl | rfl
      · exact ⟨trivial, left_cell (one_cell _ _ _ 0), by show (endV st cr us ii ab en) ≤ (9223372036854775807 : Int); omega, by show (0 : Nat) ≤ _; omega⟩
      · exact ⟨trivial, kept_cell d1 (one_cell _ _ _ 0), by show id ≤ (9223372036854775807 : Int); omega, by show (0 : Nat) ≤ _; omega⟩
    refine (printed_blk bb 2 (exFl eb w.heap.size (endV st cr us ii ab en) id) w3 rfl (by omega) hok hG m1.f1).mono ?_
    rw [ex_printed _ _ _ _ hev hid]
    rintro ev w' ⟨rfl, h⟩
    exact ⟨rfl, h.part d1⟩
  have HC : Hid (∀ w', (∃ M, Own E w' (Hp.blk w.heap.size FMT (famC id cl su A n c cr us ii ab gr ge tk st en co).toArray :: M)) → w'.cell? ⟨w.heap.size, 0, none⟩ = some (.int .i64 id) ∧ w'.cell? ⟨w.heap.size, 2, none⟩ = some (.string su)) := Lib.hid fun w' h => by
    obtain ⟨M, h⟩ := h
    exact ⟨(h.cell 0).trans rfl, (h.cell 2).trans rfl⟩
  obtain ⟨dF, hdF, hrF⟩ := fmt_u
  have hx1 : (⟨#[120]⟩ : ByteArray) ++ ⟨(byN 6 (endV st cr us ii ab en).toNat ++ byN 8 id.toNat).toArray⟩ = exK (endV st cr us ii ab en) id := by
    unfold exK
    refine bytes_ext _ _ ?_
    simp
  have hx2 : (⟨#[115]⟩ : ByteArray) ++ su ++ ⟨(0 :: byN 8 id.toNat).toArray⟩ = suK su id := by
    unfold suK
    refine bytes_ext _ _ ?_
    simp
  have HX1 := Lib.hid hx1
  have HX2 := Lib.hid hx2
  have hz1 : (⟨(byN 6 (endV st cr us ii ab en).toNat ++ byN 8 id.toNat).toArray⟩ : ByteArray).size ≤ 100 := by rw [fl_size, List.length_append, byN_len, byN_len]; omega
  have hz2 : (⟨(0 :: byN 8 id.toNat).toArray⟩ : ByteArray).size ≤ 100 := by rw [fl_size, List.length_cons, byN_len]; omega
  have hz3 := hrg.2.1
  have hz4 : ((⟨#[115]⟩ : ByteArray) ++ su).size ≤ 100 := by
    rw [ByteArray.size_append]
    show 1 + su.size ≤ 100
    omega
  have PA : Hid (∀ j u, (famC id cl su A n c cr us ii ab gr ge tk st en co)[j]? = some u → (famC id cl su A n c cr us ii ab gr ge tk st en co).toArray[0 + j]? = some u) := Lib.hid fun j u hu => by rw [Nat.zero_add]; simpa using hu
  clear h hm hrg hev hid hr hG hx1 hx2
  generalize (⟨(byN 6 (endV st cr us ii ab en).toNat ++ byN 8 id.toNat).toArray⟩ : ByteArray) = x1 at *
  generalize (⟨(0 :: byN 8 id.toNat).toArray⟩ : ByteArray) = x2 at *
  generalize hTB : Hp.blk w.heap.size FMT (famC id cl su A n c cr us ii ab gr ge tk st en co).toArray = TB at *
  have HTB := Lib.hid hTB.symm
  clear hTB
  unfold famC at *
  go_enter Tryz.func29, Tryz.ntmps29
  go_wp2_with (first
    | (with_reducible refine (KM.out _ H3.out).mono ?_; clear H3 KM; rintro ev w2 ⟨rfl, h⟩; have H3 := Lib.hid h; clear h; have HB := Lib.hid (HTB.out ▸ H3.out))
    | (with_reducible refine at_slot (k := some 8) ?_; refine wpList_load_arr (o := ⟨some 8, _, _, _, _, _⟩) HB.out 0 _ PA.out hdF hrF (by kernel_rfl) rfl rfl rfl ?_)
    | (with_reducible refine (KE.out _ H3.out).mono ?_; clear H3 HB KE; rintro ev w3 ⟨rfl, h⟩; have H3 := Lib.hid (h.alloc (.cells #[.int .i64 (endV st cr us ii ab en)] I64)); clear h))
  have h := H3.out.drew
  clear H3
  refine wp_region_text [8, 11] (fun w' => w'.cell? ⟨w.heap.size, 0, none⟩ = some (.int .i64 id) ∧ w'.cell? ⟨w.heap.size, 2, none⟩ = some (.string su)) (by kernel_rfl) ?_ (fun hS => ?_)
  · exact HC.out _ (by first | exact ⟨_, h⟩ | exact ⟨_, h.f1⟩ | exact ⟨_, h.f2⟩ | exact ⟨_, h.f3⟩ | exact ⟨_, h.f4⟩ | exact ⟨_, h.f5⟩ | exact ⟨_, h.f6⟩ | exact ⟨_, h.f7⟩ | exact ⟨_, h.f8⟩ | exact ⟨_, h.f9⟩ | exact ⟨_, h.f10⟩ | exact ⟨_, h.f11⟩ | exact ⟨_, h.f12⟩ | exact ⟨_, h.f13⟩ | exact ⟨_, h.f14⟩ | exact ⟨_, h.f15⟩)
  refine wpAnyG_pure (i := 1) (oi := ⟨some 11, _, _, _, _, _⟩) (v := ?_) rfl (by kernel_rfl) (by kernel_rfl) (by kernel_rfl) (by rfl) (fun _ _ _ h => h) (by rfl) ?_ ?_
  rotate_left
  · intro w
    go_simp
    first | done | with_reducible rfl
  try simp only [Act.put, List.setIfInBounds_toArray, List.set_cons_zero, List.set_cons_succ]
  refine wpAnyG_pure (i := 7) (oi := ⟨some 17, _, _, _, _, _⟩) (v := ?_) rfl (by kernel_rfl) (by kernel_rfl) (by kernel_rfl) (by rfl) (fun _ _ _ h => h) (by rfl) ?_ ?_
  rotate_left
  · intro w
    go_simp
    first | done | with_reducible rfl
  try simp only [Act.put, List.setIfInBounds_toArray, List.set_cons_zero, List.set_cons_succ]
  refine wpAnyG_load (i := 8) (oi := ⟨some 18, _, _, _, _, _⟩) (v := ?_) rfl (by kernel_rfl) (by kernel_rfl) (by kernel_rfl) (by rfl) (fun _ _ _ h => h) (by rfl) ?_ (by assumption) ?_
  rotate_left
  · intro w hS
    try dsimp only at hS
    go_simp
    first | done | with_reducible rfl
  try simp only [Act.put, List.setIfInBounds_toArray, List.set_cons_zero, List.set_cons_succ]
  refine wpAnyG_pure (i := 9) (oi := ⟨some 19, _, _, _, _, _⟩) (v := (.string (⟨#[115]⟩ ++ su))) rfl (by kernel_rfl) (by kernel_rfl) (by kernel_rfl) (by rfl) (fun _ _ _ h => h) (by rfl) ?_ ?_
  · intro w
    go_simp; first | done | with_reducible rfl | omega
  try simp only [Act.put, List.setIfInBounds_toArray, List.set_cons_zero, List.set_cons_succ]
  refine wpAnyG_pure (i := 10) (oi := ⟨some 20, _, _, _, _, _⟩) (v := ?_) rfl (by kernel_rfl) (by kernel_rfl) (by kernel_rfl) (by rfl) (fun _ _ _ h => h) (by rfl) ?_ ?_
  rotate_left
  · intro w
    go_simp
    first | done | with_reducible rfl
  try simp only [Act.put, List.setIfInBounds_toArray, List.set_cons_zero, List.set_cons_succ]
  refine wpAnyG_load (i := 11) (oi := ⟨some 21, _, _, _, _, _⟩) (v := ?_) rfl (by kernel_rfl) (by kernel_rfl) (by kernel_rfl) (by rfl) (fun _ _ _ h => h) (by rfl) ?_ (by assumption) ?_
  rotate_left
  · intro w hS
    try dsimp only at hS
    go_simp
    first | done | with_reducible rfl
  try simp only [Act.put, List.setIfInBounds_toArray, List.set_cons_zero, List.set_cons_succ]
  refine wpAnyG_keep (i := 0) (oi := ⟨some 10, _, _, _, _, _⟩) (by kernel_rfl) rfl (fun K hK => ?_)
  rw [if_pos (by rfl)]
  go_simp
  refine (fnum_any 6 ⟨w3.heap.size, 0, none⟩ _ h).mono ?_
  clear h
  rintro ev w4 ⟨rfl, h⟩
  refine hK.out _ _ ?_ (fun hS => ?_)
  · exact HC.out _ (by first | exact ⟨_, h⟩ | exact ⟨_, h.f1⟩ | exact ⟨_, h.f2⟩ | exact ⟨_, h.f3⟩ | exact ⟨_, h.f4⟩ | exact ⟨_, h.f5⟩ | exact ⟨_, h.f6⟩ | exact ⟨_, h.f7⟩ | exact ⟨_, h.f8⟩ | exact ⟨_, h.f9⟩ | exact ⟨_, h.f10⟩ | exact ⟨_, h.f11⟩ | exact ⟨_, h.f12⟩ | exact ⟨_, h.f13⟩ | exact ⟨_, h.f14⟩ | exact ⟨_, h.f15⟩)
  clear hK K
  try simp only [Act.put, List.setIfInBounds_toArray, List.set_cons_zero, List.set_cons_succ]
  refine wpAnyG_keep (i := 2) (oi := ⟨some 12, _, _, _, _, _⟩) (by kernel_rfl) rfl (fun K hK => ?_)
  rw [if_pos (by rfl)]
  go_simp
  refine (fnum_any 8 ⟨w.heap.size, 0, none⟩ _ h).mono ?_
  clear h
  rintro ev w4 ⟨rfl, h⟩
  refine hK.out _ _ ?_ (fun hS => ?_)
  · exact HC.out _ (by first | exact ⟨_, h⟩ | exact ⟨_, h.f1⟩ | exact ⟨_, h.f2⟩ | exact ⟨_, h.f3⟩ | exact ⟨_, h.f4⟩ | exact ⟨_, h.f5⟩ | exact ⟨_, h.f6⟩ | exact ⟨_, h.f7⟩ | exact ⟨_, h.f8⟩ | exact ⟨_, h.f9⟩ | exact ⟨_, h.f10⟩ | exact ⟨_, h.f11⟩ | exact ⟨_, h.f12⟩ | exact ⟨_, h.f13⟩ | exact ⟨_, h.f14⟩ | exact ⟨_, h.f15⟩)
  clear hK K
  try simp only [Act.put, List.setIfInBounds_toArray, List.set_cons_zero, List.set_cons_succ]
  refine wpAnyG_keep (i := 3) (oi := ⟨some 13, _, _, _, _, _⟩) (by kernel_rfl) rfl (fun K hK => ?_)
  rw [if_pos (by rfl)]
  refine wp_fields (exFs w3.heap.size w.heap.size) rfl rfl (by omega) (by omega) (by first | kernel_rfl | (simp [exFs]; done) | (simp [exFs]; rfl)) ?_
  have h := h.alloc (.cells ((exFs w3.heap.size w.heap.size).flatMap enF).toArray FT)
  refine hK.out _ _ ?_ (fun hS => ?_)
  · exact HC.out _ (by first | exact ⟨_, h⟩ | exact ⟨_, h.f1⟩ | exact ⟨_, h.f2⟩ | exact ⟨_, h.f3⟩ | exact ⟨_, h.f4⟩ | exact ⟨_, h.f5⟩ | exact ⟨_, h.f6⟩ | exact ⟨_, h.f7⟩ | exact ⟨_, h.f8⟩ | exact ⟨_, h.f9⟩ | exact ⟨_, h.f10⟩ | exact ⟨_, h.f11⟩ | exact ⟨_, h.f12⟩ | exact ⟨_, h.f13⟩ | exact ⟨_, h.f14⟩ | exact ⟨_, h.f15⟩)
  clear hK K
  try simp only [Act.put, List.setIfInBounds_toArray, List.set_cons_zero, List.set_cons_succ]
  refine wpAnyG_keep (i := 4) (oi := ⟨some 14, _, _, _, _, _⟩) (by kernel_rfl) rfl (fun K hK => ?_)
  rw [if_pos (by rfl)]
  go_simp
  refine (HP.out _ _ _ h).mono ?_
  clear h
  rintro ev w4 ⟨rfl, h⟩
  refine hK.out _ _ ?_ (fun hS => ?_)
  · exact HC.out _ (by first | exact ⟨_, h⟩ | exact ⟨_, h.f1⟩ | exact ⟨_, h.f2⟩ | exact ⟨_, h.f3⟩ | exact ⟨_, h.f4⟩ | exact ⟨_, h.f5⟩ | exact ⟨_, h.f6⟩ | exact ⟨_, h.f7⟩ | exact ⟨_, h.f8⟩ | exact ⟨_, h.f9⟩ | exact ⟨_, h.f10⟩ | exact ⟨_, h.f11⟩ | exact ⟨_, h.f12⟩ | exact ⟨_, h.f13⟩ | exact ⟨_, h.f14⟩ | exact ⟨_, h.f15⟩)
  clear hK K
  try simp only [Act.put, List.setIfInBounds_toArray, List.set_cons_zero, List.set_cons_succ]
  refine wpAnyG_pure (i := 5) (oi := ⟨some 15, _, _, _, _, _⟩) (v := (.string (⟨#[120]⟩ ++ x1))) rfl (by kernel_rfl) (by kernel_rfl) (by kernel_rfl) (by rfl) (fun _ _ _ h => h) (by rfl) ?_ ?_
  · intro w
    go_simp; first | done | with_reducible rfl | omega
  try simp only [Act.put, List.setIfInBounds_toArray, List.set_cons_zero, List.set_cons_succ]
  refine wpAnyG_pure (i := 6) (oi := ⟨some 16, _, _, _, _, _⟩) (v := ?_) rfl (by kernel_rfl) (by kernel_rfl) (by kernel_rfl) (by rfl) (fun _ _ _ h => h) (by rfl) ?_ ?_
  rotate_left
  · intro w
    go_simp
    first | done | with_reducible rfl
  try simp only [Act.put, List.setIfInBounds_toArray, List.set_cons_zero, List.set_cons_succ]
  refine wpAnyG_keep (i := 12) (oi := ⟨some 22, _, _, _, _, _⟩) (by kernel_rfl) rfl (fun K hK => ?_)
  rw [if_pos (by rfl)]
  go_simp
  refine (HNUM.out _ _ h).mono ?_
  clear h
  rintro ev w4 ⟨rfl, h⟩
  refine hK.out _ _ ?_ (fun hS => ?_)
  · exact HC.out _ (by first | exact ⟨_, h⟩ | exact ⟨_, h.f1⟩ | exact ⟨_, h.f2⟩ | exact ⟨_, h.f3⟩ | exact ⟨_, h.f4⟩ | exact ⟨_, h.f5⟩ | exact ⟨_, h.f6⟩ | exact ⟨_, h.f7⟩ | exact ⟨_, h.f8⟩ | exact ⟨_, h.f9⟩ | exact ⟨_, h.f10⟩ | exact ⟨_, h.f11⟩ | exact ⟨_, h.f12⟩ | exact ⟨_, h.f13⟩ | exact ⟨_, h.f14⟩ | exact ⟨_, h.f15⟩)
  clear hK K
  try simp only [Act.put, List.setIfInBounds_toArray, List.set_cons_zero, List.set_cons_succ]
  refine wpAnyG_pure (i := 13) (oi := ⟨some 23, _, _, _, _, _⟩) (v := (.string (⟨#[115]⟩ ++ su ++ x2))) rfl (by kernel_rfl) (by kernel_rfl) (by kernel_rfl) (by rfl) (fun _ _ _ h => h) (by rfl) ?_ ?_
  · intro w
    go_simp; first | done | with_reducible rfl | omega
  try simp only [Act.put, List.setIfInBounds_toArray, List.set_cons_zero, List.set_cons_succ]
  refine wpAnyG_pure (i := 14) (oi := ⟨some 24, _, _, _, _, _⟩) (v := ?_) rfl (by kernel_rfl) (by kernel_rfl) (by kernel_rfl) (by rfl) (fun _ _ _ h => h) (by rfl) ?_ ?_
  rotate_left
  · intro w
    go_simp
    first | done | with_reducible rfl
  try simp only [Act.put, List.setIfInBounds_toArray, List.set_cons_zero, List.set_cons_succ]
  refine wpAnyG_keep (i := 15) (oi := ⟨some 25, _, _, _, _, _⟩) (by kernel_rfl) rfl (fun K hK => ?_)
  rw [if_pos (by rfl)]
  refine wp_pairs [(⟨#[120]⟩ ++ x1, ⟨#[]⟩), (⟨#[115]⟩ ++ su ++ x2, ⟨#[]⟩)] h rfl rfl (by omega) (by omega) (by first | kernel_rfl | rfl) (fun g w9 h => ?_)
  refine hK.out _ _ ?_ (fun hS => ?_)
  · exact HC.out _ (by first | exact ⟨_, h⟩ | exact ⟨_, h.f1⟩ | exact ⟨_, h.f2⟩ | exact ⟨_, h.f3⟩ | exact ⟨_, h.f4⟩ | exact ⟨_, h.f5⟩ | exact ⟨_, h.f6⟩ | exact ⟨_, h.f7⟩ | exact ⟨_, h.f8⟩ | exact ⟨_, h.f9⟩ | exact ⟨_, h.f10⟩ | exact ⟨_, h.f11⟩ | exact ⟨_, h.f12⟩ | exact ⟨_, h.f13⟩ | exact ⟨_, h.f14⟩ | exact ⟨_, h.f15⟩)
  clear hK K
  try simp only [Act.put, List.setIfInBounds_toArray, List.set_cons_zero, List.set_cons_succ]
  refine wpAnyG_pure (i := 16) (oi := ⟨some 2, _, _, _, _, _⟩) (v := ?_) rfl (by kernel_rfl) (by kernel_rfl) (by kernel_rfl) (by rfl) (fun _ _ _ h => h) (by rfl) ?_ ?_
  rotate_left
  · intro w
    go_simp
    first | done | with_reducible rfl
  try simp only [Act.put, List.setIfInBounds_toArray, List.set_cons_zero, List.set_cons_succ]
  refine wpAnyG_pure (i := 17) (oi := ⟨some 3, _, _, _, _, _⟩) (v := ?_) rfl (by kernel_rfl) (by kernel_rfl) (by kernel_rfl) (by rfl) (fun _ _ _ h => h) (by rfl) ?_ ?_
  rotate_left
  · intro w
    go_simp
    first | done | with_reducible rfl
  try simp only [Act.put, List.setIfInBounds_toArray, List.set_cons_zero, List.set_cons_succ]
  refine wpAnyG_done (by kernel_rfl) ?_ _
  refine NoPanic.normal ?_
  go_wp2_with fail
  go_ret2
  rw [← HX1.out, ← HX2.out]
  exact ⟨g, rfl, h.f1.drop.f1.drop⟩
end
end Go.Proofs.YtabibfabieghpaaGreatDoor
