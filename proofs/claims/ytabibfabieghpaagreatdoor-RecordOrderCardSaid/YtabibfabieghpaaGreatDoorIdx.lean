/- record.member, record.ParseIndex, of entries that are right (printed by gen_idx.py). -/
import Derived.Test.YtabibfabieghpaaGreatDoorCut0
import Derived.Test.YtabibfabieghpaaGreatDoorSmall
namespace Go.Proofs.YtabibfabieghpaaGreatDoor
open Go.RowKit
def two (x y : Nat) (vs : List Value) : Hp := Hp.sep (Hp.blk x I64 #[vs.getD 0 undef]) (Hp.blk y I64 #[vs.getD 1 undef])
theorem places_two {E : World} (x y : Nat) : Places E (two x y) [⟨x, 0, none⟩, ⟨y, 0, none⟩] where
  set w vs i ad v M hl hi h := by
    obtain ⟨a, b, rfl⟩ : ∃ a b, vs = [a, b] := by
      match vs, hl with
      | [a, b], _ => exact ⟨a, b, rfl⟩
    have h := Own.sep2.1 h
    match i, hi with
    | 0, hi =>
      obtain rfl : (⟨x, 0, none⟩ : Addr) = ad := by simpa using hi
      obtain ⟨h1, h2, h3⟩ := h.put1 0 v (show (0 : Nat) < 1 by omega)
      exact ⟨h1, h2, Own.sep2.2 h3⟩
    | 1, hi =>
      obtain rfl : (⟨y, 0, none⟩ : Addr) = ad := by simpa using hi
      obtain ⟨h1, h2, h3⟩ := h.f1.put1 0 v (show (0 : Nat) < 1 by omega)
      exact ⟨h1, h2, Own.sep2.2 h3.f1⟩
theorem results_tmp5 {fn : Func} {a b c d e : Tmp} (h : fn.results = #[.tmp a, .tmp b, .tmp c, .tmp d, .tmp e]) (tmps : Array Value) (P : Program) (w : World) :
    (results fn tmps).run P w = .ok (.tuple #[tmps.getD a undef, tmps.getD b undef, tmps.getD c undef, tmps.getD d undef, tmps.getD e undef]) w := by
  simp [results, h]
theorem num_fits {k : Nat} {z : Int} (h : 1 ≤ k ∧ k ≤ 8 ∧ 0 ≤ z ∧ z < 256 ^ k ∧ z ≤ 9223372036854775807) : fits1 (.num k, .n z) := h
theorem read_two (k1 k2 : Nat) (a b : Int) (h1 : 1 ≤ k1 ∧ k1 ≤ 8 ∧ 0 ≤ a ∧ a < 256 ^ k1 ∧ a ≤ 9223372036854775807) (h2 : 1 ≤ k2 ∧ k2 ≤ 8 ∧ 0 ≤ b ∧ b < 256 ^ k2 ∧ b ≤ 9223372036854775807) :
    readV [.num k1, .num k2] ⟨(byN k1 a.toNat ++ byN k2 b.toNat).toArray⟩ = ([.n a, .n b], true) := by
  have hf : ∀ f ∈ [((.num k1, .n a) : Fk × Fv), (.num k2, .n b)], fits1 f := by
    intro f hf
    simp only [List.mem_cons, List.not_mem_nil, or_false] at hf
    rcases hf with rfl | rfl
    · exact h1
    · exact h2
  have h3 := readV_printed hf
  rw [printed_fits hf] at h3
  have e : ((([((.num k1, .n a) : Fk × Fv), (.num k2, .n b)].flatMap bytesF).toArray) : Array UInt8) = (byN k1 a.toNat ++ byN k2 b.toNat).toArray := by
    show (byN k1 a.toNat ++ (byN k2 b.toNat ++ [])).toArray = _
    rw [List.append_nil]
  rw [e] at h3
  exact h3
theorem read_one (k1 : Nat) (a : Int) (h1 : 1 ≤ k1 ∧ k1 ≤ 8 ∧ 0 ≤ a ∧ a < 256 ^ k1 ∧ a ≤ 9223372036854775807) : readV [.num k1] ⟨(byN k1 a.toNat).toArray⟩ = ([.n a], true) := by
  have hf : ∀ f ∈ [((.num k1, .n a) : Fk × Fv)], fits1 f := by
    intro f hf
    simp only [List.mem_cons, List.not_mem_nil, or_false] at hf
    rcases hf with rfl
    exact h1
  have h3 := readV_printed hf
  rw [printed_fits hf] at h3
  have e : ((([((.num k1, .n a) : Fk × Fv)].flatMap bytesF).toArray) : Array UInt8) = (byN k1 a.toNat).toArray := by
    show (byN k1 a.toNat ++ []).toArray = _
    rw [List.append_nil]
  rw [e] at h3
  exact h3
section
variable {E : World} {L : List Hp}
theorem read2_any (bb x y k1 k2 : Nat) (a b : Int) (p q : Value) (s : ByteArray) (w : World) (hs : s.size ≤ 1000000000000) (hr : readV [.num k1, .num k2] s = ([.n a, .n b], true)) (hG : Laid0 E L)
    (h : Own E w (Hp.blk bb FT (([(.num k1, ⟨x, 0, none⟩), (.num k2, ⟨y, 0, none⟩)] : List (Fk × Addr)).flatMap enF).toArray :: Hp.blk x I64 #[p] :: Hp.blk y I64 #[q] :: L)) :
    Calls Tryz.prog 67 #[.slice (some ⟨bb, 0, none⟩) 2 2, .string s] w fun e w' => e = .returned (.bool true) ∧ Own E w' (Hp.blk x I64 #[.int .i64 a] :: Hp.blk y I64 #[.int .i64 b] :: L) := by
  have h4 : Own E w (Hp.blk bb FT (([(.num k1, ⟨x, 0, none⟩), (.num k2, ⟨y, 0, none⟩)] : List (Fk × Addr)).flatMap enF).toArray :: two x y [p, q] :: L) := (Own.sep2.2 h.f2.f2).f1
  have hh := read_blk (E := E) bb 2 [(.num k1, ⟨x, 0, none⟩), (.num k2, ⟨y, 0, none⟩)] s (two x y) [p, q] w rfl (by omega) hs (places_two _ _) rfl hG h4
  rw [show ([(.num k1, ⟨x, 0, none⟩), (.num k2, ⟨y, 0, none⟩)] : List (Fk × Addr)).map (·.1) = [.num k1, .num k2] from rfl, hr] at hh
  refine hh.mono ?_
  rintro e w' ⟨rfl, h⟩
  exact ⟨rfl, Own.sep2.1 h⟩
theorem read1_any (bb x k1 : Nat) (a : Int) (p : Value) (s : ByteArray) (w : World) (hs : s.size ≤ 1000000000000) (hr : readV [.num k1] s = ([.n a], true)) (hG : Laid0 E L)
    (h : Own E w (Hp.blk bb FT (([(.num k1, ⟨x, 0, none⟩)] : List (Fk × Addr)).flatMap enF).toArray :: Hp.blk x I64 #[p] :: L)) :
    Calls Tryz.prog 67 #[.slice (some ⟨bb, 0, none⟩) 1 1, .string s] w fun e w' => e = .returned (.bool true) ∧ Own E w' (Hp.blk x I64 #[.int .i64 a] :: L) := by
  have hh := read_blk (E := E) bb 1 [(.num k1, ⟨x, 0, none⟩)] s (fun vs => Hp.blk x I64 vs.toArray) [p] w rfl (by omega) hs (places_one x _) rfl hG h
  rw [show ([(.num k1, ⟨x, 0, none⟩)] : List (Fk × Addr)).map (·.1) = [.num k1] from rfl, hr] at hh
  exact hh
set_option maxRecDepth 20000 in
set_option maxHeartbeats 4000000 in
theorem member_ok (a b c : Int) (w : World) (ha : 1 ≤ a ∧ a ≤ 4611686018427387904) (hb : 1 ≤ b ∧ b ≤ 4611686018427387904) (hc : 1 ≤ c ∧ c ≤ 1073741824) (hG : Laid0 E L) (h : Own E w L) :
    Calls Tryz.prog 87 #[.string ⟨(byN 8 b.toNat ++ byN 4 c.toNat).toArray⟩, .string (ofV a)] w fun e w' => e = .returned (.tuple #[.int .i64 c, .int .i64 b, .bool true]) ∧ Own E w' L := by
  have h1 := h.alloc (.cells #[.int .i64 0] I64)
  have h2 := h1.alloc (.cells #[.int .i64 0] I64)
  have h3 := h2.alloc (.cells #[.int .i64 0] I64)
  rw [alloc_size, alloc_size] at h3
  have H3 := Lib.hid (show Own E _ (Hp.blk w.heap.size I64 #[.int .i64 0] :: Hp.blk (w.heap.size + 1) I64 #[.int .i64 0] :: Hp.blk (w.heap.size + 1 + 1) I64 #[.int .i64 0] :: L) from h3.f1.f2)
  have r1 := read_two 8 4 b c (by omega) (by omega)
  have r2 : readV [.num 8] (ofV a) = ([.n a], true) := read_one 8 a (by omega)
  have z1 : (⟨(byN 8 b.toNat ++ byN 4 c.toNat).toArray⟩ : ByteArray).size ≤ 1000000000000 := by rw [fl_size, List.length_append, byN_len, byN_len]; omega
  have z2 : (ofV a).size ≤ 1000000000000 := by unfold ofV; rw [fl_size, byN_len]; omega
  generalize (⟨(byN 8 b.toNat ++ byN 4 c.toNat).toArray⟩ : ByteArray) = k at *
  generalize ofV a = v at *
  have KR1 : Hid (∀ (bb : Nat) (w3 : World), Own E w3 (Hp.blk bb FT (([(.num 8, ⟨w.heap.size, 0, none⟩), (.num 4, ⟨(w.heap.size + 1), 0, none⟩)] : List (Fk × Addr)).flatMap enF).toArray :: Hp.blk w.heap.size I64 #[.int .i64 0] :: Hp.blk (w.heap.size + 1) I64 #[.int .i64 0] :: Hp.blk (w.heap.size + 1 + 1) I64 #[.int .i64 0] :: L) → Calls Tryz.prog 67 #[.slice (some ⟨bb, 0, none⟩) 2 2, .string k] w3 fun e w' => e = .returned (.bool true) ∧ Own E w' (Hp.blk w.heap.size I64 #[.int .i64 b] :: Hp.blk (w.heap.size + 1) I64 #[.int .i64 c] :: Hp.blk (w.heap.size + 1 + 1) I64 #[.int .i64 0] :: L)) := Lib.hid fun bb w3 h3 => read2_any bb _ _ 8 4 b c _ _ k w3 z1 r1 hG.cons h3
  have KR2 : Hid (∀ (bb : Nat) (w3 : World), Own E w3 (Hp.blk bb FT (([(.num 8, ⟨(w.heap.size + 1 + 1), 0, none⟩)] : List (Fk × Addr)).flatMap enF).toArray :: Hp.blk w.heap.size I64 #[.int .i64 b] :: Hp.blk (w.heap.size + 1) I64 #[.int .i64 c] :: Hp.blk (w.heap.size + 1 + 1) I64 #[.int .i64 0] :: L) → Calls Tryz.prog 67 #[.slice (some ⟨bb, 0, none⟩) 1 1, .string v] w3 fun e w' => e = .returned (.bool true) ∧ Own E w' (Hp.blk w.heap.size I64 #[.int .i64 b] :: Hp.blk (w.heap.size + 1) I64 #[.int .i64 c] :: Hp.blk (w.heap.size + 1 + 1) I64 #[.int .i64 a] :: L)) := Lib.hid fun bb w3 h3 => (read1_any bb _ 8 a (.int .i64 0) v w3 z2 r2 hG.cons.cons (show Own E w3 (_ :: Hp.blk (w.heap.size + 1 + 1) I64 #[.int .i64 0] :: Hp.blk w.heap.size I64 #[.int .i64 b] :: Hp.blk (w.heap.size + 1) I64 #[.int .i64 c] :: L) from h3.f3.f1)).mono fun e w' he => ⟨he.1, he.2.f2.f2⟩
  have K1 := fun (wq : World) (M : List Hp) (h : Own E wq M) => fnum_any (E := E) (L := M) 8 ⟨w.heap.size, 0, none⟩ wq h
  have K2 := fun (wq : World) (M : List Hp) (h : Own E wq M) => fnum_any (E := E) (L := M) 4 ⟨(w.heap.size + 1), 0, none⟩ wq h
  have K3 := fun (wq : World) (M : List Hp) (h : Own E wq M) => fnum_any (E := E) (L := M) 8 ⟨(w.heap.size + 1 + 1), 0, none⟩ wq h
  simp only [enF, show ((8 : Nat) : Int) = 8 from rfl, show ((4 : Nat) : Int) = 4 from rfl] at K1 K2 K3
  have J1 := fun w => isid_any b w
  have J2 := fun w => isgen_any c w
  have J3 := fun w => isid_any a w
  rw [decide_eq_true hb] at J1
  rw [decide_eq_true hc] at J2
  rw [decide_eq_true ha] at J3
  have HC : Hid (∀ w', Own E w' (Hp.blk w.heap.size I64 #[.int .i64 b] :: Hp.blk (w.heap.size + 1) I64 #[.int .i64 c] :: Hp.blk (w.heap.size + 1 + 1) I64 #[.int .i64 a] :: L) → w'.cell? ⟨w.heap.size, 0, none⟩ = some (.int .i64 b) ∧ w'.cell? ⟨(w.heap.size + 1), 0, none⟩ = some (.int .i64 c) ∧ w'.cell? ⟨(w.heap.size + 1 + 1), 0, none⟩ = some (.int .i64 a)) := Lib.hid fun w' h => ⟨(h.cell 0).trans rfl, (h.f1.cell 0).trans rfl, (h.f2.cell 0).trans rfl⟩
  clear h h1 h2 h3 hG r1 r2 z1 z2 ha hb hc
  go_enter Tryz.func87, Tryz.ntmps87
  go_wp2_with (first
    | (with_reducible refine (K1 _ _ H3.out).mono ?_; clear H3; rintro e w2 ⟨rfl, h⟩; have H3 := Lib.hid h; clear h)
    | (with_reducible refine (K2 _ _ H3.out).mono ?_; clear H3; rintro e w2 ⟨rfl, h⟩; have H3 := Lib.hid h; clear h)
    | (with_reducible refine (K3 _ _ H3.out).mono ?_; clear H3; rintro e w2 ⟨rfl, h⟩; have H3 := Lib.hid h; clear h)
    | (refine (KR1.out _ _ (H3.out.alloc _)).mono ?_; clear H3 KR1; rintro e w2 ⟨rfl, h⟩; have H3 := Lib.hid h; clear h)
    | (refine (KR2.out _ _ (H3.out.alloc _)).mono ?_; clear H3 KR2; rintro e w2 ⟨rfl, h⟩; have H3 := Lib.hid h; clear h))
  have h := H3.out.drew
  clear H3
  refine wp_region_text [0, 1, 4, 8, 12] (fun w' => w'.cell? ⟨w.heap.size, 0, none⟩ = some (.int .i64 b) ∧ w'.cell? ⟨(w.heap.size + 1), 0, none⟩ = some (.int .i64 c) ∧ w'.cell? ⟨(w.heap.size + 1 + 1), 0, none⟩ = some (.int .i64 a)) (by kernel_rfl) ?_ (fun hS => ?_)
  · exact HC.out _ h
  refine wpAnyG_load (i := 0) (oi := ⟨some 22, _, _, _, _, _⟩) (v := ?_) rfl (by kernel_rfl) (by kernel_rfl) (by kernel_rfl) (by rfl) (fun _ _ _ h => h) (by rfl) ?_ (by assumption) ?_
  rotate_left
  · intro w hS
    try dsimp only at hS
    go_simp
    first | done | with_reducible rfl
  try simp only [Act.put, List.setIfInBounds_toArray, List.set_cons_zero, List.set_cons_succ]
  refine wpAnyG_load (i := 1) (oi := ⟨some 23, _, _, _, _, _⟩) (v := ?_) rfl (by kernel_rfl) (by kernel_rfl) (by kernel_rfl) (by rfl) (fun _ _ _ h => h) (by rfl) ?_ (by assumption) ?_
  rotate_left
  · intro w hS
    try dsimp only at hS
    go_simp
    first | done | with_reducible rfl
  try simp only [Act.put, List.setIfInBounds_toArray, List.set_cons_zero, List.set_cons_succ]
  refine wpAnyG_pure (i := 2) (oi := ⟨some 24, _, _, _, _, _⟩) (v := ?_) rfl (by kernel_rfl) (by kernel_rfl) (by kernel_rfl) (by rfl) (fun _ _ _ h => h) (by rfl) ?_ ?_
  rotate_left
  · intro w
    go_simp
    first | done | with_reducible rfl
  try simp only [Act.put, List.setIfInBounds_toArray, List.set_cons_zero, List.set_cons_succ]
  refine wpAnyG_pure (i := 3) (oi := ⟨some 25, _, _, _, _, _⟩) (v := ?_) rfl (by kernel_rfl) (by kernel_rfl) (by kernel_rfl) (by rfl) (fun _ _ _ h => h) (by rfl) ?_ ?_
  rotate_left
  · intro w
    go_simp
    first | done | with_reducible rfl
  try simp only [Act.put, List.setIfInBounds_toArray, List.set_cons_zero, List.set_cons_succ]
  refine wpAnyG_load (i := 4) (oi := ⟨some 26, _, _, _, _, _⟩) (v := ?_) rfl (by kernel_rfl) (by kernel_rfl) (by kernel_rfl) (by rfl) (fun _ _ _ h => h) (by rfl) ?_ (by assumption) ?_
  rotate_left
  · intro w hS
    try dsimp only at hS
    go_simp
    first | done | with_reducible rfl
  try simp only [Act.put, List.setIfInBounds_toArray, List.set_cons_zero, List.set_cons_succ]
  refine wpAnyG_keep (i := 5) (oi := ⟨some 27, _, _, _, _, _⟩) (by kernel_rfl) rfl (fun K hK => ?_)
  rw [if_pos (by rfl)]
  go_simp
  refine (J1 _).mono ?_
  rintro e w7 ⟨rfl, rfl⟩
  refine hK.out _ _ ?_ (fun hS => ?_)
  · exact HC.out _ h
  clear hK K
  try simp only [Act.put, List.setIfInBounds_toArray, List.set_cons_zero, List.set_cons_succ]
  refine wpAnyG_pure (i := 6) (oi := ⟨some 28, _, _, _, _, _⟩) (v := ?_) rfl (by kernel_rfl) (by kernel_rfl) (by kernel_rfl) (by rfl) (fun _ _ _ h => h) (by rfl) ?_ ?_
  rotate_left
  · intro w
    go_simp
    first | done | with_reducible rfl
  try simp only [Act.put, List.setIfInBounds_toArray, List.set_cons_zero, List.set_cons_succ]
  refine wpAnyG_pure (i := 7) (oi := ⟨some 29, _, _, _, _, _⟩) (v := ?_) rfl (by kernel_rfl) (by kernel_rfl) (by kernel_rfl) (by rfl) (fun _ _ _ h => h) (by rfl) ?_ ?_
  rotate_left
  · intro w
    go_simp
    first | done | with_reducible rfl
  try simp only [Act.put, List.setIfInBounds_toArray, List.set_cons_zero, List.set_cons_succ]
  refine wpAnyG_load (i := 8) (oi := ⟨some 30, _, _, _, _, _⟩) (v := ?_) rfl (by kernel_rfl) (by kernel_rfl) (by kernel_rfl) (by rfl) (fun _ _ _ h => h) (by rfl) ?_ (by assumption) ?_
  rotate_left
  · intro w hS
    try dsimp only at hS
    go_simp
    first | done | with_reducible rfl
  try simp only [Act.put, List.setIfInBounds_toArray, List.set_cons_zero, List.set_cons_succ]
  refine wpAnyG_keep (i := 9) (oi := ⟨some 31, _, _, _, _, _⟩) (by kernel_rfl) rfl (fun K hK => ?_)
  rw [if_pos (by rfl)]
  go_simp
  refine (J2 _).mono ?_
  rintro e w7 ⟨rfl, rfl⟩
  refine hK.out _ _ ?_ (fun hS => ?_)
  · exact HC.out _ h
  clear hK K
  try simp only [Act.put, List.setIfInBounds_toArray, List.set_cons_zero, List.set_cons_succ]
  refine wpAnyG_pure (i := 10) (oi := ⟨some 32, _, _, _, _, _⟩) (v := ?_) rfl (by kernel_rfl) (by kernel_rfl) (by kernel_rfl) (by rfl) (fun _ _ _ h => h) (by rfl) ?_ ?_
  rotate_left
  · intro w
    go_simp
    first | done | with_reducible rfl
  try simp only [Act.put, List.setIfInBounds_toArray, List.set_cons_zero, List.set_cons_succ]
  refine wpAnyG_pure (i := 11) (oi := ⟨some 33, _, _, _, _, _⟩) (v := ?_) rfl (by kernel_rfl) (by kernel_rfl) (by kernel_rfl) (by rfl) (fun _ _ _ h => h) (by rfl) ?_ ?_
  rotate_left
  · intro w
    go_simp
    first | done | with_reducible rfl
  try simp only [Act.put, List.setIfInBounds_toArray, List.set_cons_zero, List.set_cons_succ]
  refine wpAnyG_load (i := 12) (oi := ⟨some 34, _, _, _, _, _⟩) (v := ?_) rfl (by kernel_rfl) (by kernel_rfl) (by kernel_rfl) (by rfl) (fun _ _ _ h => h) (by rfl) ?_ (by assumption) ?_
  rotate_left
  · intro w hS
    try dsimp only at hS
    go_simp
    first | done | with_reducible rfl
  try simp only [Act.put, List.setIfInBounds_toArray, List.set_cons_zero, List.set_cons_succ]
  refine wpAnyG_keep (i := 13) (oi := ⟨some 35, _, _, _, _, _⟩) (by kernel_rfl) rfl (fun K hK => ?_)
  rw [if_pos (by rfl)]
  go_simp
  refine (J3 _).mono ?_
  rintro e w7 ⟨rfl, rfl⟩
  refine hK.out _ _ ?_ (fun hS => ?_)
  · exact HC.out _ h
  clear hK K
  try simp only [Act.put, List.setIfInBounds_toArray, List.set_cons_zero, List.set_cons_succ]
  refine wpAnyG_pure (i := 14) (oi := ⟨some 36, _, _, _, _, _⟩) (v := ?_) rfl (by kernel_rfl) (by kernel_rfl) (by kernel_rfl) (by rfl) (fun _ _ _ h => h) (by rfl) ?_ ?_
  rotate_left
  · intro w
    go_simp
    first | done | with_reducible rfl
  try simp only [Act.put, List.setIfInBounds_toArray, List.set_cons_zero, List.set_cons_succ]
  refine wpAnyG_pure (i := 15) (oi := ⟨some 4, _, _, _, _, _⟩) (v := ?_) rfl (by kernel_rfl) (by kernel_rfl) (by kernel_rfl) (by rfl) (fun _ _ _ h => h) (by rfl) ?_ ?_
  rotate_left
  · intro w
    go_simp
    first | done | with_reducible rfl
  try simp only [Act.put, List.setIfInBounds_toArray, List.set_cons_zero, List.set_cons_succ]
  refine wpAnyG_pure (i := 16) (oi := ⟨some 5, _, _, _, _, _⟩) (v := ?_) rfl (by kernel_rfl) (by kernel_rfl) (by kernel_rfl) (by rfl) (fun _ _ _ h => h) (by rfl) ?_ ?_
  rotate_left
  · intro w
    go_simp
    first | done | with_reducible rfl
  try simp only [Act.put, List.setIfInBounds_toArray, List.set_cons_zero, List.set_cons_succ]
  refine wpAnyG_pure (i := 17) (oi := ⟨some 6, _, _, _, _, _⟩) (v := ?_) rfl (by kernel_rfl) (by kernel_rfl) (by kernel_rfl) (by rfl) (fun _ _ _ h => h) (by rfl) ?_ ?_
  rotate_left
  · intro w
    go_simp
    first | done | with_reducible rfl
  try simp only [Act.put, List.setIfInBounds_toArray, List.set_cons_zero, List.set_cons_succ]
  refine wpAnyG_done (by kernel_rfl) ?_ _
  refine NoPanic.normal ?_
  go_wp2_with fail
  go_ret3
  exact ⟨rfl, h.drop.drop.drop⟩
end
end Go.Proofs.YtabibfabieghpaaGreatDoor
