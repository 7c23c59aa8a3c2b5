/- record.ParseIndex, of entries that are right (printed by gen_idx2.py). -/
import Derived.Test.YtabibfabieghpaaGreatDoorIdx
namespace Go.Proofs.YtabibfabieghpaaGreatDoor
open Go.RowKit
theorem ext_mid (A B C : List UInt8) : (⟨(A ++ B ++ C).toArray⟩ : ByteArray).extract A.length (A.length + B.length) = ⟨B.toArray⟩ := by
  refine bytes_ext _ _ ?_
  rw [ByteArray.data_extract]
  simp
theorem ext_head (x : UInt8) (R : List UInt8) : (⟨(x :: R).toArray⟩ : ByteArray).extract 0 1 = ⟨#[x]⟩ := ext_mid [] [x] R
theorem ext_tail (x : UInt8) (R : List UInt8) : (⟨(x :: R).toArray⟩ : ByteArray).extract 1 (⟨(x :: R).toArray⟩ : ByteArray).size = ⟨R.toArray⟩ := by
  have := ext_mid [x] R []
  rw [List.append_nil] at this
  rw [fl_size, List.length_cons, Nat.add_comm R.length 1]
  exact this
theorem name_no0 {s : ByteArray} (h : nameB s = true) : ∀ x ∈ s.data.toList, x ≠ 0 := fun x hx e => by
  unfold nameB at h
  simp only [Bool.and_eq_true] at h
  have := List.all_eq_true.1 h.1.1 x hx
  rw [e] at this
  revert this
  decide
section
variable {E : World} {L : List Hp}
set_option maxRecDepth 20000 in
set_option maxHeartbeats 4000000 in
theorem pidx_m (a b c : Int) (w : World) (ha : 1 ≤ a ∧ a ≤ 4611686018427387904) (hb : 1 ≤ b ∧ b ≤ 4611686018427387904) (hc : 1 ≤ c ∧ c ≤ 1073741824) (hG : Laid0 E L) (h : Own E w L) :
    Calls Tryz.prog 31 #[.agg #[.string (ofK b c), .string (ofV a)]] w fun e w' => e = .returned (.tuple #[.string ⟨#[109]⟩, .int .i64 c, .int .i64 b, .string (ofV a), .int .i64 0]) ∧ Own E w' L := by
  have KM := fun (wq : World) (M : List Hp) (hG : Laid0 E M) (h : Own E wq M) => member_ok a b c wq ha hb hc hG h
  obtain ⟨k, hk⟩ : ∃ k, k = ofK b c := ⟨_, rfl⟩
  obtain ⟨v, hv⟩ : ∃ v, v = ofV a := ⟨_, rfl⟩
  obtain ⟨lt, hlt⟩ : ∃ lt : ByteArray, lt = ⟨#[109]⟩ := ⟨_, rfl⟩
  obtain ⟨r, hrr⟩ : ∃ r : ByteArray, r = ⟨(byN 8 b.toNat ++ byN 4 c.toNat).toArray⟩ := ⟨_, rfl⟩
  have e1 : k.extract 0 1 = lt := by
    rw [hk, hlt]
    exact ext_head _ _
  have e2 : k.extract 1 k.size = r := by
    rw [hk, hrr]
    exact ext_tail _ _
  have e4 : 1 ≤ k.size := by
    rw [hk]
    unfold ofK
    rw [fl_size, List.length_cons]
    omega
  have e3 : k.toList.isEmpty = false := by
    rw [isEmpty_size]
    exact decide_eq_false (by omega)
  have i1 : (1 : Int) ≤ (k.size : Int) := by omega
  have l1 : (lt.toList == [109]) = true := by rw [hlt, ByteArray.toList_eq]; rfl
  have l2 : (lt.toList == [120]) = false := by rw [hlt, ByteArray.toList_eq]; rfl
  have l3 : (lt.toList == [115]) = false := by rw [hlt, ByteArray.toList_eq]; rfl
  rw [← hrr, ← hv] at KM
  rw [← hk, ← hv, ← hlt]
  have h1 := h.alloc (.cells #[.string k, .string v] ITT)
  have HC : Hid (∀ w', Own E w' (Hp.blk w.heap.size ITT #[.string k, .string v] :: L) → w'.cell? ⟨w.heap.size, 0, none⟩ = some (.string k)) := Lib.hid fun w' h => (h.cell 0).trans rfl
  have HD : Hid (∀ w', Own E w' (Hp.blk w.heap.size ITT #[.string k, .string v] :: L) → w'.cell? ⟨w.heap.size, 1, none⟩ = some (.string v)) := Lib.hid fun w' h => (h.cell 1).trans rfl
  have HG := Lib.hid hG
  clear hk hv hlt hrr h hG ha hb hc
  have H1 := Lib.hid h1
  clear h1
  go_enter Tryz.func31, Tryz.ntmps31
  go_wp2_with fail
  have h := H1.out.drew
  clear H1
  refine wp_region_text [1, 4] (fun w' => w'.cell? ⟨w.heap.size, 0, none⟩ = some (.string k)) (by kernel_rfl) ?_ (fun hS => ?_)
  · exact HC.out _ h
  refine wpAnyG_pure (i := 0) (oi := ⟨some 29, _, _, _, _, _⟩) (v := ?_) rfl (by kernel_rfl) (by kernel_rfl) (by kernel_rfl) (by rfl) (fun _ _ _ h => h) (by rfl) ?_ ?_
  rotate_left
  · intro w
    go_simp
    first | done | with_reducible rfl
  try simp only [Act.put, List.setIfInBounds_toArray, List.set_cons_zero, List.set_cons_succ]
  refine wpAnyG_load (i := 1) (oi := ⟨some 30, _, _, _, _, _⟩) (v := (.string k)) rfl (by kernel_rfl) (by kernel_rfl) (by kernel_rfl) (by rfl) (fun _ _ _ h => h) (by rfl) ?_ (by assumption) ?_
  · intro w hS
    go_simp
  try simp only [Act.put, List.setIfInBounds_toArray, List.set_cons_zero, List.set_cons_succ]
  refine wpAnyG_pure (i := 2) (oi := ⟨some 31, _, _, _, _, _⟩) (v := (.string lt)) rfl (by kernel_rfl) (by kernel_rfl) (by kernel_rfl) (by rfl) (fun _ _ _ h => h) (by rfl) ?_ ?_
  · intro w
    go_simp; first | done | (intro hx; exact absurd hx (by omega))
  try simp only [Act.put, List.setIfInBounds_toArray, List.set_cons_zero, List.set_cons_succ]
  refine wpAnyG_pure (i := 3) (oi := ⟨some 32, _, _, _, _, _⟩) (v := ?_) rfl (by kernel_rfl) (by kernel_rfl) (by kernel_rfl) (by rfl) (fun _ _ _ h => h) (by rfl) ?_ ?_
  rotate_left
  · intro w
    go_simp
    first | done | with_reducible rfl
  try simp only [Act.put, List.setIfInBounds_toArray, List.set_cons_zero, List.set_cons_succ]
  refine wpAnyG_load (i := 4) (oi := ⟨some 33, _, _, _, _, _⟩) (v := (.string k)) rfl (by kernel_rfl) (by kernel_rfl) (by kernel_rfl) (by rfl) (fun _ _ _ h => h) (by rfl) ?_ (by assumption) ?_
  · intro w hS
    go_simp
  try simp only [Act.put, List.setIfInBounds_toArray, List.set_cons_zero, List.set_cons_succ]
  refine wpAnyG_pure (i := 5) (oi := ⟨some 34, _, _, _, _, _⟩) (v := (.string r)) rfl (by kernel_rfl) (by kernel_rfl) (by kernel_rfl) (by rfl) (fun _ _ _ h => h) (by rfl) ?_ ?_
  · intro w
    go_simp; first | done | (intro hx; exact absurd hx (by omega))
  try simp only [Act.put, List.setIfInBounds_toArray, List.set_cons_zero, List.set_cons_succ]
  refine wpAnyG_pure (i := 6) (oi := ⟨some 8, _, _, _, _, _⟩) (v := ?_) rfl (by kernel_rfl) (by kernel_rfl) (by kernel_rfl) (by rfl) (fun _ _ _ h => h) (by rfl) ?_ ?_
  rotate_left
  · intro w
    go_simp
    first | done | with_reducible rfl
  try simp only [Act.put, List.setIfInBounds_toArray, List.set_cons_zero, List.set_cons_succ]
  refine wpAnyG_pure (i := 7) (oi := ⟨some 9, _, _, _, _, _⟩) (v := ?_) rfl (by kernel_rfl) (by kernel_rfl) (by kernel_rfl) (by rfl) (fun _ _ _ h => h) (by rfl) ?_ ?_
  rotate_left
  · intro w
    go_simp
    first | done | with_reducible rfl
  try simp only [Act.put, List.setIfInBounds_toArray, List.set_cons_zero, List.set_cons_succ]
  refine wpAnyG_done (by kernel_rfl) ?_ _
  refine NoPanic.normal ?_
  have d1 := HD.out _ h
  have KM2 := KM _ _ HG.out.cons h
  clear KM h
  go_wp2_with (refine KM2.mono ?_; clear KM2; rintro e w5 ⟨rfl, h⟩; have H5 := Lib.hid h.drew; clear h)
  have h := H5.out
  clear H5
  refine wp_region_text [4] (fun w' => w'.cell? ⟨w.heap.size, 1, none⟩ = some (.string v)) (by kernel_rfl) ?_ (fun hS => ?_)
  · exact HD.out _ h
  refine wpAnyG_pure (i := 0) (oi := ⟨some 47, _, _, _, _, _⟩) (v := ?_) rfl (by kernel_rfl) (by kernel_rfl) (by kernel_rfl) (by rfl) (fun _ _ _ h => h) (by rfl) ?_ ?_
  rotate_left
  · intro w
    go_simp
    first | done | with_reducible rfl
  try simp only [Act.put, List.setIfInBounds_toArray, List.set_cons_zero, List.set_cons_succ]
  refine wpAnyG_pure (i := 1) (oi := ⟨some 48, _, _, _, _, _⟩) (v := ?_) rfl (by kernel_rfl) (by kernel_rfl) (by kernel_rfl) (by rfl) (fun _ _ _ h => h) (by rfl) ?_ ?_
  rotate_left
  · intro w
    go_simp
    first | done | with_reducible rfl
  try simp only [Act.put, List.setIfInBounds_toArray, List.set_cons_zero, List.set_cons_succ]
  refine wpAnyG_pure (i := 2) (oi := ⟨some 49, _, _, _, _, _⟩) (v := ?_) rfl (by kernel_rfl) (by kernel_rfl) (by kernel_rfl) (by rfl) (fun _ _ _ h => h) (by rfl) ?_ ?_
  rotate_left
  · intro w
    go_simp
    first | done | with_reducible rfl
  try simp only [Act.put, List.setIfInBounds_toArray, List.set_cons_zero, List.set_cons_succ]
  refine wpAnyG_pure (i := 3) (oi := ⟨some 50, _, _, _, _, _⟩) (v := ?_) rfl (by kernel_rfl) (by kernel_rfl) (by kernel_rfl) (by rfl) (fun _ _ _ h => h) (by rfl) ?_ ?_
  rotate_left
  · intro w
    go_simp
    first | done | with_reducible rfl
  try simp only [Act.put, List.setIfInBounds_toArray, List.set_cons_zero, List.set_cons_succ]
  refine wpAnyG_load (i := 4) (oi := ⟨some 51, _, _, _, _, _⟩) (v := ?_) rfl (by kernel_rfl) (by kernel_rfl) (by kernel_rfl) (by rfl) (fun _ _ _ h => h) (by rfl) ?_ (by assumption) ?_
  rotate_left
  · intro w hS
    try dsimp only at hS
    go_simp
    first | done | with_reducible rfl
  try simp only [Act.put, List.setIfInBounds_toArray, List.set_cons_zero, List.set_cons_succ]
  refine wpAnyG_pure (i := 5) (oi := ⟨some 2, _, _, _, _, _⟩) (v := ?_) rfl (by kernel_rfl) (by kernel_rfl) (by kernel_rfl) (by rfl) (fun _ _ _ h => h) (by rfl) ?_ ?_
  rotate_left
  · intro w
    go_simp
    first | done | with_reducible rfl
  try simp only [Act.put, List.setIfInBounds_toArray, List.set_cons_zero, List.set_cons_succ]
  refine wpAnyG_pure (i := 6) (oi := ⟨some 3, _, _, _, _, _⟩) (v := ?_) rfl (by kernel_rfl) (by kernel_rfl) (by kernel_rfl) (by rfl) (fun _ _ _ h => h) (by rfl) ?_ ?_
  rotate_left
  · intro w
    go_simp
    first | done | with_reducible rfl
  try simp only [Act.put, List.setIfInBounds_toArray, List.set_cons_zero, List.set_cons_succ]
  refine wpAnyG_pure (i := 7) (oi := ⟨some 4, _, _, _, _, _⟩) (v := ?_) rfl (by kernel_rfl) (by kernel_rfl) (by kernel_rfl) (by rfl) (fun _ _ _ h => h) (by rfl) ?_ ?_
  rotate_left
  · intro w
    go_simp
    first | done | with_reducible rfl
  try simp only [Act.put, List.setIfInBounds_toArray, List.set_cons_zero, List.set_cons_succ]
  refine wpAnyG_pure (i := 8) (oi := ⟨some 5, _, _, _, _, _⟩) (v := ?_) rfl (by kernel_rfl) (by kernel_rfl) (by kernel_rfl) (by rfl) (fun _ _ _ h => h) (by rfl) ?_ ?_
  rotate_left
  · intro w
    go_simp
    first | done | with_reducible rfl
  try simp only [Act.put, List.setIfInBounds_toArray, List.set_cons_zero, List.set_cons_succ]
  refine wpAnyG_pure (i := 9) (oi := ⟨some 6, _, _, _, _, _⟩) (v := ?_) rfl (by kernel_rfl) (by kernel_rfl) (by kernel_rfl) (by rfl) (fun _ _ _ h => h) (by rfl) ?_ ?_
  rotate_left
  · intro w
    go_simp
    first | done | with_reducible rfl
  try simp only [Act.put, List.setIfInBounds_toArray, List.set_cons_zero, List.set_cons_succ]
  refine wpAnyG_done (by kernel_rfl) ?_ _
  refine NoPanic.normal ?_
  go_wp2_with fail
  (try simp only [Exit.inBlock, Exit.then])
  refine bodyPost_ret (results_tmp5 rfl _ _ _) rfl ?_
  exact ⟨rfl, h.drop⟩
set_option maxRecDepth 20000 in
set_option maxHeartbeats 4000000 in
theorem pidx_x (fin id : Int) (w : World) (hf : 0 ≤ fin ∧ fin ≤ 1099511627776) (hi : 1 ≤ id ∧ id ≤ 4611686018427387904) (hG : Laid0 E L) (h : Own E w L) :
    Calls Tryz.prog 31 #[.agg #[.string (exK fin id), .string (noB)]] w fun e w' => e = .returned (.tuple #[.string ⟨#[120]⟩, .int .i64 fin, .int .i64 id, .string ⟨#[]⟩, .int .i64 0]) ∧ Own E w' L := by
  have r1 := read_two 6 8 fin id (by omega) (by omega)
  have zr : (⟨(byN 6 fin.toNat ++ byN 8 id.toNat).toArray⟩ : ByteArray).size ≤ 1000000000000 := by rw [fl_size, List.length_append, byN_len, byN_len]; omega
  have J1 := fun w => istime_any fin w
  have J2 := fun w => isid_any id w
  rw [decide_eq_true hf] at J1
  rw [decide_eq_true hi] at J2
  obtain ⟨k, hk⟩ : ∃ k, k = exK fin id := ⟨_, rfl⟩
  obtain ⟨v, hv⟩ : ∃ v, v = noB := ⟨_, rfl⟩
  obtain ⟨lt, hlt⟩ : ∃ lt : ByteArray, lt = ⟨#[120]⟩ := ⟨_, rfl⟩
  obtain ⟨r, hrr⟩ : ∃ r : ByteArray, r = ⟨(byN 6 fin.toNat ++ byN 8 id.toNat).toArray⟩ := ⟨_, rfl⟩
  have e1 : k.extract 0 1 = lt := by
    rw [hk, hlt]
    exact ext_head _ _
  have e2 : k.extract 1 k.size = r := by
    rw [hk, hrr]
    exact ext_tail _ _
  have e4 : 1 ≤ k.size := by
    rw [hk]
    unfold exK
    rw [fl_size, List.length_cons]
    omega
  have e3 : k.toList.isEmpty = false := by
    rw [isEmpty_size]
    exact decide_eq_false (by omega)
  have i1 : (1 : Int) ≤ (k.size : Int) := by omega
  have l1 : (lt.toList == [109]) = false := by rw [hlt, ByteArray.toList_eq]; rfl
  have l2 : (lt.toList == [120]) = true := by rw [hlt, ByteArray.toList_eq]; rfl
  have l3 : (lt.toList == [115]) = false := by rw [hlt, ByteArray.toList_eq]; rfl
  have v1 : v.toList.isEmpty = true := by rw [isEmpty_size, hv]; rfl
  rw [← hrr] at r1 zr
  rw [← hk, ← hv, ← hlt]
  have h1 := h.alloc (.cells #[.string k, .string v] ITT)
  have HC : Hid (∀ w', Own E w' (Hp.blk w.heap.size ITT #[.string k, .string v] :: L) → w'.cell? ⟨w.heap.size, 0, none⟩ = some (.string k)) := Lib.hid fun w' h => (h.cell 0).trans rfl
  have HG := Lib.hid hG
  clear hk hv hlt hrr h hG hf hi
  have H1 := Lib.hid h1
  clear h1
  go_enter Tryz.func31, Tryz.ntmps31
  go_wp2_with fail
  have h := H1.out.drew
  clear H1
  refine wp_region_text [1, 4] (fun w' => w'.cell? ⟨w.heap.size, 0, none⟩ = some (.string k)) (by kernel_rfl) ?_ (fun hS => ?_)
  · exact HC.out _ h
  refine wpAnyG_pure (i := 0) (oi := ⟨some 29, _, _, _, _, _⟩) (v := ?_) rfl (by kernel_rfl) (by kernel_rfl) (by kernel_rfl) (by rfl) (fun _ _ _ h => h) (by rfl) ?_ ?_
  rotate_left
  · intro w
    go_simp
    first | done | with_reducible rfl
  try simp only [Act.put, List.setIfInBounds_toArray, List.set_cons_zero, List.set_cons_succ]
  refine wpAnyG_load (i := 1) (oi := ⟨some 30, _, _, _, _, _⟩) (v := (.string k)) rfl (by kernel_rfl) (by kernel_rfl) (by kernel_rfl) (by rfl) (fun _ _ _ h => h) (by rfl) ?_ (by assumption) ?_
  · intro w hS
    go_simp
  try simp only [Act.put, List.setIfInBounds_toArray, List.set_cons_zero, List.set_cons_succ]
  refine wpAnyG_pure (i := 2) (oi := ⟨some 31, _, _, _, _, _⟩) (v := (.string lt)) rfl (by kernel_rfl) (by kernel_rfl) (by kernel_rfl) (by rfl) (fun _ _ _ h => h) (by rfl) ?_ ?_
  · intro w
    go_simp; first | done | (intro hx; exact absurd hx (by omega))
  try simp only [Act.put, List.setIfInBounds_toArray, List.set_cons_zero, List.set_cons_succ]
  refine wpAnyG_pure (i := 3) (oi := ⟨some 32, _, _, _, _, _⟩) (v := ?_) rfl (by kernel_rfl) (by kernel_rfl) (by kernel_rfl) (by rfl) (fun _ _ _ h => h) (by rfl) ?_ ?_
  rotate_left
  · intro w
    go_simp
    first | done | with_reducible rfl
  try simp only [Act.put, List.setIfInBounds_toArray, List.set_cons_zero, List.set_cons_succ]
  refine wpAnyG_load (i := 4) (oi := ⟨some 33, _, _, _, _, _⟩) (v := (.string k)) rfl (by kernel_rfl) (by kernel_rfl) (by kernel_rfl) (by rfl) (fun _ _ _ h => h) (by rfl) ?_ (by assumption) ?_
  · intro w hS
    go_simp
  try simp only [Act.put, List.setIfInBounds_toArray, List.set_cons_zero, List.set_cons_succ]
  refine wpAnyG_pure (i := 5) (oi := ⟨some 34, _, _, _, _, _⟩) (v := (.string r)) rfl (by kernel_rfl) (by kernel_rfl) (by kernel_rfl) (by rfl) (fun _ _ _ h => h) (by rfl) ?_ ?_
  · intro w
    go_simp; first | done | (intro hx; exact absurd hx (by omega))
  try simp only [Act.put, List.setIfInBounds_toArray, List.set_cons_zero, List.set_cons_succ]
  refine wpAnyG_pure (i := 6) (oi := ⟨some 8, _, _, _, _, _⟩) (v := ?_) rfl (by kernel_rfl) (by kernel_rfl) (by kernel_rfl) (by rfl) (fun _ _ _ h => h) (by rfl) ?_ ?_
  rotate_left
  · intro w
    go_simp
    first | done | with_reducible rfl
  try simp only [Act.put, List.setIfInBounds_toArray, List.set_cons_zero, List.set_cons_succ]
  refine wpAnyG_pure (i := 7) (oi := ⟨some 9, _, _, _, _, _⟩) (v := ?_) rfl (by kernel_rfl) (by kernel_rfl) (by kernel_rfl) (by rfl) (fun _ _ _ h => h) (by rfl) ?_ ?_
  rotate_left
  · intro w
    go_simp
    first | done | with_reducible rfl
  try simp only [Act.put, List.setIfInBounds_toArray, List.set_cons_zero, List.set_cons_succ]
  refine wpAnyG_done (by kernel_rfl) ?_ _
  refine NoPanic.normal ?_
  generalize (w.alloc (.cells #[.string k, .string v] ITT)).drew = w2 at *
  have h2 := h.alloc (.cells #[.int .i64 0] I64)
  have h3 := h2.alloc (.cells #[.int .i64 0] I64)
  rw [alloc_size] at h3
  have H3 := Lib.hid (show Own E _ (Hp.blk w2.heap.size I64 #[.int .i64 0] :: Hp.blk (w2.heap.size + 1) I64 #[.int .i64 0] :: Hp.blk w.heap.size ITT #[.string k, .string v] :: L) from h3.f1)
  have KR : Hid (∀ (bb : Nat) (w3 : World), Own E w3 (Hp.blk bb FT (([(.num 6, ⟨w2.heap.size, 0, none⟩), (.num 8, ⟨(w2.heap.size + 1), 0, none⟩)] : List (Fk × Addr)).flatMap enF).toArray :: Hp.blk w2.heap.size I64 #[.int .i64 0] :: Hp.blk (w2.heap.size + 1) I64 #[.int .i64 0] :: Hp.blk w.heap.size ITT #[.string k, .string v] :: L) → Calls Tryz.prog 67 #[.slice (some ⟨bb, 0, none⟩) 2 2, .string r] w3 fun e w' => e = .returned (.bool true) ∧ Own E w' (Hp.blk w2.heap.size I64 #[.int .i64 fin] :: Hp.blk (w2.heap.size + 1) I64 #[.int .i64 id] :: Hp.blk w.heap.size ITT #[.string k, .string v] :: L)) := Lib.hid fun bb w3 h3 => read2_any bb _ _ 6 8 fin id _ _ r w3 zr r1 HG.out.cons h3
  have K1 := fun (wq : World) (M : List Hp) (h : Own E wq M) => fnum_any (E := E) (L := M) 6 ⟨w2.heap.size, 0, none⟩ wq h
  have K2 := fun (wq : World) (M : List Hp) (h : Own E wq M) => fnum_any (E := E) (L := M) 8 ⟨(w2.heap.size + 1), 0, none⟩ wq h
  simp only [enF, show ((8 : Nat) : Int) = 8 from rfl, show ((6 : Nat) : Int) = 6 from rfl] at K1 K2
  have HD : Hid (∀ w', Own E w' (Hp.blk w2.heap.size I64 #[.int .i64 fin] :: Hp.blk (w2.heap.size + 1) I64 #[.int .i64 id] :: Hp.blk w.heap.size ITT #[.string k, .string v] :: L) → w'.cell? ⟨w.heap.size, 1, none⟩ = some (.string v) ∧ w'.cell? ⟨w2.heap.size, 0, none⟩ = some (.int .i64 fin) ∧ w'.cell? ⟨(w2.heap.size + 1), 0, none⟩ = some (.int .i64 id)) := Lib.hid fun w' h => ⟨(h.f2.cell 1).trans rfl, (h.cell 0).trans rfl, (h.f1.cell 0).trans rfl⟩
  clear h h2 h3 r1 zr HC
  go_wp2_with (first
    | (with_reducible refine (K1 _ _ H3.out).mono ?_; clear H3; rintro e w4 ⟨rfl, h⟩; have H3 := Lib.hid h; clear h)
    | (with_reducible refine (K2 _ _ H3.out).mono ?_; clear H3; rintro e w4 ⟨rfl, h⟩; have H3 := Lib.hid h; clear h)
    | (with_reducible refine (J1 _).mono ?_; rintro e w4 ⟨rfl, rfl⟩)
    | (with_reducible refine (J2 _).mono ?_; rintro e w4 ⟨rfl, rfl⟩)
    | (refine (KR.out _ _ (H3.out.alloc _)).mono ?_; clear H3 KR; rintro e w5 ⟨rfl, h⟩; have H3 := Lib.hid h; clear h; obtain ⟨c1, c2, c3⟩ := HD.out _ H3.out))
  have h := H3.out.drew
  clear H3
  refine wp_region_text [1, 2] (fun w' => w'.cell? ⟨w2.heap.size, 0, none⟩ = some (.int .i64 fin) ∧ w'.cell? ⟨(w2.heap.size + 1), 0, none⟩ = some (.int .i64 id)) (by kernel_rfl) ?_ (fun hS => ?_)
  · exact (HD.out _ h).2
  refine wpAnyG_pure (i := 0) (oi := ⟨some 72, _, _, _, _, _⟩) (v := ?_) rfl (by kernel_rfl) (by kernel_rfl) (by kernel_rfl) (by rfl) (fun _ _ _ h => h) (by rfl) ?_ ?_
  rotate_left
  · intro w
    go_simp
    first | done | with_reducible rfl
  try simp only [Act.put, List.setIfInBounds_toArray, List.set_cons_zero, List.set_cons_succ]
  refine wpAnyG_load (i := 1) (oi := ⟨some 73, _, _, _, _, _⟩) (v := ?_) rfl (by kernel_rfl) (by kernel_rfl) (by kernel_rfl) (by rfl) (fun _ _ _ h => h) (by rfl) ?_ (by assumption) ?_
  rotate_left
  · intro w hS
    try dsimp only at hS
    go_simp
    first | done | with_reducible rfl
  try simp only [Act.put, List.setIfInBounds_toArray, List.set_cons_zero, List.set_cons_succ]
  refine wpAnyG_load (i := 2) (oi := ⟨some 74, _, _, _, _, _⟩) (v := ?_) rfl (by kernel_rfl) (by kernel_rfl) (by kernel_rfl) (by rfl) (fun _ _ _ h => h) (by rfl) ?_ (by assumption) ?_
  rotate_left
  · intro w hS
    try dsimp only at hS
    go_simp
    first | done | with_reducible rfl
  try simp only [Act.put, List.setIfInBounds_toArray, List.set_cons_zero, List.set_cons_succ]
  refine wpAnyG_pure (i := 3) (oi := ⟨some 2, _, _, _, _, _⟩) (v := ?_) rfl (by kernel_rfl) (by kernel_rfl) (by kernel_rfl) (by rfl) (fun _ _ _ h => h) (by rfl) ?_ ?_
  rotate_left
  · intro w
    go_simp
    first | done | with_reducible rfl
  try simp only [Act.put, List.setIfInBounds_toArray, List.set_cons_zero, List.set_cons_succ]
  refine wpAnyG_pure (i := 4) (oi := ⟨some 3, _, _, _, _, _⟩) (v := ?_) rfl (by kernel_rfl) (by kernel_rfl) (by kernel_rfl) (by rfl) (fun _ _ _ h => h) (by rfl) ?_ ?_
  rotate_left
  · intro w
    go_simp
    first | done | with_reducible rfl
  try simp only [Act.put, List.setIfInBounds_toArray, List.set_cons_zero, List.set_cons_succ]
  refine wpAnyG_pure (i := 5) (oi := ⟨some 4, _, _, _, _, _⟩) (v := ?_) rfl (by kernel_rfl) (by kernel_rfl) (by kernel_rfl) (by rfl) (fun _ _ _ h => h) (by rfl) ?_ ?_
  rotate_left
  · intro w
    go_simp
    first | done | with_reducible rfl
  try simp only [Act.put, List.setIfInBounds_toArray, List.set_cons_zero, List.set_cons_succ]
  refine wpAnyG_pure (i := 6) (oi := ⟨some 5, _, _, _, _, _⟩) (v := ?_) rfl (by kernel_rfl) (by kernel_rfl) (by kernel_rfl) (by rfl) (fun _ _ _ h => h) (by rfl) ?_ ?_
  rotate_left
  · intro w
    go_simp
    first | done | with_reducible rfl
  try simp only [Act.put, List.setIfInBounds_toArray, List.set_cons_zero, List.set_cons_succ]
  refine wpAnyG_pure (i := 7) (oi := ⟨some 6, _, _, _, _, _⟩) (v := ?_) rfl (by kernel_rfl) (by kernel_rfl) (by kernel_rfl) (by rfl) (fun _ _ _ h => h) (by rfl) ?_ ?_
  rotate_left
  · intro w
    go_simp
    first | done | with_reducible rfl
  try simp only [Act.put, List.setIfInBounds_toArray, List.set_cons_zero, List.set_cons_succ]
  refine wpAnyG_done (by kernel_rfl) ?_ _
  refine NoPanic.normal ?_
  go_wp2_with fail
  (try simp only [Exit.inBlock, Exit.then])
  refine bodyPost_ret (results_tmp5 rfl _ _ _) rfl ?_
  exact ⟨rfl, h.drop.drop.drop⟩
set_option maxRecDepth 20000 in
set_option maxHeartbeats 4000000 in
theorem pidx_s (su : ByteArray) (id : Int) (w : World) (hn : nameB su = true) (hi : 1 ≤ id ∧ id ≤ 4611686018427387904) (hG : Laid0 E L) (h : Own E w L) :
    Calls Tryz.prog 31 #[.agg #[.string (suK su id), .string (noB)]] w fun e w' => e = .returned (.tuple #[.string ⟨#[115]⟩, .int .i64 0, .int .i64 id, .string su, .int .i64 0]) ∧ Own E w' L := by
  have r1 := read_one 8 id (by omega)
  have zr : (⟨(byN 8 id.toNat).toArray⟩ : ByteArray).size ≤ 1000000000000 := by rw [fl_size, byN_len]; omega
  have J2 := fun w => isid_any id w
  rw [decide_eq_true hi] at J2
  have KN := fun (wq : World) (M : List Hp) (h : Own E wq M) => isname_any (E := E) (L := M) su wq h
  rw [hn] at KN
  obtain ⟨r2, hr2⟩ : ∃ r2 : ByteArray, r2 = ⟨(byN 8 id.toNat).toArray⟩ := ⟨_, rfl⟩
  rw [← hr2] at r1 zr
  have hc : Lib.indexByte (su.data.toList ++ 0 :: byN 8 id.toNat) 0 = su.size := index_nought _ _ (name_no0 hn)
  have hsz := nm_size hn
  obtain ⟨k, hk⟩ : ∃ k, k = suK su id := ⟨_, rfl⟩
  obtain ⟨v, hv⟩ : ∃ v, v = noB := ⟨_, rfl⟩
  obtain ⟨lt, hlt⟩ : ∃ lt : ByteArray, lt = ⟨#[115]⟩ := ⟨_, rfl⟩
  obtain ⟨r, hrr⟩ : ∃ r : ByteArray, r = ⟨(su.data.toList ++ 0 :: byN 8 id.toNat).toArray⟩ := ⟨_, rfl⟩
  have e1 : k.extract 0 1 = lt := by
    rw [hk, hlt]
    exact ext_head _ _
  have e2 : k.extract 1 k.size = r := by
    rw [hk, hrr]
    exact ext_tail _ _
  have e4 : 1 ≤ k.size := by
    rw [hk]
    unfold suK
    rw [fl_size, List.length_cons]
    omega
  have e3 : k.toList.isEmpty = false := by
    rw [isEmpty_size]
    exact decide_eq_false (by omega)
  have i1 : (1 : Int) ≤ (k.size : Int) := by omega
  have l1 : (lt.toList == [109]) = false := by rw [hlt, ByteArray.toList_eq]; rfl
  have l2 : (lt.toList == [120]) = false := by rw [hlt, ByteArray.toList_eq]; rfl
  have l3 : (lt.toList == [115]) = true := by rw [hlt, ByteArray.toList_eq]; rfl
  have v1 : v.toList.isEmpty = true := by rw [isEmpty_size, hv]; rfl
  have q1 : Lib.indexByte r.data.toList 0 = su.size := by rw [hrr]; exact hc
  have q2 : r.size = su.size + 1 + 8 := by
    rw [hrr, fl_size, List.length_append, List.length_cons, byN_len]
    show su.size + _ = _
    omega
  have q3 : r.extract 0 su.size = su := by
    rw [hrr]
    have := ext_mid [] su.data.toList (0 :: byN 8 id.toNat)
    simp only [List.nil_append, List.length_nil, Nat.zero_add] at this
    refine this.trans ?_
    refine bytes_ext _ _ ?_
    simp
  have q4 : r.extract (su.size + 1) r.size = r2 := by
    rw [q2, hrr, hr2]
    have := ext_mid (su.data.toList ++ [0]) (byN 8 id.toNat) []
    rw [List.append_nil, List.length_append, byN_len, List.append_assoc] at this
    exact this
  have KC := fun (wq : World) (M : List Hp) (h : Own E wq M) => cut0_any (E := E) (L := M) su r2 r wq q1 (by omega) (by omega) q3 q4 h
  rw [← hk, ← hv, ← hlt]
  have h1 := h.alloc (.cells #[.string k, .string v] ITT)
  have HC : Hid (∀ w', Own E w' (Hp.blk w.heap.size ITT #[.string k, .string v] :: L) → w'.cell? ⟨w.heap.size, 0, none⟩ = some (.string k)) := Lib.hid fun w' h => (h.cell 0).trans rfl
  have HG := Lib.hid hG
  clear hk hv hlt hrr h hG hi hn hc hsz q1 q2 q3 q4 hr2
  have H1 := Lib.hid h1
  clear h1
  go_enter Tryz.func31, Tryz.ntmps31
  go_wp2_with fail
  have h := H1.out.drew
  clear H1
  refine wp_region_text [1, 4] (fun w' => w'.cell? ⟨w.heap.size, 0, none⟩ = some (.string k)) (by kernel_rfl) ?_ (fun hS => ?_)
  · exact HC.out _ h
  refine wpAnyG_pure (i := 0) (oi := ⟨some 29, _, _, _, _, _⟩) (v := ?_) rfl (by kernel_rfl) (by kernel_rfl) (by kernel_rfl) (by rfl) (fun _ _ _ h => h) (by rfl) ?_ ?_
  rotate_left
  · intro w
    go_simp
    first | done | with_reducible rfl
  try simp only [Act.put, List.setIfInBounds_toArray, List.set_cons_zero, List.set_cons_succ]
  refine wpAnyG_load (i := 1) (oi := ⟨some 30, _, _, _, _, _⟩) (v := (.string k)) rfl (by kernel_rfl) (by kernel_rfl) (by kernel_rfl) (by rfl) (fun _ _ _ h => h) (by rfl) ?_ (by assumption) ?_
  · intro w hS
    go_simp
  try simp only [Act.put, List.setIfInBounds_toArray, List.set_cons_zero, List.set_cons_succ]
  refine wpAnyG_pure (i := 2) (oi := ⟨some 31, _, _, _, _, _⟩) (v := (.string lt)) rfl (by kernel_rfl) (by kernel_rfl) (by kernel_rfl) (by rfl) (fun _ _ _ h => h) (by rfl) ?_ ?_
  · intro w
    go_simp; first | done | (intro hx; exact absurd hx (by omega))
  try simp only [Act.put, List.setIfInBounds_toArray, List.set_cons_zero, List.set_cons_succ]
  refine wpAnyG_pure (i := 3) (oi := ⟨some 32, _, _, _, _, _⟩) (v := ?_) rfl (by kernel_rfl) (by kernel_rfl) (by kernel_rfl) (by rfl) (fun _ _ _ h => h) (by rfl) ?_ ?_
  rotate_left
  · intro w
    go_simp
    first | done | with_reducible rfl
  try simp only [Act.put, List.setIfInBounds_toArray, List.set_cons_zero, List.set_cons_succ]
  refine wpAnyG_load (i := 4) (oi := ⟨some 33, _, _, _, _, _⟩) (v := (.string k)) rfl (by kernel_rfl) (by kernel_rfl) (by kernel_rfl) (by rfl) (fun _ _ _ h => h) (by rfl) ?_ (by assumption) ?_
  · intro w hS
    go_simp
  try simp only [Act.put, List.setIfInBounds_toArray, List.set_cons_zero, List.set_cons_succ]
  refine wpAnyG_pure (i := 5) (oi := ⟨some 34, _, _, _, _, _⟩) (v := (.string r)) rfl (by kernel_rfl) (by kernel_rfl) (by kernel_rfl) (by rfl) (fun _ _ _ h => h) (by rfl) ?_ ?_
  · intro w
    go_simp; first | done | (intro hx; exact absurd hx (by omega))
  try simp only [Act.put, List.setIfInBounds_toArray, List.set_cons_zero, List.set_cons_succ]
  refine wpAnyG_pure (i := 6) (oi := ⟨some 8, _, _, _, _, _⟩) (v := ?_) rfl (by kernel_rfl) (by kernel_rfl) (by kernel_rfl) (by rfl) (fun _ _ _ h => h) (by rfl) ?_ ?_
  rotate_left
  · intro w
    go_simp
    first | done | with_reducible rfl
  try simp only [Act.put, List.setIfInBounds_toArray, List.set_cons_zero, List.set_cons_succ]
  refine wpAnyG_pure (i := 7) (oi := ⟨some 9, _, _, _, _, _⟩) (v := ?_) rfl (by kernel_rfl) (by kernel_rfl) (by kernel_rfl) (by rfl) (fun _ _ _ h => h) (by rfl) ?_ ?_
  rotate_left
  · intro w
    go_simp
    first | done | with_reducible rfl
  try simp only [Act.put, List.setIfInBounds_toArray, List.set_cons_zero, List.set_cons_succ]
  refine wpAnyG_done (by kernel_rfl) ?_ _
  refine NoPanic.normal ?_
  have KC2 := KC _ _ h
  clear KC h HC
  go_wp2_with (refine KC2.mono ?_; clear KC2; rintro e w2 ⟨rfl, h⟩; have H2 := Lib.hid h; have H3 := Lib.hid (h.alloc (.cells #[.int .i64 0] I64)); clear h; have K1 := fun (wq : World) (M : List Hp) (h : Own E wq M) => fnum_any (E := E) (L := M) 8 ⟨w2.heap.size, 0, none⟩ wq h; simp only [enF, show ((8 : Nat) : Int) = 8 from rfl] at K1)
  have KR : Hid (∀ (bb : Nat) (w3 : World), Own E w3 (Hp.blk bb FT (([(.num 8, ⟨w2.heap.size, 0, none⟩)] : List (Fk × Addr)).flatMap enF).toArray :: Hp.blk w2.heap.size I64 #[.int .i64 0] :: Hp.blk w.heap.size ITT #[.string k, .string v] :: L) → Calls Tryz.prog 67 #[.slice (some ⟨bb, 0, none⟩) 1 1, .string r2] w3 fun e w' => e = .returned (.bool true) ∧ Own E w' (Hp.blk w2.heap.size I64 #[.int .i64 id] :: Hp.blk w.heap.size ITT #[.string k, .string v] :: L)) := Lib.hid fun bb w3 h3 => read1_any bb _ 8 id _ r2 w3 zr r1 HG.out.cons h3
  have HD : Hid (∀ w', Own E w' (Hp.blk w2.heap.size I64 #[.int .i64 id] :: Hp.blk w.heap.size ITT #[.string k, .string v] :: L) → w'.cell? ⟨w.heap.size, 1, none⟩ = some (.string v) ∧ w'.cell? ⟨w2.heap.size, 0, none⟩ = some (.int .i64 id)) := Lib.hid fun w' h => ⟨(h.f1.cell 1).trans rfl, (h.cell 0).trans rfl⟩
  clear r1 zr
  go_wp2_with (first
    | (with_reducible refine (K1 _ _ H3.out).mono ?_; clear H3; rintro e w4 ⟨rfl, h⟩; have H3 := Lib.hid h; clear h)
    | (with_reducible refine (J2 _).mono ?_; rintro e w4 ⟨rfl, rfl⟩)
    | (with_reducible refine (KN _ _ H3.out).mono ?_; clear H3; rintro e w4 ⟨rfl, h⟩; have H3 := Lib.hid h; clear h; clear c1 c2; obtain ⟨c1, c2⟩ := HD.out _ H3.out)
    | (refine (KR.out _ _ (H3.out.alloc _)).mono ?_; clear H3 KR; rintro e w5 ⟨rfl, h⟩; have H3 := Lib.hid h; clear h; obtain ⟨c1, c2⟩ := HD.out _ H3.out))
  have h := H3.out.drew
  clear H3
  refine wp_region_text [1] (fun w' => w'.cell? ⟨w2.heap.size, 0, none⟩ = some (.int .i64 id)) (by kernel_rfl) ?_ (fun hS => ?_)
  · exact (HD.out _ h).2
  refine wpAnyG_pure (i := 0) (oi := ⟨some 100, _, _, _, _, _⟩) (v := ?_) rfl (by kernel_rfl) (by kernel_rfl) (by kernel_rfl) (by rfl) (fun _ _ _ h => h) (by rfl) ?_ ?_
  rotate_left
  · intro w
    go_simp
    first | done | with_reducible rfl
  try simp only [Act.put, List.setIfInBounds_toArray, List.set_cons_zero, List.set_cons_succ]
  refine wpAnyG_load (i := 1) (oi := ⟨some 101, _, _, _, _, _⟩) (v := ?_) rfl (by kernel_rfl) (by kernel_rfl) (by kernel_rfl) (by rfl) (fun _ _ _ h => h) (by rfl) ?_ (by assumption) ?_
  rotate_left
  · intro w hS
    try dsimp only at hS
    go_simp
    first | done | with_reducible rfl
  try simp only [Act.put, List.setIfInBounds_toArray, List.set_cons_zero, List.set_cons_succ]
  refine wpAnyG_pure (i := 2) (oi := ⟨some 102, _, _, _, _, _⟩) (v := ?_) rfl (by kernel_rfl) (by kernel_rfl) (by kernel_rfl) (by rfl) (fun _ _ _ h => h) (by rfl) ?_ ?_
  rotate_left
  · intro w
    go_simp
    first | done | with_reducible rfl
  try simp only [Act.put, List.setIfInBounds_toArray, List.set_cons_zero, List.set_cons_succ]
  refine wpAnyG_pure (i := 3) (oi := ⟨some 2, _, _, _, _, _⟩) (v := ?_) rfl (by kernel_rfl) (by kernel_rfl) (by kernel_rfl) (by rfl) (fun _ _ _ h => h) (by rfl) ?_ ?_
  rotate_left
  · intro w
    go_simp
    first | done | with_reducible rfl
  try simp only [Act.put, List.setIfInBounds_toArray, List.set_cons_zero, List.set_cons_succ]
  refine wpAnyG_pure (i := 4) (oi := ⟨some 3, _, _, _, _, _⟩) (v := ?_) rfl (by kernel_rfl) (by kernel_rfl) (by kernel_rfl) (by rfl) (fun _ _ _ h => h) (by rfl) ?_ ?_
  rotate_left
  · intro w
    go_simp
    first | done | with_reducible rfl
  try simp only [Act.put, List.setIfInBounds_toArray, List.set_cons_zero, List.set_cons_succ]
  refine wpAnyG_pure (i := 5) (oi := ⟨some 4, _, _, _, _, _⟩) (v := ?_) rfl (by kernel_rfl) (by kernel_rfl) (by kernel_rfl) (by rfl) (fun _ _ _ h => h) (by rfl) ?_ ?_
  rotate_left
  · intro w
    go_simp
    first | done | with_reducible rfl
  try simp only [Act.put, List.setIfInBounds_toArray, List.set_cons_zero, List.set_cons_succ]
  refine wpAnyG_pure (i := 6) (oi := ⟨some 5, _, _, _, _, _⟩) (v := ?_) rfl (by kernel_rfl) (by kernel_rfl) (by kernel_rfl) (by rfl) (fun _ _ _ h => h) (by rfl) ?_ ?_
  rotate_left
  · intro w
    go_simp
    first | done | with_reducible rfl
  try simp only [Act.put, List.setIfInBounds_toArray, List.set_cons_zero, List.set_cons_succ]
  refine wpAnyG_pure (i := 7) (oi := ⟨some 6, _, _, _, _, _⟩) (v := ?_) rfl (by kernel_rfl) (by kernel_rfl) (by kernel_rfl) (by rfl) (fun _ _ _ h => h) (by rfl) ?_ ?_
  rotate_left
  · intro w
    go_simp
    first | done | with_reducible rfl
  try simp only [Act.put, List.setIfInBounds_toArray, List.set_cons_zero, List.set_cons_succ]
  refine wpAnyG_done (by kernel_rfl) ?_ _
  refine NoPanic.normal ?_
  go_wp2_with fail
  (try simp only [Exit.inBlock, Exit.then])
  refine bodyPost_ret (results_tmp5 rfl _ _ _) rfl ?_
  exact ⟨rfl, h.drop.drop⟩
end
end Go.Proofs.YtabibfabieghpaaGreatDoor
