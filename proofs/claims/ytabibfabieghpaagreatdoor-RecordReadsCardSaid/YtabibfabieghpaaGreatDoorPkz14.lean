/- record.ParseIndex, of entries that are right (printed by gen_idx2.py). The reference's ParseNote of any text; its by, of any number. What is read in full is laid down as it was read (the inverse of readV_printed). -/
import Derived.Test.YtabibfabieghpaaGreatDoorPkz0
import Derived.Test.YtabibfabieghpaaGreatDoorPkz13
import Derived.Test.YtabibfabieghpaaGreatDoorPkXRdr
import Derived.Test.YtabibfabieghpaaGreatDoorPkRead
namespace Go.Proofs.YtabibfabieghpaaGreatDoor
open Go.RowKit
theorem ext_mid (A B C : List UInt8) : (⟨(A ++ B ++ C).toArray⟩ : ByteArray).extract A.length (A.length + B.length) = ⟨B.toArray⟩ := by
  refine bytes_ext _ _ ?_
  rw [ByteArray.data_extract]
  simp
theorem ext_head (x : UInt8) (R : List UInt8) : (⟨(x :: R).toArray⟩ : ByteArray).extract 0 1 = ⟨#[x]⟩ := ext_mid [] [x] R
theorem ext_tail (x : UInt8) (R : List UInt8) : (⟨(x :: R).toArray⟩ : ByteArray).extract 1 (⟨(x :: R).toArray⟩ : ByteArray).size = ⟨R.toArray⟩ := by
  have := ext_mid [x] R []
  rw [List.append_nil] at this
  rw [fl_size, List.length_cons, Nat.add_comm R.length 1]
  exact this
theorem name_no0 {s : ByteArray} (h : nameB s = true) : ∀ x ∈ s.data.toList, x ≠ 0 := fun x hx e => by
  unfold nameB at h
  simp only [Bool.and_eq_true] at h
  have := List.all_eq_true.1 h.1.1 x hx
  rw [e] at this
  revert this
  decide
section
variable {E : World} {L : List Hp}
set_option maxRecDepth 20000 in
set_option maxHeartbeats 4000000 in
theorem pidx_m (a b c : Int) (w : World) (ha : 1 ≤ a ∧ a ≤ 4611686018427387904) (hb : 1 ≤ b ∧ b ≤ 4611686018427387904) (hc : 1 ≤ c ∧ c ≤ 1073741824) (hG : Laid0 E L) (h : Own E w L) :
    Calls Tryz.prog 31 #[.agg #[.string (ofK b c), .string (ofV a)]] w fun e w' => e = .returned (.tuple #[.string ⟨#[109]⟩, .int .i64 c, .int .i64 b, .string (ofV a), .int .i64 0]) ∧ Own E w' L := by
  have KM := fun (wq : World) (M : List Hp) (hG : Laid0 E M) (h : Own E wq M) => member_ok a b c wq ha hb hc hG h
  obtain ⟨k, hk⟩ : ∃ k, k = ofK b c := ⟨_, rfl⟩
  obtain ⟨v, hv⟩ : ∃ v, v = ofV a := ⟨_, rfl⟩
  obtain ⟨lt, hlt⟩ : ∃ lt : ByteArray, lt = ⟨#[109]⟩ := ⟨_, rfl⟩
  obtain ⟨r, hrr⟩ : ∃ r : ByteArray, r = ⟨(byN 8 b.toNat ++ byN 4 c.toNat).toArray⟩ := ⟨_, rfl⟩
  have e1 : k.extract 0 1 = lt := by
    rw [hk, hlt]
    exact ext_head _ _
  have e2 : k.extract 1 k.size = r := by
    rw [hk, hrr]
    exact ext_tail _ _
  have e4 : 1 ≤ k.size := by
    rw [hk]
    unfold ofK
    rw [fl_size, List.length_cons]
    omega
  have e3 : k.toList.isEmpty = false := by
    rw [isEmpty_size]
    exact decide_eq_false (by omega)
  have i1 : (1 : Int) ≤ (k.size : Int) := by omega
  have l1 : (lt.toList == [109]) = true := by rw [hlt, ByteArray.toList_eq]; rfl
  have l2 : (lt.toList == [120]) = false := by rw [hlt, ByteArray.toList_eq]; rfl
  have l3 : (lt.toList == [115]) = false := by rw [hlt, ByteArray.toList_eq]; rfl
  rw [← hrr, ← hv] at KM
  rw [← hk, ← hv, ← hlt]
  have h1 := h.alloc (.cells #[.string k, .string v] ITT)
  have HC : Hid (∀ w', Own E w' (Hp.blk w.heap.size ITT #[.string k, .string v] :: L) → w'.cell? ⟨w.heap.size, 0, none⟩ = some (.string k)) := Lib.hid fun w' h => (h.cell 0).trans rfl
  have HD : Hid (∀ w', Own E w' (Hp.blk w.heap.size ITT #[.string k, .string v] :: L) → w'.cell? ⟨w.heap.size, 1, none⟩ = some (.string v)) := Lib.hid fun w' h => (h.cell 1).trans rfl
  have HG := Lib.hid hG
  clear hk hv hlt hrr h hG ha hb hc
  have H1 := Lib.hid h1
  clear h1
  go_enter Tryz.func31, Tryz.ntmps31
  go_wp2_with fail
  have h := H1.out.drew
  clear H1
  refine wp_region_text [1, 4] (fun w' => w'.cell? ⟨w.heap.size, 0, none⟩ = some (.string k)) (by kernel_rfl) ?_ (fun hS => ?_)
  · exact HC.out _ h
  refine gp 0 (some 29) ?_
  refine gm 1 (some 30) (.string k) ?_ ?_
  · intro w hS
    go_simp
  refine gq 2 (some 31) (.string lt) ?_ ?_
  · intro w
    go_simp; first | done | (intro hx; exact absurd hx (by omega))
  refine gp 3 (some 32) ?_
  refine gm 4 (some 33) (.string k) ?_ ?_
  · intro w hS
    go_simp
  refine gq 5 (some 34) (.string r) ?_ ?_
  · intro w
    go_simp; first | done | (intro hx; exact absurd hx (by omega))
  refine gp 6 (some 8) ?_
  refine gp 7 (some 9) ?_
  refine wpAnyG_done (by kernel_rfl) ?_ _
  refine NoPanic.normal ?_
  have d1 := HD.out _ h
  have KM2 := KM _ _ HG.out.cons h
  clear KM h
  go_wp2_with (refine KM2.mono ?_; clear KM2; rintro e w5 ⟨rfl, h⟩; have H5 := Lib.hid h.drew; clear h)
  have h := H5.out
  clear H5
  refine wp_region_text [4] (fun w' => w'.cell? ⟨w.heap.size, 1, none⟩ = some (.string v)) (by kernel_rfl) ?_ (fun hS => ?_)
  · exact HD.out _ h
  refine gp 0 (some 47) ?_
  refine gp 1 (some 48) ?_
  refine gp 2 (some 49) ?_
  refine gp 3 (some 50) ?_
  refine gl 4 (some 51) ?_
  refine gp 5 (some 2) ?_
  refine gp 6 (some 3) ?_
  refine gp 7 (some 4) ?_
  refine gp 8 (some 5) ?_
  refine gp 9 (some 6) ?_
  refine wpAnyG_done (by kernel_rfl) ?_ _
  refine NoPanic.normal ?_
  go_wp2_with fail
  (try simp only [Exit.inBlock, Exit.then])
  refine bodyPost_ret (results_tmp5 rfl _ _ _) rfl ?_
  exact ⟨rfl, h.drop⟩
set_option maxRecDepth 20000 in
set_option maxHeartbeats 4000000 in
theorem pidx_x (fin id : Int) (w : World) (hf : 0 ≤ fin ∧ fin ≤ 1099511627776) (hi : 1 ≤ id ∧ id ≤ 4611686018427387904) (hG : Laid0 E L) (h : Own E w L) :
    Calls Tryz.prog 31 #[.agg #[.string (exK fin id), .string (noB)]] w fun e w' => e = .returned (.tuple #[.string ⟨#[120]⟩, .int .i64 fin, .int .i64 id, .string ⟨#[]⟩, .int .i64 0]) ∧ Own E w' L := by
  have r1 := read_two 6 8 fin id (by omega) (by omega)
  have zr : (⟨(byN 6 fin.toNat ++ byN 8 id.toNat).toArray⟩ : ByteArray).size ≤ 1000000000000000 := by rw [fl_size, List.length_append, byN_len, byN_len]; omega
  have J1 := fun w => istime_any fin w
  have J2 := fun w => isid_any id w
  rw [decide_eq_true hf] at J1
  rw [decide_eq_true hi] at J2
  obtain ⟨k, hk⟩ : ∃ k, k = exK fin id := ⟨_, rfl⟩
  obtain ⟨v, hv⟩ : ∃ v, v = noB := ⟨_, rfl⟩
  obtain ⟨lt, hlt⟩ : ∃ lt : ByteArray, lt = ⟨#[120]⟩ := ⟨_, rfl⟩
  obtain ⟨r, hrr⟩ : ∃ r : ByteArray, r = ⟨(byN 6 fin.toNat ++ byN 8 id.toNat).toArray⟩ := ⟨_, rfl⟩
  have e1 : k.extract 0 1 = lt := by
    rw [hk, hlt]
    exact ext_head _ _
  have e2 : k.extract 1 k.size = r := by
    rw [hk, hrr]
    exact ext_tail _ _
  have e4 : 1 ≤ k.size := by
    rw [hk]
    unfold exK
    rw [fl_size, List.length_cons]
    omega
  have e3 : k.toList.isEmpty = false := by
    rw [isEmpty_size]
    exact decide_eq_false (by omega)
  have i1 : (1 : Int) ≤ (k.size : Int) := by omega
  have l1 : (lt.toList == [109]) = false := by rw [hlt, ByteArray.toList_eq]; rfl
  have l2 : (lt.toList == [120]) = true := by rw [hlt, ByteArray.toList_eq]; rfl
  have l3 : (lt.toList == [115]) = false := by rw [hlt, ByteArray.toList_eq]; rfl
  have v1 : v.toList.isEmpty = true := by rw [isEmpty_size, hv]; rfl
  rw [← hrr] at r1 zr
  rw [← hk, ← hv, ← hlt]
  have h1 := h.alloc (.cells #[.string k, .string v] ITT)
  have HC : Hid (∀ w', Own E w' (Hp.blk w.heap.size ITT #[.string k, .string v] :: L) → w'.cell? ⟨w.heap.size, 0, none⟩ = some (.string k)) := Lib.hid fun w' h => (h.cell 0).trans rfl
  have HG := Lib.hid hG
  clear hk hv hlt hrr h hG hf hi
  have H1 := Lib.hid h1
  clear h1
  go_enter Tryz.func31, Tryz.ntmps31
  go_wp2_with fail
  have h := H1.out.drew
  clear H1
  refine wp_region_text [1, 4] (fun w' => w'.cell? ⟨w.heap.size, 0, none⟩ = some (.string k)) (by kernel_rfl) ?_ (fun hS => ?_)
  · exact HC.out _ h
  refine gp 0 (some 29) ?_
  refine gm 1 (some 30) (.string k) ?_ ?_
  · intro w hS
    go_simp
  refine gq 2 (some 31) (.string lt) ?_ ?_
  · intro w
    go_simp; first | done | (intro hx; exact absurd hx (by omega))
  refine gp 3 (some 32) ?_
  refine gm 4 (some 33) (.string k) ?_ ?_
  · intro w hS
    go_simp
  refine gq 5 (some 34) (.string r) ?_ ?_
  · intro w
    go_simp; first | done | (intro hx; exact absurd hx (by omega))
  refine gp 6 (some 8) ?_
  refine gp 7 (some 9) ?_
  refine wpAnyG_done (by kernel_rfl) ?_ _
  refine NoPanic.normal ?_
  generalize (w.alloc (.cells #[.string k, .string v] ITT)).drew = w2 at *
  have h2 := h.alloc (.cells #[.int .i64 0] I64)
  have h3 := h2.alloc (.cells #[.int .i64 0] I64)
  rw [alloc_size] at h3
  have H3 := Lib.hid (show Own E _ (Hp.blk w2.heap.size I64 #[.int .i64 0] :: Hp.blk (w2.heap.size + 1) I64 #[.int .i64 0] :: Hp.blk w.heap.size ITT #[.string k, .string v] :: L) from h3.f1)
  have KR : Hid (∀ (bb : Nat) (w3 : World), Own E w3 (Hp.blk bb FT (([(.num 6, ⟨w2.heap.size, 0, none⟩), (.num 8, ⟨(w2.heap.size + 1), 0, none⟩)] : List (Fk × Addr)).flatMap enF).toArray :: Hp.blk w2.heap.size I64 #[.int .i64 0] :: Hp.blk (w2.heap.size + 1) I64 #[.int .i64 0] :: Hp.blk w.heap.size ITT #[.string k, .string v] :: L) → Calls Tryz.prog 67 #[.slice (some ⟨bb, 0, none⟩) 2 2, .string r] w3 fun e w' => e = .returned (.bool true) ∧ Own E w' (Hp.blk w2.heap.size I64 #[.int .i64 fin] :: Hp.blk (w2.heap.size + 1) I64 #[.int .i64 id] :: Hp.blk w.heap.size ITT #[.string k, .string v] :: L)) := Lib.hid fun bb w3 h3 => read2_any bb _ _ 6 8 fin id _ _ r w3 zr r1 HG.out.cons h3
  have K1 := fun (wq : World) (M : List Hp) (h : Own E wq M) => fnum_any (E := E) (L := M) 6 ⟨w2.heap.size, 0, none⟩ wq h
  have K2 := fun (wq : World) (M : List Hp) (h : Own E wq M) => fnum_any (E := E) (L := M) 8 ⟨(w2.heap.size + 1), 0, none⟩ wq h
  simp only [enF, show ((8 : Nat) : Int) = 8 from rfl, show ((6 : Nat) : Int) = 6 from rfl] at K1 K2
  have HD : Hid (∀ w', Own E w' (Hp.blk w2.heap.size I64 #[.int .i64 fin] :: Hp.blk (w2.heap.size + 1) I64 #[.int .i64 id] :: Hp.blk w.heap.size ITT #[.string k, .string v] :: L) → w'.cell? ⟨w.heap.size, 1, none⟩ = some (.string v) ∧ w'.cell? ⟨w2.heap.size, 0, none⟩ = some (.int .i64 fin) ∧ w'.cell? ⟨(w2.heap.size + 1), 0, none⟩ = some (.int .i64 id)) := Lib.hid fun w' h => ⟨(h.f2.cell 1).trans rfl, (h.cell 0).trans rfl, (h.f1.cell 0).trans rfl⟩
  clear h h2 h3 r1 zr HC
  go_wp2_with (first
    | (with_reducible refine (K1 _ _ H3.out).mono ?_; clear H3; rintro e w4 ⟨rfl, h⟩; have H3 := Lib.hid h; clear h)
    | (with_reducible refine (K2 _ _ H3.out).mono ?_; clear H3; rintro e w4 ⟨rfl, h⟩; have H3 := Lib.hid h; clear h)
    | (with_reducible refine (J1 _).mono ?_; rintro e w4 ⟨rfl, rfl⟩)
    | (with_reducible refine (J2 _).mono ?_; rintro e w4 ⟨rfl, rfl⟩)
    | (refine (KR.out _ _ (H3.out.alloc _)).mono ?_; clear H3 KR; rintro e w5 ⟨rfl, h⟩; have H3 := Lib.hid h; clear h; obtain ⟨c1, c2, c3⟩ := HD.out _ H3.out))
  have h := H3.out.drew
  clear H3
  refine wp_region_text [1, 2] (fun w' => w'.cell? ⟨w2.heap.size, 0, none⟩ = some (.int .i64 fin) ∧ w'.cell? ⟨(w2.heap.size + 1), 0, none⟩ = some (.int .i64 id)) (by kernel_rfl) ?_ (fun hS => ?_)
  · exact (HD.out _ h).2
  refine gp 0 (some 72) ?_
  refine gl 1 (some 73) ?_
  refine gl 2 (some 74) ?_
  refine gp 3 (some 2) ?_
  refine gp 4 (some 3) ?_
  refine gp 5 (some 4) ?_
  refine gp 6 (some 5) ?_
  refine gp 7 (some 6) ?_
  refine wpAnyG_done (by kernel_rfl) ?_ _
  refine NoPanic.normal ?_
  go_wp2_with fail
  (try simp only [Exit.inBlock, Exit.then])
  refine bodyPost_ret (results_tmp5 rfl _ _ _) rfl ?_
  exact ⟨rfl, h.drop.drop.drop⟩
set_option maxRecDepth 20000 in
set_option maxHeartbeats 4000000 in
theorem pidx_s (su : ByteArray) (id : Int) (w : World) (hn : nameB su = true) (hi : 1 ≤ id ∧ id ≤ 4611686018427387904) (hG : Laid0 E L) (h : Own E w L) :
    Calls Tryz.prog 31 #[.agg #[.string (suK su id), .string (noB)]] w fun e w' => e = .returned (.tuple #[.string ⟨#[115]⟩, .int .i64 0, .int .i64 id, .string su, .int .i64 0]) ∧ Own E w' L := by
  have r1 := read_one 8 id (by omega)
  have zr : (⟨(byN 8 id.toNat).toArray⟩ : ByteArray).size ≤ 1000000000000000 := by rw [fl_size, byN_len]; omega
  have J2 := fun w => isid_any id w
  rw [decide_eq_true hi] at J2
  have KN := fun (wq : World) (M : List Hp) (h : Own E wq M) => isname_any (E := E) (L := M) su wq h
  rw [hn] at KN
  obtain ⟨r2, hr2⟩ : ∃ r2 : ByteArray, r2 = ⟨(byN 8 id.toNat).toArray⟩ := ⟨_, rfl⟩
  rw [← hr2] at r1 zr
  have hc : Lib.indexByte (su.data.toList ++ 0 :: byN 8 id.toNat) 0 = su.size := index_nought _ _ (name_no0 hn)
  have hsz := nm_size hn
  obtain ⟨k, hk⟩ : ∃ k, k = suK su id := ⟨_, rfl⟩
  obtain ⟨v, hv⟩ : ∃ v, v = noB := ⟨_, rfl⟩
  obtain ⟨lt, hlt⟩ : ∃ lt : ByteArray, lt = ⟨#[115]⟩ := ⟨_, rfl⟩
  obtain ⟨r, hrr⟩ : ∃ r : ByteArray, r = ⟨(su.data.toList ++ 0 :: byN 8 id.toNat).toArray⟩ := ⟨_, rfl⟩
  have e1 : k.extract 0 1 = lt := by
    rw [hk, hlt]
    exact ext_head _ _
  have e2 : k.extract 1 k.size = r := by
    rw [hk, hrr]
    exact ext_tail _ _
  have e4 : 1 ≤ k.size := by
    rw [hk]
    unfold suK
    rw [fl_size, List.length_cons]
    omega
  have e3 : k.toList.isEmpty = false := by
    rw [isEmpty_size]
    exact decide_eq_false (by omega)
  have i1 : (1 : Int) ≤ (k.size : Int) := by omega
  have l1 : (lt.toList == [109]) = false := by rw [hlt, ByteArray.toList_eq]; rfl
  have l2 : (lt.toList == [120]) = false := by rw [hlt, ByteArray.toList_eq]; rfl
  have l3 : (lt.toList == [115]) = true := by rw [hlt, ByteArray.toList_eq]; rfl
  have v1 : v.toList.isEmpty = true := by rw [isEmpty_size, hv]; rfl
  have q1 : Lib.indexByte r.data.toList 0 = su.size := by rw [hrr]; exact hc
  have q2 : r.size = su.size + 1 + 8 := by
    rw [hrr, fl_size, List.length_append, List.length_cons, byN_len]
    show su.size + _ = _
    omega
  have q3 : r.extract 0 su.size = su := by
    rw [hrr]
    have := ext_mid [] su.data.toList (0 :: byN 8 id.toNat)
    simp only [List.nil_append, List.length_nil, Nat.zero_add] at this
    refine this.trans ?_
    refine bytes_ext _ _ ?_
    simp
  have q4 : r.extract (su.size + 1) r.size = r2 := by
    rw [q2, hrr, hr2]
    have := ext_mid (su.data.toList ++ [0]) (byN 8 id.toNat) []
    rw [List.append_nil, List.length_append, byN_len, List.append_assoc] at this
    exact this
  have KC := fun (wq : World) (M : List Hp) (h : Own E wq M) => cut0_any (E := E) (L := M) su r2 r wq q1 (by omega) (by omega) q3 q4 h
  rw [← hk, ← hv, ← hlt]
  have h1 := h.alloc (.cells #[.string k, .string v] ITT)
  have HC : Hid (∀ w', Own E w' (Hp.blk w.heap.size ITT #[.string k, .string v] :: L) → w'.cell? ⟨w.heap.size, 0, none⟩ = some (.string k)) := Lib.hid fun w' h => (h.cell 0).trans rfl
  have HG := Lib.hid hG
  clear hk hv hlt hrr h hG hi hn hc hsz q1 q2 q3 q4 hr2
  have H1 := Lib.hid h1
  clear h1
  go_enter Tryz.func31, Tryz.ntmps31
  go_wp2_with fail
  have h := H1.out.drew
  clear H1
  refine wp_region_text [1, 4] (fun w' => w'.cell? ⟨w.heap.size, 0, none⟩ = some (.string k)) (by kernel_rfl) ?_ (fun hS => ?_)
  · exact HC.out _ h
  refine gp 0 (some 29) ?_
  refine gm 1 (some 30) (.string k) ?_ ?_
  · intro w hS
    go_simp
  refine gq 2 (some 31) (.string lt) ?_ ?_
  · intro w
    go_simp; first | done | (intro hx; exact absurd hx (by omega))
  refine gp 3 (some 32) ?_
  refine gm 4 (some 33) (.string k) ?_ ?_
  · intro w hS
    go_simp
  refine gq 5 (some 34) (.string r) ?_ ?_
  · intro w
    go_simp; first | done | (intro hx; exact absurd hx (by omega))
  refine gp 6 (some 8) ?_
  refine gp 7 (some 9) ?_
  refine wpAnyG_done (by kernel_rfl) ?_ _
  refine NoPanic.normal ?_
  have KC2 := KC _ _ h
  clear KC h HC
  go_wp2_with (refine KC2.mono ?_; clear KC2; rintro e w2 ⟨rfl, h⟩; have H2 := Lib.hid h; have H3 := Lib.hid (h.alloc (.cells #[.int .i64 0] I64)); clear h; have K1 := fun (wq : World) (M : List Hp) (h : Own E wq M) => fnum_any (E := E) (L := M) 8 ⟨w2.heap.size, 0, none⟩ wq h; simp only [enF, show ((8 : Nat) : Int) = 8 from rfl] at K1)
  have KR : Hid (∀ (bb : Nat) (w3 : World), Own E w3 (Hp.blk bb FT (([(.num 8, ⟨w2.heap.size, 0, none⟩)] : List (Fk × Addr)).flatMap enF).toArray :: Hp.blk w2.heap.size I64 #[.int .i64 0] :: Hp.blk w.heap.size ITT #[.string k, .string v] :: L) → Calls Tryz.prog 67 #[.slice (some ⟨bb, 0, none⟩) 1 1, .string r2] w3 fun e w' => e = .returned (.bool true) ∧ Own E w' (Hp.blk w2.heap.size I64 #[.int .i64 id] :: Hp.blk w.heap.size ITT #[.string k, .string v] :: L)) := Lib.hid fun bb w3 h3 => read1_any bb _ 8 id _ r2 w3 zr r1 HG.out.cons h3
  have HD : Hid (∀ w', Own E w' (Hp.blk w2.heap.size I64 #[.int .i64 id] :: Hp.blk w.heap.size ITT #[.string k, .string v] :: L) → w'.cell? ⟨w.heap.size, 1, none⟩ = some (.string v) ∧ w'.cell? ⟨w2.heap.size, 0, none⟩ = some (.int .i64 id)) := Lib.hid fun w' h => ⟨(h.f1.cell 1).trans rfl, (h.cell 0).trans rfl⟩
  clear r1 zr
  go_wp2_with (first
    | (with_reducible refine (K1 _ _ H3.out).mono ?_; clear H3; rintro e w4 ⟨rfl, h⟩; have H3 := Lib.hid h; clear h)
    | (with_reducible refine (J2 _).mono ?_; rintro e w4 ⟨rfl, rfl⟩)
    | (with_reducible refine (KN _ _ H3.out).mono ?_; clear H3; rintro e w4 ⟨rfl, h⟩; have H3 := Lib.hid h; clear h; clear c1 c2; obtain ⟨c1, c2⟩ := HD.out _ H3.out)
    | (refine (KR.out _ _ (H3.out.alloc _)).mono ?_; clear H3 KR; rintro e w5 ⟨rfl, h⟩; have H3 := Lib.hid h; clear h; obtain ⟨c1, c2⟩ := HD.out _ H3.out))
  have h := H3.out.drew
  clear H3
  refine wp_region_text [1] (fun w' => w'.cell? ⟨w2.heap.size, 0, none⟩ = some (.int .i64 id)) (by kernel_rfl) ?_ (fun hS => ?_)
  · exact (HD.out _ h).2
  refine gp 0 (some 100) ?_
  refine gl 1 (some 101) ?_
  refine gp 2 (some 102) ?_
  refine gp 3 (some 2) ?_
  refine gp 4 (some 3) ?_
  refine gp 5 (some 4) ?_
  refine gp 6 (some 5) ?_
  refine gp 7 (some 6) ?_
  refine wpAnyG_done (by kernel_rfl) ?_ _
  refine NoPanic.normal ?_
  go_wp2_with fail
  (try simp only [Exit.inBlock, Exit.then])
  refine bodyPost_ret (results_tmp5 rfl _ _ _) rfl ?_
  exact ⟨rfl, h.drop.drop⟩
end
end Go.Proofs.YtabibfabieghpaaGreatDoor
namespace Go.Proofs.YtabibfabieghpaaGreatDoor
open Go.RowKit
theorem note_xreads {a b : Int} {s : ByteArray} (h : noteR a b = (s, 0)) : s.size = 16 ∧ xnumV (s.extract 0 8) = a ∧ xnumV (s.extract 8 14) = b := by
  unfold noteR at h
  by_cases hm : noteMay a b
  · rw [if_pos hm] at h
    injection h with h1 _
    obtain ⟨⟨a1, a2⟩, b1, b2⟩ := hm
    have e1 : s.extract 0 8 = ⟨(byN 8 a.toNat).toArray⟩ := by
      have h2 := ext_mid [] (byN 8 a.toNat) (byN 6 b.toNat ++ [0, 0])
      simp only [List.nil_append, List.length_nil, Nat.zero_add, byN_len, ← List.append_assoc] at h2
      rw [← h1]
      exact h2
    have e2 : s.extract 8 14 = ⟨(byN 6 b.toNat).toArray⟩ := by
      have h2 := ext_mid (byN 8 a.toNat) (byN 6 b.toNat) [0, 0]
      simp only [byN_len] at h2
      rw [← h1]
      exact h2
    refine ⟨?_, ?_, ?_⟩
    · rw [← h1]
      unfold noteV
      rw [fl_size, List.length_append, List.length_append, byN_len, byN_len]
      rfl
    · rw [e1, xnum_byN 8 a.toNat (by omega) (by omega) (by show a.toNat < 256 ^ 8; omega) (by omega)]; omega
    · rw [e2, xnum_byN 6 b.toNat (by omega) (by omega) (by show b.toNat < 256 ^ 6; omega) (by omega)]; omega
  · rw [if_neg hm] at h
    injection h with _ h2
    cases h2
section
variable {E : World} {L : List Hp}
set_option maxRecDepth 20000 in
set_option maxHeartbeats 4000000 in
theorem xparsenote_any (s : ByteArray) (w : World) (h : Own E w L) :
    Calls Tryz.prog 56 #[.string s] w fun ev w' => ((∃ a b : Int, ev = .returned (.tuple #[.int .i64 a, .int .i64 b, .int .i64 0]) ∧ noteR a b = (s, 0)) ∨ (ev = .returned (.tuple #[.int .i64 0, .int .i64 0, .int .i64 141]) ∧ ∀ a b : Int, noteR a b ≠ (s, 0))) ∧ Own E w' L := by
  have H := Lib.hid h
  by_cases h16 : s.size = 16
  · obtain ⟨t1, e1⟩ : ∃ t, s.extract 0 8 = t := ⟨_, rfl⟩
    obtain ⟨t2, e2⟩ : ∃ t, s.extract 8 14 = t := ⟨_, rfl⟩
    obtain ⟨a, ha⟩ : ∃ a, a = xnumV t1 := ⟨_, rfl⟩
    obtain ⟨b, hb⟩ : ∃ b, b = xnumV t2 := ⟨_, rfl⟩
    have z1 : t1.size ≤ 1000000000000000 := by rw [← e1, ByteArray.size_extract]; omega
    have z2 : t2.size ≤ 1000000000000000 := by rw [← e2, ByteArray.size_extract]; omega
    have HNO : Hid (∀ x y : Int, noteR x y = (s, 0) → x = a ∧ y = b) := Lib.hid fun x y hr => by
      obtain ⟨-, y1, y2⟩ := note_xreads hr
      rw [e1] at y1
      rw [e2] at y2
      rw [ha, hb]
      exact ⟨y1.symm, y2.symm⟩
    have K1 : Hid (∀ (wq : World) (M : List Hp), Own E wq M → Calls Tryz.prog 110 #[.string t1] wq fun e w' => e = .returned (.int .i64 a) ∧ Own E w' M) := Lib.hid fun wq M h => by rw [ha]; exact xnumber_any t1 wq z1 h
    have K2 : Hid (∀ (wq : World) (M : List Hp), Own E wq M → Calls Tryz.prog 110 #[.string t2] wq fun e w' => e = .returned (.int .i64 b) ∧ Own E w' M) := Lib.hid fun wq M h => by rw [hb]; exact xnumber_any t2 wq z2 h
    obtain ⟨t, er, hr⟩ : ∃ t er, noteR a b = (t, er) := ⟨_, _, rfl⟩
    have KP : Hid (∀ (wq : World) (M : List Hp), Own E wq M → Calls Tryz.prog 26 #[.int .i64 a, .int .i64 b] wq fun e w' => e = .returned (.tuple #[.string t, .int .i64 er]) ∧ Own E w' M) := Lib.hid fun wq M h => by
      have hh := xprintnote_any a b wq h
      rw [hr] at hh
      exact hh
    have HR := Lib.hid hr
    have i0 : (s.size : Int) = 16 := by omega
    clear h ha hb z1 z2 hr
    by_cases he : er = 0
    · subst he
      by_cases hx : t = s
      · have q1 : (t.toList == s.toList) = true := by rw [beq_str, decide_eq_true hx]
        have q2 : (t.toList != s.toList) = false := by rw [bne, q1]; rfl
        have HX := Lib.hid hx
        clear hx
        go_enter Tryz.func56, Tryz.ntmps56
        go_wp2_with (first
          | (with_reducible refine (K1.out _ _ H.out).mono ?_; clear K1 H; rintro e w2 ⟨rfl, h⟩; have H := Lib.hid h; clear h)
          | (with_reducible refine (K2.out _ _ H.out).mono ?_; clear K2 H; rintro e w2 ⟨rfl, h⟩; have H := Lib.hid h; clear h)
          | (with_reducible refine (KP.out _ _ H.out).mono ?_; clear KP H; rintro e w2 ⟨rfl, h⟩; have H := Lib.hid h; clear h))
        go_ret3
        exact ⟨.inl ⟨a, b, rfl, by rw [HR.out, HX.out]⟩, H.out⟩
      · have q1 : (t.toList == s.toList) = false := by rw [beq_str, decide_eq_false hx]
        have q2 : (t.toList != s.toList) = true := by rw [bne, q1]; rfl
        have HN : Hid (∀ x y : Int, noteR x y ≠ (s, 0)) := Lib.hid fun x y hr => by
          obtain ⟨rfl, rfl⟩ := HNO.out x y hr
          rw [HR.out] at hr
          injection hr with hr _
          exact hx hr
        clear hx
        go_enter Tryz.func56, Tryz.ntmps56
        go_wp2_with (first
          | (with_reducible refine (K1.out _ _ H.out).mono ?_; clear K1 H; rintro e w2 ⟨rfl, h⟩; have H := Lib.hid h; clear h)
          | (with_reducible refine (K2.out _ _ H.out).mono ?_; clear K2 H; rintro e w2 ⟨rfl, h⟩; have H := Lib.hid h; clear h)
          | (with_reducible refine (KP.out _ _ H.out).mono ?_; clear KP H; rintro e w2 ⟨rfl, h⟩; have H := Lib.hid h; clear h))
        go_ret3
        exact ⟨.inr ⟨rfl, HN.out⟩, H.out⟩
    · have q0 : (er != 0) = true := by rw [bne_iff_ne]; exact he
      have HN : Hid (∀ x y : Int, noteR x y ≠ (s, 0)) := Lib.hid fun x y hr => by
        obtain ⟨rfl, rfl⟩ := HNO.out x y hr
        rw [HR.out] at hr
        injection hr with _ hr
        exact he hr
      clear he
      go_enter Tryz.func56, Tryz.ntmps56
      go_wp2_with (first
        | (with_reducible refine (K1.out _ _ H.out).mono ?_; clear K1 H; rintro e w2 ⟨rfl, h⟩; have H := Lib.hid h; clear h)
        | (with_reducible refine (K2.out _ _ H.out).mono ?_; clear K2 H; rintro e w2 ⟨rfl, h⟩; have H := Lib.hid h; clear h)
        | (with_reducible refine (KP.out _ _ H.out).mono ?_; clear KP H; rintro e w2 ⟨rfl, h⟩; have H := Lib.hid h; clear h))
      go_ret3
      exact ⟨.inr ⟨rfl, HN.out⟩, H.out⟩
  · have HN : Hid (∀ x y : Int, noteR x y ≠ (s, 0)) := Lib.hid fun x y hr => h16 (note_xreads hr).1
    have i0 : ¬ (s.size : Int) = 16 := by omega
    clear h h16
    go_enter Tryz.func56, Tryz.ntmps56
    go_wp2_with fail
    go_ret3
    exact ⟨.inr ⟨rfl, HN.out⟩, H.out⟩
end
end Go.Proofs.YtabibfabieghpaaGreatDoor
namespace Go.Proofs.YtabibfabieghpaaGreatDoor
open Go.RowKit
theorem iv_mod (k a b : Nat) : byN k (a * 256 ^ k + b) = byN k b := by
  induction k generalizing a with
  | zero => rfl
  | succ k ih =>
    show UInt8.ofNat ((a * 256 ^ (k + 1) + b) / 256 ^ k) :: byN k (a * 256 ^ (k + 1) + b) = UInt8.ofNat (b / 256 ^ k) :: byN k b
    have e : a * 256 ^ (k + 1) + b = (a * 256) * 256 ^ k + b := by rw [Nat.pow_succ, Nat.mul_comm (256 ^ k) 256, Nat.mul_assoc]
    rw [e, ih]
    congr 1
    have h2 : ((a * 256) * 256 ^ k + b) / 256 ^ k = a * 256 + b / 256 ^ k := by
      rw [Nat.mul_comm (a * 256), Nat.mul_add_div (Nat.pow_pos (by omega))]
    rw [h2]
    refine UInt8.toNat_inj.1 ?_
    rw [UInt8.toNat_ofNat', UInt8.toNat_ofNat']
    omega
theorem iv_num (l : List UInt8) : byN l.length (numL l) = l := by
  induction l with
  | nil => rfl
  | cons c m ih =>
    rw [numL_cons]
    show UInt8.ofNat ((c.toNat * 256 ^ m.length + numL m) / 256 ^ m.length) :: byN m.length (c.toNat * 256 ^ m.length + numL m) = c :: m
    rw [iv_mod, ih, Nat.mul_comm, Nat.mul_add_div (Nat.pow_pos (by omega)), Nat.div_eq_of_lt (numL_lt m), Nat.add_zero]
    congr 1
    exact UInt8.ofNat_toNat
def okK : Fk → Prop
  | .num k => 1 ≤ k ∧ k ≤ 8
  | _ => True
theorem readF_wrong (k : Fk) (s : ByteArray) (e : Int) (he : e ≠ 0) : (readF k s e).2.2 = e := by
  cases k with
  | num k => show (rNum s e k).2.2 = e; unfold rNum; rw [if_pos he]
  | text => show (rText s e 255).2.2 = e; unfold rText; rw [if_pos he]
  | raw k => show (rRaw s e k).2.2 = e; unfold rRaw; rw [if_pos he]
theorem readL_wrong : ∀ (ks : List Fk) (s : ByteArray) (e : Int), e ≠ 0 → (readL ks s e).2.2 = e
  | [], _, _, _ => rfl
  | k :: ks, s, e, he => by
    show (readL ks (readF k s e).2.1 (readF k s e).2.2).2.2 = e
    rw [readF_wrong k s e he, readL_wrong ks _ e he]
theorem readF_inv (k : Fk) (hk : okK k) (s : ByteArray) (h : (readF k s 0).2.2 = 0) : s.data.toList = bytesF (k, (readF k s 0).1) ++ (readF k s 0).2.1.data.toList ∧ fits1 (k, (readF k s 0).1) := by
  have hl : s.data.toList.length = s.size := rfl
  cases k with
  | num k =>
    obtain ⟨h1, h8⟩ : 1 ≤ k ∧ k ≤ 8 := hk
    have h : (rNum s 0 k).2.2 = 0 := h
    unfold rNum at h
    rw [if_neg (by omega), if_neg (by omega)] at h
    by_cases hs : (s.size : Int) < k
    · rw [if_pos hs] at h; cases h
    rw [if_neg hs] at h
    by_cases hb : 9223372036854775808 ≤ numL (s.data.toList.take ((k : Int)).toNat)
    · rw [if_pos hb] at h; cases h
    have e : readF (.num k) s 0 = (.n ((numL (s.data.toList.take k) : Nat)), restB s k, 0) := by
      show ((.n (rNum s 0 k).1, (rNum s 0 k).2) : Fv × ByteArray × Int) = _
      unfold rNum
      rw [if_neg (by omega), if_neg (by omega), if_neg hs, if_neg hb]
      rfl
    rw [e]
    have hb : ¬ 9223372036854775808 ≤ numL (s.data.toList.take k) := hb
    have ht : (s.data.toList.take k).length = k := by rw [List.length_take]; omega
    have hn := numL_lt (s.data.toList.take k)
    rw [ht] at hn
    constructor
    · show _ = byN k ((numL (s.data.toList.take k) : Nat) : Int).toNat ++ (restB s k).data.toList
      rw [rest_data, Int.toNat_natCast]
      have e2 := iv_num (s.data.toList.take k)
      rw [ht] at e2
      rw [e2, List.take_append_drop]
    · refine ⟨h1, h8, by omega, ?_, by omega⟩
      have : ((256 : Int) ^ k) = ((256 ^ k : Nat) : Int) := (Int.natCast_pow 256 k).symm
      rw [this]
      omega
  | text =>
    have h : (rText s 0 255).2.2 = 0 := h
    have a1 : ahead (255 : Int).toNat = 1 := rfl
    have a2 : (255 : Int).toNat = 255 := rfl
    unfold rText at h
    rw [if_neg (by omega), if_neg (by omega), a1, a2] at h
    by_cases hs : s.size < 1
    · rw [if_pos hs] at h; cases h
    rw [if_neg hs] at h
    by_cases hb : 255 < numL (s.data.toList.take 1)
    · rw [if_pos hb] at h; cases h
    rw [if_neg hb] at h
    by_cases hc : s.size < 1 + numL (s.data.toList.take 1)
    · rw [if_pos hc] at h; cases h
    obtain ⟨q, hq⟩ : ∃ q, q = numL (s.data.toList.take 1) := ⟨_, rfl⟩
    have e : readF .text s 0 = (.s (restB (frontB s (1 + q)) 1), restB s (1 + q), 0) := by
      show ((.s (rText s 0 255).1, (rText s 0 255).2) : Fv × ByteArray × Int) = _
      unfold rText
      rw [if_neg (by omega), if_neg (by omega), a1, a2, if_neg hs, if_neg hb, if_neg hc, ← hq]
    rw [e]
    rw [← hq] at hb hc
    have ht : (s.data.toList.take 1).length = 1 := by rw [List.length_take]; omega
    have e2 := iv_num (s.data.toList.take 1)
    rw [ht, ← hq] at e2
    have ed : (restB (frontB s (1 + q)) 1).data.toList = (s.data.toList.drop 1).take q := by
      rw [rest_data, front_data, List.drop_take]
      rw [show 1 + q - 1 = q by omega]
    have es : (restB (frontB s (1 + q)) 1).size = q := by
      have : (restB (frontB s (1 + q)) 1).data.toList.length = (restB (frontB s (1 + q)) 1).size := rfl
      rw [← this, ed, List.length_take, List.length_drop]; omega
    constructor
    · show _ = (byN 1 (restB (frontB s (1 + q)) 1).size ++ (restB (frontB s (1 + q)) 1).data.toList) ++ (restB s (1 + q)).data.toList
      rw [es, e2, ed, rest_data, List.append_assoc, ← List.drop_drop, List.take_append_drop, List.take_append_drop]
    · show (restB (frontB s (1 + q)) 1).size ≤ 255
      rw [es]; omega
  | raw k =>
    have h : (rRaw s 0 k).2.2 = 0 := h
    unfold rRaw at h
    rw [if_neg (by omega), if_neg (by omega)] at h
    by_cases hs : (s.size : Int) < k
    · rw [if_pos hs] at h; cases h
    have e : readF (.raw k) s 0 = (.s (frontB s k), restB s k, 0) := by
      show ((.s (rRaw s 0 k).1, (rRaw s 0 k).2) : Fv × ByteArray × Int) = _
      unfold rRaw
      rw [if_neg (by omega), if_neg (by omega), if_neg hs]
      rfl
    rw [e]
    constructor
    · show _ = (frontB s k).data.toList ++ (restB s k).data.toList
      rw [rest_data, front_data, List.take_append_drop]
    · show (frontB s k).size = k
      have : (frontB s k).data.toList.length = (frontB s k).size := rfl
      rw [← this, front_data, List.length_take]; omega
theorem readL_inv : ∀ (ks : List Fk) (s : ByteArray), (∀ k ∈ ks, okK k) → rDone (readL ks s 0).2.1 (readL ks s 0).2.2 = 0 → s.data.toList = (ks.zip (readL ks s 0).1).flatMap bytesF ∧ ∀ f ∈ ks.zip (readL ks s 0).1, fits1 f
  | [], s, _, h => by
    have h : rDone s 0 = 0 := h
    unfold rDone at h
    rw [if_neg (by omega)] at h
    by_cases hs : s.size = 0
    · have hl : s.data.toList.length = s.size := rfl
      exact ⟨List.eq_nil_of_length_eq_zero (by omega), fun f hf => by cases hf⟩
    · rw [if_neg hs] at h; cases h
  | k :: ks, s, hk, h => by
    have h : rDone (readL ks (readF k s 0).2.1 (readF k s 0).2.2).2.1 (readL ks (readF k s 0).2.1 (readF k s 0).2.2).2.2 = 0 := h
    by_cases he : (readF k s 0).2.2 = 0
    · obtain ⟨h1, h2⟩ := readF_inv k (hk k (List.mem_cons_self ..)) s he
      rw [he] at h
      obtain ⟨h3, h4⟩ := readL_inv ks _ (fun x hx => hk x (List.mem_cons_of_mem _ hx)) h
      have e : (readL (k :: ks) s 0).1 = (readF k s 0).1 :: (readL ks (readF k s 0).2.1 0).1 := by
        show (readF k s 0).1 :: (readL ks (readF k s 0).2.1 (readF k s 0).2.2).1 = _
        rw [he]
      rw [e, List.zip_cons_cons]
      constructor
      · rw [List.flatMap_cons, ← h3]; exact h1
      · intro f hf
        rcases List.mem_cons.1 hf with rfl | hf
        · exact h2
        · exact h4 f hf
    · exfalso
      unfold rDone at h
      rw [readL_wrong ks _ _ he, if_pos he] at h
      exact he h
theorem readV_inv {ks : List Fk} {s : ByteArray} {vs : List Fv} (hk : ∀ k ∈ ks, okK k) (h : readV ks s = (vs, true)) : s.data.toList = (ks.zip vs).flatMap bytesF ∧ ∀ f ∈ ks.zip vs, fits1 f := by
  unfold readV at h
  injection h with h1 h2
  have h3 := readL_inv ks s hk (of_decide_eq_true h2)
  rw [h1] at h3
  exact h3
end Go.Proofs.YtabibfabieghpaaGreatDoor
