/- record.member, record.ParseIndex, of any pair: an entry that is right is read as that, every other pair is refused (printed by gen_idx3.py). -/
import Derived.Test.YtabibfabieghpaaGreatDoorPkz0
import Derived.Test.YtabibfabieghpaaGreatDoorPkz14
namespace Go.Proofs.YtabibfabieghpaaGreatDoor
open Go.RowKit
theorem iv_two {k1 k2 : Nat} {s : ByteArray} {a b : Int} (h1 : 1 ≤ k1 ∧ k1 ≤ 8) (h2 : 1 ≤ k2 ∧ k2 ≤ 8) (h : readV [.num k1, .num k2] s = ([.n a, .n b], true)) : s = ⟨(byN k1 a.toNat ++ byN k2 b.toNat).toArray⟩ := by
  have h3 := (readV_inv (ks := [.num k1, .num k2]) (fun k hk => by
    simp only [List.mem_cons, List.not_mem_nil, or_false] at hk
    rcases hk with rfl | rfl
    · exact h1
    · exact h2) h).1
  have h4 : s.data.toList = byN k1 a.toNat ++ (byN k2 b.toNat ++ []) := h3
  rw [List.append_nil] at h4
  exact fl_mk _ h4
theorem iv_one {k1 : Nat} {s : ByteArray} {a : Int} (h1 : 1 ≤ k1 ∧ k1 ≤ 8) (h : readV [.num k1] s = ([.n a], true)) : s = ⟨(byN k1 a.toNat).toArray⟩ := by
  have h3 := (readV_inv (ks := [.num k1]) (fun k hk => by
    simp only [List.mem_cons, List.not_mem_nil, or_false] at hk
    rcases hk with rfl
    exact h1) h).1
  have h4 : s.data.toList = byN k1 a.toNat ++ [] := h3
  rw [List.append_nil] at h4
  exact fl_mk _ h4
theorem index_low : ∀ l : List UInt8, -1 ≤ Lib.indexByte l 0
  | [] => by show (-1 : Int) ≤ -1; omega
  | x :: l => by
    have := index_low l
    unfold Lib.indexByte
    split
    · omega
    split
    · omega
    · omega
theorem cut_at : ∀ (l : List UInt8) (i : Nat), Lib.indexByte l 0 = (i : Int) → l = l.take i ++ 0 :: l.drop (i + 1) ∧ (∀ x ∈ l.take i, x ≠ 0) ∧ i < l.length
  | [], i, h => by
    have : (-1 : Int) = i := h
    omega
  | x :: l, i, h => by
    have hlow := index_low l
    unfold Lib.indexByte at h
    by_cases hx : x = 0
    · rw [if_pos (by simp [hx])] at h
      obtain rfl : i = 0 := by omega
      refine ⟨by rw [hx]; rfl, fun y hy => (by cases hy), by rw [List.length_cons]; omega⟩
    · rw [if_neg (by simpa using hx)] at h
      by_cases hn : Lib.indexByte l 0 = -1
      · rw [if_pos (by simp [hn])] at h
        omega
      · rw [if_neg (by simpa using hn)] at h
        obtain ⟨j, hj⟩ : ∃ j : Nat, Lib.indexByte l 0 = j := ⟨(Lib.indexByte l 0).toNat, by omega⟩
        have e : i = j + 1 := by omega
        obtain ⟨h1, h2, h3⟩ := cut_at l j hj
        rw [e]
        refine ⟨?_, fun y hy => ?_, by rw [List.length_cons]; omega⟩
        · show x :: l = x :: (l.take j ++ 0 :: l.drop (j + 1))
          rw [← h1]
        · rcases List.mem_cons.1 (show y ∈ x :: l.take j from hy) with rfl | hy
          · exact hx
          · exact h2 y hy
/-- An entry that is right, and what it tells. -/
def IdxR (k v : ByteArray) (t : ByteArray × Int × Int × ByteArray) : Prop :=
  (∃ a b c : Int, (1 ≤ a ∧ a ≤ 4611686018427387904) ∧ (1 ≤ b ∧ b ≤ 4611686018427387904) ∧ (1 ≤ c ∧ c ≤ 1073741824) ∧ k = ofK b c ∧ v = ofV a ∧ t = (⟨#[109]⟩, c, b, ofV a)) ∨
  (∃ fin id : Int, (0 ≤ fin ∧ fin ≤ 1099511627776) ∧ (1 ≤ id ∧ id ≤ 4611686018427387904) ∧ k = exK fin id ∧ v = noB ∧ t = (⟨#[120]⟩, fin, id, ⟨#[]⟩)) ∨
  (∃ (su : ByteArray) (id : Int), nameB su = true ∧ (1 ≤ id ∧ id ≤ 4611686018427387904) ∧ k = suK su id ∧ v = noB ∧ t = (⟨#[115]⟩, 0, id, su))
section
variable {E : World} {L : List Hp}
theorem idxbad_any (w : World) : Calls Tryz.prog 86 #[] w fun e w' => e = .returned (.tuple #[.string ⟨#[]⟩, .int .i64 0, .int .i64 0, .string ⟨#[]⟩, .int .i64 141]) ∧ w = w' := by
  go_enter Tryz.func86, Tryz.ntmps86
  go_wp2_with fail
  (try simp only [Exit.inBlock, Exit.then])
  refine bodyPost_ret (results_tmp5 rfl _ _ _) rfl ?_
  exact ⟨rfl, rfl⟩
theorem rd2 (bb x y k1 k2 : Nat) (a b : Int) (ok : Bool) (p q : Value) (s : ByteArray) (w : World) (hs : s.size ≤ 1000000000000000) (hr : readV [.num k1, .num k2] s = ([.n a, .n b], ok)) (hG : Laid0 E L)
    (h : Own E w (Hp.blk bb FT (([(.num k1, ⟨x, 0, none⟩), (.num k2, ⟨y, 0, none⟩)] : List (Fk × Addr)).flatMap enF).toArray :: Hp.blk x I64 #[p] :: Hp.blk y I64 #[q] :: L)) :
    Calls Tryz.prog 67 #[.slice (some ⟨bb, 0, none⟩) 2 2, .string s] w fun e w' => e = .returned (.bool ok) ∧ Own E w' (Hp.blk x I64 #[.int .i64 a] :: Hp.blk y I64 #[.int .i64 b] :: L) := by
  have h4 : Own E w (Hp.blk bb FT (([(.num k1, ⟨x, 0, none⟩), (.num k2, ⟨y, 0, none⟩)] : List (Fk × Addr)).flatMap enF).toArray :: two x y [p, q] :: L) := (Own.sep2.2 h.f2.f2).f1
  have hh := read_blk (E := E) bb 2 [(.num k1, ⟨x, 0, none⟩), (.num k2, ⟨y, 0, none⟩)] s (two x y) [p, q] w rfl (by omega) hs (places_two _ _) rfl hG h4
  rw [show ([(.num k1, ⟨x, 0, none⟩), (.num k2, ⟨y, 0, none⟩)] : List (Fk × Addr)).map (·.1) = [.num k1, .num k2] from rfl, hr] at hh
  refine hh.mono ?_
  rintro e w' ⟨rfl, h⟩
  exact ⟨rfl, Own.sep2.1 h⟩
theorem rd1 (bb x k1 : Nat) (a : Int) (ok : Bool) (p : Value) (s : ByteArray) (w : World) (hs : s.size ≤ 1000000000000000) (hr : readV [.num k1] s = ([.n a], ok)) (hG : Laid0 E L)
    (h : Own E w (Hp.blk bb FT (([(.num k1, ⟨x, 0, none⟩)] : List (Fk × Addr)).flatMap enF).toArray :: Hp.blk x I64 #[p] :: L)) :
    Calls Tryz.prog 67 #[.slice (some ⟨bb, 0, none⟩) 1 1, .string s] w fun e w' => e = .returned (.bool ok) ∧ Own E w' (Hp.blk x I64 #[.int .i64 a] :: L) := by
  have hh := read_blk (E := E) bb 1 [(.num k1, ⟨x, 0, none⟩)] s (fun vs => Hp.blk x I64 vs.toArray) [p] w rfl (by omega) hs (places_one x _) rfl hG h
  rw [show ([(.num k1, ⟨x, 0, none⟩)] : List (Fk × Addr)).map (·.1) = [.num k1] from rfl, hr] at hh
  exact hh
set_option maxRecDepth 20000 in
set_option maxHeartbeats 4000000 in
/-- record.member, of what is none. -/
theorem member_no (k v : ByteArray) (w : World) (hk : k.size ≤ 1000000000000000) (hv : v.size ≤ 1000000000000000) (hno : ∀ a b c : Int, (1 ≤ a ∧ a ≤ 4611686018427387904) → (1 ≤ b ∧ b ≤ 4611686018427387904) → (1 ≤ c ∧ c ≤ 1073741824) → k = ⟨(byN 8 b.toNat ++ byN 4 c.toNat).toArray⟩ → v = ofV a → False) (hG : Laid0 E L) (h : Own E w L) :
    Calls Tryz.prog 87 #[.string k, .string v] w fun e w' => ∃ x y : Int, e = .returned (.tuple #[.int .i64 x, .int .i64 y, .bool false]) ∧ Own E w' L := by
  have h1 := h.alloc (.cells #[.int .i64 0] I64)
  have h2 := h1.alloc (.cells #[.int .i64 0] I64)
  have h3 := h2.alloc (.cells #[.int .i64 0] I64)
  rw [alloc_size, alloc_size] at h3
  have H3 := Lib.hid (show Own E _ (Hp.blk w.heap.size I64 #[.int .i64 0] :: Hp.blk (w.heap.size + 1) I64 #[.int .i64 0] :: Hp.blk (w.heap.size + 1 + 1) I64 #[.int .i64 0] :: L) from h3.f1.f2)
  obtain ⟨b, c, ok, r1⟩ : ∃ b c ok, readV [.num 8, .num 4] k = ([.n b, .n c], ok) := ⟨_, _, _, rfl⟩
  obtain ⟨a, ok2, r2⟩ : ∃ a ok2, readV [.num 8] v = ([.n a], ok2) := ⟨_, _, rfl⟩
  have HNO : Hid (ok = true → ok2 = true → (1 ≤ a ∧ a ≤ 4611686018427387904) → (1 ≤ b ∧ b ≤ 4611686018427387904) → (1 ≤ c ∧ c ≤ 1073741824) → False) := Lib.hid fun e1 e2 x1 x2 x3 => by
    rw [e1] at r1
    rw [e2] at r2
    exact hno a b c x1 x2 x3 (iv_two (by omega) (by omega) r1) (iv_one (by omega) r2)
  have KR1 : Hid (∀ (bb : Nat) (w3 : World), Own E w3 (Hp.blk bb FT (([(.num 8, ⟨w.heap.size, 0, none⟩), (.num 4, ⟨(w.heap.size + 1), 0, none⟩)] : List (Fk × Addr)).flatMap enF).toArray :: Hp.blk w.heap.size I64 #[.int .i64 0] :: Hp.blk (w.heap.size + 1) I64 #[.int .i64 0] :: Hp.blk (w.heap.size + 1 + 1) I64 #[.int .i64 0] :: L) → Calls Tryz.prog 67 #[.slice (some ⟨bb, 0, none⟩) 2 2, .string k] w3 fun e w' => e = .returned (.bool ok) ∧ Own E w' (Hp.blk w.heap.size I64 #[.int .i64 b] :: Hp.blk (w.heap.size + 1) I64 #[.int .i64 c] :: Hp.blk (w.heap.size + 1 + 1) I64 #[.int .i64 0] :: L)) := Lib.hid fun bb w3 h3 => rd2 bb _ _ 8 4 b c ok _ _ k w3 hk r1 hG.cons h3
  have KR2 : Hid (∀ (bb : Nat) (w3 : World), Own E w3 (Hp.blk bb FT (([(.num 8, ⟨(w.heap.size + 1 + 1), 0, none⟩)] : List (Fk × Addr)).flatMap enF).toArray :: Hp.blk w.heap.size I64 #[.int .i64 b] :: Hp.blk (w.heap.size + 1) I64 #[.int .i64 c] :: Hp.blk (w.heap.size + 1 + 1) I64 #[.int .i64 0] :: L) → Calls Tryz.prog 67 #[.slice (some ⟨bb, 0, none⟩) 1 1, .string v] w3 fun e w' => e = .returned (.bool ok2) ∧ Own E w' (Hp.blk w.heap.size I64 #[.int .i64 b] :: Hp.blk (w.heap.size + 1) I64 #[.int .i64 c] :: Hp.blk (w.heap.size + 1 + 1) I64 #[.int .i64 a] :: L)) := Lib.hid fun bb w3 h3 => (rd1 bb _ 8 a ok2 _ v w3 hv r2 hG.cons.cons h3.f3.f1).mono fun e w' he => ⟨he.1, he.2.f2.f2⟩
  have K1 := fun (wq : World) (M : List Hp) (h : Own E wq M) => fnum_any (E := E) (L := M) 8 ⟨w.heap.size, 0, none⟩ wq h
  have K2 := fun (wq : World) (M : List Hp) (h : Own E wq M) => fnum_any (E := E) (L := M) 4 ⟨(w.heap.size + 1), 0, none⟩ wq h
  have K3 := fun (wq : World) (M : List Hp) (h : Own E wq M) => fnum_any (E := E) (L := M) 8 ⟨(w.heap.size + 1 + 1), 0, none⟩ wq h
  simp only [enF, show ((8 : Nat) : Int) = 8 from rfl, show ((4 : Nat) : Int) = 4 from rfl] at K1 K2 K3
  have J1 := fun w => isid_any b w
  have J2 := fun w => isgen_any c w
  have J3 := fun w => isid_any a w
  have HC : Hid (∀ (q : Int) w', Own E w' (Hp.blk w.heap.size I64 #[.int .i64 b] :: Hp.blk (w.heap.size + 1) I64 #[.int .i64 c] :: Hp.blk (w.heap.size + 1 + 1) I64 #[.int .i64 q] :: L) → w'.cell? ⟨w.heap.size, 0, none⟩ = some (.int .i64 b) ∧ w'.cell? ⟨(w.heap.size + 1), 0, none⟩ = some (.int .i64 c) ∧ w'.cell? ⟨(w.heap.size + 1 + 1), 0, none⟩ = some (.int .i64 q)) := Lib.hid fun q w' h => ⟨(h.cell 0).trans rfl, (h.f1.cell 0).trans rfl, (h.f2.cell 0).trans rfl⟩
  clear h h1 h2 h3 hG r1 r2 hk hv hno
  cases ok with
  | false =>
    go_enter Tryz.func87, Tryz.ntmps87
    go_wp2_with (first
      | (with_reducible refine (K1 _ _ H3.out).mono ?_; clear H3; rintro e w2 ⟨rfl, h⟩; have H3 := Lib.hid h; clear h)
      | (with_reducible refine (K2 _ _ H3.out).mono ?_; clear H3; rintro e w2 ⟨rfl, h⟩; have H3 := Lib.hid h; clear h)
      | (refine (KR1.out _ _ (H3.out.alloc _)).mono ?_; clear H3 KR1; rintro e w2 ⟨rfl, h⟩; have H3 := Lib.hid h; clear h))
    have h := H3.out.drew
    clear H3
    refine wp_region_text [0, 1] (fun w' => w'.cell? ⟨w.heap.size, 0, none⟩ = some (.int .i64 b) ∧ w'.cell? ⟨(w.heap.size + 1), 0, none⟩ = some (.int .i64 c) ∧ w'.cell? ⟨(w.heap.size + 1 + 1), 0, none⟩ = some (.int .i64 0)) (by kernel_rfl) ?_ (fun hS => ?_)
    · exact HC.out _ _ h
    refine gl 0 (some 22) ?_
    refine gl 1 (some 23) ?_
    refine gp 2 (some 24) ?_
    refine gp 3 (some 25) ?_
    refine gs 4 (some 26) ?_
    refine gs 5 (some 27) ?_
    refine gp 6 (some 28) ?_
    refine gp 7 (some 29) ?_
    refine gs 8 (some 30) ?_
    refine gs 9 (some 31) ?_
    refine gp 10 (some 32) ?_
    refine gp 11 (some 33) ?_
    refine gs 12 (some 34) ?_
    refine gs 13 (some 35) ?_
    refine gp 14 (some 36) ?_
    refine gp 15 (some 4) ?_
    refine gp 16 (some 5) ?_
    refine gp 17 (some 6) ?_
    refine wpAnyG_done (by kernel_rfl) ?_ _
    refine NoPanic.normal ?_
    go_wp2_with fail
    go_ret3
    exact ⟨_, _, rfl, h.drop.drop.drop⟩
  | true =>
    cases ok2 with
    | false =>
      go_enter Tryz.func87, Tryz.ntmps87
      go_wp2_with (first
        | (with_reducible refine (K1 _ _ H3.out).mono ?_; clear H3; rintro e w2 ⟨rfl, h⟩; have H3 := Lib.hid h; clear h)
        | (with_reducible refine (K2 _ _ H3.out).mono ?_; clear H3; rintro e w2 ⟨rfl, h⟩; have H3 := Lib.hid h; clear h)
        | (with_reducible refine (K3 _ _ H3.out).mono ?_; clear H3; rintro e w2 ⟨rfl, h⟩; have H3 := Lib.hid h; clear h)
        | (refine (KR1.out _ _ (H3.out.alloc _)).mono ?_; clear H3 KR1; rintro e w2 ⟨rfl, h⟩; have H3 := Lib.hid h; clear h)
        | (refine (KR2.out _ _ (H3.out.alloc _)).mono ?_; clear H3 KR2; rintro e w2 ⟨rfl, h⟩; have H3 := Lib.hid h; clear h))
      have h := H3.out.drew
      clear H3
      refine wp_region_text [0, 1] (fun w' => w'.cell? ⟨w.heap.size, 0, none⟩ = some (.int .i64 b) ∧ w'.cell? ⟨(w.heap.size + 1), 0, none⟩ = some (.int .i64 c) ∧ w'.cell? ⟨(w.heap.size + 1 + 1), 0, none⟩ = some (.int .i64 a)) (by kernel_rfl) ?_ (fun hS => ?_)
      · exact HC.out _ _ h
      refine gl 0 (some 22) ?_
      refine gl 1 (some 23) ?_
      refine gp 2 (some 24) ?_
      refine gp 3 (some 25) ?_
      refine gs 4 (some 26) ?_
      refine gs 5 (some 27) ?_
      refine gp 6 (some 28) ?_
      refine gp 7 (some 29) ?_
      refine gs 8 (some 30) ?_
      refine gs 9 (some 31) ?_
      refine gp 10 (some 32) ?_
      refine gp 11 (some 33) ?_
      refine gs 12 (some 34) ?_
      refine gs 13 (some 35) ?_
      refine gp 14 (some 36) ?_
      refine gp 15 (some 4) ?_
      refine gp 16 (some 5) ?_
      refine gp 17 (some 6) ?_
      refine wpAnyG_done (by kernel_rfl) ?_ _
      refine NoPanic.normal ?_
      go_wp2_with fail
      go_ret3
      exact ⟨_, _, rfl, h.drop.drop.drop⟩
    | true =>
      by_cases hb : 1 ≤ b ∧ b ≤ 4611686018427387904
      · rw [decide_eq_true hb] at J1
        by_cases hc : 1 ≤ c ∧ c ≤ 1073741824
        · rw [decide_eq_true hc] at J2
          have ha : ¬ (1 ≤ a ∧ a ≤ 4611686018427387904) := fun ha => HNO.out rfl rfl ha hb hc
          rw [decide_eq_false ha] at J3
          clear ha hb hc
          go_enter Tryz.func87, Tryz.ntmps87
          go_wp2_with (first
            | (with_reducible refine (K1 _ _ H3.out).mono ?_; clear H3; rintro e w2 ⟨rfl, h⟩; have H3 := Lib.hid h; clear h)
            | (with_reducible refine (K2 _ _ H3.out).mono ?_; clear H3; rintro e w2 ⟨rfl, h⟩; have H3 := Lib.hid h; clear h)
            | (with_reducible refine (K3 _ _ H3.out).mono ?_; clear H3; rintro e w2 ⟨rfl, h⟩; have H3 := Lib.hid h; clear h)
            | (refine (KR1.out _ _ (H3.out.alloc _)).mono ?_; clear H3 KR1; rintro e w2 ⟨rfl, h⟩; have H3 := Lib.hid h; clear h)
            | (refine (KR2.out _ _ (H3.out.alloc _)).mono ?_; clear H3 KR2; rintro e w2 ⟨rfl, h⟩; have H3 := Lib.hid h; clear h))
          have h := H3.out.drew
          clear H3
          refine wp_region_text [0, 1, 4, 8, 12] (fun w' => w'.cell? ⟨w.heap.size, 0, none⟩ = some (.int .i64 b) ∧ w'.cell? ⟨(w.heap.size + 1), 0, none⟩ = some (.int .i64 c) ∧ w'.cell? ⟨(w.heap.size + 1 + 1), 0, none⟩ = some (.int .i64 a)) (by kernel_rfl) ?_ (fun hS => ?_)
          · exact HC.out _ _ h
          refine gl 0 (some 22) ?_
          refine gl 1 (some 23) ?_
          refine gp 2 (some 24) ?_
          refine gp 3 (some 25) ?_
          refine gl 4 (some 26) ?_
          refine gk 5 (some 27) (fun K hK => ?_)
          rw [if_pos (by rfl)]
          go_simp
          refine (J1 _).mono ?_
          rintro e w7 ⟨rfl, rfl⟩
          refine hK.out _ _ ?_ (fun hS => ?_)
          · exact HC.out _ _ h
          clear hK K
          try simp only [Act.put, List.setIfInBounds_toArray, List.set_cons_zero, List.set_cons_succ]
          refine gp 6 (some 28) ?_
          refine gp 7 (some 29) ?_
          refine gl 8 (some 30) ?_
          refine gk 9 (some 31) (fun K hK => ?_)
          rw [if_pos (by rfl)]
          go_simp
          refine (J2 _).mono ?_
          rintro e w7 ⟨rfl, rfl⟩
          refine hK.out _ _ ?_ (fun hS => ?_)
          · exact HC.out _ _ h
          clear hK K
          try simp only [Act.put, List.setIfInBounds_toArray, List.set_cons_zero, List.set_cons_succ]
          refine gp 10 (some 32) ?_
          refine gp 11 (some 33) ?_
          refine gl 12 (some 34) ?_
          refine gk 13 (some 35) (fun K hK => ?_)
          rw [if_pos (by rfl)]
          go_simp
          refine (J3 _).mono ?_
          rintro e w7 ⟨rfl, rfl⟩
          refine hK.out _ _ ?_ (fun hS => ?_)
          · exact HC.out _ _ h
          clear hK K
          try simp only [Act.put, List.setIfInBounds_toArray, List.set_cons_zero, List.set_cons_succ]
          refine gp 14 (some 36) ?_
          refine gp 15 (some 4) ?_
          refine gp 16 (some 5) ?_
          refine gp 17 (some 6) ?_
          refine wpAnyG_done (by kernel_rfl) ?_ _
          refine NoPanic.normal ?_
          go_wp2_with fail
          go_ret3
          exact ⟨_, _, rfl, h.drop.drop.drop⟩
        · rw [decide_eq_false hc] at J2
          clear hb hc
          go_enter Tryz.func87, Tryz.ntmps87
          go_wp2_with (first
            | (with_reducible refine (K1 _ _ H3.out).mono ?_; clear H3; rintro e w2 ⟨rfl, h⟩; have H3 := Lib.hid h; clear h)
            | (with_reducible refine (K2 _ _ H3.out).mono ?_; clear H3; rintro e w2 ⟨rfl, h⟩; have H3 := Lib.hid h; clear h)
            | (with_reducible refine (K3 _ _ H3.out).mono ?_; clear H3; rintro e w2 ⟨rfl, h⟩; have H3 := Lib.hid h; clear h)
            | (refine (KR1.out _ _ (H3.out.alloc _)).mono ?_; clear H3 KR1; rintro e w2 ⟨rfl, h⟩; have H3 := Lib.hid h; clear h)
            | (refine (KR2.out _ _ (H3.out.alloc _)).mono ?_; clear H3 KR2; rintro e w2 ⟨rfl, h⟩; have H3 := Lib.hid h; clear h))
          have h := H3.out.drew
          clear H3
          refine wp_region_text [0, 1, 4, 8] (fun w' => w'.cell? ⟨w.heap.size, 0, none⟩ = some (.int .i64 b) ∧ w'.cell? ⟨(w.heap.size + 1), 0, none⟩ = some (.int .i64 c) ∧ w'.cell? ⟨(w.heap.size + 1 + 1), 0, none⟩ = some (.int .i64 a)) (by kernel_rfl) ?_ (fun hS => ?_)
          · exact HC.out _ _ h
          refine gl 0 (some 22) ?_
          refine gl 1 (some 23) ?_
          refine gp 2 (some 24) ?_
          refine gp 3 (some 25) ?_
          refine gl 4 (some 26) ?_
          refine gk 5 (some 27) (fun K hK => ?_)
          rw [if_pos (by rfl)]
          go_simp
          refine (J1 _).mono ?_
          rintro e w7 ⟨rfl, rfl⟩
          refine hK.out _ _ ?_ (fun hS => ?_)
          · exact HC.out _ _ h
          clear hK K
          try simp only [Act.put, List.setIfInBounds_toArray, List.set_cons_zero, List.set_cons_succ]
          refine gp 6 (some 28) ?_
          refine gp 7 (some 29) ?_
          refine gl 8 (some 30) ?_
          refine gk 9 (some 31) (fun K hK => ?_)
          rw [if_pos (by rfl)]
          go_simp
          refine (J2 _).mono ?_
          rintro e w7 ⟨rfl, rfl⟩
          refine hK.out _ _ ?_ (fun hS => ?_)
          · exact HC.out _ _ h
          clear hK K
          try simp only [Act.put, List.setIfInBounds_toArray, List.set_cons_zero, List.set_cons_succ]
          refine gp 10 (some 32) ?_
          refine gp 11 (some 33) ?_
          refine gs 12 (some 34) ?_
          refine gs 13 (some 35) ?_
          refine gp 14 (some 36) ?_
          refine gp 15 (some 4) ?_
          refine gp 16 (some 5) ?_
          refine gp 17 (some 6) ?_
          refine wpAnyG_done (by kernel_rfl) ?_ _
          refine NoPanic.normal ?_
          go_wp2_with fail
          go_ret3
          exact ⟨_, _, rfl, h.drop.drop.drop⟩
      · rw [decide_eq_false hb] at J1
        clear hb
        go_enter Tryz.func87, Tryz.ntmps87
        go_wp2_with (first
          | (with_reducible refine (K1 _ _ H3.out).mono ?_; clear H3; rintro e w2 ⟨rfl, h⟩; have H3 := Lib.hid h; clear h)
          | (with_reducible refine (K2 _ _ H3.out).mono ?_; clear H3; rintro e w2 ⟨rfl, h⟩; have H3 := Lib.hid h; clear h)
          | (with_reducible refine (K3 _ _ H3.out).mono ?_; clear H3; rintro e w2 ⟨rfl, h⟩; have H3 := Lib.hid h; clear h)
          | (refine (KR1.out _ _ (H3.out.alloc _)).mono ?_; clear H3 KR1; rintro e w2 ⟨rfl, h⟩; have H3 := Lib.hid h; clear h)
          | (refine (KR2.out _ _ (H3.out.alloc _)).mono ?_; clear H3 KR2; rintro e w2 ⟨rfl, h⟩; have H3 := Lib.hid h; clear h))
        have h := H3.out.drew
        clear H3
        refine wp_region_text [0, 1, 4] (fun w' => w'.cell? ⟨w.heap.size, 0, none⟩ = some (.int .i64 b) ∧ w'.cell? ⟨(w.heap.size + 1), 0, none⟩ = some (.int .i64 c) ∧ w'.cell? ⟨(w.heap.size + 1 + 1), 0, none⟩ = some (.int .i64 a)) (by kernel_rfl) ?_ (fun hS => ?_)
        · exact HC.out _ _ h
        refine gl 0 (some 22) ?_
        refine gl 1 (some 23) ?_
        refine gp 2 (some 24) ?_
        refine gp 3 (some 25) ?_
        refine gl 4 (some 26) ?_
        refine gk 5 (some 27) (fun K hK => ?_)
        rw [if_pos (by rfl)]
        go_simp
        refine (J1 _).mono ?_
        rintro e w7 ⟨rfl, rfl⟩
        refine hK.out _ _ ?_ (fun hS => ?_)
        · exact HC.out _ _ h
        clear hK K
        try simp only [Act.put, List.setIfInBounds_toArray, List.set_cons_zero, List.set_cons_succ]
        refine gp 6 (some 28) ?_
        refine gp 7 (some 29) ?_
        refine gs 8 (some 30) ?_
        refine gs 9 (some 31) ?_
        refine gp 10 (some 32) ?_
        refine gp 11 (some 33) ?_
        refine gs 12 (some 34) ?_
        refine gs 13 (some 35) ?_
        refine gp 14 (some 36) ?_
        refine gp 15 (some 4) ?_
        refine gp 16 (some 5) ?_
        refine gp 17 (some 6) ?_
        refine wpAnyG_done (by kernel_rfl) ?_ _
        refine NoPanic.normal ?_
        go_wp2_with fail
        go_ret3
        exact ⟨_, _, rfl, h.drop.drop.drop⟩
set_option maxHeartbeats 2000000 in
theorem pidx_none (k v : ByteArray) (w : World) (hk : k.size = 0) (h : Own E w L) : Calls Tryz.prog 31 #[.agg #[.string k, .string v]] w fun e w' => e = .returned (.tuple #[.string ⟨#[]⟩, .int .i64 0, .int .i64 0, .string ⟨#[]⟩, .int .i64 141]) ∧ Own E w' L := by
  have H1 := Lib.hid (h.alloc (.cells #[.string k, .string v] ITT))
  have e3 : k.toList.isEmpty = true := by rw [isEmpty_size, decide_eq_true hk]
  have KB := fun w => idxbad_any w
  clear h
  go_enter Tryz.func31, Tryz.ntmps31
  go_wp2_with (with_reducible refine (KB _).mono ?_; rintro e w2 ⟨rfl, rfl⟩)
  (try simp only [Exit.inBlock, Exit.then])
  refine bodyPost_ret (results_tmp5 rfl _ _ _) rfl ?_
  exact ⟨rfl, H1.out.drop⟩
set_option maxHeartbeats 4000000 in
theorem pidx_other (t : UInt8) (R : List UInt8) (v : ByteArray) (w : World) (ht1 : t ≠ 109) (ht2 : t ≠ 120) (ht3 : t ≠ 115) (h : Own E w L) : Calls Tryz.prog 31 #[.agg #[.string ⟨(t :: R).toArray⟩, .string v]] w fun e w' => e = .returned (.tuple #[.string ⟨#[]⟩, .int .i64 0, .int .i64 0, .string ⟨#[]⟩, .int .i64 141]) ∧ Own E w' L := by
  obtain ⟨k, hk⟩ : ∃ k : ByteArray, k = ⟨(t :: R).toArray⟩ := ⟨_, rfl⟩
  obtain ⟨lt, hlt⟩ : ∃ lt : ByteArray, lt = ⟨#[t]⟩ := ⟨_, rfl⟩
  obtain ⟨r, hrr⟩ : ∃ r : ByteArray, r = ⟨R.toArray⟩ := ⟨_, rfl⟩
  have e1 : k.extract 0 1 = lt := by
    rw [hk, hlt]
    exact ext_head _ _
  have e2 : k.extract 1 k.size = r := by
    rw [hk, hrr]
    exact ext_tail _ _
  have e4 : 1 ≤ k.size := by
    rw [hk, fl_size, List.length_cons]
    omega
  have e3 : k.toList.isEmpty = false := by
    rw [isEmpty_size]
    exact decide_eq_false (by omega)
  have i1 : (1 : Int) ≤ (k.size : Int) := by omega
  have l1 : (lt.toList == [109]) = false := by
    rw [hlt, ByteArray.toList_eq]
    show ([t] == [(109 : UInt8)]) = false
    rw [beq_eq_false_iff_ne]
    intro hx
    injection hx with hx
    exact ht1 hx
  have l2 : (lt.toList == [120]) = false := by
    rw [hlt, ByteArray.toList_eq]
    show ([t] == [(120 : UInt8)]) = false
    rw [beq_eq_false_iff_ne]
    intro hx
    injection hx with hx
    exact ht2 hx
  have l3 : (lt.toList == [115]) = false := by
    rw [hlt, ByteArray.toList_eq]
    show ([t] == [(115 : UInt8)]) = false
    rw [beq_eq_false_iff_ne]
    intro hx
    injection hx with hx
    exact ht3 hx
  rw [← hk]
  have h1 := h.alloc (.cells #[.string k, .string v] ITT)
  have HC : Hid (∀ w', Own E w' (Hp.blk w.heap.size ITT #[.string k, .string v] :: L) → w'.cell? ⟨w.heap.size, 0, none⟩ = some (.string k)) := Lib.hid fun w' h => (h.cell 0).trans rfl
  have HD : Hid (∀ w', Own E w' (Hp.blk w.heap.size ITT #[.string k, .string v] :: L) → w'.cell? ⟨w.heap.size, 1, none⟩ = some (.string v)) := Lib.hid fun w' h => (h.cell 1).trans rfl
  have KB := fun w => idxbad_any w
  have H1 := Lib.hid h1
  clear hk hlt hrr h h1
  go_enter Tryz.func31, Tryz.ntmps31
  go_wp2_with fail
  have h := H1.out.drew
  clear H1
  refine wp_region_text [1, 4] (fun w' => w'.cell? ⟨w.heap.size, 0, none⟩ = some (.string k)) (by kernel_rfl) ?_ (fun hS => ?_)
  · exact HC.out _ h
  refine gp 0 (some 29) ?_
  refine gm 1 (some 30) (.string k) ?_ ?_
  · intro w hS
    go_simp
  refine gq 2 (some 31) (.string lt) ?_ ?_
  · intro w
    go_simp; first | done | (intro hx; exact absurd hx (by omega))
  refine gp 3 (some 32) ?_
  refine gm 4 (some 33) (.string k) ?_ ?_
  · intro w hS
    go_simp
  refine gq 5 (some 34) (.string r) ?_ ?_
  · intro w
    go_simp; first | done | (intro hx; exact absurd hx (by omega))
  refine gp 6 (some 8) ?_
  refine gp 7 (some 9) ?_
  refine wpAnyG_done (by kernel_rfl) ?_ _
  refine NoPanic.normal ?_
  go_wp2_with (with_reducible refine (KB _).mono ?_; rintro e w2 ⟨rfl, rfl⟩)
  (try simp only [Exit.inBlock, Exit.then])
  refine bodyPost_ret (results_tmp5 rfl _ _ _) rfl ?_
  exact ⟨rfl, h.drop⟩
set_option maxHeartbeats 4000000 in
theorem pidx_mno (R : List UInt8) (v : ByteArray) (w : World) (hR : R.length ≤ 1000000000000000) (hv : v.size ≤ 1000000000000000) (hno : ∀ t, ¬ IdxR ⟨(109 :: R).toArray⟩ v t) (hG : Laid0 E L) (h : Own E w L) : Calls Tryz.prog 31 #[.agg #[.string ⟨(109 :: R).toArray⟩, .string v]] w fun e w' => e = .returned (.tuple #[.string ⟨#[]⟩, .int .i64 0, .int .i64 0, .string ⟨#[]⟩, .int .i64 141]) ∧ Own E w' L := by
  have KM := fun (wq : World) (M : List Hp) (hG : Laid0 E M) (h : Own E wq M) => member_no ⟨R.toArray⟩ v wq (by rw [fl_size]; exact hR) hv (fun a b c x1 x2 x3 y1 y2 => hno _ (.inl ⟨a, b, c, x1, x2, x3, by
    have : R = byN 8 b.toNat ++ byN 4 c.toNat := by
      have := congrArg (fun x => x.data.toList) y1
      simpa using this
    rw [this]; rfl, y2, rfl⟩)) hG h
  obtain ⟨k, hk⟩ : ∃ k : ByteArray, k = ⟨(109 :: R).toArray⟩ := ⟨_, rfl⟩
  obtain ⟨lt, hlt⟩ : ∃ lt : ByteArray, lt = ⟨#[109]⟩ := ⟨_, rfl⟩
  obtain ⟨r, hrr⟩ : ∃ r : ByteArray, r = ⟨R.toArray⟩ := ⟨_, rfl⟩
  have e1 : k.extract 0 1 = lt := by
    rw [hk, hlt]
    exact ext_head _ _
  have e2 : k.extract 1 k.size = r := by
    rw [hk, hrr]
    exact ext_tail _ _
  have e4 : 1 ≤ k.size := by
    rw [hk, fl_size, List.length_cons]
    omega
  have e3 : k.toList.isEmpty = false := by
    rw [isEmpty_size]
    exact decide_eq_false (by omega)
  have i1 : (1 : Int) ≤ (k.size : Int) := by omega
  have l1 : (lt.toList == [109]) = true := by rw [hlt, ByteArray.toList_eq]; rfl
  have l2 : (lt.toList == [120]) = false := by rw [hlt, ByteArray.toList_eq]; rfl
  have l3 : (lt.toList == [115]) = false := by rw [hlt, ByteArray.toList_eq]; rfl
  rw [← hk]
  have h1 := h.alloc (.cells #[.string k, .string v] ITT)
  have HC : Hid (∀ w', Own E w' (Hp.blk w.heap.size ITT #[.string k, .string v] :: L) → w'.cell? ⟨w.heap.size, 0, none⟩ = some (.string k)) := Lib.hid fun w' h => (h.cell 0).trans rfl
  have HD : Hid (∀ w', Own E w' (Hp.blk w.heap.size ITT #[.string k, .string v] :: L) → w'.cell? ⟨w.heap.size, 1, none⟩ = some (.string v)) := Lib.hid fun w' h => (h.cell 1).trans rfl
  have KB := fun w => idxbad_any w
  have H1 := Lib.hid h1
  rw [← hrr] at KM
  have HG := Lib.hid hG
  clear hk hlt hrr h h1 hG hno hR hv
  go_enter Tryz.func31, Tryz.ntmps31
  go_wp2_with fail
  have h := H1.out.drew
  clear H1
  refine wp_region_text [1, 4] (fun w' => w'.cell? ⟨w.heap.size, 0, none⟩ = some (.string k)) (by kernel_rfl) ?_ (fun hS => ?_)
  · exact HC.out _ h
  refine gp 0 (some 29) ?_
  refine gm 1 (some 30) (.string k) ?_ ?_
  · intro w hS
    go_simp
  refine gq 2 (some 31) (.string lt) ?_ ?_
  · intro w
    go_simp; first | done | (intro hx; exact absurd hx (by omega))
  refine gp 3 (some 32) ?_
  refine gm 4 (some 33) (.string k) ?_ ?_
  · intro w hS
    go_simp
  refine gq 5 (some 34) (.string r) ?_ ?_
  · intro w
    go_simp; first | done | (intro hx; exact absurd hx (by omega))
  refine gp 6 (some 8) ?_
  refine gp 7 (some 9) ?_
  refine wpAnyG_done (by kernel_rfl) ?_ _
  refine NoPanic.normal ?_
  have d1 := HD.out _ h
  have KM2 := KM _ _ HG.out.cons h
  clear KM h
  go_wp2_with (first
    | (refine KM2.mono ?_; clear KM2; rintro e w5 ⟨x, y, rfl, h⟩; have H5 := Lib.hid h; clear h)
    | (with_reducible refine (KB _).mono ?_; rintro e w2 ⟨rfl, rfl⟩))
  (try simp only [Exit.inBlock, Exit.then])
  refine bodyPost_ret (results_tmp5 rfl _ _ _) rfl ?_
  exact ⟨rfl, H5.out.drop⟩
set_option maxRecDepth 20000 in
set_option maxHeartbeats 8000000 in
theorem pidx_xno (R : List UInt8) (v : ByteArray) (w : World) (hR : R.length ≤ 1000000000000000) (hno : ∀ t, ¬ IdxR ⟨(120 :: R).toArray⟩ v t) (hG : Laid0 E L) (h : Own E w L) : Calls Tryz.prog 31 #[.agg #[.string ⟨(120 :: R).toArray⟩, .string v]] w fun e w' => e = .returned (.tuple #[.string ⟨#[]⟩, .int .i64 0, .int .i64 0, .string ⟨#[]⟩, .int .i64 141]) ∧ Own E w' L := by
  obtain ⟨fin, id, ok, hr⟩ : ∃ fin id ok, readV [.num 6, .num 8] ⟨R.toArray⟩ = ([.n fin, .n id], ok) := ⟨_, _, _, rfl⟩
  have HNO : Hid (ok = true → v.size = 0 → (0 ≤ fin ∧ fin ≤ 1099511627776) → (1 ≤ id ∧ id ≤ 4611686018427387904) → False) := Lib.hid fun e1 e2 x1 x2 => by
    rw [e1] at hr
    have y := iv_two (by omega) (by omega) hr
    have : R = byN 6 fin.toNat ++ byN 8 id.toNat := by
      have := congrArg (fun x => x.data.toList) y
      simpa using this
    refine hno _ (.inr (.inl ⟨fin, id, x1, x2, by rw [this]; rfl, ?_, rfl⟩))
    obtain ⟨⟨l⟩⟩ := v
    have hl : l.length = 0 := e2
    rw [List.eq_nil_of_length_eq_zero hl]
    rfl
  have J1 := fun w => istime_any fin w
  have J2 := fun w => isid_any id w
  obtain ⟨k, hk⟩ : ∃ k : ByteArray, k = ⟨(120 :: R).toArray⟩ := ⟨_, rfl⟩
  obtain ⟨lt, hlt⟩ : ∃ lt : ByteArray, lt = ⟨#[120]⟩ := ⟨_, rfl⟩
  obtain ⟨r, hrr⟩ : ∃ r : ByteArray, r = ⟨R.toArray⟩ := ⟨_, rfl⟩
  have e1 : k.extract 0 1 = lt := by
    rw [hk, hlt]
    exact ext_head _ _
  have e2 : k.extract 1 k.size = r := by
    rw [hk, hrr]
    exact ext_tail _ _
  have e4 : 1 ≤ k.size := by
    rw [hk, fl_size, List.length_cons]
    omega
  have e3 : k.toList.isEmpty = false := by
    rw [isEmpty_size]
    exact decide_eq_false (by omega)
  have i1 : (1 : Int) ≤ (k.size : Int) := by omega
  have l1 : (lt.toList == [109]) = false := by rw [hlt, ByteArray.toList_eq]; rfl
  have l2 : (lt.toList == [120]) = true := by rw [hlt, ByteArray.toList_eq]; rfl
  have l3 : (lt.toList == [115]) = false := by rw [hlt, ByteArray.toList_eq]; rfl
  rw [← hk]
  have h1 := h.alloc (.cells #[.string k, .string v] ITT)
  have HC : Hid (∀ w', Own E w' (Hp.blk w.heap.size ITT #[.string k, .string v] :: L) → w'.cell? ⟨w.heap.size, 0, none⟩ = some (.string k)) := Lib.hid fun w' h => (h.cell 0).trans rfl
  have HD : Hid (∀ w', Own E w' (Hp.blk w.heap.size ITT #[.string k, .string v] :: L) → w'.cell? ⟨w.heap.size, 1, none⟩ = some (.string v)) := Lib.hid fun w' h => (h.cell 1).trans rfl
  have KB := fun w => idxbad_any w
  have H1 := Lib.hid h1
  rw [← hrr] at hr
  have HG := Lib.hid hG
  have HR := Lib.hid hr
  have HZ := Lib.hid (show r.size ≤ 1000000000000000 by rw [hrr, fl_size]; exact hR)
  clear hk hlt hrr h h1 hG hno hR hr
  cases ok with
  | false =>
    go_enter Tryz.func31, Tryz.ntmps31
    go_wp2_with fail
    have h := H1.out.drew
    clear H1
    refine wp_region_text [1, 4] (fun w' => w'.cell? ⟨w.heap.size, 0, none⟩ = some (.string k)) (by kernel_rfl) ?_ (fun hS => ?_)
    · exact HC.out _ h
    refine gp 0 (some 29) ?_
    refine gm 1 (some 30) (.string k) ?_ ?_
    · intro w hS
      go_simp
    refine gq 2 (some 31) (.string lt) ?_ ?_
    · intro w
      go_simp; first | done | (intro hx; exact absurd hx (by omega))
    refine gp 3 (some 32) ?_
    refine gm 4 (some 33) (.string k) ?_ ?_
    · intro w hS
      go_simp
    refine gq 5 (some 34) (.string r) ?_ ?_
    · intro w
      go_simp; first | done | (intro hx; exact absurd hx (by omega))
    refine gp 6 (some 8) ?_
    refine gp 7 (some 9) ?_
    refine wpAnyG_done (by kernel_rfl) ?_ _
    refine NoPanic.normal ?_
    generalize (w.alloc (.cells #[.string k, .string v] ITT)).drew = w2 at *
    have h2 := h.alloc (.cells #[.int .i64 0] I64)
    have h3 := h2.alloc (.cells #[.int .i64 0] I64)
    rw [alloc_size] at h3
    have H3 := Lib.hid (show Own E _ (Hp.blk w2.heap.size I64 #[.int .i64 0] :: Hp.blk (w2.heap.size + 1) I64 #[.int .i64 0] :: Hp.blk w.heap.size ITT #[.string k, .string v] :: L) from h3.f1)
    have KR : Hid (∀ (bb : Nat) (w3 : World), Own E w3 (Hp.blk bb FT (([(.num 6, ⟨w2.heap.size, 0, none⟩), (.num 8, ⟨(w2.heap.size + 1), 0, none⟩)] : List (Fk × Addr)).flatMap enF).toArray :: Hp.blk w2.heap.size I64 #[.int .i64 0] :: Hp.blk (w2.heap.size + 1) I64 #[.int .i64 0] :: Hp.blk w.heap.size ITT #[.string k, .string v] :: L) → Calls Tryz.prog 67 #[.slice (some ⟨bb, 0, none⟩) 2 2, .string r] w3 fun e w' => e = .returned (.bool false) ∧ Own E w' (Hp.blk w2.heap.size I64 #[.int .i64 fin] :: Hp.blk (w2.heap.size + 1) I64 #[.int .i64 id] :: Hp.blk w.heap.size ITT #[.string k, .string v] :: L)) := Lib.hid fun bb w3 h3 => rd2 bb _ _ 6 8 fin id false _ _ r w3 HZ.out HR.out HG.out.cons h3
    have K1 := fun (wq : World) (M : List Hp) (h : Own E wq M) => fnum_any (E := E) (L := M) 6 ⟨w2.heap.size, 0, none⟩ wq h
    have K2 := fun (wq : World) (M : List Hp) (h : Own E wq M) => fnum_any (E := E) (L := M) 8 ⟨(w2.heap.size + 1), 0, none⟩ wq h
    simp only [enF, show ((8 : Nat) : Int) = 8 from rfl, show ((6 : Nat) : Int) = 6 from rfl] at K1 K2
    have HQ : Hid (∀ w', Own E w' (Hp.blk w2.heap.size I64 #[.int .i64 fin] :: Hp.blk (w2.heap.size + 1) I64 #[.int .i64 id] :: Hp.blk w.heap.size ITT #[.string k, .string v] :: L) → w'.cell? ⟨w.heap.size, 1, none⟩ = some (.string v) ∧ w'.cell? ⟨w2.heap.size, 0, none⟩ = some (.int .i64 fin) ∧ w'.cell? ⟨(w2.heap.size + 1), 0, none⟩ = some (.int .i64 id)) := Lib.hid fun w' h => ⟨(h.f2.cell 1).trans rfl, (h.cell 0).trans rfl, (h.f1.cell 0).trans rfl⟩
    clear h h2 h3 HC HD
    go_wp2_with (first
      | (with_reducible refine (K1 _ _ H3.out).mono ?_; clear H3; rintro e w4 ⟨rfl, h⟩; have H3 := Lib.hid h; clear h)
      | (with_reducible refine (K2 _ _ H3.out).mono ?_; clear H3; rintro e w4 ⟨rfl, h⟩; have H3 := Lib.hid h; clear h)
      | (with_reducible refine (KB _).mono ?_; rintro e w2 ⟨rfl, rfl⟩)
      | (refine (KR.out _ _ (H3.out.alloc _)).mono ?_; clear H3 KR; rintro e w5 ⟨rfl, h⟩; have H3 := Lib.hid h; clear h; obtain ⟨c1, c2, c3⟩ := HQ.out _ H3.out))
    (try simp only [Exit.inBlock, Exit.then])
    refine bodyPost_ret (results_tmp5 rfl _ _ _) rfl ?_
    exact ⟨rfl, H3.out.drop.drop.drop⟩
  | true =>
    by_cases hv : v.size = 0
    · have v1 : v.toList.isEmpty = true := by rw [isEmpty_size, decide_eq_true hv]
      by_cases hf : 0 ≤ fin ∧ fin ≤ 1099511627776
      · have hi : ¬ (1 ≤ id ∧ id ≤ 4611686018427387904) := fun hi => HNO.out rfl hv hf hi
        rw [decide_eq_true hf] at J1
        rw [decide_eq_false hi] at J2
        clear hf hi hv
        go_enter Tryz.func31, Tryz.ntmps31
        go_wp2_with fail
        have h := H1.out.drew
        clear H1
        refine wp_region_text [1, 4] (fun w' => w'.cell? ⟨w.heap.size, 0, none⟩ = some (.string k)) (by kernel_rfl) ?_ (fun hS => ?_)
        · exact HC.out _ h
        refine gp 0 (some 29) ?_
        refine gm 1 (some 30) (.string k) ?_ ?_
        · intro w hS
          go_simp
        refine gq 2 (some 31) (.string lt) ?_ ?_
        · intro w
          go_simp; first | done | (intro hx; exact absurd hx (by omega))
        refine gp 3 (some 32) ?_
        refine gm 4 (some 33) (.string k) ?_ ?_
        · intro w hS
          go_simp
        refine gq 5 (some 34) (.string r) ?_ ?_
        · intro w
          go_simp; first | done | (intro hx; exact absurd hx (by omega))
        refine gp 6 (some 8) ?_
        refine gp 7 (some 9) ?_
        refine wpAnyG_done (by kernel_rfl) ?_ _
        refine NoPanic.normal ?_
        generalize (w.alloc (.cells #[.string k, .string v] ITT)).drew = w2 at *
        have h2 := h.alloc (.cells #[.int .i64 0] I64)
        have h3 := h2.alloc (.cells #[.int .i64 0] I64)
        rw [alloc_size] at h3
        have H3 := Lib.hid (show Own E _ (Hp.blk w2.heap.size I64 #[.int .i64 0] :: Hp.blk (w2.heap.size + 1) I64 #[.int .i64 0] :: Hp.blk w.heap.size ITT #[.string k, .string v] :: L) from h3.f1)
        have KR : Hid (∀ (bb : Nat) (w3 : World), Own E w3 (Hp.blk bb FT (([(.num 6, ⟨w2.heap.size, 0, none⟩), (.num 8, ⟨(w2.heap.size + 1), 0, none⟩)] : List (Fk × Addr)).flatMap enF).toArray :: Hp.blk w2.heap.size I64 #[.int .i64 0] :: Hp.blk (w2.heap.size + 1) I64 #[.int .i64 0] :: Hp.blk w.heap.size ITT #[.string k, .string v] :: L) → Calls Tryz.prog 67 #[.slice (some ⟨bb, 0, none⟩) 2 2, .string r] w3 fun e w' => e = .returned (.bool true) ∧ Own E w' (Hp.blk w2.heap.size I64 #[.int .i64 fin] :: Hp.blk (w2.heap.size + 1) I64 #[.int .i64 id] :: Hp.blk w.heap.size ITT #[.string k, .string v] :: L)) := Lib.hid fun bb w3 h3 => rd2 bb _ _ 6 8 fin id true _ _ r w3 HZ.out HR.out HG.out.cons h3
        have K1 := fun (wq : World) (M : List Hp) (h : Own E wq M) => fnum_any (E := E) (L := M) 6 ⟨w2.heap.size, 0, none⟩ wq h
        have K2 := fun (wq : World) (M : List Hp) (h : Own E wq M) => fnum_any (E := E) (L := M) 8 ⟨(w2.heap.size + 1), 0, none⟩ wq h
        simp only [enF, show ((8 : Nat) : Int) = 8 from rfl, show ((6 : Nat) : Int) = 6 from rfl] at K1 K2
        have HQ : Hid (∀ w', Own E w' (Hp.blk w2.heap.size I64 #[.int .i64 fin] :: Hp.blk (w2.heap.size + 1) I64 #[.int .i64 id] :: Hp.blk w.heap.size ITT #[.string k, .string v] :: L) → w'.cell? ⟨w.heap.size, 1, none⟩ = some (.string v) ∧ w'.cell? ⟨w2.heap.size, 0, none⟩ = some (.int .i64 fin) ∧ w'.cell? ⟨(w2.heap.size + 1), 0, none⟩ = some (.int .i64 id)) := Lib.hid fun w' h => ⟨(h.f2.cell 1).trans rfl, (h.cell 0).trans rfl, (h.f1.cell 0).trans rfl⟩
        clear h h2 h3 HC HD
        go_wp2_with (first
          | (with_reducible refine (K1 _ _ H3.out).mono ?_; clear H3; rintro e w4 ⟨rfl, h⟩; have H3 := Lib.hid h; clear h)
          | (with_reducible refine (K2 _ _ H3.out).mono ?_; clear H3; rintro e w4 ⟨rfl, h⟩; have H3 := Lib.hid h; clear h)
          | (with_reducible refine (J1 _).mono ?_; rintro e w4 ⟨rfl, rfl⟩)
          | (with_reducible refine (J2 _).mono ?_; rintro e w4 ⟨rfl, rfl⟩)
          | (with_reducible refine (KB _).mono ?_; rintro e w2 ⟨rfl, rfl⟩)
          | (refine (KR.out _ _ (H3.out.alloc _)).mono ?_; clear H3 KR; rintro e w5 ⟨rfl, h⟩; have H3 := Lib.hid h; clear h; obtain ⟨c1, c2, c3⟩ := HQ.out _ H3.out))
        (try simp only [Exit.inBlock, Exit.then])
        refine bodyPost_ret (results_tmp5 rfl _ _ _) rfl ?_
        exact ⟨rfl, H3.out.drop.drop.drop⟩
      · rw [decide_eq_false hf] at J1
        clear hf hv
        go_enter Tryz.func31, Tryz.ntmps31
        go_wp2_with fail
        have h := H1.out.drew
        clear H1
        refine wp_region_text [1, 4] (fun w' => w'.cell? ⟨w.heap.size, 0, none⟩ = some (.string k)) (by kernel_rfl) ?_ (fun hS => ?_)
        · exact HC.out _ h
        refine gp 0 (some 29) ?_
        refine gm 1 (some 30) (.string k) ?_ ?_
        · intro w hS
          go_simp
        refine gq 2 (some 31) (.string lt) ?_ ?_
        · intro w
          go_simp; first | done | (intro hx; exact absurd hx (by omega))
        refine gp 3 (some 32) ?_
        refine gm 4 (some 33) (.string k) ?_ ?_
        · intro w hS
          go_simp
        refine gq 5 (some 34) (.string r) ?_ ?_
        · intro w
          go_simp; first | done | (intro hx; exact absurd hx (by omega))
        refine gp 6 (some 8) ?_
        refine gp 7 (some 9) ?_
        refine wpAnyG_done (by kernel_rfl) ?_ _
        refine NoPanic.normal ?_
        generalize (w.alloc (.cells #[.string k, .string v] ITT)).drew = w2 at *
        have h2 := h.alloc (.cells #[.int .i64 0] I64)
        have h3 := h2.alloc (.cells #[.int .i64 0] I64)
        rw [alloc_size] at h3
        have H3 := Lib.hid (show Own E _ (Hp.blk w2.heap.size I64 #[.int .i64 0] :: Hp.blk (w2.heap.size + 1) I64 #[.int .i64 0] :: Hp.blk w.heap.size ITT #[.string k, .string v] :: L) from h3.f1)
        have KR : Hid (∀ (bb : Nat) (w3 : World), Own E w3 (Hp.blk bb FT (([(.num 6, ⟨w2.heap.size, 0, none⟩), (.num 8, ⟨(w2.heap.size + 1), 0, none⟩)] : List (Fk × Addr)).flatMap enF).toArray :: Hp.blk w2.heap.size I64 #[.int .i64 0] :: Hp.blk (w2.heap.size + 1) I64 #[.int .i64 0] :: Hp.blk w.heap.size ITT #[.string k, .string v] :: L) → Calls Tryz.prog 67 #[.slice (some ⟨bb, 0, none⟩) 2 2, .string r] w3 fun e w' => e = .returned (.bool true) ∧ Own E w' (Hp.blk w2.heap.size I64 #[.int .i64 fin] :: Hp.blk (w2.heap.size + 1) I64 #[.int .i64 id] :: Hp.blk w.heap.size ITT #[.string k, .string v] :: L)) := Lib.hid fun bb w3 h3 => rd2 bb _ _ 6 8 fin id true _ _ r w3 HZ.out HR.out HG.out.cons h3
        have K1 := fun (wq : World) (M : List Hp) (h : Own E wq M) => fnum_any (E := E) (L := M) 6 ⟨w2.heap.size, 0, none⟩ wq h
        have K2 := fun (wq : World) (M : List Hp) (h : Own E wq M) => fnum_any (E := E) (L := M) 8 ⟨(w2.heap.size + 1), 0, none⟩ wq h
        simp only [enF, show ((8 : Nat) : Int) = 8 from rfl, show ((6 : Nat) : Int) = 6 from rfl] at K1 K2
        have HQ : Hid (∀ w', Own E w' (Hp.blk w2.heap.size I64 #[.int .i64 fin] :: Hp.blk (w2.heap.size + 1) I64 #[.int .i64 id] :: Hp.blk w.heap.size ITT #[.string k, .string v] :: L) → w'.cell? ⟨w.heap.size, 1, none⟩ = some (.string v) ∧ w'.cell? ⟨w2.heap.size, 0, none⟩ = some (.int .i64 fin) ∧ w'.cell? ⟨(w2.heap.size + 1), 0, none⟩ = some (.int .i64 id)) := Lib.hid fun w' h => ⟨(h.f2.cell 1).trans rfl, (h.cell 0).trans rfl, (h.f1.cell 0).trans rfl⟩
        clear h h2 h3 HC HD
        go_wp2_with (first
          | (with_reducible refine (K1 _ _ H3.out).mono ?_; clear H3; rintro e w4 ⟨rfl, h⟩; have H3 := Lib.hid h; clear h)
          | (with_reducible refine (K2 _ _ H3.out).mono ?_; clear H3; rintro e w4 ⟨rfl, h⟩; have H3 := Lib.hid h; clear h)
          | (with_reducible refine (J1 _).mono ?_; rintro e w4 ⟨rfl, rfl⟩)
          | (with_reducible refine (KB _).mono ?_; rintro e w2 ⟨rfl, rfl⟩)
          | (refine (KR.out _ _ (H3.out.alloc _)).mono ?_; clear H3 KR; rintro e w5 ⟨rfl, h⟩; have H3 := Lib.hid h; clear h; obtain ⟨c1, c2, c3⟩ := HQ.out _ H3.out))
        (try simp only [Exit.inBlock, Exit.then])
        refine bodyPost_ret (results_tmp5 rfl _ _ _) rfl ?_
        exact ⟨rfl, H3.out.drop.drop.drop⟩
    · have v1 : v.toList.isEmpty = false := by rw [isEmpty_size, decide_eq_false hv]
      clear hv
      go_enter Tryz.func31, Tryz.ntmps31
      go_wp2_with fail
      have h := H1.out.drew
      clear H1
      refine wp_region_text [1, 4] (fun w' => w'.cell? ⟨w.heap.size, 0, none⟩ = some (.string k)) (by kernel_rfl) ?_ (fun hS => ?_)
      · exact HC.out _ h
      refine gp 0 (some 29) ?_
      refine gm 1 (some 30) (.string k) ?_ ?_
      · intro w hS
        go_simp
      refine gq 2 (some 31) (.string lt) ?_ ?_
      · intro w
        go_simp; first | done | (intro hx; exact absurd hx (by omega))
      refine gp 3 (some 32) ?_
      refine gm 4 (some 33) (.string k) ?_ ?_
      · intro w hS
        go_simp
      refine gq 5 (some 34) (.string r) ?_ ?_
      · intro w
        go_simp; first | done | (intro hx; exact absurd hx (by omega))
      refine gp 6 (some 8) ?_
      refine gp 7 (some 9) ?_
      refine wpAnyG_done (by kernel_rfl) ?_ _
      refine NoPanic.normal ?_
      generalize (w.alloc (.cells #[.string k, .string v] ITT)).drew = w2 at *
      have h2 := h.alloc (.cells #[.int .i64 0] I64)
      have h3 := h2.alloc (.cells #[.int .i64 0] I64)
      rw [alloc_size] at h3
      have H3 := Lib.hid (show Own E _ (Hp.blk w2.heap.size I64 #[.int .i64 0] :: Hp.blk (w2.heap.size + 1) I64 #[.int .i64 0] :: Hp.blk w.heap.size ITT #[.string k, .string v] :: L) from h3.f1)
      have KR : Hid (∀ (bb : Nat) (w3 : World), Own E w3 (Hp.blk bb FT (([(.num 6, ⟨w2.heap.size, 0, none⟩), (.num 8, ⟨(w2.heap.size + 1), 0, none⟩)] : List (Fk × Addr)).flatMap enF).toArray :: Hp.blk w2.heap.size I64 #[.int .i64 0] :: Hp.blk (w2.heap.size + 1) I64 #[.int .i64 0] :: Hp.blk w.heap.size ITT #[.string k, .string v] :: L) → Calls Tryz.prog 67 #[.slice (some ⟨bb, 0, none⟩) 2 2, .string r] w3 fun e w' => e = .returned (.bool true) ∧ Own E w' (Hp.blk w2.heap.size I64 #[.int .i64 fin] :: Hp.blk (w2.heap.size + 1) I64 #[.int .i64 id] :: Hp.blk w.heap.size ITT #[.string k, .string v] :: L)) := Lib.hid fun bb w3 h3 => rd2 bb _ _ 6 8 fin id true _ _ r w3 HZ.out HR.out HG.out.cons h3
      have K1 := fun (wq : World) (M : List Hp) (h : Own E wq M) => fnum_any (E := E) (L := M) 6 ⟨w2.heap.size, 0, none⟩ wq h
      have K2 := fun (wq : World) (M : List Hp) (h : Own E wq M) => fnum_any (E := E) (L := M) 8 ⟨(w2.heap.size + 1), 0, none⟩ wq h
      simp only [enF, show ((8 : Nat) : Int) = 8 from rfl, show ((6 : Nat) : Int) = 6 from rfl] at K1 K2
      have HQ : Hid (∀ w', Own E w' (Hp.blk w2.heap.size I64 #[.int .i64 fin] :: Hp.blk (w2.heap.size + 1) I64 #[.int .i64 id] :: Hp.blk w.heap.size ITT #[.string k, .string v] :: L) → w'.cell? ⟨w.heap.size, 1, none⟩ = some (.string v) ∧ w'.cell? ⟨w2.heap.size, 0, none⟩ = some (.int .i64 fin) ∧ w'.cell? ⟨(w2.heap.size + 1), 0, none⟩ = some (.int .i64 id)) := Lib.hid fun w' h => ⟨(h.f2.cell 1).trans rfl, (h.cell 0).trans rfl, (h.f1.cell 0).trans rfl⟩
      clear h h2 h3 HC HD
      go_wp2_with (first
        | (with_reducible refine (K1 _ _ H3.out).mono ?_; clear H3; rintro e w4 ⟨rfl, h⟩; have H3 := Lib.hid h; clear h)
        | (with_reducible refine (K2 _ _ H3.out).mono ?_; clear H3; rintro e w4 ⟨rfl, h⟩; have H3 := Lib.hid h; clear h)
        | (with_reducible refine (KB _).mono ?_; rintro e w2 ⟨rfl, rfl⟩)
        | (refine (KR.out _ _ (H3.out.alloc _)).mono ?_; clear H3 KR; rintro e w5 ⟨rfl, h⟩; have H3 := Lib.hid h; clear h; obtain ⟨c1, c2, c3⟩ := HQ.out _ H3.out))
      (try simp only [Exit.inBlock, Exit.then])
      refine bodyPost_ret (results_tmp5 rfl _ _ _) rfl ?_
      exact ⟨rfl, H3.out.drop.drop.drop⟩
set_option maxHeartbeats 1000000 in
theorem cut0_none (s : ByteArray) (w : World) (hi : Lib.indexByte s.data.toList 0 = -1) (h : Own E w L) :
    Calls Tryz.prog 88 #[.string s, .string ⟨#[0]⟩] w fun e w' => e = .returned (.tuple #[.string s, .string ⟨#[]⟩, .bool false]) ∧ Own E w' L := by
  have K := fun w => Tryz.stringslite_Index_one s 0 w
  rw [hi] at K
  have H := Lib.hid h
  clear hi h
  have K2 : Calls Tryz.prog 126 #[.string s, .string ⟨#[0]⟩] w fun e w' => e = .returned (.tuple #[.string s, .string ⟨#[]⟩, .bool false]) ∧ Own E w' L := by
    go_enter Tryz.func126, Tryz.ntmps126
    go_wp2_with (refine (K _).mono ?_; rintro e w2 ⟨rfl, rfl⟩)
    go_ret3
    exact ⟨rfl, H.out⟩
  clear K H
  go_enter Tryz.func88, Tryz.ntmps88
  go_wp2_with (refine K2.mono ?_; clear K2; rintro e w2 ⟨rfl, h⟩)
  go_ret3
  exact ⟨rfl, h⟩
set_option maxRecDepth 20000 in
set_option maxHeartbeats 8000000 in
theorem pidx_sno (R : List UInt8) (v : ByteArray) (w : World) (hR : R.length ≤ 1000000000000000) (hno : ∀ t, ¬ IdxR ⟨(115 :: R).toArray⟩ v t) (hG : Laid0 E L) (h : Own E w L) : Calls Tryz.prog 31 #[.agg #[.string ⟨(115 :: R).toArray⟩, .string v]] w fun e w' => e = .returned (.tuple #[.string ⟨#[]⟩, .int .i64 0, .int .i64 0, .string ⟨#[]⟩, .int .i64 141]) ∧ Own E w' L := by
  obtain ⟨su, r2, bo, hcut, hr2s, hgood⟩ : ∃ (su r2 : ByteArray) (bo : Bool), (∀ (wq : World) (M : List Hp), Own E wq M → Calls Tryz.prog 88 #[.string ⟨R.toArray⟩, .string ⟨#[0]⟩] wq fun e w' => e = .returned (.tuple #[.string su, .string r2, .bool bo]) ∧ Own E w' M) ∧ r2.size ≤ 1000000000000000 ∧ (∀ id, readV [.num 8] r2 = ([.n id], true) → R = su.data.toList ++ 0 :: byN 8 id.toNat) := by
    have hs : (⟨R.toArray⟩ : ByteArray).size = R.length := fl_size R
    have hd : (⟨R.toArray⟩ : ByteArray).data.toList = R := by simp
    by_cases hi : Lib.indexByte R 0 = -1
    · refine ⟨⟨R.toArray⟩, ⟨#[]⟩, false, fun wq M h => cut0_none _ wq (by rw [hd]; exact hi) h, Nat.zero_le _, fun id hr => ?_⟩
      have e := iv_one (by omega) hr
      have e9 : (⟨(byN 8 id.toNat).toArray⟩ : ByteArray).size = 8 := by rw [fl_size, byN_len]
      rw [← e] at e9
      cases e9
    · have hlow := index_low R
      obtain ⟨i, hi2⟩ : ∃ i : Nat, Lib.indexByte R 0 = i := ⟨(Lib.indexByte R 0).toNat, by omega⟩
      obtain ⟨h1, h2, h3⟩ := cut_at R i hi2
      have z1 : ((⟨R.toArray⟩ : ByteArray).extract 0 i).size = i := by rw [ByteArray.size_extract, hs]; omega
      refine ⟨(⟨R.toArray⟩ : ByteArray).extract 0 i, (⟨R.toArray⟩ : ByteArray).extract (i + 1) (⟨R.toArray⟩ : ByteArray).size, true, fun wq M h => cut0_any _ _ ⟨R.toArray⟩ wq (by rw [hd, z1]; exact hi2) (by rw [z1, hs]; omega) (by rw [hs]; exact hR) (by rw [z1]) (by rw [z1]) h, by rw [ByteArray.size_extract, hs]; omega, fun id hr => ?_⟩
      have e := iv_one (by omega) hr
      have e1 : ((⟨R.toArray⟩ : ByteArray).extract 0 i).data.toList = R.take i := front_data ⟨R.toArray⟩ i |>.trans (by rw [hd])
      have e2 : ((⟨R.toArray⟩ : ByteArray).extract (i + 1) (⟨R.toArray⟩ : ByteArray).size).data.toList = R.drop (i + 1) := rest_data ⟨R.toArray⟩ (i + 1) |>.trans (by rw [hd])
      rw [e1]
      rw [e] at e2
      have e3 : byN 8 id.toNat = R.drop (i + 1) := by simpa using e2
      rw [e3]
      exact h1
  obtain ⟨id, ok, hr⟩ : ∃ id ok, readV [.num 8] r2 = ([.n id], ok) := ⟨_, _, rfl⟩
  have HNO : Hid (ok = true → v.size = 0 → nameB su = true → (1 ≤ id ∧ id ≤ 4611686018427387904) → False) := Lib.hid fun e1 e2 x1 x2 => by
    rw [e1] at hr
    have := hgood id hr
    refine hno _ (.inr (.inr ⟨su, id, x1, x2, by rw [this]; rfl, ?_, rfl⟩))
    obtain ⟨⟨l⟩⟩ := v
    have hl : l.length = 0 := e2
    rw [List.eq_nil_of_length_eq_zero hl]
    rfl
  have KN : Hid (∀ (wq : World) (M : List Hp), Own E wq M → Calls Tryz.prog 74 #[.string su] wq fun e w' => e = .returned (.bool (nameB su)) ∧ Own E w' M) := Lib.hid fun wq M h => isname_any (E := E) (L := M) su wq h
  have J2 := fun w => isid_any id w
  obtain ⟨k, hk⟩ : ∃ k : ByteArray, k = ⟨(115 :: R).toArray⟩ := ⟨_, rfl⟩
  obtain ⟨lt, hlt⟩ : ∃ lt : ByteArray, lt = ⟨#[115]⟩ := ⟨_, rfl⟩
  obtain ⟨r, hrr⟩ : ∃ r : ByteArray, r = ⟨R.toArray⟩ := ⟨_, rfl⟩
  have e1 : k.extract 0 1 = lt := by
    rw [hk, hlt]
    exact ext_head _ _
  have e2 : k.extract 1 k.size = r := by
    rw [hk, hrr]
    exact ext_tail _ _
  have e4 : 1 ≤ k.size := by
    rw [hk, fl_size, List.length_cons]
    omega
  have e3 : k.toList.isEmpty = false := by
    rw [isEmpty_size]
    exact decide_eq_false (by omega)
  have i1 : (1 : Int) ≤ (k.size : Int) := by omega
  have l1 : (lt.toList == [109]) = false := by rw [hlt, ByteArray.toList_eq]; rfl
  have l2 : (lt.toList == [120]) = false := by rw [hlt, ByteArray.toList_eq]; rfl
  have l3 : (lt.toList == [115]) = true := by rw [hlt, ByteArray.toList_eq]; rfl
  rw [← hk]
  have h1 := h.alloc (.cells #[.string k, .string v] ITT)
  have HC : Hid (∀ w', Own E w' (Hp.blk w.heap.size ITT #[.string k, .string v] :: L) → w'.cell? ⟨w.heap.size, 0, none⟩ = some (.string k)) := Lib.hid fun w' h => (h.cell 0).trans rfl
  have HD : Hid (∀ w', Own E w' (Hp.blk w.heap.size ITT #[.string k, .string v] :: L) → w'.cell? ⟨w.heap.size, 1, none⟩ = some (.string v)) := Lib.hid fun w' h => (h.cell 1).trans rfl
  have KB := fun w => idxbad_any w
  have H1 := Lib.hid h1
  rw [← hrr] at hcut
  have KC := Lib.hid hcut
  have HG := Lib.hid hG
  have HR := Lib.hid hr
  have HZ := Lib.hid hr2s
  clear hk hlt hrr h h1 hG hno hR hr hcut hr2s hgood
  cases ok with
  | false =>
    go_enter Tryz.func31, Tryz.ntmps31
    go_wp2_with fail
    have h := H1.out.drew
    clear H1
    refine wp_region_text [1, 4] (fun w' => w'.cell? ⟨w.heap.size, 0, none⟩ = some (.string k)) (by kernel_rfl) ?_ (fun hS => ?_)
    · exact HC.out _ h
    refine gp 0 (some 29) ?_
    refine gm 1 (some 30) (.string k) ?_ ?_
    · intro w hS
      go_simp
    refine gq 2 (some 31) (.string lt) ?_ ?_
    · intro w
      go_simp; first | done | (intro hx; exact absurd hx (by omega))
    refine gp 3 (some 32) ?_
    refine gm 4 (some 33) (.string k) ?_ ?_
    · intro w hS
      go_simp
    refine gq 5 (some 34) (.string r) ?_ ?_
    · intro w
      go_simp; first | done | (intro hx; exact absurd hx (by omega))
    refine gp 6 (some 8) ?_
    refine gp 7 (some 9) ?_
    refine wpAnyG_done (by kernel_rfl) ?_ _
    refine NoPanic.normal ?_
    have KC2 := KC.out _ _ h
    clear KC h HC
    go_wp2_with (refine KC2.mono ?_; clear KC2; rintro e w3 ⟨rfl, h⟩; have H3 := Lib.hid (h.alloc (.cells #[.int .i64 0] I64)); clear h; have K1 := fun (wq : World) (M : List Hp) (h : Own E wq M) => fnum_any (E := E) (L := M) 8 ⟨w3.heap.size, 0, none⟩ wq h; simp only [enF, show ((8 : Nat) : Int) = 8 from rfl] at K1)
    have KR : Hid (∀ (bb : Nat) (w5 : World), Own E w5 (Hp.blk bb FT (([(.num 8, ⟨w3.heap.size, 0, none⟩)] : List (Fk × Addr)).flatMap enF).toArray :: Hp.blk w3.heap.size I64 #[.int .i64 0] :: Hp.blk w.heap.size ITT #[.string k, .string v] :: L) → Calls Tryz.prog 67 #[.slice (some ⟨bb, 0, none⟩) 1 1, .string r2] w5 fun e w' => e = .returned (.bool false) ∧ Own E w' (Hp.blk w3.heap.size I64 #[.int .i64 id] :: Hp.blk w.heap.size ITT #[.string k, .string v] :: L)) := Lib.hid fun bb w5 h3 => rd1 bb _ 8 id false _ r2 w5 HZ.out HR.out HG.out.cons h3
    have HQ : Hid (∀ w', Own E w' (Hp.blk w3.heap.size I64 #[.int .i64 id] :: Hp.blk w.heap.size ITT #[.string k, .string v] :: L) → w'.cell? ⟨w.heap.size, 1, none⟩ = some (.string v) ∧ w'.cell? ⟨w3.heap.size, 0, none⟩ = some (.int .i64 id)) := Lib.hid fun w' h => ⟨(h.f1.cell 1).trans rfl, (h.cell 0).trans rfl⟩
    clear HD
    go_wp2_with (first
      | (with_reducible refine (K1 _ _ H3.out).mono ?_; clear H3; rintro e w4 ⟨rfl, h⟩; have H3 := Lib.hid h; clear h)
      | (with_reducible refine (KB _).mono ?_; rintro e w2 ⟨rfl, rfl⟩)
      | (refine (KR.out _ _ (H3.out.alloc _)).mono ?_; clear H3 KR; rintro e w5 ⟨rfl, h⟩; have H3 := Lib.hid h; clear h; obtain ⟨c1, c2⟩ := HQ.out _ H3.out))
    (try simp only [Exit.inBlock, Exit.then])
    refine bodyPost_ret (results_tmp5 rfl _ _ _) rfl ?_
    exact ⟨rfl, H3.out.drop.drop⟩
  | true =>
    by_cases hv : v.size = 0
    · have v1 : v.toList.isEmpty = true := by rw [isEmpty_size, decide_eq_true hv]
      cases hn : nameB su with
      | true =>
        have hi : ¬ (1 ≤ id ∧ id ≤ 4611686018427387904) := fun hi => HNO.out rfl hv hn hi
        rw [hn] at KN
        rw [decide_eq_false hi] at J2
        clear hi hv hn
        go_enter Tryz.func31, Tryz.ntmps31
        go_wp2_with fail
        have h := H1.out.drew
        clear H1
        refine wp_region_text [1, 4] (fun w' => w'.cell? ⟨w.heap.size, 0, none⟩ = some (.string k)) (by kernel_rfl) ?_ (fun hS => ?_)
        · exact HC.out _ h
        refine gp 0 (some 29) ?_
        refine gm 1 (some 30) (.string k) ?_ ?_
        · intro w hS
          go_simp
        refine gq 2 (some 31) (.string lt) ?_ ?_
        · intro w
          go_simp; first | done | (intro hx; exact absurd hx (by omega))
        refine gp 3 (some 32) ?_
        refine gm 4 (some 33) (.string k) ?_ ?_
        · intro w hS
          go_simp
        refine gq 5 (some 34) (.string r) ?_ ?_
        · intro w
          go_simp; first | done | (intro hx; exact absurd hx (by omega))
        refine gp 6 (some 8) ?_
        refine gp 7 (some 9) ?_
        refine wpAnyG_done (by kernel_rfl) ?_ _
        refine NoPanic.normal ?_
        have KC2 := KC.out _ _ h
        clear KC h HC
        go_wp2_with (refine KC2.mono ?_; clear KC2; rintro e w3 ⟨rfl, h⟩; have H3 := Lib.hid (h.alloc (.cells #[.int .i64 0] I64)); clear h; have K1 := fun (wq : World) (M : List Hp) (h : Own E wq M) => fnum_any (E := E) (L := M) 8 ⟨w3.heap.size, 0, none⟩ wq h; simp only [enF, show ((8 : Nat) : Int) = 8 from rfl] at K1)
        have KR : Hid (∀ (bb : Nat) (w5 : World), Own E w5 (Hp.blk bb FT (([(.num 8, ⟨w3.heap.size, 0, none⟩)] : List (Fk × Addr)).flatMap enF).toArray :: Hp.blk w3.heap.size I64 #[.int .i64 0] :: Hp.blk w.heap.size ITT #[.string k, .string v] :: L) → Calls Tryz.prog 67 #[.slice (some ⟨bb, 0, none⟩) 1 1, .string r2] w5 fun e w' => e = .returned (.bool true) ∧ Own E w' (Hp.blk w3.heap.size I64 #[.int .i64 id] :: Hp.blk w.heap.size ITT #[.string k, .string v] :: L)) := Lib.hid fun bb w5 h3 => rd1 bb _ 8 id true _ r2 w5 HZ.out HR.out HG.out.cons h3
        have HQ : Hid (∀ w', Own E w' (Hp.blk w3.heap.size I64 #[.int .i64 id] :: Hp.blk w.heap.size ITT #[.string k, .string v] :: L) → w'.cell? ⟨w.heap.size, 1, none⟩ = some (.string v) ∧ w'.cell? ⟨w3.heap.size, 0, none⟩ = some (.int .i64 id)) := Lib.hid fun w' h => ⟨(h.f1.cell 1).trans rfl, (h.cell 0).trans rfl⟩
        clear HD
        go_wp2_with (first
          | (with_reducible refine (K1 _ _ H3.out).mono ?_; clear H3; rintro e w4 ⟨rfl, h⟩; have H3 := Lib.hid h; clear h)
          | (with_reducible refine (J2 _).mono ?_; rintro e w4 ⟨rfl, rfl⟩)
          | (with_reducible refine (KN.out _ _ H3.out).mono ?_; clear H3 c1 c2; rintro e w4 ⟨rfl, h⟩; have H3 := Lib.hid h; clear h; obtain ⟨c1, c2⟩ := HQ.out _ H3.out)
          | (with_reducible refine (KB _).mono ?_; rintro e w2 ⟨rfl, rfl⟩)
          | (refine (KR.out _ _ (H3.out.alloc _)).mono ?_; clear H3 KR; rintro e w5 ⟨rfl, h⟩; have H3 := Lib.hid h; clear h; obtain ⟨c1, c2⟩ := HQ.out _ H3.out))
        (try simp only [Exit.inBlock, Exit.then])
        refine bodyPost_ret (results_tmp5 rfl _ _ _) rfl ?_
        exact ⟨rfl, H3.out.drop.drop⟩
      | false =>
        rw [hn] at KN
        clear hv hn
        go_enter Tryz.func31, Tryz.ntmps31
        go_wp2_with fail
        have h := H1.out.drew
        clear H1
        refine wp_region_text [1, 4] (fun w' => w'.cell? ⟨w.heap.size, 0, none⟩ = some (.string k)) (by kernel_rfl) ?_ (fun hS => ?_)
        · exact HC.out _ h
        refine gp 0 (some 29) ?_
        refine gm 1 (some 30) (.string k) ?_ ?_
        · intro w hS
          go_simp
        refine gq 2 (some 31) (.string lt) ?_ ?_
        · intro w
          go_simp; first | done | (intro hx; exact absurd hx (by omega))
        refine gp 3 (some 32) ?_
        refine gm 4 (some 33) (.string k) ?_ ?_
        · intro w hS
          go_simp
        refine gq 5 (some 34) (.string r) ?_ ?_
        · intro w
          go_simp; first | done | (intro hx; exact absurd hx (by omega))
        refine gp 6 (some 8) ?_
        refine gp 7 (some 9) ?_
        refine wpAnyG_done (by kernel_rfl) ?_ _
        refine NoPanic.normal ?_
        have KC2 := KC.out _ _ h
        clear KC h HC
        go_wp2_with (refine KC2.mono ?_; clear KC2; rintro e w3 ⟨rfl, h⟩; have H3 := Lib.hid (h.alloc (.cells #[.int .i64 0] I64)); clear h; have K1 := fun (wq : World) (M : List Hp) (h : Own E wq M) => fnum_any (E := E) (L := M) 8 ⟨w3.heap.size, 0, none⟩ wq h; simp only [enF, show ((8 : Nat) : Int) = 8 from rfl] at K1)
        have KR : Hid (∀ (bb : Nat) (w5 : World), Own E w5 (Hp.blk bb FT (([(.num 8, ⟨w3.heap.size, 0, none⟩)] : List (Fk × Addr)).flatMap enF).toArray :: Hp.blk w3.heap.size I64 #[.int .i64 0] :: Hp.blk w.heap.size ITT #[.string k, .string v] :: L) → Calls Tryz.prog 67 #[.slice (some ⟨bb, 0, none⟩) 1 1, .string r2] w5 fun e w' => e = .returned (.bool true) ∧ Own E w' (Hp.blk w3.heap.size I64 #[.int .i64 id] :: Hp.blk w.heap.size ITT #[.string k, .string v] :: L)) := Lib.hid fun bb w5 h3 => rd1 bb _ 8 id true _ r2 w5 HZ.out HR.out HG.out.cons h3
        have HQ : Hid (∀ w', Own E w' (Hp.blk w3.heap.size I64 #[.int .i64 id] :: Hp.blk w.heap.size ITT #[.string k, .string v] :: L) → w'.cell? ⟨w.heap.size, 1, none⟩ = some (.string v) ∧ w'.cell? ⟨w3.heap.size, 0, none⟩ = some (.int .i64 id)) := Lib.hid fun w' h => ⟨(h.f1.cell 1).trans rfl, (h.cell 0).trans rfl⟩
        clear HD
        go_wp2_with (first
          | (with_reducible refine (K1 _ _ H3.out).mono ?_; clear H3; rintro e w4 ⟨rfl, h⟩; have H3 := Lib.hid h; clear h)
          | (with_reducible refine (KN.out _ _ H3.out).mono ?_; clear H3 c1 c2; rintro e w4 ⟨rfl, h⟩; have H3 := Lib.hid h; clear h; obtain ⟨c1, c2⟩ := HQ.out _ H3.out)
          | (with_reducible refine (KB _).mono ?_; rintro e w2 ⟨rfl, rfl⟩)
          | (refine (KR.out _ _ (H3.out.alloc _)).mono ?_; clear H3 KR; rintro e w5 ⟨rfl, h⟩; have H3 := Lib.hid h; clear h; obtain ⟨c1, c2⟩ := HQ.out _ H3.out))
        (try simp only [Exit.inBlock, Exit.then])
        refine bodyPost_ret (results_tmp5 rfl _ _ _) rfl ?_
        exact ⟨rfl, H3.out.drop.drop⟩
    · have v1 : v.toList.isEmpty = false := by rw [isEmpty_size, decide_eq_false hv]
      clear hv
      go_enter Tryz.func31, Tryz.ntmps31
      go_wp2_with fail
      have h := H1.out.drew
      clear H1
      refine wp_region_text [1, 4] (fun w' => w'.cell? ⟨w.heap.size, 0, none⟩ = some (.string k)) (by kernel_rfl) ?_ (fun hS => ?_)
      · exact HC.out _ h
      refine gp 0 (some 29) ?_
      refine gm 1 (some 30) (.string k) ?_ ?_
      · intro w hS
        go_simp
      refine gq 2 (some 31) (.string lt) ?_ ?_
      · intro w
        go_simp; first | done | (intro hx; exact absurd hx (by omega))
      refine gp 3 (some 32) ?_
      refine gm 4 (some 33) (.string k) ?_ ?_
      · intro w hS
        go_simp
      refine gq 5 (some 34) (.string r) ?_ ?_
      · intro w
        go_simp; first | done | (intro hx; exact absurd hx (by omega))
      refine gp 6 (some 8) ?_
      refine gp 7 (some 9) ?_
      refine wpAnyG_done (by kernel_rfl) ?_ _
      refine NoPanic.normal ?_
      have KC2 := KC.out _ _ h
      clear KC h HC
      go_wp2_with (refine KC2.mono ?_; clear KC2; rintro e w3 ⟨rfl, h⟩; have H3 := Lib.hid (h.alloc (.cells #[.int .i64 0] I64)); clear h; have K1 := fun (wq : World) (M : List Hp) (h : Own E wq M) => fnum_any (E := E) (L := M) 8 ⟨w3.heap.size, 0, none⟩ wq h; simp only [enF, show ((8 : Nat) : Int) = 8 from rfl] at K1)
      have KR : Hid (∀ (bb : Nat) (w5 : World), Own E w5 (Hp.blk bb FT (([(.num 8, ⟨w3.heap.size, 0, none⟩)] : List (Fk × Addr)).flatMap enF).toArray :: Hp.blk w3.heap.size I64 #[.int .i64 0] :: Hp.blk w.heap.size ITT #[.string k, .string v] :: L) → Calls Tryz.prog 67 #[.slice (some ⟨bb, 0, none⟩) 1 1, .string r2] w5 fun e w' => e = .returned (.bool true) ∧ Own E w' (Hp.blk w3.heap.size I64 #[.int .i64 id] :: Hp.blk w.heap.size ITT #[.string k, .string v] :: L)) := Lib.hid fun bb w5 h3 => rd1 bb _ 8 id true _ r2 w5 HZ.out HR.out HG.out.cons h3
      have HQ : Hid (∀ w', Own E w' (Hp.blk w3.heap.size I64 #[.int .i64 id] :: Hp.blk w.heap.size ITT #[.string k, .string v] :: L) → w'.cell? ⟨w.heap.size, 1, none⟩ = some (.string v) ∧ w'.cell? ⟨w3.heap.size, 0, none⟩ = some (.int .i64 id)) := Lib.hid fun w' h => ⟨(h.f1.cell 1).trans rfl, (h.cell 0).trans rfl⟩
      clear HD
      go_wp2_with (first
        | (with_reducible refine (K1 _ _ H3.out).mono ?_; clear H3; rintro e w4 ⟨rfl, h⟩; have H3 := Lib.hid h; clear h)
        | (with_reducible refine (KB _).mono ?_; rintro e w2 ⟨rfl, rfl⟩)
        | (refine (KR.out _ _ (H3.out.alloc _)).mono ?_; clear H3 KR; rintro e w5 ⟨rfl, h⟩; have H3 := Lib.hid h; clear h; obtain ⟨c1, c2⟩ := HQ.out _ H3.out))
      (try simp only [Exit.inBlock, Exit.then])
      refine bodyPost_ret (results_tmp5 rfl _ _ _) rfl ?_
      exact ⟨rfl, H3.out.drop.drop⟩
/-- record.ParseIndex of any pair. -/
theorem pidx_any (k v : ByteArray) (w : World) (hk : k.size ≤ 1000000000000000) (hv : v.size ≤ 1000000000000000) (hG : Laid0 E L) (h : Own E w L) :
    Calls Tryz.prog 31 #[.agg #[.string k, .string v]] w fun e w' => ((∃ t, IdxR k v t ∧ e = .returned (.tuple #[.string t.1, .int .i64 t.2.1, .int .i64 t.2.2.1, .string t.2.2.2, .int .i64 0])) ∨ ((∀ t, ¬ IdxR k v t) ∧ e = .returned (.tuple #[.string ⟨#[]⟩, .int .i64 0, .int .i64 0, .string ⟨#[]⟩, .int .i64 141]))) ∧ Own E w' L := by
  by_cases hr : ∃ t, IdxR k v t
  · obtain ⟨t, ht⟩ := hr
    rcases ht with ⟨a, b, c, x1, x2, x3, rfl, rfl, rfl⟩ | ⟨fin, id, x1, x2, rfl, rfl, rfl⟩ | ⟨su, id, x1, x2, rfl, rfl, rfl⟩
    · refine (pidx_m a b c w x1 x2 x3 hG h).mono ?_
      rintro e w' ⟨rfl, h⟩
      exact ⟨.inl ⟨_, .inl ⟨a, b, c, x1, x2, x3, rfl, rfl, rfl⟩, rfl⟩, h⟩
    · refine (pidx_x fin id w x1 x2 hG h).mono ?_
      rintro e w' ⟨rfl, h⟩
      exact ⟨.inl ⟨_, .inr (.inl ⟨fin, id, x1, x2, rfl, rfl, rfl⟩), rfl⟩, h⟩
    · refine (pidx_s su id w x1 x2 hG h).mono ?_
      rintro e w' ⟨rfl, h⟩
      exact ⟨.inl ⟨_, .inr (.inr ⟨su, id, x1, x2, rfl, rfl, rfl⟩), rfl⟩, h⟩
  · have hno : ∀ t, ¬ IdxR k v t := fun t ht => hr ⟨t, ht⟩
    have KF : Calls Tryz.prog 31 #[.agg #[.string k, .string v]] w fun e w' => e = .returned (.tuple #[.string ⟨#[]⟩, .int .i64 0, .int .i64 0, .string ⟨#[]⟩, .int .i64 141]) ∧ Own E w' L := by
      obtain ⟨⟨l⟩⟩ := k
      have hs : (⟨⟨l⟩⟩ : ByteArray).size = l.length := rfl
      cases l with
      | nil => exact pidx_none _ v w rfl h
      | cons t R =>
        rw [List.length_cons] at hs
        by_cases h1 : t = 109
        · subst h1; exact pidx_mno R v w (by omega) hv hno hG h
        by_cases h2 : t = 120
        · subst h2; exact pidx_xno R v w (by omega) hno hG h
        by_cases h3 : t = 115
        · subst h3; exact pidx_sno R v w (by omega) hno hG h
        exact pidx_other t R v w h1 h2 h3 h
    exact KF.mono fun e w' he => ⟨.inr ⟨hno, he.1⟩, he.2⟩
end
end Go.Proofs.YtabibfabieghpaaGreatDoor
