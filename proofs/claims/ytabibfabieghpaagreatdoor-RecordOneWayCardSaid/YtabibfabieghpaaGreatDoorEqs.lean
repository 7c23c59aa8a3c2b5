/- OfToken, the program and the reference; member. The reference's member and OfToken. Structs compared. -/
import Derived.Test.YtabibfabieghpaaGreatDoorXrTok
namespace Go.Proofs.YtabibfabieghpaaGreatDoor
open Go.RowKit
def ofK (b c : Int) : ByteArray := ⟨(109 :: (byN 8 b.toNat ++ byN 4 c.toNat)).toArray⟩
def ofV (a : Int) : ByteArray := ⟨(byN 8 a.toNat).toArray⟩
def ofR (a b c : Int) (s : ByteArray) (d : Int) (f : Bool) (e g : Int) (r : ByteArray) : ByteArray × ByteArray × Int :=
  if tokMay a b c s d f e g r then (ofK b c, ofV a, 0) else (noB, noB, 140)
def ofFs (tb : Nat) : List (Fk × Addr) := [(.num 8, ⟨tb, 1, none⟩), (.num 4, ⟨tb, 2, none⟩)]
def ofFl (tb : Nat) (b c : Int) : List Fld := [(.num 8, ⟨tb, 1, none⟩, .n b), (.num 4, ⟨tb, 2, none⟩, .n c)]
theorem of_printed (tb : Nat) (b c : Int) (hb : 1 ≤ b ∧ b ≤ 4611686018427387904) (hc : 1 ≤ c ∧ c ≤ 1073741824) : printedV ((ofFl tb b c).map Fld.kv) = ⟨(byN 8 b.toNat ++ byN 4 c.toNat).toArray⟩ := by
  rw [printed_fits (by
    intro x hx
    simp only [ofFl, List.map_cons, List.map_nil, List.mem_cons, List.not_mem_nil, or_false] at hx
    rcases hx with rfl | rfl
    · exact ⟨by decide, by decide, by show (0 : Int) ≤ b; omega, by show b < (256 : Int) ^ 8; omega, by show b ≤ (9223372036854775807 : Int); omega⟩
    · exact ⟨by decide, by decide, by show (0 : Int) ≤ c; omega, by show c < (256 : Int) ^ 4; omega, by show c ≤ (9223372036854775807 : Int); omega⟩)]
  refine bytes_ext _ _ ?_
  show (byN 8 b.toNat ++ (byN 4 c.toNat ++ [])).toArray.toList = _
  simp
section
variable {E : World} {L : List Hp}
set_option maxRecDepth 20000 in
set_option maxHeartbeats 8000000 in
theorem oftok_any (a b c : Int) (s : ByteArray) (d : Int) (f : Bool) (e g : Int) (r : ByteArray) (w : World) (hG : Laid0 E L) (h : Own E w L) :
    Calls Tryz.prog 14 #[.agg (tokC a b c s d f e g r).toArray] w fun ev w' => ev = .returned (itemV (ofR a b c s d f e g r)) ∧ Own E w' L := by
  have h1 := h.alloc (.cells (tokC a b c s d f e g r).toArray TOKT)
  have h2 := h1.alloc (.cells #[.string ⟨#[]⟩, .string ⟨#[]⟩] ITT)
  rw [alloc_size] at h2
  have H3 := Lib.hid h2
  obtain ⟨dd, hd, hrow⟩ := itt_u
  by_cases hm : tokMay a b c s d f e g r
  · have HR : Hid (ofR a b c s d f e g r = (⟨#[109]⟩ ++ ⟨(byN 8 b.toNat ++ byN 4 c.toNat).toArray⟩, ofV a, 0)) := Lib.hid (by
      have e1 : ofK b c = (⟨#[109]⟩ : ByteArray) ++ ⟨(byN 8 b.toNat ++ byN 4 c.toNat).toArray⟩ := by
        unfold ofK
        refine (bytes_ext _ _ ?_).symm
        simp
      rw [← e1]
      exact if_pos hm)
    have KM : Hid (∀ w3 : World, Own E w3 (Hp.blk (w.heap.size + 1) ITT #[.string ⟨#[]⟩, .string ⟨#[]⟩] :: Hp.blk w.heap.size TOKT (tokC a b c s d f e g r).toArray :: L) → Calls Tryz.prog 58 #[.agg (tokC a b c s d f e g r).toArray] w3 fun ev w' => ev = .returned (.bool true) ∧ Own E w' (Hp.blk (w.heap.size + 1) ITT #[.string ⟨#[]⟩, .string ⟨#[]⟩] :: Hp.blk w.heap.size TOKT (tokC a b c s d f e g r).toArray :: L)) := Lib.hid fun w3 h3 => (tokenmay_any a b c s d f e g r w3 h3).mono fun ev w' he => ⟨by rw [he.1, decide_eq_true hm], he.2⟩
    obtain ⟨c1, c2, c3, -⟩ := tok_range hm
    have hnum := fun (w3 : World) (h3 : Own E w3 (Hp.blk (w.heap.size + 1) ITT #[.string ⟨#[]⟩, .string ⟨#[]⟩] :: Hp.blk w.heap.size TOKT (tokC a b c s d f e g r).toArray :: L)) => numbered_any (E := E) ⟨#[]⟩ 8 a w3 (by decide) (by omega) hG.cons.cons h3
    have e2 : (⟨#[]⟩ : ByteArray) ++ printedV [(.num 8, .n a)] = ofV a := by
      rw [printed_fits (fun f hf => by
        rw [List.mem_singleton] at hf
        subst hf
        exact ⟨by decide, by decide, by show (0 : Int) ≤ a; omega, by show a < (256 : Int) ^ 8; omega, by show a ≤ (9223372036854775807 : Int); omega⟩)]
      refine bytes_ext _ _ ?_
      rw [app_data]
      show [] ++ (byN 8 a.toNat ++ []).toArray.toList = _
      simp
    rw [e2] at hnum
    have HNUM := Lib.hid hnum
    have HP : Hid (∀ (bb : Nat) (w3 : World), Own E w3 (Hp.blk bb FT ((ofFs w.heap.size).flatMap enF).toArray :: Hp.blk (w.heap.size + 1) ITT #[.string ⟨#[]⟩, .string ⟨#[]⟩] :: Hp.blk w.heap.size TOKT (tokC a b c s d f e g r).toArray :: L) →
        Calls Tryz.prog 61 #[.slice (some ⟨bb, 0, none⟩) 2 2] w3 fun ev w' => ev = .returned (.string ⟨(byN 8 b.toNat ++ byN 4 c.toNat).toArray⟩) ∧ Own E w' (Hp.blk (w.heap.size + 1) ITT #[.string ⟨#[]⟩, .string ⟨#[]⟩] :: Hp.blk w.heap.size TOKT (tokC a b c s d f e g r).toArray :: L)) := Lib.hid fun bb w3 h3 => by
      have h4 : Own E w3 (Hp.blk bb FT ((ofFl w.heap.size b c).flatMap enFld).toArray :: Hp.ro (Ph.one w.heap.size (.cells (tokC a b c s d f e g r).toArray TOKT (0, 0))) :: Hp.blk (w.heap.size + 1) ITT #[.string ⟨#[]⟩, .string ⟨#[]⟩] :: L) := h3.f2.f1
      have hok : ∀ x ∈ ofFl w.heap.size b c, FldOk (Ph.one w.heap.size (.cells (tokC a b c s d f e g r).toArray TOKT (0, 0))) x := by
        intro x hx
        simp only [ofFl, List.mem_cons, List.not_mem_nil, or_false] at hx
        rcases hx with rfl | rfl
        · exact ⟨trivial, one_cell _ _ _ 1, by show b ≤ (9223372036854775807 : Int); omega, by show (0 : Nat) ≤ _; omega⟩
        · exact ⟨trivial, one_cell _ _ _ 2, by show c ≤ (9223372036854775807 : Int); omega, by show (0 : Nat) ≤ _; omega⟩
      refine (printed_blk bb 2 (ofFl w.heap.size b c) w3 rfl (by omega) hok hG.cons h4).mono ?_
      rw [of_printed _ b c c2 c3]
      rintro ev w' ⟨rfl, h⟩
      exact ⟨rfl, h.f1⟩
    have HC : Hid (∀ w', Own E w' (Hp.blk (w.heap.size + 1) ITT #[.string ⟨#[]⟩, .string ⟨#[]⟩] :: Hp.blk w.heap.size TOKT (tokC a b c s d f e g r).toArray :: L) → w'.cell? ⟨w.heap.size, 0, none⟩ = some (.int .i64 a)) := Lib.hid fun w' h => by rw [h.f1.cell 0]; rfl
    have hz : (⟨(byN 8 b.toNat ++ byN 4 c.toNat).toArray⟩ : ByteArray).size ≤ 100 := by rw [fl_size, List.length_append, byN_len, byN_len]; omega
    clear h h1 h2 hG hm hnum e2
    generalize ofV a = x2 at *
    generalize (⟨(byN 8 b.toNat ++ byN 4 c.toNat).toArray⟩ : ByteArray) = x1 at *
    unfold tokC at *
    go_enter Tryz.func14, Tryz.ntmps14
    go_wp2_with (with_reducible refine (KM.out _ H3.out).mono ?_; clear H3; rintro ev w2 ⟨rfl, h⟩; have H3 := Lib.hid h; clear h)
    have h := H3.out.drew
    clear H3
    refine wp_region_text [8] (fun w' => w'.cell? ⟨w.heap.size, 0, none⟩ = some (.int .i64 a)) (by kernel_rfl) ?_ (fun hS => ?_)
    · exact HC.out _ h
    refine wpAnyG_pure (i := 0) (oi := ⟨some 8, _, _, _, _, _⟩) (v := ?_) rfl (by kernel_rfl) (by kernel_rfl) (by kernel_rfl) (by rfl) (fun _ _ _ h => h) (by rfl) ?_ ?_
    rotate_left
    · intro w
      go_simp
      first | done | with_reducible rfl
    try simp only [Act.put, List.setIfInBounds_toArray, List.set_cons_zero, List.set_cons_succ]
    refine wpAnyG_pure (i := 2) (oi := ⟨some 10, _, _, _, _, _⟩) (v := ?_) rfl (by kernel_rfl) (by kernel_rfl) (by kernel_rfl) (by rfl) (fun _ _ _ h => h) (by rfl) ?_ ?_
    rotate_left
    · intro w
      go_simp
      first | done | with_reducible rfl
    try simp only [Act.put, List.setIfInBounds_toArray, List.set_cons_zero, List.set_cons_succ]
    refine wpAnyG_pure (i := 7) (oi := ⟨some 15, _, _, _, _, _⟩) (v := ?_) rfl (by kernel_rfl) (by kernel_rfl) (by kernel_rfl) (by rfl) (fun _ _ _ h => h) (by rfl) ?_ ?_
    rotate_left
    · intro w
      go_simp
      first | done | with_reducible rfl
    try simp only [Act.put, List.setIfInBounds_toArray, List.set_cons_zero, List.set_cons_succ]
    refine wpAnyG_load (i := 8) (oi := ⟨some 16, _, _, _, _, _⟩) (v := ?_) rfl (by kernel_rfl) (by kernel_rfl) (by kernel_rfl) (by rfl) (fun _ _ _ h => h) (by rfl) ?_ (by assumption) ?_
    rotate_left
    · intro w hS
      try dsimp only at hS
      go_simp
      first | done | with_reducible rfl
    try simp only [Act.put, List.setIfInBounds_toArray, List.set_cons_zero, List.set_cons_succ]
    refine wpAnyG_keep (i := 1) (oi := ⟨some 9, _, _, _, _, _⟩) (by kernel_rfl) rfl (fun K hK => ?_)
    rw [if_pos (by rfl)]
    go_simp
    refine (fnum_any 8 ⟨w.heap.size, 1, none⟩ _ h).mono ?_
    clear h
    rintro ev w2 ⟨rfl, h⟩
    refine hK.out _ _ ?_ (fun hS => ?_)
    · exact HC.out _ h
    clear hK K
    try simp only [Act.put, List.setIfInBounds_toArray, List.set_cons_zero, List.set_cons_succ]
    refine wpAnyG_keep (i := 3) (oi := ⟨some 11, _, _, _, _, _⟩) (by kernel_rfl) rfl (fun K hK => ?_)
    rw [if_pos (by rfl)]
    go_simp
    refine (fnum_any 4 ⟨w.heap.size, 2, none⟩ _ h).mono ?_
    clear h
    rintro ev w2 ⟨rfl, h⟩
    refine hK.out _ _ ?_ (fun hS => ?_)
    · exact HC.out _ h
    clear hK K
    try simp only [Act.put, List.setIfInBounds_toArray, List.set_cons_zero, List.set_cons_succ]
    refine wpAnyG_keep (i := 4) (oi := ⟨some 12, _, _, _, _, _⟩) (by kernel_rfl) rfl (fun K hK => ?_)
    rw [if_pos (by rfl)]
    refine wp_fields (ofFs w.heap.size) rfl rfl (by omega) (by omega) (by first | kernel_rfl | (simp [ofFs]; done) | (simp [ofFs]; rfl)) ?_
    have h := h.alloc (.cells ((ofFs w.heap.size).flatMap enF).toArray FT)
    refine hK.out _ _ ?_ (fun hS => ?_)
    · exact HC.out _ h.drop
    clear hK K
    try simp only [Act.put, List.setIfInBounds_toArray, List.set_cons_zero, List.set_cons_succ]
    refine wpAnyG_keep (i := 5) (oi := ⟨some 13, _, _, _, _, _⟩) (by kernel_rfl) rfl (fun K hK => ?_)
    rw [if_pos (by rfl)]
    go_simp
    refine (HP.out _ _ h).mono ?_
    clear h
    rintro ev w2 ⟨rfl, h⟩
    refine hK.out _ _ ?_ (fun hS => ?_)
    · exact HC.out _ h
    clear hK K
    try simp only [Act.put, List.setIfInBounds_toArray, List.set_cons_zero, List.set_cons_succ]
    refine wpAnyG_pure (i := 6) (oi := ⟨some 14, _, _, _, _, _⟩) (v := (.string (⟨#[109]⟩ ++ x1))) rfl (by kernel_rfl) (by kernel_rfl) (by kernel_rfl) (by rfl) (fun _ _ _ h => h) (by rfl) ?_ ?_
    · intro w
      go_simp; first | done | with_reducible rfl | omega
    try simp only [Act.put, List.setIfInBounds_toArray, List.set_cons_zero, List.set_cons_succ]
    refine wpAnyG_keep (i := 9) (oi := ⟨some 17, _, _, _, _, _⟩) (by kernel_rfl) rfl (fun K hK => ?_)
    rw [if_pos (by rfl)]
    go_simp
    refine (HNUM.out _ h).mono ?_
    clear h
    rintro ev w2 ⟨rfl, h⟩
    refine hK.out _ _ ?_ (fun hS => ?_)
    · exact HC.out _ h
    clear hK K
    try simp only [Act.put, List.setIfInBounds_toArray, List.set_cons_zero, List.set_cons_succ]
    refine wpAnyG_pure (i := 10) (oi := ⟨some 18, _, _, _, _, _⟩) (v := ?_) rfl (by kernel_rfl) (by kernel_rfl) (by kernel_rfl) (by rfl) (fun _ _ _ h => h) (by rfl) ?_ ?_
    rotate_left
    · intro w
      go_simp
      first | done | with_reducible rfl
    try simp only [Act.put, List.setIfInBounds_toArray, List.set_cons_zero, List.set_cons_succ]
    refine wpAnyG_break (i := 11) (oi := ⟨none, _, _, _, _, _⟩) (by kernel_rfl) rfl (by kernel_rfl) (fun K hK => ?_)
    rw [if_pos (by rfl)]
    refine wp_store_whole (cs := [.string ⟨#[]⟩, .string ⟨#[]⟩]) (vs := [.string (⟨#[109]⟩ ++ x1), .string x2]) h rfl (pair_one _ _) (by kernel_rfl) rfl rfl rfl (fun w9 h => ?_)
    refine hK.out _ _ ?_
    clear hK K
    try simp only [Act.put]
    refine wpAnyG_pure (i := 12) (oi := ⟨some 3, _, _, _, _, _⟩) (v := ?_) rfl (by kernel_rfl) (by kernel_rfl) (by kernel_rfl) (by rfl) (fun _ _ _ h => h) (by rfl) ?_ ?_
    rotate_left
    · intro w
      go_simp
      first | done | with_reducible rfl
    try simp only [Act.put, List.setIfInBounds_toArray, List.set_cons_zero, List.set_cons_succ]
    refine wpAnyG_done (by kernel_rfl) ?_ _
    refine NoPanic.normal ?_
    go_wp2_with fail
    refine bodyPost_ret (results_ct rfl rfl h hd hrow (by kernel_rfl)) rfl ?_
    exact ⟨by rw [HR.out]; rfl, h.drop.drop⟩
  · have HR : Hid (ofR a b c s d f e g r = (noB, noB, 140)) := Lib.hid (if_neg hm)
    have KM : Hid (∀ w3 : World, Own E w3 (Hp.blk (w.heap.size + 1) ITT #[.string ⟨#[]⟩, .string ⟨#[]⟩] :: Hp.blk w.heap.size TOKT (tokC a b c s d f e g r).toArray :: L) → Calls Tryz.prog 58 #[.agg (tokC a b c s d f e g r).toArray] w3 fun ev w' => ev = .returned (.bool false) ∧ Own E w' (Hp.blk (w.heap.size + 1) ITT #[.string ⟨#[]⟩, .string ⟨#[]⟩] :: Hp.blk w.heap.size TOKT (tokC a b c s d f e g r).toArray :: L)) := Lib.hid fun w3 h3 => (tokenmay_any a b c s d f e g r w3 h3).mono fun ev w' he => ⟨by rw [he.1, decide_eq_false hm], he.2⟩
    clear h h1 h2 hG hm
    unfold tokC at *
    go_enter Tryz.func14, Tryz.ntmps14
    go_wp2_with (first
      | (with_reducible refine (KM.out _ H3.out).mono ?_; clear H3; rintro ev w2 ⟨rfl, h⟩; have H3 := Lib.hid h; clear h)
      | (with_reducible refine at_slot (k := none) ?_; refine wpList_store_whole (o := ⟨none, _, _, _, _, _⟩) (cs := [.string ⟨#[]⟩, .string ⟨#[]⟩]) (vs := [.string ⟨#[]⟩, .string ⟨#[]⟩]) H3.out rfl (pair_one ⟨#[]⟩ ⟨#[]⟩) (by kernel_rfl) rfl rfl rfl rfl ?_; clear H3; intro w7 h; have H8 := Lib.hid h; clear h))
    refine bodyPost_ret (results_ct rfl rfl H8.out hd hrow (by kernel_rfl)) rfl ?_
    exact ⟨by rw [HR.out]; rfl, H8.out.drop.drop⟩
end
end Go.Proofs.YtabibfabieghpaaGreatDoor
namespace Go.Proofs.YtabibfabieghpaaGreatDoor
open Go.RowKit
section
variable {E : World} {L : List Hp}
set_option maxRecDepth 20000 in
set_option maxHeartbeats 8000000 in
theorem member_any (b c : Int) (v : ByteArray) (w : World) (hb : 1 ≤ b ∧ b ≤ 4611686018427387904) (hc : 1 ≤ c ∧ c ≤ 1073741824) (h : Own E w L) :
    Calls Tryz.prog 69 #[.int .i64 b, .int .i64 c, .string v] w fun ev w' => ev = .returned (.agg #[.string (ofK b c), .string v]) ∧ Own E w' L := by
  obtain ⟨dd, hd, hrow⟩ := itt_u
  have h1 := h.alloc (.cells #[.string ⟨#[]⟩, .string ⟨#[]⟩] ITT)
  have H3 := Lib.hid h1
  have hb1 := fun wq (h : Own E wq (Hp.blk w.heap.size ITT #[.string ⟨#[]⟩, .string ⟨#[]⟩] :: L)) => by_any (E := E) b 8 wq (by omega) (by omega) (by omega) h
  have hb2 := fun wq (h : Own E wq (Hp.blk w.heap.size ITT #[.string ⟨#[]⟩, .string ⟨#[]⟩] :: L)) => by_any (E := E) c 4 wq (by omega) (by omega) (by omega) h
  have hz1 : (⟨(byN 8 b.toNat).toArray⟩ : ByteArray).size ≤ 8 := by rw [fl_size, byN_len]; omega
  have hz2 : (⟨(byN 4 c.toNat).toArray⟩ : ByteArray).size ≤ 8 := by rw [fl_size, byN_len]; omega
  have hk : ofK b c = (⟨#[109]⟩ : ByteArray) ++ ⟨(byN 8 b.toNat).toArray⟩ ++ ⟨(byN 4 c.toNat).toArray⟩ := by
    unfold ofK
    refine (bytes_ext _ _ ?_).symm
    simp
  rw [hk]
  clear hk h h1
  generalize (⟨(byN 8 b.toNat).toArray⟩ : ByteArray) = p1 at *
  generalize (⟨(byN 4 c.toNat).toArray⟩ : ByteArray) = p2 at *
  simp only [show ((8 : Nat) : Int) = 8 from rfl, show ((4 : Nat) : Int) = 4 from rfl] at hb1 hb2
  have B1 := Lib.hid hb1
  have B2 := Lib.hid hb2
  have q1 : ¬ 9223372036854775807 < 1 + p1.size := by omega
  have q2 : ¬ 9223372036854775807 < 1 + p1.size + p2.size := by omega
  clear hb1 hb2 hz1 hz2 hb hc
  go_enter Tryz.func69, Tryz.ntmps69
  go_wp2_with (first
    | (with_reducible refine (B1.out _ H3.out).mono ?_; clear H3; rintro ev w2 ⟨rfl, h⟩; have H3 := Lib.hid h; clear h)
    | (with_reducible refine (B2.out _ H3.out).mono ?_; clear H3; rintro ev w2 ⟨rfl, h⟩; have H3 := Lib.hid h; clear h)
    | (with_reducible refine at_slot (k := none) ?_; refine wpList_store_whole (o := ⟨none, _, _, _, _, _⟩) (cs := [.string ⟨#[]⟩, .string ⟨#[]⟩]) (vs := [.string (⟨#[109]⟩ ++ p1 ++ p2), .string v]) H3.out rfl (pair_one _ v) (by kernel_rfl) rfl rfl rfl rfl ?_; clear H3; intro w7 h; have H9 := Lib.hid h; clear h))
  refine bodyPost_ret (results_arr rfl rfl H9.out hd hrow (by kernel_rfl)) rfl ?_
  exact ⟨rfl, H9.out.drop⟩
set_option maxRecDepth 20000 in
set_option maxHeartbeats 8000000 in
theorem xoftok_any (a b c : Int) (s : ByteArray) (d : Int) (f : Bool) (e g : Int) (r : ByteArray) (w : World) (h : Own E w L) :
    Calls Tryz.prog 15 #[.agg (tokC a b c s d f e g r).toArray] w fun ev w' => ev = .returned (itemV (ofR a b c s d f e g r)) ∧ Own E w' L := by
  have h1 := h.alloc (.cells (tokC a b c s d f e g r).toArray TOKT)
  have h2 := h1.alloc (.cells #[.string ⟨#[]⟩, .string ⟨#[]⟩] ITT)
  rw [alloc_size] at h2
  have H3 := Lib.hid h2
  obtain ⟨dd, hd, hrow⟩ := itt_u
  by_cases hm : tokMay a b c s d f e g r
  · have HR : Hid (ofR a b c s d f e g r = (ofK b c, ofV a, 0)) := Lib.hid (if_pos hm)
    have KM : Hid (∀ w3 : World, Own E w3 (Hp.blk (w.heap.size + 1) ITT #[.string ⟨#[]⟩, .string ⟨#[]⟩] :: Hp.blk w.heap.size TOKT (tokC a b c s d f e g r).toArray :: L) → Calls Tryz.prog 63 #[.agg (tokC a b c s d f e g r).toArray] w3 fun ev w' => ev = .returned (.bool true) ∧ Own E w' (Hp.blk (w.heap.size + 1) ITT #[.string ⟨#[]⟩, .string ⟨#[]⟩] :: Hp.blk w.heap.size TOKT (tokC a b c s d f e g r).toArray :: L)) := Lib.hid fun w3 h3 => (xtokenmay_any a b c s d f e g r w3 h3).mono fun ev w' he => ⟨by rw [he.1, decide_eq_true hm], he.2⟩
    obtain ⟨c1, c2, c3, -⟩ := tok_range hm
    have B1 : Hid (∀ w3 : World, Own E w3 (Hp.blk (w.heap.size + 1) ITT #[.string ⟨#[]⟩, .string ⟨#[]⟩] :: Hp.blk w.heap.size TOKT (tokC a b c s d f e g r).toArray :: L) → Calls Tryz.prog 64 #[.int .i64 a, .int .i64 8] w3 fun ev w' => ev = .returned (.string (ofV a)) ∧ Own E w' (Hp.blk (w.heap.size + 1) ITT #[.string ⟨#[]⟩, .string ⟨#[]⟩] :: Hp.blk w.heap.size TOKT (tokC a b c s d f e g r).toArray :: L)) := Lib.hid fun w3 h3 => by_any a 8 w3 (by omega) (by omega) (by omega) h3
    have HC : Hid (∀ w', Own E w' (Hp.blk (w.heap.size + 1) ITT #[.string ⟨#[]⟩, .string ⟨#[]⟩] :: Hp.blk w.heap.size TOKT (tokC a b c s d f e g r).toArray :: L) → w'.cell? ⟨w.heap.size, 0, none⟩ = some (.int .i64 a) ∧ w'.cell? ⟨w.heap.size, 1, none⟩ = some (.int .i64 b) ∧ w'.cell? ⟨w.heap.size, 2, none⟩ = some (.int .i64 c)) := Lib.hid fun w' h => ⟨by rw [h.f1.cell 0]; rfl, by rw [h.f1.cell 1]; rfl, by rw [h.f1.cell 2]; rfl⟩
    have M1 := Lib.hid fun w3 (h3 : Own E w3 (Hp.blk (w.heap.size + 1) ITT #[.string ⟨#[]⟩, .string ⟨#[]⟩] :: Hp.blk w.heap.size TOKT (tokC a b c s d f e g r).toArray :: L)) => member_any b c (ofV a) w3 c2 c3 h3
    clear h h1 h2 hm c1 c2 c3
    generalize ofV a = x2 at *
    generalize ofK b c = x1 at *
    unfold tokC at *
    go_enter Tryz.func15, Tryz.ntmps15
    go_wp2_with (with_reducible refine (KM.out _ H3.out).mono ?_; clear H3; rintro ev w2 ⟨rfl, h⟩; have H3 := Lib.hid h; clear h)
    have h := H3.out.drew
    clear H3
    refine wp_region_text [1, 3, 5] (fun w' => w'.cell? ⟨w.heap.size, 0, none⟩ = some (.int .i64 a) ∧ w'.cell? ⟨w.heap.size, 1, none⟩ = some (.int .i64 b) ∧ w'.cell? ⟨w.heap.size, 2, none⟩ = some (.int .i64 c)) (by kernel_rfl) ?_ (fun hS => ?_)
    · exact HC.out _ h
    refine wpAnyG_pure (i := 0) (oi := ⟨some 10, _, _, _, _, _⟩) (v := ?_) rfl (by kernel_rfl) (by kernel_rfl) (by kernel_rfl) (by rfl) (fun _ _ _ h => h) (by rfl) ?_ ?_
    rotate_left
    · intro w
      go_simp
      first | done | with_reducible rfl
    try simp only [Act.put, List.setIfInBounds_toArray, List.set_cons_zero, List.set_cons_succ]
    refine wpAnyG_load (i := 1) (oi := ⟨some 11, _, _, _, _, _⟩) (v := (.int .i64 b)) rfl (by kernel_rfl) (by kernel_rfl) (by kernel_rfl) (by rfl) (fun _ _ _ h => h) (by rfl) ?_ (by assumption) ?_
    · intro w hS
      obtain ⟨b0, b1, b2⟩ := hS; go_simp; first | done | with_reducible rfl
    try simp only [Act.put, List.setIfInBounds_toArray, List.set_cons_zero, List.set_cons_succ]
    refine wpAnyG_pure (i := 2) (oi := ⟨some 12, _, _, _, _, _⟩) (v := ?_) rfl (by kernel_rfl) (by kernel_rfl) (by kernel_rfl) (by rfl) (fun _ _ _ h => h) (by rfl) ?_ ?_
    rotate_left
    · intro w
      go_simp
      first | done | with_reducible rfl
    try simp only [Act.put, List.setIfInBounds_toArray, List.set_cons_zero, List.set_cons_succ]
    refine wpAnyG_load (i := 3) (oi := ⟨some 13, _, _, _, _, _⟩) (v := (.int .i64 c)) rfl (by kernel_rfl) (by kernel_rfl) (by kernel_rfl) (by rfl) (fun _ _ _ h => h) (by rfl) ?_ (by assumption) ?_
    · intro w hS
      obtain ⟨b0, b1, b2⟩ := hS; go_simp; first | done | with_reducible rfl
    try simp only [Act.put, List.setIfInBounds_toArray, List.set_cons_zero, List.set_cons_succ]
    refine wpAnyG_pure (i := 4) (oi := ⟨some 14, _, _, _, _, _⟩) (v := ?_) rfl (by kernel_rfl) (by kernel_rfl) (by kernel_rfl) (by rfl) (fun _ _ _ h => h) (by rfl) ?_ ?_
    rotate_left
    · intro w
      go_simp
      first | done | with_reducible rfl
    try simp only [Act.put, List.setIfInBounds_toArray, List.set_cons_zero, List.set_cons_succ]
    refine wpAnyG_load (i := 5) (oi := ⟨some 15, _, _, _, _, _⟩) (v := (.int .i64 a)) rfl (by kernel_rfl) (by kernel_rfl) (by kernel_rfl) (by rfl) (fun _ _ _ h => h) (by rfl) ?_ (by assumption) ?_
    · intro w hS
      obtain ⟨b0, b1, b2⟩ := hS; go_simp; first | done | with_reducible rfl
    try simp only [Act.put, List.setIfInBounds_toArray, List.set_cons_zero, List.set_cons_succ]
    refine wpAnyG_keep (i := 6) (oi := ⟨some 16, _, _, _, _, _⟩) (by kernel_rfl) rfl (fun K hK => ?_)
    rw [if_pos (by rfl)]
    go_simp
    refine (B1.out _ h).mono ?_
    clear h
    rintro ev w2 ⟨rfl, h⟩
    refine hK.out _ _ ?_ (fun hS => ?_)
    · exact HC.out _ h
    clear hK K
    try simp only [Act.put, List.setIfInBounds_toArray, List.set_cons_zero, List.set_cons_succ]
    refine wpAnyG_keep (i := 7) (oi := ⟨some 17, _, _, _, _, _⟩) (by kernel_rfl) rfl (fun K hK => ?_)
    rw [if_pos (by rfl)]
    go_simp
    refine (M1.out _ h).mono ?_
    clear h
    rintro ev w2 ⟨rfl, h⟩
    refine hK.out _ _ ?_ (fun hS => ?_)
    · exact HC.out _ h
    clear hK K
    try simp only [Act.put, List.setIfInBounds_toArray, List.set_cons_zero, List.set_cons_succ]
    refine wpAnyG_break (i := 8) (oi := ⟨none, _, _, _, _, _⟩) (by kernel_rfl) rfl (by kernel_rfl) (fun K hK => ?_)
    rw [if_pos (by rfl)]
    refine wp_store_whole (cs := [.string ⟨#[]⟩, .string ⟨#[]⟩]) (vs := [.string x1, .string x2]) h rfl (pair_one _ _) (by kernel_rfl) rfl rfl rfl (fun w9 h => ?_)
    refine hK.out _ _ ?_
    clear hK K
    try simp only [Act.put]
    refine wpAnyG_pure (i := 9) (oi := ⟨some 3, _, _, _, _, _⟩) (v := ?_) rfl (by kernel_rfl) (by kernel_rfl) (by kernel_rfl) (by rfl) (fun _ _ _ h => h) (by rfl) ?_ ?_
    rotate_left
    · intro w
      go_simp
      first | done | with_reducible rfl
    try simp only [Act.put, List.setIfInBounds_toArray, List.set_cons_zero, List.set_cons_succ]
    refine wpAnyG_done (by kernel_rfl) ?_ _
    refine NoPanic.normal ?_
    go_wp2_with fail
    refine bodyPost_ret (results_ct rfl rfl h hd hrow (by kernel_rfl)) rfl ?_
    exact ⟨by rw [HR.out]; rfl, h.drop.drop⟩
  · have HR : Hid (ofR a b c s d f e g r = (noB, noB, 140)) := Lib.hid (if_neg hm)
    have KM : Hid (∀ w3 : World, Own E w3 (Hp.blk (w.heap.size + 1) ITT #[.string ⟨#[]⟩, .string ⟨#[]⟩] :: Hp.blk w.heap.size TOKT (tokC a b c s d f e g r).toArray :: L) → Calls Tryz.prog 63 #[.agg (tokC a b c s d f e g r).toArray] w3 fun ev w' => ev = .returned (.bool false) ∧ Own E w' (Hp.blk (w.heap.size + 1) ITT #[.string ⟨#[]⟩, .string ⟨#[]⟩] :: Hp.blk w.heap.size TOKT (tokC a b c s d f e g r).toArray :: L)) := Lib.hid fun w3 h3 => (xtokenmay_any a b c s d f e g r w3 h3).mono fun ev w' he => ⟨by rw [he.1, decide_eq_false hm], he.2⟩
    clear h h1 h2 hm
    unfold tokC at *
    go_enter Tryz.func15, Tryz.ntmps15
    go_wp2_with (first
      | (with_reducible refine (KM.out _ H3.out).mono ?_; clear H3; rintro ev w2 ⟨rfl, h⟩; have H3 := Lib.hid h; clear h)
      | (with_reducible refine at_slot (k := none) ?_; refine wpList_store_whole (o := ⟨none, _, _, _, _, _⟩) (cs := [.string ⟨#[]⟩, .string ⟨#[]⟩]) (vs := [.string ⟨#[]⟩, .string ⟨#[]⟩]) H3.out rfl (pair_one ⟨#[]⟩ ⟨#[]⟩) (by kernel_rfl) rfl rfl rfl rfl ?_; clear H3; intro w7 h; have H8 := Lib.hid h; clear h))
    refine bodyPost_ret (results_ct rfl rfl H8.out hd hrow (by kernel_rfl)) rfl ?_
    exact ⟨by rw [HR.out]; rfl, H8.out.drop.drop⟩
end
end Go.Proofs.YtabibfabieghpaaGreatDoor
namespace Go.Proofs.YtabibfabieghpaaGreatDoor
open Go.RowKit
/-- eqFields, told by what it reads of the fields. -/
def eqF (d : Nat) (xs ys : Array Value) : List (Bool × TypeId × Nat) → Sem Bool
  | [] => pure true
  | f :: fs =>
    if f.1 = true then do
      let a ← part f.2.1 xs f.2.2
      let b ← part f.2.1 ys f.2.2
      let r ← Op.equalIn d f.2.1 a b
      if (!r) = true then pure false else eqF d xs ys fs
    else eqF d xs ys fs
abbrev fTold (f : Field) : Bool × TypeId × Nat := (decide (f.name ≠ "_"), f.type, f.offset)
theorem eqF_of (d : Nat) (xs ys : Array Value) : ∀ fs : List Field, Op.eqFields d xs ys fs = eqF d xs ys (fs.map fTold)
  | [] => rfl
  | f :: fs => by
    have ih := eqF_of d xs ys fs
    rw [List.map_cons]
    unfold Op.eqFields eqF
    simp only [ih, decide_eq_true_eq]
theorem beq_str (a b : ByteArray) : (a.toList == b.toList) = decide (a = b) := by
  rw [Bool.eq_iff_iff, beq_iff_eq, decide_eq_true_eq, ByteArray.toList_eq, ByteArray.toList_eq]
  constructor
  · intro h
    exact (bytes_ext a _ h).trans (bytes_ext b _ rfl).symm
  · rintro rfl; rfl
section
variable {w : World}
theorem eq_pair (k v k' v' : ByteArray) : (Op.equalIn 10000 ITT (.agg #[.string k, .string v]) (.agg #[.string k', .string v'])).run Tryz.prog w = .ok (decide (k = k' ∧ v = v')) w := by
  have hu : (Tryz.prog).underlying ITT = some (.struct ((Tryz.prog).fieldsOf ITT)) := by kernel_rfl
  rw [run_equalIn_struct w 9999 ITT _ _ hu (by kernel_rfl), eqF_of, show ((Tryz.prog).fieldsOf ITT).toList.map fTold = [(true, 9, 0), (true, 9, 1)] by kernel_rfl]
  cases h1 : decide (k = k') <;> cases h2 : decide (v = v') <;> simp_all [eqF, part, run_equalIn_string, beq_str]
theorem run_pair (k v k' v' : ByteArray) : (binOp .neq ITT (.agg #[.string k, .string v]) (.agg #[.string k', .string v'])).run Tryz.prog w = .ok (.bool (!decide (k = k' ∧ v = v'))) w := by
  rw [run_neq_struct, eq_pair]; rfl
theorem eq_key (g : Int) (s : ByteArray) (a b : Int) : (Op.equalIn 10000 25 (.agg #[.int .i64 g, .string s, .int .i64 a, .int .i64 b]) (.agg #[.int .i64 g, .string s, .int .i64 a, .int .i64 b])).run Tryz.prog w = .ok true w := by
  have hu : (Tryz.prog).underlying 25 = some (.struct ((Tryz.prog).fieldsOf 25)) := by kernel_rfl
  rw [run_equalIn_struct w 9999 _ _ _ hu (by kernel_rfl), eqF_of, show ((Tryz.prog).fieldsOf 25).toList.map fTold = [(true, 3, 0), (true, 9, 1), (true, 3, 2), (true, 3, 3)] by kernel_rfl]
  simp [eqF, part, run_equalIn_string, run_equalIn_int]
theorem eq_event (i t k j : Int) (s : ByteArray) : (Op.equalIn 10000 27 (.agg #[.int .i64 i, .int .i64 t, .int .i64 k, .int .i64 j, .string s]) (.agg #[.int .i64 i, .int .i64 t, .int .i64 k, .int .i64 j, .string s])).run Tryz.prog w = .ok true w := by
  have hu : (Tryz.prog).underlying 27 = some (.struct ((Tryz.prog).fieldsOf 27)) := by kernel_rfl
  rw [run_equalIn_struct w 9999 _ _ _ hu (by kernel_rfl), eqF_of, show ((Tryz.prog).fieldsOf 27).toList.map fTold = [(true, 3, 0), (true, 3, 1), (true, 3, 2), (true, 3, 3), (true, 9, 4)] by kernel_rfl]
  simp [eqF, part, run_equalIn_string, run_equalIn_int]
theorem eq_chain (a b : Int) (s r : ByteArray) : (Op.equalIn 10000 29 (.agg #[.int .i64 a, .int .i64 b, .string s, .string r]) (.agg #[.int .i64 a, .int .i64 b, .string s, .string r])).run Tryz.prog w = .ok true w := by
  have hu : (Tryz.prog).underlying 29 = some (.struct ((Tryz.prog).fieldsOf 29)) := by kernel_rfl
  rw [run_equalIn_struct w 9999 _ _ _ hu (by kernel_rfl), eqF_of, show ((Tryz.prog).fieldsOf 29).toList.map fTold = [(true, 3, 0), (true, 3, 1), (true, 9, 2), (true, 9, 3)] by kernel_rfl]
  simp [eqF, part, run_equalIn_string, run_equalIn_int]
theorem eq_tok (a b c : Int) (s : ByteArray) (d : Int) (f : Bool) (e g : Int) (r : ByteArray) : (Op.equalIn 10000 TOKT (.agg (tokC a b c s d f e g r).toArray) (.agg (tokC a b c s d f e g r).toArray)).run Tryz.prog w = .ok true w := by
  have hu : (Tryz.prog).underlying TOKT = some (.struct ((Tryz.prog).fieldsOf TOKT)) := by kernel_rfl
  rw [run_equalIn_struct w 9999 _ _ _ hu (by kernel_rfl), eqF_of, show ((Tryz.prog).fieldsOf TOKT).toList.map fTold = [(true, 3, 0), (true, 3, 1), (true, 3, 2), (true, 9, 3), (true, 3, 4), (true, 4, 5), (true, 3, 6), (true, 3, 7), (true, 9, 8)] by kernel_rfl]
  simp [tokC, eqF, part, run_equalIn_string, run_equalIn_int, run_equalIn_bool]
end
end Go.Proofs.YtabibfabieghpaaGreatDoor
