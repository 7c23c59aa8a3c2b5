/- ParseChain. ParseNote. -/
import Derived.Test.YtabibfabieghpaaGreatDoorPaEvent
namespace Go.Proofs.YtabibfabieghpaaGreatDoor
open Go.RowKit
abbrev CHT : TypeId := 29
/-- The cells of a block. -/
theorem places_all {E : World} (b : Nat) (t : TypeId) (n : Nat) : Places E (fun vs => Hp.blk b t vs.toArray) ((List.range n).map fun i => ⟨b, i, none⟩) where
  set w vs i ad v M hl hi h := by
    have hlen : vs.length = n := by simpa using hl
    have hin : i < n := by
      have := (List.getElem?_eq_some_iff.1 hi).1
      simpa using this
    obtain rfl : (⟨b, i, none⟩ : Addr) = ad := by simpa [List.getElem?_map, List.getElem?_range hin] using hi
    obtain ⟨h1, h2, h3⟩ := h.put1 i v (by rw [List.size_toArray]; omega)
    refine ⟨h1, h2, ?_⟩
    have e : vs.toArray.setIfInBounds i v = (vs.set i v).toArray := by simp
    rw [e] at h3
    exact h3
def chainKs : List Fk := [.num 8, .num 8, .raw 32, .raw 32]
def hB : ByteArray := ⟨#[104]⟩
def chainQ (k v : ByteArray) : List Value × Int :=
  if k = hB ∧ (readV chainKs v).2 = true ∧ (chainR ((readV chainKs v).1.getD 0 (.n 0)).num ((readV chainKs v).1.getD 1 (.n 0)).num ((readV chainKs v).1.getD 2 (.n 0)).str ((readV chainKs v).1.getD 3 (.n 0)).str).2.2 = 0 then
    ([.int .i64 ((readV chainKs v).1.getD 0 (.n 0)).num, .int .i64 ((readV chainKs v).1.getD 1 (.n 0)).num, .string ((readV chainKs v).1.getD 2 (.n 0)).str, .string ((readV chainKs v).1.getD 3 (.n 0)).str], 0)
  else ([.int .i64 0, .int .i64 0, .string noB, .string noB], 141)
theorem cht_u : ∃ d, Tryz.prog.underlying CHT = some d ∧ d.isRow = true := by
  cases e : Tryz.prog.underlying CHT with
  | none => exact absurd e (by rw [Tryz.underlying29]; simp)
  | some d => exact ⟨d, rfl, by rw [Tryz.underlying29] at e; injection e with e; subst e; rfl⟩
theorem chain_one (a b : Int) (s r : ByteArray) : ∀ v ∈ [Value.int .i64 a, .int .i64 b, .string s, .string r], v.oneCell' = true := fun v hv => by
  simp only [List.mem_cons, List.not_mem_nil, or_false] at hv
  rcases hv with rfl | rfl | rfl | rfl <;> rfl
section
variable {E : World} {L : List Hp}
set_option maxRecDepth 20000 in
set_option maxHeartbeats 8000000 in
theorem parsechain_any (k v : ByteArray) (w : World) (hv : v.size ≤ 1000000000000) (hG : Laid0 E L) (h : Own E w L) :
    Calls Tryz.prog 24 #[.agg #[.string k, .string v]] w fun ev w' => ev = .returned (.tuple #[.agg (chainQ k v).1.toArray, .int .i64 (chainQ k v).2]) ∧ Own E w' L := by
  have h1 := h.alloc (.cells #[.string k, .string v] ITT)
  have h2 := h1.alloc (.cells #[.int .i64 0, .int .i64 0, .string ⟨#[]⟩, .string ⟨#[]⟩] CHT)
  have h3 := h2.alloc (.cells #[.int .i64 0, .int .i64 0, .string ⟨#[]⟩, .string ⟨#[]⟩] CHT)
  rw [alloc_size, alloc_size] at h3
  have H3 := Lib.hid (show Own E _ (Hp.blk (w.heap.size + 1 + 1) CHT #[.int .i64 0, .int .i64 0, .string ⟨#[]⟩, .string ⟨#[]⟩] :: Hp.blk (w.heap.size + 1) CHT #[.int .i64 0, .int .i64 0, .string ⟨#[]⟩, .string ⟨#[]⟩] :: Hp.blk w.heap.size ITT #[.string k, .string v] :: L) from h3)
  obtain ⟨dd, hd, hrow⟩ := cht_u
  have HC : Hid (∀ (w' : World) (A B : Hp), Own E w' (A :: B :: Hp.blk w.heap.size ITT #[.string k, .string v] :: L) → w'.cell? ⟨w.heap.size, 0, none⟩ = some (.string k) ∧ w'.cell? ⟨w.heap.size, 1, none⟩ = some (.string v)) := Lib.hid fun w' A B h => ⟨by rw [h.f2.cell 0]; rfl, by rw [h.f2.cell 1]; rfl⟩
  clear h h1 h2 h3
  by_cases hkk : k = hB
  · obtain ⟨a, b, s, r, ok, hr⟩ : ∃ a b s r ok, readV chainKs v = ([.n a, .n b, .s s, .s r], ok) := ⟨_, _, _, _, _, rfl⟩
    have KR : Hid (∀ (bb : Nat) (w3 : World), Own E w3 (Hp.blk bb FT ((chainFs (w.heap.size + 1 + 1)).flatMap enF).toArray :: Hp.blk (w.heap.size + 1 + 1) CHT #[.int .i64 0, .int .i64 0, .string ⟨#[]⟩, .string ⟨#[]⟩] :: Hp.blk (w.heap.size + 1) CHT #[.int .i64 0, .int .i64 0, .string ⟨#[]⟩, .string ⟨#[]⟩] :: Hp.blk w.heap.size ITT #[.string k, .string v] :: L) →
        Calls Tryz.prog 67 #[.slice (some ⟨bb, 0, none⟩) 4 4, .string v] w3 fun ev w' => ev = .returned (.bool ok) ∧ Own E w' (Hp.blk (w.heap.size + 1 + 1) CHT #[.int .i64 a, .int .i64 b, .string s, .string r] :: Hp.blk (w.heap.size + 1) CHT #[.int .i64 0, .int .i64 0, .string ⟨#[]⟩, .string ⟨#[]⟩] :: Hp.blk w.heap.size ITT #[.string k, .string v] :: L)) := Lib.hid fun bb w3 h3 => by
      have hh := read_blk (E := E) bb 4 (chainFs (w.heap.size + 1 + 1)) v (fun vs => Hp.blk (w.heap.size + 1 + 1) CHT vs.toArray) [.int .i64 0, .int .i64 0, .string ⟨#[]⟩, .string ⟨#[]⟩] w3 rfl (by omega) hv (places_all _ _ 4) rfl hG.cons.cons h3
      rw [show (chainFs (w.heap.size + 1 + 1)).map (·.1) = chainKs from rfl, hr] at hh
      exact hh
    have HG := Lib.hid hG
    have HPR : Hid (∀ w3 : World, Own E w3 (Hp.blk (w.heap.size + 1 + 1) CHT #[.int .i64 a, .int .i64 b, .string s, .string r] :: Hp.blk (w.heap.size + 1) CHT #[.int .i64 0, .int .i64 0, .string ⟨#[]⟩, .string ⟨#[]⟩] :: Hp.blk w.heap.size ITT #[.string k, .string v] :: L) → Calls Tryz.prog 22 #[.agg #[.int .i64 a, .int .i64 b, .string s, .string r]] w3 fun ev w' => ev = .returned (.tuple #[.agg #[.string (chainR a b s r).1, .string (chainR a b s r).2.1], .int .i64 (chainR a b s r).2.2]) ∧ Own E w' (Hp.blk (w.heap.size + 1 + 1) CHT #[.int .i64 a, .int .i64 b, .string s, .string r] :: Hp.blk (w.heap.size + 1) CHT #[.int .i64 0, .int .i64 0, .string ⟨#[]⟩, .string ⟨#[]⟩] :: Hp.blk w.heap.size ITT #[.string k, .string v] :: L)) := Lib.hid fun w3 h3 => printchain_any a b s r w3 HG.out.cons.cons.cons h3
    have HQ : Hid (chainQ k v = if ok = true ∧ (chainR a b s r).2.2 = 0 then ([.int .i64 a, .int .i64 b, .string s, .string r], 0) else ([.int .i64 0, .int .i64 0, .string noB, .string noB], 141)) := Lib.hid (by
      unfold chainQ
      rw [hr]
      show (if k = hB ∧ ok = true ∧ (chainR a b s r).2.2 = 0 then _ else _) = _
      by_cases hc : ok = true ∧ (chainR a b s r).2.2 = 0
      · rw [if_pos hc, if_pos ⟨hkk, hc⟩]; rfl
      · rw [if_neg hc, if_neg fun q => hc q.2])
    have hne : (k.toList == [104]) = true := by rw [hkk]; show ((⟨#[104]⟩ : ByteArray).toList == [104]) = true; rw [ByteArray.toList_eq]; rfl
    clear hr hG hv hkk
    go_enter Tryz.func24, Tryz.ntmps24
    go_wp2_with fail
    have h := H3.out.drew
    clear H3
    refine wp_region_text [1, 6] (fun w' => w'.cell? ⟨w.heap.size, 0, none⟩ = some (.string k) ∧ w'.cell? ⟨w.heap.size, 1, none⟩ = some (.string v)) (by kernel_rfl) ?_ (fun hS => ?_)
    · exact HC.out _ _ _ h
    refine wpAnyG_pure (i := 0) (oi := ⟨some 7, _, _, _, _, _⟩) (v := ?_) rfl (by kernel_rfl) (by kernel_rfl) (by kernel_rfl) (by rfl) (fun _ _ _ h => h) (by rfl) ?_ ?_
    rotate_left
    · intro w
      go_simp
      first | done | with_reducible rfl
    try simp only [Act.put, List.setIfInBounds_toArray, List.set_cons_zero, List.set_cons_succ]
    refine wpAnyG_load (i := 1) (oi := ⟨some 8, _, _, _, _, _⟩) (v := (.string k)) rfl (by kernel_rfl) (by kernel_rfl) (by kernel_rfl) (by rfl) (fun _ _ _ h => h) (by rfl) ?_ (by assumption) ?_
    · intro w hS
      obtain ⟨b0, b1⟩ := hS; go_simp; first | done | with_reducible rfl
    try simp only [Act.put, List.setIfInBounds_toArray, List.set_cons_zero, List.set_cons_succ]
    refine wpAnyG_pure (i := 2) (oi := ⟨some 9, _, _, _, _, _⟩) (v := (.bool false)) rfl (by kernel_rfl) (by kernel_rfl) (by kernel_rfl) (by rfl) (fun _ _ _ h => h) (by rfl) ?_ ?_
    · intro w
      go_simp; first | done | with_reducible rfl
    try simp only [Act.put, List.setIfInBounds_toArray, List.set_cons_zero, List.set_cons_succ]
    refine wpAnyG_pure (i := 3) (oi := ⟨some 10, _, _, _, _, _⟩) (v := ?_) rfl (by kernel_rfl) (by kernel_rfl) (by kernel_rfl) (by rfl) (fun _ _ _ h => h) (by rfl) ?_ ?_
    rotate_left
    · intro w
      go_simp
      first | done | with_reducible rfl
    try simp only [Act.put, List.setIfInBounds_toArray, List.set_cons_zero, List.set_cons_succ]
    refine wpAnyG_pure (i := 5) (oi := ⟨some 12, _, _, _, _, _⟩) (v := ?_) rfl (by kernel_rfl) (by kernel_rfl) (by kernel_rfl) (by rfl) (fun _ _ _ h => h) (by rfl) ?_ ?_
    rotate_left
    · intro w
      go_simp
      first | done | with_reducible rfl
    try simp only [Act.put, List.setIfInBounds_toArray, List.set_cons_zero, List.set_cons_succ]
    refine wpAnyG_load (i := 6) (oi := ⟨some 13, _, _, _, _, _⟩) (v := (.string v)) rfl (by kernel_rfl) (by kernel_rfl) (by kernel_rfl) (by rfl) (fun _ _ _ h => h) (by rfl) ?_ (by assumption) ?_
    · intro w hS
      obtain ⟨b0, b1⟩ := hS; go_simp; first | done | with_reducible rfl
    try simp only [Act.put, List.setIfInBounds_toArray, List.set_cons_zero, List.set_cons_succ]
    refine wpAnyG_keep (i := 4) (oi := ⟨some 11, _, _, _, _, _⟩) (by kernel_rfl) rfl (fun K hK => ?_)
    rw [if_pos (by rfl)]
    go_simp
    refine (chainfields_any _ _ h).mono ?_
    clear h
    rintro ev w2 ⟨bb, rfl, h⟩
    refine hK.out _ _ ?_ (fun hS => ?_)
    · exact HC.out _ _ _ h.drop
    clear hK K
    try simp only [Act.put, List.setIfInBounds_toArray, List.set_cons_zero, List.set_cons_succ]
    refine wpAnyG_keep (i := 7) (oi := ⟨some 14, _, _, _, _, _⟩) (by kernel_rfl) rfl (fun K hK => ?_)
    rw [if_pos (by rfl)]
    go_simp
    refine (KR.out _ _ h).mono ?_
    clear h
    rintro ev w2 ⟨rfl, h⟩
    refine hK.out _ _ ?_ (fun hS => ?_)
    · exact HC.out _ _ _ h
    clear hK K
    try simp only [Act.put, List.setIfInBounds_toArray, List.set_cons_zero, List.set_cons_succ]
    refine wpAnyG_pure (i := 8) (oi := ⟨some 15, _, _, _, _, _⟩) (v := ?_) rfl (by kernel_rfl) (by kernel_rfl) (by kernel_rfl) (by rfl) (fun _ _ _ h => h) (by rfl) ?_ ?_
    rotate_left
    · intro w
      go_simp
      first | done | with_reducible rfl
    try simp only [Act.put, List.setIfInBounds_toArray, List.set_cons_zero, List.set_cons_succ]
    refine wpAnyG_pure (i := 9) (oi := ⟨some 16, _, _, _, _, _⟩) (v := ?_) rfl (by kernel_rfl) (by kernel_rfl) (by kernel_rfl) (by rfl) (fun _ _ _ h => h) (by rfl) ?_ ?_
    rotate_left
    · intro w
      go_simp
      first | done | with_reducible rfl
    try simp only [Act.put, List.setIfInBounds_toArray, List.set_cons_zero, List.set_cons_succ]
    refine wpAnyG_done (by kernel_rfl) ?_ _
    refine NoPanic.normal ?_
    have hq := HQ.out
    cases ok with
    | false =>
      rw [if_neg (fun hm => by cases hm.1)] at hq
      have HR := Lib.hid hq
      have H3 := Lib.hid h.f1
      clear h hq
      go_wp2_with (with_reducible refine at_slot (k := none) ?_; refine wpList_store_whole (o := ⟨none, _, _, _, _, _⟩) (cs := [.int .i64 0, .int .i64 0, .string ⟨#[]⟩, .string ⟨#[]⟩]) (vs := [.int .i64 0, .int .i64 0, .string ⟨#[]⟩, .string ⟨#[]⟩]) H3.out rfl (chain_one _ _ _ _) (by kernel_rfl) rfl rfl rfl rfl ?_; clear H3; intro w7 h; have H8 := Lib.hid h; clear h)
      refine bodyPost_ret (results_ct rfl rfl H8.out hd hrow (by kernel_rfl)) rfl ?_
      exact ⟨by rw [HR.out]; rfl, H8.out.drop.drop.drop⟩
    | true =>
      have H3 := Lib.hid h
      clear h
      obtain ⟨x1, x2, er, hpr⟩ : ∃ x1 x2 er, chainR a b s r = (x1, x2, er) := ⟨_, _, _, rfl⟩
      rw [hpr] at HPR hq
      clear hpr HQ
      by_cases he : er = 0
      · subst he
        rw [if_pos ⟨rfl, rfl⟩] at hq
        have HR := Lib.hid hq
        clear hq
        go_wp2_with (first
          | (with_reducible refine at_slot (k := some 19) ?_; refine wpList_load_arr (o := ⟨some 19, _, _, _, _, _⟩) H3.out 0 [.int .i64 a, .int .i64 b, .string s, .string r] (fun jj u hu => by simpa using hu) hd hrow (by kernel_rfl) rfl rfl rfl ?_)
          | (with_reducible refine (HPR.out _ H3.out).mono ?_; clear H3; rintro ev w2 ⟨rfl, h⟩; have H3 := Lib.hid (h.alloc (.cells #[.string x1, .string x2] ITT)); clear h)
          | (with_reducible refine at_slot (k := some 26) ?_; refine wpList_load_arr (o := ⟨some 26, _, _, _, _, _⟩) H3.out.f1 0 [.int .i64 a, .int .i64 b, .string s, .string r] (fun jj u hu => by simpa using hu) hd hrow (by kernel_rfl) rfl rfl rfl ?_)
          | (with_reducible refine at_slot (k := none) ?_; refine wpList_store_whole (o := ⟨none, _, _, _, _, _⟩) (cs := [.int .i64 0, .int .i64 0, .string ⟨#[]⟩, .string ⟨#[]⟩]) (vs := [.int .i64 a, .int .i64 b, .string s, .string r]) H3.out.f2 rfl (chain_one _ _ _ _) (by kernel_rfl) rfl rfl rfl rfl ?_; clear H3; intro w7 h; have H8 := Lib.hid h; clear h))
        refine bodyPost_ret (results_ct rfl rfl H8.out hd hrow (by kernel_rfl)) rfl ?_
        exact ⟨by rw [HR.out]; rfl, H8.out.drop.drop.drop.drop⟩
      · rw [if_neg (fun hm => he hm.2)] at hq
        have HR := Lib.hid hq
        have hz : (er != 0) = true := by rw [bne_iff_ne]; exact he
        clear hq he
        go_wp2_with (first
          | (with_reducible refine at_slot (k := some 19) ?_; refine wpList_load_arr (o := ⟨some 19, _, _, _, _, _⟩) H3.out 0 [.int .i64 a, .int .i64 b, .string s, .string r] (fun jj u hu => by simpa using hu) hd hrow (by kernel_rfl) rfl rfl rfl ?_)
          | (with_reducible refine (HPR.out _ H3.out).mono ?_; clear H3; rintro ev w2 ⟨rfl, h⟩; have H3 := Lib.hid (h.alloc (.cells #[.string x1, .string x2] ITT)); clear h)
          | (with_reducible refine at_slot (k := none) ?_; refine wpList_store_whole (o := ⟨none, _, _, _, _, _⟩) (cs := [.int .i64 0, .int .i64 0, .string ⟨#[]⟩, .string ⟨#[]⟩]) (vs := [.int .i64 0, .int .i64 0, .string ⟨#[]⟩, .string ⟨#[]⟩]) H3.out.f2 rfl (chain_one _ _ _ _) (by kernel_rfl) rfl rfl rfl rfl ?_; clear H3; intro w7 h; have H8 := Lib.hid h; clear h))
        refine bodyPost_ret (results_ct rfl rfl H8.out hd hrow (by kernel_rfl)) rfl ?_
        exact ⟨by rw [HR.out]; rfl, H8.out.drop.drop.drop.drop⟩
  · have HR : Hid (chainQ k v = ([.int .i64 0, .int .i64 0, .string noB, .string noB], 141)) := Lib.hid (if_neg fun hm => hkk hm.1)
    have hne : (k.toList == [104]) = false := by
      rw [beq_eq_false_iff_ne]
      intro q
      rw [ByteArray.toList_eq] at q
      exact hkk (bytes_ext k _ q)
    clear hG hv hkk
    go_enter Tryz.func24, Tryz.ntmps24
    go_wp2_with fail
    have h := H3.out.drew
    clear H3
    refine wp_region_text [1] (fun w' => w'.cell? ⟨w.heap.size, 0, none⟩ = some (.string k) ∧ w'.cell? ⟨w.heap.size, 1, none⟩ = some (.string v)) (by kernel_rfl) ?_ (fun hS => ?_)
    · exact HC.out _ _ _ h
    refine wpAnyG_pure (i := 0) (oi := ⟨some 7, _, _, _, _, _⟩) (v := ?_) rfl (by kernel_rfl) (by kernel_rfl) (by kernel_rfl) (by rfl) (fun _ _ _ h => h) (by rfl) ?_ ?_
    rotate_left
    · intro w
      go_simp
      first | done | with_reducible rfl
    try simp only [Act.put, List.setIfInBounds_toArray, List.set_cons_zero, List.set_cons_succ]
    refine wpAnyG_load (i := 1) (oi := ⟨some 8, _, _, _, _, _⟩) (v := (.string k)) rfl (by kernel_rfl) (by kernel_rfl) (by kernel_rfl) (by rfl) (fun _ _ _ h => h) (by rfl) ?_ (by assumption) ?_
    · intro w hS
      obtain ⟨b0, b1⟩ := hS; go_simp; first | done | with_reducible rfl
    try simp only [Act.put, List.setIfInBounds_toArray, List.set_cons_zero, List.set_cons_succ]
    refine wpAnyG_pure (i := 2) (oi := ⟨some 9, _, _, _, _, _⟩) (v := (.bool true)) rfl (by kernel_rfl) (by kernel_rfl) (by kernel_rfl) (by rfl) (fun _ _ _ h => h) (by rfl) ?_ ?_
    · intro w
      go_simp; first | done | with_reducible rfl
    try simp only [Act.put, List.setIfInBounds_toArray, List.set_cons_zero, List.set_cons_succ]
    refine wpAnyG_pure (i := 3) (oi := ⟨some 10, _, _, _, _, _⟩) (v := ?_) rfl (by kernel_rfl) (by kernel_rfl) (by kernel_rfl) (by rfl) (fun _ _ _ h => h) (by rfl) ?_ ?_
    rotate_left
    · intro w
      go_simp
      first | done | with_reducible rfl
    try simp only [Act.put, List.setIfInBounds_toArray, List.set_cons_zero, List.set_cons_succ]
    refine wpAnyG_skip (i := 4) (oi := ⟨some 11, _, _, _, _, _⟩) rfl (by kernel_rfl) (by kernel_rfl) (by kernel_rfl) (by rfl) (fun _ _ _ h => h) (by rfl) ?_
    try simp only [Act.put, List.setIfInBounds_toArray, List.set_cons_zero, List.set_cons_succ]
    refine wpAnyG_skip (i := 5) (oi := ⟨some 12, _, _, _, _, _⟩) rfl (by kernel_rfl) (by kernel_rfl) (by kernel_rfl) (by rfl) (fun _ _ _ h => h) (by rfl) ?_
    try simp only [Act.put, List.setIfInBounds_toArray, List.set_cons_zero, List.set_cons_succ]
    refine wpAnyG_skip (i := 6) (oi := ⟨some 13, _, _, _, _, _⟩) rfl (by kernel_rfl) (by kernel_rfl) (by kernel_rfl) (by rfl) (fun _ _ _ h => h) (by rfl) ?_
    try simp only [Act.put, List.setIfInBounds_toArray, List.set_cons_zero, List.set_cons_succ]
    refine wpAnyG_skip (i := 7) (oi := ⟨some 14, _, _, _, _, _⟩) rfl (by kernel_rfl) (by kernel_rfl) (by kernel_rfl) (by rfl) (fun _ _ _ h => h) (by rfl) ?_
    try simp only [Act.put, List.setIfInBounds_toArray, List.set_cons_zero, List.set_cons_succ]
    refine wpAnyG_skip (i := 8) (oi := ⟨some 15, _, _, _, _, _⟩) rfl (by kernel_rfl) (by kernel_rfl) (by kernel_rfl) (by rfl) (fun _ _ _ h => h) (by rfl) ?_
    try simp only [Act.put, List.setIfInBounds_toArray, List.set_cons_zero, List.set_cons_succ]
    refine wpAnyG_pure (i := 9) (oi := ⟨some 16, _, _, _, _, _⟩) (v := ?_) rfl (by kernel_rfl) (by kernel_rfl) (by kernel_rfl) (by rfl) (fun _ _ _ h => h) (by rfl) ?_ ?_
    rotate_left
    · intro w
      go_simp
      first | done | with_reducible rfl
    try simp only [Act.put, List.setIfInBounds_toArray, List.set_cons_zero, List.set_cons_succ]
    refine wpAnyG_done (by kernel_rfl) ?_ _
    refine NoPanic.normal ?_
    have H3 := Lib.hid h.f1
    clear h
    go_wp2_with (with_reducible refine at_slot (k := none) ?_; refine wpList_store_whole (o := ⟨none, _, _, _, _, _⟩) (cs := [.int .i64 0, .int .i64 0, .string ⟨#[]⟩, .string ⟨#[]⟩]) (vs := [.int .i64 0, .int .i64 0, .string ⟨#[]⟩, .string ⟨#[]⟩]) H3.out rfl (chain_one _ _ _ _) (by kernel_rfl) rfl rfl rfl rfl ?_; clear H3; intro w7 h; have H8 := Lib.hid h; clear h)
    refine bodyPost_ret (results_ct rfl rfl H8.out hd hrow (by kernel_rfl)) rfl ?_
    exact ⟨by rw [HR.out]; rfl, H8.out.drop.drop.drop⟩
end
end Go.Proofs.YtabibfabieghpaaGreatDoor
namespace Go.Proofs.YtabibfabieghpaaGreatDoor
open Go.RowKit
theorem Own.sep2 {E w : World} {A B : Hp} {L : List Hp} : Own E w (Hp.sep A B :: L) ↔ Own E w (A :: B :: L) := by
  unfold Own
  have e : Hp.all (Hp.sep A B :: L) = Hp.all (A :: B :: L) := Hp.sep_assoc A B (Hp.all L)
  rw [e]
theorem Own.sep3 {E w : World} {A B C : Hp} {L : List Hp} : Own E w (Hp.sep A (Hp.sep B C) :: L) ↔ Own E w (A :: B :: C :: L) := by
  rw [Own.sep2]
  constructor
  · intro h
    exact (Own.sep2.1 h.f1).f2
  · intro h
    exact (Own.sep2.2 (h.f2.f2)).f1
/-- Three blocks of one cell each. -/
def thr (x y z : Nat) (p q r : TypeId) (vs : List Value) : Hp := Hp.sep (Hp.blk x p #[vs.getD 0 undef]) (Hp.sep (Hp.blk y q #[vs.getD 1 undef]) (Hp.blk z r #[vs.getD 2 undef]))
theorem places_three {E : World} (x y z : Nat) (p q r : TypeId) : Places E (thr x y z p q r) [⟨x, 0, none⟩, ⟨y, 0, none⟩, ⟨z, 0, none⟩] where
  set w vs i ad v M hl hi h := by
    obtain ⟨a, b, c, rfl⟩ : ∃ a b c, vs = [a, b, c] := by
      match vs, hl with
      | [a, b, c], _ => exact ⟨a, b, c, rfl⟩
    have h := Own.sep3.1 h
    match i, hi with
    | 0, hi =>
      obtain rfl : (⟨x, 0, none⟩ : Addr) = ad := by simpa using hi
      obtain ⟨h1, h2, h3⟩ := h.put1 0 v (show (0 : Nat) < 1 by omega)
      exact ⟨h1, h2, Own.sep3.2 h3⟩
    | 1, hi =>
      obtain rfl : (⟨y, 0, none⟩ : Addr) = ad := by simpa using hi
      obtain ⟨h1, h2, h3⟩ := h.f1.put1 0 v (show (0 : Nat) < 1 by omega)
      exact ⟨h1, h2, Own.sep3.2 h3.f1⟩
    | 2, hi =>
      obtain rfl : (⟨z, 0, none⟩ : Addr) = ad := by simpa using hi
      obtain ⟨h1, h2, h3⟩ := h.f2.put1 0 v (show (0 : Nat) < 1 by omega)
      exact ⟨h1, h2, Own.sep3.2 h3.f2.f2⟩
def noteKs : List Fk := [.num 8, .num 6, .raw 2]
def noteQ (v : ByteArray) : Int × Int × Int :=
  if (readV noteKs v).2 = true ∧ noteR ((readV noteKs v).1.getD 0 (.n 0)).num ((readV noteKs v).1.getD 1 (.n 0)).num = (v, 0) then (((readV noteKs v).1.getD 0 (.n 0)).num, ((readV noteKs v).1.getD 1 (.n 0)).num, 0) else (0, 0, 141)
section
variable {E : World} {L : List Hp}
set_option maxRecDepth 20000 in
set_option maxHeartbeats 8000000 in
theorem parsenote_any (v : ByteArray) (w : World) (hv : v.size ≤ 1000000000000) (hG : Laid0 E L) (h : Own E w L) :
    Calls Tryz.prog 27 #[.string v] w fun ev w' => ev = .returned (.tuple #[.int .i64 (noteQ v).1, .int .i64 (noteQ v).2.1, .int .i64 (noteQ v).2.2]) ∧ Own E w' L := by
  have h1 := h.alloc (.cells #[.int .i64 0] 3)
  have h2 := h1.alloc (.cells #[.int .i64 0] 3)
  have h3 := h2.alloc (.cells #[.string ⟨#[]⟩] 9)
  rw [alloc_size, alloc_size] at h3
  have H3 := Lib.hid (show Own E _ (Hp.blk w.heap.size 3 #[.int .i64 0] :: Hp.blk (w.heap.size + 1) 3 #[.int .i64 0] :: Hp.blk (w.heap.size + 1 + 1) 9 #[.string ⟨#[]⟩] :: L) from h3.f1.f2)
  obtain ⟨a, b, c, ok, hr⟩ : ∃ a b c ok, readV noteKs v = ([.n a, .n b, .s c], ok) := ⟨_, _, _, _, rfl⟩
  have KR : Hid (∀ (bb : Nat) (w3 : World), Own E w3 (Hp.blk bb FT ((noteFs w.heap.size (w.heap.size + 1) (w.heap.size + 1 + 1)).flatMap enF).toArray :: Hp.blk w.heap.size 3 #[.int .i64 0] :: Hp.blk (w.heap.size + 1) 3 #[.int .i64 0] :: Hp.blk (w.heap.size + 1 + 1) 9 #[.string ⟨#[]⟩] :: L) →
      Calls Tryz.prog 67 #[.slice (some ⟨bb, 0, none⟩) 3 3, .string v] w3 fun ev w' => ev = .returned (.bool ok) ∧ w'.cell? ⟨w.heap.size, 0, none⟩ = some (.int .i64 a) ∧ w'.cell? ⟨w.heap.size + 1, 0, none⟩ = some (.int .i64 b) ∧ Own E w' (Hp.blk w.heap.size 3 #[.int .i64 a] :: Hp.blk (w.heap.size + 1) 3 #[.int .i64 b] :: L)) := Lib.hid fun bb w3 h3 => by
    have h4 : Own E w3 (Hp.blk bb FT ((noteFs w.heap.size (w.heap.size + 1) (w.heap.size + 1 + 1)).flatMap enF).toArray :: thr w.heap.size (w.heap.size + 1) (w.heap.size + 1 + 1) 3 3 9 [.int .i64 0, .int .i64 0, .string ⟨#[]⟩] :: L) := (Own.sep3.2 h3.f3.f3.f3).f1
    have hh := read_blk (E := E) bb 3 (noteFs w.heap.size (w.heap.size + 1) (w.heap.size + 1 + 1)) v _ [.int .i64 0, .int .i64 0, .string ⟨#[]⟩] w3 rfl (by omega) hv (places_three _ _ _ _ _ _) rfl hG h4
    rw [show (noteFs w.heap.size (w.heap.size + 1) (w.heap.size + 1 + 1)).map (·.1) = noteKs from rfl, hr] at hh
    refine hh.mono ?_
    rintro ev w' ⟨rfl, h⟩
    have h := Own.sep3.1 h
    exact ⟨rfl, by rw [h.cell 0]; rfl, by rw [h.f1.cell 0]; rfl, h.f2.drop⟩
  have HG := Lib.hid hG
  have HQ : Hid (noteQ v = if ok = true ∧ noteR a b = (v, 0) then (a, b, 0) else (0, 0, 141)) := Lib.hid (by unfold noteQ; rw [hr]; rfl)
  have HPR : Hid (∀ w3 : World, Own E w3 (Hp.blk w.heap.size 3 #[.int .i64 a] :: Hp.blk (w.heap.size + 1) 3 #[.int .i64 b] :: L) → Calls Tryz.prog 25 #[.int .i64 a, .int .i64 b] w3 fun ev w' => ev = .returned (.tuple #[.string (noteR a b).1, .int .i64 (noteR a b).2]) ∧ w'.cell? ⟨w.heap.size, 0, none⟩ = some (.int .i64 a) ∧ w'.cell? ⟨w.heap.size + 1, 0, none⟩ = some (.int .i64 b) ∧ Own E w' L) := Lib.hid fun w3 h3 => (printnote_any a b w3 HG.out.cons.cons h3).mono fun ev w' he => ⟨he.1, by rw [he.2.cell 0]; rfl, by rw [he.2.f1.cell 0]; rfl, he.2.drop.drop⟩
  clear h h1 h2 h3 hr hG hv
  obtain ⟨x1, er, hpr⟩ : ∃ x1 er, noteR a b = (x1, er) := ⟨_, _, rfl⟩
  rw [hpr] at HPR HQ
  clear hpr
  have hq := HQ.out
  clear HQ
  cases ok with
  | false =>
    rw [if_neg (fun hm => by cases hm.1)] at hq
    have HR := Lib.hid hq
    clear hq
    go_enter Tryz.func27, Tryz.ntmps27
    go_wp2_with (first
      | (with_reducible refine (notefields_any _ _ _ _ H3.out).mono ?_; clear H3; rintro ev w2 ⟨bb, rfl, h⟩; have H3 := Lib.hid h; clear h)
      | (with_reducible refine (KR.out _ _ H3.out).mono ?_; clear H3; rintro ev w2 ⟨rfl, -, -, h⟩; have H3 := Lib.hid h; clear h))
    go_ret3
    exact ⟨by rw [HR.out]; rfl, H3.out.drop.drop⟩
  | true =>
    by_cases he : er = 0
    · subst he
      by_cases hx : x1 = v
      · subst hx
        rw [if_pos ⟨rfl, rfl⟩] at hq
        have HR := Lib.hid hq
        clear hq
        go_enter Tryz.func27, Tryz.ntmps27
        go_wp2_with (first
          | (with_reducible refine (notefields_any _ _ _ _ H3.out).mono ?_; clear H3; rintro ev w2 ⟨bb, rfl, h⟩; have H3 := Lib.hid h; clear h)
          | (with_reducible refine (KR.out _ _ H3.out).mono ?_; clear H3; rintro ev w2 ⟨rfl, c0, c1, h⟩; have H3 := Lib.hid h; clear h)
          | (with_reducible refine (HPR.out _ H3.out).mono ?_; clear H3; rintro ev w2 ⟨rfl, c0, c1, h⟩; have H3 := Lib.hid h; clear h))
        have h := H3.out.drew
        refine wp_region_text [0, 1] (fun w' => w'.cell? ⟨w.heap.size, 0, none⟩ = some (.int .i64 a) ∧ w'.cell? ⟨w.heap.size + 1, 0, none⟩ = some (.int .i64 b)) (by kernel_rfl) ?_ (fun hS => ?_)
        · exact ⟨c0, c1⟩
        refine wpAnyG_load (i := 0) (oi := ⟨some 27, _, _, _, _, _⟩) (v := (.int .i64 a)) rfl (by kernel_rfl) (by kernel_rfl) (by kernel_rfl) (by rfl) (fun _ _ _ h => h) (by rfl) ?_ (by assumption) ?_
        · intro w hS
          obtain ⟨b0, b1⟩ := hS; go_simp; first | done | with_reducible rfl
        try simp only [Act.put, List.setIfInBounds_toArray, List.set_cons_zero, List.set_cons_succ]
        refine wpAnyG_load (i := 1) (oi := ⟨some 28, _, _, _, _, _⟩) (v := (.int .i64 b)) rfl (by kernel_rfl) (by kernel_rfl) (by kernel_rfl) (by rfl) (fun _ _ _ h => h) (by rfl) ?_ (by assumption) ?_
        · intro w hS
          obtain ⟨b0, b1⟩ := hS; go_simp; first | done | with_reducible rfl
        try simp only [Act.put, List.setIfInBounds_toArray, List.set_cons_zero, List.set_cons_succ]
        refine wpAnyG_pure (i := 2) (oi := ⟨some 2, _, _, _, _, _⟩) (v := ?_) rfl (by kernel_rfl) (by kernel_rfl) (by kernel_rfl) (by rfl) (fun _ _ _ h => h) (by rfl) ?_ ?_
        rotate_left
        · intro w
          go_simp
          first | done | with_reducible rfl
        try simp only [Act.put, List.setIfInBounds_toArray, List.set_cons_zero, List.set_cons_succ]
        refine wpAnyG_pure (i := 3) (oi := ⟨some 3, _, _, _, _, _⟩) (v := ?_) rfl (by kernel_rfl) (by kernel_rfl) (by kernel_rfl) (by rfl) (fun _ _ _ h => h) (by rfl) ?_ ?_
        rotate_left
        · intro w
          go_simp
          first | done | with_reducible rfl
        try simp only [Act.put, List.setIfInBounds_toArray, List.set_cons_zero, List.set_cons_succ]
        refine wpAnyG_pure (i := 4) (oi := ⟨some 4, _, _, _, _, _⟩) (v := ?_) rfl (by kernel_rfl) (by kernel_rfl) (by kernel_rfl) (by rfl) (fun _ _ _ h => h) (by rfl) ?_ ?_
        rotate_left
        · intro w
          go_simp
          first | done | with_reducible rfl
        try simp only [Act.put, List.setIfInBounds_toArray, List.set_cons_zero, List.set_cons_succ]
        refine wpAnyG_done (by kernel_rfl) ?_ _
        refine NoPanic.normal ?_
        go_wp2_with fail
        go_ret3
        exact ⟨by rw [HR.out]; rfl, h⟩
      · rw [if_neg (fun hm => hx (congrArg (·.1) hm.2))] at hq
        have HR := Lib.hid hq
        have hn : (x1.toList == v.toList) = false := by rw [beq_str, decide_eq_false hx]
        clear hq hx
        go_enter Tryz.func27, Tryz.ntmps27
        go_wp2_with (first
          | (with_reducible refine (notefields_any _ _ _ _ H3.out).mono ?_; clear H3; rintro ev w2 ⟨bb, rfl, h⟩; have H3 := Lib.hid h; clear h)
          | (with_reducible refine (KR.out _ _ H3.out).mono ?_; clear H3; rintro ev w2 ⟨rfl, c0, c1, h⟩; have H3 := Lib.hid h; clear h)
          | (with_reducible refine (HPR.out _ H3.out).mono ?_; clear H3; rintro ev w2 ⟨rfl, c0, c1, h⟩; have H3 := Lib.hid h; clear h))
        go_ret3
        exact ⟨by rw [HR.out]; rfl, H3.out⟩
    · rw [if_neg (fun hm => he (congrArg (·.2) hm.2))] at hq
      have HR := Lib.hid hq
      have hz : (er != 0) = true := by rw [bne_iff_ne]; exact he
      clear hq he
      go_enter Tryz.func27, Tryz.ntmps27
      go_wp2_with (first
        | (with_reducible refine (notefields_any _ _ _ _ H3.out).mono ?_; clear H3; rintro ev w2 ⟨bb, rfl, h⟩; have H3 := Lib.hid h; clear h)
        | (with_reducible refine (KR.out _ _ H3.out).mono ?_; clear H3; rintro ev w2 ⟨rfl, c0, c1, h⟩; have H3 := Lib.hid h; clear h)
        | (with_reducible refine (HPR.out _ H3.out).mono ?_; clear H3; rintro ev w2 ⟨rfl, c0, c1, h⟩; have H3 := Lib.hid h; clear h))
      go_ret3
      exact ⟨by rw [HR.out]; rfl, H3.out⟩
end
end Go.Proofs.YtabibfabieghpaaGreatDoor
