/- ParseToken (printed by gen_patok.py). -/
import Derived.Test.YtabibfabieghpaaGreatDoorPaNote
namespace Go.Proofs.YtabibfabieghpaaGreatDoor
open Go.RowKit
/-- A token's fields as they are read: seven cells of the token's block, one of the flag's. -/
def tokP (tb fb : Nat) (vs : List Value) : Hp := Hp.sep (Hp.blk tb TOKT #[.int .i64 0, vs.getD 0 undef, vs.getD 1 undef, vs.getD 2 undef, vs.getD 3 undef, .bool false, vs.getD 5 undef, vs.getD 6 undef, vs.getD 7 undef]) (Hp.blk fb 3 #[vs.getD 4 undef])
theorem places_tok {E : World} (tb fb : Nat) : Places E (tokP tb fb) [⟨tb, 1, none⟩, ⟨tb, 2, none⟩, ⟨tb, 3, none⟩, ⟨tb, 4, none⟩, ⟨fb, 0, none⟩, ⟨tb, 6, none⟩, ⟨tb, 7, none⟩, ⟨tb, 8, none⟩] where
  set w vs i ad v M hl hi h := by
    obtain ⟨a0, a1, a2, a3, a4, a5, a6, a7, rfl⟩ : ∃ a0 a1 a2 a3 a4 a5 a6 a7, vs = [a0, a1, a2, a3, a4, a5, a6, a7] := by
      match vs, hl with
      | [a0, a1, a2, a3, a4, a5, a6, a7], _ => exact ⟨a0, a1, a2, a3, a4, a5, a6, a7, rfl⟩
    have h := Own.sep2.1 h
    match i, hi with
    | 0, hi =>
      obtain rfl : (⟨tb, 1, none⟩ : Addr) = ad := by simpa using hi
      obtain ⟨h1, h2, h3⟩ := h.put1 1 v (show (1 : Nat) < 9 by omega)
      exact ⟨h1, h2, Own.sep2.2 h3⟩
    | 1, hi =>
      obtain rfl : (⟨tb, 2, none⟩ : Addr) = ad := by simpa using hi
      obtain ⟨h1, h2, h3⟩ := h.put1 2 v (show (2 : Nat) < 9 by omega)
      exact ⟨h1, h2, Own.sep2.2 h3⟩
    | 2, hi =>
      obtain rfl : (⟨tb, 3, none⟩ : Addr) = ad := by simpa using hi
      obtain ⟨h1, h2, h3⟩ := h.put1 3 v (show (3 : Nat) < 9 by omega)
      exact ⟨h1, h2, Own.sep2.2 h3⟩
    | 3, hi =>
      obtain rfl : (⟨tb, 4, none⟩ : Addr) = ad := by simpa using hi
      obtain ⟨h1, h2, h3⟩ := h.put1 4 v (show (4 : Nat) < 9 by omega)
      exact ⟨h1, h2, Own.sep2.2 h3⟩
    | 4, hi =>
      obtain rfl : (⟨fb, 0, none⟩ : Addr) = ad := by simpa using hi
      obtain ⟨h1, h2, h3⟩ := h.f1.put1 0 v (show (0 : Nat) < 1 by omega)
      exact ⟨h1, h2, Own.sep2.2 h3.f1⟩
    | 5, hi =>
      obtain rfl : (⟨tb, 6, none⟩ : Addr) = ad := by simpa using hi
      obtain ⟨h1, h2, h3⟩ := h.put1 6 v (show (6 : Nat) < 9 by omega)
      exact ⟨h1, h2, Own.sep2.2 h3⟩
    | 6, hi =>
      obtain rfl : (⟨tb, 7, none⟩ : Addr) = ad := by simpa using hi
      obtain ⟨h1, h2, h3⟩ := h.put1 7 v (show (7 : Nat) < 9 by omega)
      exact ⟨h1, h2, Own.sep2.2 h3⟩
    | 7, hi =>
      obtain rfl : (⟨tb, 8, none⟩ : Addr) = ad := by simpa using hi
      obtain ⟨h1, h2, h3⟩ := h.put1 8 v (show (8 : Nat) < 9 by omega)
      exact ⟨h1, h2, Own.sep2.2 h3⟩
def tokKs : List Fk := [.num 8, .num 4, .raw 32, .num 6, .num 1, .num 6, .num 8, .text]
def tokQ (k v : ByteArray) : List Value × Int :=
  if (numberV k ⟨#[116]⟩ 8).2 = true ∧ (readV tokKs v).2 = true ∧ tokR (numberV k ⟨#[116]⟩ 8).1 ((readV tokKs v).1.getD 0 (.n 0)).num ((readV tokKs v).1.getD 1 (.n 0)).num ((readV tokKs v).1.getD 2 (.n 0)).str ((readV tokKs v).1.getD 3 (.n 0)).num (((readV tokKs v).1.getD 4 (.n 0)).num == 1) ((readV tokKs v).1.getD 5 (.n 0)).num ((readV tokKs v).1.getD 6 (.n 0)).num ((readV tokKs v).1.getD 7 (.n 0)).str = (k, v, 0) then
    (tokC (numberV k ⟨#[116]⟩ 8).1 ((readV tokKs v).1.getD 0 (.n 0)).num ((readV tokKs v).1.getD 1 (.n 0)).num ((readV tokKs v).1.getD 2 (.n 0)).str ((readV tokKs v).1.getD 3 (.n 0)).num (((readV tokKs v).1.getD 4 (.n 0)).num == 1) ((readV tokKs v).1.getD 5 (.n 0)).num ((readV tokKs v).1.getD 6 (.n 0)).num ((readV tokKs v).1.getD 7 (.n 0)).str, 0)
  else ((tokC 0 0 0 noB 0 false 0 0 noB), 141)
theorem tokt_u : ∃ d, Tryz.prog.underlying TOKT = some d ∧ d.isRow = true := by
  cases e : Tryz.prog.underlying TOKT with
  | none => exact absurd e (by rw [Tryz.underlying23]; simp)
  | some d => exact ⟨d, rfl, by rw [Tryz.underlying23] at e; injection e with e; subst e; rfl⟩
theorem tok_one (a b c : Int) (s : ByteArray) (d : Int) (f : Bool) (e g : Int) (r : ByteArray) : ∀ v ∈ tokC a b c s d f e g r, v.oneCell' = true := fun v hv => by
  simp only [tokC, List.mem_cons, List.not_mem_nil, or_false] at hv
  rcases hv with rfl | rfl | rfl | rfl | rfl | rfl | rfl | rfl | rfl <;> rfl
section
variable {E : World} {L : List Hp}
set_option maxRecDepth 20000 in
set_option maxHeartbeats 8000000 in
theorem parsetok_any (k v : ByteArray) (w : World) (hk : k.size ≤ 1000000000000) (hv : v.size ≤ 1000000000000) (hG : Laid0 E L) (h : Own E w L) :
    Calls Tryz.prog 13 #[.agg #[.string k, .string v]] w fun ev w' => ev = .returned (.tuple #[.agg (tokQ k v).1.toArray, .int .i64 (tokQ k v).2]) ∧ Own E w' L := by
  have h1 := h.alloc (.cells #[.string k, .string v] ITT)
  have h2 := h1.alloc (.cells (tokC 0 0 0 ⟨#[]⟩ 0 false 0 0 ⟨#[]⟩).toArray TOKT)
  have h3 := h2.alloc (.cells (tokC 0 0 0 ⟨#[]⟩ 0 false 0 0 ⟨#[]⟩).toArray TOKT)
  have h4 := h3.alloc (.cells #[.int .i64 0] 3)
  rw [alloc_size, alloc_size, alloc_size] at h4
  have H3 := Lib.hid (show Own E _ (Hp.blk (w.heap.size + 1 + 1) TOKT (tokC 0 0 0 ⟨#[]⟩ 0 false 0 0 ⟨#[]⟩).toArray :: Hp.blk (w.heap.size + 1 + 1 + 1) 3 #[.int .i64 0] :: Hp.blk (w.heap.size + 1) TOKT (tokC 0 0 0 ⟨#[]⟩ 0 false 0 0 ⟨#[]⟩).toArray :: Hp.blk w.heap.size ITT #[.string k, .string v] :: L) from h4.f1)
  obtain ⟨dd, hd, hrow⟩ := tokt_u
  obtain ⟨z, nok, hq⟩ : ∃ z nok, numberV k ⟨#[116]⟩ 8 = (z, nok) := ⟨_, _, rfl⟩
  have KN : Hid (∀ w3 : World, Own E w3 (Hp.blk (w.heap.size + 1 + 1) TOKT (tokC 0 0 0 ⟨#[]⟩ 0 false 0 0 ⟨#[]⟩).toArray :: Hp.blk (w.heap.size + 1 + 1 + 1) 3 #[.int .i64 0] :: Hp.blk (w.heap.size + 1) TOKT (tokC 0 0 0 ⟨#[]⟩ 0 false 0 0 ⟨#[]⟩).toArray :: Hp.blk w.heap.size ITT #[.string k, .string v] :: L) → Calls Tryz.prog 66 #[.string k, .string ⟨#[116]⟩, .int .i64 8] w3 fun ev w' => ev = .returned (.tuple #[.int .i64 z, .bool nok]) ∧ Own E w' (Hp.blk (w.heap.size + 1 + 1) TOKT (tokC 0 0 0 ⟨#[]⟩ 0 false 0 0 ⟨#[]⟩).toArray :: Hp.blk (w.heap.size + 1 + 1 + 1) 3 #[.int .i64 0] :: Hp.blk (w.heap.size + 1) TOKT (tokC 0 0 0 ⟨#[]⟩ 0 false 0 0 ⟨#[]⟩).toArray :: Hp.blk w.heap.size ITT #[.string k, .string v] :: L)) := Lib.hid fun w3 h3 => by
    have hh := recnum_any (E := E) k ⟨#[116]⟩ 8 w3 hk hG.cons.cons.cons.cons h3
    rw [hq] at hh
    exact hh
  clear h h1 h2 h3 h4
  cases nok with
  | false =>
    have HR : Hid (tokQ k v = ((tokC 0 0 0 noB 0 false 0 0 noB), 141)) := Lib.hid (if_neg fun hm => by have := hm.1; rw [hq] at this; cases this)
    clear hq hG hk hv
    go_enter Tryz.func13, Tryz.ntmps13
    go_wp2_with (refine (KN.out _ H3.out).mono ?_; clear H3; rintro ev w2 ⟨rfl, h⟩; have H3 := Lib.hid h; clear h)
    have h := H3.out.drew
    refine wp_region_text [] (fun _ => True) (by kernel_rfl) ?_ (fun hS => ?_)
    · trivial
    refine wpAnyG_pure (i := 0) (oi := ⟨some 16, _, _, _, _, _⟩) (v := ?_) rfl (by kernel_rfl) (by kernel_rfl) (by kernel_rfl) (by rfl) (fun _ _ _ h => h) (by rfl) ?_ ?_
    rotate_left
    · intro w
      go_simp
      first | done | with_reducible rfl
    try simp only [Act.put, List.setIfInBounds_toArray, List.set_cons_zero, List.set_cons_succ]
    refine wpAnyG_pure (i := 1) (oi := ⟨some 17, _, _, _, _, _⟩) (v := ?_) rfl (by kernel_rfl) (by kernel_rfl) (by kernel_rfl) (by rfl) (fun _ _ _ h => h) (by rfl) ?_ ?_
    rotate_left
    · intro w
      go_simp
      first | done | with_reducible rfl
    try simp only [Act.put, List.setIfInBounds_toArray, List.set_cons_zero, List.set_cons_succ]
    refine wpAnyG_pure (i := 2) (oi := ⟨some 18, _, _, _, _, _⟩) (v := ?_) rfl (by kernel_rfl) (by kernel_rfl) (by kernel_rfl) (by rfl) (fun _ _ _ h => h) (by rfl) ?_ ?_
    rotate_left
    · intro w
      go_simp
      first | done | with_reducible rfl
    try simp only [Act.put, List.setIfInBounds_toArray, List.set_cons_zero, List.set_cons_succ]
    refine wpAnyG_skip (i := 3) (oi := ⟨some 19, _, _, _, _, _⟩) rfl (by kernel_rfl) (by kernel_rfl) (by kernel_rfl) (by rfl) (fun _ _ _ h => h) (by rfl) ?_
    try simp only [Act.put, List.setIfInBounds_toArray, List.set_cons_zero, List.set_cons_succ]
    refine wpAnyG_skip (i := 4) (oi := ⟨some 20, _, _, _, _, _⟩) rfl (by kernel_rfl) (by kernel_rfl) (by kernel_rfl) (by rfl) (fun _ _ _ h => h) (by rfl) ?_
    try simp only [Act.put, List.setIfInBounds_toArray, List.set_cons_zero, List.set_cons_succ]
    refine wpAnyG_skip (i := 5) (oi := ⟨some 21, _, _, _, _, _⟩) rfl (by kernel_rfl) (by kernel_rfl) (by kernel_rfl) (by rfl) (fun _ _ _ h => h) (by rfl) ?_
    try simp only [Act.put, List.setIfInBounds_toArray, List.set_cons_zero, List.set_cons_succ]
    refine wpAnyG_skip (i := 6) (oi := ⟨some 22, _, _, _, _, _⟩) rfl (by kernel_rfl) (by kernel_rfl) (by kernel_rfl) (by rfl) (fun _ _ _ h => h) (by rfl) ?_
    try simp only [Act.put, List.setIfInBounds_toArray, List.set_cons_zero, List.set_cons_succ]
    refine wpAnyG_skip (i := 7) (oi := ⟨some 23, _, _, _, _, _⟩) rfl (by kernel_rfl) (by kernel_rfl) (by kernel_rfl) (by rfl) (fun _ _ _ h => h) (by rfl) ?_
    try simp only [Act.put, List.setIfInBounds_toArray, List.set_cons_zero, List.set_cons_succ]
    refine wpAnyG_pure (i := 8) (oi := ⟨some 24, _, _, _, _, _⟩) (v := ?_) rfl (by kernel_rfl) (by kernel_rfl) (by kernel_rfl) (by rfl) (fun _ _ _ h => h) (by rfl) ?_ ?_
    rotate_left
    · intro w
      go_simp
      first | done | with_reducible rfl
    try simp only [Act.put, List.setIfInBounds_toArray, List.set_cons_zero, List.set_cons_succ]
    refine wpAnyG_done (by kernel_rfl) ?_ _
    refine NoPanic.normal ?_
    clear H3
    have H3 := Lib.hid h.f2
    clear h
    go_wp2_with (with_reducible refine at_slot (k := none) ?_; refine wpList_store_whole (o := ⟨none, _, _, _, _, _⟩) (cs := (tokC 0 0 0 ⟨#[]⟩ 0 false 0 0 ⟨#[]⟩)) (vs := (tokC 0 0 0 ⟨#[]⟩ 0 false 0 0 ⟨#[]⟩)) H3.out rfl (tok_one _ _ _ _ _ _ _ _ _) (by kernel_rfl) rfl rfl rfl rfl ?_; clear H3; intro w7 h; have H8 := Lib.hid h; clear h)
    refine bodyPost_ret (results_ct rfl rfl H8.out hd hrow (by kernel_rfl)) rfl ?_
    exact ⟨by rw [HR.out]; rfl, H8.out.drop.drop.drop.drop⟩
  | true =>
    obtain ⟨b, c, s, d, fl, e, g, r, ok, hr⟩ : ∃ b c s d fl e g r ok, readV tokKs v = ([.n b, .n c, .s s, .n d, .n fl, .n e, .n g, .s r], ok) := ⟨_, _, _, _, _, _, _, _, _, rfl⟩
    have KR : Hid (∀ (bb : Nat) (w3 : World), Own E w3 (Hp.blk bb FT ((tokenFs (w.heap.size + 1 + 1) (w.heap.size + 1 + 1 + 1)).flatMap enF).toArray :: Hp.blk (w.heap.size + 1 + 1) TOKT (tokC 0 0 0 ⟨#[]⟩ 0 false 0 0 ⟨#[]⟩).toArray :: Hp.blk (w.heap.size + 1 + 1 + 1) 3 #[.int .i64 0] :: Hp.blk (w.heap.size + 1) TOKT (tokC 0 0 0 ⟨#[]⟩ 0 false 0 0 ⟨#[]⟩).toArray :: Hp.blk w.heap.size ITT #[.string k, .string v] :: L) →
        Calls Tryz.prog 67 #[.slice (some ⟨bb, 0, none⟩) 8 8, .string v] w3 fun ev w' => ev = .returned (.bool ok) ∧ Own E w' (Hp.blk (w.heap.size + 1 + 1) TOKT (tokC 0 b c s d false e g r).toArray :: Hp.blk (w.heap.size + 1 + 1 + 1) 3 #[.int .i64 fl] :: Hp.blk (w.heap.size + 1) TOKT (tokC 0 0 0 ⟨#[]⟩ 0 false 0 0 ⟨#[]⟩).toArray :: Hp.blk w.heap.size ITT #[.string k, .string v] :: L)) := Lib.hid fun bb w3 h3 => by
      have h4 : Own E w3 (Hp.blk bb FT ((tokenFs (w.heap.size + 1 + 1) (w.heap.size + 1 + 1 + 1)).flatMap enF).toArray :: tokP (w.heap.size + 1 + 1) (w.heap.size + 1 + 1 + 1) [.int .i64 0, .int .i64 0, .string ⟨#[]⟩, .int .i64 0, .int .i64 0, .int .i64 0, .int .i64 0, .string ⟨#[]⟩] :: Hp.blk (w.heap.size + 1) TOKT (tokC 0 0 0 ⟨#[]⟩ 0 false 0 0 ⟨#[]⟩).toArray :: Hp.blk w.heap.size ITT #[.string k, .string v] :: L) := (Own.sep2.2 h3.f2.f2).f1
      have hh := read_blk (E := E) bb 8 (tokenFs (w.heap.size + 1 + 1) (w.heap.size + 1 + 1 + 1)) v _ [.int .i64 0, .int .i64 0, .string ⟨#[]⟩, .int .i64 0, .int .i64 0, .int .i64 0, .int .i64 0, .string ⟨#[]⟩] w3 rfl (by omega) hv (places_tok _ _) rfl hG.cons.cons h4
      rw [show (tokenFs (w.heap.size + 1 + 1) (w.heap.size + 1 + 1 + 1)).map (·.1) = tokKs from rfl, hr] at hh
      refine hh.mono ?_
      rintro ev w' ⟨rfl, h⟩
      exact ⟨rfl, Own.sep2.1 h⟩
    have HG := Lib.hid hG
    have HPR : Hid (∀ w3 : World, Own E w3 (Hp.blk (w.heap.size + 1 + 1) TOKT (tokC z b c s d (fl == 1) e g r).toArray :: Hp.blk (w.heap.size + 1 + 1 + 1) 3 #[.int .i64 fl] :: Hp.blk (w.heap.size + 1) TOKT (tokC 0 0 0 ⟨#[]⟩ 0 false 0 0 ⟨#[]⟩).toArray :: Hp.blk w.heap.size ITT #[.string k, .string v] :: L) → Calls Tryz.prog 11 #[.agg (tokC z b c s d (fl == 1) e g r).toArray] w3 fun ev w' => ev = .returned (.tuple #[.agg #[.string (tokR z b c s d (fl == 1) e g r).1, .string (tokR z b c s d (fl == 1) e g r).2.1], .int .i64 (tokR z b c s d (fl == 1) e g r).2.2]) ∧ Own E w' (Hp.blk (w.heap.size + 1 + 1) TOKT (tokC z b c s d (fl == 1) e g r).toArray :: Hp.blk (w.heap.size + 1 + 1 + 1) 3 #[.int .i64 fl] :: Hp.blk (w.heap.size + 1) TOKT (tokC 0 0 0 ⟨#[]⟩ 0 false 0 0 ⟨#[]⟩).toArray :: Hp.blk w.heap.size ITT #[.string k, .string v] :: L)) := Lib.hid fun w3 h3 => printtok_any z b c s d (fl == 1) e g r w3 HG.out.cons.cons.cons.cons h3
    have HQ : Hid (tokQ k v = if ok = true ∧ tokR z b c s d (fl == 1) e g r = (k, v, 0) then ((tokC z b c s d (fl == 1) e g r), 0) else ((tokC 0 0 0 noB 0 false 0 0 noB), 141)) := Lib.hid (by
      unfold tokQ
      rw [hq, hr]
      show (if true = true ∧ ok = true ∧ tokR z b c s d (fl == 1) e g r = (k, v, 0) then _ else _) = _
      by_cases hc : ok = true ∧ tokR z b c s d (fl == 1) e g r = (k, v, 0)
      · rw [if_pos hc, if_pos ⟨rfl, hc⟩]; rfl
      · rw [if_neg hc, if_neg fun q => hc q.2])
    have HC : Hid (∀ w' : World, Own E w' (Hp.blk (w.heap.size + 1 + 1) TOKT (tokC 0 0 0 ⟨#[]⟩ 0 false 0 0 ⟨#[]⟩).toArray :: Hp.blk (w.heap.size + 1 + 1 + 1) 3 #[.int .i64 0] :: Hp.blk (w.heap.size + 1) TOKT (tokC 0 0 0 ⟨#[]⟩ 0 false 0 0 ⟨#[]⟩).toArray :: Hp.blk w.heap.size ITT #[.string k, .string v] :: L) → w'.cell? ⟨w.heap.size, 1, none⟩ = some (.string v)) := Lib.hid fun w' h => by rw [h.f3.cell 1]; rfl
    clear hq hr hG hk hv
    go_enter Tryz.func13, Tryz.ntmps13
    go_wp2_with (refine (KN.out _ H3.out).mono ?_; clear H3; rintro ev w2 ⟨rfl, h⟩; have H3 := Lib.hid h; clear h)
    have h := H3.out.drew
    clear H3
    refine wp_region_text [5] (fun w' => w'.cell? ⟨w.heap.size, 1, none⟩ = some (.string v)) (by kernel_rfl) ?_ (fun hS => ?_)
    · exact HC.out _ h
    refine wpAnyG_pure (i := 0) (oi := ⟨some 16, _, _, _, _, _⟩) (v := ?_) rfl (by kernel_rfl) (by kernel_rfl) (by kernel_rfl) (by rfl) (fun _ _ _ h => h) (by rfl) ?_ ?_
    rotate_left
    · intro w
      go_simp
      first | done | with_reducible rfl
    try simp only [Act.put, List.setIfInBounds_toArray, List.set_cons_zero, List.set_cons_succ]
    refine wpAnyG_pure (i := 1) (oi := ⟨some 17, _, _, _, _, _⟩) (v := ?_) rfl (by kernel_rfl) (by kernel_rfl) (by kernel_rfl) (by rfl) (fun _ _ _ h => h) (by rfl) ?_ ?_
    rotate_left
    · intro w
      go_simp
      first | done | with_reducible rfl
    try simp only [Act.put, List.setIfInBounds_toArray, List.set_cons_zero, List.set_cons_succ]
    refine wpAnyG_pure (i := 2) (oi := ⟨some 18, _, _, _, _, _⟩) (v := ?_) rfl (by kernel_rfl) (by kernel_rfl) (by kernel_rfl) (by rfl) (fun _ _ _ h => h) (by rfl) ?_ ?_
    rotate_left
    · intro w
      go_simp
      first | done | with_reducible rfl
    try simp only [Act.put, List.setIfInBounds_toArray, List.set_cons_zero, List.set_cons_succ]
    refine wpAnyG_pure (i := 4) (oi := ⟨some 20, _, _, _, _, _⟩) (v := ?_) rfl (by kernel_rfl) (by kernel_rfl) (by kernel_rfl) (by rfl) (fun _ _ _ h => h) (by rfl) ?_ ?_
    rotate_left
    · intro w
      go_simp
      first | done | with_reducible rfl
    try simp only [Act.put, List.setIfInBounds_toArray, List.set_cons_zero, List.set_cons_succ]
    refine wpAnyG_load (i := 5) (oi := ⟨some 21, _, _, _, _, _⟩) (v := ?_) rfl (by kernel_rfl) (by kernel_rfl) (by kernel_rfl) (by rfl) (fun _ _ _ h => h) (by rfl) ?_ (by assumption) ?_
    rotate_left
    · intro w hS
      try dsimp only at hS
      go_simp
      first | done | with_reducible rfl
    try simp only [Act.put, List.setIfInBounds_toArray, List.set_cons_zero, List.set_cons_succ]
    refine wpAnyG_keep (i := 3) (oi := ⟨some 19, _, _, _, _, _⟩) (by kernel_rfl) rfl (fun K hK => ?_)
    rw [if_pos (by rfl)]
    go_simp
    refine (tokenfields_any _ _ _ h).mono ?_
    clear h
    rintro ev w2 ⟨bb, rfl, h⟩
    refine hK.out _ _ ?_ (fun hS => ?_)
    · exact HC.out _ h.drop
    clear hK K
    try simp only [Act.put, List.setIfInBounds_toArray, List.set_cons_zero, List.set_cons_succ]
    refine wpAnyG_break (i := 6) (oi := ⟨some 22, _, _, _, _, _⟩) (by kernel_rfl) rfl (by kernel_rfl) (fun K hK => ?_)
    rw [if_pos (by rfl)]
    go_simp
    refine (KR.out _ _ h).mono ?_
    clear h
    rintro ev w2 ⟨rfl, h⟩
    refine hK.out _ _ ?_
    clear hK K
    try simp only [Act.put, List.setIfInBounds_toArray, List.set_cons_zero, List.set_cons_succ]
    refine wpAnyG_pure (i := 7) (oi := ⟨some 23, _, _, _, _, _⟩) (v := ?_) rfl (by kernel_rfl) (by kernel_rfl) (by kernel_rfl) (by rfl) (fun _ _ _ h => h) (by rfl) ?_ ?_
    rotate_left
    · intro w
      go_simp
      first | done | with_reducible rfl
    try simp only [Act.put, List.setIfInBounds_toArray, List.set_cons_zero, List.set_cons_succ]
    refine wpAnyG_pure (i := 8) (oi := ⟨some 24, _, _, _, _, _⟩) (v := ?_) rfl (by kernel_rfl) (by kernel_rfl) (by kernel_rfl) (by rfl) (fun _ _ _ h => h) (by rfl) ?_ ?_
    rotate_left
    · intro w
      go_simp
      first | done | with_reducible rfl
    try simp only [Act.put, List.setIfInBounds_toArray, List.set_cons_zero, List.set_cons_succ]
    refine wpAnyG_done (by kernel_rfl) ?_ _
    refine NoPanic.normal ?_
    cases ok with
    | false =>
      have HR : Hid (tokQ k v = ((tokC 0 0 0 noB 0 false 0 0 noB), 141)) := Lib.hid (by rw [HQ.out]; exact if_neg fun hm => by cases hm.1)
      have H3 := Lib.hid h.f2
      clear h
      go_wp2_with (with_reducible refine at_slot (k := none) ?_; refine wpList_store_whole (o := ⟨none, _, _, _, _, _⟩) (cs := (tokC 0 0 0 ⟨#[]⟩ 0 false 0 0 ⟨#[]⟩)) (vs := (tokC 0 0 0 ⟨#[]⟩ 0 false 0 0 ⟨#[]⟩)) H3.out rfl (tok_one _ _ _ _ _ _ _ _ _) (by kernel_rfl) rfl rfl rfl rfl ?_; clear H3; intro w7 h; have H8 := Lib.hid h; clear h)
      refine bodyPost_ret (results_ct rfl rfl H8.out hd hrow (by kernel_rfl)) rfl ?_
      exact ⟨by rw [HR.out]; rfl, H8.out.drop.drop.drop.drop⟩
    | true =>
      have cf := h.f1.cell 0
      simp only [List.getElem?_toArray, List.getElem?_cons_zero] at cf
      obtain ⟨⟨old, ho⟩, hf, hs⟩ := h.put1 0 (.int .i64 z) (show (0 : Nat) < 9 by omega)
      obtain ⟨⟨old2, ho2⟩, hf2, hs⟩ := hs.put1 5 (.bool (fl == 1)) (show (5 : Nat) < 9 by omega)
      have hs : Own E _ (Hp.blk (w.heap.size + 1 + 1) TOKT (tokC z b c s d (fl == 1) e g r).toArray :: Hp.blk (w.heap.size + 1 + 1 + 1) 3 #[.int .i64 fl] :: Hp.blk (w.heap.size + 1) TOKT (tokC 0 0 0 ⟨#[]⟩ 0 false 0 0 ⟨#[]⟩).toArray :: Hp.blk w.heap.size ITT #[.string k, .string v] :: L) := hs
      have H3 := Lib.hid hs
      clear h hs
      obtain ⟨x1, x2, er, hpr⟩ : ∃ x1 x2 er, tokR z b c s d (fl == 1) e g r = (x1, x2, er) := ⟨_, _, _, rfl⟩
      rw [hpr] at HPR HQ
      clear hpr
      by_cases he : er = 0
      · subst he
        by_cases hx : x1 = k ∧ x2 = v
        · have HR : Hid (tokQ k v = ((tokC z b c s d (fl == 1) e g r), 0)) := Lib.hid (by rw [HQ.out]; exact if_pos ⟨rfl, by rw [hx.1, hx.2]⟩)
          have hq : ∀ w, (binOp .neq ITT (.agg #[.string x1, .string x2]) (.agg #[.string k, .string v])).run Tryz.prog w = .ok (.bool false) w := fun w => by rw [run_pair, decide_eq_true hx]; rfl
          clear hx
          go_wp2_with (first
            | (with_reducible refine at_slot (k := some 32) ?_; refine wpList_load_arr (o := ⟨some 32, _, _, _, _, _⟩) H3.out 0 (tokC z b c s d (fl == 1) e g r) (fun jj u hu => by simpa using hu) hd hrow (by kernel_rfl) rfl rfl rfl ?_)
            | (refine (HPR.out _ H3.out).mono ?_; clear H3; rintro ev w2 ⟨rfl, h⟩; have H3 := Lib.hid (h.alloc (.cells #[.string x1, .string x2] ITT)); clear h; have p0 := H3.out.f4.cell 0; have p1 := H3.out.f4.cell 1; simp only [List.getElem?_toArray, List.getElem?_cons_zero, List.getElem?_cons_succ] at p0 p1)
            | (with_reducible refine at_slot (k := some 44) ?_; refine wpList_load_arr (o := ⟨some 44, _, _, _, _, _⟩) H3.out.f1 0 (tokC z b c s d (fl == 1) e g r) (fun jj u hu => by simpa using hu) hd hrow (by kernel_rfl) rfl rfl rfl ?_)
            | (with_reducible refine at_slot (k := none) ?_; refine wpList_store_whole (o := ⟨none, _, _, _, _, _⟩) (cs := (tokC 0 0 0 ⟨#[]⟩ 0 false 0 0 ⟨#[]⟩)) (vs := (tokC z b c s d (fl == 1) e g r)) H3.out.f3 rfl (tok_one _ _ _ _ _ _ _ _ _) (by kernel_rfl) rfl rfl rfl rfl ?_; clear H3; intro w7 h; have H8 := Lib.hid h; clear h))
          refine bodyPost_ret (results_ct rfl rfl H8.out hd hrow (by kernel_rfl)) rfl ?_
          exact ⟨by rw [HR.out]; rfl, H8.out.drop.drop.drop.drop.drop⟩
        · have HR : Hid (tokQ k v = ((tokC 0 0 0 noB 0 false 0 0 noB), 141)) := Lib.hid (by rw [HQ.out]; exact if_neg fun hm => hx ⟨congrArg (·.1) hm.2, congrArg (·.2.1) hm.2⟩)
          have hq : ∀ w, (binOp .neq ITT (.agg #[.string x1, .string x2]) (.agg #[.string k, .string v])).run Tryz.prog w = .ok (.bool true) w := fun w => by rw [run_pair, decide_eq_false hx]; rfl
          clear hx
          go_wp2_with (first
            | (with_reducible refine at_slot (k := some 32) ?_; refine wpList_load_arr (o := ⟨some 32, _, _, _, _, _⟩) H3.out 0 (tokC z b c s d (fl == 1) e g r) (fun jj u hu => by simpa using hu) hd hrow (by kernel_rfl) rfl rfl rfl ?_)
            | (refine (HPR.out _ H3.out).mono ?_; clear H3; rintro ev w2 ⟨rfl, h⟩; have H3 := Lib.hid (h.alloc (.cells #[.string x1, .string x2] ITT)); clear h; have p0 := H3.out.f4.cell 0; have p1 := H3.out.f4.cell 1; simp only [List.getElem?_toArray, List.getElem?_cons_zero, List.getElem?_cons_succ] at p0 p1)
            | (with_reducible refine at_slot (k := some 44) ?_; refine wpList_load_arr (o := ⟨some 44, _, _, _, _, _⟩) H3.out.f1 0 (tokC z b c s d (fl == 1) e g r) (fun jj u hu => by simpa using hu) hd hrow (by kernel_rfl) rfl rfl rfl ?_)
            | (with_reducible refine at_slot (k := none) ?_; refine wpList_store_whole (o := ⟨none, _, _, _, _, _⟩) (cs := (tokC 0 0 0 ⟨#[]⟩ 0 false 0 0 ⟨#[]⟩)) (vs := (tokC 0 0 0 ⟨#[]⟩ 0 false 0 0 ⟨#[]⟩)) H3.out.f3 rfl (tok_one _ _ _ _ _ _ _ _ _) (by kernel_rfl) rfl rfl rfl rfl ?_; clear H3; intro w7 h; have H8 := Lib.hid h; clear h))
          refine bodyPost_ret (results_ct rfl rfl H8.out hd hrow (by kernel_rfl)) rfl ?_
          exact ⟨by rw [HR.out]; rfl, H8.out.drop.drop.drop.drop.drop⟩
      · have HR : Hid (tokQ k v = ((tokC 0 0 0 noB 0 false 0 0 noB), 141)) := Lib.hid (by rw [HQ.out]; exact if_neg fun hm => he (congrArg (·.2.2) hm.2))
        have hz : (er != 0) = true := by rw [bne_iff_ne]; exact he
        clear he
        go_wp2_with (first
          | (with_reducible refine at_slot (k := some 32) ?_; refine wpList_load_arr (o := ⟨some 32, _, _, _, _, _⟩) H3.out 0 (tokC z b c s d (fl == 1) e g r) (fun jj u hu => by simpa using hu) hd hrow (by kernel_rfl) rfl rfl rfl ?_)
          | (refine (HPR.out _ H3.out).mono ?_; clear H3; rintro ev w2 ⟨rfl, h⟩; have H3 := Lib.hid (h.alloc (.cells #[.string x1, .string x2] ITT)); clear h; have p0 := H3.out.f4.cell 0; have p1 := H3.out.f4.cell 1; simp only [List.getElem?_toArray, List.getElem?_cons_zero, List.getElem?_cons_succ] at p0 p1)
          | (with_reducible refine at_slot (k := some 44) ?_; refine wpList_load_arr (o := ⟨some 44, _, _, _, _, _⟩) H3.out.f1 0 (tokC z b c s d (fl == 1) e g r) (fun jj u hu => by simpa using hu) hd hrow (by kernel_rfl) rfl rfl rfl ?_)
          | (with_reducible refine at_slot (k := none) ?_; refine wpList_store_whole (o := ⟨none, _, _, _, _, _⟩) (cs := (tokC 0 0 0 ⟨#[]⟩ 0 false 0 0 ⟨#[]⟩)) (vs := (tokC 0 0 0 ⟨#[]⟩ 0 false 0 0 ⟨#[]⟩)) H3.out.f3 rfl (tok_one _ _ _ _ _ _ _ _ _) (by kernel_rfl) rfl rfl rfl rfl ?_; clear H3; intro w7 h; have H8 := Lib.hid h; clear h))
        refine bodyPost_ret (results_ct rfl rfl H8.out hd hrow (by kernel_rfl)) rfl ?_
        exact ⟨by rw [HR.out]; rfl, H8.out.drop.drop.drop.drop.drop⟩
end
end Go.Proofs.YtabibfabieghpaaGreatDoor
