/- record.ParseCode (begun by gen_paf.py code): a pair that is a right record's is read as that, every other one is refused. latchkeyref14.ParseCode (begun by gen_xpaf.py code). -/
import Derived.Test.YtabibfabieghpaaGreatDoorPkF
import Derived.Test.YtabibfabieghpaaGreatDoorPkI
namespace Go.Proofs.YtabibfabieghpaaGreatDoor
open Go.RowKit
/- code -/
structure CodeV where
  id : Int
  cl : ByteArray
  su : ByteArray
  xs : List ByteArray
  dh : ByteArray
  dc : ByteArray
  ut : Int
  st : Int
  fa : Int
def CodeV.R (f : CodeV) : ByteArray × ByteArray × Int := codeR f.id f.cl f.su f.xs f.dh f.dc f.ut f.st f.fa
def CodeV.C (f : CodeV) (A : Option Addr) (c : Nat) : List Value := codeC f.id f.cl f.su A f.xs.length c f.dh f.dc f.ut f.st f.fa
def codeKs : List Fk := [.text, .text, .text, .raw 32, .raw 32, .num 6, .num 1, .num 8]
theorem code_reads {f : CodeV} {k v : ByteArray} (h : f.R = (k, v, 0)) : codeMay f.id f.cl f.su f.xs f.dh f.dc f.ut f.st f.fa ∧ numberV k ⟨#[97]⟩ 8 = (f.id, true) ∧ readV codeKs v = ([.s f.cl, .s f.su, .s (scTxt f.xs), .s f.dh, .s f.dc, .n f.ut, .n f.st, .n f.fa], true) ∧ (parseV (scTxt f.xs)).1 = f.xs := by
  unfold CodeV.R codeR at h
  by_cases hm : codeMay f.id f.cl f.su f.xs f.dh f.dc f.ut f.st f.fa
  · rw [if_pos hm] at h
    injection h with h1 h2
    injection h2 with h2 h3
    have hr := code_range hm
    refine ⟨hm, ?_, ?_, ?_⟩
    · rw [← h1]
      have c1 := hm.1
      exact number_back 97 8 f.id (by omega) (by omega) (by omega) (by show f.id < (256 : Int) ^ 8; omega) (by omega)
    · rw [← h2]
      have hh := readV_printed (code_fits 0 0 hr)
      rw [code_printed 0 0 hr] at hh
      exact hh
    · rw [parse_print hm.2.2.2.1]
  · rw [if_neg hm] at h
    injection h with h1 h2
    injection h2 with h2 h3
    cases h3
theorem code_inj {f g : CodeV} {k v : ByteArray} (h : f.R = (k, v, 0)) (h2 : g.R = (k, v, 0)) : f = g := by
  obtain ⟨-, a1, a2, a3⟩ := code_reads h
  obtain ⟨-, b1, b2, b3⟩ := code_reads h2
  rw [a1] at b1
  rw [a2] at b2
  obtain ⟨fid, fcl, fsu, fxs, fdh, fdc, fut, fst, ffa⟩ := f
  obtain ⟨gid, gcl, gsu, gxs, gdh, gdc, gut, gst, gfa⟩ := g
  simp only [Prod.mk.injEq, List.cons.injEq, Fv.s.injEq, Fv.n.injEq, and_true] at a3 b1 b2 b3
  obtain rfl := b1
  obtain ⟨rfl, rfl, es, rfl, rfl, rfl, rfl, rfl⟩ := b2
  rw [es, b3] at a3
  obtain rfl := a3
  rfl
theorem codet_u : ∃ d, Tryz.prog.underlying CDT = some d ∧ d.isRow = true := by
  cases e : Tryz.prog.underlying CDT with
  | none => exact absurd e (by rw [Tryz.underlying66]; simp)
  | some d => exact ⟨d, rfl, by rw [Tryz.underlying66] at e; injection e with e; subst e; rfl⟩
theorem code_one (id : Int) (cl : ByteArray) (su : ByteArray) (A : Option Addr) (n c : Nat) (dh : ByteArray) (dc : ByteArray) (ut : Int) (st : Int) (fa : Int) : ∀ v ∈ codeC id cl su A n c dh dc ut st fa, v.oneCell' = true := fun v hv => by
  simp only [codeC, List.mem_cons, List.not_mem_nil, or_false] at hv
  rcases hv with rfl | rfl | rfl | rfl | rfl | rfl | rfl | rfl | rfl <;> rfl
/-- Its fields as they are read. -/
def codeP (tb fb : Nat) (vs : List Value) : Hp := Hp.sep (Hp.blk tb CDT #[.int .i64 0, vs.getD 0 undef, vs.getD 1 undef, .slice none 0 0, vs.getD 3 undef, vs.getD 4 undef, vs.getD 5 undef, vs.getD 6 undef, vs.getD 7 undef]) (Hp.blk fb 9 #[vs.getD 2 undef])
theorem places_code {E : World} (tb fb : Nat) : Places E (codeP tb fb) [⟨tb, 1, none⟩, ⟨tb, 2, none⟩, ⟨fb, 0, none⟩, ⟨tb, 4, none⟩, ⟨tb, 5, none⟩, ⟨tb, 6, none⟩, ⟨tb, 7, none⟩, ⟨tb, 8, none⟩] where
  set w vs i ad v M hl hi h := by
    obtain ⟨a0, a1, a2, a3, a4, a5, a6, a7, rfl⟩ : ∃ a0 a1 a2 a3 a4 a5 a6 a7, vs = [a0, a1, a2, a3, a4, a5, a6, a7] := by
      match vs, hl with
      | [a0, a1, a2, a3, a4, a5, a6, a7], _ => exact ⟨a0, a1, a2, a3, a4, a5, a6, a7, rfl⟩
    have h := Own.sep2.1 h
    match i, hi with
    | 0, hi =>
      obtain rfl : (⟨tb, 1, none⟩ : Addr) = ad := by simpa using hi
      obtain ⟨h1, h2, h3⟩ := h.put1 1 v (show (1 : Nat) < 9 by omega)
      exact ⟨h1, h2, Own.sep2.2 h3⟩
    | 1, hi =>
      obtain rfl : (⟨tb, 2, none⟩ : Addr) = ad := by simpa using hi
      obtain ⟨h1, h2, h3⟩ := h.put1 2 v (show (2 : Nat) < 9 by omega)
      exact ⟨h1, h2, Own.sep2.2 h3⟩
    | 2, hi =>
      obtain rfl : (⟨fb, 0, none⟩ : Addr) = ad := by simpa using hi
      obtain ⟨h1, h2, h3⟩ := h.f1.put1 0 v (show (0 : Nat) < 1 by omega)
      exact ⟨h1, h2, Own.sep2.2 h3.f1⟩
    | 3, hi =>
      obtain rfl : (⟨tb, 4, none⟩ : Addr) = ad := by simpa using hi
      obtain ⟨h1, h2, h3⟩ := h.put1 4 v (show (4 : Nat) < 9 by omega)
      exact ⟨h1, h2, Own.sep2.2 h3⟩
    | 4, hi =>
      obtain rfl : (⟨tb, 5, none⟩ : Addr) = ad := by simpa using hi
      obtain ⟨h1, h2, h3⟩ := h.put1 5 v (show (5 : Nat) < 9 by omega)
      exact ⟨h1, h2, Own.sep2.2 h3⟩
    | 5, hi =>
      obtain rfl : (⟨tb, 6, none⟩ : Addr) = ad := by simpa using hi
      obtain ⟨h1, h2, h3⟩ := h.put1 6 v (show (6 : Nat) < 9 by omega)
      exact ⟨h1, h2, Own.sep2.2 h3⟩
    | 6, hi =>
      obtain rfl : (⟨tb, 7, none⟩ : Addr) = ad := by simpa using hi
      obtain ⟨h1, h2, h3⟩ := h.put1 7 v (show (7 : Nat) < 9 by omega)
      exact ⟨h1, h2, Own.sep2.2 h3⟩
    | 7, hi =>
      obtain rfl : (⟨tb, 8, none⟩ : Addr) = ad := by simpa using hi
      obtain ⟨h1, h2, h3⟩ := h.put1 8 v (show (8 : Nat) < 9 by omega)
      exact ⟨h1, h2, Own.sep2.2 h3⟩
section
variable {E : World} {L : List Hp}
set_option maxRecDepth 20000 in
set_option maxHeartbeats 16000000 in
theorem parsecode_any (k v : ByteArray) (w : World) (hk : k.size ≤ 1000000000000) (hv : v.size ≤ 1000000000000) (hG : Laid0 E L) (hM : Max0 E L) (h : Own E w L) :
    Calls Tryz.prog 36 #[.agg #[.string k, .string v]] w fun ev w' => (∃ (f : CodeV) (A : Option Addr) (c : Nat), ev = .returned (.tuple #[.agg (f.C A c).toArray, .int .i64 0]) ∧ f.R = (k, v, 0) ∧ Own E w' (Hp.lst ST (.slice A f.xs.length c) (f.xs.map Value.string) :: L)) ∨
      (ev = .returned (.tuple #[.agg (codeC 0 noB noB none 0 0 noB noB 0 0 0).toArray, .int .i64 141]) ∧ (∀ f : CodeV, f.R ≠ (k, v, 0)) ∧ Own E w' L) := by
  have h1 := h.alloc (.cells #[.string k, .string v] ITT)
  have h2 := h1.alloc (.cells (codeC 0 ⟨#[]⟩ ⟨#[]⟩ none 0 0 ⟨#[]⟩ ⟨#[]⟩ 0 0 0).toArray CDT)
  have h3 := h2.alloc (.cells (codeC 0 ⟨#[]⟩ ⟨#[]⟩ none 0 0 ⟨#[]⟩ ⟨#[]⟩ 0 0 0).toArray CDT)
  have h4 := h3.alloc (.cells #[.string ⟨#[]⟩] 9)
  rw [alloc_size, alloc_size, alloc_size] at h4
  have H3 := Lib.hid (show Own E _ (Hp.blk (w.heap.size + 1 + 1) CDT (codeC 0 ⟨#[]⟩ ⟨#[]⟩ none 0 0 ⟨#[]⟩ ⟨#[]⟩ 0 0 0).toArray :: Hp.blk (w.heap.size + 1 + 1 + 1) 9 #[.string ⟨#[]⟩] :: Hp.blk (w.heap.size + 1) CDT (codeC 0 ⟨#[]⟩ ⟨#[]⟩ none 0 0 ⟨#[]⟩ ⟨#[]⟩ 0 0 0).toArray :: Hp.blk w.heap.size ITT #[.string k, .string v] :: L) from h4.f1)
  obtain ⟨dd, hd, hrow⟩ := codet_u
  obtain ⟨z, nok, hq⟩ : ∃ z nok, numberV k ⟨#[97]⟩ 8 = (z, nok) := ⟨_, _, rfl⟩
  have KN : Hid (∀ w3 : World, Own E w3 (Hp.blk (w.heap.size + 1 + 1) CDT (codeC 0 ⟨#[]⟩ ⟨#[]⟩ none 0 0 ⟨#[]⟩ ⟨#[]⟩ 0 0 0).toArray :: Hp.blk (w.heap.size + 1 + 1 + 1) 9 #[.string ⟨#[]⟩] :: Hp.blk (w.heap.size + 1) CDT (codeC 0 ⟨#[]⟩ ⟨#[]⟩ none 0 0 ⟨#[]⟩ ⟨#[]⟩ 0 0 0).toArray :: Hp.blk w.heap.size ITT #[.string k, .string v] :: L) → Calls Tryz.prog 66 #[.string k, .string ⟨#[97]⟩, .int .i64 8] w3 fun ev w' => ev = .returned (.tuple #[.int .i64 z, .bool nok]) ∧ Own E w' (Hp.blk (w.heap.size + 1 + 1) CDT (codeC 0 ⟨#[]⟩ ⟨#[]⟩ none 0 0 ⟨#[]⟩ ⟨#[]⟩ 0 0 0).toArray :: Hp.blk (w.heap.size + 1 + 1 + 1) 9 #[.string ⟨#[]⟩] :: Hp.blk (w.heap.size + 1) CDT (codeC 0 ⟨#[]⟩ ⟨#[]⟩ none 0 0 ⟨#[]⟩ ⟨#[]⟩ 0 0 0).toArray :: Hp.blk w.heap.size ITT #[.string k, .string v] :: L)) := Lib.hid fun w3 h3 => by
    have hh := recnum_any (E := E) k ⟨#[97]⟩ 8 w3 hk hG.cons.cons.cons.cons h3
    rw [hq] at hh
    exact hh
  clear h h1 h2 h3 h4
  cases nok with
  | false =>
    have HN : Hid (∀ f : CodeV, f.R ≠ (k, v, 0)) := Lib.hid fun f hf => by
      have := (code_reads hf).2.1
      rw [hq] at this
      cases this
    clear hq hG hM hk hv
    go_enter Tryz.func36, Tryz.ntmps36
    go_wp2_with (refine (KN.out _ H3.out).mono ?_; clear H3; rintro ev w2 ⟨rfl, h⟩; have H3 := Lib.hid h; clear h)
    have h := H3.out.drew
    refine wp_region_text [] (fun _ => True) (by kernel_rfl) ?_ (fun hS => ?_)
    · trivial
    refine wpAnyG_pure (i := 0) (oi := ⟨some 16, _, _, _, _, _⟩) (v := ?_) rfl (by kernel_rfl) (by kernel_rfl) (by kernel_rfl) (by rfl) (fun _ _ _ h => h) (by rfl) ?_ ?_
    rotate_left
    · intro w
      go_simp
      first | done | with_reducible rfl
    try simp only [Act.put, List.setIfInBounds_toArray, List.set_cons_zero, List.set_cons_succ]
    refine wpAnyG_pure (i := 1) (oi := ⟨some 17, _, _, _, _, _⟩) (v := ?_) rfl (by kernel_rfl) (by kernel_rfl) (by kernel_rfl) (by rfl) (fun _ _ _ h => h) (by rfl) ?_ ?_
    rotate_left
    · intro w
      go_simp
      first | done | with_reducible rfl
    try simp only [Act.put, List.setIfInBounds_toArray, List.set_cons_zero, List.set_cons_succ]
    refine wpAnyG_pure (i := 2) (oi := ⟨some 18, _, _, _, _, _⟩) (v := ?_) rfl (by kernel_rfl) (by kernel_rfl) (by kernel_rfl) (by rfl) (fun _ _ _ h => h) (by rfl) ?_ ?_
    rotate_left
    · intro w
      go_simp
      first | done | with_reducible rfl
    try simp only [Act.put, List.setIfInBounds_toArray, List.set_cons_zero, List.set_cons_succ]
    refine wpAnyG_skip (i := 3) (oi := ⟨some 19, _, _, _, _, _⟩) rfl (by kernel_rfl) (by kernel_rfl) (by kernel_rfl) (by rfl) (fun _ _ _ h => h) (by rfl) ?_
    try simp only [Act.put, List.setIfInBounds_toArray, List.set_cons_zero, List.set_cons_succ]
    refine wpAnyG_skip (i := 4) (oi := ⟨some 20, _, _, _, _, _⟩) rfl (by kernel_rfl) (by kernel_rfl) (by kernel_rfl) (by rfl) (fun _ _ _ h => h) (by rfl) ?_
    try simp only [Act.put, List.setIfInBounds_toArray, List.set_cons_zero, List.set_cons_succ]
    refine wpAnyG_skip (i := 5) (oi := ⟨some 21, _, _, _, _, _⟩) rfl (by kernel_rfl) (by kernel_rfl) (by kernel_rfl) (by rfl) (fun _ _ _ h => h) (by rfl) ?_
    try simp only [Act.put, List.setIfInBounds_toArray, List.set_cons_zero, List.set_cons_succ]
    refine wpAnyG_skip (i := 6) (oi := ⟨some 22, _, _, _, _, _⟩) rfl (by kernel_rfl) (by kernel_rfl) (by kernel_rfl) (by rfl) (fun _ _ _ h => h) (by rfl) ?_
    try simp only [Act.put, List.setIfInBounds_toArray, List.set_cons_zero, List.set_cons_succ]
    refine wpAnyG_skip (i := 7) (oi := ⟨some 23, _, _, _, _, _⟩) rfl (by kernel_rfl) (by kernel_rfl) (by kernel_rfl) (by rfl) (fun _ _ _ h => h) (by rfl) ?_
    try simp only [Act.put, List.setIfInBounds_toArray, List.set_cons_zero, List.set_cons_succ]
    refine wpAnyG_pure (i := 8) (oi := ⟨some 24, _, _, _, _, _⟩) (v := ?_) rfl (by kernel_rfl) (by kernel_rfl) (by kernel_rfl) (by rfl) (fun _ _ _ h => h) (by rfl) ?_ ?_
    rotate_left
    · intro w
      go_simp
      first | done | with_reducible rfl
    try simp only [Act.put, List.setIfInBounds_toArray, List.set_cons_zero, List.set_cons_succ]
    refine wpAnyG_done (by kernel_rfl) ?_ _
    refine NoPanic.normal ?_
    clear H3
    have H3 := Lib.hid h.f2
    clear h
    go_wp2_with (with_reducible refine at_slot (k := none) ?_; refine wpList_store_whole (o := ⟨none, _, _, _, _, _⟩) (cs := (codeC 0 ⟨#[]⟩ ⟨#[]⟩ none 0 0 ⟨#[]⟩ ⟨#[]⟩ 0 0 0)) (vs := (codeC 0 ⟨#[]⟩ ⟨#[]⟩ none 0 0 ⟨#[]⟩ ⟨#[]⟩ 0 0 0)) H3.out rfl (code_one _ _ _ _ _ _ _ _ _ _ _) (by kernel_rfl) rfl rfl rfl rfl ?_; clear H3; intro w7 h; have H8 := Lib.hid h; clear h)
    refine bodyPost_ret (results_ct rfl rfl H8.out hd hrow (by kernel_rfl)) rfl ?_
    exact .inr ⟨rfl, HN.out, H8.out.drop.drop.drop.drop⟩
  | true =>
    obtain ⟨cl, su, sT, dh, dc, ut, st, fa, ok, hr⟩ : ∃ cl su sT dh dc ut st fa ok, readV codeKs v = ([.s cl, .s su, .s sT, .s dh, .s dc, .n ut, .n st, .n fa], ok) := ⟨_, _, _, _, _, _, _, _, _, rfl⟩
    have hT : sT.size ≤ 4000000000 := by
      have h9 : ((readV codeKs v).1.getD 2 (.n 0)).str.size ≤ 255 := rText_size _ _
      rw [hr] at h9
      have h8 : sT.size ≤ 255 := h9
      omega
    obtain ⟨xs, hxs⟩ : ∃ xs, xs = (parseV sT).1 := ⟨_, rfl⟩
    obtain ⟨n, hn⟩ : ∃ n, n = xs.length := ⟨_, rfl⟩
    have HNO : Hid (∀ f : CodeV, f.R = (k, v, 0) → ok = true ∧ (codeR z cl su xs dh dc ut st fa) = (k, v, 0)) := Lib.hid fun f hf => by
      obtain ⟨-, e1, e2, e3⟩ := code_reads hf
      rw [hq] at e1
      rw [hr] at e2
      obtain ⟨qid, qcl, qsu, qxs, qdh, qdc, qut, qst, qfa⟩ := f
      simp only [Prod.mk.injEq, List.cons.injEq, Fv.s.injEq, Fv.n.injEq, and_true] at e1 e2 e3
      obtain rfl := e1
      obtain ⟨⟨rfl, rfl, rfl, rfl, rfl, rfl, rfl, rfl⟩, rfl⟩ := e2
      refine ⟨rfl, ?_⟩
      rw [hxs, e3]
      exact hf
    have HSZ : Hid (xs.length ≤ 8) := Lib.hid (by
      rw [hxs]
      rcases parse_right sT with ⟨-, h⟩ | ⟨h, -⟩
      · exact ((fit_iff _).1 (scErr_zero h).2.2).1
      · rw [h]; exact Nat.zero_le _)
    have KR : Hid (∀ (bb : Nat) (w3 : World), Own E w3 (Hp.blk bb FT ((codeFs (w.heap.size + 1 + 1) (w.heap.size + 1 + 1 + 1)).flatMap enF).toArray :: Hp.blk (w.heap.size + 1 + 1) CDT (codeC 0 ⟨#[]⟩ ⟨#[]⟩ none 0 0 ⟨#[]⟩ ⟨#[]⟩ 0 0 0).toArray :: Hp.blk (w.heap.size + 1 + 1 + 1) 9 #[.string ⟨#[]⟩] :: Hp.blk (w.heap.size + 1) CDT (codeC 0 ⟨#[]⟩ ⟨#[]⟩ none 0 0 ⟨#[]⟩ ⟨#[]⟩ 0 0 0).toArray :: Hp.blk w.heap.size ITT #[.string k, .string v] :: L) →
        Calls Tryz.prog 67 #[.slice (some ⟨bb, 0, none⟩) 8 8, .string v] w3 fun ev w' => ev = .returned (.bool ok) ∧ Own E w' (Hp.blk (w.heap.size + 1 + 1) CDT (codeC 0 cl su none 0 0 dh dc ut st fa).toArray :: Hp.blk (w.heap.size + 1 + 1 + 1) 9 #[.string sT] :: Hp.blk (w.heap.size + 1) CDT (codeC 0 ⟨#[]⟩ ⟨#[]⟩ none 0 0 ⟨#[]⟩ ⟨#[]⟩ 0 0 0).toArray :: Hp.blk w.heap.size ITT #[.string k, .string v] :: L)) := Lib.hid fun bb w3 h3 => by
      have h4 : Own E w3 (Hp.blk bb FT ((codeFs (w.heap.size + 1 + 1) (w.heap.size + 1 + 1 + 1)).flatMap enF).toArray :: codeP (w.heap.size + 1 + 1) (w.heap.size + 1 + 1 + 1) [.string ⟨#[]⟩, .string ⟨#[]⟩, .string ⟨#[]⟩, .string ⟨#[]⟩, .string ⟨#[]⟩, .int .i64 0, .int .i64 0, .int .i64 0] :: Hp.blk (w.heap.size + 1) CDT (codeC 0 ⟨#[]⟩ ⟨#[]⟩ none 0 0 ⟨#[]⟩ ⟨#[]⟩ 0 0 0).toArray :: Hp.blk w.heap.size ITT #[.string k, .string v] :: L) := (Own.sep2.2 h3.f2.f2).f1
      have hh := read_blk (E := E) bb 8 (codeFs (w.heap.size + 1 + 1) (w.heap.size + 1 + 1 + 1)) v _ [.string ⟨#[]⟩, .string ⟨#[]⟩, .string ⟨#[]⟩, .string ⟨#[]⟩, .string ⟨#[]⟩, .int .i64 0, .int .i64 0, .int .i64 0] w3 rfl (by omega) hv (places_code _ _) rfl hG.cons.cons h4
      rw [show (codeFs (w.heap.size + 1 + 1) (w.heap.size + 1 + 1 + 1)).map (·.1) = codeKs from rfl, hr] at hh
      refine hh.mono ?_
      rintro ev w' ⟨rfl, h⟩
      exact ⟨rfl, Own.sep2.1 h⟩
    have KNM : Hid (∀ w3 : World, Own E w3 (Hp.blk (w.heap.size + 1 + 1) CDT (codeC z cl su none 0 0 dh dc ut st fa).toArray :: Hp.blk (w.heap.size + 1 + 1 + 1) 9 #[.string sT] :: Hp.blk (w.heap.size + 1) CDT (codeC 0 ⟨#[]⟩ ⟨#[]⟩ none 0 0 ⟨#[]⟩ ⟨#[]⟩ 0 0 0).toArray :: Hp.blk w.heap.size ITT #[.string k, .string v] :: L) → Calls Tryz.prog 94 #[.string sT] w3 fun ev w' => ∃ (A : Option Addr) (cc : Nat) (b : Bool), ev = .returned (.tuple #[.slice A n cc, .bool b]) ∧ Own E w' (Hp.lst ST (.slice A n cc) (xs.map Value.string) :: Hp.blk (w.heap.size + 1 + 1) CDT (codeC z cl su none 0 0 dh dc ut st fa).toArray :: Hp.blk (w.heap.size + 1 + 1 + 1) 9 #[.string sT] :: Hp.blk (w.heap.size + 1) CDT (codeC 0 ⟨#[]⟩ ⟨#[]⟩ none 0 0 ⟨#[]⟩ ⟨#[]⟩ 0 0 0).toArray :: Hp.blk w.heap.size ITT #[.string k, .string v] :: L)) := Lib.hid fun w3 h3 => by
      rw [hn, hxs]
      exact names_any sT w3 hT hM.cons.cons.cons.cons h3
    have HPR : Hid (∀ (A : Option Addr) (cc : Nat) (w3 : World), Own E w3 (Hp.blk (w.heap.size + 1 + 1) CDT (codeC z cl su A n cc dh dc ut st fa).toArray :: Hp.lst ST (.slice A n cc) (xs.map Value.string) :: Hp.blk (w.heap.size + 1 + 1 + 1) 9 #[.string sT] :: Hp.blk (w.heap.size + 1) CDT (codeC 0 ⟨#[]⟩ ⟨#[]⟩ none 0 0 ⟨#[]⟩ ⟨#[]⟩ 0 0 0).toArray :: Hp.blk w.heap.size ITT #[.string k, .string v] :: L) → Calls Tryz.prog 33 #[.agg (codeC z cl su A n cc dh dc ut st fa).toArray] w3 fun ev w' => ev = .returned (.tuple #[.agg #[.string (codeR z cl su xs dh dc ut st fa).1, .string (codeR z cl su xs dh dc ut st fa).2.1], .int .i64 (codeR z cl su xs dh dc ut st fa).2.2]) ∧ Own E w' (Hp.blk (w.heap.size + 1 + 1) CDT (codeC z cl su A n cc dh dc ut st fa).toArray :: Hp.lst ST (.slice A n cc) (xs.map Value.string) :: Hp.blk (w.heap.size + 1 + 1 + 1) 9 #[.string sT] :: Hp.blk (w.heap.size + 1) CDT (codeC 0 ⟨#[]⟩ ⟨#[]⟩ none 0 0 ⟨#[]⟩ ⟨#[]⟩ 0 0 0).toArray :: Hp.blk w.heap.size ITT #[.string k, .string v] :: L)) := Lib.hid fun A cc w3 h3 => by
      obtain ⟨a, h4, ha, hb⟩ := h3.f1.opens
      obtain ⟨hr, hc, -, -⟩ := lst_rds ha
      refine (printcode_any z cl su A n cc dh dc ut st fa xs w3 hr hc (by have := HSZ.out; omega) hG.cons.cons.cons.cons.cons h4).mono ?_
      rintro ev w' ⟨rfl, h⟩
      exact ⟨rfl, (hb _ _ h).f1⟩
    have HC : Hid (∀ w' : World, Own E w' (Hp.blk (w.heap.size + 1 + 1) CDT (codeC 0 ⟨#[]⟩ ⟨#[]⟩ none 0 0 ⟨#[]⟩ ⟨#[]⟩ 0 0 0).toArray :: Hp.blk (w.heap.size + 1 + 1 + 1) 9 #[.string ⟨#[]⟩] :: Hp.blk (w.heap.size + 1) CDT (codeC 0 ⟨#[]⟩ ⟨#[]⟩ none 0 0 ⟨#[]⟩ ⟨#[]⟩ 0 0 0).toArray :: Hp.blk w.heap.size ITT #[.string k, .string v] :: L) → w'.cell? ⟨w.heap.size, 1, none⟩ = some (.string v)) := Lib.hid fun w' h => by rw [h.f3.cell 1]; rfl
    have HNX := Lib.hid hn
    clear hq hr hG hM hk hv hT hxs hn
    go_enter Tryz.func36, Tryz.ntmps36
    go_wp2_with (refine (KN.out _ H3.out).mono ?_; clear H3; rintro ev w2 ⟨rfl, h⟩; have H3 := Lib.hid h; clear h)
    have h := H3.out.drew
    clear H3
    refine wp_region_text [5] (fun w' => w'.cell? ⟨w.heap.size, 1, none⟩ = some (.string v)) (by kernel_rfl) ?_ (fun hS => ?_)
    · exact HC.out _ h
    refine wpAnyG_pure (i := 0) (oi := ⟨some 16, _, _, _, _, _⟩) (v := ?_) rfl (by kernel_rfl) (by kernel_rfl) (by kernel_rfl) (by rfl) (fun _ _ _ h => h) (by rfl) ?_ ?_
    rotate_left
    · intro w
      go_simp
      first | done | with_reducible rfl
    try simp only [Act.put, List.setIfInBounds_toArray, List.set_cons_zero, List.set_cons_succ]
    refine wpAnyG_pure (i := 1) (oi := ⟨some 17, _, _, _, _, _⟩) (v := ?_) rfl (by kernel_rfl) (by kernel_rfl) (by kernel_rfl) (by rfl) (fun _ _ _ h => h) (by rfl) ?_ ?_
    rotate_left
    · intro w
      go_simp
      first | done | with_reducible rfl
    try simp only [Act.put, List.setIfInBounds_toArray, List.set_cons_zero, List.set_cons_succ]
    refine wpAnyG_pure (i := 2) (oi := ⟨some 18, _, _, _, _, _⟩) (v := ?_) rfl (by kernel_rfl) (by kernel_rfl) (by kernel_rfl) (by rfl) (fun _ _ _ h => h) (by rfl) ?_ ?_
    rotate_left
    · intro w
      go_simp
      first | done | with_reducible rfl
    try simp only [Act.put, List.setIfInBounds_toArray, List.set_cons_zero, List.set_cons_succ]
    refine wpAnyG_pure (i := 4) (oi := ⟨some 20, _, _, _, _, _⟩) (v := ?_) rfl (by kernel_rfl) (by kernel_rfl) (by kernel_rfl) (by rfl) (fun _ _ _ h => h) (by rfl) ?_ ?_
    rotate_left
    · intro w
      go_simp
      first | done | with_reducible rfl
    try simp only [Act.put, List.setIfInBounds_toArray, List.set_cons_zero, List.set_cons_succ]
    refine wpAnyG_load (i := 5) (oi := ⟨some 21, _, _, _, _, _⟩) (v := ?_) rfl (by kernel_rfl) (by kernel_rfl) (by kernel_rfl) (by rfl) (fun _ _ _ h => h) (by rfl) ?_ (by assumption) ?_
    rotate_left
    · intro w hS
      try dsimp only at hS
      go_simp
      first | done | with_reducible rfl
    try simp only [Act.put, List.setIfInBounds_toArray, List.set_cons_zero, List.set_cons_succ]
    refine wpAnyG_keep (i := 3) (oi := ⟨some 19, _, _, _, _, _⟩) (by kernel_rfl) rfl (fun K hK => ?_)
    rw [if_pos (by rfl)]
    go_simp
    refine (codefields_any _ _ _ h).mono ?_
    clear h
    rintro ev w2 ⟨bb, rfl, h⟩
    refine hK.out _ _ ?_ (fun hS => ?_)
    · exact HC.out _ h.drop
    clear hK K
    try simp only [Act.put, List.setIfInBounds_toArray, List.set_cons_zero, List.set_cons_succ]
    refine wpAnyG_break (i := 6) (oi := ⟨some 22, _, _, _, _, _⟩) (by kernel_rfl) rfl (by kernel_rfl) (fun K hK => ?_)
    rw [if_pos (by rfl)]
    go_simp
    refine (KR.out _ _ h).mono ?_
    clear h
    rintro ev w2 ⟨rfl, h⟩
    refine hK.out _ _ ?_
    clear hK K
    try simp only [Act.put, List.setIfInBounds_toArray, List.set_cons_zero, List.set_cons_succ]
    refine wpAnyG_pure (i := 7) (oi := ⟨some 23, _, _, _, _, _⟩) (v := ?_) rfl (by kernel_rfl) (by kernel_rfl) (by kernel_rfl) (by rfl) (fun _ _ _ h => h) (by rfl) ?_ ?_
    rotate_left
    · intro w
      go_simp
      first | done | with_reducible rfl
    try simp only [Act.put, List.setIfInBounds_toArray, List.set_cons_zero, List.set_cons_succ]
    refine wpAnyG_pure (i := 8) (oi := ⟨some 24, _, _, _, _, _⟩) (v := ?_) rfl (by kernel_rfl) (by kernel_rfl) (by kernel_rfl) (by rfl) (fun _ _ _ h => h) (by rfl) ?_ ?_
    rotate_left
    · intro w
      go_simp
      first | done | with_reducible rfl
    try simp only [Act.put, List.setIfInBounds_toArray, List.set_cons_zero, List.set_cons_succ]
    refine wpAnyG_done (by kernel_rfl) ?_ _
    refine NoPanic.normal ?_
    cases ok with
    | false =>
      have HN : Hid (∀ f : CodeV, f.R ≠ (k, v, 0)) := Lib.hid fun f hf => by
        have := (HNO.out f hf).1
        cases this
      have H3 := Lib.hid h.f2
      clear h
      go_wp2_with (with_reducible refine at_slot (k := none) ?_; refine wpList_store_whole (o := ⟨none, _, _, _, _, _⟩) (cs := (codeC 0 ⟨#[]⟩ ⟨#[]⟩ none 0 0 ⟨#[]⟩ ⟨#[]⟩ 0 0 0)) (vs := (codeC 0 ⟨#[]⟩ ⟨#[]⟩ none 0 0 ⟨#[]⟩ ⟨#[]⟩ 0 0 0)) H3.out rfl (code_one _ _ _ _ _ _ _ _ _ _ _) (by kernel_rfl) rfl rfl rfl rfl ?_; clear H3; intro w7 h; have H8 := Lib.hid h; clear h)
      refine bodyPost_ret (results_ct rfl rfl H8.out hd hrow (by kernel_rfl)) rfl ?_
      exact .inr ⟨rfl, HN.out, H8.out.drop.drop.drop.drop⟩
    | true =>
      have cf := h.f1.cell 0
      simp only [List.getElem?_toArray, List.getElem?_cons_zero] at cf
      obtain ⟨⟨old, ho⟩, hf, hs⟩ := h.put1 0 (.int .i64 z) (show (0 : Nat) < 9 by omega)
      have hs : Own E _ (Hp.blk (w.heap.size + 1 + 1) CDT (codeC z cl su none 0 0 dh dc ut st fa).toArray :: Hp.blk (w.heap.size + 1 + 1 + 1) 9 #[.string sT] :: Hp.blk (w.heap.size + 1) CDT (codeC 0 ⟨#[]⟩ ⟨#[]⟩ none 0 0 ⟨#[]⟩ ⟨#[]⟩ 0 0 0).toArray :: Hp.blk w.heap.size ITT #[.string k, .string v] :: L) := hs
      have H3 := Lib.hid hs
      clear h hs
      obtain ⟨x1, x2, er, hpr⟩ : ∃ x1 x2 er, (codeR z cl su xs dh dc ut st fa) = (x1, x2, er) := ⟨_, _, _, rfl⟩
      rw [hpr] at HPR HNO
      have HRR := Lib.hid hpr
      clear hpr
      by_cases he : er = 0
      · subst he
        by_cases hx : x1 = k ∧ x2 = v
        · have HY : Hid ((⟨z, cl, su, xs, dh, dc, ut, st, fa⟩ : CodeV).R = (k, v, 0)) := Lib.hid (by
            show (codeR z cl su xs dh dc ut st fa) = _
            rw [HRR.out, hx.1, hx.2])
          have hq : ∀ w, (binOp .neq ITT (.agg #[.string x1, .string x2]) (.agg #[.string k, .string v])).run Tryz.prog w = .ok (.bool false) w := fun w => by rw [run_pair, decide_eq_true hx]; rfl
          clear hx HRR HNO
          go_wp2_with (first
            | ((with_reducible refine (KNM.out _ H3.out).mono ?_); clear H3; rintro ev w3 ⟨A, cc, bb, rfl, h⟩; obtain ⟨⟨old2, ho2⟩, hf2, hs⟩ := h.f1.put1 3 (.slice A n cc) (show (3 : Nat) < 9 by omega); have H3 : Hid (Own E _ (Hp.blk (w.heap.size + 1 + 1) CDT (codeC z cl su A n cc dh dc ut st fa).toArray :: Hp.lst ST (.slice A n cc) (xs.map Value.string) :: Hp.blk (w.heap.size + 1 + 1 + 1) 9 #[.string sT] :: Hp.blk (w.heap.size + 1) CDT (codeC 0 ⟨#[]⟩ ⟨#[]⟩ none 0 0 ⟨#[]⟩ ⟨#[]⟩ 0 0 0).toArray :: Hp.blk w.heap.size ITT #[.string k, .string v] :: L)) := Lib.hid hs; clear h hs)
            | (with_reducible refine at_slot (k := some 35) ?_; refine wpList_load_arr (o := ⟨some 35, _, _, _, _, _⟩) H3.out 0 (codeC z cl su A n cc dh dc ut st fa) (fun jj u hu => by simpa using hu) hd hrow (by kernel_rfl) rfl rfl rfl ?_)
            | (with_reducible refine (HPR.out _ _ _ H3.out).mono ?_; clear H3; rintro ev w2 ⟨rfl, h⟩; have H3 := Lib.hid (h.alloc (.cells #[.string x1, .string x2] ITT)); clear h; have p0 := H3.out.f5.cell 0; have p1 := H3.out.f5.cell 1; simp only [List.getElem?_toArray, List.getElem?_cons_zero, List.getElem?_cons_succ] at p0 p1)
            | (with_reducible refine at_slot (k := some 47) ?_; refine wpList_load_arr (o := ⟨some 47, _, _, _, _, _⟩) H3.out.f1 0 (codeC z cl su A n cc dh dc ut st fa) (fun jj u hu => by simpa using hu) hd hrow (by kernel_rfl) rfl rfl rfl ?_)
            | (with_reducible refine at_slot (k := none) ?_; refine wpList_store_whole (o := ⟨none, _, _, _, _, _⟩) (cs := (codeC 0 ⟨#[]⟩ ⟨#[]⟩ none 0 0 ⟨#[]⟩ ⟨#[]⟩ 0 0 0)) (vs := (codeC z cl su A n cc dh dc ut st fa)) H3.out.f4 rfl (code_one _ _ _ _ _ _ _ _ _ _ _) (by kernel_rfl) rfl rfl rfl rfl ?_; clear H3; intro w7 h; have H8 := Lib.hid h; clear h))
          refine bodyPost_ret (results_ct rfl rfl H8.out hd hrow (by kernel_rfl)) rfl ?_
          obtain rfl := HNX.out
          exact .inl ⟨⟨z, cl, su, xs, dh, dc, ut, st, fa⟩, A, cc, rfl, HY.out, H8.out.drop.drop.drop.f1.drop.f1.drop⟩
        · have HN : Hid (∀ f : CodeV, f.R ≠ (k, v, 0)) := Lib.hid fun f hf => by
            have := (HNO.out f hf).2
            injection this with a b
            injection b with b c
            exact hx ⟨a, b⟩
          have hq : ∀ w, (binOp .neq ITT (.agg #[.string x1, .string x2]) (.agg #[.string k, .string v])).run Tryz.prog w = .ok (.bool true) w := fun w => by rw [run_pair, decide_eq_false hx]; rfl
          clear hx HRR HNO
          go_wp2_with (first
            | ((with_reducible refine (KNM.out _ H3.out).mono ?_); clear H3; rintro ev w3 ⟨A, cc, bb, rfl, h⟩; obtain ⟨⟨old2, ho2⟩, hf2, hs⟩ := h.f1.put1 3 (.slice A n cc) (show (3 : Nat) < 9 by omega); have H3 : Hid (Own E _ (Hp.blk (w.heap.size + 1 + 1) CDT (codeC z cl su A n cc dh dc ut st fa).toArray :: Hp.lst ST (.slice A n cc) (xs.map Value.string) :: Hp.blk (w.heap.size + 1 + 1 + 1) 9 #[.string sT] :: Hp.blk (w.heap.size + 1) CDT (codeC 0 ⟨#[]⟩ ⟨#[]⟩ none 0 0 ⟨#[]⟩ ⟨#[]⟩ 0 0 0).toArray :: Hp.blk w.heap.size ITT #[.string k, .string v] :: L)) := Lib.hid hs; clear h hs)
            | (with_reducible refine at_slot (k := some 35) ?_; refine wpList_load_arr (o := ⟨some 35, _, _, _, _, _⟩) H3.out 0 (codeC z cl su A n cc dh dc ut st fa) (fun jj u hu => by simpa using hu) hd hrow (by kernel_rfl) rfl rfl rfl ?_)
            | (with_reducible refine (HPR.out _ _ _ H3.out).mono ?_; clear H3; rintro ev w2 ⟨rfl, h⟩; have H3 := Lib.hid (h.alloc (.cells #[.string x1, .string x2] ITT)); clear h; have p0 := H3.out.f5.cell 0; have p1 := H3.out.f5.cell 1; simp only [List.getElem?_toArray, List.getElem?_cons_zero, List.getElem?_cons_succ] at p0 p1)
            | (with_reducible refine at_slot (k := some 47) ?_; refine wpList_load_arr (o := ⟨some 47, _, _, _, _, _⟩) H3.out.f1 0 (codeC z cl su A n cc dh dc ut st fa) (fun jj u hu => by simpa using hu) hd hrow (by kernel_rfl) rfl rfl rfl ?_)
            | (with_reducible refine at_slot (k := none) ?_; refine wpList_store_whole (o := ⟨none, _, _, _, _, _⟩) (cs := (codeC 0 ⟨#[]⟩ ⟨#[]⟩ none 0 0 ⟨#[]⟩ ⟨#[]⟩ 0 0 0)) (vs := (codeC 0 ⟨#[]⟩ ⟨#[]⟩ none 0 0 ⟨#[]⟩ ⟨#[]⟩ 0 0 0)) H3.out.f4 rfl (code_one _ _ _ _ _ _ _ _ _ _ _) (by kernel_rfl) rfl rfl rfl rfl ?_; clear H3; intro w7 h; have H8 := Lib.hid h; clear h))
          refine bodyPost_ret (results_ct rfl rfl H8.out hd hrow (by kernel_rfl)) rfl ?_
          exact .inr ⟨rfl, HN.out, H8.out.drop.drop.drop.drop.drop.drop⟩
      · have HN : Hid (∀ f : CodeV, f.R ≠ (k, v, 0)) := Lib.hid fun f hf => by
          have := (HNO.out f hf).2
          injection this with a b
          injection b with b c
          exact he c
        have hz : (er != 0) = true := by rw [bne_iff_ne]; exact he
        clear he HRR HNO
        go_wp2_with (first
          | ((with_reducible refine (KNM.out _ H3.out).mono ?_); clear H3; rintro ev w3 ⟨A, cc, bb, rfl, h⟩; obtain ⟨⟨old2, ho2⟩, hf2, hs⟩ := h.f1.put1 3 (.slice A n cc) (show (3 : Nat) < 9 by omega); have H3 : Hid (Own E _ (Hp.blk (w.heap.size + 1 + 1) CDT (codeC z cl su A n cc dh dc ut st fa).toArray :: Hp.lst ST (.slice A n cc) (xs.map Value.string) :: Hp.blk (w.heap.size + 1 + 1 + 1) 9 #[.string sT] :: Hp.blk (w.heap.size + 1) CDT (codeC 0 ⟨#[]⟩ ⟨#[]⟩ none 0 0 ⟨#[]⟩ ⟨#[]⟩ 0 0 0).toArray :: Hp.blk w.heap.size ITT #[.string k, .string v] :: L)) := Lib.hid hs; clear h hs)
          | (with_reducible refine at_slot (k := some 35) ?_; refine wpList_load_arr (o := ⟨some 35, _, _, _, _, _⟩) H3.out 0 (codeC z cl su A n cc dh dc ut st fa) (fun jj u hu => by simpa using hu) hd hrow (by kernel_rfl) rfl rfl rfl ?_)
          | (with_reducible refine (HPR.out _ _ _ H3.out).mono ?_; clear H3; rintro ev w2 ⟨rfl, h⟩; have H3 := Lib.hid (h.alloc (.cells #[.string x1, .string x2] ITT)); clear h; have p0 := H3.out.f5.cell 0; have p1 := H3.out.f5.cell 1; simp only [List.getElem?_toArray, List.getElem?_cons_zero, List.getElem?_cons_succ] at p0 p1)
          | (with_reducible refine at_slot (k := some 47) ?_; refine wpList_load_arr (o := ⟨some 47, _, _, _, _, _⟩) H3.out.f1 0 (codeC z cl su A n cc dh dc ut st fa) (fun jj u hu => by simpa using hu) hd hrow (by kernel_rfl) rfl rfl rfl ?_)
          | (with_reducible refine at_slot (k := none) ?_; refine wpList_store_whole (o := ⟨none, _, _, _, _, _⟩) (cs := (codeC 0 ⟨#[]⟩ ⟨#[]⟩ none 0 0 ⟨#[]⟩ ⟨#[]⟩ 0 0 0)) (vs := (codeC 0 ⟨#[]⟩ ⟨#[]⟩ none 0 0 ⟨#[]⟩ ⟨#[]⟩ 0 0 0)) H3.out.f4 rfl (code_one _ _ _ _ _ _ _ _ _ _ _) (by kernel_rfl) rfl rfl rfl rfl ?_; clear H3; intro w7 h; have H8 := Lib.hid h; clear h))
        refine bodyPost_ret (results_ct rfl rfl H8.out hd hrow (by kernel_rfl)) rfl ?_
        exact .inr ⟨rfl, HN.out, H8.out.drop.drop.drop.drop.drop.drop⟩
end
end Go.Proofs.YtabibfabieghpaaGreatDoor
namespace Go.Proofs.YtabibfabieghpaaGreatDoor
open Go.RowKit
theorem code_xreads {f : CodeV} {k v : ByteArray} (h : f.R = (k, v, 0)) : xafterV k = f.id ∧ xL codeKs v = [.s f.cl, .s f.su, .s (scTxt f.xs), .s f.dh, .s f.dc, .n f.ut, .n f.st, .n f.fa] ∧ xpartsV (scTxt f.xs) = f.xs := by
  have hm := (code_reads h).1
  have hr := code_range hm
  unfold CodeV.R codeR at h
  rw [if_pos hm] at h
  injection h with h1 h2
  injection h2 with h2 h3
  refine ⟨?_, ?_, ?_⟩
  · rw [← h1]
    have c1 := hm.1
    exact xafter_key 97 8 f.id (by omega) (by omega) (by omega) (by show f.id < (256 : Int) ^ 8; omega) (by omega)
  · rw [← h2]
    have hh := xL_printed (code_fits 0 0 hr)
    rw [code_printed 0 0 hr] at hh
    exact hh
  · exact xparts_print hm.2.2.2.1
section
variable {E : World} {L : List Hp}
set_option maxRecDepth 20000 in
set_option maxHeartbeats 16000000 in
theorem xparsecode_any (k v : ByteArray) (w : World) (hk : k.size ≤ 1000000000000) (h : Own E w L) :
    Calls Tryz.prog 37 #[.agg #[.string k, .string v]] w fun ev w' => (∃ (f : CodeV) (A : Option Addr) (c : Nat), ev = .returned (.tuple #[.agg (f.C A c).toArray, .int .i64 0]) ∧ f.R = (k, v, 0) ∧ Own E w' (Hp.lst ST (.slice A f.xs.length c) (f.xs.map Value.string) :: L)) ∨
      (ev = .returned (.tuple #[.agg (codeC 0 noB noB none 0 0 noB noB 0 0 0).toArray, .int .i64 141]) ∧ (∀ f : CodeV, f.R ≠ (k, v, 0)) ∧ Own E w' L) := by
  have h1 := h.alloc (.cells #[.string k, .string v] ITT)
  have h2 := h1.alloc (.cells (codeC 0 ⟨#[]⟩ ⟨#[]⟩ none 0 0 ⟨#[]⟩ ⟨#[]⟩ 0 0 0).toArray CDT)
  have h3 := h2.alloc (.cells #[.string v, .bool false] RDT)
  rw [alloc_size, alloc_size] at h3
  have H00 := Lib.hid (show Own E _ (Hp.xrd (w.heap.size + 1 + 1) v :: Hp.blk (w.heap.size + 1) CDT (codeC 0 ⟨#[]⟩ ⟨#[]⟩ none 0 0 ⟨#[]⟩ ⟨#[]⟩ 0 0 0).toArray :: Hp.blk w.heap.size ITT #[.string k, .string v] :: L) from Own.ex.2 ⟨false, h3⟩)
  obtain ⟨dd, hd, hrow⟩ := codet_u
  obtain ⟨z, hz⟩ : ∃ z, z = xafterV k := ⟨_, rfl⟩
  obtain ⟨cl, s1, hx1, hb1⟩ := xF_text v
  obtain ⟨su, s2, hx2, hb2⟩ := xF_text s1
  obtain ⟨sT, s3, hx3, hb3⟩ := xF_text s2
  obtain ⟨dh, s4, hx4, hb4⟩ := xF_raw 32 s3
  obtain ⟨dc, s5, hx5, hb5⟩ := xF_raw 32 s4
  obtain ⟨ut, s6, hx6⟩ := xF_num 6 s5
  obtain ⟨st, s7, hx7⟩ := xF_num 1 s6
  obtain ⟨fa, s8, hx8⟩ := xF_num 8 s7
  obtain ⟨xs, hxs⟩ : ∃ xs, xs = xpartsV sT := ⟨_, rfl⟩
  have HXS : Hid (xs.length ≤ 256 ∧ ∀ x ∈ xs, x.size ≤ 255) := Lib.hid (by
    have := xparts_size sT
    rw [hxs]
    exact ⟨by omega, fun x hx => Nat.le_trans (this.2 x hx) hb3⟩)
  have hl : xL codeKs v = [.s cl, .s su, .s sT, .s dh, .s dc, .n ut, .n st, .n fa] := by
    simp only [codeKs, xL, hx1, hx2, hx3, hx4, hx5, hx6, hx7, hx8]
  have HNO : Hid (∀ f : CodeV, f.R = (k, v, 0) → (codeR z cl su xs dh dc ut st fa) = (k, v, 0)) := Lib.hid fun f hf => by
    obtain ⟨e1, e2, e3⟩ := code_xreads hf
    rw [← hz] at e1
    rw [hl] at e2
    obtain ⟨qid, qcl, qsu, qxs, qdh, qdc, qut, qst, qfa⟩ := f
    simp only [List.cons.injEq, Fv.s.injEq, Fv.n.injEq, and_true] at e1 e2 e3
    obtain rfl := e1
    obtain ⟨rfl, rfl, rfl, rfl, rfl, rfl, rfl, rfl⟩ := e2
    rw [hxs, e3]
    exact hf
  have KA : Hid (∀ w M, Own E w M → Calls Tryz.prog 95 #[.string k] w fun e w' => e = .returned (.int .i64 z) ∧ Own E w' M) := Lib.hid fun w M h => by
    rw [hz]
    exact xafter_any k w hk h
  have K1 : Hid (∀ wq M, Own E wq (Hp.xrd (w.heap.size + 1 + 1) v :: M) → Calls Tryz.prog 96 #[.pointer (some ⟨(w.heap.size + 1 + 1), 0, none⟩)] wq fun e w' => e = .returned (.string cl) ∧ Own E w' (Hp.xrd (w.heap.size + 1 + 1) s1 :: M)) := Lib.hid fun w M h => xFtext _ hx1 w h
  have K2 : Hid (∀ wq M, Own E wq (Hp.xrd (w.heap.size + 1 + 1) s1 :: M) → Calls Tryz.prog 96 #[.pointer (some ⟨(w.heap.size + 1 + 1), 0, none⟩)] wq fun e w' => e = .returned (.string su) ∧ Own E w' (Hp.xrd (w.heap.size + 1 + 1) s2 :: M)) := Lib.hid fun w M h => xFtext _ hx2 w h
  have K3 : Hid (∀ wq M, Own E wq (Hp.xrd (w.heap.size + 1 + 1) s2 :: M) → Calls Tryz.prog 97 #[.pointer (some ⟨(w.heap.size + 1 + 1), 0, none⟩)] wq fun e w' => ∃ A cc, e = .returned (.slice A xs.length cc) ∧ Own E w' (Hp.lst ST (.slice A xs.length cc) (xs.map Value.string) :: Hp.xrd (w.heap.size + 1 + 1) s3 :: M)) := Lib.hid fun w M h => by
    rw [hxs]
    exact xFscope _ hx3 w h
  have K4 : Hid (∀ wq M, Own E wq (Hp.xrd (w.heap.size + 1 + 1) s3 :: M) → Calls Tryz.prog 98 #[.pointer (some ⟨(w.heap.size + 1 + 1), 0, none⟩), .int .i64 32] wq fun e w' => e = .returned (.string dh) ∧ Own E w' (Hp.xrd (w.heap.size + 1 + 1) s4 :: M)) := Lib.hid fun w M h => xFraw _ hx4 w h
  have K5 : Hid (∀ wq M, Own E wq (Hp.xrd (w.heap.size + 1 + 1) s4 :: M) → Calls Tryz.prog 98 #[.pointer (some ⟨(w.heap.size + 1 + 1), 0, none⟩), .int .i64 32] wq fun e w' => e = .returned (.string dc) ∧ Own E w' (Hp.xrd (w.heap.size + 1 + 1) s5 :: M)) := Lib.hid fun w M h => xFraw _ hx5 w h
  have K6 : Hid (∀ wq M, Own E wq (Hp.xrd (w.heap.size + 1 + 1) s5 :: M) → Calls Tryz.prog 99 #[.pointer (some ⟨(w.heap.size + 1 + 1), 0, none⟩), .int .i64 6] wq fun e w' => e = .returned (.int .i64 ut) ∧ Own E w' (Hp.xrd (w.heap.size + 1 + 1) s6 :: M)) := Lib.hid fun w M h => xFnum _ (by omega) hx6 w h
  have K7 : Hid (∀ wq M, Own E wq (Hp.xrd (w.heap.size + 1 + 1) s6 :: M) → Calls Tryz.prog 99 #[.pointer (some ⟨(w.heap.size + 1 + 1), 0, none⟩), .int .i64 1] wq fun e w' => e = .returned (.int .i64 st) ∧ Own E w' (Hp.xrd (w.heap.size + 1 + 1) s7 :: M)) := Lib.hid fun w M h => xFnum _ (by omega) hx7 w h
  have K8 : Hid (∀ wq M, Own E wq (Hp.xrd (w.heap.size + 1 + 1) s7 :: M) → Calls Tryz.prog 99 #[.pointer (some ⟨(w.heap.size + 1 + 1), 0, none⟩), .int .i64 8] wq fun e w' => e = .returned (.int .i64 fa) ∧ Own E w' (Hp.xrd (w.heap.size + 1 + 1) s8 :: M)) := Lib.hid fun w M h => xFnum _ (by omega) hx8 w h
  have KPR : Hid (∀ (A : Option Addr) (cc : Nat) (w : World) (M : List Hp), Own E w (Hp.lst ST (.slice A xs.length cc) (xs.map Value.string) :: M) → Calls Tryz.prog 34 #[.agg (codeC z cl su A xs.length cc dh dc ut st fa).toArray] w fun ev w' => ev = .returned (.tuple #[.agg #[.string (codeR z cl su xs dh dc ut st fa).1, .string (codeR z cl su xs dh dc ut st fa).2.1], .int .i64 (codeR z cl su xs dh dc ut st fa).2.2]) ∧ Own E w' (Hp.lst ST (.slice A xs.length cc) (xs.map Value.string) :: M)) := Lib.hid fun A cc w M h => by
    obtain ⟨a, h4, ha, hb⟩ := h.opens
    obtain ⟨hr, hc, -, -⟩ := lst_rds ha
    refine (xprintcode_any z cl su A xs.length cc dh dc ut st fa xs w hr (fun x hx => Nat.le_trans (HXS.out.2 x hx) (by omega)) (by omega) (by omega) (by have := HXS.out; omega) h4).mono ?_
    rintro ev w' ⟨rfl, h⟩
    exact ⟨rfl, hb _ _ h⟩
  have KSM := Lib.hid (fun (a b c d : ByteArray) (w : World) (M : List Hp) h => xsame_any (E := E) (L := M) a b c d w h)
  clear h h1 h2 h3 hk hx1 hx2 hx3 hx4 hx5 hx6 hx7 hx8 hb1 hb2 hb3 hb4 hb5 hxs hl hz
  obtain ⟨x1, x2, er, hpr⟩ : ∃ x1 x2 er, (codeR z cl su xs dh dc ut st fa) = (x1, x2, er) := ⟨_, _, _, rfl⟩
  rw [hpr] at KPR HNO
  have HRR := Lib.hid hpr
  clear hpr
  by_cases he : er = 0
  · subst he
    by_cases hx : k = x1 ∧ v = x2
    · have HY : Hid ((⟨z, cl, su, xs, dh, dc, ut, st, fa⟩ : CodeV).R = (k, v, 0)) := Lib.hid (by
        show (codeR z cl su xs dh dc ut st fa) = _
        rw [HRR.out, hx.1, hx.2])
      have hb : (decide (k = x1) && decide (v = x2)) = true := by rw [decide_eq_true hx.1, decide_eq_true hx.2]; rfl
      clear hx HRR HNO
      go_enter Tryz.func37, Tryz.ntmps37
      go_wp2_with (first
        | (refine (KA.out _ _ H00.out).mono ?_; clear KA H00; rintro ev w1 ⟨rfl, h⟩; have H0 : Hid (Own E _ (Hp.blk w1.heap.size CDT (codeC z ⟨#[]⟩ ⟨#[]⟩ none 0 0 ⟨#[]⟩ ⟨#[]⟩ 0 0 0).toArray :: Hp.xrd (w.heap.size + 1 + 1) v :: Hp.blk (w.heap.size + 1) CDT (codeC 0 ⟨#[]⟩ ⟨#[]⟩ none 0 0 ⟨#[]⟩ ⟨#[]⟩ 0 0 0).toArray :: Hp.blk w.heap.size ITT #[.string k, .string v] :: L)) := Lib.hid (h.alloc (.cells #[.int .i64 z, .string ⟨#[]⟩, .string ⟨#[]⟩, .slice none 0 0, .string ⟨#[]⟩, .string ⟨#[]⟩, .int .i64 0, .int .i64 0, .int .i64 0] CDT)); clear h)
        | ((with_reducible refine (K1.out _ _ H0.out.f1).mono ?_); clear K1 H0; rintro ev w2 ⟨rfl, h⟩; obtain ⟨⟨old1, ho1⟩, hf1, hs⟩ := h.f1.put1 1 (.string cl) (show (1 : Nat) < 9 by omega); have H1 : Hid (Own E _ (Hp.blk w1.heap.size CDT (codeC z cl ⟨#[]⟩ none 0 0 ⟨#[]⟩ ⟨#[]⟩ 0 0 0).toArray :: Hp.xrd (w.heap.size + 1 + 1) s1 :: Hp.blk (w.heap.size + 1) CDT (codeC 0 ⟨#[]⟩ ⟨#[]⟩ none 0 0 ⟨#[]⟩ ⟨#[]⟩ 0 0 0).toArray :: Hp.blk w.heap.size ITT #[.string k, .string v] :: L)) := Lib.hid hs; clear h hs)
        | ((with_reducible refine (K2.out _ _ H1.out.f1).mono ?_); clear K2 H1; rintro ev w2 ⟨rfl, h⟩; obtain ⟨⟨old2, ho2⟩, hf2, hs⟩ := h.f1.put1 2 (.string su) (show (2 : Nat) < 9 by omega); have H2 : Hid (Own E _ (Hp.blk w1.heap.size CDT (codeC z cl su none 0 0 ⟨#[]⟩ ⟨#[]⟩ 0 0 0).toArray :: Hp.xrd (w.heap.size + 1 + 1) s2 :: Hp.blk (w.heap.size + 1) CDT (codeC 0 ⟨#[]⟩ ⟨#[]⟩ none 0 0 ⟨#[]⟩ ⟨#[]⟩ 0 0 0).toArray :: Hp.blk w.heap.size ITT #[.string k, .string v] :: L)) := Lib.hid hs; clear h hs)
        | ((with_reducible refine (K3.out _ _ H2.out.f1).mono ?_); clear K3 H2; rintro ev w2 ⟨A, cc, rfl, h⟩; obtain ⟨⟨old3, ho3⟩, hf3, hs⟩ := h.f1.f2.put1 3 (.slice A xs.length cc) (show (3 : Nat) < 9 by omega); have H3 : Hid (Own E _ (Hp.blk w1.heap.size CDT (codeC z cl su A xs.length cc ⟨#[]⟩ ⟨#[]⟩ 0 0 0).toArray :: Hp.xrd (w.heap.size + 1 + 1) s3 :: Hp.lst ST (.slice A xs.length cc) (xs.map Value.string) :: Hp.blk (w.heap.size + 1) CDT (codeC 0 ⟨#[]⟩ ⟨#[]⟩ none 0 0 ⟨#[]⟩ ⟨#[]⟩ 0 0 0).toArray :: Hp.blk w.heap.size ITT #[.string k, .string v] :: L)) := Lib.hid hs; clear h hs)
        | ((with_reducible refine (K4.out _ _ H3.out.f1).mono ?_); clear K4 H3; rintro ev w2 ⟨rfl, h⟩; obtain ⟨⟨old4, ho4⟩, hf4, hs⟩ := h.f1.put1 4 (.string dh) (show (4 : Nat) < 9 by omega); have H4 : Hid (Own E _ (Hp.blk w1.heap.size CDT (codeC z cl su A xs.length cc dh ⟨#[]⟩ 0 0 0).toArray :: Hp.xrd (w.heap.size + 1 + 1) s4 :: Hp.lst ST (.slice A xs.length cc) (xs.map Value.string) :: Hp.blk (w.heap.size + 1) CDT (codeC 0 ⟨#[]⟩ ⟨#[]⟩ none 0 0 ⟨#[]⟩ ⟨#[]⟩ 0 0 0).toArray :: Hp.blk w.heap.size ITT #[.string k, .string v] :: L)) := Lib.hid hs; clear h hs)
        | ((with_reducible refine (K5.out _ _ H4.out.f1).mono ?_); clear K5 H4; rintro ev w2 ⟨rfl, h⟩; obtain ⟨⟨old5, ho5⟩, hf5, hs⟩ := h.f1.put1 5 (.string dc) (show (5 : Nat) < 9 by omega); have H5 : Hid (Own E _ (Hp.blk w1.heap.size CDT (codeC z cl su A xs.length cc dh dc 0 0 0).toArray :: Hp.xrd (w.heap.size + 1 + 1) s5 :: Hp.lst ST (.slice A xs.length cc) (xs.map Value.string) :: Hp.blk (w.heap.size + 1) CDT (codeC 0 ⟨#[]⟩ ⟨#[]⟩ none 0 0 ⟨#[]⟩ ⟨#[]⟩ 0 0 0).toArray :: Hp.blk w.heap.size ITT #[.string k, .string v] :: L)) := Lib.hid hs; clear h hs)
        | ((with_reducible refine (K6.out _ _ H5.out.f1).mono ?_); clear K6 H5; rintro ev w2 ⟨rfl, h⟩; obtain ⟨⟨old6, ho6⟩, hf6, hs⟩ := h.f1.put1 6 (.int .i64 ut) (show (6 : Nat) < 9 by omega); have H6 : Hid (Own E _ (Hp.blk w1.heap.size CDT (codeC z cl su A xs.length cc dh dc ut 0 0).toArray :: Hp.xrd (w.heap.size + 1 + 1) s6 :: Hp.lst ST (.slice A xs.length cc) (xs.map Value.string) :: Hp.blk (w.heap.size + 1) CDT (codeC 0 ⟨#[]⟩ ⟨#[]⟩ none 0 0 ⟨#[]⟩ ⟨#[]⟩ 0 0 0).toArray :: Hp.blk w.heap.size ITT #[.string k, .string v] :: L)) := Lib.hid hs; clear h hs)
        | ((with_reducible refine (K7.out _ _ H6.out.f1).mono ?_); clear K7 H6; rintro ev w2 ⟨rfl, h⟩; obtain ⟨⟨old7, ho7⟩, hf7, hs⟩ := h.f1.put1 7 (.int .i64 st) (show (7 : Nat) < 9 by omega); have H7 : Hid (Own E _ (Hp.blk w1.heap.size CDT (codeC z cl su A xs.length cc dh dc ut st 0).toArray :: Hp.xrd (w.heap.size + 1 + 1) s7 :: Hp.lst ST (.slice A xs.length cc) (xs.map Value.string) :: Hp.blk (w.heap.size + 1) CDT (codeC 0 ⟨#[]⟩ ⟨#[]⟩ none 0 0 ⟨#[]⟩ ⟨#[]⟩ 0 0 0).toArray :: Hp.blk w.heap.size ITT #[.string k, .string v] :: L)) := Lib.hid hs; clear h hs)
        | ((with_reducible refine (K8.out _ _ H7.out.f1).mono ?_); clear K8 H7; rintro ev w2 ⟨rfl, h⟩; obtain ⟨⟨old8, ho8⟩, hf8, hs⟩ := h.f1.put1 8 (.int .i64 fa) (show (8 : Nat) < 9 by omega); have H8 : Hid (Own E _ (Hp.blk w1.heap.size CDT (codeC z cl su A xs.length cc dh dc ut st fa).toArray :: Hp.xrd (w.heap.size + 1 + 1) s8 :: Hp.lst ST (.slice A xs.length cc) (xs.map Value.string) :: Hp.blk (w.heap.size + 1) CDT (codeC 0 ⟨#[]⟩ ⟨#[]⟩ none 0 0 ⟨#[]⟩ ⟨#[]⟩ 0 0 0).toArray :: Hp.blk w.heap.size ITT #[.string k, .string v] :: L)) := Lib.hid hs; clear h hs)
        | (with_reducible refine at_slot (k := some 42) ?_; refine wpList_load_arr (o := ⟨some 42, _, _, _, _, _⟩) H8.out 0 (codeC z cl su A xs.length cc dh dc ut st fa) (fun jj u hu => by simpa using hu) hd hrow (by kernel_rfl) rfl rfl rfl ?_)
        | ((with_reducible refine (KPR.out _ _ _ _ H8.out.f2).mono ?_); clear KPR H8; rintro ev w2 ⟨rfl, h⟩; have H3 := Lib.hid ((show Own E w2 (Hp.blk w1.heap.size CDT (codeC z cl su A xs.length cc dh dc ut st fa).toArray :: Hp.xrd (w.heap.size + 1 + 1) s8 :: Hp.lst ST (.slice A xs.length cc) (xs.map Value.string) :: Hp.blk (w.heap.size + 1) CDT (codeC 0 ⟨#[]⟩ ⟨#[]⟩ none 0 0 ⟨#[]⟩ ⟨#[]⟩ 0 0 0).toArray :: Hp.blk w.heap.size ITT #[.string k, .string v] :: L) from h.f2.f2).alloc (.cells #[.string x1, .string x2] ITT)); clear h; have p0 := H3.out.f5.cell 0; have p1 := H3.out.f5.cell 1; simp only [List.getElem?_toArray, List.getElem?_cons_zero, List.getElem?_cons_succ] at p0 p1)
        | ((with_reducible refine (KSM.out _ _ _ _ _ _ H3.out).mono ?_); clear KSM H3; rintro ev w2 ⟨rfl, h⟩; have H3 := Lib.hid h; clear h p0 p1)
        | (with_reducible refine at_slot (k := some 56) ?_; refine wpList_load_arr (o := ⟨some 56, _, _, _, _, _⟩) H3.out.f1 0 (codeC z cl su A xs.length cc dh dc ut st fa) (fun jj u hu => by simpa using hu) hd hrow (by kernel_rfl) rfl rfl rfl ?_)
        | (with_reducible refine at_slot (k := none) ?_; refine wpList_store_whole (o := ⟨none, _, _, _, _, _⟩) (cs := (codeC 0 ⟨#[]⟩ ⟨#[]⟩ none 0 0 ⟨#[]⟩ ⟨#[]⟩ 0 0 0)) (vs := (codeC z cl su A xs.length cc dh dc ut st fa)) H3.out.f4 rfl (code_one _ _ _ _ _ _ _ _ _ _ _) (by kernel_rfl) rfl rfl rfl rfl ?_; clear H3; intro w7 h; have H8 := Lib.hid h; clear h))
      refine bodyPost_ret (results_ct rfl rfl H8.out hd hrow (by kernel_rfl)) rfl ?_
      exact .inl ⟨⟨z, cl, su, xs, dh, dc, ut, st, fa⟩, A, cc, rfl, HY.out, H8.out.drop.drop.drop.drop.f1.drop⟩
    · have HN : Hid (∀ f : CodeV, f.R ≠ (k, v, 0)) := Lib.hid fun f hf => by
        have := HNO.out f hf
        injection this with a b
        injection b with b c
        exact hx ⟨a.symm, b.symm⟩
      have hb : (decide (k = x1) && decide (v = x2)) = false := by
        rw [← Bool.not_eq_true, Bool.and_eq_true, decide_eq_true_eq, decide_eq_true_eq]; exact hx
      clear hx HRR HNO
      go_enter Tryz.func37, Tryz.ntmps37
      go_wp2_with (first
        | (refine (KA.out _ _ H00.out).mono ?_; clear KA H00; rintro ev w1 ⟨rfl, h⟩; have H0 : Hid (Own E _ (Hp.blk w1.heap.size CDT (codeC z ⟨#[]⟩ ⟨#[]⟩ none 0 0 ⟨#[]⟩ ⟨#[]⟩ 0 0 0).toArray :: Hp.xrd (w.heap.size + 1 + 1) v :: Hp.blk (w.heap.size + 1) CDT (codeC 0 ⟨#[]⟩ ⟨#[]⟩ none 0 0 ⟨#[]⟩ ⟨#[]⟩ 0 0 0).toArray :: Hp.blk w.heap.size ITT #[.string k, .string v] :: L)) := Lib.hid (h.alloc (.cells #[.int .i64 z, .string ⟨#[]⟩, .string ⟨#[]⟩, .slice none 0 0, .string ⟨#[]⟩, .string ⟨#[]⟩, .int .i64 0, .int .i64 0, .int .i64 0] CDT)); clear h)
        | ((with_reducible refine (K1.out _ _ H0.out.f1).mono ?_); clear K1 H0; rintro ev w2 ⟨rfl, h⟩; obtain ⟨⟨old1, ho1⟩, hf1, hs⟩ := h.f1.put1 1 (.string cl) (show (1 : Nat) < 9 by omega); have H1 : Hid (Own E _ (Hp.blk w1.heap.size CDT (codeC z cl ⟨#[]⟩ none 0 0 ⟨#[]⟩ ⟨#[]⟩ 0 0 0).toArray :: Hp.xrd (w.heap.size + 1 + 1) s1 :: Hp.blk (w.heap.size + 1) CDT (codeC 0 ⟨#[]⟩ ⟨#[]⟩ none 0 0 ⟨#[]⟩ ⟨#[]⟩ 0 0 0).toArray :: Hp.blk w.heap.size ITT #[.string k, .string v] :: L)) := Lib.hid hs; clear h hs)
        | ((with_reducible refine (K2.out _ _ H1.out.f1).mono ?_); clear K2 H1; rintro ev w2 ⟨rfl, h⟩; obtain ⟨⟨old2, ho2⟩, hf2, hs⟩ := h.f1.put1 2 (.string su) (show (2 : Nat) < 9 by omega); have H2 : Hid (Own E _ (Hp.blk w1.heap.size CDT (codeC z cl su none 0 0 ⟨#[]⟩ ⟨#[]⟩ 0 0 0).toArray :: Hp.xrd (w.heap.size + 1 + 1) s2 :: Hp.blk (w.heap.size + 1) CDT (codeC 0 ⟨#[]⟩ ⟨#[]⟩ none 0 0 ⟨#[]⟩ ⟨#[]⟩ 0 0 0).toArray :: Hp.blk w.heap.size ITT #[.string k, .string v] :: L)) := Lib.hid hs; clear h hs)
        | ((with_reducible refine (K3.out _ _ H2.out.f1).mono ?_); clear K3 H2; rintro ev w2 ⟨A, cc, rfl, h⟩; obtain ⟨⟨old3, ho3⟩, hf3, hs⟩ := h.f1.f2.put1 3 (.slice A xs.length cc) (show (3 : Nat) < 9 by omega); have H3 : Hid (Own E _ (Hp.blk w1.heap.size CDT (codeC z cl su A xs.length cc ⟨#[]⟩ ⟨#[]⟩ 0 0 0).toArray :: Hp.xrd (w.heap.size + 1 + 1) s3 :: Hp.lst ST (.slice A xs.length cc) (xs.map Value.string) :: Hp.blk (w.heap.size + 1) CDT (codeC 0 ⟨#[]⟩ ⟨#[]⟩ none 0 0 ⟨#[]⟩ ⟨#[]⟩ 0 0 0).toArray :: Hp.blk w.heap.size ITT #[.string k, .string v] :: L)) := Lib.hid hs; clear h hs)
        | ((with_reducible refine (K4.out _ _ H3.out.f1).mono ?_); clear K4 H3; rintro ev w2 ⟨rfl, h⟩; obtain ⟨⟨old4, ho4⟩, hf4, hs⟩ := h.f1.put1 4 (.string dh) (show (4 : Nat) < 9 by omega); have H4 : Hid (Own E _ (Hp.blk w1.heap.size CDT (codeC z cl su A xs.length cc dh ⟨#[]⟩ 0 0 0).toArray :: Hp.xrd (w.heap.size + 1 + 1) s4 :: Hp.lst ST (.slice A xs.length cc) (xs.map Value.string) :: Hp.blk (w.heap.size + 1) CDT (codeC 0 ⟨#[]⟩ ⟨#[]⟩ none 0 0 ⟨#[]⟩ ⟨#[]⟩ 0 0 0).toArray :: Hp.blk w.heap.size ITT #[.string k, .string v] :: L)) := Lib.hid hs; clear h hs)
        | ((with_reducible refine (K5.out _ _ H4.out.f1).mono ?_); clear K5 H4; rintro ev w2 ⟨rfl, h⟩; obtain ⟨⟨old5, ho5⟩, hf5, hs⟩ := h.f1.put1 5 (.string dc) (show (5 : Nat) < 9 by omega); have H5 : Hid (Own E _ (Hp.blk w1.heap.size CDT (codeC z cl su A xs.length cc dh dc 0 0 0).toArray :: Hp.xrd (w.heap.size + 1 + 1) s5 :: Hp.lst ST (.slice A xs.length cc) (xs.map Value.string) :: Hp.blk (w.heap.size + 1) CDT (codeC 0 ⟨#[]⟩ ⟨#[]⟩ none 0 0 ⟨#[]⟩ ⟨#[]⟩ 0 0 0).toArray :: Hp.blk w.heap.size ITT #[.string k, .string v] :: L)) := Lib.hid hs; clear h hs)
        | ((with_reducible refine (K6.out _ _ H5.out.f1).mono ?_); clear K6 H5; rintro ev w2 ⟨rfl, h⟩; obtain ⟨⟨old6, ho6⟩, hf6, hs⟩ := h.f1.put1 6 (.int .i64 ut) (show (6 : Nat) < 9 by omega); have H6 : Hid (Own E _ (Hp.blk w1.heap.size CDT (codeC z cl su A xs.length cc dh dc ut 0 0).toArray :: Hp.xrd (w.heap.size + 1 + 1) s6 :: Hp.lst ST (.slice A xs.length cc) (xs.map Value.string) :: Hp.blk (w.heap.size + 1) CDT (codeC 0 ⟨#[]⟩ ⟨#[]⟩ none 0 0 ⟨#[]⟩ ⟨#[]⟩ 0 0 0).toArray :: Hp.blk w.heap.size ITT #[.string k, .string v] :: L)) := Lib.hid hs; clear h hs)
        | ((with_reducible refine (K7.out _ _ H6.out.f1).mono ?_); clear K7 H6; rintro ev w2 ⟨rfl, h⟩; obtain ⟨⟨old7, ho7⟩, hf7, hs⟩ := h.f1.put1 7 (.int .i64 st) (show (7 : Nat) < 9 by omega); have H7 : Hid (Own E _ (Hp.blk w1.heap.size CDT (codeC z cl su A xs.length cc dh dc ut st 0).toArray :: Hp.xrd (w.heap.size + 1 + 1) s7 :: Hp.lst ST (.slice A xs.length cc) (xs.map Value.string) :: Hp.blk (w.heap.size + 1) CDT (codeC 0 ⟨#[]⟩ ⟨#[]⟩ none 0 0 ⟨#[]⟩ ⟨#[]⟩ 0 0 0).toArray :: Hp.blk w.heap.size ITT #[.string k, .string v] :: L)) := Lib.hid hs; clear h hs)
        | ((with_reducible refine (K8.out _ _ H7.out.f1).mono ?_); clear K8 H7; rintro ev w2 ⟨rfl, h⟩; obtain ⟨⟨old8, ho8⟩, hf8, hs⟩ := h.f1.put1 8 (.int .i64 fa) (show (8 : Nat) < 9 by omega); have H8 : Hid (Own E _ (Hp.blk w1.heap.size CDT (codeC z cl su A xs.length cc dh dc ut st fa).toArray :: Hp.xrd (w.heap.size + 1 + 1) s8 :: Hp.lst ST (.slice A xs.length cc) (xs.map Value.string) :: Hp.blk (w.heap.size + 1) CDT (codeC 0 ⟨#[]⟩ ⟨#[]⟩ none 0 0 ⟨#[]⟩ ⟨#[]⟩ 0 0 0).toArray :: Hp.blk w.heap.size ITT #[.string k, .string v] :: L)) := Lib.hid hs; clear h hs)
        | (with_reducible refine at_slot (k := some 42) ?_; refine wpList_load_arr (o := ⟨some 42, _, _, _, _, _⟩) H8.out 0 (codeC z cl su A xs.length cc dh dc ut st fa) (fun jj u hu => by simpa using hu) hd hrow (by kernel_rfl) rfl rfl rfl ?_)
        | ((with_reducible refine (KPR.out _ _ _ _ H8.out.f2).mono ?_); clear KPR H8; rintro ev w2 ⟨rfl, h⟩; have H3 := Lib.hid ((show Own E w2 (Hp.blk w1.heap.size CDT (codeC z cl su A xs.length cc dh dc ut st fa).toArray :: Hp.xrd (w.heap.size + 1 + 1) s8 :: Hp.lst ST (.slice A xs.length cc) (xs.map Value.string) :: Hp.blk (w.heap.size + 1) CDT (codeC 0 ⟨#[]⟩ ⟨#[]⟩ none 0 0 ⟨#[]⟩ ⟨#[]⟩ 0 0 0).toArray :: Hp.blk w.heap.size ITT #[.string k, .string v] :: L) from h.f2.f2).alloc (.cells #[.string x1, .string x2] ITT)); clear h; have p0 := H3.out.f5.cell 0; have p1 := H3.out.f5.cell 1; simp only [List.getElem?_toArray, List.getElem?_cons_zero, List.getElem?_cons_succ] at p0 p1)
        | ((with_reducible refine (KSM.out _ _ _ _ _ _ H3.out).mono ?_); clear KSM H3; rintro ev w2 ⟨rfl, h⟩; have H3 := Lib.hid h; clear h p0 p1)
        | (with_reducible refine at_slot (k := some 56) ?_; refine wpList_load_arr (o := ⟨some 56, _, _, _, _, _⟩) H3.out.f1 0 (codeC z cl su A xs.length cc dh dc ut st fa) (fun jj u hu => by simpa using hu) hd hrow (by kernel_rfl) rfl rfl rfl ?_)
        | (with_reducible refine at_slot (k := none) ?_; refine wpList_store_whole (o := ⟨none, _, _, _, _, _⟩) (cs := (codeC 0 ⟨#[]⟩ ⟨#[]⟩ none 0 0 ⟨#[]⟩ ⟨#[]⟩ 0 0 0)) (vs := (codeC 0 ⟨#[]⟩ ⟨#[]⟩ none 0 0 ⟨#[]⟩ ⟨#[]⟩ 0 0 0)) H3.out.f4 rfl (code_one _ _ _ _ _ _ _ _ _ _ _) (by kernel_rfl) rfl rfl rfl rfl ?_; clear H3; intro w7 h; have H8 := Lib.hid h; clear h))
      refine bodyPost_ret (results_ct rfl rfl H8.out hd hrow (by kernel_rfl)) rfl ?_
      exact .inr ⟨rfl, HN.out, H8.out.drop.drop.drop.drop.drop.drop⟩
  · have HN : Hid (∀ f : CodeV, f.R ≠ (k, v, 0)) := Lib.hid fun f hf => by
      have := HNO.out f hf
      injection this with a b
      injection b with b c
      exact he c
    have hz : (er != 0) = true := by rw [bne_iff_ne]; exact he
    clear he HRR HNO
    go_enter Tryz.func37, Tryz.ntmps37
    go_wp2_with (first
      | (refine (KA.out _ _ H00.out).mono ?_; clear KA H00; rintro ev w1 ⟨rfl, h⟩; have H0 : Hid (Own E _ (Hp.blk w1.heap.size CDT (codeC z ⟨#[]⟩ ⟨#[]⟩ none 0 0 ⟨#[]⟩ ⟨#[]⟩ 0 0 0).toArray :: Hp.xrd (w.heap.size + 1 + 1) v :: Hp.blk (w.heap.size + 1) CDT (codeC 0 ⟨#[]⟩ ⟨#[]⟩ none 0 0 ⟨#[]⟩ ⟨#[]⟩ 0 0 0).toArray :: Hp.blk w.heap.size ITT #[.string k, .string v] :: L)) := Lib.hid (h.alloc (.cells #[.int .i64 z, .string ⟨#[]⟩, .string ⟨#[]⟩, .slice none 0 0, .string ⟨#[]⟩, .string ⟨#[]⟩, .int .i64 0, .int .i64 0, .int .i64 0] CDT)); clear h)
      | ((with_reducible refine (K1.out _ _ H0.out.f1).mono ?_); clear K1 H0; rintro ev w2 ⟨rfl, h⟩; obtain ⟨⟨old1, ho1⟩, hf1, hs⟩ := h.f1.put1 1 (.string cl) (show (1 : Nat) < 9 by omega); have H1 : Hid (Own E _ (Hp.blk w1.heap.size CDT (codeC z cl ⟨#[]⟩ none 0 0 ⟨#[]⟩ ⟨#[]⟩ 0 0 0).toArray :: Hp.xrd (w.heap.size + 1 + 1) s1 :: Hp.blk (w.heap.size + 1) CDT (codeC 0 ⟨#[]⟩ ⟨#[]⟩ none 0 0 ⟨#[]⟩ ⟨#[]⟩ 0 0 0).toArray :: Hp.blk w.heap.size ITT #[.string k, .string v] :: L)) := Lib.hid hs; clear h hs)
      | ((with_reducible refine (K2.out _ _ H1.out.f1).mono ?_); clear K2 H1; rintro ev w2 ⟨rfl, h⟩; obtain ⟨⟨old2, ho2⟩, hf2, hs⟩ := h.f1.put1 2 (.string su) (show (2 : Nat) < 9 by omega); have H2 : Hid (Own E _ (Hp.blk w1.heap.size CDT (codeC z cl su none 0 0 ⟨#[]⟩ ⟨#[]⟩ 0 0 0).toArray :: Hp.xrd (w.heap.size + 1 + 1) s2 :: Hp.blk (w.heap.size + 1) CDT (codeC 0 ⟨#[]⟩ ⟨#[]⟩ none 0 0 ⟨#[]⟩ ⟨#[]⟩ 0 0 0).toArray :: Hp.blk w.heap.size ITT #[.string k, .string v] :: L)) := Lib.hid hs; clear h hs)
      | ((with_reducible refine (K3.out _ _ H2.out.f1).mono ?_); clear K3 H2; rintro ev w2 ⟨A, cc, rfl, h⟩; obtain ⟨⟨old3, ho3⟩, hf3, hs⟩ := h.f1.f2.put1 3 (.slice A xs.length cc) (show (3 : Nat) < 9 by omega); have H3 : Hid (Own E _ (Hp.blk w1.heap.size CDT (codeC z cl su A xs.length cc ⟨#[]⟩ ⟨#[]⟩ 0 0 0).toArray :: Hp.xrd (w.heap.size + 1 + 1) s3 :: Hp.lst ST (.slice A xs.length cc) (xs.map Value.string) :: Hp.blk (w.heap.size + 1) CDT (codeC 0 ⟨#[]⟩ ⟨#[]⟩ none 0 0 ⟨#[]⟩ ⟨#[]⟩ 0 0 0).toArray :: Hp.blk w.heap.size ITT #[.string k, .string v] :: L)) := Lib.hid hs; clear h hs)
      | ((with_reducible refine (K4.out _ _ H3.out.f1).mono ?_); clear K4 H3; rintro ev w2 ⟨rfl, h⟩; obtain ⟨⟨old4, ho4⟩, hf4, hs⟩ := h.f1.put1 4 (.string dh) (show (4 : Nat) < 9 by omega); have H4 : Hid (Own E _ (Hp.blk w1.heap.size CDT (codeC z cl su A xs.length cc dh ⟨#[]⟩ 0 0 0).toArray :: Hp.xrd (w.heap.size + 1 + 1) s4 :: Hp.lst ST (.slice A xs.length cc) (xs.map Value.string) :: Hp.blk (w.heap.size + 1) CDT (codeC 0 ⟨#[]⟩ ⟨#[]⟩ none 0 0 ⟨#[]⟩ ⟨#[]⟩ 0 0 0).toArray :: Hp.blk w.heap.size ITT #[.string k, .string v] :: L)) := Lib.hid hs; clear h hs)
      | ((with_reducible refine (K5.out _ _ H4.out.f1).mono ?_); clear K5 H4; rintro ev w2 ⟨rfl, h⟩; obtain ⟨⟨old5, ho5⟩, hf5, hs⟩ := h.f1.put1 5 (.string dc) (show (5 : Nat) < 9 by omega); have H5 : Hid (Own E _ (Hp.blk w1.heap.size CDT (codeC z cl su A xs.length cc dh dc 0 0 0).toArray :: Hp.xrd (w.heap.size + 1 + 1) s5 :: Hp.lst ST (.slice A xs.length cc) (xs.map Value.string) :: Hp.blk (w.heap.size + 1) CDT (codeC 0 ⟨#[]⟩ ⟨#[]⟩ none 0 0 ⟨#[]⟩ ⟨#[]⟩ 0 0 0).toArray :: Hp.blk w.heap.size ITT #[.string k, .string v] :: L)) := Lib.hid hs; clear h hs)
      | ((with_reducible refine (K6.out _ _ H5.out.f1).mono ?_); clear K6 H5; rintro ev w2 ⟨rfl, h⟩; obtain ⟨⟨old6, ho6⟩, hf6, hs⟩ := h.f1.put1 6 (.int .i64 ut) (show (6 : Nat) < 9 by omega); have H6 : Hid (Own E _ (Hp.blk w1.heap.size CDT (codeC z cl su A xs.length cc dh dc ut 0 0).toArray :: Hp.xrd (w.heap.size + 1 + 1) s6 :: Hp.lst ST (.slice A xs.length cc) (xs.map Value.string) :: Hp.blk (w.heap.size + 1) CDT (codeC 0 ⟨#[]⟩ ⟨#[]⟩ none 0 0 ⟨#[]⟩ ⟨#[]⟩ 0 0 0).toArray :: Hp.blk w.heap.size ITT #[.string k, .string v] :: L)) := Lib.hid hs; clear h hs)
      | ((with_reducible refine (K7.out _ _ H6.out.f1).mono ?_); clear K7 H6; rintro ev w2 ⟨rfl, h⟩; obtain ⟨⟨old7, ho7⟩, hf7, hs⟩ := h.f1.put1 7 (.int .i64 st) (show (7 : Nat) < 9 by omega); have H7 : Hid (Own E _ (Hp.blk w1.heap.size CDT (codeC z cl su A xs.length cc dh dc ut st 0).toArray :: Hp.xrd (w.heap.size + 1 + 1) s7 :: Hp.lst ST (.slice A xs.length cc) (xs.map Value.string) :: Hp.blk (w.heap.size + 1) CDT (codeC 0 ⟨#[]⟩ ⟨#[]⟩ none 0 0 ⟨#[]⟩ ⟨#[]⟩ 0 0 0).toArray :: Hp.blk w.heap.size ITT #[.string k, .string v] :: L)) := Lib.hid hs; clear h hs)
      | ((with_reducible refine (K8.out _ _ H7.out.f1).mono ?_); clear K8 H7; rintro ev w2 ⟨rfl, h⟩; obtain ⟨⟨old8, ho8⟩, hf8, hs⟩ := h.f1.put1 8 (.int .i64 fa) (show (8 : Nat) < 9 by omega); have H8 : Hid (Own E _ (Hp.blk w1.heap.size CDT (codeC z cl su A xs.length cc dh dc ut st fa).toArray :: Hp.xrd (w.heap.size + 1 + 1) s8 :: Hp.lst ST (.slice A xs.length cc) (xs.map Value.string) :: Hp.blk (w.heap.size + 1) CDT (codeC 0 ⟨#[]⟩ ⟨#[]⟩ none 0 0 ⟨#[]⟩ ⟨#[]⟩ 0 0 0).toArray :: Hp.blk w.heap.size ITT #[.string k, .string v] :: L)) := Lib.hid hs; clear h hs)
      | (with_reducible refine at_slot (k := some 42) ?_; refine wpList_load_arr (o := ⟨some 42, _, _, _, _, _⟩) H8.out 0 (codeC z cl su A xs.length cc dh dc ut st fa) (fun jj u hu => by simpa using hu) hd hrow (by kernel_rfl) rfl rfl rfl ?_)
      | ((with_reducible refine (KPR.out _ _ _ _ H8.out.f2).mono ?_); clear KPR H8; rintro ev w2 ⟨rfl, h⟩; have H3 := Lib.hid ((show Own E w2 (Hp.blk w1.heap.size CDT (codeC z cl su A xs.length cc dh dc ut st fa).toArray :: Hp.xrd (w.heap.size + 1 + 1) s8 :: Hp.lst ST (.slice A xs.length cc) (xs.map Value.string) :: Hp.blk (w.heap.size + 1) CDT (codeC 0 ⟨#[]⟩ ⟨#[]⟩ none 0 0 ⟨#[]⟩ ⟨#[]⟩ 0 0 0).toArray :: Hp.blk w.heap.size ITT #[.string k, .string v] :: L) from h.f2.f2).alloc (.cells #[.string x1, .string x2] ITT)); clear h; have p0 := H3.out.f5.cell 0; have p1 := H3.out.f5.cell 1; simp only [List.getElem?_toArray, List.getElem?_cons_zero, List.getElem?_cons_succ] at p0 p1)
      | ((with_reducible refine (KSM.out _ _ _ _ _ _ H3.out).mono ?_); clear KSM H3; rintro ev w2 ⟨rfl, h⟩; have H3 := Lib.hid h; clear h p0 p1)
      | (with_reducible refine at_slot (k := some 56) ?_; refine wpList_load_arr (o := ⟨some 56, _, _, _, _, _⟩) H3.out.f1 0 (codeC z cl su A xs.length cc dh dc ut st fa) (fun jj u hu => by simpa using hu) hd hrow (by kernel_rfl) rfl rfl rfl ?_)
      | (with_reducible refine at_slot (k := none) ?_; refine wpList_store_whole (o := ⟨none, _, _, _, _, _⟩) (cs := (codeC 0 ⟨#[]⟩ ⟨#[]⟩ none 0 0 ⟨#[]⟩ ⟨#[]⟩ 0 0 0)) (vs := (codeC 0 ⟨#[]⟩ ⟨#[]⟩ none 0 0 ⟨#[]⟩ ⟨#[]⟩ 0 0 0)) H3.out.f4 rfl (code_one _ _ _ _ _ _ _ _ _ _ _) (by kernel_rfl) rfl rfl rfl rfl ?_; clear H3; intro w7 h; have H8 := Lib.hid h; clear h))
    refine bodyPost_ret (results_ct rfl rfl H8.out hd hrow (by kernel_rfl)) rfl ?_
    exact .inr ⟨rfl, HN.out, H8.out.drop.drop.drop.drop.drop.drop⟩
end
end Go.Proofs.YtabibfabieghpaaGreatDoor
