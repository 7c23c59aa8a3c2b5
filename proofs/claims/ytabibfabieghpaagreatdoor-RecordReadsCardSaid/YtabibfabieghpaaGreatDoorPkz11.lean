/- record.ParseCode (begun by gen_paf.py code): a pair that is a right record's is read as that, every other one is refused. The reference's CodeMay (printed by gen_cd.py). The reference's PrintCode (printed by gen_cd.py). The reference's ClientMay, flags (printed by gen_cl.py). -/
import Derived.Test.YtabibfabieghpaaGreatDoorPkz0
import Derived.Test.YtabibfabieghpaaGreatDoorPkPaFam
import Derived.Test.YtabibfabieghpaaGreatDoorPkz10
import Derived.Test.YtabibfabieghpaaGreatDoorPkXRdr
import Derived.Test.YtabibfabieghpaaGreatDoorPkClientP
namespace Go.Proofs.YtabibfabieghpaaGreatDoor
open Go.RowKit
/- code -/
structure CodeV where
  id : Int
  cl : ByteArray
  su : ByteArray
  xs : List ByteArray
  dh : ByteArray
  dc : ByteArray
  ut : Int
  st : Int
  fa : Int
def CodeV.R (f : CodeV) : ByteArray × ByteArray × Int := codeR f.id f.cl f.su f.xs f.dh f.dc f.ut f.st f.fa
def CodeV.C (f : CodeV) (A : Option Addr) (c : Nat) : List Value := codeC f.id f.cl f.su A f.xs.length c f.dh f.dc f.ut f.st f.fa
def codeKs : List Fk := [.text, .text, .text, .raw 32, .raw 32, .num 6, .num 1, .num 8]
theorem code_reads {f : CodeV} {k v : ByteArray} (h : f.R = (k, v, 0)) : codeMay f.id f.cl f.su f.xs f.dh f.dc f.ut f.st f.fa ∧ numberV k ⟨#[97]⟩ 8 = (f.id, true) ∧ readV codeKs v = ([.s f.cl, .s f.su, .s (scTxt f.xs), .s f.dh, .s f.dc, .n f.ut, .n f.st, .n f.fa], true) ∧ (parseV (scTxt f.xs)).1 = f.xs := by
  unfold CodeV.R codeR at h
  by_cases hm : codeMay f.id f.cl f.su f.xs f.dh f.dc f.ut f.st f.fa
  · rw [if_pos hm] at h
    injection h with h1 h2
    injection h2 with h2 h3
    have hr := code_range hm
    refine ⟨hm, ?_, ?_, ?_⟩
    · rw [← h1]
      have c1 := hm.1
      exact number_back 97 8 f.id (by omega) (by omega) (by omega) (by show f.id < (256 : Int) ^ 8; omega) (by omega)
    · rw [← h2]
      have hh := readV_printed (code_fits 0 0 hr)
      rw [code_printed 0 0 hr] at hh
      exact hh
    · rw [parse_print hm.2.2.2.1]
  · rw [if_neg hm] at h
    injection h with h1 h2
    injection h2 with h2 h3
    cases h3
theorem code_inj {f g : CodeV} {k v : ByteArray} (h : f.R = (k, v, 0)) (h2 : g.R = (k, v, 0)) : f = g := by
  obtain ⟨-, a1, a2, a3⟩ := code_reads h
  obtain ⟨-, b1, b2, b3⟩ := code_reads h2
  rw [a1] at b1
  rw [a2] at b2
  obtain ⟨fid, fcl, fsu, fxs, fdh, fdc, fut, fst, ffa⟩ := f
  obtain ⟨gid, gcl, gsu, gxs, gdh, gdc, gut, gst, gfa⟩ := g
  simp only [Prod.mk.injEq, List.cons.injEq, Fv.s.injEq, Fv.n.injEq, and_true] at a3 b1 b2 b3
  obtain rfl := b1
  obtain ⟨rfl, rfl, es, rfl, rfl, rfl, rfl, rfl⟩ := b2
  rw [es, b3] at a3
  obtain rfl := a3
  rfl
theorem codet_u : ∃ d, Tryz.prog.underlying CDT = some d ∧ d.isRow = true := by
  cases e : Tryz.prog.underlying CDT with
  | none => exact absurd e (by rw [Tryz.underlying66]; simp)
  | some d => exact ⟨d, rfl, by rw [Tryz.underlying66] at e; injection e with e; subst e; rfl⟩
theorem code_one (id : Int) (cl : ByteArray) (su : ByteArray) (A : Option Addr) (n c : Nat) (dh : ByteArray) (dc : ByteArray) (ut : Int) (st : Int) (fa : Int) : ∀ v ∈ codeC id cl su A n c dh dc ut st fa, v.oneCell' = true := fun v hv => by
  simp only [codeC, List.mem_cons, List.not_mem_nil, or_false] at hv
  rcases hv with rfl | rfl | rfl | rfl | rfl | rfl | rfl | rfl | rfl <;> rfl
/-- Its fields as they are read. -/
def codeP (tb fb : Nat) (vs : List Value) : Hp := Hp.sep (Hp.blk tb CDT #[.int .i64 0, vs.getD 0 undef, vs.getD 1 undef, .slice none 0 0, vs.getD 3 undef, vs.getD 4 undef, vs.getD 5 undef, vs.getD 6 undef, vs.getD 7 undef]) (Hp.blk fb 9 #[vs.getD 2 undef])
theorem places_code {E : World} (tb fb : Nat) : Places E (codeP tb fb) [⟨tb, 1, none⟩, ⟨tb, 2, none⟩, ⟨fb, 0, none⟩, ⟨tb, 4, none⟩, ⟨tb, 5, none⟩, ⟨tb, 6, none⟩, ⟨tb, 7, none⟩, ⟨tb, 8, none⟩] where
  set w vs i ad v M hl hi h := by
    obtain ⟨a0, a1, a2, a3, a4, a5, a6, a7, rfl⟩ : ∃ a0 a1 a2 a3 a4 a5 a6 a7, vs = [a0, a1, a2, a3, a4, a5, a6, a7] := by
      match vs, hl with
      | [a0, a1, a2, a3, a4, a5, a6, a7], _ => exact ⟨a0, a1, a2, a3, a4, a5, a6, a7, rfl⟩
    have h := Own.sep2.1 h
    match i, hi with
    | 0, hi =>
      obtain rfl : (⟨tb, 1, none⟩ : Addr) = ad := by simpa using hi
      obtain ⟨h1, h2, h3⟩ := h.put1 1 v (show (1 : Nat) < 9 by omega)
      exact ⟨h1, h2, Own.sep2.2 h3⟩
    | 1, hi =>
      obtain rfl : (⟨tb, 2, none⟩ : Addr) = ad := by simpa using hi
      obtain ⟨h1, h2, h3⟩ := h.put1 2 v (show (2 : Nat) < 9 by omega)
      exact ⟨h1, h2, Own.sep2.2 h3⟩
    | 2, hi =>
      obtain rfl : (⟨fb, 0, none⟩ : Addr) = ad := by simpa using hi
      obtain ⟨h1, h2, h3⟩ := h.f1.put1 0 v (show (0 : Nat) < 1 by omega)
      exact ⟨h1, h2, Own.sep2.2 h3.f1⟩
    | 3, hi =>
      obtain rfl : (⟨tb, 4, none⟩ : Addr) = ad := by simpa using hi
      obtain ⟨h1, h2, h3⟩ := h.put1 4 v (show (4 : Nat) < 9 by omega)
      exact ⟨h1, h2, Own.sep2.2 h3⟩
    | 4, hi =>
      obtain rfl : (⟨tb, 5, none⟩ : Addr) = ad := by simpa using hi
      obtain ⟨h1, h2, h3⟩ := h.put1 5 v (show (5 : Nat) < 9 by omega)
      exact ⟨h1, h2, Own.sep2.2 h3⟩
    | 5, hi =>
      obtain rfl : (⟨tb, 6, none⟩ : Addr) = ad := by simpa using hi
      obtain ⟨h1, h2, h3⟩ := h.put1 6 v (show (6 : Nat) < 9 by omega)
      exact ⟨h1, h2, Own.sep2.2 h3⟩
    | 6, hi =>
      obtain rfl : (⟨tb, 7, none⟩ : Addr) = ad := by simpa using hi
      obtain ⟨h1, h2, h3⟩ := h.put1 7 v (show (7 : Nat) < 9 by omega)
      exact ⟨h1, h2, Own.sep2.2 h3⟩
    | 7, hi =>
      obtain rfl : (⟨tb, 8, none⟩ : Addr) = ad := by simpa using hi
      obtain ⟨h1, h2, h3⟩ := h.put1 8 v (show (8 : Nat) < 9 by omega)
      exact ⟨h1, h2, Own.sep2.2 h3⟩
section
variable {E : World} {L : List Hp}
set_option maxRecDepth 20000 in
set_option maxHeartbeats 16000000 in
theorem parsecode_any (k v : ByteArray) (w : World) (hk : k.size ≤ 1000000000000000) (hv : v.size ≤ 1000000000000000) (hG : Laid0 E L) (hM : Max0 E L) (h : Own E w L) :
    Calls Tryz.prog 36 #[.agg #[.string k, .string v]] w fun ev w' => (∃ (f : CodeV) (A : Option Addr) (c : Nat), ev = .returned (.tuple #[.agg (f.C A c).toArray, .int .i64 0]) ∧ f.R = (k, v, 0) ∧ Own E w' (Hp.lst ST (.slice A f.xs.length c) (f.xs.map Value.string) :: L)) ∨
      (ev = .returned (.tuple #[.agg (codeC 0 noB noB none 0 0 noB noB 0 0 0).toArray, .int .i64 141]) ∧ (∀ f : CodeV, f.R ≠ (k, v, 0)) ∧ Own E w' L) := by
  have h1 := h.alloc (.cells #[.string k, .string v] ITT)
  have h2 := h1.alloc (.cells (codeC 0 ⟨#[]⟩ ⟨#[]⟩ none 0 0 ⟨#[]⟩ ⟨#[]⟩ 0 0 0).toArray CDT)
  have h3 := h2.alloc (.cells (codeC 0 ⟨#[]⟩ ⟨#[]⟩ none 0 0 ⟨#[]⟩ ⟨#[]⟩ 0 0 0).toArray CDT)
  have h4 := h3.alloc (.cells #[.string ⟨#[]⟩] 9)
  rw [alloc_size, alloc_size, alloc_size] at h4
  have H3 := Lib.hid (show Own E _ (Hp.blk (w.heap.size + 1 + 1) CDT (codeC 0 ⟨#[]⟩ ⟨#[]⟩ none 0 0 ⟨#[]⟩ ⟨#[]⟩ 0 0 0).toArray :: Hp.blk (w.heap.size + 1 + 1 + 1) 9 #[.string ⟨#[]⟩] :: Hp.blk (w.heap.size + 1) CDT (codeC 0 ⟨#[]⟩ ⟨#[]⟩ none 0 0 ⟨#[]⟩ ⟨#[]⟩ 0 0 0).toArray :: Hp.blk w.heap.size ITT #[.string k, .string v] :: L) from h4.f1)
  obtain ⟨dd, hd, hrow⟩ := codet_u
  obtain ⟨z, nok, hq⟩ : ∃ z nok, numberV k ⟨#[97]⟩ 8 = (z, nok) := ⟨_, _, rfl⟩
  have KN : Hid (∀ w3 : World, Own E w3 (Hp.blk (w.heap.size + 1 + 1) CDT (codeC 0 ⟨#[]⟩ ⟨#[]⟩ none 0 0 ⟨#[]⟩ ⟨#[]⟩ 0 0 0).toArray :: Hp.blk (w.heap.size + 1 + 1 + 1) 9 #[.string ⟨#[]⟩] :: Hp.blk (w.heap.size + 1) CDT (codeC 0 ⟨#[]⟩ ⟨#[]⟩ none 0 0 ⟨#[]⟩ ⟨#[]⟩ 0 0 0).toArray :: Hp.blk w.heap.size ITT #[.string k, .string v] :: L) → Calls Tryz.prog 66 #[.string k, .string ⟨#[97]⟩, .int .i64 8] w3 fun ev w' => ev = .returned (.tuple #[.int .i64 z, .bool nok]) ∧ Own E w' (Hp.blk (w.heap.size + 1 + 1) CDT (codeC 0 ⟨#[]⟩ ⟨#[]⟩ none 0 0 ⟨#[]⟩ ⟨#[]⟩ 0 0 0).toArray :: Hp.blk (w.heap.size + 1 + 1 + 1) 9 #[.string ⟨#[]⟩] :: Hp.blk (w.heap.size + 1) CDT (codeC 0 ⟨#[]⟩ ⟨#[]⟩ none 0 0 ⟨#[]⟩ ⟨#[]⟩ 0 0 0).toArray :: Hp.blk w.heap.size ITT #[.string k, .string v] :: L)) := Lib.hid fun w3 h3 => by
    have hh := recnum_any (E := E) k ⟨#[97]⟩ 8 w3 hk hG.cons.cons.cons.cons h3
    rw [hq] at hh
    exact hh
  clear h h1 h2 h3 h4
  cases nok with
  | false =>
    have HN : Hid (∀ f : CodeV, f.R ≠ (k, v, 0)) := Lib.hid fun f hf => by
      have := (code_reads hf).2.1
      rw [hq] at this
      cases this
    clear hq hG hM hk hv
    go_enter Tryz.func36, Tryz.ntmps36
    go_wp2_with (refine (KN.out _ H3.out).mono ?_; clear H3; rintro ev w2 ⟨rfl, h⟩; have H3 := Lib.hid h; clear h)
    have h := H3.out.drew
    refine wp_region_text [] (fun _ => True) (by kernel_rfl) ?_ (fun hS => ?_)
    · trivial
    refine gp 0 (some 16) ?_
    refine gp 1 (some 17) ?_
    refine gp 2 (some 18) ?_
    refine gs 3 (some 19) ?_
    refine gs 4 (some 20) ?_
    refine gs 5 (some 21) ?_
    refine gs 6 (some 22) ?_
    refine gs 7 (some 23) ?_
    refine gp 8 (some 24) ?_
    refine wpAnyG_done (by kernel_rfl) ?_ _
    refine NoPanic.normal ?_
    clear H3
    have H3 := Lib.hid h.f2
    clear h
    go_wp2_with (with_reducible refine at_slot (k := none) ?_; refine wpList_store_whole (o := ⟨none, _, _, _, _, _⟩) (cs := (codeC 0 ⟨#[]⟩ ⟨#[]⟩ none 0 0 ⟨#[]⟩ ⟨#[]⟩ 0 0 0)) (vs := (codeC 0 ⟨#[]⟩ ⟨#[]⟩ none 0 0 ⟨#[]⟩ ⟨#[]⟩ 0 0 0)) H3.out rfl (code_one _ _ _ _ _ _ _ _ _ _ _) (by kernel_rfl) rfl rfl rfl rfl ?_; clear H3; intro w7 h; have H8 := Lib.hid h; clear h)
    refine bodyPost_ret (results_ct rfl rfl H8.out hd hrow (by kernel_rfl)) rfl ?_
    exact .inr ⟨rfl, HN.out, H8.out.drop.drop.drop.drop⟩
  | true =>
    obtain ⟨cl, su, sT, dh, dc, ut, st, fa, ok, hr⟩ : ∃ cl su sT dh dc ut st fa ok, readV codeKs v = ([.s cl, .s su, .s sT, .s dh, .s dc, .n ut, .n st, .n fa], ok) := ⟨_, _, _, _, _, _, _, _, _, rfl⟩
    have hT : sT.size ≤ 4000000000 := by
      have h9 : ((readV codeKs v).1.getD 2 (.n 0)).str.size ≤ 255 := rText_size _ _
      rw [hr] at h9
      have h8 : sT.size ≤ 255 := h9
      omega
    obtain ⟨xs, hxs⟩ : ∃ xs, xs = (parseV sT).1 := ⟨_, rfl⟩
    obtain ⟨n, hn⟩ : ∃ n, n = xs.length := ⟨_, rfl⟩
    have HNO : Hid (∀ f : CodeV, f.R = (k, v, 0) → ok = true ∧ (codeR z cl su xs dh dc ut st fa) = (k, v, 0)) := Lib.hid fun f hf => by
      obtain ⟨-, e1, e2, e3⟩ := code_reads hf
      rw [hq] at e1
      rw [hr] at e2
      obtain ⟨qid, qcl, qsu, qxs, qdh, qdc, qut, qst, qfa⟩ := f
      simp only [Prod.mk.injEq, List.cons.injEq, Fv.s.injEq, Fv.n.injEq, and_true] at e1 e2 e3
      obtain rfl := e1
      obtain ⟨⟨rfl, rfl, rfl, rfl, rfl, rfl, rfl, rfl⟩, rfl⟩ := e2
      refine ⟨rfl, ?_⟩
      rw [hxs, e3]
      exact hf
    have HSZ : Hid (xs.length ≤ 8) := Lib.hid (by
      rw [hxs]
      rcases parse_right sT with ⟨-, h⟩ | ⟨h, -⟩
      · exact ((fit_iff _).1 (scErr_zero h).2.2).1
      · rw [h]; exact Nat.zero_le _)
    have KR : Hid (∀ (bb : Nat) (w3 : World), Own E w3 (Hp.blk bb FT ((codeFs (w.heap.size + 1 + 1) (w.heap.size + 1 + 1 + 1)).flatMap enF).toArray :: Hp.blk (w.heap.size + 1 + 1) CDT (codeC 0 ⟨#[]⟩ ⟨#[]⟩ none 0 0 ⟨#[]⟩ ⟨#[]⟩ 0 0 0).toArray :: Hp.blk (w.heap.size + 1 + 1 + 1) 9 #[.string ⟨#[]⟩] :: Hp.blk (w.heap.size + 1) CDT (codeC 0 ⟨#[]⟩ ⟨#[]⟩ none 0 0 ⟨#[]⟩ ⟨#[]⟩ 0 0 0).toArray :: Hp.blk w.heap.size ITT #[.string k, .string v] :: L) →
        Calls Tryz.prog 67 #[.slice (some ⟨bb, 0, none⟩) 8 8, .string v] w3 fun ev w' => ev = .returned (.bool ok) ∧ Own E w' (Hp.blk (w.heap.size + 1 + 1) CDT (codeC 0 cl su none 0 0 dh dc ut st fa).toArray :: Hp.blk (w.heap.size + 1 + 1 + 1) 9 #[.string sT] :: Hp.blk (w.heap.size + 1) CDT (codeC 0 ⟨#[]⟩ ⟨#[]⟩ none 0 0 ⟨#[]⟩ ⟨#[]⟩ 0 0 0).toArray :: Hp.blk w.heap.size ITT #[.string k, .string v] :: L)) := Lib.hid fun bb w3 h3 => by
      have h4 : Own E w3 (Hp.blk bb FT ((codeFs (w.heap.size + 1 + 1) (w.heap.size + 1 + 1 + 1)).flatMap enF).toArray :: codeP (w.heap.size + 1 + 1) (w.heap.size + 1 + 1 + 1) [.string ⟨#[]⟩, .string ⟨#[]⟩, .string ⟨#[]⟩, .string ⟨#[]⟩, .string ⟨#[]⟩, .int .i64 0, .int .i64 0, .int .i64 0] :: Hp.blk (w.heap.size + 1) CDT (codeC 0 ⟨#[]⟩ ⟨#[]⟩ none 0 0 ⟨#[]⟩ ⟨#[]⟩ 0 0 0).toArray :: Hp.blk w.heap.size ITT #[.string k, .string v] :: L) := (Own.sep2.2 h3.f2.f2).f1
      have hh := read_blk (E := E) bb 8 (codeFs (w.heap.size + 1 + 1) (w.heap.size + 1 + 1 + 1)) v _ [.string ⟨#[]⟩, .string ⟨#[]⟩, .string ⟨#[]⟩, .string ⟨#[]⟩, .string ⟨#[]⟩, .int .i64 0, .int .i64 0, .int .i64 0] w3 rfl (by omega) hv (places_code _ _) rfl hG.cons.cons h4
      rw [show (codeFs (w.heap.size + 1 + 1) (w.heap.size + 1 + 1 + 1)).map (·.1) = codeKs from rfl, hr] at hh
      refine hh.mono ?_
      rintro ev w' ⟨rfl, h⟩
      exact ⟨rfl, Own.sep2.1 h⟩
    have KNM : Hid (∀ w3 : World, Own E w3 (Hp.blk (w.heap.size + 1 + 1) CDT (codeC z cl su none 0 0 dh dc ut st fa).toArray :: Hp.blk (w.heap.size + 1 + 1 + 1) 9 #[.string sT] :: Hp.blk (w.heap.size + 1) CDT (codeC 0 ⟨#[]⟩ ⟨#[]⟩ none 0 0 ⟨#[]⟩ ⟨#[]⟩ 0 0 0).toArray :: Hp.blk w.heap.size ITT #[.string k, .string v] :: L) → Calls Tryz.prog 94 #[.string sT] w3 fun ev w' => ∃ (A : Option Addr) (cc : Nat) (b : Bool), ev = .returned (.tuple #[.slice A n cc, .bool b]) ∧ Own E w' (Hp.lst ST (.slice A n cc) (xs.map Value.string) :: Hp.blk (w.heap.size + 1 + 1) CDT (codeC z cl su none 0 0 dh dc ut st fa).toArray :: Hp.blk (w.heap.size + 1 + 1 + 1) 9 #[.string sT] :: Hp.blk (w.heap.size + 1) CDT (codeC 0 ⟨#[]⟩ ⟨#[]⟩ none 0 0 ⟨#[]⟩ ⟨#[]⟩ 0 0 0).toArray :: Hp.blk w.heap.size ITT #[.string k, .string v] :: L)) := Lib.hid fun w3 h3 => by
      rw [hn, hxs]
      exact names_any sT w3 hT hM.cons.cons.cons.cons h3
    have HPR : Hid (∀ (A : Option Addr) (cc : Nat) (w3 : World), Own E w3 (Hp.blk (w.heap.size + 1 + 1) CDT (codeC z cl su A n cc dh dc ut st fa).toArray :: Hp.lst ST (.slice A n cc) (xs.map Value.string) :: Hp.blk (w.heap.size + 1 + 1 + 1) 9 #[.string sT] :: Hp.blk (w.heap.size + 1) CDT (codeC 0 ⟨#[]⟩ ⟨#[]⟩ none 0 0 ⟨#[]⟩ ⟨#[]⟩ 0 0 0).toArray :: Hp.blk w.heap.size ITT #[.string k, .string v] :: L) → Calls Tryz.prog 33 #[.agg (codeC z cl su A n cc dh dc ut st fa).toArray] w3 fun ev w' => ev = .returned (.tuple #[.agg #[.string (codeR z cl su xs dh dc ut st fa).1, .string (codeR z cl su xs dh dc ut st fa).2.1], .int .i64 (codeR z cl su xs dh dc ut st fa).2.2]) ∧ Own E w' (Hp.blk (w.heap.size + 1 + 1) CDT (codeC z cl su A n cc dh dc ut st fa).toArray :: Hp.lst ST (.slice A n cc) (xs.map Value.string) :: Hp.blk (w.heap.size + 1 + 1 + 1) 9 #[.string sT] :: Hp.blk (w.heap.size + 1) CDT (codeC 0 ⟨#[]⟩ ⟨#[]⟩ none 0 0 ⟨#[]⟩ ⟨#[]⟩ 0 0 0).toArray :: Hp.blk w.heap.size ITT #[.string k, .string v] :: L)) := Lib.hid fun A cc w3 h3 => by
      obtain ⟨a, h4, ha, hb⟩ := h3.f1.opens
      obtain ⟨hr, hc, -, -⟩ := lst_rds ha
      refine (printcode_any z cl su A n cc dh dc ut st fa xs w3 hr hc (by have := HSZ.out; omega) hG.cons.cons.cons.cons.cons h4).mono ?_
      rintro ev w' ⟨rfl, h⟩
      exact ⟨rfl, (hb _ _ h).f1⟩
    have HC : Hid (∀ w' : World, Own E w' (Hp.blk (w.heap.size + 1 + 1) CDT (codeC 0 ⟨#[]⟩ ⟨#[]⟩ none 0 0 ⟨#[]⟩ ⟨#[]⟩ 0 0 0).toArray :: Hp.blk (w.heap.size + 1 + 1 + 1) 9 #[.string ⟨#[]⟩] :: Hp.blk (w.heap.size + 1) CDT (codeC 0 ⟨#[]⟩ ⟨#[]⟩ none 0 0 ⟨#[]⟩ ⟨#[]⟩ 0 0 0).toArray :: Hp.blk w.heap.size ITT #[.string k, .string v] :: L) → w'.cell? ⟨w.heap.size, 1, none⟩ = some (.string v)) := Lib.hid fun w' h => by rw [h.f3.cell 1]; rfl
    have HNX := Lib.hid hn
    clear hq hr hG hM hk hv hT hxs hn
    go_enter Tryz.func36, Tryz.ntmps36
    go_wp2_with (refine (KN.out _ H3.out).mono ?_; clear H3; rintro ev w2 ⟨rfl, h⟩; have H3 := Lib.hid h; clear h)
    have h := H3.out.drew
    clear H3
    refine wp_region_text [5] (fun w' => w'.cell? ⟨w.heap.size, 1, none⟩ = some (.string v)) (by kernel_rfl) ?_ (fun hS => ?_)
    · exact HC.out _ h
    refine gp 0 (some 16) ?_
    refine gp 1 (some 17) ?_
    refine gp 2 (some 18) ?_
    refine gp 4 (some 20) ?_
    refine gl 5 (some 21) ?_
    refine gk 3 (some 19) (fun K hK => ?_)
    rw [if_pos (by rfl)]
    go_simp
    refine (codefields_any _ _ _ h).mono ?_
    clear h
    rintro ev w2 ⟨bb, rfl, h⟩
    refine hK.out _ _ ?_ (fun hS => ?_)
    · exact HC.out _ h.drop
    clear hK K
    try simp only [Act.put, List.setIfInBounds_toArray, List.set_cons_zero, List.set_cons_succ]
    refine wpAnyG_break (i := 6) (oi := ⟨some 22, _, _, _, _, _⟩) (by kernel_rfl) rfl (by kernel_rfl) (fun K hK => ?_)
    rw [if_pos (by rfl)]
    go_simp
    refine (KR.out _ _ h).mono ?_
    clear h
    rintro ev w2 ⟨rfl, h⟩
    refine hK.out _ _ ?_
    clear hK K
    try simp only [Act.put, List.setIfInBounds_toArray, List.set_cons_zero, List.set_cons_succ]
    refine gp 7 (some 23) ?_
    refine gp 8 (some 24) ?_
    refine wpAnyG_done (by kernel_rfl) ?_ _
    refine NoPanic.normal ?_
    cases ok with
    | false =>
      have HN : Hid (∀ f : CodeV, f.R ≠ (k, v, 0)) := Lib.hid fun f hf => by
        have := (HNO.out f hf).1
        cases this
      have H3 := Lib.hid h.f2
      clear h
      go_wp2_with (with_reducible refine at_slot (k := none) ?_; refine wpList_store_whole (o := ⟨none, _, _, _, _, _⟩) (cs := (codeC 0 ⟨#[]⟩ ⟨#[]⟩ none 0 0 ⟨#[]⟩ ⟨#[]⟩ 0 0 0)) (vs := (codeC 0 ⟨#[]⟩ ⟨#[]⟩ none 0 0 ⟨#[]⟩ ⟨#[]⟩ 0 0 0)) H3.out rfl (code_one _ _ _ _ _ _ _ _ _ _ _) (by kernel_rfl) rfl rfl rfl rfl ?_; clear H3; intro w7 h; have H8 := Lib.hid h; clear h)
      refine bodyPost_ret (results_ct rfl rfl H8.out hd hrow (by kernel_rfl)) rfl ?_
      exact .inr ⟨rfl, HN.out, H8.out.drop.drop.drop.drop⟩
    | true =>
      have cf := h.f1.cell 0
      simp only [List.getElem?_toArray, List.getElem?_cons_zero] at cf
      obtain ⟨⟨old, ho⟩, hf, hs⟩ := h.put1 0 (.int .i64 z) (show (0 : Nat) < 9 by omega)
      have hs : Own E _ (Hp.blk (w.heap.size + 1 + 1) CDT (codeC z cl su none 0 0 dh dc ut st fa).toArray :: Hp.blk (w.heap.size + 1 + 1 + 1) 9 #[.string sT] :: Hp.blk (w.heap.size + 1) CDT (codeC 0 ⟨#[]⟩ ⟨#[]⟩ none 0 0 ⟨#[]⟩ ⟨#[]⟩ 0 0 0).toArray :: Hp.blk w.heap.size ITT #[.string k, .string v] :: L) := hs
      have H3 := Lib.hid hs
      clear h hs
      obtain ⟨x1, x2, er, hpr⟩ : ∃ x1 x2 er, (codeR z cl su xs dh dc ut st fa) = (x1, x2, er) := ⟨_, _, _, rfl⟩
      rw [hpr] at HPR HNO
      have HRR := Lib.hid hpr
      clear hpr
      by_cases he : er = 0
      · subst he
        by_cases hx : x1 = k ∧ x2 = v
        · have HY : Hid ((⟨z, cl, su, xs, dh, dc, ut, st, fa⟩ : CodeV).R = (k, v, 0)) := Lib.hid (by
            show (codeR z cl su xs dh dc ut st fa) = _
            rw [HRR.out, hx.1, hx.2])
          have hq : ∀ w, (binOp .neq ITT (.agg #[.string x1, .string x2]) (.agg #[.string k, .string v])).run Tryz.prog w = .ok (.bool false) w := fun w => by rw [run_pair, decide_eq_true hx]; rfl
          clear hx HRR HNO
          go_wp2_with (first
            | ((with_reducible refine (KNM.out _ H3.out).mono ?_); clear H3; rintro ev w3 ⟨A, cc, bb, rfl, h⟩; obtain ⟨⟨old2, ho2⟩, hf2, hs⟩ := h.f1.put1 3 (.slice A n cc) (show (3 : Nat) < 9 by omega); have H3 : Hid (Own E _ (Hp.blk (w.heap.size + 1 + 1) CDT (codeC z cl su A n cc dh dc ut st fa).toArray :: Hp.lst ST (.slice A n cc) (xs.map Value.string) :: Hp.blk (w.heap.size + 1 + 1 + 1) 9 #[.string sT] :: Hp.blk (w.heap.size + 1) CDT (codeC 0 ⟨#[]⟩ ⟨#[]⟩ none 0 0 ⟨#[]⟩ ⟨#[]⟩ 0 0 0).toArray :: Hp.blk w.heap.size ITT #[.string k, .string v] :: L)) := Lib.hid hs; clear h hs)
            | (with_reducible refine at_slot (k := some 35) ?_; refine wpList_load_arr (o := ⟨some 35, _, _, _, _, _⟩) H3.out 0 (codeC z cl su A n cc dh dc ut st fa) (fun jj u hu => by simpa using hu) hd hrow (by kernel_rfl) rfl rfl rfl ?_)
            | (with_reducible refine (HPR.out _ _ _ H3.out).mono ?_; clear H3; rintro ev w2 ⟨rfl, h⟩; have H3 := Lib.hid (h.alloc (.cells #[.string x1, .string x2] ITT)); clear h; have p0 := H3.out.f5.cell 0; have p1 := H3.out.f5.cell 1; simp only [List.getElem?_toArray, List.getElem?_cons_zero, List.getElem?_cons_succ] at p0 p1)
            | (with_reducible refine at_slot (k := some 47) ?_; refine wpList_load_arr (o := ⟨some 47, _, _, _, _, _⟩) H3.out.f1 0 (codeC z cl su A n cc dh dc ut st fa) (fun jj u hu => by simpa using hu) hd hrow (by kernel_rfl) rfl rfl rfl ?_)
            | (with_reducible refine at_slot (k := none) ?_; refine wpList_store_whole (o := ⟨none, _, _, _, _, _⟩) (cs := (codeC 0 ⟨#[]⟩ ⟨#[]⟩ none 0 0 ⟨#[]⟩ ⟨#[]⟩ 0 0 0)) (vs := (codeC z cl su A n cc dh dc ut st fa)) H3.out.f4 rfl (code_one _ _ _ _ _ _ _ _ _ _ _) (by kernel_rfl) rfl rfl rfl rfl ?_; clear H3; intro w7 h; have H8 := Lib.hid h; clear h))
          refine bodyPost_ret (results_ct rfl rfl H8.out hd hrow (by kernel_rfl)) rfl ?_
          obtain rfl := HNX.out
          exact .inl ⟨⟨z, cl, su, xs, dh, dc, ut, st, fa⟩, A, cc, rfl, HY.out, H8.out.drop.drop.drop.f1.drop.f1.drop⟩
        · have HN : Hid (∀ f : CodeV, f.R ≠ (k, v, 0)) := Lib.hid fun f hf => by
            have := (HNO.out f hf).2
            injection this with a b
            injection b with b c
            exact hx ⟨a, b⟩
          have hq : ∀ w, (binOp .neq ITT (.agg #[.string x1, .string x2]) (.agg #[.string k, .string v])).run Tryz.prog w = .ok (.bool true) w := fun w => by rw [run_pair, decide_eq_false hx]; rfl
          clear hx HRR HNO
          go_wp2_with (first
            | ((with_reducible refine (KNM.out _ H3.out).mono ?_); clear H3; rintro ev w3 ⟨A, cc, bb, rfl, h⟩; obtain ⟨⟨old2, ho2⟩, hf2, hs⟩ := h.f1.put1 3 (.slice A n cc) (show (3 : Nat) < 9 by omega); have H3 : Hid (Own E _ (Hp.blk (w.heap.size + 1 + 1) CDT (codeC z cl su A n cc dh dc ut st fa).toArray :: Hp.lst ST (.slice A n cc) (xs.map Value.string) :: Hp.blk (w.heap.size + 1 + 1 + 1) 9 #[.string sT] :: Hp.blk (w.heap.size + 1) CDT (codeC 0 ⟨#[]⟩ ⟨#[]⟩ none 0 0 ⟨#[]⟩ ⟨#[]⟩ 0 0 0).toArray :: Hp.blk w.heap.size ITT #[.string k, .string v] :: L)) := Lib.hid hs; clear h hs)
            | (with_reducible refine at_slot (k := some 35) ?_; refine wpList_load_arr (o := ⟨some 35, _, _, _, _, _⟩) H3.out 0 (codeC z cl su A n cc dh dc ut st fa) (fun jj u hu => by simpa using hu) hd hrow (by kernel_rfl) rfl rfl rfl ?_)
            | (with_reducible refine (HPR.out _ _ _ H3.out).mono ?_; clear H3; rintro ev w2 ⟨rfl, h⟩; have H3 := Lib.hid (h.alloc (.cells #[.string x1, .string x2] ITT)); clear h; have p0 := H3.out.f5.cell 0; have p1 := H3.out.f5.cell 1; simp only [List.getElem?_toArray, List.getElem?_cons_zero, List.getElem?_cons_succ] at p0 p1)
            | (with_reducible refine at_slot (k := some 47) ?_; refine wpList_load_arr (o := ⟨some 47, _, _, _, _, _⟩) H3.out.f1 0 (codeC z cl su A n cc dh dc ut st fa) (fun jj u hu => by simpa using hu) hd hrow (by kernel_rfl) rfl rfl rfl ?_)
            | (with_reducible refine at_slot (k := none) ?_; refine wpList_store_whole (o := ⟨none, _, _, _, _, _⟩) (cs := (codeC 0 ⟨#[]⟩ ⟨#[]⟩ none 0 0 ⟨#[]⟩ ⟨#[]⟩ 0 0 0)) (vs := (codeC 0 ⟨#[]⟩ ⟨#[]⟩ none 0 0 ⟨#[]⟩ ⟨#[]⟩ 0 0 0)) H3.out.f4 rfl (code_one _ _ _ _ _ _ _ _ _ _ _) (by kernel_rfl) rfl rfl rfl rfl ?_; clear H3; intro w7 h; have H8 := Lib.hid h; clear h))
          refine bodyPost_ret (results_ct rfl rfl H8.out hd hrow (by kernel_rfl)) rfl ?_
          exact .inr ⟨rfl, HN.out, H8.out.drop.drop.drop.drop.drop.drop⟩
      · have HN : Hid (∀ f : CodeV, f.R ≠ (k, v, 0)) := Lib.hid fun f hf => by
          have := (HNO.out f hf).2
          injection this with a b
          injection b with b c
          exact he c
        have hz : (er != 0) = true := by rw [bne_iff_ne]; exact he
        clear he HRR HNO
        go_wp2_with (first
          | ((with_reducible refine (KNM.out _ H3.out).mono ?_); clear H3; rintro ev w3 ⟨A, cc, bb, rfl, h⟩; obtain ⟨⟨old2, ho2⟩, hf2, hs⟩ := h.f1.put1 3 (.slice A n cc) (show (3 : Nat) < 9 by omega); have H3 : Hid (Own E _ (Hp.blk (w.heap.size + 1 + 1) CDT (codeC z cl su A n cc dh dc ut st fa).toArray :: Hp.lst ST (.slice A n cc) (xs.map Value.string) :: Hp.blk (w.heap.size + 1 + 1 + 1) 9 #[.string sT] :: Hp.blk (w.heap.size + 1) CDT (codeC 0 ⟨#[]⟩ ⟨#[]⟩ none 0 0 ⟨#[]⟩ ⟨#[]⟩ 0 0 0).toArray :: Hp.blk w.heap.size ITT #[.string k, .string v] :: L)) := Lib.hid hs; clear h hs)
          | (with_reducible refine at_slot (k := some 35) ?_; refine wpList_load_arr (o := ⟨some 35, _, _, _, _, _⟩) H3.out 0 (codeC z cl su A n cc dh dc ut st fa) (fun jj u hu => by simpa using hu) hd hrow (by kernel_rfl) rfl rfl rfl ?_)
          | (with_reducible refine (HPR.out _ _ _ H3.out).mono ?_; clear H3; rintro ev w2 ⟨rfl, h⟩; have H3 := Lib.hid (h.alloc (.cells #[.string x1, .string x2] ITT)); clear h; have p0 := H3.out.f5.cell 0; have p1 := H3.out.f5.cell 1; simp only [List.getElem?_toArray, List.getElem?_cons_zero, List.getElem?_cons_succ] at p0 p1)
          | (with_reducible refine at_slot (k := some 47) ?_; refine wpList_load_arr (o := ⟨some 47, _, _, _, _, _⟩) H3.out.f1 0 (codeC z cl su A n cc dh dc ut st fa) (fun jj u hu => by simpa using hu) hd hrow (by kernel_rfl) rfl rfl rfl ?_)
          | (with_reducible refine at_slot (k := none) ?_; refine wpList_store_whole (o := ⟨none, _, _, _, _, _⟩) (cs := (codeC 0 ⟨#[]⟩ ⟨#[]⟩ none 0 0 ⟨#[]⟩ ⟨#[]⟩ 0 0 0)) (vs := (codeC 0 ⟨#[]⟩ ⟨#[]⟩ none 0 0 ⟨#[]⟩ ⟨#[]⟩ 0 0 0)) H3.out.f4 rfl (code_one _ _ _ _ _ _ _ _ _ _ _) (by kernel_rfl) rfl rfl rfl rfl ?_; clear H3; intro w7 h; have H8 := Lib.hid h; clear h))
        refine bodyPost_ret (results_ct rfl rfl H8.out hd hrow (by kernel_rfl)) rfl ?_
        exact .inr ⟨rfl, HN.out, H8.out.drop.drop.drop.drop.drop.drop⟩
end
end Go.Proofs.YtabibfabieghpaaGreatDoor
namespace Go.Proofs.YtabibfabieghpaaGreatDoor
open Go.RowKit
section
variable {E : World} {S : Ph} {L : List Hp}
set_option maxRecDepth 20000 in
set_option maxHeartbeats 8000000 in
theorem xcodemay_any (id : Int) (cl su : ByteArray) (A : Option Addr) (n c : Nat) (hs ch : ByteArray) (un st fa : Int) (xs : List ByteArray) (w : World) (hr : Rds S 1 enStr A n xs) (hsz : ∀ x ∈ xs, x.size ≤ 1000000000000000000) (hcl : cl.size ≤ 1000000000000000000) (hsu : su.size ≤ 1000000000000000000) (hn43 : n ≤ 8796093022208) (h : Own E w (Hp.ro S :: L)) :
    Calls Tryz.prog 91 #[.agg (codeC id cl su A n c hs ch un st fa).toArray] w fun ev w' => ev = .returned (.bool (decide (codeMay id cl su xs hs ch un st fa))) ∧ Own E w' (Hp.ro S :: L) := by
  have H1 := Lib.hid (show Own E _ (Hp.blk w.heap.size CDT (codeC id cl su A n c hs ch un st fa).toArray :: Hp.ro S :: L) from h.alloc (.cells (codeC id cl su A n c hs ch un st fa).toArray CDT))
  obtain ⟨n1, hn1⟩ : ∃ nv : Int, nameB cl = decide (nv = 1) := ⟨if nameB cl then 1 else 0, by cases nameB cl <;> rfl⟩
  obtain ⟨n2, hn2⟩ : ∃ nv : Int, nameB su = decide (nv = 1) := ⟨if nameB su then 1 else 0, by cases nameB su <;> rfl⟩
  obtain ⟨jn, hjn⟩ : ∃ jn : Int, fa = 0 ↔ jn = 1 := ⟨if fa = 0 then 1 else 0, by split <;> simp_all⟩
  obtain ⟨q1, hq1⟩ : ∃ q : Int, st = 1 ↔ q = 1 := ⟨if st = 1 then 1 else 0, by split <;> simp_all⟩
  obtain ⟨q2, hq2⟩ : ∃ q : Int, st = 2 ↔ q = 1 := ⟨if st = 2 then 1 else 0, by split <;> simp_all⟩
  have zj : (fa == 0) = decide (jn = 1) := by rw [Bool.eq_iff_iff, beq_iff_eq, decide_eq_true_eq, hjn]
  have z1 : (st == 1) = decide (q1 = 1) := by rw [Bool.eq_iff_iff, beq_iff_eq, decide_eq_true_eq, hq1]
  have z2 : (st == 2) = decide (q2 = 1) := by rw [Bool.eq_iff_iff, beq_iff_eq, decide_eq_true_eq, hq2]
  have KR := Lib.hid (fun (w3 : World) (h3 : Own E w3 (Hp.blk w.heap.size CDT (codeC id cl su A n c hs ch un st fa).toArray :: Hp.ro S :: L)) => xscope_any (E := E) (S := S) (L := Hp.blk w.heap.size CDT (codeC id cl su A n c hs ch un st fa).toArray :: L) A n c xs w3 hr hsz hn43 h3.f1)
  obtain ⟨sx, hsx⟩ : ∃ sx : Int, sx = scErr xs := ⟨_, rfl⟩
  rw [← hsx] at KR
  have k4 := fun w => xname_any cl w hcl
  have k5 := fun w => xname_any su w hsu
  rw [hn1] at k4
  rw [hn2] at k5
  have hiff : codeMay id cl su xs hs ch un st fa ↔ ((1 ≤ id ∧ id ≤ 4611686018427387904) ∧ n1 = 1 ∧ n2 = 1 ∧ sx = 0 ∧ hs.size = 32 ∧ ch.size = 32 ∧ (0 ≤ un ∧ un ≤ 1099511627776) ∧ ((q1 = 1 ∧ jn = 1) ∨ (q2 = 1 ∧ (1 ≤ fa ∧ fa ≤ 4611686018427387904)))) := by
    unfold codeMay
    rw [hn1, hn2, hjn, hq1, hq2, ← hsx, decide_eq_true_iff, decide_eq_true_iff]
  have HI := Lib.hid hiff
  have HX := Lib.hid (show ¬ (q1 = 1 ∧ q2 = 1) by rw [← hq1, ← hq2]; omega)
  have k1 := fun w => xid_any id w
  have k2 := fun w => xid_any fa w
  have k3 := fun w => xtime_any un w
  clear h hiff hn1 hn2 hjn hq1 hq2 hsx hr hsz hcl hsu
  go_enter Tryz.func91, Tryz.ntmps91
  obtain ⟨d0, d1, d2, d3, d4, d5, d6, d7, d8⟩ := code_cells id cl su A n c hs ch un st fa H1.out
  go_wp2_with (first
    | (with_reducible refine (k1 _).mono ?_; rintro ev w2 ⟨rfl, rfl⟩)
    | (with_reducible refine (k2 _).mono ?_; rintro ev w2 ⟨rfl, rfl⟩)
    | (with_reducible refine (k3 _).mono ?_; rintro ev w2 ⟨rfl, rfl⟩)
    | (with_reducible refine (k4 _).mono ?_; rintro ev w2 ⟨rfl, rfl⟩)
    | (with_reducible refine (k5 _).mono ?_; rintro ev w2 ⟨rfl, rfl⟩)
    | (with_reducible refine (KR.out _ H1.out).mono ?_; clear H1 d0 d1 d2 d3 d4 d5 d6 d7 d8; rintro ev w2 ⟨rfl, h⟩; have H1 := Lib.hid (show Own E w2 (Hp.blk w.heap.size CDT (codeC id cl su A n c hs ch un st fa).toArray :: Hp.ro S :: L) from h.f1); clear h; obtain ⟨d0, d1, d2, d3, d4, d5, d6, d7, d8⟩ := code_cells id cl su A n c hs ch un st fa H1.out))
  all_goals go_ret
  all_goals
    refine ⟨(show Ending.returned (Value.bool _) = Ending.returned (Value.bool _) from ret_bool ?_), H1.out.drop⟩
    rw [Bool.eq_iff_iff]
    refine Iff.trans ?_ (decide_eq_true_iff.trans HI.out).symm
    have hx := HX.out
    (first | omega | (simp <;> omega) | ((try simp only at *); (try simp only [Bool.not_eq_true'] at *); (try simp only [Bool.not_eq_false'] at *); (try simp only [decide_eq_true_eq] at *); (try simp only [decide_eq_false_iff_not] at *); (try simp only [bne_iff_ne] at *); (try simp only [ne_eq] at *); (try simp only [bne_eq_false_iff_eq] at *); first | omega | (simp <;> omega)))
end
end Go.Proofs.YtabibfabieghpaaGreatDoor
namespace Go.Proofs.YtabibfabieghpaaGreatDoor
open Go.RowKit
section
variable {E : World} {S : Ph} {L : List Hp}
set_option maxRecDepth 20000 in
set_option maxHeartbeats 8000000 in
theorem xprintcode_any (id : Int) (cl su : ByteArray) (A : Option Addr) (n c : Nat) (hs ch : ByteArray) (un st fa : Int) (xs : List ByteArray) (w : World) (hr : Rds S 1 enStr A n xs) (hsz : ∀ x ∈ xs, x.size ≤ 1000000000000000000) (hcl : cl.size ≤ 1000000000000000000) (hsu : su.size ≤ 1000000000000000000) (hn43 : n ≤ 8796093022208) (h : Own E w (Hp.ro S :: L)) :
    Calls Tryz.prog 34 #[.agg (codeC id cl su A n c hs ch un st fa).toArray] w fun ev w' => ev = .returned (itemV (codeR id cl su xs hs ch un st fa)) ∧ Own E w' (Hp.ro S :: L) := by
  have h1 := h.alloc (.cells (codeC id cl su A n c hs ch un st fa).toArray CDT)
  have h2 := h1.alloc (.cells #[.string ⟨#[]⟩, .string ⟨#[]⟩] ITT)
  rw [alloc_size] at h2
  have H3 := Lib.hid h2
  obtain ⟨dd, hd, hrow⟩ := itt_u
  by_cases hm : codeMay id cl su xs hs ch un st fa
  · have hrg : CodeIn id cl su (scTxt xs) hs ch un st fa := code_range hm
    have hsc : scErr xs = 0 := hm.2.2.2.1
    have KM : Hid (∀ w3 : World, Own E w3 (Hp.blk (w.heap.size + 1) ITT #[.string ⟨#[]⟩, .string ⟨#[]⟩] :: Hp.blk w.heap.size CDT (codeC id cl su A n c hs ch un st fa).toArray :: Hp.ro S :: L) → Calls Tryz.prog 91 #[.agg (codeC id cl su A n c hs ch un st fa).toArray] w3 fun ev w' => ev = .returned (.bool true) ∧ Own E w' (Hp.blk (w.heap.size + 1) ITT #[.string ⟨#[]⟩, .string ⟨#[]⟩] :: Hp.blk w.heap.size CDT (codeC id cl su A n c hs ch un st fa).toArray :: Hp.ro S :: L)) := Lib.hid fun w3 h3 => (xcodemay_any id cl su A n c hs ch un st fa xs w3 hr hsz hcl hsu hn43 (show Own E w3 (Hp.ro S :: Hp.blk (w.heap.size + 1) ITT #[.string ⟨#[]⟩, .string ⟨#[]⟩] :: Hp.blk w.heap.size CDT (codeC id cl su A n c hs ch un st fa).toArray :: L) from h3.f2)).mono fun ev w' he => ⟨by rw [he.1, decide_eq_true hm], he.2.f2.f2⟩
    have KS : Hid (∀ w3 : World, Own E w3 (Hp.blk (w.heap.size + 1) ITT #[.string ⟨#[]⟩, .string ⟨#[]⟩] :: Hp.blk w.heap.size CDT (codeC id cl su A n c hs ch un st fa).toArray :: Hp.ro S :: L) → Calls Tryz.prog 92 #[.slice A n c] w3 fun ev w' => ev = .returned (.string (scTxt xs)) ∧ Own E w' (Hp.blk (w.heap.size + 1) ITT #[.string ⟨#[]⟩, .string ⟨#[]⟩] :: Hp.blk w.heap.size CDT (codeC id cl su A n c hs ch un st fa).toArray :: Hp.ro S :: L)) := Lib.hid fun w3 h3 => (spaced_any A n c xs w3 hr hsc (show Own E w3 (Hp.ro S :: Hp.blk (w.heap.size + 1) ITT #[.string ⟨#[]⟩, .string ⟨#[]⟩] :: Hp.blk w.heap.size CDT (codeC id cl su A n c hs ch un st fa).toArray :: L) from h3.f2)).mono fun ev w' he => ⟨he.1, he.2.f2.f2⟩
    obtain ⟨s1, s2, s3, r0, e1, e2, c0, c1, c2⟩ := hrg
    have B1 : Hid (∀ wq : World, Own E wq (Hp.blk (w.heap.size + 1) ITT #[.string ⟨#[]⟩, .string ⟨#[]⟩] :: Hp.blk w.heap.size CDT (codeC id cl su A n c hs ch un st fa).toArray :: Hp.ro S :: L) → Calls Tryz.prog 65 #[.string cl] wq fun ev w' => ev = .returned (.string ((⟨(byN 1 cl.size).toArray⟩ : ByteArray) ++ cl)) ∧ Own E w' (Hp.blk (w.heap.size + 1) ITT #[.string ⟨#[]⟩, .string ⟨#[]⟩] :: Hp.blk w.heap.size CDT (codeC id cl su A n c hs ch un st fa).toArray :: Hp.ro S :: L)) := Lib.hid fun wq h => short_any cl wq (by omega) h
    have z1 : (((⟨(byN 1 cl.size).toArray⟩ : ByteArray) ++ cl)).size ≤ 300 := by rw [ByteArray.size_append, fl_size, byN_len]; omega
    have B2 : Hid (∀ wq : World, Own E wq (Hp.blk (w.heap.size + 1) ITT #[.string ⟨#[]⟩, .string ⟨#[]⟩] :: Hp.blk w.heap.size CDT (codeC id cl su A n c hs ch un st fa).toArray :: Hp.ro S :: L) → Calls Tryz.prog 65 #[.string su] wq fun ev w' => ev = .returned (.string ((⟨(byN 1 su.size).toArray⟩ : ByteArray) ++ su)) ∧ Own E w' (Hp.blk (w.heap.size + 1) ITT #[.string ⟨#[]⟩, .string ⟨#[]⟩] :: Hp.blk w.heap.size CDT (codeC id cl su A n c hs ch un st fa).toArray :: Hp.ro S :: L)) := Lib.hid fun wq h => short_any su wq (by omega) h
    have z2 : (((⟨(byN 1 su.size).toArray⟩ : ByteArray) ++ su)).size ≤ 300 := by rw [ByteArray.size_append, fl_size, byN_len]; omega
    have B3 : Hid (∀ wq : World, Own E wq (Hp.blk (w.heap.size + 1) ITT #[.string ⟨#[]⟩, .string ⟨#[]⟩] :: Hp.blk w.heap.size CDT (codeC id cl su A n c hs ch un st fa).toArray :: Hp.ro S :: L) → Calls Tryz.prog 65 #[.string (scTxt xs)] wq fun ev w' => ev = .returned (.string ((⟨(byN 1 (scTxt xs).size).toArray⟩ : ByteArray) ++ (scTxt xs))) ∧ Own E w' (Hp.blk (w.heap.size + 1) ITT #[.string ⟨#[]⟩, .string ⟨#[]⟩] :: Hp.blk w.heap.size CDT (codeC id cl su A n c hs ch un st fa).toArray :: Hp.ro S :: L)) := Lib.hid fun wq h => short_any (scTxt xs) wq (by omega) h
    have z3 : (((⟨(byN 1 (scTxt xs).size).toArray⟩ : ByteArray) ++ (scTxt xs))).size ≤ 300 := by rw [ByteArray.size_append, fl_size, byN_len]; omega
    have z4 : (hs).size ≤ 300 := by omega
    have z5 : (ch).size ≤ 300 := by omega
    have B6 : Hid (∀ wq : World, Own E wq (Hp.blk (w.heap.size + 1) ITT #[.string ⟨#[]⟩, .string ⟨#[]⟩] :: Hp.blk w.heap.size CDT (codeC id cl su A n c hs ch un st fa).toArray :: Hp.ro S :: L) → Calls Tryz.prog 64 #[.int .i64 un, .int .i64 6] wq fun ev w' => ev = .returned (.string (⟨(byN 6 un.toNat).toArray⟩ : ByteArray)) ∧ Own E w' (Hp.blk (w.heap.size + 1) ITT #[.string ⟨#[]⟩, .string ⟨#[]⟩] :: Hp.blk w.heap.size CDT (codeC id cl su A n c hs ch un st fa).toArray :: Hp.ro S :: L)) := Lib.hid fun wq h => by_any un 6 wq (by omega) (by omega) (by omega) h
    have z6 : ((⟨(byN 6 un.toNat).toArray⟩ : ByteArray)).size ≤ 300 := by rw [fl_size, byN_len]; omega
    have B7 : Hid (∀ wq : World, Own E wq (Hp.blk (w.heap.size + 1) ITT #[.string ⟨#[]⟩, .string ⟨#[]⟩] :: Hp.blk w.heap.size CDT (codeC id cl su A n c hs ch un st fa).toArray :: Hp.ro S :: L) → Calls Tryz.prog 64 #[.int .i64 st, .int .i64 1] wq fun ev w' => ev = .returned (.string (⟨(byN 1 st.toNat).toArray⟩ : ByteArray)) ∧ Own E w' (Hp.blk (w.heap.size + 1) ITT #[.string ⟨#[]⟩, .string ⟨#[]⟩] :: Hp.blk w.heap.size CDT (codeC id cl su A n c hs ch un st fa).toArray :: Hp.ro S :: L)) := Lib.hid fun wq h => by_any st 1 wq (by omega) (by omega) (by omega) h
    have z7 : ((⟨(byN 1 st.toNat).toArray⟩ : ByteArray)).size ≤ 300 := by rw [fl_size, byN_len]; omega
    have B8 : Hid (∀ wq : World, Own E wq (Hp.blk (w.heap.size + 1) ITT #[.string ⟨#[]⟩, .string ⟨#[]⟩] :: Hp.blk w.heap.size CDT (codeC id cl su A n c hs ch un st fa).toArray :: Hp.ro S :: L) → Calls Tryz.prog 64 #[.int .i64 fa, .int .i64 8] wq fun ev w' => ev = .returned (.string (⟨(byN 8 fa.toNat).toArray⟩ : ByteArray)) ∧ Own E w' (Hp.blk (w.heap.size + 1) ITT #[.string ⟨#[]⟩, .string ⟨#[]⟩] :: Hp.blk w.heap.size CDT (codeC id cl su A n c hs ch un st fa).toArray :: Hp.ro S :: L)) := Lib.hid fun wq h => by_any fa 8 wq (by omega) (by omega) (by omega) h
    have z8 : ((⟨(byN 8 fa.toNat).toArray⟩ : ByteArray)).size ≤ 300 := by rw [fl_size, byN_len]; omega
    have B0 : Hid (∀ wq : World, Own E wq (Hp.blk (w.heap.size + 1) ITT #[.string ⟨#[]⟩, .string ⟨#[]⟩] :: Hp.blk w.heap.size CDT (codeC id cl su A n c hs ch un st fa).toArray :: Hp.ro S :: L) → Calls Tryz.prog 64 #[.int .i64 id, .int .i64 8] wq fun ev w' => ev = .returned (.string (⟨(byN 8 id.toNat).toArray⟩ : ByteArray)) ∧ Own E w' (Hp.blk (w.heap.size + 1) ITT #[.string ⟨#[]⟩, .string ⟨#[]⟩] :: Hp.blk w.heap.size CDT (codeC id cl su A n c hs ch un st fa).toArray :: Hp.ro S :: L)) := Lib.hid fun wq h => by_any id 8 wq (by omega) (by omega) (by omega) h
    have z0 : ((⟨(byN 8 id.toNat).toArray⟩ : ByteArray)).size ≤ 300 := by rw [fl_size, byN_len]; omega
    have HV : Hid (codeR id cl su xs hs ch un st fa = ((⟨#[97]⟩ : ByteArray) ++ (⟨(byN 8 id.toNat).toArray⟩ : ByteArray), ((⟨(byN 1 cl.size).toArray⟩ : ByteArray) ++ cl) ++ ((⟨(byN 1 su.size).toArray⟩ : ByteArray) ++ su) ++ ((⟨(byN 1 (scTxt xs).size).toArray⟩ : ByteArray) ++ (scTxt xs)) ++ hs ++ ch ++ (⟨(byN 6 un.toNat).toArray⟩ : ByteArray) ++ (⟨(byN 1 st.toNat).toArray⟩ : ByteArray) ++ (⟨(byN 8 fa.toNat).toArray⟩ : ByteArray), 0)) := Lib.hid (by
      have e1 : codeK id = (⟨#[97]⟩ : ByteArray) ++ (⟨(byN 8 id.toNat).toArray⟩ : ByteArray) := by
        unfold codeK
        refine (bytes_ext _ _ ?_).symm
        simp
      have e2 : codeV cl su (scTxt xs) hs ch un st fa = ((⟨(byN 1 cl.size).toArray⟩ : ByteArray) ++ cl) ++ ((⟨(byN 1 su.size).toArray⟩ : ByteArray) ++ su) ++ ((⟨(byN 1 (scTxt xs).size).toArray⟩ : ByteArray) ++ (scTxt xs)) ++ hs ++ ch ++ (⟨(byN 6 un.toNat).toArray⟩ : ByteArray) ++ (⟨(byN 1 st.toNat).toArray⟩ : ByteArray) ++ (⟨(byN 8 fa.toNat).toArray⟩ : ByteArray) := by
        unfold codeV
        refine (bytes_ext _ _ ?_).symm
        simp
      rw [← e1, ← e2]
      exact if_pos hm)
    have HC : Hid (∀ w', Own E w' (Hp.blk (w.heap.size + 1) ITT #[.string ⟨#[]⟩, .string ⟨#[]⟩] :: Hp.blk w.heap.size CDT (codeC id cl su A n c hs ch un st fa).toArray :: Hp.ro S :: L) → w'.cell? ⟨w.heap.size, 1, none⟩ = some (.string cl) ∧ w'.cell? ⟨w.heap.size, 2, none⟩ = some (.string su) ∧ w'.cell? ⟨w.heap.size, 3, none⟩ = some (.slice A n c) ∧ w'.cell? ⟨w.heap.size, 4, none⟩ = some (.string hs) ∧ w'.cell? ⟨w.heap.size, 5, none⟩ = some (.string ch) ∧ w'.cell? ⟨w.heap.size, 6, none⟩ = some (.int .i64 un) ∧ w'.cell? ⟨w.heap.size, 7, none⟩ = some (.int .i64 st) ∧ w'.cell? ⟨w.heap.size, 8, none⟩ = some (.int .i64 fa)) := Lib.hid fun w' h => ⟨(h.f1.cell 1).trans rfl, (h.f1.cell 2).trans rfl, (h.f1.cell 3).trans rfl, (h.f1.cell 4).trans rfl, (h.f1.cell 5).trans rfl, (h.f1.cell 6).trans rfl, (h.f1.cell 7).trans rfl, (h.f1.cell 8).trans rfl⟩
    clear h h1 h2 hm hr hsz hcl hsu hsc s1 s2 s3 r0 e1 e2 c0 c1 c2
    generalize ((⟨(byN 1 cl.size).toArray⟩ : ByteArray) ++ cl) = p1 at *
    generalize ((⟨(byN 1 su.size).toArray⟩ : ByteArray) ++ su) = p2 at *
    generalize ((⟨(byN 1 (scTxt xs).size).toArray⟩ : ByteArray) ++ (scTxt xs)) = p3 at *
    generalize (⟨(byN 6 un.toNat).toArray⟩ : ByteArray) = p6 at *
    generalize (⟨(byN 1 st.toNat).toArray⟩ : ByteArray) = p7 at *
    generalize (⟨(byN 8 fa.toNat).toArray⟩ : ByteArray) = p8 at *
    generalize (⟨(byN 8 id.toNat).toArray⟩ : ByteArray) = p0 at *
    generalize scTxt xs = sT at *
    have HD : Hid (∀ w', Own E w' (Hp.blk (w.heap.size + 1) ITT #[.string ⟨#[]⟩, .string ⟨#[]⟩] :: Hp.blk w.heap.size CDT (codeC id cl su A n c hs ch un st fa).toArray :: Hp.ro S :: L) → w'.cell? ⟨w.heap.size, 0, none⟩ = some (.int .i64 id)) := Lib.hid fun w' h => (h.f1.cell 0).trans rfl
    unfold codeC at *
    go_enter Tryz.func34, Tryz.ntmps34
    go_wp2_with (with_reducible refine (KM.out _ H3.out).mono ?_; clear H3; rintro ev w2 ⟨rfl, h⟩; have H3 := Lib.hid h; clear h)
    have h := H3.out.drew
    clear H3
    refine wp_region_text [1, 4, 8, 13, 16, 19, 23, 27] (fun w' => w'.cell? ⟨w.heap.size, 1, none⟩ = some (.string cl) ∧ w'.cell? ⟨w.heap.size, 2, none⟩ = some (.string su) ∧ w'.cell? ⟨w.heap.size, 3, none⟩ = some (.slice A n c) ∧ w'.cell? ⟨w.heap.size, 4, none⟩ = some (.string hs) ∧ w'.cell? ⟨w.heap.size, 5, none⟩ = some (.string ch) ∧ w'.cell? ⟨w.heap.size, 6, none⟩ = some (.int .i64 un) ∧ w'.cell? ⟨w.heap.size, 7, none⟩ = some (.int .i64 st) ∧ w'.cell? ⟨w.heap.size, 8, none⟩ = some (.int .i64 fa)) (by kernel_rfl) ?_ (fun hS => ?_)
    · exact HC.out _ h
    refine gp 0 (some 11) ?_
    refine gl 1 (some 12) ?_
    refine gp 3 (some 14) ?_
    refine gl 4 (some 15) ?_
    refine gp 7 (some 18) ?_
    refine gl 8 (some 19) ?_
    refine gp 12 (some 23) ?_
    refine gl 13 (some 24) ?_
    refine gp 15 (some 26) ?_
    refine gl 16 (some 27) ?_
    refine gp 18 (some 29) ?_
    refine gl 19 (some 30) ?_
    refine gp 22 (some 33) ?_
    refine gl 23 (some 34) ?_
    refine gp 26 (some 37) ?_
    refine gl 27 (some 38) ?_
    refine gk 2 (some 13) (fun K hK => ?_)
    rw [if_pos (by rfl)]
    go_simp
    refine (B1.out _ h).mono ?_
    clear h
    rintro ev w2 ⟨rfl, h⟩
    refine hK.out _ _ ?_ (fun hS => ?_)
    · exact HC.out _ h
    clear hK K
    try simp only [Act.put, List.setIfInBounds_toArray, List.set_cons_zero, List.set_cons_succ]
    refine gk 5 (some 16) (fun K hK => ?_)
    rw [if_pos (by rfl)]
    go_simp
    refine (B2.out _ h).mono ?_
    clear h
    rintro ev w2 ⟨rfl, h⟩
    refine hK.out _ _ ?_ (fun hS => ?_)
    · exact HC.out _ h
    clear hK K
    try simp only [Act.put, List.setIfInBounds_toArray, List.set_cons_zero, List.set_cons_succ]
    refine gq 6 (some 17) (.string (p1 ++ p2)) ?_ ?_
    · intro w
      go_simp; first | done | with_reducible rfl | omega | (simp only [ByteArray.size_append]; omega)
    refine gk 9 (some 20) (fun K hK => ?_)
    rw [if_pos (by rfl)]
    go_simp
    refine (KS.out _ h).mono ?_
    clear h
    rintro ev w2 ⟨rfl, h⟩
    refine hK.out _ _ ?_ (fun hS => ?_)
    · exact HC.out _ h
    clear hK K
    try simp only [Act.put, List.setIfInBounds_toArray, List.set_cons_zero, List.set_cons_succ]
    refine gk 10 (some 21) (fun K hK => ?_)
    rw [if_pos (by rfl)]
    go_simp
    refine (B3.out _ h).mono ?_
    clear h
    rintro ev w2 ⟨rfl, h⟩
    refine hK.out _ _ ?_ (fun hS => ?_)
    · exact HC.out _ h
    clear hK K
    try simp only [Act.put, List.setIfInBounds_toArray, List.set_cons_zero, List.set_cons_succ]
    refine gq 11 (some 22) (.string (p1 ++ p2 ++ p3)) ?_ ?_
    · intro w
      go_simp; first | done | with_reducible rfl | omega | (simp only [ByteArray.size_append]; omega)
    refine gq 14 (some 25) (.string (p1 ++ p2 ++ p3 ++ hs)) ?_ ?_
    · intro w
      go_simp; first | done | with_reducible rfl | omega | (simp only [ByteArray.size_append]; omega)
    refine gq 17 (some 28) (.string (p1 ++ p2 ++ p3 ++ hs ++ ch)) ?_ ?_
    · intro w
      go_simp; first | done | with_reducible rfl | omega | (simp only [ByteArray.size_append]; omega)
    refine gk 20 (some 31) (fun K hK => ?_)
    rw [if_pos (by rfl)]
    go_simp
    refine (B6.out _ h).mono ?_
    clear h
    rintro ev w2 ⟨rfl, h⟩
    refine hK.out _ _ ?_ (fun hS => ?_)
    · exact HC.out _ h
    clear hK K
    try simp only [Act.put, List.setIfInBounds_toArray, List.set_cons_zero, List.set_cons_succ]
    refine gq 21 (some 32) (.string (p1 ++ p2 ++ p3 ++ hs ++ ch ++ p6)) ?_ ?_
    · intro w
      go_simp; first | done | with_reducible rfl | omega | (simp only [ByteArray.size_append]; omega)
    refine gk 24 (some 35) (fun K hK => ?_)
    rw [if_pos (by rfl)]
    go_simp
    refine (B7.out _ h).mono ?_
    clear h
    rintro ev w2 ⟨rfl, h⟩
    refine hK.out _ _ ?_ (fun hS => ?_)
    · exact HC.out _ h
    clear hK K
    try simp only [Act.put, List.setIfInBounds_toArray, List.set_cons_zero, List.set_cons_succ]
    refine gq 25 (some 36) (.string (p1 ++ p2 ++ p3 ++ hs ++ ch ++ p6 ++ p7)) ?_ ?_
    · intro w
      go_simp; first | done | with_reducible rfl | omega | (simp only [ByteArray.size_append]; omega)
    refine gk 28 (some 39) (fun K hK => ?_)
    rw [if_pos (by rfl)]
    go_simp
    refine (B8.out _ h).mono ?_
    clear h
    rintro ev w2 ⟨rfl, h⟩
    refine hK.out _ _ ?_ (fun hS => ?_)
    · exact HC.out _ h
    clear hK K
    try simp only [Act.put, List.setIfInBounds_toArray, List.set_cons_zero, List.set_cons_succ]
    refine gq 29 (some 40) (.string (p1 ++ p2 ++ p3 ++ hs ++ ch ++ p6 ++ p7 ++ p8)) ?_ ?_
    · intro w
      go_simp; first | done | with_reducible rfl | omega | (simp only [ByteArray.size_append]; omega)
    refine gp 30 (some 5) ?_
    refine wpAnyG_done (by kernel_rfl) ?_ _
    refine NoPanic.normal ?_
    have c0 := HD.out _ h
    have H3 := Lib.hid h
    clear h
    have q0 : ¬ 9223372036854775807 < 1 + p0.size := by omega
    go_wp2_with (first
      | (with_reducible refine (B0.out _ H3.out).mono ?_; clear H3; rintro ev w2 ⟨rfl, h⟩; have H3 := Lib.hid h; clear h)
      | (with_reducible refine at_slot (k := none) ?_; refine wpList_store_whole (o := ⟨none, _, _, _, _, _⟩) (cs := [.string ⟨#[]⟩, .string ⟨#[]⟩]) (vs := [.string (⟨#[97]⟩ ++ p0), .string (p1 ++ p2 ++ p3 ++ hs ++ ch ++ p6 ++ p7 ++ p8)]) H3.out rfl (pair_one _ _) (by kernel_rfl) rfl rfl rfl rfl ?_; clear H3; intro w7 h; have H9 := Lib.hid h; clear h))
    refine bodyPost_ret (results_ct rfl rfl H9.out hd hrow (by kernel_rfl)) rfl ?_
    exact ⟨by rw [HV.out]; rfl, H9.out.drop.drop⟩
  · have HR : Hid (codeR id cl su xs hs ch un st fa = (noB, noB, 140)) := Lib.hid (if_neg hm)
    have KM : Hid (∀ w3 : World, Own E w3 (Hp.blk (w.heap.size + 1) ITT #[.string ⟨#[]⟩, .string ⟨#[]⟩] :: Hp.blk w.heap.size CDT (codeC id cl su A n c hs ch un st fa).toArray :: Hp.ro S :: L) → Calls Tryz.prog 91 #[.agg (codeC id cl su A n c hs ch un st fa).toArray] w3 fun ev w' => ev = .returned (.bool false) ∧ Own E w' (Hp.blk (w.heap.size + 1) ITT #[.string ⟨#[]⟩, .string ⟨#[]⟩] :: Hp.blk w.heap.size CDT (codeC id cl su A n c hs ch un st fa).toArray :: Hp.ro S :: L)) := Lib.hid fun w3 h3 => (xcodemay_any id cl su A n c hs ch un st fa xs w3 hr hsz hcl hsu hn43 (show Own E w3 (Hp.ro S :: Hp.blk (w.heap.size + 1) ITT #[.string ⟨#[]⟩, .string ⟨#[]⟩] :: Hp.blk w.heap.size CDT (codeC id cl su A n c hs ch un st fa).toArray :: L) from h3.f2)).mono fun ev w' he => ⟨by rw [he.1, decide_eq_false hm], he.2.f2.f2⟩
    clear h h1 h2 hm hr hsz hcl hsu
    unfold codeC at *
    go_enter Tryz.func34, Tryz.ntmps34
    go_wp2_with (first
      | (with_reducible refine (KM.out _ H3.out).mono ?_; clear H3; rintro ev w2 ⟨rfl, h⟩; have H3 := Lib.hid h; clear h)
      | (with_reducible refine at_slot (k := none) ?_; refine wpList_store_whole (o := ⟨none, _, _, _, _, _⟩) (cs := [.string ⟨#[]⟩, .string ⟨#[]⟩]) (vs := [.string ⟨#[]⟩, .string ⟨#[]⟩]) H3.out rfl (pair_one ⟨#[]⟩ ⟨#[]⟩) (by kernel_rfl) rfl rfl rfl rfl ?_; clear H3; intro w7 h; have H8 := Lib.hid h; clear h))
    refine bodyPost_ret (results_ct rfl rfl H8.out hd hrow (by kernel_rfl)) rfl ?_
    exact ⟨by rw [HR.out]; rfl, H8.out.drop.drop⟩
end
end Go.Proofs.YtabibfabieghpaaGreatDoor
namespace Go.Proofs.YtabibfabieghpaaGreatDoor
open Go.RowKit
section
variable {E : World} {S : Ph} {L : List Hp}
set_option maxRecDepth 20000 in
set_option maxHeartbeats 8000000 in
theorem xclientmay_any (nm : ByteArray) (pu sw : Bool) (dh od : ByteArray) (ut : Int) (A : Option Addr) (n c : Nat) (ii ab gr li : Int) (xs : List ByteArray) (w : World) (hr : Rds S 1 enStr A n xs) (hsz : ∀ x ∈ xs, x.size ≤ 1000000000000000000) (hnm : nm.size ≤ 1000000000000000000) (hn43 : n ≤ 8796093022208) (h : Own E w (Hp.ro S :: L)) :
    Calls Tryz.prog 103 #[.agg (clientC nm pu sw dh od ut A n c ii ab gr li).toArray] w fun ev w' => ev = .returned (.bool (decide (clientMay nm pu sw dh od ut xs ii ab gr li))) ∧ Own E w' (Hp.ro S :: L) := by
  obtain ⟨n1, hn1⟩ : ∃ nv : Int, nameB nm = decide (nv = 1) := ⟨if nameB nm then 1 else 0, by cases nameB nm <;> rfl⟩
  obtain ⟨hz, hhz⟩ : ∃ q : Int, dh.size = 0 ↔ q = 0 := ⟨dh.size, by omega⟩
  obtain ⟨oz, hoz⟩ : ∃ q : Int, od.size = 0 ↔ q = 0 := ⟨od.size, by omega⟩
  obtain ⟨uz, huz⟩ : ∃ q : Int, ut = 0 ↔ q = 0 := ⟨if ut = 0 then 0 else 1, by split <;> simp_all⟩
  have zh : dh.toList.isEmpty = decide (hz = 0) := by rw [isEmpty_size, decide_eq_decide]; exact hhz
  have zo : od.toList.isEmpty = decide (oz = 0) := by rw [isEmpty_size, decide_eq_decide]; exact hoz
  have zu : (ut == 0) = decide (uz = 0) := by rw [Bool.eq_iff_iff, beq_iff_eq, decide_eq_true_eq, huz]
  obtain ⟨sx, hsx⟩ : ∃ sx : Int, sx = scErr xs := ⟨_, rfl⟩
  have HX := Lib.hid (show ¬ (oz = 0 ∧ od.size = 32) ∧ (uz = 0 → 0 ≤ ut ∧ ut ≤ 1099511627776) by rw [← hoz, ← huz]; omega)
  have k1 := fun w => xname_any nm w hnm
  rw [hn1] at k1
  have k2 := fun w => xtime_any gr w
  have k3 := fun w => xtime_any ut w
  cases pu with
  | true =>
    have H1 := Lib.hid (show Own E _ (Hp.blk w.heap.size CLT (clientC nm true sw dh od ut A n c ii ab gr li).toArray :: Hp.ro S :: L) from h.alloc (.cells (clientC nm true sw dh od ut A n c ii ab gr li).toArray CLT))
    have KR := Lib.hid (fun (w3 : World) (h3 : Own E w3 (Hp.blk w.heap.size CLT (clientC nm true sw dh od ut A n c ii ab gr li).toArray :: Hp.ro S :: L)) => xscope_any (E := E) (S := S) (L := Hp.blk w.heap.size CLT (clientC nm true sw dh od ut A n c ii ab gr li).toArray :: L) A n c xs w3 hr hsz hn43 h3.f1)
    rw [← hsx] at KR
    have hiff : clientMay nm true sw dh od ut xs ii ab gr li ↔ (n1 = 1 ∧ sx = 0 ∧ (1 ≤ ii ∧ ii ≤ 1099511627776) ∧ (1 ≤ ab ∧ ab ≤ 1099511627776) ∧ (1 ≤ li ∧ li ≤ 1099511627776) ∧ (0 ≤ gr ∧ gr ≤ 1099511627776) ∧ (hz = 0 ∧ oz = 0 ∧ uz = 0)) := by
      unfold clientMay
      rw [hn1, hhz, hoz, huz, ← hsx, decide_eq_true_iff]
      constructor
      · rintro ⟨h1, h2, h3, h4, h5, h6, h7 | h7⟩
        · exact ⟨h1, h2, h3, h4, h5, h6, h7.2⟩
        · exact absurd h7.1 (by decide)
      · rintro ⟨h1, h2, h3, h4, h5, h6, h7⟩
        exact ⟨h1, h2, h3, h4, h5, h6, .inl ⟨rfl, h7⟩⟩
    have HI := Lib.hid hiff
    clear h hiff hn1 hhz hoz huz hsx hr hsz
    go_enter Tryz.func103, Tryz.ntmps103
    obtain ⟨d0, d1, d2, d3, d4, d5, d6, d7, d8, d9, d10⟩ := client_cells nm true sw dh od ut A n c ii ab gr li H1.out
    go_wp2_with (first
      | (with_reducible refine (k1 _).mono ?_; rintro ev w2 ⟨rfl, rfl⟩)
      | (with_reducible refine (k2 _).mono ?_; rintro ev w2 ⟨rfl, rfl⟩)
      | (with_reducible refine (k3 _).mono ?_; rintro ev w2 ⟨rfl, rfl⟩)
      | (with_reducible refine (KR.out _ H1.out).mono ?_; clear H1 d0 d1 d2 d3 d4 d5 d6 d7 d8 d9 d10; rintro ev w2 ⟨rfl, h⟩; have H1 := Lib.hid (show Own E w2 (Hp.blk w.heap.size CLT (clientC nm true sw dh od ut A n c ii ab gr li).toArray :: Hp.ro S :: L) from h.f1); clear h; obtain ⟨d0, d1, d2, d3, d4, d5, d6, d7, d8, d9, d10⟩ := client_cells nm true sw dh od ut A n c ii ab gr li H1.out))
    all_goals go_ret
    all_goals
      refine ⟨(show Ending.returned (Value.bool _) = Ending.returned (Value.bool _) from ret_bool ?_), H1.out.drop⟩
      rw [Bool.eq_iff_iff]
      refine Iff.trans ?_ (decide_eq_true_iff.trans HI.out).symm
      have hx := HX.out
      (first | omega | (simp <;> omega) | ((try simp only [Bool.not_eq_true'] at *); (try simp only [Bool.not_eq_false'] at *); (try simp only [decide_eq_true_eq] at *); (try simp only [decide_eq_false_iff_not] at *); (try simp only [bne_iff_ne] at *); (try simp only [ne_eq] at *); (try simp only [bne_eq_false_iff_eq] at *); first | omega | (simp <;> omega)))
  | false =>
    have H1 := Lib.hid (show Own E _ (Hp.blk w.heap.size CLT (clientC nm false sw dh od ut A n c ii ab gr li).toArray :: Hp.ro S :: L) from h.alloc (.cells (clientC nm false sw dh od ut A n c ii ab gr li).toArray CLT))
    have KR := Lib.hid (fun (w3 : World) (h3 : Own E w3 (Hp.blk w.heap.size CLT (clientC nm false sw dh od ut A n c ii ab gr li).toArray :: Hp.ro S :: L)) => xscope_any (E := E) (S := S) (L := Hp.blk w.heap.size CLT (clientC nm false sw dh od ut A n c ii ab gr li).toArray :: L) A n c xs w3 hr hsz hn43 h3.f1)
    rw [← hsx] at KR
    have hiff : clientMay nm false sw dh od ut xs ii ab gr li ↔ (n1 = 1 ∧ sx = 0 ∧ (1 ≤ ii ∧ ii ≤ 1099511627776) ∧ (1 ≤ ab ∧ ab ≤ 1099511627776) ∧ (1 ≤ li ∧ li ≤ 1099511627776) ∧ (0 ≤ gr ∧ gr ≤ 1099511627776) ∧ ((oz = 0 ∧ dh.size = 32 ∧ uz = 0) ∨ (dh.size = 32 ∧ od.size = 32 ∧ (0 ≤ ut ∧ ut ≤ 1099511627776)))) := by
      unfold clientMay
      rw [hn1, hhz, hoz, huz, ← hsx, decide_eq_true_iff]
      constructor
      · rintro ⟨h1, h2, h3, h4, h5, h6, h7 | h7⟩
        · exact absurd h7.1 (by decide)
        · exact ⟨h1, h2, h3, h4, h5, h6, h7.2⟩
      · rintro ⟨h1, h2, h3, h4, h5, h6, h7⟩
        exact ⟨h1, h2, h3, h4, h5, h6, .inr ⟨rfl, h7⟩⟩
    have HI := Lib.hid hiff
    clear h hiff hn1 hhz hoz huz hsx hr hsz
    go_enter Tryz.func103, Tryz.ntmps103
    obtain ⟨d0, d1, d2, d3, d4, d5, d6, d7, d8, d9, d10⟩ := client_cells nm false sw dh od ut A n c ii ab gr li H1.out
    go_wp2_with (first
      | (with_reducible refine (k1 _).mono ?_; rintro ev w2 ⟨rfl, rfl⟩)
      | (with_reducible refine (k2 _).mono ?_; rintro ev w2 ⟨rfl, rfl⟩)
      | (with_reducible refine (k3 _).mono ?_; rintro ev w2 ⟨rfl, rfl⟩)
      | (with_reducible refine (KR.out _ H1.out).mono ?_; clear H1 d0 d1 d2 d3 d4 d5 d6 d7 d8 d9 d10; rintro ev w2 ⟨rfl, h⟩; have H1 := Lib.hid (show Own E w2 (Hp.blk w.heap.size CLT (clientC nm false sw dh od ut A n c ii ab gr li).toArray :: Hp.ro S :: L) from h.f1); clear h; obtain ⟨d0, d1, d2, d3, d4, d5, d6, d7, d8, d9, d10⟩ := client_cells nm false sw dh od ut A n c ii ab gr li H1.out))
    all_goals go_ret
    all_goals
      refine ⟨(show Ending.returned (Value.bool _) = Ending.returned (Value.bool _) from ret_bool ?_), H1.out.drop⟩
      rw [Bool.eq_iff_iff]
      refine Iff.trans ?_ (decide_eq_true_iff.trans HI.out).symm
      have hx := HX.out
      (first | omega | (simp <;> omega) | ((try simp only [Bool.not_eq_true'] at *); (try simp only [Bool.not_eq_false'] at *); (try simp only [decide_eq_true_eq] at *); (try simp only [decide_eq_false_iff_not] at *); (try simp only [bne_iff_ne] at *); (try simp only [ne_eq] at *); (try simp only [bne_eq_false_iff_eq] at *); first | omega | (simp <;> omega)))
set_option maxRecDepth 20000 in
set_option maxHeartbeats 2000000 in
theorem xflags_any (nm : ByteArray) (pu sw : Bool) (dh od : ByteArray) (ut : Int) (A : Option Addr) (n c : Nat) (ii ab gr li : Int) (w : World) (h : Own E w L) :
    Calls Tryz.prog 104 #[.agg (clientC nm pu sw dh od ut A n c ii ab gr li).toArray] w fun ev w' => ev = .returned (.int .i64 (flagV pu 1 + flagV sw 2)) ∧ Own E w' L := by
  have H1 := Lib.hid (h.alloc (.cells (clientC nm pu sw dh od ut A n c ii ab gr li).toArray CLT))
  clear h
  obtain ⟨d0, d1, d2, d3, d4, d5, d6, d7, d8, d9, d10⟩ := client_cells nm pu sw dh od ut A n c ii ab gr li H1.out
  cases pu <;> cases sw
  all_goals
    go_enter Tryz.func104, Tryz.ntmps104
    go_wp2_with fail
    go_ret
    exact ⟨rfl, H1.out.drop⟩
end
end Go.Proofs.YtabibfabieghpaaGreatDoor
