/- latchkeyref14.ParseCode (begun by gen_xpaf.py code). -/
import Derived.Test.YtabibfabieghpaaGreatDoorPkz11
import Derived.Test.YtabibfabieghpaaGreatDoorPkXPaFam
namespace Go.Proofs.YtabibfabieghpaaGreatDoor
open Go.RowKit
theorem code_xreads {f : CodeV} {k v : ByteArray} (h : f.R = (k, v, 0)) : xafterV k = f.id ∧ xL codeKs v = [.s f.cl, .s f.su, .s (scTxt f.xs), .s f.dh, .s f.dc, .n f.ut, .n f.st, .n f.fa] ∧ xpartsV (scTxt f.xs) = f.xs := by
  have hm := (code_reads h).1
  have hr := code_range hm
  unfold CodeV.R codeR at h
  rw [if_pos hm] at h
  injection h with h1 h2
  injection h2 with h2 h3
  refine ⟨?_, ?_, ?_⟩
  · rw [← h1]
    have c1 := hm.1
    exact xafter_key 97 8 f.id (by omega) (by omega) (by omega) (by show f.id < (256 : Int) ^ 8; omega) (by omega)
  · rw [← h2]
    have hh := xL_printed (code_fits 0 0 hr)
    rw [code_printed 0 0 hr] at hh
    exact hh
  · exact xparts_print hm.2.2.2.1
section
variable {E : World} {L : List Hp}
set_option maxRecDepth 20000 in
set_option maxHeartbeats 16000000 in
theorem xparsecode_any (k v : ByteArray) (w : World) (hk : k.size ≤ 1000000000000000) (h : Own E w L) :
    Calls Tryz.prog 37 #[.agg #[.string k, .string v]] w fun ev w' => (∃ (f : CodeV) (A : Option Addr) (c : Nat), ev = .returned (.tuple #[.agg (f.C A c).toArray, .int .i64 0]) ∧ f.R = (k, v, 0) ∧ Own E w' (Hp.lst ST (.slice A f.xs.length c) (f.xs.map Value.string) :: L)) ∨
      (ev = .returned (.tuple #[.agg (codeC 0 noB noB none 0 0 noB noB 0 0 0).toArray, .int .i64 141]) ∧ (∀ f : CodeV, f.R ≠ (k, v, 0)) ∧ Own E w' L) := by
  have h1 := h.alloc (.cells #[.string k, .string v] ITT)
  have h2 := h1.alloc (.cells (codeC 0 ⟨#[]⟩ ⟨#[]⟩ none 0 0 ⟨#[]⟩ ⟨#[]⟩ 0 0 0).toArray CDT)
  have h3 := h2.alloc (.cells #[.string v, .bool false] RDT)
  rw [alloc_size, alloc_size] at h3
  have H00 := Lib.hid (show Own E _ (Hp.xrd (w.heap.size + 1 + 1) v :: Hp.blk (w.heap.size + 1) CDT (codeC 0 ⟨#[]⟩ ⟨#[]⟩ none 0 0 ⟨#[]⟩ ⟨#[]⟩ 0 0 0).toArray :: Hp.blk w.heap.size ITT #[.string k, .string v] :: L) from Own.ex.2 ⟨false, h3⟩)
  obtain ⟨dd, hd, hrow⟩ := codet_u
  obtain ⟨z, hz⟩ : ∃ z, z = xafterV k := ⟨_, rfl⟩
  obtain ⟨cl, s1, hx1, hb1⟩ := xF_text v
  obtain ⟨su, s2, hx2, hb2⟩ := xF_text s1
  obtain ⟨sT, s3, hx3, hb3⟩ := xF_text s2
  obtain ⟨dh, s4, hx4, hb4⟩ := xF_raw 32 s3
  obtain ⟨dc, s5, hx5, hb5⟩ := xF_raw 32 s4
  obtain ⟨ut, s6, hx6⟩ := xF_num 6 s5
  obtain ⟨st, s7, hx7⟩ := xF_num 1 s6
  obtain ⟨fa, s8, hx8⟩ := xF_num 8 s7
  obtain ⟨xs, hxs⟩ : ∃ xs, xs = xpartsV sT := ⟨_, rfl⟩
  have HXS : Hid (xs.length ≤ 256 ∧ ∀ x ∈ xs, x.size ≤ 255) := Lib.hid (by
    have := xparts_size sT
    rw [hxs]
    exact ⟨by omega, fun x hx => Nat.le_trans (this.2 x hx) hb3⟩)
  have hl : xL codeKs v = [.s cl, .s su, .s sT, .s dh, .s dc, .n ut, .n st, .n fa] := by
    simp only [codeKs, xL, hx1, hx2, hx3, hx4, hx5, hx6, hx7, hx8]
  have HNO : Hid (∀ f : CodeV, f.R = (k, v, 0) → (codeR z cl su xs dh dc ut st fa) = (k, v, 0)) := Lib.hid fun f hf => by
    obtain ⟨e1, e2, e3⟩ := code_xreads hf
    rw [← hz] at e1
    rw [hl] at e2
    obtain ⟨qid, qcl, qsu, qxs, qdh, qdc, qut, qst, qfa⟩ := f
    simp only [List.cons.injEq, Fv.s.injEq, Fv.n.injEq, and_true] at e1 e2 e3
    obtain rfl := e1
    obtain ⟨rfl, rfl, rfl, rfl, rfl, rfl, rfl, rfl⟩ := e2
    rw [hxs, e3]
    exact hf
  have KA : Hid (∀ w M, Own E w M → Calls Tryz.prog 95 #[.string k] w fun e w' => e = .returned (.int .i64 z) ∧ Own E w' M) := Lib.hid fun w M h => by
    rw [hz]
    exact xafter_any k w hk h
  have K1 : Hid (∀ wq M, Own E wq (Hp.xrd (w.heap.size + 1 + 1) v :: M) → Calls Tryz.prog 96 #[.pointer (some ⟨(w.heap.size + 1 + 1), 0, none⟩)] wq fun e w' => e = .returned (.string cl) ∧ Own E w' (Hp.xrd (w.heap.size + 1 + 1) s1 :: M)) := Lib.hid fun w M h => xFtext _ hx1 w h
  have K2 : Hid (∀ wq M, Own E wq (Hp.xrd (w.heap.size + 1 + 1) s1 :: M) → Calls Tryz.prog 96 #[.pointer (some ⟨(w.heap.size + 1 + 1), 0, none⟩)] wq fun e w' => e = .returned (.string su) ∧ Own E w' (Hp.xrd (w.heap.size + 1 + 1) s2 :: M)) := Lib.hid fun w M h => xFtext _ hx2 w h
  have K3 : Hid (∀ wq M, Own E wq (Hp.xrd (w.heap.size + 1 + 1) s2 :: M) → Calls Tryz.prog 97 #[.pointer (some ⟨(w.heap.size + 1 + 1), 0, none⟩)] wq fun e w' => ∃ A cc, e = .returned (.slice A xs.length cc) ∧ Own E w' (Hp.lst ST (.slice A xs.length cc) (xs.map Value.string) :: Hp.xrd (w.heap.size + 1 + 1) s3 :: M)) := Lib.hid fun w M h => by
    rw [hxs]
    exact xFscope _ hx3 w h
  have K4 : Hid (∀ wq M, Own E wq (Hp.xrd (w.heap.size + 1 + 1) s3 :: M) → Calls Tryz.prog 98 #[.pointer (some ⟨(w.heap.size + 1 + 1), 0, none⟩), .int .i64 32] wq fun e w' => e = .returned (.string dh) ∧ Own E w' (Hp.xrd (w.heap.size + 1 + 1) s4 :: M)) := Lib.hid fun w M h => xFraw _ hx4 w h
  have K5 : Hid (∀ wq M, Own E wq (Hp.xrd (w.heap.size + 1 + 1) s4 :: M) → Calls Tryz.prog 98 #[.pointer (some ⟨(w.heap.size + 1 + 1), 0, none⟩), .int .i64 32] wq fun e w' => e = .returned (.string dc) ∧ Own E w' (Hp.xrd (w.heap.size + 1 + 1) s5 :: M)) := Lib.hid fun w M h => xFraw _ hx5 w h
  have K6 : Hid (∀ wq M, Own E wq (Hp.xrd (w.heap.size + 1 + 1) s5 :: M) → Calls Tryz.prog 99 #[.pointer (some ⟨(w.heap.size + 1 + 1), 0, none⟩), .int .i64 6] wq fun e w' => e = .returned (.int .i64 ut) ∧ Own E w' (Hp.xrd (w.heap.size + 1 + 1) s6 :: M)) := Lib.hid fun w M h => xFnum _ (by omega) hx6 w h
  have K7 : Hid (∀ wq M, Own E wq (Hp.xrd (w.heap.size + 1 + 1) s6 :: M) → Calls Tryz.prog 99 #[.pointer (some ⟨(w.heap.size + 1 + 1), 0, none⟩), .int .i64 1] wq fun e w' => e = .returned (.int .i64 st) ∧ Own E w' (Hp.xrd (w.heap.size + 1 + 1) s7 :: M)) := Lib.hid fun w M h => xFnum _ (by omega) hx7 w h
  have K8 : Hid (∀ wq M, Own E wq (Hp.xrd (w.heap.size + 1 + 1) s7 :: M) → Calls Tryz.prog 99 #[.pointer (some ⟨(w.heap.size + 1 + 1), 0, none⟩), .int .i64 8] wq fun e w' => e = .returned (.int .i64 fa) ∧ Own E w' (Hp.xrd (w.heap.size + 1 + 1) s8 :: M)) := Lib.hid fun w M h => xFnum _ (by omega) hx8 w h
  have KPR : Hid (∀ (A : Option Addr) (cc : Nat) (w : World) (M : List Hp), Own E w (Hp.lst ST (.slice A xs.length cc) (xs.map Value.string) :: M) → Calls Tryz.prog 34 #[.agg (codeC z cl su A xs.length cc dh dc ut st fa).toArray] w fun ev w' => ev = .returned (.tuple #[.agg #[.string (codeR z cl su xs dh dc ut st fa).1, .string (codeR z cl su xs dh dc ut st fa).2.1], .int .i64 (codeR z cl su xs dh dc ut st fa).2.2]) ∧ Own E w' (Hp.lst ST (.slice A xs.length cc) (xs.map Value.string) :: M)) := Lib.hid fun A cc w M h => by
    obtain ⟨a, h4, ha, hb⟩ := h.opens
    obtain ⟨hr, hc, -, -⟩ := lst_rds ha
    refine (xprintcode_any z cl su A xs.length cc dh dc ut st fa xs w hr (fun x hx => Nat.le_trans (HXS.out.2 x hx) (by omega)) (by omega) (by omega) (by have := HXS.out; omega) h4).mono ?_
    rintro ev w' ⟨rfl, h⟩
    exact ⟨rfl, hb _ _ h⟩
  have KSM := Lib.hid (fun (a b c d : ByteArray) (w : World) (M : List Hp) h => xsame_any (E := E) (L := M) a b c d w h)
  clear h h1 h2 h3 hk hx1 hx2 hx3 hx4 hx5 hx6 hx7 hx8 hb1 hb2 hb3 hb4 hb5 hxs hl hz
  obtain ⟨x1, x2, er, hpr⟩ : ∃ x1 x2 er, (codeR z cl su xs dh dc ut st fa) = (x1, x2, er) := ⟨_, _, _, rfl⟩
  rw [hpr] at KPR HNO
  have HRR := Lib.hid hpr
  clear hpr
  by_cases he : er = 0
  · subst he
    by_cases hx : k = x1 ∧ v = x2
    · have HY : Hid ((⟨z, cl, su, xs, dh, dc, ut, st, fa⟩ : CodeV).R = (k, v, 0)) := Lib.hid (by
        show (codeR z cl su xs dh dc ut st fa) = _
        rw [HRR.out, hx.1, hx.2])
      have hb : (decide (k = x1) && decide (v = x2)) = true := by rw [decide_eq_true hx.1, decide_eq_true hx.2]; rfl
      clear hx HRR HNO
      go_enter Tryz.func37, Tryz.ntmps37
      go_wp2_with (first
        | (refine (KA.out _ _ H00.out).mono ?_; clear KA H00; rintro ev w1 ⟨rfl, h⟩; have H0 : Hid (Own E _ (Hp.blk w1.heap.size CDT (codeC z ⟨#[]⟩ ⟨#[]⟩ none 0 0 ⟨#[]⟩ ⟨#[]⟩ 0 0 0).toArray :: Hp.xrd (w.heap.size + 1 + 1) v :: Hp.blk (w.heap.size + 1) CDT (codeC 0 ⟨#[]⟩ ⟨#[]⟩ none 0 0 ⟨#[]⟩ ⟨#[]⟩ 0 0 0).toArray :: Hp.blk w.heap.size ITT #[.string k, .string v] :: L)) := Lib.hid (h.alloc (.cells #[.int .i64 z, .string ⟨#[]⟩, .string ⟨#[]⟩, .slice none 0 0, .string ⟨#[]⟩, .string ⟨#[]⟩, .int .i64 0, .int .i64 0, .int .i64 0] CDT)); clear h)
        | ((with_reducible refine (K1.out _ _ H0.out.f1).mono ?_); clear K1 H0; rintro ev w2 ⟨rfl, h⟩; obtain ⟨⟨old1, ho1⟩, hf1, hs⟩ := h.f1.put1 1 (.string cl) (show (1 : Nat) < 9 by omega); have H1 : Hid (Own E _ (Hp.blk w1.heap.size CDT (codeC z cl ⟨#[]⟩ none 0 0 ⟨#[]⟩ ⟨#[]⟩ 0 0 0).toArray :: Hp.xrd (w.heap.size + 1 + 1) s1 :: Hp.blk (w.heap.size + 1) CDT (codeC 0 ⟨#[]⟩ ⟨#[]⟩ none 0 0 ⟨#[]⟩ ⟨#[]⟩ 0 0 0).toArray :: Hp.blk w.heap.size ITT #[.string k, .string v] :: L)) := Lib.hid hs; clear h hs)
        | ((with_reducible refine (K2.out _ _ H1.out.f1).mono ?_); clear K2 H1; rintro ev w2 ⟨rfl, h⟩; obtain ⟨⟨old2, ho2⟩, hf2, hs⟩ := h.f1.put1 2 (.string su) (show (2 : Nat) < 9 by omega); have H2 : Hid (Own E _ (Hp.blk w1.heap.size CDT (codeC z cl su none 0 0 ⟨#[]⟩ ⟨#[]⟩ 0 0 0).toArray :: Hp.xrd (w.heap.size + 1 + 1) s2 :: Hp.blk (w.heap.size + 1) CDT (codeC 0 ⟨#[]⟩ ⟨#[]⟩ none 0 0 ⟨#[]⟩ ⟨#[]⟩ 0 0 0).toArray :: Hp.blk w.heap.size ITT #[.string k, .string v] :: L)) := Lib.hid hs; clear h hs)
        | ((with_reducible refine (K3.out _ _ H2.out.f1).mono ?_); clear K3 H2; rintro ev w2 ⟨A, cc, rfl, h⟩; obtain ⟨⟨old3, ho3⟩, hf3, hs⟩ := h.f1.f2.put1 3 (.slice A xs.length cc) (show (3 : Nat) < 9 by omega); have H3 : Hid (Own E _ (Hp.blk w1.heap.size CDT (codeC z cl su A xs.length cc ⟨#[]⟩ ⟨#[]⟩ 0 0 0).toArray :: Hp.xrd (w.heap.size + 1 + 1) s3 :: Hp.lst ST (.slice A xs.length cc) (xs.map Value.string) :: Hp.blk (w.heap.size + 1) CDT (codeC 0 ⟨#[]⟩ ⟨#[]⟩ none 0 0 ⟨#[]⟩ ⟨#[]⟩ 0 0 0).toArray :: Hp.blk w.heap.size ITT #[.string k, .string v] :: L)) := Lib.hid hs; clear h hs)
        | ((with_reducible refine (K4.out _ _ H3.out.f1).mono ?_); clear K4 H3; rintro ev w2 ⟨rfl, h⟩; obtain ⟨⟨old4, ho4⟩, hf4, hs⟩ := h.f1.put1 4 (.string dh) (show (4 : Nat) < 9 by omega); have H4 : Hid (Own E _ (Hp.blk w1.heap.size CDT (codeC z cl su A xs.length cc dh ⟨#[]⟩ 0 0 0).toArray :: Hp.xrd (w.heap.size + 1 + 1) s4 :: Hp.lst ST (.slice A xs.length cc) (xs.map Value.string) :: Hp.blk (w.heap.size + 1) CDT (codeC 0 ⟨#[]⟩ ⟨#[]⟩ none 0 0 ⟨#[]⟩ ⟨#[]⟩ 0 0 0).toArray :: Hp.blk w.heap.size ITT #[.string k, .string v] :: L)) := Lib.hid hs; clear h hs)
        | ((with_reducible refine (K5.out _ _ H4.out.f1).mono ?_); clear K5 H4; rintro ev w2 ⟨rfl, h⟩; obtain ⟨⟨old5, ho5⟩, hf5, hs⟩ := h.f1.put1 5 (.string dc) (show (5 : Nat) < 9 by omega); have H5 : Hid (Own E _ (Hp.blk w1.heap.size CDT (codeC z cl su A xs.length cc dh dc 0 0 0).toArray :: Hp.xrd (w.heap.size + 1 + 1) s5 :: Hp.lst ST (.slice A xs.length cc) (xs.map Value.string) :: Hp.blk (w.heap.size + 1) CDT (codeC 0 ⟨#[]⟩ ⟨#[]⟩ none 0 0 ⟨#[]⟩ ⟨#[]⟩ 0 0 0).toArray :: Hp.blk w.heap.size ITT #[.string k, .string v] :: L)) := Lib.hid hs; clear h hs)
        | ((with_reducible refine (K6.out _ _ H5.out.f1).mono ?_); clear K6 H5; rintro ev w2 ⟨rfl, h⟩; obtain ⟨⟨old6, ho6⟩, hf6, hs⟩ := h.f1.put1 6 (.int .i64 ut) (show (6 : Nat) < 9 by omega); have H6 : Hid (Own E _ (Hp.blk w1.heap.size CDT (codeC z cl su A xs.length cc dh dc ut 0 0).toArray :: Hp.xrd (w.heap.size + 1 + 1) s6 :: Hp.lst ST (.slice A xs.length cc) (xs.map Value.string) :: Hp.blk (w.heap.size + 1) CDT (codeC 0 ⟨#[]⟩ ⟨#[]⟩ none 0 0 ⟨#[]⟩ ⟨#[]⟩ 0 0 0).toArray :: Hp.blk w.heap.size ITT #[.string k, .string v] :: L)) := Lib.hid hs; clear h hs)
        | ((with_reducible refine (K7.out _ _ H6.out.f1).mono ?_); clear K7 H6; rintro ev w2 ⟨rfl, h⟩; obtain ⟨⟨old7, ho7⟩, hf7, hs⟩ := h.f1.put1 7 (.int .i64 st) (show (7 : Nat) < 9 by omega); have H7 : Hid (Own E _ (Hp.blk w1.heap.size CDT (codeC z cl su A xs.length cc dh dc ut st 0).toArray :: Hp.xrd (w.heap.size + 1 + 1) s7 :: Hp.lst ST (.slice A xs.length cc) (xs.map Value.string) :: Hp.blk (w.heap.size + 1) CDT (codeC 0 ⟨#[]⟩ ⟨#[]⟩ none 0 0 ⟨#[]⟩ ⟨#[]⟩ 0 0 0).toArray :: Hp.blk w.heap.size ITT #[.string k, .string v] :: L)) := Lib.hid hs; clear h hs)
        | ((with_reducible refine (K8.out _ _ H7.out.f1).mono ?_); clear K8 H7; rintro ev w2 ⟨rfl, h⟩; obtain ⟨⟨old8, ho8⟩, hf8, hs⟩ := h.f1.put1 8 (.int .i64 fa) (show (8 : Nat) < 9 by omega); have H8 : Hid (Own E _ (Hp.blk w1.heap.size CDT (codeC z cl su A xs.length cc dh dc ut st fa).toArray :: Hp.xrd (w.heap.size + 1 + 1) s8 :: Hp.lst ST (.slice A xs.length cc) (xs.map Value.string) :: Hp.blk (w.heap.size + 1) CDT (codeC 0 ⟨#[]⟩ ⟨#[]⟩ none 0 0 ⟨#[]⟩ ⟨#[]⟩ 0 0 0).toArray :: Hp.blk w.heap.size ITT #[.string k, .string v] :: L)) := Lib.hid hs; clear h hs)
        | (with_reducible refine at_slot (k := some 42) ?_; refine wpList_load_arr (o := ⟨some 42, _, _, _, _, _⟩) H8.out 0 (codeC z cl su A xs.length cc dh dc ut st fa) (fun jj u hu => by simpa using hu) hd hrow (by kernel_rfl) rfl rfl rfl ?_)
        | ((with_reducible refine (KPR.out _ _ _ _ H8.out.f2).mono ?_); clear KPR H8; rintro ev w2 ⟨rfl, h⟩; have H3 := Lib.hid ((show Own E w2 (Hp.blk w1.heap.size CDT (codeC z cl su A xs.length cc dh dc ut st fa).toArray :: Hp.xrd (w.heap.size + 1 + 1) s8 :: Hp.lst ST (.slice A xs.length cc) (xs.map Value.string) :: Hp.blk (w.heap.size + 1) CDT (codeC 0 ⟨#[]⟩ ⟨#[]⟩ none 0 0 ⟨#[]⟩ ⟨#[]⟩ 0 0 0).toArray :: Hp.blk w.heap.size ITT #[.string k, .string v] :: L) from h.f2.f2).alloc (.cells #[.string x1, .string x2] ITT)); clear h; have p0 := H3.out.f5.cell 0; have p1 := H3.out.f5.cell 1; simp only [List.getElem?_toArray, List.getElem?_cons_zero, List.getElem?_cons_succ] at p0 p1)
        | ((with_reducible refine (KSM.out _ _ _ _ _ _ H3.out).mono ?_); clear KSM H3; rintro ev w2 ⟨rfl, h⟩; have H3 := Lib.hid h; clear h p0 p1)
        | (with_reducible refine at_slot (k := some 56) ?_; refine wpList_load_arr (o := ⟨some 56, _, _, _, _, _⟩) H3.out.f1 0 (codeC z cl su A xs.length cc dh dc ut st fa) (fun jj u hu => by simpa using hu) hd hrow (by kernel_rfl) rfl rfl rfl ?_)
        | (with_reducible refine at_slot (k := none) ?_; refine wpList_store_whole (o := ⟨none, _, _, _, _, _⟩) (cs := (codeC 0 ⟨#[]⟩ ⟨#[]⟩ none 0 0 ⟨#[]⟩ ⟨#[]⟩ 0 0 0)) (vs := (codeC z cl su A xs.length cc dh dc ut st fa)) H3.out.f4 rfl (code_one _ _ _ _ _ _ _ _ _ _ _) (by kernel_rfl) rfl rfl rfl rfl ?_; clear H3; intro w7 h; have H8 := Lib.hid h; clear h))
      refine bodyPost_ret (results_ct rfl rfl H8.out hd hrow (by kernel_rfl)) rfl ?_
      exact .inl ⟨⟨z, cl, su, xs, dh, dc, ut, st, fa⟩, A, cc, rfl, HY.out, H8.out.drop.drop.drop.drop.f1.drop⟩
    · have HN : Hid (∀ f : CodeV, f.R ≠ (k, v, 0)) := Lib.hid fun f hf => by
        have := HNO.out f hf
        injection this with a b
        injection b with b c
        exact hx ⟨a.symm, b.symm⟩
      have hb : (decide (k = x1) && decide (v = x2)) = false := by
        rw [← Bool.not_eq_true, Bool.and_eq_true, decide_eq_true_eq, decide_eq_true_eq]; exact hx
      clear hx HRR HNO
      go_enter Tryz.func37, Tryz.ntmps37
      go_wp2_with (first
        | (refine (KA.out _ _ H00.out).mono ?_; clear KA H00; rintro ev w1 ⟨rfl, h⟩; have H0 : Hid (Own E _ (Hp.blk w1.heap.size CDT (codeC z ⟨#[]⟩ ⟨#[]⟩ none 0 0 ⟨#[]⟩ ⟨#[]⟩ 0 0 0).toArray :: Hp.xrd (w.heap.size + 1 + 1) v :: Hp.blk (w.heap.size + 1) CDT (codeC 0 ⟨#[]⟩ ⟨#[]⟩ none 0 0 ⟨#[]⟩ ⟨#[]⟩ 0 0 0).toArray :: Hp.blk w.heap.size ITT #[.string k, .string v] :: L)) := Lib.hid (h.alloc (.cells #[.int .i64 z, .string ⟨#[]⟩, .string ⟨#[]⟩, .slice none 0 0, .string ⟨#[]⟩, .string ⟨#[]⟩, .int .i64 0, .int .i64 0, .int .i64 0] CDT)); clear h)
        | ((with_reducible refine (K1.out _ _ H0.out.f1).mono ?_); clear K1 H0; rintro ev w2 ⟨rfl, h⟩; obtain ⟨⟨old1, ho1⟩, hf1, hs⟩ := h.f1.put1 1 (.string cl) (show (1 : Nat) < 9 by omega); have H1 : Hid (Own E _ (Hp.blk w1.heap.size CDT (codeC z cl ⟨#[]⟩ none 0 0 ⟨#[]⟩ ⟨#[]⟩ 0 0 0).toArray :: Hp.xrd (w.heap.size + 1 + 1) s1 :: Hp.blk (w.heap.size + 1) CDT (codeC 0 ⟨#[]⟩ ⟨#[]⟩ none 0 0 ⟨#[]⟩ ⟨#[]⟩ 0 0 0).toArray :: Hp.blk w.heap.size ITT #[.string k, .string v] :: L)) := Lib.hid hs; clear h hs)
        | ((with_reducible refine (K2.out _ _ H1.out.f1).mono ?_); clear K2 H1; rintro ev w2 ⟨rfl, h⟩; obtain ⟨⟨old2, ho2⟩, hf2, hs⟩ := h.f1.put1 2 (.string su) (show (2 : Nat) < 9 by omega); have H2 : Hid (Own E _ (Hp.blk w1.heap.size CDT (codeC z cl su none 0 0 ⟨#[]⟩ ⟨#[]⟩ 0 0 0).toArray :: Hp.xrd (w.heap.size + 1 + 1) s2 :: Hp.blk (w.heap.size + 1) CDT (codeC 0 ⟨#[]⟩ ⟨#[]⟩ none 0 0 ⟨#[]⟩ ⟨#[]⟩ 0 0 0).toArray :: Hp.blk w.heap.size ITT #[.string k, .string v] :: L)) := Lib.hid hs; clear h hs)
        | ((with_reducible refine (K3.out _ _ H2.out.f1).mono ?_); clear K3 H2; rintro ev w2 ⟨A, cc, rfl, h⟩; obtain ⟨⟨old3, ho3⟩, hf3, hs⟩ := h.f1.f2.put1 3 (.slice A xs.length cc) (show (3 : Nat) < 9 by omega); have H3 : Hid (Own E _ (Hp.blk w1.heap.size CDT (codeC z cl su A xs.length cc ⟨#[]⟩ ⟨#[]⟩ 0 0 0).toArray :: Hp.xrd (w.heap.size + 1 + 1) s3 :: Hp.lst ST (.slice A xs.length cc) (xs.map Value.string) :: Hp.blk (w.heap.size + 1) CDT (codeC 0 ⟨#[]⟩ ⟨#[]⟩ none 0 0 ⟨#[]⟩ ⟨#[]⟩ 0 0 0).toArray :: Hp.blk w.heap.size ITT #[.string k, .string v] :: L)) := Lib.hid hs; clear h hs)
        | ((with_reducible refine (K4.out _ _ H3.out.f1).mono ?_); clear K4 H3; rintro ev w2 ⟨rfl, h⟩; obtain ⟨⟨old4, ho4⟩, hf4, hs⟩ := h.f1.put1 4 (.string dh) (show (4 : Nat) < 9 by omega); have H4 : Hid (Own E _ (Hp.blk w1.heap.size CDT (codeC z cl su A xs.length cc dh ⟨#[]⟩ 0 0 0).toArray :: Hp.xrd (w.heap.size + 1 + 1) s4 :: Hp.lst ST (.slice A xs.length cc) (xs.map Value.string) :: Hp.blk (w.heap.size + 1) CDT (codeC 0 ⟨#[]⟩ ⟨#[]⟩ none 0 0 ⟨#[]⟩ ⟨#[]⟩ 0 0 0).toArray :: Hp.blk w.heap.size ITT #[.string k, .string v] :: L)) := Lib.hid hs; clear h hs)
        | ((with_reducible refine (K5.out _ _ H4.out.f1).mono ?_); clear K5 H4; rintro ev w2 ⟨rfl, h⟩; obtain ⟨⟨old5, ho5⟩, hf5, hs⟩ := h.f1.put1 5 (.string dc) (show (5 : Nat) < 9 by omega); have H5 : Hid (Own E _ (Hp.blk w1.heap.size CDT (codeC z cl su A xs.length cc dh dc 0 0 0).toArray :: Hp.xrd (w.heap.size + 1 + 1) s5 :: Hp.lst ST (.slice A xs.length cc) (xs.map Value.string) :: Hp.blk (w.heap.size + 1) CDT (codeC 0 ⟨#[]⟩ ⟨#[]⟩ none 0 0 ⟨#[]⟩ ⟨#[]⟩ 0 0 0).toArray :: Hp.blk w.heap.size ITT #[.string k, .string v] :: L)) := Lib.hid hs; clear h hs)
        | ((with_reducible refine (K6.out _ _ H5.out.f1).mono ?_); clear K6 H5; rintro ev w2 ⟨rfl, h⟩; obtain ⟨⟨old6, ho6⟩, hf6, hs⟩ := h.f1.put1 6 (.int .i64 ut) (show (6 : Nat) < 9 by omega); have H6 : Hid (Own E _ (Hp.blk w1.heap.size CDT (codeC z cl su A xs.length cc dh dc ut 0 0).toArray :: Hp.xrd (w.heap.size + 1 + 1) s6 :: Hp.lst ST (.slice A xs.length cc) (xs.map Value.string) :: Hp.blk (w.heap.size + 1) CDT (codeC 0 ⟨#[]⟩ ⟨#[]⟩ none 0 0 ⟨#[]⟩ ⟨#[]⟩ 0 0 0).toArray :: Hp.blk w.heap.size ITT #[.string k, .string v] :: L)) := Lib.hid hs; clear h hs)
        | ((with_reducible refine (K7.out _ _ H6.out.f1).mono ?_); clear K7 H6; rintro ev w2 ⟨rfl, h⟩; obtain ⟨⟨old7, ho7⟩, hf7, hs⟩ := h.f1.put1 7 (.int .i64 st) (show (7 : Nat) < 9 by omega); have H7 : Hid (Own E _ (Hp.blk w1.heap.size CDT (codeC z cl su A xs.length cc dh dc ut st 0).toArray :: Hp.xrd (w.heap.size + 1 + 1) s7 :: Hp.lst ST (.slice A xs.length cc) (xs.map Value.string) :: Hp.blk (w.heap.size + 1) CDT (codeC 0 ⟨#[]⟩ ⟨#[]⟩ none 0 0 ⟨#[]⟩ ⟨#[]⟩ 0 0 0).toArray :: Hp.blk w.heap.size ITT #[.string k, .string v] :: L)) := Lib.hid hs; clear h hs)
        | ((with_reducible refine (K8.out _ _ H7.out.f1).mono ?_); clear K8 H7; rintro ev w2 ⟨rfl, h⟩; obtain ⟨⟨old8, ho8⟩, hf8, hs⟩ := h.f1.put1 8 (.int .i64 fa) (show (8 : Nat) < 9 by omega); have H8 : Hid (Own E _ (Hp.blk w1.heap.size CDT (codeC z cl su A xs.length cc dh dc ut st fa).toArray :: Hp.xrd (w.heap.size + 1 + 1) s8 :: Hp.lst ST (.slice A xs.length cc) (xs.map Value.string) :: Hp.blk (w.heap.size + 1) CDT (codeC 0 ⟨#[]⟩ ⟨#[]⟩ none 0 0 ⟨#[]⟩ ⟨#[]⟩ 0 0 0).toArray :: Hp.blk w.heap.size ITT #[.string k, .string v] :: L)) := Lib.hid hs; clear h hs)
        | (with_reducible refine at_slot (k := some 42) ?_; refine wpList_load_arr (o := ⟨some 42, _, _, _, _, _⟩) H8.out 0 (codeC z cl su A xs.length cc dh dc ut st fa) (fun jj u hu => by simpa using hu) hd hrow (by kernel_rfl) rfl rfl rfl ?_)
        | ((with_reducible refine (KPR.out _ _ _ _ H8.out.f2).mono ?_); clear KPR H8; rintro ev w2 ⟨rfl, h⟩; have H3 := Lib.hid ((show Own E w2 (Hp.blk w1.heap.size CDT (codeC z cl su A xs.length cc dh dc ut st fa).toArray :: Hp.xrd (w.heap.size + 1 + 1) s8 :: Hp.lst ST (.slice A xs.length cc) (xs.map Value.string) :: Hp.blk (w.heap.size + 1) CDT (codeC 0 ⟨#[]⟩ ⟨#[]⟩ none 0 0 ⟨#[]⟩ ⟨#[]⟩ 0 0 0).toArray :: Hp.blk w.heap.size ITT #[.string k, .string v] :: L) from h.f2.f2).alloc (.cells #[.string x1, .string x2] ITT)); clear h; have p0 := H3.out.f5.cell 0; have p1 := H3.out.f5.cell 1; simp only [List.getElem?_toArray, List.getElem?_cons_zero, List.getElem?_cons_succ] at p0 p1)
        | ((with_reducible refine (KSM.out _ _ _ _ _ _ H3.out).mono ?_); clear KSM H3; rintro ev w2 ⟨rfl, h⟩; have H3 := Lib.hid h; clear h p0 p1)
        | (with_reducible refine at_slot (k := some 56) ?_; refine wpList_load_arr (o := ⟨some 56, _, _, _, _, _⟩) H3.out.f1 0 (codeC z cl su A xs.length cc dh dc ut st fa) (fun jj u hu => by simpa using hu) hd hrow (by kernel_rfl) rfl rfl rfl ?_)
        | (with_reducible refine at_slot (k := none) ?_; refine wpList_store_whole (o := ⟨none, _, _, _, _, _⟩) (cs := (codeC 0 ⟨#[]⟩ ⟨#[]⟩ none 0 0 ⟨#[]⟩ ⟨#[]⟩ 0 0 0)) (vs := (codeC 0 ⟨#[]⟩ ⟨#[]⟩ none 0 0 ⟨#[]⟩ ⟨#[]⟩ 0 0 0)) H3.out.f4 rfl (code_one _ _ _ _ _ _ _ _ _ _ _) (by kernel_rfl) rfl rfl rfl rfl ?_; clear H3; intro w7 h; have H8 := Lib.hid h; clear h))
      refine bodyPost_ret (results_ct rfl rfl H8.out hd hrow (by kernel_rfl)) rfl ?_
      exact .inr ⟨rfl, HN.out, H8.out.drop.drop.drop.drop.drop.drop⟩
  · have HN : Hid (∀ f : CodeV, f.R ≠ (k, v, 0)) := Lib.hid fun f hf => by
      have := HNO.out f hf
      injection this with a b
      injection b with b c
      exact he c
    have hz : (er != 0) = true := by rw [bne_iff_ne]; exact he
    clear he HRR HNO
    go_enter Tryz.func37, Tryz.ntmps37
    go_wp2_with (first
      | (refine (KA.out _ _ H00.out).mono ?_; clear KA H00; rintro ev w1 ⟨rfl, h⟩; have H0 : Hid (Own E _ (Hp.blk w1.heap.size CDT (codeC z ⟨#[]⟩ ⟨#[]⟩ none 0 0 ⟨#[]⟩ ⟨#[]⟩ 0 0 0).toArray :: Hp.xrd (w.heap.size + 1 + 1) v :: Hp.blk (w.heap.size + 1) CDT (codeC 0 ⟨#[]⟩ ⟨#[]⟩ none 0 0 ⟨#[]⟩ ⟨#[]⟩ 0 0 0).toArray :: Hp.blk w.heap.size ITT #[.string k, .string v] :: L)) := Lib.hid (h.alloc (.cells #[.int .i64 z, .string ⟨#[]⟩, .string ⟨#[]⟩, .slice none 0 0, .string ⟨#[]⟩, .string ⟨#[]⟩, .int .i64 0, .int .i64 0, .int .i64 0] CDT)); clear h)
      | ((with_reducible refine (K1.out _ _ H0.out.f1).mono ?_); clear K1 H0; rintro ev w2 ⟨rfl, h⟩; obtain ⟨⟨old1, ho1⟩, hf1, hs⟩ := h.f1.put1 1 (.string cl) (show (1 : Nat) < 9 by omega); have H1 : Hid (Own E _ (Hp.blk w1.heap.size CDT (codeC z cl ⟨#[]⟩ none 0 0 ⟨#[]⟩ ⟨#[]⟩ 0 0 0).toArray :: Hp.xrd (w.heap.size + 1 + 1) s1 :: Hp.blk (w.heap.size + 1) CDT (codeC 0 ⟨#[]⟩ ⟨#[]⟩ none 0 0 ⟨#[]⟩ ⟨#[]⟩ 0 0 0).toArray :: Hp.blk w.heap.size ITT #[.string k, .string v] :: L)) := Lib.hid hs; clear h hs)
      | ((with_reducible refine (K2.out _ _ H1.out.f1).mono ?_); clear K2 H1; rintro ev w2 ⟨rfl, h⟩; obtain ⟨⟨old2, ho2⟩, hf2, hs⟩ := h.f1.put1 2 (.string su) (show (2 : Nat) < 9 by omega); have H2 : Hid (Own E _ (Hp.blk w1.heap.size CDT (codeC z cl su none 0 0 ⟨#[]⟩ ⟨#[]⟩ 0 0 0).toArray :: Hp.xrd (w.heap.size + 1 + 1) s2 :: Hp.blk (w.heap.size + 1) CDT (codeC 0 ⟨#[]⟩ ⟨#[]⟩ none 0 0 ⟨#[]⟩ ⟨#[]⟩ 0 0 0).toArray :: Hp.blk w.heap.size ITT #[.string k, .string v] :: L)) := Lib.hid hs; clear h hs)
      | ((with_reducible refine (K3.out _ _ H2.out.f1).mono ?_); clear K3 H2; rintro ev w2 ⟨A, cc, rfl, h⟩; obtain ⟨⟨old3, ho3⟩, hf3, hs⟩ := h.f1.f2.put1 3 (.slice A xs.length cc) (show (3 : Nat) < 9 by omega); have H3 : Hid (Own E _ (Hp.blk w1.heap.size CDT (codeC z cl su A xs.length cc ⟨#[]⟩ ⟨#[]⟩ 0 0 0).toArray :: Hp.xrd (w.heap.size + 1 + 1) s3 :: Hp.lst ST (.slice A xs.length cc) (xs.map Value.string) :: Hp.blk (w.heap.size + 1) CDT (codeC 0 ⟨#[]⟩ ⟨#[]⟩ none 0 0 ⟨#[]⟩ ⟨#[]⟩ 0 0 0).toArray :: Hp.blk w.heap.size ITT #[.string k, .string v] :: L)) := Lib.hid hs; clear h hs)
      | ((with_reducible refine (K4.out _ _ H3.out.f1).mono ?_); clear K4 H3; rintro ev w2 ⟨rfl, h⟩; obtain ⟨⟨old4, ho4⟩, hf4, hs⟩ := h.f1.put1 4 (.string dh) (show (4 : Nat) < 9 by omega); have H4 : Hid (Own E _ (Hp.blk w1.heap.size CDT (codeC z cl su A xs.length cc dh ⟨#[]⟩ 0 0 0).toArray :: Hp.xrd (w.heap.size + 1 + 1) s4 :: Hp.lst ST (.slice A xs.length cc) (xs.map Value.string) :: Hp.blk (w.heap.size + 1) CDT (codeC 0 ⟨#[]⟩ ⟨#[]⟩ none 0 0 ⟨#[]⟩ ⟨#[]⟩ 0 0 0).toArray :: Hp.blk w.heap.size ITT #[.string k, .string v] :: L)) := Lib.hid hs; clear h hs)
      | ((with_reducible refine (K5.out _ _ H4.out.f1).mono ?_); clear K5 H4; rintro ev w2 ⟨rfl, h⟩; obtain ⟨⟨old5, ho5⟩, hf5, hs⟩ := h.f1.put1 5 (.string dc) (show (5 : Nat) < 9 by omega); have H5 : Hid (Own E _ (Hp.blk w1.heap.size CDT (codeC z cl su A xs.length cc dh dc 0 0 0).toArray :: Hp.xrd (w.heap.size + 1 + 1) s5 :: Hp.lst ST (.slice A xs.length cc) (xs.map Value.string) :: Hp.blk (w.heap.size + 1) CDT (codeC 0 ⟨#[]⟩ ⟨#[]⟩ none 0 0 ⟨#[]⟩ ⟨#[]⟩ 0 0 0).toArray :: Hp.blk w.heap.size ITT #[.string k, .string v] :: L)) := Lib.hid hs; clear h hs)
      | ((with_reducible refine (K6.out _ _ H5.out.f1).mono ?_); clear K6 H5; rintro ev w2 ⟨rfl, h⟩; obtain ⟨⟨old6, ho6⟩, hf6, hs⟩ := h.f1.put1 6 (.int .i64 ut) (show (6 : Nat) < 9 by omega); have H6 : Hid (Own E _ (Hp.blk w1.heap.size CDT (codeC z cl su A xs.length cc dh dc ut 0 0).toArray :: Hp.xrd (w.heap.size + 1 + 1) s6 :: Hp.lst ST (.slice A xs.length cc) (xs.map Value.string) :: Hp.blk (w.heap.size + 1) CDT (codeC 0 ⟨#[]⟩ ⟨#[]⟩ none 0 0 ⟨#[]⟩ ⟨#[]⟩ 0 0 0).toArray :: Hp.blk w.heap.size ITT #[.string k, .string v] :: L)) := Lib.hid hs; clear h hs)
      | ((with_reducible refine (K7.out _ _ H6.out.f1).mono ?_); clear K7 H6; rintro ev w2 ⟨rfl, h⟩; obtain ⟨⟨old7, ho7⟩, hf7, hs⟩ := h.f1.put1 7 (.int .i64 st) (show (7 : Nat) < 9 by omega); have H7 : Hid (Own E _ (Hp.blk w1.heap.size CDT (codeC z cl su A xs.length cc dh dc ut st 0).toArray :: Hp.xrd (w.heap.size + 1 + 1) s7 :: Hp.lst ST (.slice A xs.length cc) (xs.map Value.string) :: Hp.blk (w.heap.size + 1) CDT (codeC 0 ⟨#[]⟩ ⟨#[]⟩ none 0 0 ⟨#[]⟩ ⟨#[]⟩ 0 0 0).toArray :: Hp.blk w.heap.size ITT #[.string k, .string v] :: L)) := Lib.hid hs; clear h hs)
      | ((with_reducible refine (K8.out _ _ H7.out.f1).mono ?_); clear K8 H7; rintro ev w2 ⟨rfl, h⟩; obtain ⟨⟨old8, ho8⟩, hf8, hs⟩ := h.f1.put1 8 (.int .i64 fa) (show (8 : Nat) < 9 by omega); have H8 : Hid (Own E _ (Hp.blk w1.heap.size CDT (codeC z cl su A xs.length cc dh dc ut st fa).toArray :: Hp.xrd (w.heap.size + 1 + 1) s8 :: Hp.lst ST (.slice A xs.length cc) (xs.map Value.string) :: Hp.blk (w.heap.size + 1) CDT (codeC 0 ⟨#[]⟩ ⟨#[]⟩ none 0 0 ⟨#[]⟩ ⟨#[]⟩ 0 0 0).toArray :: Hp.blk w.heap.size ITT #[.string k, .string v] :: L)) := Lib.hid hs; clear h hs)
      | (with_reducible refine at_slot (k := some 42) ?_; refine wpList_load_arr (o := ⟨some 42, _, _, _, _, _⟩) H8.out 0 (codeC z cl su A xs.length cc dh dc ut st fa) (fun jj u hu => by simpa using hu) hd hrow (by kernel_rfl) rfl rfl rfl ?_)
      | ((with_reducible refine (KPR.out _ _ _ _ H8.out.f2).mono ?_); clear KPR H8; rintro ev w2 ⟨rfl, h⟩; have H3 := Lib.hid ((show Own E w2 (Hp.blk w1.heap.size CDT (codeC z cl su A xs.length cc dh dc ut st fa).toArray :: Hp.xrd (w.heap.size + 1 + 1) s8 :: Hp.lst ST (.slice A xs.length cc) (xs.map Value.string) :: Hp.blk (w.heap.size + 1) CDT (codeC 0 ⟨#[]⟩ ⟨#[]⟩ none 0 0 ⟨#[]⟩ ⟨#[]⟩ 0 0 0).toArray :: Hp.blk w.heap.size ITT #[.string k, .string v] :: L) from h.f2.f2).alloc (.cells #[.string x1, .string x2] ITT)); clear h; have p0 := H3.out.f5.cell 0; have p1 := H3.out.f5.cell 1; simp only [List.getElem?_toArray, List.getElem?_cons_zero, List.getElem?_cons_succ] at p0 p1)
      | ((with_reducible refine (KSM.out _ _ _ _ _ _ H3.out).mono ?_); clear KSM H3; rintro ev w2 ⟨rfl, h⟩; have H3 := Lib.hid h; clear h p0 p1)
      | (with_reducible refine at_slot (k := some 56) ?_; refine wpList_load_arr (o := ⟨some 56, _, _, _, _, _⟩) H3.out.f1 0 (codeC z cl su A xs.length cc dh dc ut st fa) (fun jj u hu => by simpa using hu) hd hrow (by kernel_rfl) rfl rfl rfl ?_)
      | (with_reducible refine at_slot (k := none) ?_; refine wpList_store_whole (o := ⟨none, _, _, _, _, _⟩) (cs := (codeC 0 ⟨#[]⟩ ⟨#[]⟩ none 0 0 ⟨#[]⟩ ⟨#[]⟩ 0 0 0)) (vs := (codeC 0 ⟨#[]⟩ ⟨#[]⟩ none 0 0 ⟨#[]⟩ ⟨#[]⟩ 0 0 0)) H3.out.f4 rfl (code_one _ _ _ _ _ _ _ _ _ _ _) (by kernel_rfl) rfl rfl rfl rfl ?_; clear H3; intro w7 h; have H8 := Lib.hid h; clear h))
    refine bodyPost_ret (results_ct rfl rfl H8.out hd hrow (by kernel_rfl)) rfl ?_
    exact .inr ⟨rfl, HN.out, H8.out.drop.drop.drop.drop.drop.drop⟩
end
end Go.Proofs.YtabibfabieghpaaGreatDoor
