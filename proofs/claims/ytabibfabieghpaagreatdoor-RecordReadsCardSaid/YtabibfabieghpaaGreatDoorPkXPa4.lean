/- The reference's ParseToken, ParseKey, ParseEvent, ParseChain of any pair (printed by gen_xpa4.py). -/
import Derived.Test.YtabibfabieghpaaGreatDoorPkXRdr
namespace Go.Proofs.YtabibfabieghpaaGreatDoor
open Go.RowKit
/- tok -/
theorem tok_xreads {a : Int} {b : Int} {c : Int} {s : ByteArray} {d : Int} {f : Bool} {e : Int} {g : Int} {r : ByteArray} {k v : ByteArray} (h : (tokR a b c s d f e g r) = (k, v, 0)) : xafterV k = a ∧ xL tokKs v = [.n b, .n c, .s s, .n d, .n (flagV f 1), .n e, .n g, .s r] := by
  by_cases hm : tokMay a b c s d f e g r
  · unfold tokR at h
    rw [if_pos hm] at h
    injection h with h1 h2
    injection h2 with h2 h3
    refine ⟨?_, ?_⟩
    · rw [← h1]
      have c1 := hm.1
      exact xafter_key 116 8 a (by omega) (by omega) (by omega) (by show a < (256 : Int) ^ 8; omega) (by omega)
    · rw [← h2]
      have hh := xL_printed (tok_fits 0 0 hm)
      rw [tok_printed 0 0 hm] at hh
      exact hh
  · unfold tokR at h
    rw [if_neg hm] at h
    injection h with h1 h2
    injection h2 with h2 h3
    cases h3
section
variable {E : World} {L : List Hp}
set_option maxRecDepth 20000 in
set_option maxHeartbeats 16000000 in
theorem xparsetok_any (k v : ByteArray) (w : World) (hk : k.size ≤ 1000000000000000) (h : Own E w L) :
    Calls Tryz.prog 51 #[.agg #[.string k, .string v]] w fun ev w' => ((∃ (a : Int) (b : Int) (c : Int) (s : ByteArray) (d : Int) (f : Bool) (e : Int) (g : Int) (r : ByteArray), ev = .returned (.tuple #[.agg (tokC a b c s d f e g r).toArray, .int .i64 0]) ∧ (tokR a b c s d f e g r) = (k, v, 0)) ∨
      (ev = .returned (.tuple #[.agg (tokC 0 0 0 noB 0 false 0 0 noB).toArray, .int .i64 141]) ∧ ∀ (a : Int) (b : Int) (c : Int) (s : ByteArray) (d : Int) (f : Bool) (e : Int) (g : Int) (r : ByteArray), (tokR a b c s d f e g r) ≠ (k, v, 0))) ∧ Own E w' L := by
  have h1 := h.alloc (.cells #[.string k, .string v] ITT)
  have h2 := h1.alloc (.cells (tokC 0 0 0 ⟨#[]⟩ 0 false 0 0 ⟨#[]⟩).toArray TOKT)
  have h3 := h2.alloc (.cells #[.string v, .bool false] RDT)
  rw [alloc_size, alloc_size] at h3
  have H00 := Lib.hid (show Own E _ (Hp.xrd (w.heap.size + 1 + 1) v :: Hp.blk (w.heap.size + 1) TOKT (tokC 0 0 0 ⟨#[]⟩ 0 false 0 0 ⟨#[]⟩).toArray :: Hp.blk w.heap.size ITT #[.string k, .string v] :: L) from Own.ex.2 ⟨false, h3⟩)
  obtain ⟨z, hz⟩ : ∃ z, z = xafterV k := ⟨_, rfl⟩
  obtain ⟨dd, hd, hrow⟩ := tokt_u
  obtain ⟨b, s1, hx1⟩ := xF_num 8 v
  obtain ⟨c, s2, hx2⟩ := xF_num 4 s1
  obtain ⟨s, s3, hx3, hb3⟩ := xF_raw 32 s2
  obtain ⟨d, s4, hx4⟩ := xF_num 6 s3
  obtain ⟨sp, s5, hx5⟩ := xF_num 1 s4
  obtain ⟨e, s6, hx6⟩ := xF_num 6 s5
  obtain ⟨g, s7, hx7⟩ := xF_num 8 s6
  obtain ⟨r, s8, hx8, hb8⟩ := xF_text s7
  obtain ⟨f, hf⟩ : ∃ f, (sp == 1) = f := ⟨_, rfl⟩
  have hl : xL tokKs v = [.n b, .n c, .s s, .n d, .n sp, .n e, .n g, .s r] := by
    simp only [tokKs, xL, hx1, hx2, hx3, hx4, hx5, hx6, hx7, hx8]
  have HNO : Hid (∀ (ya : Int) (yb : Int) (yc : Int) (ys : ByteArray) (yd : Int) (yf : Bool) (ye : Int) (yg : Int) (yr : ByteArray), (tokR ya yb yc ys yd yf ye yg yr) = (k, v, 0) → (tokR z b c s d f e g r) = (k, v, 0)) := Lib.hid fun ya yb yc ys yd yf ye yg yr hr => by
    have ee := tok_xreads hr
    obtain ⟨e1, e2⟩ := ee
    rw [← hz] at e1
    rw [hl] at e2
    simp only [List.cons.injEq, Fv.s.injEq, Fv.n.injEq, and_true] at e2
    obtain rfl := e1
    obtain ⟨rfl, rfl, rfl, rfl, ef, rfl, rfl, rfl⟩ := e2
    have e5 : f = yf := by
      rw [← hf, ef]
      cases yf <;> rfl
    rw [e5]
    exact hr
  have KA : Hid (∀ w M, Own E w M → Calls Tryz.prog 95 #[.string k] w fun e w' => e = .returned (.int .i64 z) ∧ Own E w' M) := Lib.hid fun w M h => by
    rw [hz]
    exact xafter_any k w hk h
  have K1 : Hid (∀ wq M, Own E wq (Hp.xrd (w.heap.size + 1 + 1) v :: M) → Calls Tryz.prog 99 #[.pointer (some ⟨(w.heap.size + 1 + 1), 0, none⟩), .int .i64 8] wq fun ev w' => ev = .returned (.int .i64 b) ∧ Own E w' (Hp.xrd (w.heap.size + 1 + 1) s1 :: M)) := Lib.hid fun w M h => xFnum _ (by omega) hx1 w h
  have K2 : Hid (∀ wq M, Own E wq (Hp.xrd (w.heap.size + 1 + 1) s1 :: M) → Calls Tryz.prog 99 #[.pointer (some ⟨(w.heap.size + 1 + 1), 0, none⟩), .int .i64 4] wq fun ev w' => ev = .returned (.int .i64 c) ∧ Own E w' (Hp.xrd (w.heap.size + 1 + 1) s2 :: M)) := Lib.hid fun w M h => xFnum _ (by omega) hx2 w h
  have K3 : Hid (∀ wq M, Own E wq (Hp.xrd (w.heap.size + 1 + 1) s2 :: M) → Calls Tryz.prog 98 #[.pointer (some ⟨(w.heap.size + 1 + 1), 0, none⟩), .int .i64 32] wq fun ev w' => ev = .returned (.string s) ∧ Own E w' (Hp.xrd (w.heap.size + 1 + 1) s3 :: M)) := Lib.hid fun w M h => xFraw _ hx3 w h
  have K4 : Hid (∀ wq M, Own E wq (Hp.xrd (w.heap.size + 1 + 1) s3 :: M) → Calls Tryz.prog 99 #[.pointer (some ⟨(w.heap.size + 1 + 1), 0, none⟩), .int .i64 6] wq fun ev w' => ev = .returned (.int .i64 d) ∧ Own E w' (Hp.xrd (w.heap.size + 1 + 1) s4 :: M)) := Lib.hid fun w M h => xFnum _ (by omega) hx4 w h
  have K5 : Hid (∀ wq M, Own E wq (Hp.xrd (w.heap.size + 1 + 1) s4 :: M) → Calls Tryz.prog 99 #[.pointer (some ⟨(w.heap.size + 1 + 1), 0, none⟩), .int .i64 1] wq fun ev w' => ev = .returned (.int .i64 sp) ∧ Own E w' (Hp.xrd (w.heap.size + 1 + 1) s5 :: M)) := Lib.hid fun w M h => xFnum _ (by omega) hx5 w h
  have K6 : Hid (∀ wq M, Own E wq (Hp.xrd (w.heap.size + 1 + 1) s5 :: M) → Calls Tryz.prog 99 #[.pointer (some ⟨(w.heap.size + 1 + 1), 0, none⟩), .int .i64 6] wq fun ev w' => ev = .returned (.int .i64 e) ∧ Own E w' (Hp.xrd (w.heap.size + 1 + 1) s6 :: M)) := Lib.hid fun w M h => xFnum _ (by omega) hx6 w h
  have K7 : Hid (∀ wq M, Own E wq (Hp.xrd (w.heap.size + 1 + 1) s6 :: M) → Calls Tryz.prog 99 #[.pointer (some ⟨(w.heap.size + 1 + 1), 0, none⟩), .int .i64 8] wq fun ev w' => ev = .returned (.int .i64 g) ∧ Own E w' (Hp.xrd (w.heap.size + 1 + 1) s7 :: M)) := Lib.hid fun w M h => xFnum _ (by omega) hx7 w h
  have K8 : Hid (∀ wq M, Own E wq (Hp.xrd (w.heap.size + 1 + 1) s7 :: M) → Calls Tryz.prog 96 #[.pointer (some ⟨(w.heap.size + 1 + 1), 0, none⟩)] wq fun ev w' => ev = .returned (.string r) ∧ Own E w' (Hp.xrd (w.heap.size + 1 + 1) s8 :: M)) := Lib.hid fun w M h => xFtext _ hx8 w h
  have KPR : Hid (∀ (w : World) (M : List Hp), Own E w M → Calls Tryz.prog 12 #[.agg (tokC z b c s d f e g r).toArray] w fun ev w' => ev = .returned (.tuple #[.agg #[.string (tokR z b c s d f e g r).1, .string (tokR z b c s d f e g r).2.1], .int .i64 (tokR z b c s d f e g r).2.2]) ∧ Own E w' M) := Lib.hid fun w M h => xprinttok_any z b c s d f e g r w  h
  have KSM := Lib.hid (fun (a b c d : ByteArray) (w : World) (M : List Hp) h => xsame_any (E := E) (L := M) a b c d w h)
  clear h h1 h2 h3 hx1 hx2 hx3 hx4 hx5 hx6 hx7 hx8 hb3 hb8 hl hz hk
  obtain ⟨x1, x2, er, hpr⟩ : ∃ x1 x2 er, (tokR z b c s d f e g r) = (x1, x2, er) := ⟨_, _, _, rfl⟩
  rw [hpr] at KPR HNO
  have HRR := Lib.hid hpr
  clear hpr
  by_cases he : er = 0
  · subst he
    by_cases hx : k = x1 ∧ v = x2
    · have HY : Hid ((tokR z b c s d f e g r) = (k, v, 0)) := Lib.hid (by rw [HRR.out, hx.1, hx.2])
      have hb : (decide (k = x1) && decide (v = x2)) = true := by rw [decide_eq_true hx.1, decide_eq_true hx.2]; rfl
      clear hx HRR HNO
      go_enter Tryz.func51, Tryz.ntmps51
      go_wp2_with (first
        | (refine (KA.out _ _ H00.out).mono ?_; clear KA H00; rintro ev w1 ⟨rfl, h⟩; have H0 : Hid (Own E _ (Hp.blk w1.heap.size TOKT (tokC z 0 0 ⟨#[]⟩ 0 false 0 0 ⟨#[]⟩).toArray :: Hp.xrd (w.heap.size + 1 + 1) v :: Hp.blk (w.heap.size + 1) TOKT (tokC 0 0 0 ⟨#[]⟩ 0 false 0 0 ⟨#[]⟩).toArray :: Hp.blk w.heap.size ITT #[.string k, .string v] :: L)) := Lib.hid (h.alloc (.cells #[.int .i64 z, .int .i64 0, .int .i64 0, .string ⟨#[]⟩, .int .i64 0, .bool false, .int .i64 0, .int .i64 0, .string ⟨#[]⟩] TOKT)); clear h)
        | ((with_reducible refine (K1.out _ _ H0.out.f1).mono ?_); clear K1 H0; rintro ev w2 ⟨rfl, h⟩; obtain ⟨⟨old1, ho1⟩, hf1, hs⟩ := h.f1.put1 1 (.int .i64 b) (show (1 : Nat) < 9 by omega); have H1 : Hid (Own E _ (Hp.blk w1.heap.size TOKT (tokC z b 0 ⟨#[]⟩ 0 false 0 0 ⟨#[]⟩).toArray :: Hp.xrd (w.heap.size + 1 + 1) s1 :: Hp.blk (w.heap.size + 1) TOKT (tokC 0 0 0 ⟨#[]⟩ 0 false 0 0 ⟨#[]⟩).toArray :: Hp.blk w.heap.size ITT #[.string k, .string v] :: L)) := Lib.hid hs; clear h hs)
        | ((with_reducible refine (K2.out _ _ H1.out.f1).mono ?_); clear K2 H1; rintro ev w2 ⟨rfl, h⟩; obtain ⟨⟨old2, ho2⟩, hf2, hs⟩ := h.f1.put1 2 (.int .i64 c) (show (2 : Nat) < 9 by omega); have H2 : Hid (Own E _ (Hp.blk w1.heap.size TOKT (tokC z b c ⟨#[]⟩ 0 false 0 0 ⟨#[]⟩).toArray :: Hp.xrd (w.heap.size + 1 + 1) s2 :: Hp.blk (w.heap.size + 1) TOKT (tokC 0 0 0 ⟨#[]⟩ 0 false 0 0 ⟨#[]⟩).toArray :: Hp.blk w.heap.size ITT #[.string k, .string v] :: L)) := Lib.hid hs; clear h hs)
        | ((with_reducible refine (K3.out _ _ H2.out.f1).mono ?_); clear K3 H2; rintro ev w2 ⟨rfl, h⟩; obtain ⟨⟨old3, ho3⟩, hf3, hs⟩ := h.f1.put1 3 (.string s) (show (3 : Nat) < 9 by omega); have H3 : Hid (Own E _ (Hp.blk w1.heap.size TOKT (tokC z b c s 0 false 0 0 ⟨#[]⟩).toArray :: Hp.xrd (w.heap.size + 1 + 1) s3 :: Hp.blk (w.heap.size + 1) TOKT (tokC 0 0 0 ⟨#[]⟩ 0 false 0 0 ⟨#[]⟩).toArray :: Hp.blk w.heap.size ITT #[.string k, .string v] :: L)) := Lib.hid hs; clear h hs)
        | ((with_reducible refine (K4.out _ _ H3.out.f1).mono ?_); clear K4 H3; rintro ev w2 ⟨rfl, h⟩; obtain ⟨⟨old4, ho4⟩, hf4, hs⟩ := h.f1.put1 4 (.int .i64 d) (show (4 : Nat) < 9 by omega); have H4 : Hid (Own E _ (Hp.blk w1.heap.size TOKT (tokC z b c s d false 0 0 ⟨#[]⟩).toArray :: Hp.xrd (w.heap.size + 1 + 1) s4 :: Hp.blk (w.heap.size + 1) TOKT (tokC 0 0 0 ⟨#[]⟩ 0 false 0 0 ⟨#[]⟩).toArray :: Hp.blk w.heap.size ITT #[.string k, .string v] :: L)) := Lib.hid hs; clear h hs)
        | ((with_reducible refine (K5.out _ _ H4.out.f1).mono ?_); clear K5 H4; rintro ev w2 ⟨rfl, h⟩; obtain ⟨⟨old5, ho5⟩, hf5, hs⟩ := h.f1.put1 5 (.bool f) (show (5 : Nat) < 9 by omega); have H5 : Hid (Own E _ (Hp.blk w1.heap.size TOKT (tokC z b c s d f 0 0 ⟨#[]⟩).toArray :: Hp.xrd (w.heap.size + 1 + 1) s5 :: Hp.blk (w.heap.size + 1) TOKT (tokC 0 0 0 ⟨#[]⟩ 0 false 0 0 ⟨#[]⟩).toArray :: Hp.blk w.heap.size ITT #[.string k, .string v] :: L)) := Lib.hid hs; clear h hs)
        | ((with_reducible refine (K6.out _ _ H5.out.f1).mono ?_); clear K6 H5; rintro ev w2 ⟨rfl, h⟩; obtain ⟨⟨old6, ho6⟩, hf6, hs⟩ := h.f1.put1 6 (.int .i64 e) (show (6 : Nat) < 9 by omega); have H6 : Hid (Own E _ (Hp.blk w1.heap.size TOKT (tokC z b c s d f e 0 ⟨#[]⟩).toArray :: Hp.xrd (w.heap.size + 1 + 1) s6 :: Hp.blk (w.heap.size + 1) TOKT (tokC 0 0 0 ⟨#[]⟩ 0 false 0 0 ⟨#[]⟩).toArray :: Hp.blk w.heap.size ITT #[.string k, .string v] :: L)) := Lib.hid hs; clear h hs)
        | ((with_reducible refine (K7.out _ _ H6.out.f1).mono ?_); clear K7 H6; rintro ev w2 ⟨rfl, h⟩; obtain ⟨⟨old7, ho7⟩, hf7, hs⟩ := h.f1.put1 7 (.int .i64 g) (show (7 : Nat) < 9 by omega); have H7 : Hid (Own E _ (Hp.blk w1.heap.size TOKT (tokC z b c s d f e g ⟨#[]⟩).toArray :: Hp.xrd (w.heap.size + 1 + 1) s7 :: Hp.blk (w.heap.size + 1) TOKT (tokC 0 0 0 ⟨#[]⟩ 0 false 0 0 ⟨#[]⟩).toArray :: Hp.blk w.heap.size ITT #[.string k, .string v] :: L)) := Lib.hid hs; clear h hs)
        | ((with_reducible refine (K8.out _ _ H7.out.f1).mono ?_); clear K8 H7; rintro ev w2 ⟨rfl, h⟩; obtain ⟨⟨old8, ho8⟩, hf8, hs⟩ := h.f1.put1 8 (.string r) (show (8 : Nat) < 9 by omega); have H8 : Hid (Own E _ (Hp.blk w1.heap.size TOKT (tokC z b c s d f e g r).toArray :: Hp.xrd (w.heap.size + 1 + 1) s8 :: Hp.blk (w.heap.size + 1) TOKT (tokC 0 0 0 ⟨#[]⟩ 0 false 0 0 ⟨#[]⟩).toArray :: Hp.blk w.heap.size ITT #[.string k, .string v] :: L)) := Lib.hid hs; clear h hs)
        | (with_reducible refine at_slot (k := some 43) ?_; refine wpList_load_arr (o := ⟨some 43, _, _, _, _, _⟩) H8.out 0 (tokC z b c s d f e g r) (fun jj u hu => by simpa using hu) hd hrow (by kernel_rfl) rfl rfl rfl ?_)
        | ((with_reducible refine (KPR.out _ _ H8.out).mono ?_); clear KPR H8; rintro ev w2 ⟨rfl, h⟩; have H3 := Lib.hid (h.alloc (.cells #[.string x1, .string x2] ITT)); clear h; have p0 := H3.out.f4.cell 0; have p1 := H3.out.f4.cell 1; simp only [List.getElem?_toArray, List.getElem?_cons_zero, List.getElem?_cons_succ] at p0 p1)
        | ((with_reducible refine (KSM.out _ _ _ _ _ _ H3.out).mono ?_); clear KSM H3; rintro ev w2 ⟨rfl, h⟩; have H3 := Lib.hid h; clear h p0 p1)
        | (with_reducible refine at_slot (k := some 57) ?_; refine wpList_load_arr (o := ⟨some 57, _, _, _, _, _⟩) H3.out.f1 0 (tokC z b c s d f e g r) (fun jj u hu => by simpa using hu) hd hrow (by kernel_rfl) rfl rfl rfl ?_)
        | (with_reducible refine at_slot (k := none) ?_; refine wpList_store_whole (o := ⟨none, _, _, _, _, _⟩) (cs := (tokC 0 0 0 ⟨#[]⟩ 0 false 0 0 ⟨#[]⟩)) (vs := (tokC z b c s d f e g r)) H3.out.f3 rfl (tok_one _ _ _ _ _ _ _ _ _) (by kernel_rfl) rfl rfl rfl rfl ?_; clear H3; intro w7 h; have H8 := Lib.hid h; clear h))
      refine bodyPost_ret (results_ct rfl rfl H8.out hd hrow (by kernel_rfl)) rfl ?_
      exact ⟨.inl ⟨z, b, c, s, d, f, e, g, r, rfl, HY.out⟩, H8.out.drop.drop.drop.drop.drop⟩
    · have HN : Hid (∀ (a : Int) (b : Int) (c : Int) (s : ByteArray) (d : Int) (f : Bool) (e : Int) (g : Int) (r : ByteArray), (tokR a b c s d f e g r) ≠ (k, v, 0)) := Lib.hid fun ya yb yc ys yd yf ye yg yr hr => by
        have := HNO.out ya yb yc ys yd yf ye yg yr hr
        injection this with a b
        injection b with b c
        exact hx ⟨a.symm, b.symm⟩
      have hb : (decide (k = x1) && decide (v = x2)) = false := by
        rw [← Bool.not_eq_true, Bool.and_eq_true, decide_eq_true_eq, decide_eq_true_eq]; exact hx
      clear hx HRR HNO
      go_enter Tryz.func51, Tryz.ntmps51
      go_wp2_with (first
        | (refine (KA.out _ _ H00.out).mono ?_; clear KA H00; rintro ev w1 ⟨rfl, h⟩; have H0 : Hid (Own E _ (Hp.blk w1.heap.size TOKT (tokC z 0 0 ⟨#[]⟩ 0 false 0 0 ⟨#[]⟩).toArray :: Hp.xrd (w.heap.size + 1 + 1) v :: Hp.blk (w.heap.size + 1) TOKT (tokC 0 0 0 ⟨#[]⟩ 0 false 0 0 ⟨#[]⟩).toArray :: Hp.blk w.heap.size ITT #[.string k, .string v] :: L)) := Lib.hid (h.alloc (.cells #[.int .i64 z, .int .i64 0, .int .i64 0, .string ⟨#[]⟩, .int .i64 0, .bool false, .int .i64 0, .int .i64 0, .string ⟨#[]⟩] TOKT)); clear h)
        | ((with_reducible refine (K1.out _ _ H0.out.f1).mono ?_); clear K1 H0; rintro ev w2 ⟨rfl, h⟩; obtain ⟨⟨old1, ho1⟩, hf1, hs⟩ := h.f1.put1 1 (.int .i64 b) (show (1 : Nat) < 9 by omega); have H1 : Hid (Own E _ (Hp.blk w1.heap.size TOKT (tokC z b 0 ⟨#[]⟩ 0 false 0 0 ⟨#[]⟩).toArray :: Hp.xrd (w.heap.size + 1 + 1) s1 :: Hp.blk (w.heap.size + 1) TOKT (tokC 0 0 0 ⟨#[]⟩ 0 false 0 0 ⟨#[]⟩).toArray :: Hp.blk w.heap.size ITT #[.string k, .string v] :: L)) := Lib.hid hs; clear h hs)
        | ((with_reducible refine (K2.out _ _ H1.out.f1).mono ?_); clear K2 H1; rintro ev w2 ⟨rfl, h⟩; obtain ⟨⟨old2, ho2⟩, hf2, hs⟩ := h.f1.put1 2 (.int .i64 c) (show (2 : Nat) < 9 by omega); have H2 : Hid (Own E _ (Hp.blk w1.heap.size TOKT (tokC z b c ⟨#[]⟩ 0 false 0 0 ⟨#[]⟩).toArray :: Hp.xrd (w.heap.size + 1 + 1) s2 :: Hp.blk (w.heap.size + 1) TOKT (tokC 0 0 0 ⟨#[]⟩ 0 false 0 0 ⟨#[]⟩).toArray :: Hp.blk w.heap.size ITT #[.string k, .string v] :: L)) := Lib.hid hs; clear h hs)
        | ((with_reducible refine (K3.out _ _ H2.out.f1).mono ?_); clear K3 H2; rintro ev w2 ⟨rfl, h⟩; obtain ⟨⟨old3, ho3⟩, hf3, hs⟩ := h.f1.put1 3 (.string s) (show (3 : Nat) < 9 by omega); have H3 : Hid (Own E _ (Hp.blk w1.heap.size TOKT (tokC z b c s 0 false 0 0 ⟨#[]⟩).toArray :: Hp.xrd (w.heap.size + 1 + 1) s3 :: Hp.blk (w.heap.size + 1) TOKT (tokC 0 0 0 ⟨#[]⟩ 0 false 0 0 ⟨#[]⟩).toArray :: Hp.blk w.heap.size ITT #[.string k, .string v] :: L)) := Lib.hid hs; clear h hs)
        | ((with_reducible refine (K4.out _ _ H3.out.f1).mono ?_); clear K4 H3; rintro ev w2 ⟨rfl, h⟩; obtain ⟨⟨old4, ho4⟩, hf4, hs⟩ := h.f1.put1 4 (.int .i64 d) (show (4 : Nat) < 9 by omega); have H4 : Hid (Own E _ (Hp.blk w1.heap.size TOKT (tokC z b c s d false 0 0 ⟨#[]⟩).toArray :: Hp.xrd (w.heap.size + 1 + 1) s4 :: Hp.blk (w.heap.size + 1) TOKT (tokC 0 0 0 ⟨#[]⟩ 0 false 0 0 ⟨#[]⟩).toArray :: Hp.blk w.heap.size ITT #[.string k, .string v] :: L)) := Lib.hid hs; clear h hs)
        | ((with_reducible refine (K5.out _ _ H4.out.f1).mono ?_); clear K5 H4; rintro ev w2 ⟨rfl, h⟩; obtain ⟨⟨old5, ho5⟩, hf5, hs⟩ := h.f1.put1 5 (.bool f) (show (5 : Nat) < 9 by omega); have H5 : Hid (Own E _ (Hp.blk w1.heap.size TOKT (tokC z b c s d f 0 0 ⟨#[]⟩).toArray :: Hp.xrd (w.heap.size + 1 + 1) s5 :: Hp.blk (w.heap.size + 1) TOKT (tokC 0 0 0 ⟨#[]⟩ 0 false 0 0 ⟨#[]⟩).toArray :: Hp.blk w.heap.size ITT #[.string k, .string v] :: L)) := Lib.hid hs; clear h hs)
        | ((with_reducible refine (K6.out _ _ H5.out.f1).mono ?_); clear K6 H5; rintro ev w2 ⟨rfl, h⟩; obtain ⟨⟨old6, ho6⟩, hf6, hs⟩ := h.f1.put1 6 (.int .i64 e) (show (6 : Nat) < 9 by omega); have H6 : Hid (Own E _ (Hp.blk w1.heap.size TOKT (tokC z b c s d f e 0 ⟨#[]⟩).toArray :: Hp.xrd (w.heap.size + 1 + 1) s6 :: Hp.blk (w.heap.size + 1) TOKT (tokC 0 0 0 ⟨#[]⟩ 0 false 0 0 ⟨#[]⟩).toArray :: Hp.blk w.heap.size ITT #[.string k, .string v] :: L)) := Lib.hid hs; clear h hs)
        | ((with_reducible refine (K7.out _ _ H6.out.f1).mono ?_); clear K7 H6; rintro ev w2 ⟨rfl, h⟩; obtain ⟨⟨old7, ho7⟩, hf7, hs⟩ := h.f1.put1 7 (.int .i64 g) (show (7 : Nat) < 9 by omega); have H7 : Hid (Own E _ (Hp.blk w1.heap.size TOKT (tokC z b c s d f e g ⟨#[]⟩).toArray :: Hp.xrd (w.heap.size + 1 + 1) s7 :: Hp.blk (w.heap.size + 1) TOKT (tokC 0 0 0 ⟨#[]⟩ 0 false 0 0 ⟨#[]⟩).toArray :: Hp.blk w.heap.size ITT #[.string k, .string v] :: L)) := Lib.hid hs; clear h hs)
        | ((with_reducible refine (K8.out _ _ H7.out.f1).mono ?_); clear K8 H7; rintro ev w2 ⟨rfl, h⟩; obtain ⟨⟨old8, ho8⟩, hf8, hs⟩ := h.f1.put1 8 (.string r) (show (8 : Nat) < 9 by omega); have H8 : Hid (Own E _ (Hp.blk w1.heap.size TOKT (tokC z b c s d f e g r).toArray :: Hp.xrd (w.heap.size + 1 + 1) s8 :: Hp.blk (w.heap.size + 1) TOKT (tokC 0 0 0 ⟨#[]⟩ 0 false 0 0 ⟨#[]⟩).toArray :: Hp.blk w.heap.size ITT #[.string k, .string v] :: L)) := Lib.hid hs; clear h hs)
        | (with_reducible refine at_slot (k := some 43) ?_; refine wpList_load_arr (o := ⟨some 43, _, _, _, _, _⟩) H8.out 0 (tokC z b c s d f e g r) (fun jj u hu => by simpa using hu) hd hrow (by kernel_rfl) rfl rfl rfl ?_)
        | ((with_reducible refine (KPR.out _ _ H8.out).mono ?_); clear KPR H8; rintro ev w2 ⟨rfl, h⟩; have H3 := Lib.hid (h.alloc (.cells #[.string x1, .string x2] ITT)); clear h; have p0 := H3.out.f4.cell 0; have p1 := H3.out.f4.cell 1; simp only [List.getElem?_toArray, List.getElem?_cons_zero, List.getElem?_cons_succ] at p0 p1)
        | ((with_reducible refine (KSM.out _ _ _ _ _ _ H3.out).mono ?_); clear KSM H3; rintro ev w2 ⟨rfl, h⟩; have H3 := Lib.hid h; clear h p0 p1)
        | (with_reducible refine at_slot (k := some 57) ?_; refine wpList_load_arr (o := ⟨some 57, _, _, _, _, _⟩) H3.out.f1 0 (tokC z b c s d f e g r) (fun jj u hu => by simpa using hu) hd hrow (by kernel_rfl) rfl rfl rfl ?_)
        | (with_reducible refine at_slot (k := none) ?_; refine wpList_store_whole (o := ⟨none, _, _, _, _, _⟩) (cs := (tokC 0 0 0 ⟨#[]⟩ 0 false 0 0 ⟨#[]⟩)) (vs := (tokC 0 0 0 ⟨#[]⟩ 0 false 0 0 ⟨#[]⟩)) H3.out.f3 rfl (tok_one _ _ _ _ _ _ _ _ _) (by kernel_rfl) rfl rfl rfl rfl ?_; clear H3; intro w7 h; have H8 := Lib.hid h; clear h))
      refine bodyPost_ret (results_ct rfl rfl H8.out hd hrow (by kernel_rfl)) rfl ?_
      exact ⟨.inr ⟨rfl, HN.out⟩, H8.out.drop.drop.drop.drop.drop⟩
  · have HN : Hid (∀ (a : Int) (b : Int) (c : Int) (s : ByteArray) (d : Int) (f : Bool) (e : Int) (g : Int) (r : ByteArray), (tokR a b c s d f e g r) ≠ (k, v, 0)) := Lib.hid fun ya yb yc ys yd yf ye yg yr hr => by
      have := HNO.out ya yb yc ys yd yf ye yg yr hr
      injection this with a b
      injection b with b c
      exact he c
    have hz : (er != 0) = true := by rw [bne_iff_ne]; exact he
    clear he HRR HNO
    go_enter Tryz.func51, Tryz.ntmps51
    go_wp2_with (first
      | (refine (KA.out _ _ H00.out).mono ?_; clear KA H00; rintro ev w1 ⟨rfl, h⟩; have H0 : Hid (Own E _ (Hp.blk w1.heap.size TOKT (tokC z 0 0 ⟨#[]⟩ 0 false 0 0 ⟨#[]⟩).toArray :: Hp.xrd (w.heap.size + 1 + 1) v :: Hp.blk (w.heap.size + 1) TOKT (tokC 0 0 0 ⟨#[]⟩ 0 false 0 0 ⟨#[]⟩).toArray :: Hp.blk w.heap.size ITT #[.string k, .string v] :: L)) := Lib.hid (h.alloc (.cells #[.int .i64 z, .int .i64 0, .int .i64 0, .string ⟨#[]⟩, .int .i64 0, .bool false, .int .i64 0, .int .i64 0, .string ⟨#[]⟩] TOKT)); clear h)
      | ((with_reducible refine (K1.out _ _ H0.out.f1).mono ?_); clear K1 H0; rintro ev w2 ⟨rfl, h⟩; obtain ⟨⟨old1, ho1⟩, hf1, hs⟩ := h.f1.put1 1 (.int .i64 b) (show (1 : Nat) < 9 by omega); have H1 : Hid (Own E _ (Hp.blk w1.heap.size TOKT (tokC z b 0 ⟨#[]⟩ 0 false 0 0 ⟨#[]⟩).toArray :: Hp.xrd (w.heap.size + 1 + 1) s1 :: Hp.blk (w.heap.size + 1) TOKT (tokC 0 0 0 ⟨#[]⟩ 0 false 0 0 ⟨#[]⟩).toArray :: Hp.blk w.heap.size ITT #[.string k, .string v] :: L)) := Lib.hid hs; clear h hs)
      | ((with_reducible refine (K2.out _ _ H1.out.f1).mono ?_); clear K2 H1; rintro ev w2 ⟨rfl, h⟩; obtain ⟨⟨old2, ho2⟩, hf2, hs⟩ := h.f1.put1 2 (.int .i64 c) (show (2 : Nat) < 9 by omega); have H2 : Hid (Own E _ (Hp.blk w1.heap.size TOKT (tokC z b c ⟨#[]⟩ 0 false 0 0 ⟨#[]⟩).toArray :: Hp.xrd (w.heap.size + 1 + 1) s2 :: Hp.blk (w.heap.size + 1) TOKT (tokC 0 0 0 ⟨#[]⟩ 0 false 0 0 ⟨#[]⟩).toArray :: Hp.blk w.heap.size ITT #[.string k, .string v] :: L)) := Lib.hid hs; clear h hs)
      | ((with_reducible refine (K3.out _ _ H2.out.f1).mono ?_); clear K3 H2; rintro ev w2 ⟨rfl, h⟩; obtain ⟨⟨old3, ho3⟩, hf3, hs⟩ := h.f1.put1 3 (.string s) (show (3 : Nat) < 9 by omega); have H3 : Hid (Own E _ (Hp.blk w1.heap.size TOKT (tokC z b c s 0 false 0 0 ⟨#[]⟩).toArray :: Hp.xrd (w.heap.size + 1 + 1) s3 :: Hp.blk (w.heap.size + 1) TOKT (tokC 0 0 0 ⟨#[]⟩ 0 false 0 0 ⟨#[]⟩).toArray :: Hp.blk w.heap.size ITT #[.string k, .string v] :: L)) := Lib.hid hs; clear h hs)
      | ((with_reducible refine (K4.out _ _ H3.out.f1).mono ?_); clear K4 H3; rintro ev w2 ⟨rfl, h⟩; obtain ⟨⟨old4, ho4⟩, hf4, hs⟩ := h.f1.put1 4 (.int .i64 d) (show (4 : Nat) < 9 by omega); have H4 : Hid (Own E _ (Hp.blk w1.heap.size TOKT (tokC z b c s d false 0 0 ⟨#[]⟩).toArray :: Hp.xrd (w.heap.size + 1 + 1) s4 :: Hp.blk (w.heap.size + 1) TOKT (tokC 0 0 0 ⟨#[]⟩ 0 false 0 0 ⟨#[]⟩).toArray :: Hp.blk w.heap.size ITT #[.string k, .string v] :: L)) := Lib.hid hs; clear h hs)
      | ((with_reducible refine (K5.out _ _ H4.out.f1).mono ?_); clear K5 H4; rintro ev w2 ⟨rfl, h⟩; obtain ⟨⟨old5, ho5⟩, hf5, hs⟩ := h.f1.put1 5 (.bool f) (show (5 : Nat) < 9 by omega); have H5 : Hid (Own E _ (Hp.blk w1.heap.size TOKT (tokC z b c s d f 0 0 ⟨#[]⟩).toArray :: Hp.xrd (w.heap.size + 1 + 1) s5 :: Hp.blk (w.heap.size + 1) TOKT (tokC 0 0 0 ⟨#[]⟩ 0 false 0 0 ⟨#[]⟩).toArray :: Hp.blk w.heap.size ITT #[.string k, .string v] :: L)) := Lib.hid hs; clear h hs)
      | ((with_reducible refine (K6.out _ _ H5.out.f1).mono ?_); clear K6 H5; rintro ev w2 ⟨rfl, h⟩; obtain ⟨⟨old6, ho6⟩, hf6, hs⟩ := h.f1.put1 6 (.int .i64 e) (show (6 : Nat) < 9 by omega); have H6 : Hid (Own E _ (Hp.blk w1.heap.size TOKT (tokC z b c s d f e 0 ⟨#[]⟩).toArray :: Hp.xrd (w.heap.size + 1 + 1) s6 :: Hp.blk (w.heap.size + 1) TOKT (tokC 0 0 0 ⟨#[]⟩ 0 false 0 0 ⟨#[]⟩).toArray :: Hp.blk w.heap.size ITT #[.string k, .string v] :: L)) := Lib.hid hs; clear h hs)
      | ((with_reducible refine (K7.out _ _ H6.out.f1).mono ?_); clear K7 H6; rintro ev w2 ⟨rfl, h⟩; obtain ⟨⟨old7, ho7⟩, hf7, hs⟩ := h.f1.put1 7 (.int .i64 g) (show (7 : Nat) < 9 by omega); have H7 : Hid (Own E _ (Hp.blk w1.heap.size TOKT (tokC z b c s d f e g ⟨#[]⟩).toArray :: Hp.xrd (w.heap.size + 1 + 1) s7 :: Hp.blk (w.heap.size + 1) TOKT (tokC 0 0 0 ⟨#[]⟩ 0 false 0 0 ⟨#[]⟩).toArray :: Hp.blk w.heap.size ITT #[.string k, .string v] :: L)) := Lib.hid hs; clear h hs)
      | ((with_reducible refine (K8.out _ _ H7.out.f1).mono ?_); clear K8 H7; rintro ev w2 ⟨rfl, h⟩; obtain ⟨⟨old8, ho8⟩, hf8, hs⟩ := h.f1.put1 8 (.string r) (show (8 : Nat) < 9 by omega); have H8 : Hid (Own E _ (Hp.blk w1.heap.size TOKT (tokC z b c s d f e g r).toArray :: Hp.xrd (w.heap.size + 1 + 1) s8 :: Hp.blk (w.heap.size + 1) TOKT (tokC 0 0 0 ⟨#[]⟩ 0 false 0 0 ⟨#[]⟩).toArray :: Hp.blk w.heap.size ITT #[.string k, .string v] :: L)) := Lib.hid hs; clear h hs)
      | (with_reducible refine at_slot (k := some 43) ?_; refine wpList_load_arr (o := ⟨some 43, _, _, _, _, _⟩) H8.out 0 (tokC z b c s d f e g r) (fun jj u hu => by simpa using hu) hd hrow (by kernel_rfl) rfl rfl rfl ?_)
      | ((with_reducible refine (KPR.out _ _ H8.out).mono ?_); clear KPR H8; rintro ev w2 ⟨rfl, h⟩; have H3 := Lib.hid (h.alloc (.cells #[.string x1, .string x2] ITT)); clear h; have p0 := H3.out.f4.cell 0; have p1 := H3.out.f4.cell 1; simp only [List.getElem?_toArray, List.getElem?_cons_zero, List.getElem?_cons_succ] at p0 p1)
      | ((with_reducible refine (KSM.out _ _ _ _ _ _ H3.out).mono ?_); clear KSM H3; rintro ev w2 ⟨rfl, h⟩; have H3 := Lib.hid h; clear h p0 p1)
      | (with_reducible refine at_slot (k := some 57) ?_; refine wpList_load_arr (o := ⟨some 57, _, _, _, _, _⟩) H3.out.f1 0 (tokC z b c s d f e g r) (fun jj u hu => by simpa using hu) hd hrow (by kernel_rfl) rfl rfl rfl ?_)
      | (with_reducible refine at_slot (k := none) ?_; refine wpList_store_whole (o := ⟨none, _, _, _, _, _⟩) (cs := (tokC 0 0 0 ⟨#[]⟩ 0 false 0 0 ⟨#[]⟩)) (vs := (tokC 0 0 0 ⟨#[]⟩ 0 false 0 0 ⟨#[]⟩)) H3.out.f3 rfl (tok_one _ _ _ _ _ _ _ _ _) (by kernel_rfl) rfl rfl rfl rfl ?_; clear H3; intro w7 h; have H8 := Lib.hid h; clear h))
    refine bodyPost_ret (results_ct rfl rfl H8.out hd hrow (by kernel_rfl)) rfl ?_
    exact ⟨.inr ⟨rfl, HN.out⟩, H8.out.drop.drop.drop.drop.drop⟩
end
/- key -/
theorem key_xreads {g : Int} {s : ByteArray} {a : Int} {b : Int} {k v : ByteArray} (h : (keyR g s a b) = (k, v, 0)) : xafterV k = g ∧ xL keyKs v = [.s s, .n a, .n b] := by
  by_cases hm : keyMay g s a b
  · unfold keyR at h
    rw [if_pos hm] at h
    injection h with h1 h2
    injection h2 with h2 h3
    refine ⟨?_, ?_⟩
    · rw [← h1]
      have c1 := hm.1
      exact xafter_key 107 4 g (by omega) (by omega) (by omega) (by show g < (256 : Int) ^ 4; omega) (by omega)
    · rw [← h2]
      have hh := xL_printed (key_fits 0 _ _ _ _ hm)
      rw [key_printed 0 _ _ _ _ hm] at hh
      exact hh
  · unfold keyR at h
    rw [if_neg hm] at h
    injection h with h1 h2
    injection h2 with h2 h3
    cases h3
section
variable {E : World} {L : List Hp}
set_option maxRecDepth 20000 in
set_option maxHeartbeats 16000000 in
theorem xparsekey_any (k v : ByteArray) (w : World) (hk : k.size ≤ 1000000000000000) (h : Own E w L) :
    Calls Tryz.prog 52 #[.agg #[.string k, .string v]] w fun ev w' => ((∃ (g : Int) (s : ByteArray) (a : Int) (b : Int), ev = .returned (.tuple #[.agg [.int .i64 g, .string s, .int .i64 a, .int .i64 b].toArray, .int .i64 0]) ∧ (keyR g s a b) = (k, v, 0)) ∨
      (ev = .returned (.tuple #[.agg [.int .i64 0, .string noB, .int .i64 0, .int .i64 0].toArray, .int .i64 141]) ∧ ∀ (g : Int) (s : ByteArray) (a : Int) (b : Int), (keyR g s a b) ≠ (k, v, 0))) ∧ Own E w' L := by
  have h1 := h.alloc (.cells #[.string k, .string v] ITT)
  have h2 := h1.alloc (.cells [.int .i64 0, .string ⟨#[]⟩, .int .i64 0, .int .i64 0].toArray KEYT)
  have h3 := h2.alloc (.cells #[.string v, .bool false] RDT)
  rw [alloc_size, alloc_size] at h3
  have H00 := Lib.hid (show Own E _ (Hp.xrd (w.heap.size + 1 + 1) v :: Hp.blk (w.heap.size + 1) KEYT [.int .i64 0, .string ⟨#[]⟩, .int .i64 0, .int .i64 0].toArray :: Hp.blk w.heap.size ITT #[.string k, .string v] :: L) from Own.ex.2 ⟨false, h3⟩)
  obtain ⟨z, hz⟩ : ∃ z, z = xafterV k := ⟨_, rfl⟩
  obtain ⟨dd, hd, hrow⟩ := keyt_u
  obtain ⟨s, s1, hx1, hb1⟩ := xF_raw 24 v
  obtain ⟨a, s2, hx2⟩ := xF_num 6 s1
  obtain ⟨b, s3, hx3⟩ := xF_num 6 s2
  have hl : xL keyKs v = [.s s, .n a, .n b] := by
    simp only [keyKs, xL, hx1, hx2, hx3]
  have HNO : Hid (∀ (yg : Int) (ys : ByteArray) (ya : Int) (yb : Int), (keyR yg ys ya yb) = (k, v, 0) → (keyR z s a b) = (k, v, 0)) := Lib.hid fun yg ys ya yb hr => by
    have ee := key_xreads hr
    obtain ⟨e1, e2⟩ := ee
    rw [← hz] at e1
    rw [hl] at e2
    simp only [List.cons.injEq, Fv.s.injEq, Fv.n.injEq, and_true] at e2
    obtain rfl := e1
    obtain ⟨rfl, rfl, rfl⟩ := e2
    exact hr
  have KA : Hid (∀ w M, Own E w M → Calls Tryz.prog 95 #[.string k] w fun e w' => e = .returned (.int .i64 z) ∧ Own E w' M) := Lib.hid fun w M h => by
    rw [hz]
    exact xafter_any k w hk h
  have K1 : Hid (∀ wq M, Own E wq (Hp.xrd (w.heap.size + 1 + 1) v :: M) → Calls Tryz.prog 98 #[.pointer (some ⟨(w.heap.size + 1 + 1), 0, none⟩), .int .i64 24] wq fun ev w' => ev = .returned (.string s) ∧ Own E w' (Hp.xrd (w.heap.size + 1 + 1) s1 :: M)) := Lib.hid fun w M h => xFraw _ hx1 w h
  have K2 : Hid (∀ wq M, Own E wq (Hp.xrd (w.heap.size + 1 + 1) s1 :: M) → Calls Tryz.prog 99 #[.pointer (some ⟨(w.heap.size + 1 + 1), 0, none⟩), .int .i64 6] wq fun ev w' => ev = .returned (.int .i64 a) ∧ Own E w' (Hp.xrd (w.heap.size + 1 + 1) s2 :: M)) := Lib.hid fun w M h => xFnum _ (by omega) hx2 w h
  have K3 : Hid (∀ wq M, Own E wq (Hp.xrd (w.heap.size + 1 + 1) s2 :: M) → Calls Tryz.prog 99 #[.pointer (some ⟨(w.heap.size + 1 + 1), 0, none⟩), .int .i64 6] wq fun ev w' => ev = .returned (.int .i64 b) ∧ Own E w' (Hp.xrd (w.heap.size + 1 + 1) s3 :: M)) := Lib.hid fun w M h => xFnum _ (by omega) hx3 w h
  have KPR : Hid (∀ (w : World) (M : List Hp), Own E w M → Calls Tryz.prog 17 #[.agg [.int .i64 z, .string s, .int .i64 a, .int .i64 b].toArray] w fun ev w' => ev = .returned (.tuple #[.agg #[.string (keyR z s a b).1, .string (keyR z s a b).2.1], .int .i64 (keyR z s a b).2.2]) ∧ Own E w' M) := Lib.hid fun w M h => xprintkey_any z s a b w  h
  have KSM := Lib.hid (fun (a b c d : ByteArray) (w : World) (M : List Hp) h => xsame_any (E := E) (L := M) a b c d w h)
  clear h h1 h2 h3 hx1 hx2 hx3 hb1 hl hz hk
  obtain ⟨x1, x2, er, hpr⟩ : ∃ x1 x2 er, (keyR z s a b) = (x1, x2, er) := ⟨_, _, _, rfl⟩
  rw [hpr] at KPR HNO
  have HRR := Lib.hid hpr
  clear hpr
  by_cases he : er = 0
  · subst he
    by_cases hx : k = x1 ∧ v = x2
    · have HY : Hid ((keyR z s a b) = (k, v, 0)) := Lib.hid (by rw [HRR.out, hx.1, hx.2])
      have hb : (decide (k = x1) && decide (v = x2)) = true := by rw [decide_eq_true hx.1, decide_eq_true hx.2]; rfl
      clear hx HRR HNO
      go_enter Tryz.func52, Tryz.ntmps52
      go_wp2_with (first
        | (refine (KA.out _ _ H00.out).mono ?_; clear KA H00; rintro ev w1 ⟨rfl, h⟩; have H0 : Hid (Own E _ (Hp.blk w1.heap.size KEYT [.int .i64 z, .string ⟨#[]⟩, .int .i64 0, .int .i64 0].toArray :: Hp.xrd (w.heap.size + 1 + 1) v :: Hp.blk (w.heap.size + 1) KEYT [.int .i64 0, .string ⟨#[]⟩, .int .i64 0, .int .i64 0].toArray :: Hp.blk w.heap.size ITT #[.string k, .string v] :: L)) := Lib.hid (h.alloc (.cells #[.int .i64 z, .string ⟨#[]⟩, .int .i64 0, .int .i64 0] KEYT)); clear h)
        | ((with_reducible refine (K1.out _ _ H0.out.f1).mono ?_); clear K1 H0; rintro ev w2 ⟨rfl, h⟩; obtain ⟨⟨old1, ho1⟩, hf1, hs⟩ := h.f1.put1 1 (.string s) (show (1 : Nat) < 4 by omega); have H1 : Hid (Own E _ (Hp.blk w1.heap.size KEYT [.int .i64 z, .string s, .int .i64 0, .int .i64 0].toArray :: Hp.xrd (w.heap.size + 1 + 1) s1 :: Hp.blk (w.heap.size + 1) KEYT [.int .i64 0, .string ⟨#[]⟩, .int .i64 0, .int .i64 0].toArray :: Hp.blk w.heap.size ITT #[.string k, .string v] :: L)) := Lib.hid hs; clear h hs)
        | ((with_reducible refine (K2.out _ _ H1.out.f1).mono ?_); clear K2 H1; rintro ev w2 ⟨rfl, h⟩; obtain ⟨⟨old2, ho2⟩, hf2, hs⟩ := h.f1.put1 2 (.int .i64 a) (show (2 : Nat) < 4 by omega); have H2 : Hid (Own E _ (Hp.blk w1.heap.size KEYT [.int .i64 z, .string s, .int .i64 a, .int .i64 0].toArray :: Hp.xrd (w.heap.size + 1 + 1) s2 :: Hp.blk (w.heap.size + 1) KEYT [.int .i64 0, .string ⟨#[]⟩, .int .i64 0, .int .i64 0].toArray :: Hp.blk w.heap.size ITT #[.string k, .string v] :: L)) := Lib.hid hs; clear h hs)
        | ((with_reducible refine (K3.out _ _ H2.out.f1).mono ?_); clear K3 H2; rintro ev w2 ⟨rfl, h⟩; obtain ⟨⟨old3, ho3⟩, hf3, hs⟩ := h.f1.put1 3 (.int .i64 b) (show (3 : Nat) < 4 by omega); have H3 : Hid (Own E _ (Hp.blk w1.heap.size KEYT [.int .i64 z, .string s, .int .i64 a, .int .i64 b].toArray :: Hp.xrd (w.heap.size + 1 + 1) s3 :: Hp.blk (w.heap.size + 1) KEYT [.int .i64 0, .string ⟨#[]⟩, .int .i64 0, .int .i64 0].toArray :: Hp.blk w.heap.size ITT #[.string k, .string v] :: L)) := Lib.hid hs; clear h hs)
        | (with_reducible refine at_slot (k := some 27) ?_; refine wpList_load_arr (o := ⟨some 27, _, _, _, _, _⟩) H3.out 0 [.int .i64 z, .string s, .int .i64 a, .int .i64 b] (fun jj u hu => by simpa using hu) hd hrow (by kernel_rfl) rfl rfl rfl ?_)
        | ((with_reducible refine (KPR.out _ _ H3.out).mono ?_); clear KPR H3; rintro ev w2 ⟨rfl, h⟩; have H3 := Lib.hid (h.alloc (.cells #[.string x1, .string x2] ITT)); clear h; have p0 := H3.out.f4.cell 0; have p1 := H3.out.f4.cell 1; simp only [List.getElem?_toArray, List.getElem?_cons_zero, List.getElem?_cons_succ] at p0 p1)
        | ((with_reducible refine (KSM.out _ _ _ _ _ _ H3.out).mono ?_); clear KSM H3; rintro ev w2 ⟨rfl, h⟩; have H3 := Lib.hid h; clear h p0 p1)
        | (with_reducible refine at_slot (k := some 41) ?_; refine wpList_load_arr (o := ⟨some 41, _, _, _, _, _⟩) H3.out.f1 0 [.int .i64 z, .string s, .int .i64 a, .int .i64 b] (fun jj u hu => by simpa using hu) hd hrow (by kernel_rfl) rfl rfl rfl ?_)
        | (with_reducible refine at_slot (k := none) ?_; refine wpList_store_whole (o := ⟨none, _, _, _, _, _⟩) (cs := [.int .i64 0, .string ⟨#[]⟩, .int .i64 0, .int .i64 0]) (vs := [.int .i64 z, .string s, .int .i64 a, .int .i64 b]) H3.out.f3 rfl (key_one _ _ _ _) (by kernel_rfl) rfl rfl rfl rfl ?_; clear H3; intro w7 h; have H8 := Lib.hid h; clear h))
      refine bodyPost_ret (results_ct rfl rfl H8.out hd hrow (by kernel_rfl)) rfl ?_
      exact ⟨.inl ⟨z, s, a, b, rfl, HY.out⟩, H8.out.drop.drop.drop.drop.drop⟩
    · have HN : Hid (∀ (g : Int) (s : ByteArray) (a : Int) (b : Int), (keyR g s a b) ≠ (k, v, 0)) := Lib.hid fun yg ys ya yb hr => by
        have := HNO.out yg ys ya yb hr
        injection this with a b
        injection b with b c
        exact hx ⟨a.symm, b.symm⟩
      have hb : (decide (k = x1) && decide (v = x2)) = false := by
        rw [← Bool.not_eq_true, Bool.and_eq_true, decide_eq_true_eq, decide_eq_true_eq]; exact hx
      clear hx HRR HNO
      go_enter Tryz.func52, Tryz.ntmps52
      go_wp2_with (first
        | (refine (KA.out _ _ H00.out).mono ?_; clear KA H00; rintro ev w1 ⟨rfl, h⟩; have H0 : Hid (Own E _ (Hp.blk w1.heap.size KEYT [.int .i64 z, .string ⟨#[]⟩, .int .i64 0, .int .i64 0].toArray :: Hp.xrd (w.heap.size + 1 + 1) v :: Hp.blk (w.heap.size + 1) KEYT [.int .i64 0, .string ⟨#[]⟩, .int .i64 0, .int .i64 0].toArray :: Hp.blk w.heap.size ITT #[.string k, .string v] :: L)) := Lib.hid (h.alloc (.cells #[.int .i64 z, .string ⟨#[]⟩, .int .i64 0, .int .i64 0] KEYT)); clear h)
        | ((with_reducible refine (K1.out _ _ H0.out.f1).mono ?_); clear K1 H0; rintro ev w2 ⟨rfl, h⟩; obtain ⟨⟨old1, ho1⟩, hf1, hs⟩ := h.f1.put1 1 (.string s) (show (1 : Nat) < 4 by omega); have H1 : Hid (Own E _ (Hp.blk w1.heap.size KEYT [.int .i64 z, .string s, .int .i64 0, .int .i64 0].toArray :: Hp.xrd (w.heap.size + 1 + 1) s1 :: Hp.blk (w.heap.size + 1) KEYT [.int .i64 0, .string ⟨#[]⟩, .int .i64 0, .int .i64 0].toArray :: Hp.blk w.heap.size ITT #[.string k, .string v] :: L)) := Lib.hid hs; clear h hs)
        | ((with_reducible refine (K2.out _ _ H1.out.f1).mono ?_); clear K2 H1; rintro ev w2 ⟨rfl, h⟩; obtain ⟨⟨old2, ho2⟩, hf2, hs⟩ := h.f1.put1 2 (.int .i64 a) (show (2 : Nat) < 4 by omega); have H2 : Hid (Own E _ (Hp.blk w1.heap.size KEYT [.int .i64 z, .string s, .int .i64 a, .int .i64 0].toArray :: Hp.xrd (w.heap.size + 1 + 1) s2 :: Hp.blk (w.heap.size + 1) KEYT [.int .i64 0, .string ⟨#[]⟩, .int .i64 0, .int .i64 0].toArray :: Hp.blk w.heap.size ITT #[.string k, .string v] :: L)) := Lib.hid hs; clear h hs)
        | ((with_reducible refine (K3.out _ _ H2.out.f1).mono ?_); clear K3 H2; rintro ev w2 ⟨rfl, h⟩; obtain ⟨⟨old3, ho3⟩, hf3, hs⟩ := h.f1.put1 3 (.int .i64 b) (show (3 : Nat) < 4 by omega); have H3 : Hid (Own E _ (Hp.blk w1.heap.size KEYT [.int .i64 z, .string s, .int .i64 a, .int .i64 b].toArray :: Hp.xrd (w.heap.size + 1 + 1) s3 :: Hp.blk (w.heap.size + 1) KEYT [.int .i64 0, .string ⟨#[]⟩, .int .i64 0, .int .i64 0].toArray :: Hp.blk w.heap.size ITT #[.string k, .string v] :: L)) := Lib.hid hs; clear h hs)
        | (with_reducible refine at_slot (k := some 27) ?_; refine wpList_load_arr (o := ⟨some 27, _, _, _, _, _⟩) H3.out 0 [.int .i64 z, .string s, .int .i64 a, .int .i64 b] (fun jj u hu => by simpa using hu) hd hrow (by kernel_rfl) rfl rfl rfl ?_)
        | ((with_reducible refine (KPR.out _ _ H3.out).mono ?_); clear KPR H3; rintro ev w2 ⟨rfl, h⟩; have H3 := Lib.hid (h.alloc (.cells #[.string x1, .string x2] ITT)); clear h; have p0 := H3.out.f4.cell 0; have p1 := H3.out.f4.cell 1; simp only [List.getElem?_toArray, List.getElem?_cons_zero, List.getElem?_cons_succ] at p0 p1)
        | ((with_reducible refine (KSM.out _ _ _ _ _ _ H3.out).mono ?_); clear KSM H3; rintro ev w2 ⟨rfl, h⟩; have H3 := Lib.hid h; clear h p0 p1)
        | (with_reducible refine at_slot (k := some 41) ?_; refine wpList_load_arr (o := ⟨some 41, _, _, _, _, _⟩) H3.out.f1 0 [.int .i64 z, .string s, .int .i64 a, .int .i64 b] (fun jj u hu => by simpa using hu) hd hrow (by kernel_rfl) rfl rfl rfl ?_)
        | (with_reducible refine at_slot (k := none) ?_; refine wpList_store_whole (o := ⟨none, _, _, _, _, _⟩) (cs := [.int .i64 0, .string ⟨#[]⟩, .int .i64 0, .int .i64 0]) (vs := [.int .i64 0, .string ⟨#[]⟩, .int .i64 0, .int .i64 0]) H3.out.f3 rfl (key_one _ _ _ _) (by kernel_rfl) rfl rfl rfl rfl ?_; clear H3; intro w7 h; have H8 := Lib.hid h; clear h))
      refine bodyPost_ret (results_ct rfl rfl H8.out hd hrow (by kernel_rfl)) rfl ?_
      exact ⟨.inr ⟨rfl, HN.out⟩, H8.out.drop.drop.drop.drop.drop⟩
  · have HN : Hid (∀ (g : Int) (s : ByteArray) (a : Int) (b : Int), (keyR g s a b) ≠ (k, v, 0)) := Lib.hid fun yg ys ya yb hr => by
      have := HNO.out yg ys ya yb hr
      injection this with a b
      injection b with b c
      exact he c
    have hz : (er != 0) = true := by rw [bne_iff_ne]; exact he
    clear he HRR HNO
    go_enter Tryz.func52, Tryz.ntmps52
    go_wp2_with (first
      | (refine (KA.out _ _ H00.out).mono ?_; clear KA H00; rintro ev w1 ⟨rfl, h⟩; have H0 : Hid (Own E _ (Hp.blk w1.heap.size KEYT [.int .i64 z, .string ⟨#[]⟩, .int .i64 0, .int .i64 0].toArray :: Hp.xrd (w.heap.size + 1 + 1) v :: Hp.blk (w.heap.size + 1) KEYT [.int .i64 0, .string ⟨#[]⟩, .int .i64 0, .int .i64 0].toArray :: Hp.blk w.heap.size ITT #[.string k, .string v] :: L)) := Lib.hid (h.alloc (.cells #[.int .i64 z, .string ⟨#[]⟩, .int .i64 0, .int .i64 0] KEYT)); clear h)
      | ((with_reducible refine (K1.out _ _ H0.out.f1).mono ?_); clear K1 H0; rintro ev w2 ⟨rfl, h⟩; obtain ⟨⟨old1, ho1⟩, hf1, hs⟩ := h.f1.put1 1 (.string s) (show (1 : Nat) < 4 by omega); have H1 : Hid (Own E _ (Hp.blk w1.heap.size KEYT [.int .i64 z, .string s, .int .i64 0, .int .i64 0].toArray :: Hp.xrd (w.heap.size + 1 + 1) s1 :: Hp.blk (w.heap.size + 1) KEYT [.int .i64 0, .string ⟨#[]⟩, .int .i64 0, .int .i64 0].toArray :: Hp.blk w.heap.size ITT #[.string k, .string v] :: L)) := Lib.hid hs; clear h hs)
      | ((with_reducible refine (K2.out _ _ H1.out.f1).mono ?_); clear K2 H1; rintro ev w2 ⟨rfl, h⟩; obtain ⟨⟨old2, ho2⟩, hf2, hs⟩ := h.f1.put1 2 (.int .i64 a) (show (2 : Nat) < 4 by omega); have H2 : Hid (Own E _ (Hp.blk w1.heap.size KEYT [.int .i64 z, .string s, .int .i64 a, .int .i64 0].toArray :: Hp.xrd (w.heap.size + 1 + 1) s2 :: Hp.blk (w.heap.size + 1) KEYT [.int .i64 0, .string ⟨#[]⟩, .int .i64 0, .int .i64 0].toArray :: Hp.blk w.heap.size ITT #[.string k, .string v] :: L)) := Lib.hid hs; clear h hs)
      | ((with_reducible refine (K3.out _ _ H2.out.f1).mono ?_); clear K3 H2; rintro ev w2 ⟨rfl, h⟩; obtain ⟨⟨old3, ho3⟩, hf3, hs⟩ := h.f1.put1 3 (.int .i64 b) (show (3 : Nat) < 4 by omega); have H3 : Hid (Own E _ (Hp.blk w1.heap.size KEYT [.int .i64 z, .string s, .int .i64 a, .int .i64 b].toArray :: Hp.xrd (w.heap.size + 1 + 1) s3 :: Hp.blk (w.heap.size + 1) KEYT [.int .i64 0, .string ⟨#[]⟩, .int .i64 0, .int .i64 0].toArray :: Hp.blk w.heap.size ITT #[.string k, .string v] :: L)) := Lib.hid hs; clear h hs)
      | (with_reducible refine at_slot (k := some 27) ?_; refine wpList_load_arr (o := ⟨some 27, _, _, _, _, _⟩) H3.out 0 [.int .i64 z, .string s, .int .i64 a, .int .i64 b] (fun jj u hu => by simpa using hu) hd hrow (by kernel_rfl) rfl rfl rfl ?_)
      | ((with_reducible refine (KPR.out _ _ H3.out).mono ?_); clear KPR H3; rintro ev w2 ⟨rfl, h⟩; have H3 := Lib.hid (h.alloc (.cells #[.string x1, .string x2] ITT)); clear h; have p0 := H3.out.f4.cell 0; have p1 := H3.out.f4.cell 1; simp only [List.getElem?_toArray, List.getElem?_cons_zero, List.getElem?_cons_succ] at p0 p1)
      | ((with_reducible refine (KSM.out _ _ _ _ _ _ H3.out).mono ?_); clear KSM H3; rintro ev w2 ⟨rfl, h⟩; have H3 := Lib.hid h; clear h p0 p1)
      | (with_reducible refine at_slot (k := some 41) ?_; refine wpList_load_arr (o := ⟨some 41, _, _, _, _, _⟩) H3.out.f1 0 [.int .i64 z, .string s, .int .i64 a, .int .i64 b] (fun jj u hu => by simpa using hu) hd hrow (by kernel_rfl) rfl rfl rfl ?_)
      | (with_reducible refine at_slot (k := none) ?_; refine wpList_store_whole (o := ⟨none, _, _, _, _, _⟩) (cs := [.int .i64 0, .string ⟨#[]⟩, .int .i64 0, .int .i64 0]) (vs := [.int .i64 0, .string ⟨#[]⟩, .int .i64 0, .int .i64 0]) H3.out.f3 rfl (key_one _ _ _ _) (by kernel_rfl) rfl rfl rfl rfl ?_; clear H3; intro w7 h; have H8 := Lib.hid h; clear h))
    refine bodyPost_ret (results_ct rfl rfl H8.out hd hrow (by kernel_rfl)) rfl ?_
    exact ⟨.inr ⟨rfl, HN.out⟩, H8.out.drop.drop.drop.drop.drop⟩
end
/- event -/
theorem event_xreads {i : Int} {t : Int} {q : Int} {j : Int} {s : ByteArray} {k v : ByteArray} (h : (eventR i t q j s) = (k, v, 0)) : xafterV k = i ∧ xL eventKs v = [.n t, .n q, .n j, .s s] := by
  by_cases hm : eventMay i t q j s
  · unfold eventR at h
    rw [if_pos hm] at h
    injection h with h1 h2
    injection h2 with h2 h3
    refine ⟨?_, ?_⟩
    · rw [← h1]
      have c1 := hm.1
      exact xafter_key 101 8 i (by omega) (by omega) (by omega) (by show i < (256 : Int) ^ 8; omega) (by omega)
    · rw [← h2]
      have hh := xL_printed (event_fits 0 _ _ _ _ _ hm)
      rw [event_printed 0 _ _ _ _ _ hm] at hh
      exact hh
  · unfold eventR at h
    rw [if_neg hm] at h
    injection h with h1 h2
    injection h2 with h2 h3
    cases h3
section
variable {E : World} {L : List Hp}
set_option maxRecDepth 20000 in
set_option maxHeartbeats 16000000 in
theorem xparseevent_any (k v : ByteArray) (w : World) (hk : k.size ≤ 1000000000000000) (h : Own E w L) :
    Calls Tryz.prog 53 #[.agg #[.string k, .string v]] w fun ev w' => ((∃ (i : Int) (t : Int) (q : Int) (j : Int) (s : ByteArray), ev = .returned (.tuple #[.agg [.int .i64 i, .int .i64 t, .int .i64 q, .int .i64 j, .string s].toArray, .int .i64 0]) ∧ (eventR i t q j s) = (k, v, 0)) ∨
      (ev = .returned (.tuple #[.agg [.int .i64 0, .int .i64 0, .int .i64 0, .int .i64 0, .string noB].toArray, .int .i64 141]) ∧ ∀ (i : Int) (t : Int) (q : Int) (j : Int) (s : ByteArray), (eventR i t q j s) ≠ (k, v, 0))) ∧ Own E w' L := by
  have h1 := h.alloc (.cells #[.string k, .string v] ITT)
  have h2 := h1.alloc (.cells [.int .i64 0, .int .i64 0, .int .i64 0, .int .i64 0, .string ⟨#[]⟩].toArray EVT)
  have h3 := h2.alloc (.cells #[.string v, .bool false] RDT)
  rw [alloc_size, alloc_size] at h3
  have H00 := Lib.hid (show Own E _ (Hp.xrd (w.heap.size + 1 + 1) v :: Hp.blk (w.heap.size + 1) EVT [.int .i64 0, .int .i64 0, .int .i64 0, .int .i64 0, .string ⟨#[]⟩].toArray :: Hp.blk w.heap.size ITT #[.string k, .string v] :: L) from Own.ex.2 ⟨false, h3⟩)
  obtain ⟨z, hz⟩ : ∃ z, z = xafterV k := ⟨_, rfl⟩
  obtain ⟨dd, hd, hrow⟩ := evt_u
  obtain ⟨t, s1, hx1⟩ := xF_num 6 v
  obtain ⟨q, s2, hx2⟩ := xF_num 1 s1
  obtain ⟨j, s3, hx3⟩ := xF_num 8 s2
  obtain ⟨s, s4, hx4, hb4⟩ := xF_text s3
  have hl : xL eventKs v = [.n t, .n q, .n j, .s s] := by
    simp only [eventKs, xL, hx1, hx2, hx3, hx4]
  have HNO : Hid (∀ (yi : Int) (yt : Int) (yq : Int) (yj : Int) (ys : ByteArray), (eventR yi yt yq yj ys) = (k, v, 0) → (eventR z t q j s) = (k, v, 0)) := Lib.hid fun yi yt yq yj ys hr => by
    have ee := event_xreads hr
    obtain ⟨e1, e2⟩ := ee
    rw [← hz] at e1
    rw [hl] at e2
    simp only [List.cons.injEq, Fv.s.injEq, Fv.n.injEq, and_true] at e2
    obtain rfl := e1
    obtain ⟨rfl, rfl, rfl, rfl⟩ := e2
    exact hr
  have KA : Hid (∀ w M, Own E w M → Calls Tryz.prog 95 #[.string k] w fun e w' => e = .returned (.int .i64 z) ∧ Own E w' M) := Lib.hid fun w M h => by
    rw [hz]
    exact xafter_any k w hk h
  have K1 : Hid (∀ wq M, Own E wq (Hp.xrd (w.heap.size + 1 + 1) v :: M) → Calls Tryz.prog 99 #[.pointer (some ⟨(w.heap.size + 1 + 1), 0, none⟩), .int .i64 6] wq fun ev w' => ev = .returned (.int .i64 t) ∧ Own E w' (Hp.xrd (w.heap.size + 1 + 1) s1 :: M)) := Lib.hid fun w M h => xFnum _ (by omega) hx1 w h
  have K2 : Hid (∀ wq M, Own E wq (Hp.xrd (w.heap.size + 1 + 1) s1 :: M) → Calls Tryz.prog 99 #[.pointer (some ⟨(w.heap.size + 1 + 1), 0, none⟩), .int .i64 1] wq fun ev w' => ev = .returned (.int .i64 q) ∧ Own E w' (Hp.xrd (w.heap.size + 1 + 1) s2 :: M)) := Lib.hid fun w M h => xFnum _ (by omega) hx2 w h
  have K3 : Hid (∀ wq M, Own E wq (Hp.xrd (w.heap.size + 1 + 1) s2 :: M) → Calls Tryz.prog 99 #[.pointer (some ⟨(w.heap.size + 1 + 1), 0, none⟩), .int .i64 8] wq fun ev w' => ev = .returned (.int .i64 j) ∧ Own E w' (Hp.xrd (w.heap.size + 1 + 1) s3 :: M)) := Lib.hid fun w M h => xFnum _ (by omega) hx3 w h
  have K4 : Hid (∀ wq M, Own E wq (Hp.xrd (w.heap.size + 1 + 1) s3 :: M) → Calls Tryz.prog 96 #[.pointer (some ⟨(w.heap.size + 1 + 1), 0, none⟩)] wq fun ev w' => ev = .returned (.string s) ∧ Own E w' (Hp.xrd (w.heap.size + 1 + 1) s4 :: M)) := Lib.hid fun w M h => xFtext _ hx4 w h
  have KPR : Hid (∀ (w : World) (M : List Hp), Own E w M → Calls Tryz.prog 20 #[.agg [.int .i64 z, .int .i64 t, .int .i64 q, .int .i64 j, .string s].toArray] w fun ev w' => ev = .returned (.tuple #[.agg #[.string (eventR z t q j s).1, .string (eventR z t q j s).2.1], .int .i64 (eventR z t q j s).2.2]) ∧ Own E w' M) := Lib.hid fun w M h => xprintevent_any z t q j s w (by omega) h
  have KSM := Lib.hid (fun (a b c d : ByteArray) (w : World) (M : List Hp) h => xsame_any (E := E) (L := M) a b c d w h)
  clear h h1 h2 h3 hx1 hx2 hx3 hx4 hb4 hl hz hk
  obtain ⟨x1, x2, er, hpr⟩ : ∃ x1 x2 er, (eventR z t q j s) = (x1, x2, er) := ⟨_, _, _, rfl⟩
  rw [hpr] at KPR HNO
  have HRR := Lib.hid hpr
  clear hpr
  by_cases he : er = 0
  · subst he
    by_cases hx : k = x1 ∧ v = x2
    · have HY : Hid ((eventR z t q j s) = (k, v, 0)) := Lib.hid (by rw [HRR.out, hx.1, hx.2])
      have hb : (decide (k = x1) && decide (v = x2)) = true := by rw [decide_eq_true hx.1, decide_eq_true hx.2]; rfl
      clear hx HRR HNO
      go_enter Tryz.func53, Tryz.ntmps53
      go_wp2_with (first
        | (refine (KA.out _ _ H00.out).mono ?_; clear KA H00; rintro ev w1 ⟨rfl, h⟩; have H0 : Hid (Own E _ (Hp.blk w1.heap.size EVT [.int .i64 z, .int .i64 0, .int .i64 0, .int .i64 0, .string ⟨#[]⟩].toArray :: Hp.xrd (w.heap.size + 1 + 1) v :: Hp.blk (w.heap.size + 1) EVT [.int .i64 0, .int .i64 0, .int .i64 0, .int .i64 0, .string ⟨#[]⟩].toArray :: Hp.blk w.heap.size ITT #[.string k, .string v] :: L)) := Lib.hid (h.alloc (.cells #[.int .i64 z, .int .i64 0, .int .i64 0, .int .i64 0, .string ⟨#[]⟩] EVT)); clear h)
        | ((with_reducible refine (K1.out _ _ H0.out.f1).mono ?_); clear K1 H0; rintro ev w2 ⟨rfl, h⟩; obtain ⟨⟨old1, ho1⟩, hf1, hs⟩ := h.f1.put1 1 (.int .i64 t) (show (1 : Nat) < 5 by omega); have H1 : Hid (Own E _ (Hp.blk w1.heap.size EVT [.int .i64 z, .int .i64 t, .int .i64 0, .int .i64 0, .string ⟨#[]⟩].toArray :: Hp.xrd (w.heap.size + 1 + 1) s1 :: Hp.blk (w.heap.size + 1) EVT [.int .i64 0, .int .i64 0, .int .i64 0, .int .i64 0, .string ⟨#[]⟩].toArray :: Hp.blk w.heap.size ITT #[.string k, .string v] :: L)) := Lib.hid hs; clear h hs)
        | ((with_reducible refine (K2.out _ _ H1.out.f1).mono ?_); clear K2 H1; rintro ev w2 ⟨rfl, h⟩; obtain ⟨⟨old2, ho2⟩, hf2, hs⟩ := h.f1.put1 2 (.int .i64 q) (show (2 : Nat) < 5 by omega); have H2 : Hid (Own E _ (Hp.blk w1.heap.size EVT [.int .i64 z, .int .i64 t, .int .i64 q, .int .i64 0, .string ⟨#[]⟩].toArray :: Hp.xrd (w.heap.size + 1 + 1) s2 :: Hp.blk (w.heap.size + 1) EVT [.int .i64 0, .int .i64 0, .int .i64 0, .int .i64 0, .string ⟨#[]⟩].toArray :: Hp.blk w.heap.size ITT #[.string k, .string v] :: L)) := Lib.hid hs; clear h hs)
        | ((with_reducible refine (K3.out _ _ H2.out.f1).mono ?_); clear K3 H2; rintro ev w2 ⟨rfl, h⟩; obtain ⟨⟨old3, ho3⟩, hf3, hs⟩ := h.f1.put1 3 (.int .i64 j) (show (3 : Nat) < 5 by omega); have H3 : Hid (Own E _ (Hp.blk w1.heap.size EVT [.int .i64 z, .int .i64 t, .int .i64 q, .int .i64 j, .string ⟨#[]⟩].toArray :: Hp.xrd (w.heap.size + 1 + 1) s3 :: Hp.blk (w.heap.size + 1) EVT [.int .i64 0, .int .i64 0, .int .i64 0, .int .i64 0, .string ⟨#[]⟩].toArray :: Hp.blk w.heap.size ITT #[.string k, .string v] :: L)) := Lib.hid hs; clear h hs)
        | ((with_reducible refine (K4.out _ _ H3.out.f1).mono ?_); clear K4 H3; rintro ev w2 ⟨rfl, h⟩; obtain ⟨⟨old4, ho4⟩, hf4, hs⟩ := h.f1.put1 4 (.string s) (show (4 : Nat) < 5 by omega); have H4 : Hid (Own E _ (Hp.blk w1.heap.size EVT [.int .i64 z, .int .i64 t, .int .i64 q, .int .i64 j, .string s].toArray :: Hp.xrd (w.heap.size + 1 + 1) s4 :: Hp.blk (w.heap.size + 1) EVT [.int .i64 0, .int .i64 0, .int .i64 0, .int .i64 0, .string ⟨#[]⟩].toArray :: Hp.blk w.heap.size ITT #[.string k, .string v] :: L)) := Lib.hid hs; clear h hs)
        | (with_reducible refine at_slot (k := some 30) ?_; refine wpList_load_arr (o := ⟨some 30, _, _, _, _, _⟩) H4.out 0 [.int .i64 z, .int .i64 t, .int .i64 q, .int .i64 j, .string s] (fun jj u hu => by simpa using hu) hd hrow (by kernel_rfl) rfl rfl rfl ?_)
        | ((with_reducible refine (KPR.out _ _ H4.out).mono ?_); clear KPR H4; rintro ev w2 ⟨rfl, h⟩; have H3 := Lib.hid (h.alloc (.cells #[.string x1, .string x2] ITT)); clear h; have p0 := H3.out.f4.cell 0; have p1 := H3.out.f4.cell 1; simp only [List.getElem?_toArray, List.getElem?_cons_zero, List.getElem?_cons_succ] at p0 p1)
        | ((with_reducible refine (KSM.out _ _ _ _ _ _ H3.out).mono ?_); clear KSM H3; rintro ev w2 ⟨rfl, h⟩; have H3 := Lib.hid h; clear h p0 p1)
        | (with_reducible refine at_slot (k := some 44) ?_; refine wpList_load_arr (o := ⟨some 44, _, _, _, _, _⟩) H3.out.f1 0 [.int .i64 z, .int .i64 t, .int .i64 q, .int .i64 j, .string s] (fun jj u hu => by simpa using hu) hd hrow (by kernel_rfl) rfl rfl rfl ?_)
        | (with_reducible refine at_slot (k := none) ?_; refine wpList_store_whole (o := ⟨none, _, _, _, _, _⟩) (cs := [.int .i64 0, .int .i64 0, .int .i64 0, .int .i64 0, .string ⟨#[]⟩]) (vs := [.int .i64 z, .int .i64 t, .int .i64 q, .int .i64 j, .string s]) H3.out.f3 rfl (event_one _ _ _ _ _) (by kernel_rfl) rfl rfl rfl rfl ?_; clear H3; intro w7 h; have H8 := Lib.hid h; clear h))
      refine bodyPost_ret (results_ct rfl rfl H8.out hd hrow (by kernel_rfl)) rfl ?_
      exact ⟨.inl ⟨z, t, q, j, s, rfl, HY.out⟩, H8.out.drop.drop.drop.drop.drop⟩
    · have HN : Hid (∀ (i : Int) (t : Int) (q : Int) (j : Int) (s : ByteArray), (eventR i t q j s) ≠ (k, v, 0)) := Lib.hid fun yi yt yq yj ys hr => by
        have := HNO.out yi yt yq yj ys hr
        injection this with a b
        injection b with b c
        exact hx ⟨a.symm, b.symm⟩
      have hb : (decide (k = x1) && decide (v = x2)) = false := by
        rw [← Bool.not_eq_true, Bool.and_eq_true, decide_eq_true_eq, decide_eq_true_eq]; exact hx
      clear hx HRR HNO
      go_enter Tryz.func53, Tryz.ntmps53
      go_wp2_with (first
        | (refine (KA.out _ _ H00.out).mono ?_; clear KA H00; rintro ev w1 ⟨rfl, h⟩; have H0 : Hid (Own E _ (Hp.blk w1.heap.size EVT [.int .i64 z, .int .i64 0, .int .i64 0, .int .i64 0, .string ⟨#[]⟩].toArray :: Hp.xrd (w.heap.size + 1 + 1) v :: Hp.blk (w.heap.size + 1) EVT [.int .i64 0, .int .i64 0, .int .i64 0, .int .i64 0, .string ⟨#[]⟩].toArray :: Hp.blk w.heap.size ITT #[.string k, .string v] :: L)) := Lib.hid (h.alloc (.cells #[.int .i64 z, .int .i64 0, .int .i64 0, .int .i64 0, .string ⟨#[]⟩] EVT)); clear h)
        | ((with_reducible refine (K1.out _ _ H0.out.f1).mono ?_); clear K1 H0; rintro ev w2 ⟨rfl, h⟩; obtain ⟨⟨old1, ho1⟩, hf1, hs⟩ := h.f1.put1 1 (.int .i64 t) (show (1 : Nat) < 5 by omega); have H1 : Hid (Own E _ (Hp.blk w1.heap.size EVT [.int .i64 z, .int .i64 t, .int .i64 0, .int .i64 0, .string ⟨#[]⟩].toArray :: Hp.xrd (w.heap.size + 1 + 1) s1 :: Hp.blk (w.heap.size + 1) EVT [.int .i64 0, .int .i64 0, .int .i64 0, .int .i64 0, .string ⟨#[]⟩].toArray :: Hp.blk w.heap.size ITT #[.string k, .string v] :: L)) := Lib.hid hs; clear h hs)
        | ((with_reducible refine (K2.out _ _ H1.out.f1).mono ?_); clear K2 H1; rintro ev w2 ⟨rfl, h⟩; obtain ⟨⟨old2, ho2⟩, hf2, hs⟩ := h.f1.put1 2 (.int .i64 q) (show (2 : Nat) < 5 by omega); have H2 : Hid (Own E _ (Hp.blk w1.heap.size EVT [.int .i64 z, .int .i64 t, .int .i64 q, .int .i64 0, .string ⟨#[]⟩].toArray :: Hp.xrd (w.heap.size + 1 + 1) s2 :: Hp.blk (w.heap.size + 1) EVT [.int .i64 0, .int .i64 0, .int .i64 0, .int .i64 0, .string ⟨#[]⟩].toArray :: Hp.blk w.heap.size ITT #[.string k, .string v] :: L)) := Lib.hid hs; clear h hs)
        | ((with_reducible refine (K3.out _ _ H2.out.f1).mono ?_); clear K3 H2; rintro ev w2 ⟨rfl, h⟩; obtain ⟨⟨old3, ho3⟩, hf3, hs⟩ := h.f1.put1 3 (.int .i64 j) (show (3 : Nat) < 5 by omega); have H3 : Hid (Own E _ (Hp.blk w1.heap.size EVT [.int .i64 z, .int .i64 t, .int .i64 q, .int .i64 j, .string ⟨#[]⟩].toArray :: Hp.xrd (w.heap.size + 1 + 1) s3 :: Hp.blk (w.heap.size + 1) EVT [.int .i64 0, .int .i64 0, .int .i64 0, .int .i64 0, .string ⟨#[]⟩].toArray :: Hp.blk w.heap.size ITT #[.string k, .string v] :: L)) := Lib.hid hs; clear h hs)
        | ((with_reducible refine (K4.out _ _ H3.out.f1).mono ?_); clear K4 H3; rintro ev w2 ⟨rfl, h⟩; obtain ⟨⟨old4, ho4⟩, hf4, hs⟩ := h.f1.put1 4 (.string s) (show (4 : Nat) < 5 by omega); have H4 : Hid (Own E _ (Hp.blk w1.heap.size EVT [.int .i64 z, .int .i64 t, .int .i64 q, .int .i64 j, .string s].toArray :: Hp.xrd (w.heap.size + 1 + 1) s4 :: Hp.blk (w.heap.size + 1) EVT [.int .i64 0, .int .i64 0, .int .i64 0, .int .i64 0, .string ⟨#[]⟩].toArray :: Hp.blk w.heap.size ITT #[.string k, .string v] :: L)) := Lib.hid hs; clear h hs)
        | (with_reducible refine at_slot (k := some 30) ?_; refine wpList_load_arr (o := ⟨some 30, _, _, _, _, _⟩) H4.out 0 [.int .i64 z, .int .i64 t, .int .i64 q, .int .i64 j, .string s] (fun jj u hu => by simpa using hu) hd hrow (by kernel_rfl) rfl rfl rfl ?_)
        | ((with_reducible refine (KPR.out _ _ H4.out).mono ?_); clear KPR H4; rintro ev w2 ⟨rfl, h⟩; have H3 := Lib.hid (h.alloc (.cells #[.string x1, .string x2] ITT)); clear h; have p0 := H3.out.f4.cell 0; have p1 := H3.out.f4.cell 1; simp only [List.getElem?_toArray, List.getElem?_cons_zero, List.getElem?_cons_succ] at p0 p1)
        | ((with_reducible refine (KSM.out _ _ _ _ _ _ H3.out).mono ?_); clear KSM H3; rintro ev w2 ⟨rfl, h⟩; have H3 := Lib.hid h; clear h p0 p1)
        | (with_reducible refine at_slot (k := some 44) ?_; refine wpList_load_arr (o := ⟨some 44, _, _, _, _, _⟩) H3.out.f1 0 [.int .i64 z, .int .i64 t, .int .i64 q, .int .i64 j, .string s] (fun jj u hu => by simpa using hu) hd hrow (by kernel_rfl) rfl rfl rfl ?_)
        | (with_reducible refine at_slot (k := none) ?_; refine wpList_store_whole (o := ⟨none, _, _, _, _, _⟩) (cs := [.int .i64 0, .int .i64 0, .int .i64 0, .int .i64 0, .string ⟨#[]⟩]) (vs := [.int .i64 0, .int .i64 0, .int .i64 0, .int .i64 0, .string ⟨#[]⟩]) H3.out.f3 rfl (event_one _ _ _ _ _) (by kernel_rfl) rfl rfl rfl rfl ?_; clear H3; intro w7 h; have H8 := Lib.hid h; clear h))
      refine bodyPost_ret (results_ct rfl rfl H8.out hd hrow (by kernel_rfl)) rfl ?_
      exact ⟨.inr ⟨rfl, HN.out⟩, H8.out.drop.drop.drop.drop.drop⟩
  · have HN : Hid (∀ (i : Int) (t : Int) (q : Int) (j : Int) (s : ByteArray), (eventR i t q j s) ≠ (k, v, 0)) := Lib.hid fun yi yt yq yj ys hr => by
      have := HNO.out yi yt yq yj ys hr
      injection this with a b
      injection b with b c
      exact he c
    have hz : (er != 0) = true := by rw [bne_iff_ne]; exact he
    clear he HRR HNO
    go_enter Tryz.func53, Tryz.ntmps53
    go_wp2_with (first
      | (refine (KA.out _ _ H00.out).mono ?_; clear KA H00; rintro ev w1 ⟨rfl, h⟩; have H0 : Hid (Own E _ (Hp.blk w1.heap.size EVT [.int .i64 z, .int .i64 0, .int .i64 0, .int .i64 0, .string ⟨#[]⟩].toArray :: Hp.xrd (w.heap.size + 1 + 1) v :: Hp.blk (w.heap.size + 1) EVT [.int .i64 0, .int .i64 0, .int .i64 0, .int .i64 0, .string ⟨#[]⟩].toArray :: Hp.blk w.heap.size ITT #[.string k, .string v] :: L)) := Lib.hid (h.alloc (.cells #[.int .i64 z, .int .i64 0, .int .i64 0, .int .i64 0, .string ⟨#[]⟩] EVT)); clear h)
      | ((with_reducible refine (K1.out _ _ H0.out.f1).mono ?_); clear K1 H0; rintro ev w2 ⟨rfl, h⟩; obtain ⟨⟨old1, ho1⟩, hf1, hs⟩ := h.f1.put1 1 (.int .i64 t) (show (1 : Nat) < 5 by omega); have H1 : Hid (Own E _ (Hp.blk w1.heap.size EVT [.int .i64 z, .int .i64 t, .int .i64 0, .int .i64 0, .string ⟨#[]⟩].toArray :: Hp.xrd (w.heap.size + 1 + 1) s1 :: Hp.blk (w.heap.size + 1) EVT [.int .i64 0, .int .i64 0, .int .i64 0, .int .i64 0, .string ⟨#[]⟩].toArray :: Hp.blk w.heap.size ITT #[.string k, .string v] :: L)) := Lib.hid hs; clear h hs)
      | ((with_reducible refine (K2.out _ _ H1.out.f1).mono ?_); clear K2 H1; rintro ev w2 ⟨rfl, h⟩; obtain ⟨⟨old2, ho2⟩, hf2, hs⟩ := h.f1.put1 2 (.int .i64 q) (show (2 : Nat) < 5 by omega); have H2 : Hid (Own E _ (Hp.blk w1.heap.size EVT [.int .i64 z, .int .i64 t, .int .i64 q, .int .i64 0, .string ⟨#[]⟩].toArray :: Hp.xrd (w.heap.size + 1 + 1) s2 :: Hp.blk (w.heap.size + 1) EVT [.int .i64 0, .int .i64 0, .int .i64 0, .int .i64 0, .string ⟨#[]⟩].toArray :: Hp.blk w.heap.size ITT #[.string k, .string v] :: L)) := Lib.hid hs; clear h hs)
      | ((with_reducible refine (K3.out _ _ H2.out.f1).mono ?_); clear K3 H2; rintro ev w2 ⟨rfl, h⟩; obtain ⟨⟨old3, ho3⟩, hf3, hs⟩ := h.f1.put1 3 (.int .i64 j) (show (3 : Nat) < 5 by omega); have H3 : Hid (Own E _ (Hp.blk w1.heap.size EVT [.int .i64 z, .int .i64 t, .int .i64 q, .int .i64 j, .string ⟨#[]⟩].toArray :: Hp.xrd (w.heap.size + 1 + 1) s3 :: Hp.blk (w.heap.size + 1) EVT [.int .i64 0, .int .i64 0, .int .i64 0, .int .i64 0, .string ⟨#[]⟩].toArray :: Hp.blk w.heap.size ITT #[.string k, .string v] :: L)) := Lib.hid hs; clear h hs)
      | ((with_reducible refine (K4.out _ _ H3.out.f1).mono ?_); clear K4 H3; rintro ev w2 ⟨rfl, h⟩; obtain ⟨⟨old4, ho4⟩, hf4, hs⟩ := h.f1.put1 4 (.string s) (show (4 : Nat) < 5 by omega); have H4 : Hid (Own E _ (Hp.blk w1.heap.size EVT [.int .i64 z, .int .i64 t, .int .i64 q, .int .i64 j, .string s].toArray :: Hp.xrd (w.heap.size + 1 + 1) s4 :: Hp.blk (w.heap.size + 1) EVT [.int .i64 0, .int .i64 0, .int .i64 0, .int .i64 0, .string ⟨#[]⟩].toArray :: Hp.blk w.heap.size ITT #[.string k, .string v] :: L)) := Lib.hid hs; clear h hs)
      | (with_reducible refine at_slot (k := some 30) ?_; refine wpList_load_arr (o := ⟨some 30, _, _, _, _, _⟩) H4.out 0 [.int .i64 z, .int .i64 t, .int .i64 q, .int .i64 j, .string s] (fun jj u hu => by simpa using hu) hd hrow (by kernel_rfl) rfl rfl rfl ?_)
      | ((with_reducible refine (KPR.out _ _ H4.out).mono ?_); clear KPR H4; rintro ev w2 ⟨rfl, h⟩; have H3 := Lib.hid (h.alloc (.cells #[.string x1, .string x2] ITT)); clear h; have p0 := H3.out.f4.cell 0; have p1 := H3.out.f4.cell 1; simp only [List.getElem?_toArray, List.getElem?_cons_zero, List.getElem?_cons_succ] at p0 p1)
      | ((with_reducible refine (KSM.out _ _ _ _ _ _ H3.out).mono ?_); clear KSM H3; rintro ev w2 ⟨rfl, h⟩; have H3 := Lib.hid h; clear h p0 p1)
      | (with_reducible refine at_slot (k := some 44) ?_; refine wpList_load_arr (o := ⟨some 44, _, _, _, _, _⟩) H3.out.f1 0 [.int .i64 z, .int .i64 t, .int .i64 q, .int .i64 j, .string s] (fun jj u hu => by simpa using hu) hd hrow (by kernel_rfl) rfl rfl rfl ?_)
      | (with_reducible refine at_slot (k := none) ?_; refine wpList_store_whole (o := ⟨none, _, _, _, _, _⟩) (cs := [.int .i64 0, .int .i64 0, .int .i64 0, .int .i64 0, .string ⟨#[]⟩]) (vs := [.int .i64 0, .int .i64 0, .int .i64 0, .int .i64 0, .string ⟨#[]⟩]) H3.out.f3 rfl (event_one _ _ _ _ _) (by kernel_rfl) rfl rfl rfl rfl ?_; clear H3; intro w7 h; have H8 := Lib.hid h; clear h))
    refine bodyPost_ret (results_ct rfl rfl H8.out hd hrow (by kernel_rfl)) rfl ?_
    exact ⟨.inr ⟨rfl, HN.out⟩, H8.out.drop.drop.drop.drop.drop⟩
end
/- chain -/
theorem chain_xreads {a : Int} {b : Int} {s : ByteArray} {r : ByteArray} {k v : ByteArray} (h : (chainR a b s r) = (k, v, 0)) : xL chainKs v = [.n a, .n b, .s s, .s r] := by
  by_cases hm : chainMay a b s r
  · unfold chainR at h
    rw [if_pos hm] at h
    injection h with h1 h2
    injection h2 with h2 h3
    skip
    · rw [← h2]
      have hh := xL_printed (chain_fits 0 _ _ _ _ hm)
      rw [chain_printed 0 _ _ _ _ hm] at hh
      exact hh
  · unfold chainR at h
    rw [if_neg hm] at h
    injection h with h1 h2
    injection h2 with h2 h3
    cases h3
section
variable {E : World} {L : List Hp}
set_option maxRecDepth 20000 in
set_option maxHeartbeats 16000000 in
theorem xparsechain_any (k v : ByteArray) (w : World) (_hk : k.size ≤ 1000000000000000) (h : Own E w L) :
    Calls Tryz.prog 54 #[.agg #[.string k, .string v]] w fun ev w' => ((∃ (a : Int) (b : Int) (s : ByteArray) (r : ByteArray), ev = .returned (.tuple #[.agg [.int .i64 a, .int .i64 b, .string s, .string r].toArray, .int .i64 0]) ∧ (chainR a b s r) = (k, v, 0)) ∨
      (ev = .returned (.tuple #[.agg [.int .i64 0, .int .i64 0, .string noB, .string noB].toArray, .int .i64 141]) ∧ ∀ (a : Int) (b : Int) (s : ByteArray) (r : ByteArray), (chainR a b s r) ≠ (k, v, 0))) ∧ Own E w' L := by
  have h1 := h.alloc (.cells #[.string k, .string v] ITT)
  have h2 := h1.alloc (.cells [.int .i64 0, .int .i64 0, .string ⟨#[]⟩, .string ⟨#[]⟩].toArray CHT)
  have h3 := h2.alloc (.cells #[.string v, .bool false] RDT)
  have h4 := h3.alloc (.cells [.int .i64 0, .int .i64 0, .string ⟨#[]⟩, .string ⟨#[]⟩].toArray CHT)
  rw [alloc_size, alloc_size, alloc_size] at h4
  have H0 := Lib.hid (show Own E _ (Hp.blk (w.heap.size + 1 + 1 + 1) CHT [.int .i64 0, .int .i64 0, .string ⟨#[]⟩, .string ⟨#[]⟩].toArray :: Hp.xrd (w.heap.size + 1 + 1) v :: Hp.blk (w.heap.size + 1) CHT [.int .i64 0, .int .i64 0, .string ⟨#[]⟩, .string ⟨#[]⟩].toArray :: Hp.blk w.heap.size ITT #[.string k, .string v] :: L) from (Own.ex.2 ⟨false, h4.f1⟩).f1)
  obtain ⟨dd, hd, hrow⟩ := cht_u
  obtain ⟨a, s1, hx1⟩ := xF_num 8 v
  obtain ⟨b, s2, hx2⟩ := xF_num 8 s1
  obtain ⟨s, s3, hx3, hb3⟩ := xF_raw 32 s2
  obtain ⟨r, s4, hx4, hb4⟩ := xF_raw 32 s3
  have hl : xL chainKs v = [.n a, .n b, .s s, .s r] := by
    simp only [chainKs, xL, hx1, hx2, hx3, hx4]
  have HNO : Hid (∀ (ya : Int) (yb : Int) (ys : ByteArray) (yr : ByteArray), (chainR ya yb ys yr) = (k, v, 0) → (chainR a b s r) = (k, v, 0)) := Lib.hid fun ya yb ys yr hr => by
    have ee := chain_xreads hr
    have e2 := ee
    rw [hl] at e2
    simp only [List.cons.injEq, Fv.s.injEq, Fv.n.injEq, and_true] at e2
    obtain ⟨rfl, rfl, rfl, rfl⟩ := e2
    exact hr
  have K1 : Hid (∀ wq M, Own E wq (Hp.xrd (w.heap.size + 1 + 1) v :: M) → Calls Tryz.prog 99 #[.pointer (some ⟨(w.heap.size + 1 + 1), 0, none⟩), .int .i64 8] wq fun ev w' => ev = .returned (.int .i64 a) ∧ Own E w' (Hp.xrd (w.heap.size + 1 + 1) s1 :: M)) := Lib.hid fun w M h => xFnum _ (by omega) hx1 w h
  have K2 : Hid (∀ wq M, Own E wq (Hp.xrd (w.heap.size + 1 + 1) s1 :: M) → Calls Tryz.prog 99 #[.pointer (some ⟨(w.heap.size + 1 + 1), 0, none⟩), .int .i64 8] wq fun ev w' => ev = .returned (.int .i64 b) ∧ Own E w' (Hp.xrd (w.heap.size + 1 + 1) s2 :: M)) := Lib.hid fun w M h => xFnum _ (by omega) hx2 w h
  have K3 : Hid (∀ wq M, Own E wq (Hp.xrd (w.heap.size + 1 + 1) s2 :: M) → Calls Tryz.prog 98 #[.pointer (some ⟨(w.heap.size + 1 + 1), 0, none⟩), .int .i64 32] wq fun ev w' => ev = .returned (.string s) ∧ Own E w' (Hp.xrd (w.heap.size + 1 + 1) s3 :: M)) := Lib.hid fun w M h => xFraw _ hx3 w h
  have K4 : Hid (∀ wq M, Own E wq (Hp.xrd (w.heap.size + 1 + 1) s3 :: M) → Calls Tryz.prog 98 #[.pointer (some ⟨(w.heap.size + 1 + 1), 0, none⟩), .int .i64 32] wq fun ev w' => ev = .returned (.string r) ∧ Own E w' (Hp.xrd (w.heap.size + 1 + 1) s4 :: M)) := Lib.hid fun w M h => xFraw _ hx4 w h
  have KPR : Hid (∀ (w : World) (M : List Hp), Own E w M → Calls Tryz.prog 23 #[.agg [.int .i64 a, .int .i64 b, .string s, .string r].toArray] w fun ev w' => ev = .returned (.tuple #[.agg #[.string (chainR a b s r).1, .string (chainR a b s r).2.1], .int .i64 (chainR a b s r).2.2]) ∧ Own E w' M) := Lib.hid fun w M h => xprintchain_any a b s r w  h
  have KSM := Lib.hid (fun (a b c d : ByteArray) (w : World) (M : List Hp) h => xsame_any (E := E) (L := M) a b c d w h)
  clear h h1 h2 h3 h4 hx1 hx2 hx3 hx4 hb3 hb4 hl 
  obtain ⟨x1, x2, er, hpr⟩ : ∃ x1 x2 er, (chainR a b s r) = (x1, x2, er) := ⟨_, _, _, rfl⟩
  rw [hpr] at KPR HNO
  have HRR := Lib.hid hpr
  clear hpr
  by_cases he : er = 0
  · subst he
    by_cases hx : k = x1 ∧ v = x2
    · have HY : Hid ((chainR a b s r) = (k, v, 0)) := Lib.hid (by rw [HRR.out, hx.1, hx.2])
      have hb : (decide (k = x1) && decide (v = x2)) = true := by rw [decide_eq_true hx.1, decide_eq_true hx.2]; rfl
      clear hx HRR HNO
      go_enter Tryz.func54, Tryz.ntmps54
      go_wp2_with (first
        | ((with_reducible refine (K1.out _ _ H0.out.f1).mono ?_); clear K1 H0; rintro ev w2 ⟨rfl, h⟩; obtain ⟨⟨old1, ho1⟩, hf1, hs⟩ := h.f1.put1 0 (.int .i64 a) (show (0 : Nat) < 4 by omega); have H1 : Hid (Own E _ (Hp.blk (w.heap.size + 1 + 1 + 1) CHT [.int .i64 a, .int .i64 0, .string ⟨#[]⟩, .string ⟨#[]⟩].toArray :: Hp.xrd (w.heap.size + 1 + 1) s1 :: Hp.blk (w.heap.size + 1) CHT [.int .i64 0, .int .i64 0, .string ⟨#[]⟩, .string ⟨#[]⟩].toArray :: Hp.blk w.heap.size ITT #[.string k, .string v] :: L)) := Lib.hid hs; clear h hs)
        | ((with_reducible refine (K2.out _ _ H1.out.f1).mono ?_); clear K2 H1; rintro ev w2 ⟨rfl, h⟩; obtain ⟨⟨old2, ho2⟩, hf2, hs⟩ := h.f1.put1 1 (.int .i64 b) (show (1 : Nat) < 4 by omega); have H2 : Hid (Own E _ (Hp.blk (w.heap.size + 1 + 1 + 1) CHT [.int .i64 a, .int .i64 b, .string ⟨#[]⟩, .string ⟨#[]⟩].toArray :: Hp.xrd (w.heap.size + 1 + 1) s2 :: Hp.blk (w.heap.size + 1) CHT [.int .i64 0, .int .i64 0, .string ⟨#[]⟩, .string ⟨#[]⟩].toArray :: Hp.blk w.heap.size ITT #[.string k, .string v] :: L)) := Lib.hid hs; clear h hs)
        | ((with_reducible refine (K3.out _ _ H2.out.f1).mono ?_); clear K3 H2; rintro ev w2 ⟨rfl, h⟩; obtain ⟨⟨old3, ho3⟩, hf3, hs⟩ := h.f1.put1 2 (.string s) (show (2 : Nat) < 4 by omega); have H3 : Hid (Own E _ (Hp.blk (w.heap.size + 1 + 1 + 1) CHT [.int .i64 a, .int .i64 b, .string s, .string ⟨#[]⟩].toArray :: Hp.xrd (w.heap.size + 1 + 1) s3 :: Hp.blk (w.heap.size + 1) CHT [.int .i64 0, .int .i64 0, .string ⟨#[]⟩, .string ⟨#[]⟩].toArray :: Hp.blk w.heap.size ITT #[.string k, .string v] :: L)) := Lib.hid hs; clear h hs)
        | ((with_reducible refine (K4.out _ _ H3.out.f1).mono ?_); clear K4 H3; rintro ev w2 ⟨rfl, h⟩; obtain ⟨⟨old4, ho4⟩, hf4, hs⟩ := h.f1.put1 3 (.string r) (show (3 : Nat) < 4 by omega); have H4 : Hid (Own E _ (Hp.blk (w.heap.size + 1 + 1 + 1) CHT [.int .i64 a, .int .i64 b, .string s, .string r].toArray :: Hp.xrd (w.heap.size + 1 + 1) s4 :: Hp.blk (w.heap.size + 1) CHT [.int .i64 0, .int .i64 0, .string ⟨#[]⟩, .string ⟨#[]⟩].toArray :: Hp.blk w.heap.size ITT #[.string k, .string v] :: L)) := Lib.hid hs; clear h hs)
        | (with_reducible refine at_slot (k := some 26) ?_; refine wpList_load_arr (o := ⟨some 26, _, _, _, _, _⟩) H4.out 0 [.int .i64 a, .int .i64 b, .string s, .string r] (fun jj u hu => by simpa using hu) hd hrow (by kernel_rfl) rfl rfl rfl ?_)
        | ((with_reducible refine (KPR.out _ _ H4.out).mono ?_); clear KPR H4; rintro ev w2 ⟨rfl, h⟩; have H3 := Lib.hid (h.alloc (.cells #[.string x1, .string x2] ITT)); clear h; have p0 := H3.out.f4.cell 0; have p1 := H3.out.f4.cell 1; simp only [List.getElem?_toArray, List.getElem?_cons_zero, List.getElem?_cons_succ] at p0 p1)
        | ((with_reducible refine (KSM.out _ _ _ _ _ _ H3.out).mono ?_); clear KSM H3; rintro ev w2 ⟨rfl, h⟩; have H3 := Lib.hid h; clear h p0 p1)
        | (with_reducible refine at_slot (k := some 40) ?_; refine wpList_load_arr (o := ⟨some 40, _, _, _, _, _⟩) H3.out.f1 0 [.int .i64 a, .int .i64 b, .string s, .string r] (fun jj u hu => by simpa using hu) hd hrow (by kernel_rfl) rfl rfl rfl ?_)
        | (with_reducible refine at_slot (k := none) ?_; refine wpList_store_whole (o := ⟨none, _, _, _, _, _⟩) (cs := [.int .i64 0, .int .i64 0, .string ⟨#[]⟩, .string ⟨#[]⟩]) (vs := [.int .i64 a, .int .i64 b, .string s, .string r]) H3.out.f3 rfl (chain_one _ _ _ _) (by kernel_rfl) rfl rfl rfl rfl ?_; clear H3; intro w7 h; have H8 := Lib.hid h; clear h))
      refine bodyPost_ret (results_ct rfl rfl H8.out hd hrow (by kernel_rfl)) rfl ?_
      exact ⟨.inl ⟨a, b, s, r, rfl, HY.out⟩, H8.out.drop.drop.drop.drop.drop⟩
    · have HN : Hid (∀ (a : Int) (b : Int) (s : ByteArray) (r : ByteArray), (chainR a b s r) ≠ (k, v, 0)) := Lib.hid fun ya yb ys yr hr => by
        have := HNO.out ya yb ys yr hr
        injection this with a b
        injection b with b c
        exact hx ⟨a.symm, b.symm⟩
      have hb : (decide (k = x1) && decide (v = x2)) = false := by
        rw [← Bool.not_eq_true, Bool.and_eq_true, decide_eq_true_eq, decide_eq_true_eq]; exact hx
      clear hx HRR HNO
      go_enter Tryz.func54, Tryz.ntmps54
      go_wp2_with (first
        | ((with_reducible refine (K1.out _ _ H0.out.f1).mono ?_); clear K1 H0; rintro ev w2 ⟨rfl, h⟩; obtain ⟨⟨old1, ho1⟩, hf1, hs⟩ := h.f1.put1 0 (.int .i64 a) (show (0 : Nat) < 4 by omega); have H1 : Hid (Own E _ (Hp.blk (w.heap.size + 1 + 1 + 1) CHT [.int .i64 a, .int .i64 0, .string ⟨#[]⟩, .string ⟨#[]⟩].toArray :: Hp.xrd (w.heap.size + 1 + 1) s1 :: Hp.blk (w.heap.size + 1) CHT [.int .i64 0, .int .i64 0, .string ⟨#[]⟩, .string ⟨#[]⟩].toArray :: Hp.blk w.heap.size ITT #[.string k, .string v] :: L)) := Lib.hid hs; clear h hs)
        | ((with_reducible refine (K2.out _ _ H1.out.f1).mono ?_); clear K2 H1; rintro ev w2 ⟨rfl, h⟩; obtain ⟨⟨old2, ho2⟩, hf2, hs⟩ := h.f1.put1 1 (.int .i64 b) (show (1 : Nat) < 4 by omega); have H2 : Hid (Own E _ (Hp.blk (w.heap.size + 1 + 1 + 1) CHT [.int .i64 a, .int .i64 b, .string ⟨#[]⟩, .string ⟨#[]⟩].toArray :: Hp.xrd (w.heap.size + 1 + 1) s2 :: Hp.blk (w.heap.size + 1) CHT [.int .i64 0, .int .i64 0, .string ⟨#[]⟩, .string ⟨#[]⟩].toArray :: Hp.blk w.heap.size ITT #[.string k, .string v] :: L)) := Lib.hid hs; clear h hs)
        | ((with_reducible refine (K3.out _ _ H2.out.f1).mono ?_); clear K3 H2; rintro ev w2 ⟨rfl, h⟩; obtain ⟨⟨old3, ho3⟩, hf3, hs⟩ := h.f1.put1 2 (.string s) (show (2 : Nat) < 4 by omega); have H3 : Hid (Own E _ (Hp.blk (w.heap.size + 1 + 1 + 1) CHT [.int .i64 a, .int .i64 b, .string s, .string ⟨#[]⟩].toArray :: Hp.xrd (w.heap.size + 1 + 1) s3 :: Hp.blk (w.heap.size + 1) CHT [.int .i64 0, .int .i64 0, .string ⟨#[]⟩, .string ⟨#[]⟩].toArray :: Hp.blk w.heap.size ITT #[.string k, .string v] :: L)) := Lib.hid hs; clear h hs)
        | ((with_reducible refine (K4.out _ _ H3.out.f1).mono ?_); clear K4 H3; rintro ev w2 ⟨rfl, h⟩; obtain ⟨⟨old4, ho4⟩, hf4, hs⟩ := h.f1.put1 3 (.string r) (show (3 : Nat) < 4 by omega); have H4 : Hid (Own E _ (Hp.blk (w.heap.size + 1 + 1 + 1) CHT [.int .i64 a, .int .i64 b, .string s, .string r].toArray :: Hp.xrd (w.heap.size + 1 + 1) s4 :: Hp.blk (w.heap.size + 1) CHT [.int .i64 0, .int .i64 0, .string ⟨#[]⟩, .string ⟨#[]⟩].toArray :: Hp.blk w.heap.size ITT #[.string k, .string v] :: L)) := Lib.hid hs; clear h hs)
        | (with_reducible refine at_slot (k := some 26) ?_; refine wpList_load_arr (o := ⟨some 26, _, _, _, _, _⟩) H4.out 0 [.int .i64 a, .int .i64 b, .string s, .string r] (fun jj u hu => by simpa using hu) hd hrow (by kernel_rfl) rfl rfl rfl ?_)
        | ((with_reducible refine (KPR.out _ _ H4.out).mono ?_); clear KPR H4; rintro ev w2 ⟨rfl, h⟩; have H3 := Lib.hid (h.alloc (.cells #[.string x1, .string x2] ITT)); clear h; have p0 := H3.out.f4.cell 0; have p1 := H3.out.f4.cell 1; simp only [List.getElem?_toArray, List.getElem?_cons_zero, List.getElem?_cons_succ] at p0 p1)
        | ((with_reducible refine (KSM.out _ _ _ _ _ _ H3.out).mono ?_); clear KSM H3; rintro ev w2 ⟨rfl, h⟩; have H3 := Lib.hid h; clear h p0 p1)
        | (with_reducible refine at_slot (k := some 40) ?_; refine wpList_load_arr (o := ⟨some 40, _, _, _, _, _⟩) H3.out.f1 0 [.int .i64 a, .int .i64 b, .string s, .string r] (fun jj u hu => by simpa using hu) hd hrow (by kernel_rfl) rfl rfl rfl ?_)
        | (with_reducible refine at_slot (k := none) ?_; refine wpList_store_whole (o := ⟨none, _, _, _, _, _⟩) (cs := [.int .i64 0, .int .i64 0, .string ⟨#[]⟩, .string ⟨#[]⟩]) (vs := [.int .i64 0, .int .i64 0, .string ⟨#[]⟩, .string ⟨#[]⟩]) H3.out.f3 rfl (chain_one _ _ _ _) (by kernel_rfl) rfl rfl rfl rfl ?_; clear H3; intro w7 h; have H8 := Lib.hid h; clear h))
      refine bodyPost_ret (results_ct rfl rfl H8.out hd hrow (by kernel_rfl)) rfl ?_
      exact ⟨.inr ⟨rfl, HN.out⟩, H8.out.drop.drop.drop.drop.drop⟩
  · have HN : Hid (∀ (a : Int) (b : Int) (s : ByteArray) (r : ByteArray), (chainR a b s r) ≠ (k, v, 0)) := Lib.hid fun ya yb ys yr hr => by
      have := HNO.out ya yb ys yr hr
      injection this with a b
      injection b with b c
      exact he c
    have hz : (er != 0) = true := by rw [bne_iff_ne]; exact he
    clear he HRR HNO
    go_enter Tryz.func54, Tryz.ntmps54
    go_wp2_with (first
      | ((with_reducible refine (K1.out _ _ H0.out.f1).mono ?_); clear K1 H0; rintro ev w2 ⟨rfl, h⟩; obtain ⟨⟨old1, ho1⟩, hf1, hs⟩ := h.f1.put1 0 (.int .i64 a) (show (0 : Nat) < 4 by omega); have H1 : Hid (Own E _ (Hp.blk (w.heap.size + 1 + 1 + 1) CHT [.int .i64 a, .int .i64 0, .string ⟨#[]⟩, .string ⟨#[]⟩].toArray :: Hp.xrd (w.heap.size + 1 + 1) s1 :: Hp.blk (w.heap.size + 1) CHT [.int .i64 0, .int .i64 0, .string ⟨#[]⟩, .string ⟨#[]⟩].toArray :: Hp.blk w.heap.size ITT #[.string k, .string v] :: L)) := Lib.hid hs; clear h hs)
      | ((with_reducible refine (K2.out _ _ H1.out.f1).mono ?_); clear K2 H1; rintro ev w2 ⟨rfl, h⟩; obtain ⟨⟨old2, ho2⟩, hf2, hs⟩ := h.f1.put1 1 (.int .i64 b) (show (1 : Nat) < 4 by omega); have H2 : Hid (Own E _ (Hp.blk (w.heap.size + 1 + 1 + 1) CHT [.int .i64 a, .int .i64 b, .string ⟨#[]⟩, .string ⟨#[]⟩].toArray :: Hp.xrd (w.heap.size + 1 + 1) s2 :: Hp.blk (w.heap.size + 1) CHT [.int .i64 0, .int .i64 0, .string ⟨#[]⟩, .string ⟨#[]⟩].toArray :: Hp.blk w.heap.size ITT #[.string k, .string v] :: L)) := Lib.hid hs; clear h hs)
      | ((with_reducible refine (K3.out _ _ H2.out.f1).mono ?_); clear K3 H2; rintro ev w2 ⟨rfl, h⟩; obtain ⟨⟨old3, ho3⟩, hf3, hs⟩ := h.f1.put1 2 (.string s) (show (2 : Nat) < 4 by omega); have H3 : Hid (Own E _ (Hp.blk (w.heap.size + 1 + 1 + 1) CHT [.int .i64 a, .int .i64 b, .string s, .string ⟨#[]⟩].toArray :: Hp.xrd (w.heap.size + 1 + 1) s3 :: Hp.blk (w.heap.size + 1) CHT [.int .i64 0, .int .i64 0, .string ⟨#[]⟩, .string ⟨#[]⟩].toArray :: Hp.blk w.heap.size ITT #[.string k, .string v] :: L)) := Lib.hid hs; clear h hs)
      | ((with_reducible refine (K4.out _ _ H3.out.f1).mono ?_); clear K4 H3; rintro ev w2 ⟨rfl, h⟩; obtain ⟨⟨old4, ho4⟩, hf4, hs⟩ := h.f1.put1 3 (.string r) (show (3 : Nat) < 4 by omega); have H4 : Hid (Own E _ (Hp.blk (w.heap.size + 1 + 1 + 1) CHT [.int .i64 a, .int .i64 b, .string s, .string r].toArray :: Hp.xrd (w.heap.size + 1 + 1) s4 :: Hp.blk (w.heap.size + 1) CHT [.int .i64 0, .int .i64 0, .string ⟨#[]⟩, .string ⟨#[]⟩].toArray :: Hp.blk w.heap.size ITT #[.string k, .string v] :: L)) := Lib.hid hs; clear h hs)
      | (with_reducible refine at_slot (k := some 26) ?_; refine wpList_load_arr (o := ⟨some 26, _, _, _, _, _⟩) H4.out 0 [.int .i64 a, .int .i64 b, .string s, .string r] (fun jj u hu => by simpa using hu) hd hrow (by kernel_rfl) rfl rfl rfl ?_)
      | ((with_reducible refine (KPR.out _ _ H4.out).mono ?_); clear KPR H4; rintro ev w2 ⟨rfl, h⟩; have H3 := Lib.hid (h.alloc (.cells #[.string x1, .string x2] ITT)); clear h; have p0 := H3.out.f4.cell 0; have p1 := H3.out.f4.cell 1; simp only [List.getElem?_toArray, List.getElem?_cons_zero, List.getElem?_cons_succ] at p0 p1)
      | ((with_reducible refine (KSM.out _ _ _ _ _ _ H3.out).mono ?_); clear KSM H3; rintro ev w2 ⟨rfl, h⟩; have H3 := Lib.hid h; clear h p0 p1)
      | (with_reducible refine at_slot (k := some 40) ?_; refine wpList_load_arr (o := ⟨some 40, _, _, _, _, _⟩) H3.out.f1 0 [.int .i64 a, .int .i64 b, .string s, .string r] (fun jj u hu => by simpa using hu) hd hrow (by kernel_rfl) rfl rfl rfl ?_)
      | (with_reducible refine at_slot (k := none) ?_; refine wpList_store_whole (o := ⟨none, _, _, _, _, _⟩) (cs := [.int .i64 0, .int .i64 0, .string ⟨#[]⟩, .string ⟨#[]⟩]) (vs := [.int .i64 0, .int .i64 0, .string ⟨#[]⟩, .string ⟨#[]⟩]) H3.out.f3 rfl (chain_one _ _ _ _) (by kernel_rfl) rfl rfl rfl rfl ?_; clear H3; intro w7 h; have H8 := Lib.hid h; clear h))
    refine bodyPost_ret (results_ct rfl rfl H8.out hd hrow (by kernel_rfl)) rfl ?_
    exact ⟨.inr ⟨rfl, HN.out⟩, H8.out.drop.drop.drop.drop.drop⟩
end
end Go.Proofs.YtabibfabieghpaaGreatDoor
