/- The reference's ParseClient (printed by gen_xpal.py). -/
import Derived.Test.YtabibfabieghpaaGreatDoorPkPaClient
import Derived.Test.YtabibfabieghpaaGreatDoorPkz13
namespace Go.Proofs.YtabibfabieghpaaGreatDoor
open Go.RowKit
theorem client_xreads {f : ClientV} {k v : ByteArray} (h : f.R = (k, v, 0)) : k = clientK f.nm ∧ xL clientKs v = [.n (flagV f.pu 1 + flagV f.sw 2), .s f.dh, .s f.od, .n f.ut, .s (scTxt f.xs), .n f.ii, .n f.ab, .n f.gr, .n f.li] ∧ xpartsV (scTxt f.xs) = f.xs := by
  have hm := (client_reads h).1
  have hr := client_range hm
  unfold ClientV.R clientR at h
  rw [if_pos hm] at h
  injection h with h1 h2
  injection h2 with h2 h3
  refine ⟨h1.symm, ?_, ?_⟩
  · rw [← h2]
    have hh := xL_printed (client_fits 0 0 0 hr)
    rw [client_printed 0 0 0 hr] at hh
    exact hh
  · exact xparts_print hm.2.1
/-- The name in a key. -/
def nameIn (k : ByteArray) : ByteArray := if 1 < k.size then restB k 1 else ⟨#[]⟩
theorem nameIn_K (nm : ByteArray) : nameIn (clientK nm) = nm := by
  have hs : (clientK nm).size = 1 + nm.size := by unfold clientK; rw [ByteArray.size_append]; rfl
  unfold nameIn
  by_cases h : 1 < (clientK nm).size
  · rw [if_pos h]; exact rest_one 99 nm
  · rw [if_neg h]
    obtain ⟨⟨l⟩⟩ := nm
    have hl : l.length = 0 := by
      have : (⟨⟨l⟩⟩ : ByteArray).size = l.length := rfl
      omega
    rw [List.eq_nil_of_length_eq_zero hl]
theorem flags_said (a b : Bool) : (flagV a 1 + flagV b 2 == 1 || flagV a 1 + flagV b 2 == 3) = a ∧ (flagV a 1 + flagV b 2 == 2 || flagV a 1 + flagV b 2 == 3) = b := by
  cases a <;> cases b <;> exact ⟨rfl, rfl⟩
section
variable {E : World} {L : List Hp}
set_option maxRecDepth 20000 in
set_option maxHeartbeats 16000000 in
theorem xparseclient_any (k v : ByteArray) (w : World) (hk : k.size ≤ 1000000000000000) (h : Own E w L) :
    Calls Tryz.prog 43 #[.agg #[.string k, .string v]] w fun ev w' => (∃ (f : ClientV) (A : Option Addr) (c : Nat), ev = .returned (.tuple #[.agg (f.C A c).toArray, .int .i64 0]) ∧ f.R = (k, v, 0) ∧ Own E w' (Hp.lst ST (.slice A f.xs.length c) (f.xs.map Value.string) :: L)) ∨
      (ev = .returned (.tuple #[.agg (clientC noB false false noB noB 0 none 0 0 0 0 0 0).toArray, .int .i64 141]) ∧ (∀ f : ClientV, f.R ≠ (k, v, 0)) ∧ Own E w' L) := by
  have h1 := h.alloc (.cells #[.string k, .string v] ITT)
  have h2 := h1.alloc (.cells (clientC ⟨#[]⟩ false false ⟨#[]⟩ ⟨#[]⟩ 0 none 0 0 0 0 0 0).toArray CLT)
  have h3 := h2.alloc (.cells #[.string v, .bool false] RDT)
  have h4 := h3.alloc (.cells (clientC ⟨#[]⟩ false false ⟨#[]⟩ ⟨#[]⟩ 0 none 0 0 0 0 0 0).toArray CLT)
  have h5 := h3.alloc (.cells (clientC (restB k 1) false false ⟨#[]⟩ ⟨#[]⟩ 0 none 0 0 0 0 0 0).toArray CLT)
  rw [alloc_size, alloc_size, alloc_size] at h4 h5
  have H55 := Lib.hid (show Own E _ (Hp.blk (w.heap.size + 1 + 1 + 1) CLT (clientC (restB k 1) false false ⟨#[]⟩ ⟨#[]⟩ 0 none 0 0 0 0 0 0).toArray :: Hp.xrd (w.heap.size + 1 + 1) v :: Hp.blk (w.heap.size + 1) CLT (clientC ⟨#[]⟩ false false ⟨#[]⟩ ⟨#[]⟩ 0 none 0 0 0 0 0 0).toArray :: Hp.blk w.heap.size ITT #[.string k, .string v] :: L) from (Own.ex.2 ⟨false, h5.f1⟩).f1)
  have H00 := Lib.hid (show Own E _ (Hp.blk (w.heap.size + 1 + 1 + 1) CLT (clientC ⟨#[]⟩ false false ⟨#[]⟩ ⟨#[]⟩ 0 none 0 0 0 0 0 0).toArray :: Hp.xrd (w.heap.size + 1 + 1) v :: Hp.blk (w.heap.size + 1) CLT (clientC ⟨#[]⟩ false false ⟨#[]⟩ ⟨#[]⟩ 0 none 0 0 0 0 0 0).toArray :: Hp.blk w.heap.size ITT #[.string k, .string v] :: L) from (Own.ex.2 ⟨false, h4.f1⟩).f1)
  obtain ⟨dd, hd, hrow⟩ := clientt_u0
  obtain ⟨m0, hm0⟩ : ∃ m0, m0 = nameIn k := ⟨_, rfl⟩
  obtain ⟨fg, s1, hx1⟩ := xF_num 1 v
  obtain ⟨dh, s2, hx2, hb2⟩ := xF_text s1
  obtain ⟨od, s3, hx3, hb3⟩ := xF_text s2
  obtain ⟨ut, s4, hx4⟩ := xF_num 6 s3
  obtain ⟨sT, s5, hx5, hb5⟩ := xF_text s4
  obtain ⟨ii, s6, hx6⟩ := xF_num 6 s5
  obtain ⟨ab, s7, hx7⟩ := xF_num 6 s6
  obtain ⟨gr, s8, hx8⟩ := xF_num 6 s7
  obtain ⟨li, s9, hx9⟩ := xF_num 6 s8
  obtain ⟨xs, hxs⟩ : ∃ xs, xs = xpartsV sT := ⟨_, rfl⟩
  obtain ⟨pu, hpu⟩ : ∃ pu, pu = (fg == 1 || fg == 3) := ⟨_, rfl⟩
  obtain ⟨sw, hsw⟩ : ∃ sw, sw = (fg == 2 || fg == 3) := ⟨_, rfl⟩
  have HXS : Hid (xs.length ≤ 256 ∧ ∀ x ∈ xs, x.size ≤ 255) := Lib.hid (by
    have := xparts_size sT
    rw [hxs]
    exact ⟨by omega, fun x hx => Nat.le_trans (this.2 x hx) hb5⟩)
  have hl : xL clientKs v = [.n fg, .s dh, .s od, .n ut, .s sT, .n ii, .n ab, .n gr, .n li] := by
    simp only [clientKs, xL, hx1, hx2, hx3, hx4, hx5, hx6, hx7, hx8, hx9]
  have HNO : Hid (∀ f : ClientV, f.R = (k, v, 0) → (clientR m0 pu sw dh od ut xs ii ab gr li) = (k, v, 0)) := Lib.hid fun f hf => by
    obtain ⟨e1, e2, e3⟩ := client_xreads hf
    rw [hl] at e2
    obtain ⟨qnm, qpu, qsw, qdh, qod, qut, qxs, qii, qab, qgr, qli⟩ := f
    simp only [List.cons.injEq, Fv.s.injEq, Fv.n.injEq, and_true] at e1 e2 e3
    obtain ⟨ef, rfl, rfl, rfl, rfl, rfl, rfl, rfl, rfl⟩ := e2
    rw [ef, (flags_said _ _).1] at hpu
    rw [ef, (flags_said _ _).2] at hsw
    subst hpu hsw
    have e4 : m0 = qnm := by rw [hm0, e1]; exact nameIn_K qnm
    rw [hxs, e3, e4]
    exact hf
  have hm0s : m0.size ≤ 1000000000000000 := by
    rw [hm0]
    unfold nameIn
    split
    · unfold restB
      rw [ByteArray.size_extract]; omega
    · exact Nat.zero_le _
  have K1 : Hid (∀ wq M, Own E wq (Hp.xrd (w.heap.size + 1 + 1) v :: M) → Calls Tryz.prog 99 #[.pointer (some ⟨(w.heap.size + 1 + 1), 0, none⟩), .int .i64 1] wq fun e w' => e = .returned (.int .i64 fg) ∧ Own E w' (Hp.xrd (w.heap.size + 1 + 1) s1 :: M)) := Lib.hid fun w M h => xFnum _ (by omega) hx1 w h
  have K2 : Hid (∀ wq M, Own E wq (Hp.xrd (w.heap.size + 1 + 1) s1 :: M) → Calls Tryz.prog 96 #[.pointer (some ⟨(w.heap.size + 1 + 1), 0, none⟩)] wq fun e w' => e = .returned (.string dh) ∧ Own E w' (Hp.xrd (w.heap.size + 1 + 1) s2 :: M)) := Lib.hid fun w M h => xFtext _ hx2 w h
  have K3 : Hid (∀ wq M, Own E wq (Hp.xrd (w.heap.size + 1 + 1) s2 :: M) → Calls Tryz.prog 96 #[.pointer (some ⟨(w.heap.size + 1 + 1), 0, none⟩)] wq fun e w' => e = .returned (.string od) ∧ Own E w' (Hp.xrd (w.heap.size + 1 + 1) s3 :: M)) := Lib.hid fun w M h => xFtext _ hx3 w h
  have K4 : Hid (∀ wq M, Own E wq (Hp.xrd (w.heap.size + 1 + 1) s3 :: M) → Calls Tryz.prog 99 #[.pointer (some ⟨(w.heap.size + 1 + 1), 0, none⟩), .int .i64 6] wq fun e w' => e = .returned (.int .i64 ut) ∧ Own E w' (Hp.xrd (w.heap.size + 1 + 1) s4 :: M)) := Lib.hid fun w M h => xFnum _ (by omega) hx4 w h
  have K5 : Hid (∀ wq M, Own E wq (Hp.xrd (w.heap.size + 1 + 1) s4 :: M) → Calls Tryz.prog 97 #[.pointer (some ⟨(w.heap.size + 1 + 1), 0, none⟩)] wq fun e w' => ∃ A cc, e = .returned (.slice A xs.length cc) ∧ Own E w' (Hp.lst ST (.slice A xs.length cc) (xs.map Value.string) :: Hp.xrd (w.heap.size + 1 + 1) s5 :: M)) := Lib.hid fun w M h => by
    rw [hxs]
    exact xFscope _ hx5 w h
  have K6 : Hid (∀ wq M, Own E wq (Hp.xrd (w.heap.size + 1 + 1) s5 :: M) → Calls Tryz.prog 99 #[.pointer (some ⟨(w.heap.size + 1 + 1), 0, none⟩), .int .i64 6] wq fun e w' => e = .returned (.int .i64 ii) ∧ Own E w' (Hp.xrd (w.heap.size + 1 + 1) s6 :: M)) := Lib.hid fun w M h => xFnum _ (by omega) hx6 w h
  have K7 : Hid (∀ wq M, Own E wq (Hp.xrd (w.heap.size + 1 + 1) s6 :: M) → Calls Tryz.prog 99 #[.pointer (some ⟨(w.heap.size + 1 + 1), 0, none⟩), .int .i64 6] wq fun e w' => e = .returned (.int .i64 ab) ∧ Own E w' (Hp.xrd (w.heap.size + 1 + 1) s7 :: M)) := Lib.hid fun w M h => xFnum _ (by omega) hx7 w h
  have K8 : Hid (∀ wq M, Own E wq (Hp.xrd (w.heap.size + 1 + 1) s7 :: M) → Calls Tryz.prog 99 #[.pointer (some ⟨(w.heap.size + 1 + 1), 0, none⟩), .int .i64 6] wq fun e w' => e = .returned (.int .i64 gr) ∧ Own E w' (Hp.xrd (w.heap.size + 1 + 1) s8 :: M)) := Lib.hid fun w M h => xFnum _ (by omega) hx8 w h
  have K9 : Hid (∀ wq M, Own E wq (Hp.xrd (w.heap.size + 1 + 1) s8 :: M) → Calls Tryz.prog 99 #[.pointer (some ⟨(w.heap.size + 1 + 1), 0, none⟩), .int .i64 6] wq fun e w' => e = .returned (.int .i64 li) ∧ Own E w' (Hp.xrd (w.heap.size + 1 + 1) s9 :: M)) := Lib.hid fun w M h => xFnum _ (by omega) hx9 w h
  have KPR : Hid (∀ (A : Option Addr) (cc : Nat) (w : World) (M : List Hp), Own E w (Hp.lst ST (.slice A xs.length cc) (xs.map Value.string) :: M) → Calls Tryz.prog 41 #[.agg (clientC m0 pu sw dh od ut A xs.length cc ii ab gr li).toArray] w fun ev w' => ev = .returned (.tuple #[.agg #[.string (clientR m0 pu sw dh od ut xs ii ab gr li).1, .string (clientR m0 pu sw dh od ut xs ii ab gr li).2.1], .int .i64 (clientR m0 pu sw dh od ut xs ii ab gr li).2.2]) ∧ Own E w' (Hp.lst ST (.slice A xs.length cc) (xs.map Value.string) :: M)) := Lib.hid fun A cc w M h => by
    obtain ⟨a, h4, ha, hb⟩ := h.opens
    obtain ⟨hr, hc, -, -⟩ := lst_rds ha
    refine (xprintclient_any m0 pu sw dh od ut A xs.length cc ii ab gr li xs w hr (fun x hx => Nat.le_trans (HXS.out.2 x hx) (by omega)) (by omega) (by have := HXS.out; omega) h4).mono ?_
    rintro ev w' ⟨rfl, h⟩
    exact ⟨rfl, hb _ _ h⟩
  have KSM := Lib.hid (fun (a b c d : ByteArray) (w : World) (M : List Hp) h => xsame_any (E := E) (L := M) a b c d w h)
  have HM0 := Lib.hid hm0
  have HPU := Lib.hid (And.intro hpu hsw)
  clear h h1 h2 h3 h4 h5 hk hx1 hx2 hx3 hx4 hx5 hx6 hx7 hx8 hx9 hb2 hb3 hb5 hxs hl hm0 hpu hsw hm0s
  obtain ⟨x1, x2, er, hpr⟩ : ∃ x1 x2 er, (clientR m0 pu sw dh od ut xs ii ab gr li) = (x1, x2, er) := ⟨_, _, _, rfl⟩
  rw [hpr] at KPR HNO
  have HRR := Lib.hid hpr
  clear hpr
  go_enter Tryz.func43, Tryz.ntmps43
  go_upto_if 17 with fail
  go_cut [] from 10 (fun w' => Own E w' (Hp.blk (w.heap.size + 1 + 1 + 1) CLT (clientC m0 false false ⟨#[]⟩ ⟨#[]⟩ 0 none 0 0 0 0 0 0).toArray :: Hp.xrd (w.heap.size + 1 + 1) v :: Hp.blk (w.heap.size + 1) CLT (clientC ⟨#[]⟩ false false ⟨#[]⟩ ⟨#[]⟩ 0 none 0 0 0 0 0 0).toArray :: Hp.blk w.heap.size ITT #[.string k, .string v] :: L))
  case first =>
    by_cases h1 : 1 < k.size
    · have i0 : (1 : Int) < k.size := by omega
      have i1 : (1 : Int) ≤ k.size := by omega
      have e1 : m0 = restB k 1 := by rw [HM0.out]; unfold nameIn; rw [if_pos h1]
      go_wp2_with fail
      go_meet
      case rel => rw [e1]; exact H55.out
    · have i0 : ¬ (1 : Int) < k.size := by omega
      have e1 : m0 = ⟨#[]⟩ := by rw [HM0.out]; unfold nameIn; rw [if_neg h1]
      go_wp2_with fail
      go_meet
      case rel => rw [e1]; exact H00.out
  clear H55
  clear H00
  have H0 := Lib.hid hcut
  clear hcut
  go_upto_region 6 with ((with_reducible refine (K1.out _ _ H0.out.f1).mono ?_); clear K1 H0; rintro ev w2 ⟨rfl, h⟩; have H1 : Hid (Own E _ (Hp.blk (w.heap.size + 1 + 1 + 1) CLT (clientC m0 false false ⟨#[]⟩ ⟨#[]⟩ 0 none 0 0 0 0 0 0).toArray :: Hp.xrd (w.heap.size + 1 + 1) s1 :: Hp.blk (w.heap.size + 1) CLT (clientC ⟨#[]⟩ false false ⟨#[]⟩ ⟨#[]⟩ 0 none 0 0 0 0 0 0).toArray :: Hp.blk w.heap.size ITT #[.string k, .string v] :: L)) := Lib.hid h.f1; clear h)
  go_cut [] from 10 (fun w' => Own E w' (Hp.blk (w.heap.size + 1 + 1 + 1) CLT (clientC m0 pu false ⟨#[]⟩ ⟨#[]⟩ 0 none 0 0 0 0 0 0).toArray :: Hp.xrd (w.heap.size + 1 + 1) s1 :: Hp.blk (w.heap.size + 1) CLT (clientC ⟨#[]⟩ false false ⟨#[]⟩ ⟨#[]⟩ 0 none 0 0 0 0 0 0).toArray :: Hp.blk w.heap.size ITT #[.string k, .string v] :: L))
  case first =>
    have h := H1.out
    clear H1
    by_cases e1 : fg = 1
    · have z1 : (fg == 1) = true := by rw [beq_iff_eq]; exact e1
      have e2 : pu = true := by rw [HPU.out.1, z1]; rfl
      obtain ⟨⟨old, ho⟩, hfz, hs⟩ := h.put1 1 (.bool true) (show (1 : Nat) < 11 by omega)
      have HH : Hid (Own E _ (Hp.blk (w.heap.size + 1 + 1 + 1) CLT (clientC m0 true false ⟨#[]⟩ ⟨#[]⟩ 0 none 0 0 0 0 0 0).toArray :: Hp.xrd (w.heap.size + 1 + 1) s1 :: Hp.blk (w.heap.size + 1) CLT (clientC ⟨#[]⟩ false false ⟨#[]⟩ ⟨#[]⟩ 0 none 0 0 0 0 0 0).toArray :: Hp.blk w.heap.size ITT #[.string k, .string v] :: L)) := Lib.hid hs
      clear h hs e1
      go_wp2_with fail
      go_meet
      case rel => rw [e2]; exact HH.out
    · have z1 : (fg == 1) = false := by rw [beq_eq_false_iff_ne]; exact e1
      by_cases e3 : fg = 3
      · have z3 : (fg == 3) = true := by rw [beq_iff_eq]; exact e3
        have e2 : pu = true := by rw [HPU.out.1, z1, z3]; rfl
        obtain ⟨⟨old, ho⟩, hfz, hs⟩ := h.put1 1 (.bool true) (show (1 : Nat) < 11 by omega)
        have HH : Hid (Own E _ (Hp.blk (w.heap.size + 1 + 1 + 1) CLT (clientC m0 true false ⟨#[]⟩ ⟨#[]⟩ 0 none 0 0 0 0 0 0).toArray :: Hp.xrd (w.heap.size + 1 + 1) s1 :: Hp.blk (w.heap.size + 1) CLT (clientC ⟨#[]⟩ false false ⟨#[]⟩ ⟨#[]⟩ 0 none 0 0 0 0 0 0).toArray :: Hp.blk w.heap.size ITT #[.string k, .string v] :: L)) := Lib.hid hs
        clear h hs e1 e3
        go_wp2_with fail
        go_meet
        case rel => rw [e2]; exact HH.out
      · have z3 : (fg == 3) = false := by rw [beq_eq_false_iff_ne]; exact e3
        have e2 : pu = false := by rw [HPU.out.1, z1, z3]; rfl
        obtain ⟨⟨old, ho⟩, hfz, hs⟩ := h.put1 1 (.bool false) (show (1 : Nat) < 11 by omega)
        have HH : Hid (Own E _ (Hp.blk (w.heap.size + 1 + 1 + 1) CLT (clientC m0 false false ⟨#[]⟩ ⟨#[]⟩ 0 none 0 0 0 0 0 0).toArray :: Hp.xrd (w.heap.size + 1 + 1) s1 :: Hp.blk (w.heap.size + 1) CLT (clientC ⟨#[]⟩ false false ⟨#[]⟩ ⟨#[]⟩ 0 none 0 0 0 0 0 0).toArray :: Hp.blk w.heap.size ITT #[.string k, .string v] :: L)) := Lib.hid hs
        clear h hs e1 e3
        go_wp2_with fail
        go_meet
        case rel => rw [e2]; exact HH.out
  clear H1
  have H1 := Lib.hid hcut
  clear hcut
  go_upto_region 7 with fail
  go_cut [] from 10 (fun w' => Own E w' (Hp.blk (w.heap.size + 1 + 1 + 1) CLT (clientC m0 pu sw ⟨#[]⟩ ⟨#[]⟩ 0 none 0 0 0 0 0 0).toArray :: Hp.xrd (w.heap.size + 1 + 1) s1 :: Hp.blk (w.heap.size + 1) CLT (clientC ⟨#[]⟩ false false ⟨#[]⟩ ⟨#[]⟩ 0 none 0 0 0 0 0 0).toArray :: Hp.blk w.heap.size ITT #[.string k, .string v] :: L))
  case first =>
    have h := H1.out
    clear H1
    by_cases e1 : fg = 2
    · have z1 : (fg == 2) = true := by rw [beq_iff_eq]; exact e1
      have e2 : sw = true := by rw [HPU.out.2, z1]; rfl
      obtain ⟨⟨old, ho⟩, hfz, hs⟩ := h.put1 2 (.bool true) (show (2 : Nat) < 11 by omega)
      have HH : Hid (Own E _ (Hp.blk (w.heap.size + 1 + 1 + 1) CLT (clientC m0 pu true ⟨#[]⟩ ⟨#[]⟩ 0 none 0 0 0 0 0 0).toArray :: Hp.xrd (w.heap.size + 1 + 1) s1 :: Hp.blk (w.heap.size + 1) CLT (clientC ⟨#[]⟩ false false ⟨#[]⟩ ⟨#[]⟩ 0 none 0 0 0 0 0 0).toArray :: Hp.blk w.heap.size ITT #[.string k, .string v] :: L)) := Lib.hid hs
      clear h hs e1
      go_wp2_with fail
      go_meet
      case rel => rw [e2]; exact HH.out
    · have z1 : (fg == 2) = false := by rw [beq_eq_false_iff_ne]; exact e1
      by_cases e3 : fg = 3
      · have z3 : (fg == 3) = true := by rw [beq_iff_eq]; exact e3
        have e2 : sw = true := by rw [HPU.out.2, z1, z3]; rfl
        obtain ⟨⟨old, ho⟩, hfz, hs⟩ := h.put1 2 (.bool true) (show (2 : Nat) < 11 by omega)
        have HH : Hid (Own E _ (Hp.blk (w.heap.size + 1 + 1 + 1) CLT (clientC m0 pu true ⟨#[]⟩ ⟨#[]⟩ 0 none 0 0 0 0 0 0).toArray :: Hp.xrd (w.heap.size + 1 + 1) s1 :: Hp.blk (w.heap.size + 1) CLT (clientC ⟨#[]⟩ false false ⟨#[]⟩ ⟨#[]⟩ 0 none 0 0 0 0 0 0).toArray :: Hp.blk w.heap.size ITT #[.string k, .string v] :: L)) := Lib.hid hs
        clear h hs e1 e3
        go_wp2_with fail
        go_meet
        case rel => rw [e2]; exact HH.out
      · have z3 : (fg == 3) = false := by rw [beq_eq_false_iff_ne]; exact e3
        have e2 : sw = false := by rw [HPU.out.2, z1, z3]; rfl
        obtain ⟨⟨old, ho⟩, hfz, hs⟩ := h.put1 2 (.bool false) (show (2 : Nat) < 11 by omega)
        have HH : Hid (Own E _ (Hp.blk (w.heap.size + 1 + 1 + 1) CLT (clientC m0 pu false ⟨#[]⟩ ⟨#[]⟩ 0 none 0 0 0 0 0 0).toArray :: Hp.xrd (w.heap.size + 1 + 1) s1 :: Hp.blk (w.heap.size + 1) CLT (clientC ⟨#[]⟩ false false ⟨#[]⟩ ⟨#[]⟩ 0 none 0 0 0 0 0 0).toArray :: Hp.blk w.heap.size ITT #[.string k, .string v] :: L)) := Lib.hid hs
        clear h hs e1 e3
        go_wp2_with fail
        go_meet
        case rel => rw [e2]; exact HH.out
  clear H1
  have H1 := Lib.hid hcut
  clear hcut
  by_cases he : er = 0
  · subst he
    by_cases hx : k = x1 ∧ v = x2
    · have HY : Hid ((⟨m0, pu, sw, dh, od, ut, xs, ii, ab, gr, li⟩ : ClientV).R = (k, v, 0)) := Lib.hid (by
        show (clientR m0 pu sw dh od ut xs ii ab gr li) = _
        rw [HRR.out, hx.1, hx.2])
      have hb : (decide (k = x1) && decide (v = x2)) = true := by rw [decide_eq_true hx.1, decide_eq_true hx.2]; rfl
      clear hx HRR HNO
      go_wp2_with (first
        | ((with_reducible refine (K2.out _ _ H1.out.f1).mono ?_); clear K2 H1; rintro ev w2 ⟨rfl, h⟩; obtain ⟨⟨old2, ho2⟩, hf2, hs⟩ := h.f1.put1 3 (.string dh) (show (3 : Nat) < 11 by omega); have H2 : Hid (Own E _ (Hp.blk (w.heap.size + 1 + 1 + 1) CLT (clientC m0 pu sw dh ⟨#[]⟩ 0 none 0 0 0 0 0 0).toArray :: Hp.xrd (w.heap.size + 1 + 1) s2 :: Hp.blk (w.heap.size + 1) CLT (clientC ⟨#[]⟩ false false ⟨#[]⟩ ⟨#[]⟩ 0 none 0 0 0 0 0 0).toArray :: Hp.blk w.heap.size ITT #[.string k, .string v] :: L)) := Lib.hid hs; clear h hs)
        | ((with_reducible refine (K3.out _ _ H2.out.f1).mono ?_); clear K3 H2; rintro ev w2 ⟨rfl, h⟩; obtain ⟨⟨old3, ho3⟩, hf3, hs⟩ := h.f1.put1 4 (.string od) (show (4 : Nat) < 11 by omega); have H3 : Hid (Own E _ (Hp.blk (w.heap.size + 1 + 1 + 1) CLT (clientC m0 pu sw dh od 0 none 0 0 0 0 0 0).toArray :: Hp.xrd (w.heap.size + 1 + 1) s3 :: Hp.blk (w.heap.size + 1) CLT (clientC ⟨#[]⟩ false false ⟨#[]⟩ ⟨#[]⟩ 0 none 0 0 0 0 0 0).toArray :: Hp.blk w.heap.size ITT #[.string k, .string v] :: L)) := Lib.hid hs; clear h hs)
        | ((with_reducible refine (K4.out _ _ H3.out.f1).mono ?_); clear K4 H3; rintro ev w2 ⟨rfl, h⟩; obtain ⟨⟨old4, ho4⟩, hf4, hs⟩ := h.f1.put1 5 (.int .i64 ut) (show (5 : Nat) < 11 by omega); have H4 : Hid (Own E _ (Hp.blk (w.heap.size + 1 + 1 + 1) CLT (clientC m0 pu sw dh od ut none 0 0 0 0 0 0).toArray :: Hp.xrd (w.heap.size + 1 + 1) s4 :: Hp.blk (w.heap.size + 1) CLT (clientC ⟨#[]⟩ false false ⟨#[]⟩ ⟨#[]⟩ 0 none 0 0 0 0 0 0).toArray :: Hp.blk w.heap.size ITT #[.string k, .string v] :: L)) := Lib.hid hs; clear h hs)
        | ((with_reducible refine (K5.out _ _ H4.out.f1).mono ?_); clear K5 H4; rintro ev w2 ⟨A, cc, rfl, h⟩; obtain ⟨⟨old5, ho5⟩, hf5, hs⟩ := h.f1.f2.put1 6 (.slice A xs.length cc) (show (6 : Nat) < 11 by omega); have H5 : Hid (Own E _ (Hp.blk (w.heap.size + 1 + 1 + 1) CLT (clientC m0 pu sw dh od ut A xs.length cc 0 0 0 0).toArray :: Hp.xrd (w.heap.size + 1 + 1) s5 :: Hp.lst ST (.slice A xs.length cc) (xs.map Value.string) :: Hp.blk (w.heap.size + 1) CLT (clientC ⟨#[]⟩ false false ⟨#[]⟩ ⟨#[]⟩ 0 none 0 0 0 0 0 0).toArray :: Hp.blk w.heap.size ITT #[.string k, .string v] :: L)) := Lib.hid hs; clear h hs)
        | ((with_reducible refine (K6.out _ _ H5.out.f1).mono ?_); clear K6 H5; rintro ev w2 ⟨rfl, h⟩; obtain ⟨⟨old6, ho6⟩, hf6, hs⟩ := h.f1.put1 7 (.int .i64 ii) (show (7 : Nat) < 11 by omega); have H6 : Hid (Own E _ (Hp.blk (w.heap.size + 1 + 1 + 1) CLT (clientC m0 pu sw dh od ut A xs.length cc ii 0 0 0).toArray :: Hp.xrd (w.heap.size + 1 + 1) s6 :: Hp.lst ST (.slice A xs.length cc) (xs.map Value.string) :: Hp.blk (w.heap.size + 1) CLT (clientC ⟨#[]⟩ false false ⟨#[]⟩ ⟨#[]⟩ 0 none 0 0 0 0 0 0).toArray :: Hp.blk w.heap.size ITT #[.string k, .string v] :: L)) := Lib.hid hs; clear h hs)
        | ((with_reducible refine (K7.out _ _ H6.out.f1).mono ?_); clear K7 H6; rintro ev w2 ⟨rfl, h⟩; obtain ⟨⟨old7, ho7⟩, hf7, hs⟩ := h.f1.put1 8 (.int .i64 ab) (show (8 : Nat) < 11 by omega); have H7 : Hid (Own E _ (Hp.blk (w.heap.size + 1 + 1 + 1) CLT (clientC m0 pu sw dh od ut A xs.length cc ii ab 0 0).toArray :: Hp.xrd (w.heap.size + 1 + 1) s7 :: Hp.lst ST (.slice A xs.length cc) (xs.map Value.string) :: Hp.blk (w.heap.size + 1) CLT (clientC ⟨#[]⟩ false false ⟨#[]⟩ ⟨#[]⟩ 0 none 0 0 0 0 0 0).toArray :: Hp.blk w.heap.size ITT #[.string k, .string v] :: L)) := Lib.hid hs; clear h hs)
        | ((with_reducible refine (K8.out _ _ H7.out.f1).mono ?_); clear K8 H7; rintro ev w2 ⟨rfl, h⟩; obtain ⟨⟨old8, ho8⟩, hf8, hs⟩ := h.f1.put1 9 (.int .i64 gr) (show (9 : Nat) < 11 by omega); have H8 : Hid (Own E _ (Hp.blk (w.heap.size + 1 + 1 + 1) CLT (clientC m0 pu sw dh od ut A xs.length cc ii ab gr 0).toArray :: Hp.xrd (w.heap.size + 1 + 1) s8 :: Hp.lst ST (.slice A xs.length cc) (xs.map Value.string) :: Hp.blk (w.heap.size + 1) CLT (clientC ⟨#[]⟩ false false ⟨#[]⟩ ⟨#[]⟩ 0 none 0 0 0 0 0 0).toArray :: Hp.blk w.heap.size ITT #[.string k, .string v] :: L)) := Lib.hid hs; clear h hs)
        | ((with_reducible refine (K9.out _ _ H8.out.f1).mono ?_); clear K9 H8; rintro ev w2 ⟨rfl, h⟩; obtain ⟨⟨old9, ho9⟩, hf9, hs⟩ := h.f1.put1 10 (.int .i64 li) (show (10 : Nat) < 11 by omega); have H9 : Hid (Own E _ (Hp.blk (w.heap.size + 1 + 1 + 1) CLT (clientC m0 pu sw dh od ut A xs.length cc ii ab gr li).toArray :: Hp.xrd (w.heap.size + 1 + 1) s9 :: Hp.lst ST (.slice A xs.length cc) (xs.map Value.string) :: Hp.blk (w.heap.size + 1) CLT (clientC ⟨#[]⟩ false false ⟨#[]⟩ ⟨#[]⟩ 0 none 0 0 0 0 0 0).toArray :: Hp.blk w.heap.size ITT #[.string k, .string v] :: L)) := Lib.hid hs; clear h hs)
        | (with_reducible refine at_slot (k := some 63) ?_; refine wpList_load_arr (o := ⟨some 63, _, _, _, _, _⟩) H9.out 0 (clientC m0 pu sw dh od ut A xs.length cc ii ab gr li) (fun jj u hu => by simpa using hu) hd hrow (by kernel_rfl) rfl rfl rfl ?_)
        | ((with_reducible refine (KPR.out _ _ _ _ H9.out.f2).mono ?_); clear KPR H9; rintro ev w2 ⟨rfl, h⟩; have H3 := Lib.hid ((show Own E w2 (Hp.blk (w.heap.size + 1 + 1 + 1) CLT (clientC m0 pu sw dh od ut A xs.length cc ii ab gr li).toArray :: Hp.xrd (w.heap.size + 1 + 1) s9 :: Hp.lst ST (.slice A xs.length cc) (xs.map Value.string) :: Hp.blk (w.heap.size + 1) CLT (clientC ⟨#[]⟩ false false ⟨#[]⟩ ⟨#[]⟩ 0 none 0 0 0 0 0 0).toArray :: Hp.blk w.heap.size ITT #[.string k, .string v] :: L) from h.f2.f2).alloc (.cells #[.string x1, .string x2] ITT)); clear h; have p0 := H3.out.f5.cell 0; have p1 := H3.out.f5.cell 1; simp only [List.getElem?_toArray, List.getElem?_cons_zero, List.getElem?_cons_succ] at p0 p1)
        | ((with_reducible refine (KSM.out _ _ _ _ _ _ H3.out).mono ?_); clear KSM H3; rintro ev w2 ⟨rfl, h⟩; have H3 := Lib.hid h; clear h p0 p1)
        | (with_reducible refine at_slot (k := some 77) ?_; refine wpList_load_arr (o := ⟨some 77, _, _, _, _, _⟩) H3.out.f1 0 (clientC m0 pu sw dh od ut A xs.length cc ii ab gr li) (fun jj u hu => by simpa using hu) hd hrow (by kernel_rfl) rfl rfl rfl ?_)
        | (with_reducible refine at_slot (k := none) ?_; refine wpList_store_whole (o := ⟨none, _, _, _, _, _⟩) (cs := (clientC ⟨#[]⟩ false false ⟨#[]⟩ ⟨#[]⟩ 0 none 0 0 0 0 0 0)) (vs := (clientC m0 pu sw dh od ut A xs.length cc ii ab gr li)) H3.out.f4 rfl (client_one _ _ _ _ _ _ _ _ _ _ _ _ _) (by kernel_rfl) rfl rfl rfl rfl ?_; clear H3; intro w7 h; have H8 := Lib.hid h; clear h))
      refine bodyPost_ret (results_ct rfl rfl H8.out hd hrow (by kernel_rfl)) rfl ?_
      exact .inl ⟨⟨m0, pu, sw, dh, od, ut, xs, ii, ab, gr, li⟩, A, cc, rfl, HY.out, H8.out.drop.drop.drop.drop.f1.drop⟩
    · have HN : Hid (∀ f : ClientV, f.R ≠ (k, v, 0)) := Lib.hid fun f hf => by
        have := HNO.out f hf
        injection this with a b
        injection b with b c
        exact hx ⟨a.symm, b.symm⟩
      have hb : (decide (k = x1) && decide (v = x2)) = false := by
        rw [← Bool.not_eq_true, Bool.and_eq_true, decide_eq_true_eq, decide_eq_true_eq]; exact hx
      clear hx HRR HNO
      go_wp2_with (first
        | ((with_reducible refine (K2.out _ _ H1.out.f1).mono ?_); clear K2 H1; rintro ev w2 ⟨rfl, h⟩; obtain ⟨⟨old2, ho2⟩, hf2, hs⟩ := h.f1.put1 3 (.string dh) (show (3 : Nat) < 11 by omega); have H2 : Hid (Own E _ (Hp.blk (w.heap.size + 1 + 1 + 1) CLT (clientC m0 pu sw dh ⟨#[]⟩ 0 none 0 0 0 0 0 0).toArray :: Hp.xrd (w.heap.size + 1 + 1) s2 :: Hp.blk (w.heap.size + 1) CLT (clientC ⟨#[]⟩ false false ⟨#[]⟩ ⟨#[]⟩ 0 none 0 0 0 0 0 0).toArray :: Hp.blk w.heap.size ITT #[.string k, .string v] :: L)) := Lib.hid hs; clear h hs)
        | ((with_reducible refine (K3.out _ _ H2.out.f1).mono ?_); clear K3 H2; rintro ev w2 ⟨rfl, h⟩; obtain ⟨⟨old3, ho3⟩, hf3, hs⟩ := h.f1.put1 4 (.string od) (show (4 : Nat) < 11 by omega); have H3 : Hid (Own E _ (Hp.blk (w.heap.size + 1 + 1 + 1) CLT (clientC m0 pu sw dh od 0 none 0 0 0 0 0 0).toArray :: Hp.xrd (w.heap.size + 1 + 1) s3 :: Hp.blk (w.heap.size + 1) CLT (clientC ⟨#[]⟩ false false ⟨#[]⟩ ⟨#[]⟩ 0 none 0 0 0 0 0 0).toArray :: Hp.blk w.heap.size ITT #[.string k, .string v] :: L)) := Lib.hid hs; clear h hs)
        | ((with_reducible refine (K4.out _ _ H3.out.f1).mono ?_); clear K4 H3; rintro ev w2 ⟨rfl, h⟩; obtain ⟨⟨old4, ho4⟩, hf4, hs⟩ := h.f1.put1 5 (.int .i64 ut) (show (5 : Nat) < 11 by omega); have H4 : Hid (Own E _ (Hp.blk (w.heap.size + 1 + 1 + 1) CLT (clientC m0 pu sw dh od ut none 0 0 0 0 0 0).toArray :: Hp.xrd (w.heap.size + 1 + 1) s4 :: Hp.blk (w.heap.size + 1) CLT (clientC ⟨#[]⟩ false false ⟨#[]⟩ ⟨#[]⟩ 0 none 0 0 0 0 0 0).toArray :: Hp.blk w.heap.size ITT #[.string k, .string v] :: L)) := Lib.hid hs; clear h hs)
        | ((with_reducible refine (K5.out _ _ H4.out.f1).mono ?_); clear K5 H4; rintro ev w2 ⟨A, cc, rfl, h⟩; obtain ⟨⟨old5, ho5⟩, hf5, hs⟩ := h.f1.f2.put1 6 (.slice A xs.length cc) (show (6 : Nat) < 11 by omega); have H5 : Hid (Own E _ (Hp.blk (w.heap.size + 1 + 1 + 1) CLT (clientC m0 pu sw dh od ut A xs.length cc 0 0 0 0).toArray :: Hp.xrd (w.heap.size + 1 + 1) s5 :: Hp.lst ST (.slice A xs.length cc) (xs.map Value.string) :: Hp.blk (w.heap.size + 1) CLT (clientC ⟨#[]⟩ false false ⟨#[]⟩ ⟨#[]⟩ 0 none 0 0 0 0 0 0).toArray :: Hp.blk w.heap.size ITT #[.string k, .string v] :: L)) := Lib.hid hs; clear h hs)
        | ((with_reducible refine (K6.out _ _ H5.out.f1).mono ?_); clear K6 H5; rintro ev w2 ⟨rfl, h⟩; obtain ⟨⟨old6, ho6⟩, hf6, hs⟩ := h.f1.put1 7 (.int .i64 ii) (show (7 : Nat) < 11 by omega); have H6 : Hid (Own E _ (Hp.blk (w.heap.size + 1 + 1 + 1) CLT (clientC m0 pu sw dh od ut A xs.length cc ii 0 0 0).toArray :: Hp.xrd (w.heap.size + 1 + 1) s6 :: Hp.lst ST (.slice A xs.length cc) (xs.map Value.string) :: Hp.blk (w.heap.size + 1) CLT (clientC ⟨#[]⟩ false false ⟨#[]⟩ ⟨#[]⟩ 0 none 0 0 0 0 0 0).toArray :: Hp.blk w.heap.size ITT #[.string k, .string v] :: L)) := Lib.hid hs; clear h hs)
        | ((with_reducible refine (K7.out _ _ H6.out.f1).mono ?_); clear K7 H6; rintro ev w2 ⟨rfl, h⟩; obtain ⟨⟨old7, ho7⟩, hf7, hs⟩ := h.f1.put1 8 (.int .i64 ab) (show (8 : Nat) < 11 by omega); have H7 : Hid (Own E _ (Hp.blk (w.heap.size + 1 + 1 + 1) CLT (clientC m0 pu sw dh od ut A xs.length cc ii ab 0 0).toArray :: Hp.xrd (w.heap.size + 1 + 1) s7 :: Hp.lst ST (.slice A xs.length cc) (xs.map Value.string) :: Hp.blk (w.heap.size + 1) CLT (clientC ⟨#[]⟩ false false ⟨#[]⟩ ⟨#[]⟩ 0 none 0 0 0 0 0 0).toArray :: Hp.blk w.heap.size ITT #[.string k, .string v] :: L)) := Lib.hid hs; clear h hs)
        | ((with_reducible refine (K8.out _ _ H7.out.f1).mono ?_); clear K8 H7; rintro ev w2 ⟨rfl, h⟩; obtain ⟨⟨old8, ho8⟩, hf8, hs⟩ := h.f1.put1 9 (.int .i64 gr) (show (9 : Nat) < 11 by omega); have H8 : Hid (Own E _ (Hp.blk (w.heap.size + 1 + 1 + 1) CLT (clientC m0 pu sw dh od ut A xs.length cc ii ab gr 0).toArray :: Hp.xrd (w.heap.size + 1 + 1) s8 :: Hp.lst ST (.slice A xs.length cc) (xs.map Value.string) :: Hp.blk (w.heap.size + 1) CLT (clientC ⟨#[]⟩ false false ⟨#[]⟩ ⟨#[]⟩ 0 none 0 0 0 0 0 0).toArray :: Hp.blk w.heap.size ITT #[.string k, .string v] :: L)) := Lib.hid hs; clear h hs)
        | ((with_reducible refine (K9.out _ _ H8.out.f1).mono ?_); clear K9 H8; rintro ev w2 ⟨rfl, h⟩; obtain ⟨⟨old9, ho9⟩, hf9, hs⟩ := h.f1.put1 10 (.int .i64 li) (show (10 : Nat) < 11 by omega); have H9 : Hid (Own E _ (Hp.blk (w.heap.size + 1 + 1 + 1) CLT (clientC m0 pu sw dh od ut A xs.length cc ii ab gr li).toArray :: Hp.xrd (w.heap.size + 1 + 1) s9 :: Hp.lst ST (.slice A xs.length cc) (xs.map Value.string) :: Hp.blk (w.heap.size + 1) CLT (clientC ⟨#[]⟩ false false ⟨#[]⟩ ⟨#[]⟩ 0 none 0 0 0 0 0 0).toArray :: Hp.blk w.heap.size ITT #[.string k, .string v] :: L)) := Lib.hid hs; clear h hs)
        | (with_reducible refine at_slot (k := some 63) ?_; refine wpList_load_arr (o := ⟨some 63, _, _, _, _, _⟩) H9.out 0 (clientC m0 pu sw dh od ut A xs.length cc ii ab gr li) (fun jj u hu => by simpa using hu) hd hrow (by kernel_rfl) rfl rfl rfl ?_)
        | ((with_reducible refine (KPR.out _ _ _ _ H9.out.f2).mono ?_); clear KPR H9; rintro ev w2 ⟨rfl, h⟩; have H3 := Lib.hid ((show Own E w2 (Hp.blk (w.heap.size + 1 + 1 + 1) CLT (clientC m0 pu sw dh od ut A xs.length cc ii ab gr li).toArray :: Hp.xrd (w.heap.size + 1 + 1) s9 :: Hp.lst ST (.slice A xs.length cc) (xs.map Value.string) :: Hp.blk (w.heap.size + 1) CLT (clientC ⟨#[]⟩ false false ⟨#[]⟩ ⟨#[]⟩ 0 none 0 0 0 0 0 0).toArray :: Hp.blk w.heap.size ITT #[.string k, .string v] :: L) from h.f2.f2).alloc (.cells #[.string x1, .string x2] ITT)); clear h; have p0 := H3.out.f5.cell 0; have p1 := H3.out.f5.cell 1; simp only [List.getElem?_toArray, List.getElem?_cons_zero, List.getElem?_cons_succ] at p0 p1)
        | ((with_reducible refine (KSM.out _ _ _ _ _ _ H3.out).mono ?_); clear KSM H3; rintro ev w2 ⟨rfl, h⟩; have H3 := Lib.hid h; clear h p0 p1)
        | (with_reducible refine at_slot (k := some 77) ?_; refine wpList_load_arr (o := ⟨some 77, _, _, _, _, _⟩) H3.out.f1 0 (clientC m0 pu sw dh od ut A xs.length cc ii ab gr li) (fun jj u hu => by simpa using hu) hd hrow (by kernel_rfl) rfl rfl rfl ?_)
        | (with_reducible refine at_slot (k := none) ?_; refine wpList_store_whole (o := ⟨none, _, _, _, _, _⟩) (cs := (clientC ⟨#[]⟩ false false ⟨#[]⟩ ⟨#[]⟩ 0 none 0 0 0 0 0 0)) (vs := (clientC ⟨#[]⟩ false false ⟨#[]⟩ ⟨#[]⟩ 0 none 0 0 0 0 0 0)) H3.out.f4 rfl (client_one _ _ _ _ _ _ _ _ _ _ _ _ _) (by kernel_rfl) rfl rfl rfl rfl ?_; clear H3; intro w7 h; have H8 := Lib.hid h; clear h))
      refine bodyPost_ret (results_ct rfl rfl H8.out hd hrow (by kernel_rfl)) rfl ?_
      exact .inr ⟨rfl, HN.out, H8.out.drop.drop.drop.drop.drop.drop⟩
  · have HN : Hid (∀ f : ClientV, f.R ≠ (k, v, 0)) := Lib.hid fun f hf => by
      have := HNO.out f hf
      injection this with a b
      injection b with b c
      exact he c
    have hz : (er != 0) = true := by rw [bne_iff_ne]; exact he
    clear he HRR HNO
    go_wp2_with (first
      | ((with_reducible refine (K2.out _ _ H1.out.f1).mono ?_); clear K2 H1; rintro ev w2 ⟨rfl, h⟩; obtain ⟨⟨old2, ho2⟩, hf2, hs⟩ := h.f1.put1 3 (.string dh) (show (3 : Nat) < 11 by omega); have H2 : Hid (Own E _ (Hp.blk (w.heap.size + 1 + 1 + 1) CLT (clientC m0 pu sw dh ⟨#[]⟩ 0 none 0 0 0 0 0 0).toArray :: Hp.xrd (w.heap.size + 1 + 1) s2 :: Hp.blk (w.heap.size + 1) CLT (clientC ⟨#[]⟩ false false ⟨#[]⟩ ⟨#[]⟩ 0 none 0 0 0 0 0 0).toArray :: Hp.blk w.heap.size ITT #[.string k, .string v] :: L)) := Lib.hid hs; clear h hs)
      | ((with_reducible refine (K3.out _ _ H2.out.f1).mono ?_); clear K3 H2; rintro ev w2 ⟨rfl, h⟩; obtain ⟨⟨old3, ho3⟩, hf3, hs⟩ := h.f1.put1 4 (.string od) (show (4 : Nat) < 11 by omega); have H3 : Hid (Own E _ (Hp.blk (w.heap.size + 1 + 1 + 1) CLT (clientC m0 pu sw dh od 0 none 0 0 0 0 0 0).toArray :: Hp.xrd (w.heap.size + 1 + 1) s3 :: Hp.blk (w.heap.size + 1) CLT (clientC ⟨#[]⟩ false false ⟨#[]⟩ ⟨#[]⟩ 0 none 0 0 0 0 0 0).toArray :: Hp.blk w.heap.size ITT #[.string k, .string v] :: L)) := Lib.hid hs; clear h hs)
      | ((with_reducible refine (K4.out _ _ H3.out.f1).mono ?_); clear K4 H3; rintro ev w2 ⟨rfl, h⟩; obtain ⟨⟨old4, ho4⟩, hf4, hs⟩ := h.f1.put1 5 (.int .i64 ut) (show (5 : Nat) < 11 by omega); have H4 : Hid (Own E _ (Hp.blk (w.heap.size + 1 + 1 + 1) CLT (clientC m0 pu sw dh od ut none 0 0 0 0 0 0).toArray :: Hp.xrd (w.heap.size + 1 + 1) s4 :: Hp.blk (w.heap.size + 1) CLT (clientC ⟨#[]⟩ false false ⟨#[]⟩ ⟨#[]⟩ 0 none 0 0 0 0 0 0).toArray :: Hp.blk w.heap.size ITT #[.string k, .string v] :: L)) := Lib.hid hs; clear h hs)
      | ((with_reducible refine (K5.out _ _ H4.out.f1).mono ?_); clear K5 H4; rintro ev w2 ⟨A, cc, rfl, h⟩; obtain ⟨⟨old5, ho5⟩, hf5, hs⟩ := h.f1.f2.put1 6 (.slice A xs.length cc) (show (6 : Nat) < 11 by omega); have H5 : Hid (Own E _ (Hp.blk (w.heap.size + 1 + 1 + 1) CLT (clientC m0 pu sw dh od ut A xs.length cc 0 0 0 0).toArray :: Hp.xrd (w.heap.size + 1 + 1) s5 :: Hp.lst ST (.slice A xs.length cc) (xs.map Value.string) :: Hp.blk (w.heap.size + 1) CLT (clientC ⟨#[]⟩ false false ⟨#[]⟩ ⟨#[]⟩ 0 none 0 0 0 0 0 0).toArray :: Hp.blk w.heap.size ITT #[.string k, .string v] :: L)) := Lib.hid hs; clear h hs)
      | ((with_reducible refine (K6.out _ _ H5.out.f1).mono ?_); clear K6 H5; rintro ev w2 ⟨rfl, h⟩; obtain ⟨⟨old6, ho6⟩, hf6, hs⟩ := h.f1.put1 7 (.int .i64 ii) (show (7 : Nat) < 11 by omega); have H6 : Hid (Own E _ (Hp.blk (w.heap.size + 1 + 1 + 1) CLT (clientC m0 pu sw dh od ut A xs.length cc ii 0 0 0).toArray :: Hp.xrd (w.heap.size + 1 + 1) s6 :: Hp.lst ST (.slice A xs.length cc) (xs.map Value.string) :: Hp.blk (w.heap.size + 1) CLT (clientC ⟨#[]⟩ false false ⟨#[]⟩ ⟨#[]⟩ 0 none 0 0 0 0 0 0).toArray :: Hp.blk w.heap.size ITT #[.string k, .string v] :: L)) := Lib.hid hs; clear h hs)
      | ((with_reducible refine (K7.out _ _ H6.out.f1).mono ?_); clear K7 H6; rintro ev w2 ⟨rfl, h⟩; obtain ⟨⟨old7, ho7⟩, hf7, hs⟩ := h.f1.put1 8 (.int .i64 ab) (show (8 : Nat) < 11 by omega); have H7 : Hid (Own E _ (Hp.blk (w.heap.size + 1 + 1 + 1) CLT (clientC m0 pu sw dh od ut A xs.length cc ii ab 0 0).toArray :: Hp.xrd (w.heap.size + 1 + 1) s7 :: Hp.lst ST (.slice A xs.length cc) (xs.map Value.string) :: Hp.blk (w.heap.size + 1) CLT (clientC ⟨#[]⟩ false false ⟨#[]⟩ ⟨#[]⟩ 0 none 0 0 0 0 0 0).toArray :: Hp.blk w.heap.size ITT #[.string k, .string v] :: L)) := Lib.hid hs; clear h hs)
      | ((with_reducible refine (K8.out _ _ H7.out.f1).mono ?_); clear K8 H7; rintro ev w2 ⟨rfl, h⟩; obtain ⟨⟨old8, ho8⟩, hf8, hs⟩ := h.f1.put1 9 (.int .i64 gr) (show (9 : Nat) < 11 by omega); have H8 : Hid (Own E _ (Hp.blk (w.heap.size + 1 + 1 + 1) CLT (clientC m0 pu sw dh od ut A xs.length cc ii ab gr 0).toArray :: Hp.xrd (w.heap.size + 1 + 1) s8 :: Hp.lst ST (.slice A xs.length cc) (xs.map Value.string) :: Hp.blk (w.heap.size + 1) CLT (clientC ⟨#[]⟩ false false ⟨#[]⟩ ⟨#[]⟩ 0 none 0 0 0 0 0 0).toArray :: Hp.blk w.heap.size ITT #[.string k, .string v] :: L)) := Lib.hid hs; clear h hs)
      | ((with_reducible refine (K9.out _ _ H8.out.f1).mono ?_); clear K9 H8; rintro ev w2 ⟨rfl, h⟩; obtain ⟨⟨old9, ho9⟩, hf9, hs⟩ := h.f1.put1 10 (.int .i64 li) (show (10 : Nat) < 11 by omega); have H9 : Hid (Own E _ (Hp.blk (w.heap.size + 1 + 1 + 1) CLT (clientC m0 pu sw dh od ut A xs.length cc ii ab gr li).toArray :: Hp.xrd (w.heap.size + 1 + 1) s9 :: Hp.lst ST (.slice A xs.length cc) (xs.map Value.string) :: Hp.blk (w.heap.size + 1) CLT (clientC ⟨#[]⟩ false false ⟨#[]⟩ ⟨#[]⟩ 0 none 0 0 0 0 0 0).toArray :: Hp.blk w.heap.size ITT #[.string k, .string v] :: L)) := Lib.hid hs; clear h hs)
      | (with_reducible refine at_slot (k := some 63) ?_; refine wpList_load_arr (o := ⟨some 63, _, _, _, _, _⟩) H9.out 0 (clientC m0 pu sw dh od ut A xs.length cc ii ab gr li) (fun jj u hu => by simpa using hu) hd hrow (by kernel_rfl) rfl rfl rfl ?_)
      | ((with_reducible refine (KPR.out _ _ _ _ H9.out.f2).mono ?_); clear KPR H9; rintro ev w2 ⟨rfl, h⟩; have H3 := Lib.hid ((show Own E w2 (Hp.blk (w.heap.size + 1 + 1 + 1) CLT (clientC m0 pu sw dh od ut A xs.length cc ii ab gr li).toArray :: Hp.xrd (w.heap.size + 1 + 1) s9 :: Hp.lst ST (.slice A xs.length cc) (xs.map Value.string) :: Hp.blk (w.heap.size + 1) CLT (clientC ⟨#[]⟩ false false ⟨#[]⟩ ⟨#[]⟩ 0 none 0 0 0 0 0 0).toArray :: Hp.blk w.heap.size ITT #[.string k, .string v] :: L) from h.f2.f2).alloc (.cells #[.string x1, .string x2] ITT)); clear h; have p0 := H3.out.f5.cell 0; have p1 := H3.out.f5.cell 1; simp only [List.getElem?_toArray, List.getElem?_cons_zero, List.getElem?_cons_succ] at p0 p1)
      | ((with_reducible refine (KSM.out _ _ _ _ _ _ H3.out).mono ?_); clear KSM H3; rintro ev w2 ⟨rfl, h⟩; have H3 := Lib.hid h; clear h p0 p1)
      | (with_reducible refine at_slot (k := some 77) ?_; refine wpList_load_arr (o := ⟨some 77, _, _, _, _, _⟩) H3.out.f1 0 (clientC m0 pu sw dh od ut A xs.length cc ii ab gr li) (fun jj u hu => by simpa using hu) hd hrow (by kernel_rfl) rfl rfl rfl ?_)
      | (with_reducible refine at_slot (k := none) ?_; refine wpList_store_whole (o := ⟨none, _, _, _, _, _⟩) (cs := (clientC ⟨#[]⟩ false false ⟨#[]⟩ ⟨#[]⟩ 0 none 0 0 0 0 0 0)) (vs := (clientC ⟨#[]⟩ false false ⟨#[]⟩ ⟨#[]⟩ 0 none 0 0 0 0 0 0)) H3.out.f4 rfl (client_one _ _ _ _ _ _ _ _ _ _ _ _ _) (by kernel_rfl) rfl rfl rfl rfl ?_; clear H3; intro w7 h; have H8 := Lib.hid h; clear h))
    refine bodyPost_ret (results_ct rfl rfl H8.out hd hrow (by kernel_rfl)) rfl ?_
    exact .inr ⟨rfl, HN.out, H8.out.drop.drop.drop.drop.drop.drop⟩
end
end Go.Proofs.YtabibfabieghpaaGreatDoor
