/- The reference's PrintClient; the law's sameClient, of two that are alike (printed by gen_xpl.py). The law's sameCode, of two that are alike (printed by gen_cd.py). Contracts of library functions, laid at this program by the kit: stringslite_Index_one. strings.Cut at a nought behind a name. record.member, record.ParseIndex, of entries that are right (printed by gen_idx.py). -/
import Derived.Test.YtabibfabieghpaaGreatDoorPkz0
import Derived.Test.YtabibfabieghpaaGreatDoorPkz11
import Derived.Test.YtabibfabieghpaaGreatDoorPkz12
import Derived.Shelf.Strings.Search2
import Derived.Test.YtabibfabieghpaaGreatDoorProg
import Derived.Test.YtabibfabieghpaaGreatDoorPkz10
import Derived.Test.YtabibfabieghpaaGreatDoorPkz2
import Derived.Test.YtabibfabieghpaaGreatDoorPkz9
namespace Go.Proofs.YtabibfabieghpaaGreatDoor
open Go.RowKit
section
variable {E : World} {S : Ph} {L : List Hp}
set_option maxRecDepth 20000 in
set_option maxHeartbeats 8000000 in
theorem xprintclient_any (nm : ByteArray) (pu sw : Bool) (dh od : ByteArray) (ut : Int) (A : Option Addr) (n c : Nat) (ii ab gr li : Int) (xs : List ByteArray) (w : World) (hr : Rds S 1 enStr A n xs) (hsz : ∀ x ∈ xs, x.size ≤ 1000000000000000000) (hnm : nm.size ≤ 1000000000000000000) (hn43 : n ≤ 8796093022208) (h : Own E w (Hp.ro S :: L)) :
    Calls Tryz.prog 41 #[.agg (clientC nm pu sw dh od ut A n c ii ab gr li).toArray] w fun ev w' => ev = .returned (itemV (clientR nm pu sw dh od ut xs ii ab gr li)) ∧ Own E w' (Hp.ro S :: L) := by
  have h1 := h.alloc (.cells (clientC nm pu sw dh od ut A n c ii ab gr li).toArray CLT)
  have h2 := h1.alloc (.cells #[.string ⟨#[]⟩, .string ⟨#[]⟩] ITT)
  rw [alloc_size] at h2
  have H3 := Lib.hid h2
  obtain ⟨dd, hd, hrow⟩ := itt_u
  obtain ⟨dC, hdC, hrC⟩ := clientt_u0
  by_cases hm : clientMay nm pu sw dh od ut xs ii ab gr li
  · have hrg := client_range hm
    have hsc : scErr xs = 0 := hm.2.1
    have hnm : nm.size ≤ 16 := hrg.1
    have KM : Hid (∀ w3 : World, Own E w3 (Hp.blk (w.heap.size + 1) ITT #[.string ⟨#[]⟩, .string ⟨#[]⟩] :: Hp.blk w.heap.size CLT (clientC nm pu sw dh od ut A n c ii ab gr li).toArray :: Hp.ro S :: L) → Calls Tryz.prog 103 #[.agg (clientC nm pu sw dh od ut A n c ii ab gr li).toArray] w3 fun ev w' => ev = .returned (.bool true) ∧ Own E w' (Hp.blk (w.heap.size + 1) ITT #[.string ⟨#[]⟩, .string ⟨#[]⟩] :: Hp.blk w.heap.size CLT (clientC nm pu sw dh od ut A n c ii ab gr li).toArray :: Hp.ro S :: L)) := Lib.hid fun w3 h3 => (xclientmay_any nm pu sw dh od ut A n c ii ab gr li xs w3 hr hsz (by omega) hn43 (show Own E w3 (Hp.ro S :: Hp.blk (w.heap.size + 1) ITT #[.string ⟨#[]⟩, .string ⟨#[]⟩] :: Hp.blk w.heap.size CLT (clientC nm pu sw dh od ut A n c ii ab gr li).toArray :: L) from h3.f2)).mono fun ev w' he => ⟨by rw [he.1, decide_eq_true hm], he.2.f2.f2⟩
    have KS : Hid (∀ w3 : World, Own E w3 (Hp.blk (w.heap.size + 1) ITT #[.string ⟨#[]⟩, .string ⟨#[]⟩] :: Hp.blk w.heap.size CLT (clientC nm pu sw dh od ut A n c ii ab gr li).toArray :: Hp.ro S :: L) → Calls Tryz.prog 92 #[.slice A n c] w3 fun ev w' => ev = .returned (.string (scTxt xs)) ∧ Own E w' (Hp.blk (w.heap.size + 1) ITT #[.string ⟨#[]⟩, .string ⟨#[]⟩] :: Hp.blk w.heap.size CLT (clientC nm pu sw dh od ut A n c ii ab gr li).toArray :: Hp.ro S :: L)) := Lib.hid fun w3 h3 => (spaced_any A n c xs w3 hr hsc (show Own E w3 (Hp.ro S :: Hp.blk (w.heap.size + 1) ITT #[.string ⟨#[]⟩, .string ⟨#[]⟩] :: Hp.blk w.heap.size CLT (clientC nm pu sw dh od ut A n c ii ab gr li).toArray :: L) from h3.f2)).mono fun ev w' he => ⟨he.1, he.2.f2.f2⟩
    obtain ⟨r1, r2, r3, r4, c0, c1, c2, c3, c4, c5⟩ := hrg
    have B1 : Hid (∀ wq : World, Own E wq (Hp.blk (w.heap.size + 1) ITT #[.string ⟨#[]⟩, .string ⟨#[]⟩] :: Hp.blk w.heap.size CLT (clientC nm pu sw dh od ut A n c ii ab gr li).toArray :: Hp.ro S :: L) → Calls Tryz.prog 64 #[.int .i64 (flagV pu 1 + flagV sw 2), .int .i64 1] wq fun ev w' => ev = .returned (.string (⟨(byN 1 (flagV pu 1 + flagV sw 2).toNat).toArray⟩ : ByteArray)) ∧ Own E w' (Hp.blk (w.heap.size + 1) ITT #[.string ⟨#[]⟩, .string ⟨#[]⟩] :: Hp.blk w.heap.size CLT (clientC nm pu sw dh od ut A n c ii ab gr li).toArray :: Hp.ro S :: L)) := Lib.hid fun wq h => by_any (flagV pu 1 + flagV sw 2) 1 wq (by omega) (by omega) (by omega) h
    have z1 : ((⟨(byN 1 (flagV pu 1 + flagV sw 2).toNat).toArray⟩ : ByteArray)).size ≤ 300 := by rw [fl_size, byN_len]; omega
    have B2 : Hid (∀ wq : World, Own E wq (Hp.blk (w.heap.size + 1) ITT #[.string ⟨#[]⟩, .string ⟨#[]⟩] :: Hp.blk w.heap.size CLT (clientC nm pu sw dh od ut A n c ii ab gr li).toArray :: Hp.ro S :: L) → Calls Tryz.prog 65 #[.string dh] wq fun ev w' => ev = .returned (.string ((⟨(byN 1 dh.size).toArray⟩ : ByteArray) ++ dh)) ∧ Own E w' (Hp.blk (w.heap.size + 1) ITT #[.string ⟨#[]⟩, .string ⟨#[]⟩] :: Hp.blk w.heap.size CLT (clientC nm pu sw dh od ut A n c ii ab gr li).toArray :: Hp.ro S :: L)) := Lib.hid fun wq h => short_any dh wq (by omega) h
    have z2 : (((⟨(byN 1 dh.size).toArray⟩ : ByteArray) ++ dh)).size ≤ 300 := by rw [ByteArray.size_append, fl_size, byN_len]; omega
    have B3 : Hid (∀ wq : World, Own E wq (Hp.blk (w.heap.size + 1) ITT #[.string ⟨#[]⟩, .string ⟨#[]⟩] :: Hp.blk w.heap.size CLT (clientC nm pu sw dh od ut A n c ii ab gr li).toArray :: Hp.ro S :: L) → Calls Tryz.prog 65 #[.string od] wq fun ev w' => ev = .returned (.string ((⟨(byN 1 od.size).toArray⟩ : ByteArray) ++ od)) ∧ Own E w' (Hp.blk (w.heap.size + 1) ITT #[.string ⟨#[]⟩, .string ⟨#[]⟩] :: Hp.blk w.heap.size CLT (clientC nm pu sw dh od ut A n c ii ab gr li).toArray :: Hp.ro S :: L)) := Lib.hid fun wq h => short_any od wq (by omega) h
    have z3 : (((⟨(byN 1 od.size).toArray⟩ : ByteArray) ++ od)).size ≤ 300 := by rw [ByteArray.size_append, fl_size, byN_len]; omega
    have B4 : Hid (∀ wq : World, Own E wq (Hp.blk (w.heap.size + 1) ITT #[.string ⟨#[]⟩, .string ⟨#[]⟩] :: Hp.blk w.heap.size CLT (clientC nm pu sw dh od ut A n c ii ab gr li).toArray :: Hp.ro S :: L) → Calls Tryz.prog 64 #[.int .i64 ut, .int .i64 6] wq fun ev w' => ev = .returned (.string (⟨(byN 6 ut.toNat).toArray⟩ : ByteArray)) ∧ Own E w' (Hp.blk (w.heap.size + 1) ITT #[.string ⟨#[]⟩, .string ⟨#[]⟩] :: Hp.blk w.heap.size CLT (clientC nm pu sw dh od ut A n c ii ab gr li).toArray :: Hp.ro S :: L)) := Lib.hid fun wq h => by_any ut 6 wq (by omega) (by omega) (by omega) h
    have z4 : ((⟨(byN 6 ut.toNat).toArray⟩ : ByteArray)).size ≤ 300 := by rw [fl_size, byN_len]; omega
    have B5 : Hid (∀ wq : World, Own E wq (Hp.blk (w.heap.size + 1) ITT #[.string ⟨#[]⟩, .string ⟨#[]⟩] :: Hp.blk w.heap.size CLT (clientC nm pu sw dh od ut A n c ii ab gr li).toArray :: Hp.ro S :: L) → Calls Tryz.prog 65 #[.string (scTxt xs)] wq fun ev w' => ev = .returned (.string ((⟨(byN 1 (scTxt xs).size).toArray⟩ : ByteArray) ++ (scTxt xs))) ∧ Own E w' (Hp.blk (w.heap.size + 1) ITT #[.string ⟨#[]⟩, .string ⟨#[]⟩] :: Hp.blk w.heap.size CLT (clientC nm pu sw dh od ut A n c ii ab gr li).toArray :: Hp.ro S :: L)) := Lib.hid fun wq h => short_any (scTxt xs) wq (by omega) h
    have z5 : (((⟨(byN 1 (scTxt xs).size).toArray⟩ : ByteArray) ++ (scTxt xs))).size ≤ 300 := by rw [ByteArray.size_append, fl_size, byN_len]; omega
    have B6 : Hid (∀ wq : World, Own E wq (Hp.blk (w.heap.size + 1) ITT #[.string ⟨#[]⟩, .string ⟨#[]⟩] :: Hp.blk w.heap.size CLT (clientC nm pu sw dh od ut A n c ii ab gr li).toArray :: Hp.ro S :: L) → Calls Tryz.prog 64 #[.int .i64 ii, .int .i64 6] wq fun ev w' => ev = .returned (.string (⟨(byN 6 ii.toNat).toArray⟩ : ByteArray)) ∧ Own E w' (Hp.blk (w.heap.size + 1) ITT #[.string ⟨#[]⟩, .string ⟨#[]⟩] :: Hp.blk w.heap.size CLT (clientC nm pu sw dh od ut A n c ii ab gr li).toArray :: Hp.ro S :: L)) := Lib.hid fun wq h => by_any ii 6 wq (by omega) (by omega) (by omega) h
    have z6 : ((⟨(byN 6 ii.toNat).toArray⟩ : ByteArray)).size ≤ 300 := by rw [fl_size, byN_len]; omega
    have B7 : Hid (∀ wq : World, Own E wq (Hp.blk (w.heap.size + 1) ITT #[.string ⟨#[]⟩, .string ⟨#[]⟩] :: Hp.blk w.heap.size CLT (clientC nm pu sw dh od ut A n c ii ab gr li).toArray :: Hp.ro S :: L) → Calls Tryz.prog 64 #[.int .i64 ab, .int .i64 6] wq fun ev w' => ev = .returned (.string (⟨(byN 6 ab.toNat).toArray⟩ : ByteArray)) ∧ Own E w' (Hp.blk (w.heap.size + 1) ITT #[.string ⟨#[]⟩, .string ⟨#[]⟩] :: Hp.blk w.heap.size CLT (clientC nm pu sw dh od ut A n c ii ab gr li).toArray :: Hp.ro S :: L)) := Lib.hid fun wq h => by_any ab 6 wq (by omega) (by omega) (by omega) h
    have z7 : ((⟨(byN 6 ab.toNat).toArray⟩ : ByteArray)).size ≤ 300 := by rw [fl_size, byN_len]; omega
    have B8 : Hid (∀ wq : World, Own E wq (Hp.blk (w.heap.size + 1) ITT #[.string ⟨#[]⟩, .string ⟨#[]⟩] :: Hp.blk w.heap.size CLT (clientC nm pu sw dh od ut A n c ii ab gr li).toArray :: Hp.ro S :: L) → Calls Tryz.prog 64 #[.int .i64 gr, .int .i64 6] wq fun ev w' => ev = .returned (.string (⟨(byN 6 gr.toNat).toArray⟩ : ByteArray)) ∧ Own E w' (Hp.blk (w.heap.size + 1) ITT #[.string ⟨#[]⟩, .string ⟨#[]⟩] :: Hp.blk w.heap.size CLT (clientC nm pu sw dh od ut A n c ii ab gr li).toArray :: Hp.ro S :: L)) := Lib.hid fun wq h => by_any gr 6 wq (by omega) (by omega) (by omega) h
    have z8 : ((⟨(byN 6 gr.toNat).toArray⟩ : ByteArray)).size ≤ 300 := by rw [fl_size, byN_len]; omega
    have B9 : Hid (∀ wq : World, Own E wq (Hp.blk (w.heap.size + 1) ITT #[.string ⟨#[]⟩, .string ⟨#[]⟩] :: Hp.blk w.heap.size CLT (clientC nm pu sw dh od ut A n c ii ab gr li).toArray :: Hp.ro S :: L) → Calls Tryz.prog 64 #[.int .i64 li, .int .i64 6] wq fun ev w' => ev = .returned (.string (⟨(byN 6 li.toNat).toArray⟩ : ByteArray)) ∧ Own E w' (Hp.blk (w.heap.size + 1) ITT #[.string ⟨#[]⟩, .string ⟨#[]⟩] :: Hp.blk w.heap.size CLT (clientC nm pu sw dh od ut A n c ii ab gr li).toArray :: Hp.ro S :: L)) := Lib.hid fun wq h => by_any li 6 wq (by omega) (by omega) (by omega) h
    have z9 : ((⟨(byN 6 li.toNat).toArray⟩ : ByteArray)).size ≤ 300 := by rw [fl_size, byN_len]; omega
    have HV : Hid (clientR nm pu sw dh od ut xs ii ab gr li = ((⟨#[99]⟩ : ByteArray) ++ nm, (⟨(byN 1 (flagV pu 1 + flagV sw 2).toNat).toArray⟩ : ByteArray) ++ ((⟨(byN 1 dh.size).toArray⟩ : ByteArray) ++ dh) ++ ((⟨(byN 1 od.size).toArray⟩ : ByteArray) ++ od) ++ (⟨(byN 6 ut.toNat).toArray⟩ : ByteArray) ++ ((⟨(byN 1 (scTxt xs).size).toArray⟩ : ByteArray) ++ (scTxt xs)) ++ (⟨(byN 6 ii.toNat).toArray⟩ : ByteArray) ++ (⟨(byN 6 ab.toNat).toArray⟩ : ByteArray) ++ (⟨(byN 6 gr.toNat).toArray⟩ : ByteArray) ++ (⟨(byN 6 li.toNat).toArray⟩ : ByteArray), 0)) := Lib.hid (by
      have e2 : clientV (flagV pu 1 + flagV sw 2) dh od ut (scTxt xs) ii ab gr li = (⟨(byN 1 (flagV pu 1 + flagV sw 2).toNat).toArray⟩ : ByteArray) ++ ((⟨(byN 1 dh.size).toArray⟩ : ByteArray) ++ dh) ++ ((⟨(byN 1 od.size).toArray⟩ : ByteArray) ++ od) ++ (⟨(byN 6 ut.toNat).toArray⟩ : ByteArray) ++ ((⟨(byN 1 (scTxt xs).size).toArray⟩ : ByteArray) ++ (scTxt xs)) ++ (⟨(byN 6 ii.toNat).toArray⟩ : ByteArray) ++ (⟨(byN 6 ab.toNat).toArray⟩ : ByteArray) ++ (⟨(byN 6 gr.toNat).toArray⟩ : ByteArray) ++ (⟨(byN 6 li.toNat).toArray⟩ : ByteArray) := by
        unfold clientV
        refine (bytes_ext _ _ ?_).symm
        simp
      rw [← e2]
      exact if_pos hm)
    obtain ⟨CC, hCC⟩ : ∃ CC, CC = clientC nm pu sw dh od ut A n c ii ab gr li := ⟨_, rfl⟩
    have hCl : (Tryz.prog.info? CLT).map (·.size) = some CC.length := by rw [hCC]; kernel_rfl
    have HC : Hid (∀ w', Own E w' (Hp.blk (w.heap.size + 1) ITT #[.string ⟨#[]⟩, .string ⟨#[]⟩] :: Hp.blk w.heap.size CLT (clientC nm pu sw dh od ut A n c ii ab gr li).toArray :: Hp.ro S :: L) → w'.rangeAt w.heap.size 0 CC ∧ w'.cell? ⟨w.heap.size, 3, none⟩ = some (.string dh) ∧ w'.cell? ⟨w.heap.size, 4, none⟩ = some (.string od) ∧ w'.cell? ⟨w.heap.size, 5, none⟩ = some (.int .i64 ut) ∧ w'.cell? ⟨w.heap.size, 6, none⟩ = some (.slice A n c)) := Lib.hid fun w' h => ⟨h.f1.range 0 _ (fun j u hu => by rw [hCC] at hu; simpa using hu), (h.f1.cell 3).trans rfl, (h.f1.cell 4).trans rfl, (h.f1.cell 5).trans rfl, (h.f1.cell 6).trans rfl⟩
    have HD : Hid (∀ w', Own E w' (Hp.blk (w.heap.size + 1) ITT #[.string ⟨#[]⟩, .string ⟨#[]⟩] :: Hp.blk w.heap.size CLT (clientC nm pu sw dh od ut A n c ii ab gr li).toArray :: Hp.ro S :: L) → w'.cell? ⟨w.heap.size, 7, none⟩ = some (.int .i64 ii) ∧ w'.cell? ⟨w.heap.size, 8, none⟩ = some (.int .i64 ab) ∧ w'.cell? ⟨w.heap.size, 9, none⟩ = some (.int .i64 gr) ∧ w'.cell? ⟨w.heap.size, 10, none⟩ = some (.int .i64 li)) := Lib.hid fun w' h => ⟨(h.f1.cell 7).trans rfl, (h.f1.cell 8).trans rfl, (h.f1.cell 9).trans rfl, (h.f1.cell 10).trans rfl⟩
    have H0 : Hid (∀ w', Own E w' (Hp.blk (w.heap.size + 1) ITT #[.string ⟨#[]⟩, .string ⟨#[]⟩] :: Hp.blk w.heap.size CLT (clientC nm pu sw dh od ut A n c ii ab gr li).toArray :: Hp.ro S :: L) → w'.cell? ⟨w.heap.size, 0, none⟩ = some (.string nm)) := Lib.hid fun w' h => (h.f1.cell 0).trans rfl
    have KF : Hid (∀ w3 : World, Own E w3 (Hp.blk (w.heap.size + 1) ITT #[.string ⟨#[]⟩, .string ⟨#[]⟩] :: Hp.blk w.heap.size CLT (clientC nm pu sw dh od ut A n c ii ab gr li).toArray :: Hp.ro S :: L) → Calls Tryz.prog 104 #[.agg CC.toArray] w3 fun ev w' => ev = .returned (.int .i64 (flagV pu 1 + flagV sw 2)) ∧ Own E w' (Hp.blk (w.heap.size + 1) ITT #[.string ⟨#[]⟩, .string ⟨#[]⟩] :: Hp.blk w.heap.size CLT (clientC nm pu sw dh od ut A n c ii ab gr li).toArray :: Hp.ro S :: L)) := Lib.hid fun w3 h3 => by rw [hCC]; exact xflags_any nm pu sw dh od ut A n c ii ab gr li w3 h3
    clear h h1 h2 hm hr hsz hsc r1 r2 r3 r4 c0 c1 c2 c3 c4 c5
    generalize (⟨(byN 1 (flagV pu 1 + flagV sw 2).toNat).toArray⟩ : ByteArray) = p1 at *
    generalize ((⟨(byN 1 dh.size).toArray⟩ : ByteArray) ++ dh) = p2 at *
    generalize ((⟨(byN 1 od.size).toArray⟩ : ByteArray) ++ od) = p3 at *
    generalize (⟨(byN 6 ut.toNat).toArray⟩ : ByteArray) = p4 at *
    generalize ((⟨(byN 1 (scTxt xs).size).toArray⟩ : ByteArray) ++ (scTxt xs)) = p5 at *
    generalize (⟨(byN 6 ii.toNat).toArray⟩ : ByteArray) = p6 at *
    generalize (⟨(byN 6 ab.toNat).toArray⟩ : ByteArray) = p7 at *
    generalize (⟨(byN 6 gr.toNat).toArray⟩ : ByteArray) = p8 at *
    generalize (⟨(byN 6 li.toNat).toArray⟩ : ByteArray) = p9 at *
    generalize scTxt xs = sT at *
    generalize (flagV pu 1 + flagV sw 2) = fg at *
    clear hCC
    unfold clientC at *
    go_enter Tryz.func41, Tryz.ntmps41
    go_wp2_with (with_reducible refine (KM.out _ H3.out).mono ?_; clear H3; rintro ev w2 ⟨rfl, h⟩; have H3 := Lib.hid h; clear h)
    have h := H3.out.drew
    clear H3
    refine wp_region_text [0, 4, 8, 12, 16] (fun w' => w'.rangeAt w.heap.size 0 CC ∧ w'.cell? ⟨w.heap.size, 3, none⟩ = some (.string dh) ∧ w'.cell? ⟨w.heap.size, 4, none⟩ = some (.string od) ∧ w'.cell? ⟨w.heap.size, 5, none⟩ = some (.int .i64 ut) ∧ w'.cell? ⟨w.heap.size, 6, none⟩ = some (.slice A n c)) (by kernel_rfl) ?_ (fun hS => ?_)
    · exact HC.out _ h
    refine gm 0 (some 11) (.agg CC.toArray) ?_ ?_
    · intro w hS
      exact exec_load_mid CLT _ rfl _ 0 rfl CC dC hS.1 hdC hrC hCl
    refine gp 3 (some 14) ?_
    refine gl 4 (some 15) ?_
    refine gp 7 (some 18) ?_
    refine gl 8 (some 19) ?_
    refine gp 11 (some 22) ?_
    refine gl 12 (some 23) ?_
    refine gp 15 (some 26) ?_
    refine gl 16 (some 27) ?_
    refine gk 1 (some 12) (fun K hK => ?_)
    rw [if_pos (by rfl)]
    go_simp
    refine (KF.out _ h).mono ?_
    clear h
    rintro ev w2 ⟨rfl, h⟩
    refine hK.out _ _ ?_ (fun hS => ?_)
    · exact HC.out _ h
    clear hK K
    try simp only [Act.put, List.setIfInBounds_toArray, List.set_cons_zero, List.set_cons_succ]
    refine gk 2 (some 13) (fun K hK => ?_)
    rw [if_pos (by rfl)]
    go_simp
    refine (B1.out _ h).mono ?_
    clear h
    rintro ev w2 ⟨rfl, h⟩
    refine hK.out _ _ ?_ (fun hS => ?_)
    · exact HC.out _ h
    clear hK K
    try simp only [Act.put, List.setIfInBounds_toArray, List.set_cons_zero, List.set_cons_succ]
    refine gk 5 (some 16) (fun K hK => ?_)
    rw [if_pos (by rfl)]
    go_simp
    refine (B2.out _ h).mono ?_
    clear h
    rintro ev w2 ⟨rfl, h⟩
    refine hK.out _ _ ?_ (fun hS => ?_)
    · exact HC.out _ h
    clear hK K
    try simp only [Act.put, List.setIfInBounds_toArray, List.set_cons_zero, List.set_cons_succ]
    refine gq 6 (some 17) (.string (p1 ++ p2)) ?_ ?_
    · intro w
      go_simp; first | done | with_reducible rfl | omega | (simp only [ByteArray.size_append]; omega)
    refine gk 9 (some 20) (fun K hK => ?_)
    rw [if_pos (by rfl)]
    go_simp
    refine (B3.out _ h).mono ?_
    clear h
    rintro ev w2 ⟨rfl, h⟩
    refine hK.out _ _ ?_ (fun hS => ?_)
    · exact HC.out _ h
    clear hK K
    try simp only [Act.put, List.setIfInBounds_toArray, List.set_cons_zero, List.set_cons_succ]
    refine gq 10 (some 21) (.string (p1 ++ p2 ++ p3)) ?_ ?_
    · intro w
      go_simp; first | done | with_reducible rfl | omega | (simp only [ByteArray.size_append]; omega)
    refine gk 13 (some 24) (fun K hK => ?_)
    rw [if_pos (by rfl)]
    go_simp
    refine (B4.out _ h).mono ?_
    clear h
    rintro ev w2 ⟨rfl, h⟩
    refine hK.out _ _ ?_ (fun hS => ?_)
    · exact HC.out _ h
    clear hK K
    try simp only [Act.put, List.setIfInBounds_toArray, List.set_cons_zero, List.set_cons_succ]
    refine gq 14 (some 25) (.string (p1 ++ p2 ++ p3 ++ p4)) ?_ ?_
    · intro w
      go_simp; first | done | with_reducible rfl | omega | (simp only [ByteArray.size_append]; omega)
    refine gk 17 (some 28) (fun K hK => ?_)
    rw [if_pos (by rfl)]
    go_simp
    refine (KS.out _ h).mono ?_
    clear h
    rintro ev w2 ⟨rfl, h⟩
    refine hK.out _ _ ?_ (fun hS => ?_)
    · exact HC.out _ h
    clear hK K
    try simp only [Act.put, List.setIfInBounds_toArray, List.set_cons_zero, List.set_cons_succ]
    refine gk 18 (some 29) (fun K hK => ?_)
    rw [if_pos (by rfl)]
    go_simp
    refine (B5.out _ h).mono ?_
    clear h
    rintro ev w2 ⟨rfl, h⟩
    refine hK.out _ _ ?_ (fun hS => ?_)
    · exact HC.out _ h
    clear hK K
    try simp only [Act.put, List.setIfInBounds_toArray, List.set_cons_zero, List.set_cons_succ]
    refine gq 19 (some 30) (.string (p1 ++ p2 ++ p3 ++ p4 ++ p5)) ?_ ?_
    · intro w
      go_simp; first | done | with_reducible rfl | omega | (simp only [ByteArray.size_append]; omega)
    refine gp 20 (some 5) ?_
    refine wpAnyG_done (by kernel_rfl) ?_ _
    refine NoPanic.normal ?_
    go_wp2_with fail
    have h3 := h.drew
    clear h
    have h := h3
    clear h3
    refine wp_region_text [2, 6, 10, 14] (fun w' => w'.cell? ⟨w.heap.size, 7, none⟩ = some (.int .i64 ii) ∧ w'.cell? ⟨w.heap.size, 8, none⟩ = some (.int .i64 ab) ∧ w'.cell? ⟨w.heap.size, 9, none⟩ = some (.int .i64 gr) ∧ w'.cell? ⟨w.heap.size, 10, none⟩ = some (.int .i64 li)) (by kernel_rfl) ?_ (fun hS => ?_)
    · exact HD.out _ h
    refine gp 0 (some 31) ?_
    refine gp 1 (some 32) ?_
    refine gl 2 (some 33) ?_
    refine gp 5 (some 36) ?_
    refine gl 6 (some 37) ?_
    refine gp 9 (some 40) ?_
    refine gl 10 (some 41) ?_
    refine gp 13 (some 44) ?_
    refine gl 14 (some 45) ?_
    refine gk 3 (some 34) (fun K hK => ?_)
    rw [if_pos (by rfl)]
    go_simp
    refine (B6.out _ h).mono ?_
    clear h
    rintro ev w2 ⟨rfl, h⟩
    refine hK.out _ _ ?_ (fun hS => ?_)
    · exact HD.out _ h
    clear hK K
    try simp only [Act.put, List.setIfInBounds_toArray, List.set_cons_zero, List.set_cons_succ]
    refine gq 4 (some 35) (.string (p1 ++ p2 ++ p3 ++ p4 ++ p5 ++ p6)) ?_ ?_
    · intro w
      go_simp; first | done | with_reducible rfl | omega | (simp only [ByteArray.size_append]; omega)
    refine gk 7 (some 38) (fun K hK => ?_)
    rw [if_pos (by rfl)]
    go_simp
    refine (B7.out _ h).mono ?_
    clear h
    rintro ev w2 ⟨rfl, h⟩
    refine hK.out _ _ ?_ (fun hS => ?_)
    · exact HD.out _ h
    clear hK K
    try simp only [Act.put, List.setIfInBounds_toArray, List.set_cons_zero, List.set_cons_succ]
    refine gq 8 (some 39) (.string (p1 ++ p2 ++ p3 ++ p4 ++ p5 ++ p6 ++ p7)) ?_ ?_
    · intro w
      go_simp; first | done | with_reducible rfl | omega | (simp only [ByteArray.size_append]; omega)
    refine gk 11 (some 42) (fun K hK => ?_)
    rw [if_pos (by rfl)]
    go_simp
    refine (B8.out _ h).mono ?_
    clear h
    rintro ev w2 ⟨rfl, h⟩
    refine hK.out _ _ ?_ (fun hS => ?_)
    · exact HD.out _ h
    clear hK K
    try simp only [Act.put, List.setIfInBounds_toArray, List.set_cons_zero, List.set_cons_succ]
    refine gq 12 (some 43) (.string (p1 ++ p2 ++ p3 ++ p4 ++ p5 ++ p6 ++ p7 ++ p8)) ?_ ?_
    · intro w
      go_simp; first | done | with_reducible rfl | omega | (simp only [ByteArray.size_append]; omega)
    refine gk 15 (some 46) (fun K hK => ?_)
    rw [if_pos (by rfl)]
    go_simp
    refine (B9.out _ h).mono ?_
    clear h
    rintro ev w2 ⟨rfl, h⟩
    refine hK.out _ _ ?_ (fun hS => ?_)
    · exact HD.out _ h
    clear hK K
    try simp only [Act.put, List.setIfInBounds_toArray, List.set_cons_zero, List.set_cons_succ]
    refine gq 16 (some 47) (.string (p1 ++ p2 ++ p3 ++ p4 ++ p5 ++ p6 ++ p7 ++ p8 ++ p9)) ?_ ?_
    · intro w
      go_simp; first | done | with_reducible rfl | omega | (simp only [ByteArray.size_append]; omega)
    refine gp 17 (some 5) ?_
    refine wpAnyG_done (by kernel_rfl) ?_ _
    refine NoPanic.normal ?_
    have c0 := H0.out _ h
    have H3 := Lib.hid h
    clear h
    have q0 : ¬ 9223372036854775807 < 1 + nm.size := by omega
    go_wp2_with (with_reducible refine at_slot (k := none) ?_; refine wpList_store_whole (o := ⟨none, _, _, _, _, _⟩) (cs := [.string ⟨#[]⟩, .string ⟨#[]⟩]) (vs := [.string (⟨#[99]⟩ ++ nm), .string (p1 ++ p2 ++ p3 ++ p4 ++ p5 ++ p6 ++ p7 ++ p8 ++ p9)]) H3.out rfl (pair_one _ _) (by kernel_rfl) rfl rfl rfl rfl ?_; clear H3; intro w7 h; have H9 := Lib.hid h; clear h)
    refine bodyPost_ret (results_ct rfl rfl H9.out hd hrow (by kernel_rfl)) rfl ?_
    exact ⟨by rw [HV.out]; rfl, H9.out.drop.drop⟩
  · have HR : Hid (clientR nm pu sw dh od ut xs ii ab gr li = (noB, noB, 140)) := Lib.hid (if_neg hm)
    have KM : Hid (∀ w3 : World, Own E w3 (Hp.blk (w.heap.size + 1) ITT #[.string ⟨#[]⟩, .string ⟨#[]⟩] :: Hp.blk w.heap.size CLT (clientC nm pu sw dh od ut A n c ii ab gr li).toArray :: Hp.ro S :: L) → Calls Tryz.prog 103 #[.agg (clientC nm pu sw dh od ut A n c ii ab gr li).toArray] w3 fun ev w' => ev = .returned (.bool false) ∧ Own E w' (Hp.blk (w.heap.size + 1) ITT #[.string ⟨#[]⟩, .string ⟨#[]⟩] :: Hp.blk w.heap.size CLT (clientC nm pu sw dh od ut A n c ii ab gr li).toArray :: Hp.ro S :: L)) := Lib.hid fun w3 h3 => (xclientmay_any nm pu sw dh od ut A n c ii ab gr li xs w3 hr hsz hnm hn43 (show Own E w3 (Hp.ro S :: Hp.blk (w.heap.size + 1) ITT #[.string ⟨#[]⟩, .string ⟨#[]⟩] :: Hp.blk w.heap.size CLT (clientC nm pu sw dh od ut A n c ii ab gr li).toArray :: L) from h3.f2)).mono fun ev w' he => ⟨by rw [he.1, decide_eq_false hm], he.2.f2.f2⟩
    clear h h1 h2 hm hr hsz hnm
    unfold clientC at *
    go_enter Tryz.func41, Tryz.ntmps41
    go_wp2_with (first
      | (with_reducible refine (KM.out _ H3.out).mono ?_; clear H3; rintro ev w2 ⟨rfl, h⟩; have H3 := Lib.hid h; clear h)
      | (with_reducible refine at_slot (k := none) ?_; refine wpList_store_whole (o := ⟨none, _, _, _, _, _⟩) (cs := [.string ⟨#[]⟩, .string ⟨#[]⟩]) (vs := [.string ⟨#[]⟩, .string ⟨#[]⟩]) H3.out rfl (pair_one ⟨#[]⟩ ⟨#[]⟩) (by kernel_rfl) rfl rfl rfl rfl ?_; clear H3; intro w7 h; have H8 := Lib.hid h; clear h))
    refine bodyPost_ret (results_ct rfl rfl H8.out hd hrow (by kernel_rfl)) rfl ?_
    exact ⟨by rw [HR.out]; rfl, H8.out.drop.drop⟩
set_option maxRecDepth 20000 in
set_option maxHeartbeats 8000000 in
theorem sameclient_any (nm : ByteArray) (pu sw : Bool) (dh od : ByteArray) (ut : Int) (A B : Option Addr) (n c m d : Nat) (ii ab gr li : Int) (xs : List ByteArray) (w : World) (hA : Seen E L A n xs) (hB : Seen E L B m xs) (hn : n ≤ 140737488355328) (h : Own E w L) :
    Calls Tryz.prog 44 #[.agg (clientC nm pu sw dh od ut A n c ii ab gr li).toArray, .agg (clientC nm pu sw dh od ut B m d ii ab gr li).toArray] w fun ev w' => ev = .returned (.bool true) ∧ Own E w' L := by
  have h1 := h.alloc (.cells (clientC nm pu sw dh od ut A n c ii ab gr li).toArray CLT)
  have h2 := h1.alloc (.cells (clientC nm pu sw dh od ut B m d ii ab gr li).toArray CLT)
  rw [alloc_size] at h2
  have K := fun (wq : World) hq => same_any (E := E) (L := Hp.blk (w.heap.size + 1) CLT (clientC nm pu sw dh od ut B m d ii ab gr li).toArray :: Hp.blk w.heap.size CLT (clientC nm pu sw dh od ut A n c ii ab gr li).toArray :: L) A B n c m d xs xs wq hA.cons.cons hB.cons.cons hn hq
  rw [decide_eq_true rfl] at K
  have H := Lib.hid (show Own E _ (Hp.blk (w.heap.size + 1) CLT (clientC nm pu sw dh od ut B m d ii ab gr li).toArray :: Hp.blk w.heap.size CLT (clientC nm pu sw dh od ut A n c ii ab gr li).toArray :: L) from h2)
  have t1 : (nm.toList == nm.toList) = true := beq_self_eq_true _
  have t3 : (dh.toList == dh.toList) = true := beq_self_eq_true _
  have t4 : (od.toList == od.toList) = true := beq_self_eq_true _
  clear h h1 h2 hA hB
  have y3 : _ = some (Value.slice B m d) := (H.out.cell 6).trans rfl
  have x3 : _ = some (Value.slice A n c) := (H.out.f1.cell 6).trans rfl
  go_enter Tryz.func44, Tryz.ntmps44
  go_wp2_with (refine (K _ H.out).mono ?_; clear H K; rintro ev w2 ⟨rfl, h⟩; have H := Lib.hid h; clear h; obtain ⟨e0, e1, e2, e3, e4, e5, e6, e7, e8, e9, e10⟩ := client_cells nm pu sw dh od ut B m d ii ab gr li H.out; obtain ⟨d0, d1, d2, d3, d4, d5, d6, d7, d8, d9, d10⟩ := client_cells nm pu sw dh od ut A n c ii ab gr li H.out.f1)
  go_ret
  first
    | exact ⟨rfl, H.out.drop.drop⟩
    | exact ⟨by simp, H.out.drop.drop⟩
end
end Go.Proofs.YtabibfabieghpaaGreatDoor
namespace Go.Proofs.YtabibfabieghpaaGreatDoor
open Go.RowKit
section
variable {E : World} {L : List Hp}
set_option maxRecDepth 20000 in
set_option maxHeartbeats 8000000 in
theorem samecode_any (id : Int) (cl su : ByteArray) (A B : Option Addr) (n c m d : Nat) (hs ch : ByteArray) (un st fa : Int) (xs : List ByteArray) (w : World) (hA : Seen E L A n xs) (hB : Seen E L B m xs) (hn : n ≤ 140737488355328) (h : Own E w L) :
    Calls Tryz.prog 38 #[.agg (codeC id cl su A n c hs ch un st fa).toArray, .agg (codeC id cl su B m d hs ch un st fa).toArray] w fun ev w' => ev = .returned (.bool true) ∧ Own E w' L := by
  have h1 := h.alloc (.cells (codeC id cl su A n c hs ch un st fa).toArray CDT)
  have h2 := h1.alloc (.cells (codeC id cl su B m d hs ch un st fa).toArray CDT)
  rw [alloc_size] at h2
  have K := fun (wq : World) hq => same_any (E := E) (L := Hp.blk (w.heap.size + 1) CDT (codeC id cl su B m d hs ch un st fa).toArray :: Hp.blk w.heap.size CDT (codeC id cl su A n c hs ch un st fa).toArray :: L) A B n c m d xs xs wq hA.cons.cons hB.cons.cons hn hq
  rw [decide_eq_true rfl] at K
  have H := Lib.hid (show Own E _ (Hp.blk (w.heap.size + 1) CDT (codeC id cl su B m d hs ch un st fa).toArray :: Hp.blk w.heap.size CDT (codeC id cl su A n c hs ch un st fa).toArray :: L) from h2)
  have t1 : (cl.toList == cl.toList) = true := beq_self_eq_true _
  have t2 : (su.toList == su.toList) = true := beq_self_eq_true _
  have t3 : (hs.toList == hs.toList) = true := beq_self_eq_true _
  have t4 : (ch.toList == ch.toList) = true := beq_self_eq_true _
  clear h h1 h2 hA hB
  have y3 : _ = some (Value.slice B m d) := (H.out.cell 3).trans rfl
  have x3 : _ = some (Value.slice A n c) := (H.out.f1.cell 3).trans rfl
  go_enter Tryz.func38, Tryz.ntmps38
  go_wp2_with (refine (K _ H.out).mono ?_; clear H K; rintro ev w2 ⟨rfl, h⟩; have H := Lib.hid h; clear h; obtain ⟨e0, e1, e2, e3, e4, e5, e6, e7, e8⟩ := code_cells id cl su B m d hs ch un st fa H.out; obtain ⟨d0, d1, d2, d3, d4, d5, d6, d7, d8⟩ := code_cells id cl su A n c hs ch un st fa H.out.f1)
  go_ret
  first
    | exact ⟨rfl, H.out.drop.drop⟩
    | exact ⟨by simp, H.out.drop.drop⟩
end
end Go.Proofs.YtabibfabieghpaaGreatDoor
namespace Go.Proofs
open Go.Shelf
def Tryz.lays219_ren : Go.Shelf.Ren := ⟨fun | 219 => 141 | 217 => 152 | 225 => 153 | 224 => 154 | 267 => 155 | 266 => 165 | 314 => 166 | n => n, fun | 9 => 9 | 3 => 3 | 4 => 4 | 5 => 5 | 46 => 161 | 146 => 221 | 51 => 220 | n => n, fun | 1 => 0 | n => n⟩
theorem Tryz.lays219 : Go.Proofs.Lays.n219 Tryz.prog Tryz.lays219_ren := {
  mixed := by kernel_rfl
  f217 := Tryz.func152.trans (congrArg some (by kernel_rfl))
  f219 := Tryz.func141.trans (congrArg some (by kernel_rfl))
  f224 := Tryz.func154.trans (congrArg some (by kernel_rfl))
  f225 := Tryz.func153.trans (congrArg some (by kernel_rfl))
  f266 := Tryz.func165.trans (congrArg some (by kernel_rfl))
  f267 := Tryz.func155.trans (congrArg some (by kernel_rfl))
  f314 := Tryz.func166.trans (congrArg some (by kernel_rfl))
  t3 := Tryz.underlying3
  a3 := Tryz.isAgg3
  z3 := Tryz.sizeOf3
  v3 := Tryz.zeroValue3
  t4 := Tryz.underlying4
  a4 := Tryz.isAgg4
  z4 := Tryz.sizeOf4
  v4 := Tryz.zeroValue4
  t5 := Tryz.underlying5
  a5 := Tryz.isAgg5
  z5 := Tryz.sizeOf5
  v5 := Tryz.zeroValue5
  t9 := Tryz.underlying9
  a9 := Tryz.isAgg9
  z9 := Tryz.sizeOf9
  v9 := Tryz.zeroValue9
  t46 := Tryz.underlying161
  a46 := Tryz.isAgg161
  z46 := Tryz.sizeOf161
  v46 := Tryz.zeroValue161
  t51 := Tryz.underlying220
  a51 := Tryz.isAgg220
  z51 := Tryz.sizeOf220
  v51 := Tryz.zeroValue220
  t146 := Tryz.underlying221
  a146 := Tryz.isAgg221
  z146 := Tryz.sizeOf221
  v146 := Tryz.zeroValue221
  g1 := by kernel_rfl }
open Go.RowKit Go.Lib in
/-- internal/stringslite.Index (what strings.Index calls) AT A substr OF ONE BYTE c: IT RETURNS 'Lib.indexByte s c'; the world is as it was. (LAID: no walk: one application.) -/
theorem Tryz.stringslite_Index_one (s : ByteArray) (c : UInt8) (w : World) :
    Calls Tryz.prog 141 #[.string s, .string ⟨#[c]⟩] w fun e w' => e = .returned (.int .i64 (Lib.indexByte s.data.toList c)) ∧ w' = w := Any.stringslite_Index_one Tryz.lays219 s c w
end Go.Proofs
namespace Go.Proofs.YtabibfabieghpaaGreatDoor
open Go.RowKit
theorem index_nought (l t : List UInt8) (h : ∀ x ∈ l, x ≠ 0) : Lib.indexByte (l ++ 0 :: t) 0 = l.length := by
  induction l with
  | nil => simp [Lib.indexByte]
  | cons x r ih =>
    have h1 := h x (by simp)
    have h2 := ih fun y hy => h y (by simp [hy])
    show Lib.indexByte (x :: (r ++ 0 :: t)) 0 = _
    unfold Lib.indexByte
    rw [if_neg (by simpa using h1), h2]
    first | (simp; done) | (simp; omega)
section
variable {E : World} {L : List Hp}
set_option maxHeartbeats 1000000 in
theorem cut0_any (su r s : ByteArray) (w : World) (hi : Lib.indexByte s.data.toList 0 = su.size) (hs : su.size + 1 ≤ s.size) (hs2 : s.size ≤ 1000000000000000) (e1 : s.extract 0 su.size = su) (e2 : s.extract (su.size + 1) s.size = r) (h : Own E w L) :
    Calls Tryz.prog 88 #[.string s, .string ⟨#[0]⟩] w fun e w' => e = .returned (.tuple #[.string su, .string r, .bool true]) ∧ Own E w' L := by
  have K := fun w => Tryz.stringslite_Index_one s 0 w
  rw [hi] at K
  have H := Lib.hid h.drew
  have i0 : (0 : Int) ≤ (su.size : Int) := by omega
  have i1 : wrap64 ((su.size : Int) + 1) = ((su.size + 1 : Nat) : Int) := by unfold wrap64; omega
  have i3 : IntKind.i64.wrap ((su.size : Int) + 1) = ((su.size + 1 : Nat) : Int) := by rw [IntKind.wrap_i64]; omega
  have i2 : (su.size : Int) ≤ (s.size : Int) := by omega
  clear hi h
  have K2 : Calls Tryz.prog 126 #[.string s, .string ⟨#[0]⟩] w fun e w' => e = .returned (.tuple #[.string su, .string r, .bool true]) ∧ Own E w' L := by
    go_enter Tryz.func126, Tryz.ntmps126
    go_wp2_with (refine (K _).mono ?_; rintro e w2 ⟨rfl, rfl⟩)
    have h := H.out
    refine wp_region_text [] (fun _ => True) (by kernel_rfl) ?_ (fun hS => ?_)
    · trivial
    refine gp 0 (some 13) ?_
    refine gp 1 (some 14) ?_
    refine gq 2 (some 15) (.string su) ?_ ?_
    · intro w
      go_simp
    refine gp 3 (some 16) ?_
    refine gp 4 (some 17) ?_
    refine gp 5 (some 18) ?_
    refine gp 6 (some 19) ?_
    refine gp 7 (some 20) ?_
    refine gq 8 (some 21) (.string r) ?_ ?_
    · intro w
      have i4 := i3; simp only [i4] at *; go_simp; intro hx; exact absurd (hx (by omega)) (by omega)
    refine gp 9 (some 4) ?_
    refine gp 10 (some 5) ?_
    refine gp 11 (some 6) ?_
    refine wpAnyG_done (by kernel_rfl) ?_ _
    refine NoPanic.normal ?_
    go_wp2_with fail
    go_ret3
    exact ⟨rfl, h⟩
  clear K H i0 i1 i2 i3 e1 e2
  go_enter Tryz.func88, Tryz.ntmps88
  go_wp2_with (refine K2.mono ?_; clear K2; rintro e w2 ⟨rfl, h⟩)
  go_ret3
  exact ⟨rfl, h⟩
end
end Go.Proofs.YtabibfabieghpaaGreatDoor
namespace Go.Proofs.YtabibfabieghpaaGreatDoor
open Go.RowKit
def two (x y : Nat) (vs : List Value) : Hp := Hp.sep (Hp.blk x I64 #[vs.getD 0 undef]) (Hp.blk y I64 #[vs.getD 1 undef])
theorem places_two {E : World} (x y : Nat) : Places E (two x y) [⟨x, 0, none⟩, ⟨y, 0, none⟩] where
  set w vs i ad v M hl hi h := by
    obtain ⟨a, b, rfl⟩ : ∃ a b, vs = [a, b] := by
      match vs, hl with
      | [a, b], _ => exact ⟨a, b, rfl⟩
    have h := Own.sep2.1 h
    match i, hi with
    | 0, hi =>
      obtain rfl : (⟨x, 0, none⟩ : Addr) = ad := by simpa using hi
      obtain ⟨h1, h2, h3⟩ := h.put1 0 v (show (0 : Nat) < 1 by omega)
      exact ⟨h1, h2, Own.sep2.2 h3⟩
    | 1, hi =>
      obtain rfl : (⟨y, 0, none⟩ : Addr) = ad := by simpa using hi
      obtain ⟨h1, h2, h3⟩ := h.f1.put1 0 v (show (0 : Nat) < 1 by omega)
      exact ⟨h1, h2, Own.sep2.2 h3.f1⟩
theorem results_tmp5 {fn : Func} {a b c d e : Tmp} (h : fn.results = #[.tmp a, .tmp b, .tmp c, .tmp d, .tmp e]) (tmps : Array Value) (P : Program) (w : World) :
    (results fn tmps).run P w = .ok (.tuple #[tmps.getD a undef, tmps.getD b undef, tmps.getD c undef, tmps.getD d undef, tmps.getD e undef]) w := by
  simp [results, h]
theorem read_two (k1 k2 : Nat) (a b : Int) (h1 : 1 ≤ k1 ∧ k1 ≤ 8 ∧ 0 ≤ a ∧ a < 256 ^ k1 ∧ a ≤ 9223372036854775807) (h2 : 1 ≤ k2 ∧ k2 ≤ 8 ∧ 0 ≤ b ∧ b < 256 ^ k2 ∧ b ≤ 9223372036854775807) :
    readV [.num k1, .num k2] ⟨(byN k1 a.toNat ++ byN k2 b.toNat).toArray⟩ = ([.n a, .n b], true) := by
  have hf : ∀ f ∈ [((.num k1, .n a) : Fk × Fv), (.num k2, .n b)], fits1 f := by
    intro f hf
    simp only [List.mem_cons, List.not_mem_nil, or_false] at hf
    rcases hf with rfl | rfl
    · exact h1
    · exact h2
  have h3 := readV_printed hf
  rw [printed_fits hf] at h3
  have e : ((([((.num k1, .n a) : Fk × Fv), (.num k2, .n b)].flatMap bytesF).toArray) : Array UInt8) = (byN k1 a.toNat ++ byN k2 b.toNat).toArray := by
    show (byN k1 a.toNat ++ (byN k2 b.toNat ++ [])).toArray = _
    rw [List.append_nil]
  rw [e] at h3
  exact h3
theorem read_one (k1 : Nat) (a : Int) (h1 : 1 ≤ k1 ∧ k1 ≤ 8 ∧ 0 ≤ a ∧ a < 256 ^ k1 ∧ a ≤ 9223372036854775807) : readV [.num k1] ⟨(byN k1 a.toNat).toArray⟩ = ([.n a], true) := by
  have hf : ∀ f ∈ [((.num k1, .n a) : Fk × Fv)], fits1 f := by
    intro f hf
    simp only [List.mem_cons, List.not_mem_nil, or_false] at hf
    rcases hf with rfl
    exact h1
  have h3 := readV_printed hf
  rw [printed_fits hf] at h3
  have e : ((([((.num k1, .n a) : Fk × Fv)].flatMap bytesF).toArray) : Array UInt8) = (byN k1 a.toNat).toArray := by
    show (byN k1 a.toNat ++ []).toArray = _
    rw [List.append_nil]
  rw [e] at h3
  exact h3
section
variable {E : World} {L : List Hp}
theorem read2_any (bb x y k1 k2 : Nat) (a b : Int) (p q : Value) (s : ByteArray) (w : World) (hs : s.size ≤ 1000000000000000) (hr : readV [.num k1, .num k2] s = ([.n a, .n b], true)) (hG : Laid0 E L)
    (h : Own E w (Hp.blk bb FT (([(.num k1, ⟨x, 0, none⟩), (.num k2, ⟨y, 0, none⟩)] : List (Fk × Addr)).flatMap enF).toArray :: Hp.blk x I64 #[p] :: Hp.blk y I64 #[q] :: L)) :
    Calls Tryz.prog 67 #[.slice (some ⟨bb, 0, none⟩) 2 2, .string s] w fun e w' => e = .returned (.bool true) ∧ Own E w' (Hp.blk x I64 #[.int .i64 a] :: Hp.blk y I64 #[.int .i64 b] :: L) := by
  have h4 : Own E w (Hp.blk bb FT (([(.num k1, ⟨x, 0, none⟩), (.num k2, ⟨y, 0, none⟩)] : List (Fk × Addr)).flatMap enF).toArray :: two x y [p, q] :: L) := (Own.sep2.2 h.f2.f2).f1
  have hh := read_blk (E := E) bb 2 [(.num k1, ⟨x, 0, none⟩), (.num k2, ⟨y, 0, none⟩)] s (two x y) [p, q] w rfl (by omega) hs (places_two _ _) rfl hG h4
  rw [show ([(.num k1, ⟨x, 0, none⟩), (.num k2, ⟨y, 0, none⟩)] : List (Fk × Addr)).map (·.1) = [.num k1, .num k2] from rfl, hr] at hh
  refine hh.mono ?_
  rintro e w' ⟨rfl, h⟩
  exact ⟨rfl, Own.sep2.1 h⟩
theorem read1_any (bb x k1 : Nat) (a : Int) (p : Value) (s : ByteArray) (w : World) (hs : s.size ≤ 1000000000000000) (hr : readV [.num k1] s = ([.n a], true)) (hG : Laid0 E L)
    (h : Own E w (Hp.blk bb FT (([(.num k1, ⟨x, 0, none⟩)] : List (Fk × Addr)).flatMap enF).toArray :: Hp.blk x I64 #[p] :: L)) :
    Calls Tryz.prog 67 #[.slice (some ⟨bb, 0, none⟩) 1 1, .string s] w fun e w' => e = .returned (.bool true) ∧ Own E w' (Hp.blk x I64 #[.int .i64 a] :: L) := by
  have hh := read_blk (E := E) bb 1 [(.num k1, ⟨x, 0, none⟩)] s (fun vs => Hp.blk x I64 vs.toArray) [p] w rfl (by omega) hs (places_one x _) rfl hG h
  rw [show ([(.num k1, ⟨x, 0, none⟩)] : List (Fk × Addr)).map (·.1) = [.num k1] from rfl, hr] at hh
  exact hh
set_option maxRecDepth 20000 in
set_option maxHeartbeats 4000000 in
theorem member_ok (a b c : Int) (w : World) (ha : 1 ≤ a ∧ a ≤ 4611686018427387904) (hb : 1 ≤ b ∧ b ≤ 4611686018427387904) (hc : 1 ≤ c ∧ c ≤ 1073741824) (hG : Laid0 E L) (h : Own E w L) :
    Calls Tryz.prog 87 #[.string ⟨(byN 8 b.toNat ++ byN 4 c.toNat).toArray⟩, .string (ofV a)] w fun e w' => e = .returned (.tuple #[.int .i64 c, .int .i64 b, .bool true]) ∧ Own E w' L := by
  have h1 := h.alloc (.cells #[.int .i64 0] I64)
  have h2 := h1.alloc (.cells #[.int .i64 0] I64)
  have h3 := h2.alloc (.cells #[.int .i64 0] I64)
  rw [alloc_size, alloc_size] at h3
  have H3 := Lib.hid (show Own E _ (Hp.blk w.heap.size I64 #[.int .i64 0] :: Hp.blk (w.heap.size + 1) I64 #[.int .i64 0] :: Hp.blk (w.heap.size + 1 + 1) I64 #[.int .i64 0] :: L) from h3.f1.f2)
  have r1 := read_two 8 4 b c (by omega) (by omega)
  have r2 : readV [.num 8] (ofV a) = ([.n a], true) := read_one 8 a (by omega)
  have z1 : (⟨(byN 8 b.toNat ++ byN 4 c.toNat).toArray⟩ : ByteArray).size ≤ 1000000000000000 := by rw [fl_size, List.length_append, byN_len, byN_len]; omega
  have z2 : (ofV a).size ≤ 1000000000000000 := by unfold ofV; rw [fl_size, byN_len]; omega
  generalize (⟨(byN 8 b.toNat ++ byN 4 c.toNat).toArray⟩ : ByteArray) = k at *
  generalize ofV a = v at *
  have KR1 : Hid (∀ (bb : Nat) (w3 : World), Own E w3 (Hp.blk bb FT (([(.num 8, ⟨w.heap.size, 0, none⟩), (.num 4, ⟨(w.heap.size + 1), 0, none⟩)] : List (Fk × Addr)).flatMap enF).toArray :: Hp.blk w.heap.size I64 #[.int .i64 0] :: Hp.blk (w.heap.size + 1) I64 #[.int .i64 0] :: Hp.blk (w.heap.size + 1 + 1) I64 #[.int .i64 0] :: L) → Calls Tryz.prog 67 #[.slice (some ⟨bb, 0, none⟩) 2 2, .string k] w3 fun e w' => e = .returned (.bool true) ∧ Own E w' (Hp.blk w.heap.size I64 #[.int .i64 b] :: Hp.blk (w.heap.size + 1) I64 #[.int .i64 c] :: Hp.blk (w.heap.size + 1 + 1) I64 #[.int .i64 0] :: L)) := Lib.hid fun bb w3 h3 => read2_any bb _ _ 8 4 b c _ _ k w3 z1 r1 hG.cons h3
  have KR2 : Hid (∀ (bb : Nat) (w3 : World), Own E w3 (Hp.blk bb FT (([(.num 8, ⟨(w.heap.size + 1 + 1), 0, none⟩)] : List (Fk × Addr)).flatMap enF).toArray :: Hp.blk w.heap.size I64 #[.int .i64 b] :: Hp.blk (w.heap.size + 1) I64 #[.int .i64 c] :: Hp.blk (w.heap.size + 1 + 1) I64 #[.int .i64 0] :: L) → Calls Tryz.prog 67 #[.slice (some ⟨bb, 0, none⟩) 1 1, .string v] w3 fun e w' => e = .returned (.bool true) ∧ Own E w' (Hp.blk w.heap.size I64 #[.int .i64 b] :: Hp.blk (w.heap.size + 1) I64 #[.int .i64 c] :: Hp.blk (w.heap.size + 1 + 1) I64 #[.int .i64 a] :: L)) := Lib.hid fun bb w3 h3 => (read1_any bb _ 8 a (.int .i64 0) v w3 z2 r2 hG.cons.cons (show Own E w3 (_ :: Hp.blk (w.heap.size + 1 + 1) I64 #[.int .i64 0] :: Hp.blk w.heap.size I64 #[.int .i64 b] :: Hp.blk (w.heap.size + 1) I64 #[.int .i64 c] :: L) from h3.f3.f1)).mono fun e w' he => ⟨he.1, he.2.f2.f2⟩
  have K1 := fun (wq : World) (M : List Hp) (h : Own E wq M) => fnum_any (E := E) (L := M) 8 ⟨w.heap.size, 0, none⟩ wq h
  have K2 := fun (wq : World) (M : List Hp) (h : Own E wq M) => fnum_any (E := E) (L := M) 4 ⟨(w.heap.size + 1), 0, none⟩ wq h
  have K3 := fun (wq : World) (M : List Hp) (h : Own E wq M) => fnum_any (E := E) (L := M) 8 ⟨(w.heap.size + 1 + 1), 0, none⟩ wq h
  simp only [enF, show ((8 : Nat) : Int) = 8 from rfl, show ((4 : Nat) : Int) = 4 from rfl] at K1 K2 K3
  have J1 := fun w => isid_any b w
  have J2 := fun w => isgen_any c w
  have J3 := fun w => isid_any a w
  rw [decide_eq_true hb] at J1
  rw [decide_eq_true hc] at J2
  rw [decide_eq_true ha] at J3
  have HC : Hid (∀ w', Own E w' (Hp.blk w.heap.size I64 #[.int .i64 b] :: Hp.blk (w.heap.size + 1) I64 #[.int .i64 c] :: Hp.blk (w.heap.size + 1 + 1) I64 #[.int .i64 a] :: L) → w'.cell? ⟨w.heap.size, 0, none⟩ = some (.int .i64 b) ∧ w'.cell? ⟨(w.heap.size + 1), 0, none⟩ = some (.int .i64 c) ∧ w'.cell? ⟨(w.heap.size + 1 + 1), 0, none⟩ = some (.int .i64 a)) := Lib.hid fun w' h => ⟨(h.cell 0).trans rfl, (h.f1.cell 0).trans rfl, (h.f2.cell 0).trans rfl⟩
  clear h h1 h2 h3 hG r1 r2 z1 z2 ha hb hc
  go_enter Tryz.func87, Tryz.ntmps87
  go_wp2_with (first
    | (with_reducible refine (K1 _ _ H3.out).mono ?_; clear H3; rintro e w2 ⟨rfl, h⟩; have H3 := Lib.hid h; clear h)
    | (with_reducible refine (K2 _ _ H3.out).mono ?_; clear H3; rintro e w2 ⟨rfl, h⟩; have H3 := Lib.hid h; clear h)
    | (with_reducible refine (K3 _ _ H3.out).mono ?_; clear H3; rintro e w2 ⟨rfl, h⟩; have H3 := Lib.hid h; clear h)
    | (refine (KR1.out _ _ (H3.out.alloc _)).mono ?_; clear H3 KR1; rintro e w2 ⟨rfl, h⟩; have H3 := Lib.hid h; clear h)
    | (refine (KR2.out _ _ (H3.out.alloc _)).mono ?_; clear H3 KR2; rintro e w2 ⟨rfl, h⟩; have H3 := Lib.hid h; clear h))
  have h := H3.out.drew
  clear H3
  refine wp_region_text [0, 1, 4, 8, 12] (fun w' => w'.cell? ⟨w.heap.size, 0, none⟩ = some (.int .i64 b) ∧ w'.cell? ⟨(w.heap.size + 1), 0, none⟩ = some (.int .i64 c) ∧ w'.cell? ⟨(w.heap.size + 1 + 1), 0, none⟩ = some (.int .i64 a)) (by kernel_rfl) ?_ (fun hS => ?_)
  · exact HC.out _ h
  refine gl 0 (some 22) ?_
  refine gl 1 (some 23) ?_
  refine gp 2 (some 24) ?_
  refine gp 3 (some 25) ?_
  refine gl 4 (some 26) ?_
  refine gk 5 (some 27) (fun K hK => ?_)
  rw [if_pos (by rfl)]
  go_simp
  refine (J1 _).mono ?_
  rintro e w7 ⟨rfl, rfl⟩
  refine hK.out _ _ ?_ (fun hS => ?_)
  · exact HC.out _ h
  clear hK K
  try simp only [Act.put, List.setIfInBounds_toArray, List.set_cons_zero, List.set_cons_succ]
  refine gp 6 (some 28) ?_
  refine gp 7 (some 29) ?_
  refine gl 8 (some 30) ?_
  refine gk 9 (some 31) (fun K hK => ?_)
  rw [if_pos (by rfl)]
  go_simp
  refine (J2 _).mono ?_
  rintro e w7 ⟨rfl, rfl⟩
  refine hK.out _ _ ?_ (fun hS => ?_)
  · exact HC.out _ h
  clear hK K
  try simp only [Act.put, List.setIfInBounds_toArray, List.set_cons_zero, List.set_cons_succ]
  refine gp 10 (some 32) ?_
  refine gp 11 (some 33) ?_
  refine gl 12 (some 34) ?_
  refine gk 13 (some 35) (fun K hK => ?_)
  rw [if_pos (by rfl)]
  go_simp
  refine (J3 _).mono ?_
  rintro e w7 ⟨rfl, rfl⟩
  refine hK.out _ _ ?_ (fun hS => ?_)
  · exact HC.out _ h
  clear hK K
  try simp only [Act.put, List.setIfInBounds_toArray, List.set_cons_zero, List.set_cons_succ]
  refine gp 14 (some 36) ?_
  refine gp 15 (some 4) ?_
  refine gp 16 (some 5) ?_
  refine gp 17 (some 6) ?_
  refine wpAnyG_done (by kernel_rfl) ?_ _
  refine NoPanic.normal ?_
  go_wp2_with fail
  go_ret3
  exact ⟨rfl, h.drop.drop.drop⟩
end
end Go.Proofs.YtabibfabieghpaaGreatDoor
