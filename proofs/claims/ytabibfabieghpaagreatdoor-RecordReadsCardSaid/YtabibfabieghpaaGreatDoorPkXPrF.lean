/- The reference's PrintFamily (printed by gen_xpfam.py). -/
import Derived.Test.YtabibfabieghpaaGreatDoorPkz0
import Derived.Test.YtabibfabieghpaaGreatDoorPkz10
import Derived.Test.YtabibfabieghpaaGreatDoorPkz7
namespace Go.Proofs.YtabibfabieghpaaGreatDoor
open Go.RowKit
section
variable {E : World} {S : Ph} {L : List Hp}
set_option maxRecDepth 20000 in
set_option maxHeartbeats 8000000 in
theorem xprintfam_any (id : Int) (cl su : ByteArray) (A : Option Addr) (n c : Nat) (cr us ii ab gr ge tk st en co : Int) (xs : List ByteArray) (w : World) (hr : Rds S 1 enStr A n xs) (hsz : ∀ x ∈ xs, x.size ≤ 1000000000000000000) (hcl : cl.size ≤ 1000000000000000000) (hsu : su.size ≤ 1000000000000000000) (hn43 : n ≤ 8796093022208) (h : Own E w (Hp.ro S :: L)) :
    Calls Tryz.prog 45 #[.agg (famC id cl su A n c cr us ii ab gr ge tk st en co).toArray] w fun ev w' => ev = .returned (itemV (famR id cl su xs cr us ii ab gr ge tk st en co)) ∧ Own E w' (Hp.ro S :: L) := by
  have h1 := h.alloc (.cells (famC id cl su A n c cr us ii ab gr ge tk st en co).toArray FMT)
  have h2 := h1.alloc (.cells #[.string ⟨#[]⟩, .string ⟨#[]⟩] ITT)
  rw [alloc_size] at h2
  have H3 := Lib.hid h2
  obtain ⟨dd, hd, hrow⟩ := itt_u
  by_cases hm : famMay id cl su xs cr us ii ab gr ge tk st en co
  · have hrg : FamIn id cl su (scTxt xs) cr us ii ab gr ge tk st en co := fam_range hm
    have hsc : scErr xs = 0 := hm.2.2.2.1
    have KM : Hid (∀ w3 : World, Own E w3 (Hp.blk (w.heap.size + 1) ITT #[.string ⟨#[]⟩, .string ⟨#[]⟩] :: Hp.blk w.heap.size FMT (famC id cl su A n c cr us ii ab gr ge tk st en co).toArray :: Hp.ro S :: L) → Calls Tryz.prog 105 #[.agg (famC id cl su A n c cr us ii ab gr ge tk st en co).toArray] w3 fun ev w' => ev = .returned (.bool true) ∧ Own E w' (Hp.blk (w.heap.size + 1) ITT #[.string ⟨#[]⟩, .string ⟨#[]⟩] :: Hp.blk w.heap.size FMT (famC id cl su A n c cr us ii ab gr ge tk st en co).toArray :: Hp.ro S :: L)) := Lib.hid fun w3 h3 => (xfamilymay_any id cl su A n c cr us ii ab gr ge tk st en co xs w3 hr hsz hcl hsu hn43 (show Own E w3 (Hp.ro S :: Hp.blk (w.heap.size + 1) ITT #[.string ⟨#[]⟩, .string ⟨#[]⟩] :: Hp.blk w.heap.size FMT (famC id cl su A n c cr us ii ab gr ge tk st en co).toArray :: L) from h3.f2)).mono fun ev w' he => ⟨by rw [he.1, decide_eq_true hm], he.2.f2.f2⟩
    have KS : Hid (∀ w3 : World, Own E w3 (Hp.blk (w.heap.size + 1) ITT #[.string ⟨#[]⟩, .string ⟨#[]⟩] :: Hp.blk w.heap.size FMT (famC id cl su A n c cr us ii ab gr ge tk st en co).toArray :: Hp.ro S :: L) → Calls Tryz.prog 92 #[.slice A n c] w3 fun ev w' => ev = .returned (.string (scTxt xs)) ∧ Own E w' (Hp.blk (w.heap.size + 1) ITT #[.string ⟨#[]⟩, .string ⟨#[]⟩] :: Hp.blk w.heap.size FMT (famC id cl su A n c cr us ii ab gr ge tk st en co).toArray :: Hp.ro S :: L)) := Lib.hid fun w3 h3 => (spaced_any A n c xs w3 hr hsc (show Own E w3 (Hp.ro S :: Hp.blk (w.heap.size + 1) ITT #[.string ⟨#[]⟩, .string ⟨#[]⟩] :: Hp.blk w.heap.size FMT (famC id cl su A n c cr us ii ab gr ge tk st en co).toArray :: L) from h3.f2)).mono fun ev w' he => ⟨he.1, he.2.f2.f2⟩
    obtain ⟨s1, s2, s3, r0, c0, c1, c2, c3, c4, c5, c6, c7, c8, c9⟩ := hrg
    have B1 : Hid (∀ wq : World, Own E wq (Hp.blk (w.heap.size + 1) ITT #[.string ⟨#[]⟩, .string ⟨#[]⟩] :: Hp.blk w.heap.size FMT (famC id cl su A n c cr us ii ab gr ge tk st en co).toArray :: Hp.ro S :: L) → Calls Tryz.prog 65 #[.string cl] wq fun ev w' => ev = .returned (.string ((⟨(byN 1 cl.size).toArray⟩ : ByteArray) ++ cl)) ∧ Own E w' (Hp.blk (w.heap.size + 1) ITT #[.string ⟨#[]⟩, .string ⟨#[]⟩] :: Hp.blk w.heap.size FMT (famC id cl su A n c cr us ii ab gr ge tk st en co).toArray :: Hp.ro S :: L)) := Lib.hid fun wq h => short_any cl wq (by omega) h
    have z1 : (((⟨(byN 1 cl.size).toArray⟩ : ByteArray) ++ cl)).size ≤ 300 := by rw [ByteArray.size_append, fl_size, byN_len]; omega
    have B2 : Hid (∀ wq : World, Own E wq (Hp.blk (w.heap.size + 1) ITT #[.string ⟨#[]⟩, .string ⟨#[]⟩] :: Hp.blk w.heap.size FMT (famC id cl su A n c cr us ii ab gr ge tk st en co).toArray :: Hp.ro S :: L) → Calls Tryz.prog 65 #[.string su] wq fun ev w' => ev = .returned (.string ((⟨(byN 1 su.size).toArray⟩ : ByteArray) ++ su)) ∧ Own E w' (Hp.blk (w.heap.size + 1) ITT #[.string ⟨#[]⟩, .string ⟨#[]⟩] :: Hp.blk w.heap.size FMT (famC id cl su A n c cr us ii ab gr ge tk st en co).toArray :: Hp.ro S :: L)) := Lib.hid fun wq h => short_any su wq (by omega) h
    have z2 : (((⟨(byN 1 su.size).toArray⟩ : ByteArray) ++ su)).size ≤ 300 := by rw [ByteArray.size_append, fl_size, byN_len]; omega
    have B3 : Hid (∀ wq : World, Own E wq (Hp.blk (w.heap.size + 1) ITT #[.string ⟨#[]⟩, .string ⟨#[]⟩] :: Hp.blk w.heap.size FMT (famC id cl su A n c cr us ii ab gr ge tk st en co).toArray :: Hp.ro S :: L) → Calls Tryz.prog 65 #[.string (scTxt xs)] wq fun ev w' => ev = .returned (.string ((⟨(byN 1 (scTxt xs).size).toArray⟩ : ByteArray) ++ (scTxt xs))) ∧ Own E w' (Hp.blk (w.heap.size + 1) ITT #[.string ⟨#[]⟩, .string ⟨#[]⟩] :: Hp.blk w.heap.size FMT (famC id cl su A n c cr us ii ab gr ge tk st en co).toArray :: Hp.ro S :: L)) := Lib.hid fun wq h => short_any (scTxt xs) wq (by omega) h
    have z3 : (((⟨(byN 1 (scTxt xs).size).toArray⟩ : ByteArray) ++ (scTxt xs))).size ≤ 300 := by rw [ByteArray.size_append, fl_size, byN_len]; omega
    have B4 : Hid (∀ wq : World, Own E wq (Hp.blk (w.heap.size + 1) ITT #[.string ⟨#[]⟩, .string ⟨#[]⟩] :: Hp.blk w.heap.size FMT (famC id cl su A n c cr us ii ab gr ge tk st en co).toArray :: Hp.ro S :: L) → Calls Tryz.prog 64 #[.int .i64 cr, .int .i64 6] wq fun ev w' => ev = .returned (.string (⟨(byN 6 cr.toNat).toArray⟩ : ByteArray)) ∧ Own E w' (Hp.blk (w.heap.size + 1) ITT #[.string ⟨#[]⟩, .string ⟨#[]⟩] :: Hp.blk w.heap.size FMT (famC id cl su A n c cr us ii ab gr ge tk st en co).toArray :: Hp.ro S :: L)) := Lib.hid fun wq h => by_any cr 6 wq (by omega) (by omega) (by omega) h
    have z4 : ((⟨(byN 6 cr.toNat).toArray⟩ : ByteArray)).size ≤ 300 := by rw [fl_size, byN_len]; omega
    have B5 : Hid (∀ wq : World, Own E wq (Hp.blk (w.heap.size + 1) ITT #[.string ⟨#[]⟩, .string ⟨#[]⟩] :: Hp.blk w.heap.size FMT (famC id cl su A n c cr us ii ab gr ge tk st en co).toArray :: Hp.ro S :: L) → Calls Tryz.prog 64 #[.int .i64 us, .int .i64 6] wq fun ev w' => ev = .returned (.string (⟨(byN 6 us.toNat).toArray⟩ : ByteArray)) ∧ Own E w' (Hp.blk (w.heap.size + 1) ITT #[.string ⟨#[]⟩, .string ⟨#[]⟩] :: Hp.blk w.heap.size FMT (famC id cl su A n c cr us ii ab gr ge tk st en co).toArray :: Hp.ro S :: L)) := Lib.hid fun wq h => by_any us 6 wq (by omega) (by omega) (by omega) h
    have z5 : ((⟨(byN 6 us.toNat).toArray⟩ : ByteArray)).size ≤ 300 := by rw [fl_size, byN_len]; omega
    have B6 : Hid (∀ wq : World, Own E wq (Hp.blk (w.heap.size + 1) ITT #[.string ⟨#[]⟩, .string ⟨#[]⟩] :: Hp.blk w.heap.size FMT (famC id cl su A n c cr us ii ab gr ge tk st en co).toArray :: Hp.ro S :: L) → Calls Tryz.prog 64 #[.int .i64 ii, .int .i64 6] wq fun ev w' => ev = .returned (.string (⟨(byN 6 ii.toNat).toArray⟩ : ByteArray)) ∧ Own E w' (Hp.blk (w.heap.size + 1) ITT #[.string ⟨#[]⟩, .string ⟨#[]⟩] :: Hp.blk w.heap.size FMT (famC id cl su A n c cr us ii ab gr ge tk st en co).toArray :: Hp.ro S :: L)) := Lib.hid fun wq h => by_any ii 6 wq (by omega) (by omega) (by omega) h
    have z6 : ((⟨(byN 6 ii.toNat).toArray⟩ : ByteArray)).size ≤ 300 := by rw [fl_size, byN_len]; omega
    have B7 : Hid (∀ wq : World, Own E wq (Hp.blk (w.heap.size + 1) ITT #[.string ⟨#[]⟩, .string ⟨#[]⟩] :: Hp.blk w.heap.size FMT (famC id cl su A n c cr us ii ab gr ge tk st en co).toArray :: Hp.ro S :: L) → Calls Tryz.prog 64 #[.int .i64 ab, .int .i64 6] wq fun ev w' => ev = .returned (.string (⟨(byN 6 ab.toNat).toArray⟩ : ByteArray)) ∧ Own E w' (Hp.blk (w.heap.size + 1) ITT #[.string ⟨#[]⟩, .string ⟨#[]⟩] :: Hp.blk w.heap.size FMT (famC id cl su A n c cr us ii ab gr ge tk st en co).toArray :: Hp.ro S :: L)) := Lib.hid fun wq h => by_any ab 6 wq (by omega) (by omega) (by omega) h
    have z7 : ((⟨(byN 6 ab.toNat).toArray⟩ : ByteArray)).size ≤ 300 := by rw [fl_size, byN_len]; omega
    have B8 : Hid (∀ wq : World, Own E wq (Hp.blk (w.heap.size + 1) ITT #[.string ⟨#[]⟩, .string ⟨#[]⟩] :: Hp.blk w.heap.size FMT (famC id cl su A n c cr us ii ab gr ge tk st en co).toArray :: Hp.ro S :: L) → Calls Tryz.prog 64 #[.int .i64 gr, .int .i64 6] wq fun ev w' => ev = .returned (.string (⟨(byN 6 gr.toNat).toArray⟩ : ByteArray)) ∧ Own E w' (Hp.blk (w.heap.size + 1) ITT #[.string ⟨#[]⟩, .string ⟨#[]⟩] :: Hp.blk w.heap.size FMT (famC id cl su A n c cr us ii ab gr ge tk st en co).toArray :: Hp.ro S :: L)) := Lib.hid fun wq h => by_any gr 6 wq (by omega) (by omega) (by omega) h
    have z8 : ((⟨(byN 6 gr.toNat).toArray⟩ : ByteArray)).size ≤ 300 := by rw [fl_size, byN_len]; omega
    have B9 : Hid (∀ wq : World, Own E wq (Hp.blk (w.heap.size + 1) ITT #[.string ⟨#[]⟩, .string ⟨#[]⟩] :: Hp.blk w.heap.size FMT (famC id cl su A n c cr us ii ab gr ge tk st en co).toArray :: Hp.ro S :: L) → Calls Tryz.prog 64 #[.int .i64 ge, .int .i64 4] wq fun ev w' => ev = .returned (.string (⟨(byN 4 ge.toNat).toArray⟩ : ByteArray)) ∧ Own E w' (Hp.blk (w.heap.size + 1) ITT #[.string ⟨#[]⟩, .string ⟨#[]⟩] :: Hp.blk w.heap.size FMT (famC id cl su A n c cr us ii ab gr ge tk st en co).toArray :: Hp.ro S :: L)) := Lib.hid fun wq h => by_any ge 4 wq (by omega) (by omega) (by omega) h
    have z9 : ((⟨(byN 4 ge.toNat).toArray⟩ : ByteArray)).size ≤ 300 := by rw [fl_size, byN_len]; omega
    have B10 : Hid (∀ wq : World, Own E wq (Hp.blk (w.heap.size + 1) ITT #[.string ⟨#[]⟩, .string ⟨#[]⟩] :: Hp.blk w.heap.size FMT (famC id cl su A n c cr us ii ab gr ge tk st en co).toArray :: Hp.ro S :: L) → Calls Tryz.prog 64 #[.int .i64 tk, .int .i64 8] wq fun ev w' => ev = .returned (.string (⟨(byN 8 tk.toNat).toArray⟩ : ByteArray)) ∧ Own E w' (Hp.blk (w.heap.size + 1) ITT #[.string ⟨#[]⟩, .string ⟨#[]⟩] :: Hp.blk w.heap.size FMT (famC id cl su A n c cr us ii ab gr ge tk st en co).toArray :: Hp.ro S :: L)) := Lib.hid fun wq h => by_any tk 8 wq (by omega) (by omega) (by omega) h
    have z10 : ((⟨(byN 8 tk.toNat).toArray⟩ : ByteArray)).size ≤ 300 := by rw [fl_size, byN_len]; omega
    have B11 : Hid (∀ wq : World, Own E wq (Hp.blk (w.heap.size + 1) ITT #[.string ⟨#[]⟩, .string ⟨#[]⟩] :: Hp.blk w.heap.size FMT (famC id cl su A n c cr us ii ab gr ge tk st en co).toArray :: Hp.ro S :: L) → Calls Tryz.prog 64 #[.int .i64 st, .int .i64 1] wq fun ev w' => ev = .returned (.string (⟨(byN 1 st.toNat).toArray⟩ : ByteArray)) ∧ Own E w' (Hp.blk (w.heap.size + 1) ITT #[.string ⟨#[]⟩, .string ⟨#[]⟩] :: Hp.blk w.heap.size FMT (famC id cl su A n c cr us ii ab gr ge tk st en co).toArray :: Hp.ro S :: L)) := Lib.hid fun wq h => by_any st 1 wq (by omega) (by omega) (by omega) h
    have z11 : ((⟨(byN 1 st.toNat).toArray⟩ : ByteArray)).size ≤ 300 := by rw [fl_size, byN_len]; omega
    have B12 : Hid (∀ wq : World, Own E wq (Hp.blk (w.heap.size + 1) ITT #[.string ⟨#[]⟩, .string ⟨#[]⟩] :: Hp.blk w.heap.size FMT (famC id cl su A n c cr us ii ab gr ge tk st en co).toArray :: Hp.ro S :: L) → Calls Tryz.prog 64 #[.int .i64 en, .int .i64 6] wq fun ev w' => ev = .returned (.string (⟨(byN 6 en.toNat).toArray⟩ : ByteArray)) ∧ Own E w' (Hp.blk (w.heap.size + 1) ITT #[.string ⟨#[]⟩, .string ⟨#[]⟩] :: Hp.blk w.heap.size FMT (famC id cl su A n c cr us ii ab gr ge tk st en co).toArray :: Hp.ro S :: L)) := Lib.hid fun wq h => by_any en 6 wq (by omega) (by omega) (by omega) h
    have z12 : ((⟨(byN 6 en.toNat).toArray⟩ : ByteArray)).size ≤ 300 := by rw [fl_size, byN_len]; omega
    have B13 : Hid (∀ wq : World, Own E wq (Hp.blk (w.heap.size + 1) ITT #[.string ⟨#[]⟩, .string ⟨#[]⟩] :: Hp.blk w.heap.size FMT (famC id cl su A n c cr us ii ab gr ge tk st en co).toArray :: Hp.ro S :: L) → Calls Tryz.prog 64 #[.int .i64 co, .int .i64 8] wq fun ev w' => ev = .returned (.string (⟨(byN 8 co.toNat).toArray⟩ : ByteArray)) ∧ Own E w' (Hp.blk (w.heap.size + 1) ITT #[.string ⟨#[]⟩, .string ⟨#[]⟩] :: Hp.blk w.heap.size FMT (famC id cl su A n c cr us ii ab gr ge tk st en co).toArray :: Hp.ro S :: L)) := Lib.hid fun wq h => by_any co 8 wq (by omega) (by omega) (by omega) h
    have z13 : ((⟨(byN 8 co.toNat).toArray⟩ : ByteArray)).size ≤ 300 := by rw [fl_size, byN_len]; omega
    have B0 : Hid (∀ wq : World, Own E wq (Hp.blk (w.heap.size + 1) ITT #[.string ⟨#[]⟩, .string ⟨#[]⟩] :: Hp.blk w.heap.size FMT (famC id cl su A n c cr us ii ab gr ge tk st en co).toArray :: Hp.ro S :: L) → Calls Tryz.prog 64 #[.int .i64 id, .int .i64 8] wq fun ev w' => ev = .returned (.string (⟨(byN 8 id.toNat).toArray⟩ : ByteArray)) ∧ Own E w' (Hp.blk (w.heap.size + 1) ITT #[.string ⟨#[]⟩, .string ⟨#[]⟩] :: Hp.blk w.heap.size FMT (famC id cl su A n c cr us ii ab gr ge tk st en co).toArray :: Hp.ro S :: L)) := Lib.hid fun wq h => by_any id 8 wq (by omega) (by omega) (by omega) h
    have z0 : ((⟨(byN 8 id.toNat).toArray⟩ : ByteArray)).size ≤ 300 := by rw [fl_size, byN_len]; omega
    have HV : Hid (famR id cl su xs cr us ii ab gr ge tk st en co = ((⟨#[102]⟩ : ByteArray) ++ (⟨(byN 8 id.toNat).toArray⟩ : ByteArray), ((⟨(byN 1 cl.size).toArray⟩ : ByteArray) ++ cl) ++ ((⟨(byN 1 su.size).toArray⟩ : ByteArray) ++ su) ++ ((⟨(byN 1 (scTxt xs).size).toArray⟩ : ByteArray) ++ (scTxt xs)) ++ (⟨(byN 6 cr.toNat).toArray⟩ : ByteArray) ++ (⟨(byN 6 us.toNat).toArray⟩ : ByteArray) ++ (⟨(byN 6 ii.toNat).toArray⟩ : ByteArray) ++ (⟨(byN 6 ab.toNat).toArray⟩ : ByteArray) ++ (⟨(byN 6 gr.toNat).toArray⟩ : ByteArray) ++ (⟨(byN 4 ge.toNat).toArray⟩ : ByteArray) ++ (⟨(byN 8 tk.toNat).toArray⟩ : ByteArray) ++ (⟨(byN 1 st.toNat).toArray⟩ : ByteArray) ++ (⟨(byN 6 en.toNat).toArray⟩ : ByteArray) ++ (⟨(byN 8 co.toNat).toArray⟩ : ByteArray), 0)) := Lib.hid (by
      have e1 : famK id = (⟨#[102]⟩ : ByteArray) ++ (⟨(byN 8 id.toNat).toArray⟩ : ByteArray) := by
        unfold famK
        refine (bytes_ext _ _ ?_).symm
        simp
      have e2 : famV cl su (scTxt xs) cr us ii ab gr ge tk st en co = ((⟨(byN 1 cl.size).toArray⟩ : ByteArray) ++ cl) ++ ((⟨(byN 1 su.size).toArray⟩ : ByteArray) ++ su) ++ ((⟨(byN 1 (scTxt xs).size).toArray⟩ : ByteArray) ++ (scTxt xs)) ++ (⟨(byN 6 cr.toNat).toArray⟩ : ByteArray) ++ (⟨(byN 6 us.toNat).toArray⟩ : ByteArray) ++ (⟨(byN 6 ii.toNat).toArray⟩ : ByteArray) ++ (⟨(byN 6 ab.toNat).toArray⟩ : ByteArray) ++ (⟨(byN 6 gr.toNat).toArray⟩ : ByteArray) ++ (⟨(byN 4 ge.toNat).toArray⟩ : ByteArray) ++ (⟨(byN 8 tk.toNat).toArray⟩ : ByteArray) ++ (⟨(byN 1 st.toNat).toArray⟩ : ByteArray) ++ (⟨(byN 6 en.toNat).toArray⟩ : ByteArray) ++ (⟨(byN 8 co.toNat).toArray⟩ : ByteArray) := by
        unfold famV
        refine (bytes_ext _ _ ?_).symm
        simp
      rw [← e1, ← e2]
      exact if_pos hm)
    have HC : Hid (∀ w', Own E w' (Hp.blk (w.heap.size + 1) ITT #[.string ⟨#[]⟩, .string ⟨#[]⟩] :: Hp.blk w.heap.size FMT (famC id cl su A n c cr us ii ab gr ge tk st en co).toArray :: Hp.ro S :: L) → w'.cell? ⟨w.heap.size, 1, none⟩ = some (.string cl) ∧ w'.cell? ⟨w.heap.size, 2, none⟩ = some (.string su) ∧ w'.cell? ⟨w.heap.size, 3, none⟩ = some (.slice A n c) ∧ w'.cell? ⟨w.heap.size, 4, none⟩ = some (.int .i64 cr) ∧ w'.cell? ⟨w.heap.size, 5, none⟩ = some (.int .i64 us) ∧ w'.cell? ⟨w.heap.size, 6, none⟩ = some (.int .i64 ii) ∧ w'.cell? ⟨w.heap.size, 7, none⟩ = some (.int .i64 ab) ∧ w'.cell? ⟨w.heap.size, 8, none⟩ = some (.int .i64 gr) ∧ w'.cell? ⟨w.heap.size, 9, none⟩ = some (.int .i64 ge) ∧ w'.cell? ⟨w.heap.size, 10, none⟩ = some (.int .i64 tk) ∧ w'.cell? ⟨w.heap.size, 11, none⟩ = some (.int .i64 st) ∧ w'.cell? ⟨w.heap.size, 12, none⟩ = some (.int .i64 en) ∧ w'.cell? ⟨w.heap.size, 13, none⟩ = some (.int .i64 co)) := Lib.hid fun w' h => ⟨(h.f1.cell 1).trans rfl, (h.f1.cell 2).trans rfl, (h.f1.cell 3).trans rfl, (h.f1.cell 4).trans rfl, (h.f1.cell 5).trans rfl, (h.f1.cell 6).trans rfl, (h.f1.cell 7).trans rfl, (h.f1.cell 8).trans rfl, (h.f1.cell 9).trans rfl, (h.f1.cell 10).trans rfl, (h.f1.cell 11).trans rfl, (h.f1.cell 12).trans rfl, (h.f1.cell 13).trans rfl⟩
    clear h h1 h2 hm hr hsz hcl hsu hsc s1 s2 s3 r0 c0 c1 c2 c3 c4 c5 c6 c7 c8 c9
    generalize ((⟨(byN 1 cl.size).toArray⟩ : ByteArray) ++ cl) = p1 at *
    generalize ((⟨(byN 1 su.size).toArray⟩ : ByteArray) ++ su) = p2 at *
    generalize ((⟨(byN 1 (scTxt xs).size).toArray⟩ : ByteArray) ++ (scTxt xs)) = p3 at *
    generalize (⟨(byN 6 cr.toNat).toArray⟩ : ByteArray) = p4 at *
    generalize (⟨(byN 6 us.toNat).toArray⟩ : ByteArray) = p5 at *
    generalize (⟨(byN 6 ii.toNat).toArray⟩ : ByteArray) = p6 at *
    generalize (⟨(byN 6 ab.toNat).toArray⟩ : ByteArray) = p7 at *
    generalize (⟨(byN 6 gr.toNat).toArray⟩ : ByteArray) = p8 at *
    generalize (⟨(byN 4 ge.toNat).toArray⟩ : ByteArray) = p9 at *
    generalize (⟨(byN 8 tk.toNat).toArray⟩ : ByteArray) = p10 at *
    generalize (⟨(byN 1 st.toNat).toArray⟩ : ByteArray) = p11 at *
    generalize (⟨(byN 6 en.toNat).toArray⟩ : ByteArray) = p12 at *
    generalize (⟨(byN 8 co.toNat).toArray⟩ : ByteArray) = p13 at *
    generalize (⟨(byN 8 id.toNat).toArray⟩ : ByteArray) = p0 at *
    generalize scTxt xs = sT at *
    have HD : Hid (∀ w', Own E w' (Hp.blk (w.heap.size + 1) ITT #[.string ⟨#[]⟩, .string ⟨#[]⟩] :: Hp.blk w.heap.size FMT (famC id cl su A n c cr us ii ab gr ge tk st en co).toArray :: Hp.ro S :: L) → w'.cell? ⟨w.heap.size, 0, none⟩ = some (.int .i64 id)) := Lib.hid fun w' h => (h.f1.cell 0).trans rfl
    unfold famC at *
    go_enter Tryz.func45, Tryz.ntmps45
    go_wp2_with (with_reducible refine (KM.out _ H3.out).mono ?_; clear H3; rintro ev w2 ⟨rfl, h⟩; have H3 := Lib.hid h; clear h)
    have h := H3.out.drew
    clear H3
    refine wp_region_text [1, 4, 8, 13, 17] (fun w' => w'.cell? ⟨w.heap.size, 1, none⟩ = some (.string cl) ∧ w'.cell? ⟨w.heap.size, 2, none⟩ = some (.string su) ∧ w'.cell? ⟨w.heap.size, 3, none⟩ = some (.slice A n c) ∧ w'.cell? ⟨w.heap.size, 4, none⟩ = some (.int .i64 cr) ∧ w'.cell? ⟨w.heap.size, 5, none⟩ = some (.int .i64 us) ∧ w'.cell? ⟨w.heap.size, 6, none⟩ = some (.int .i64 ii) ∧ w'.cell? ⟨w.heap.size, 7, none⟩ = some (.int .i64 ab) ∧ w'.cell? ⟨w.heap.size, 8, none⟩ = some (.int .i64 gr) ∧ w'.cell? ⟨w.heap.size, 9, none⟩ = some (.int .i64 ge) ∧ w'.cell? ⟨w.heap.size, 10, none⟩ = some (.int .i64 tk) ∧ w'.cell? ⟨w.heap.size, 11, none⟩ = some (.int .i64 st) ∧ w'.cell? ⟨w.heap.size, 12, none⟩ = some (.int .i64 en) ∧ w'.cell? ⟨w.heap.size, 13, none⟩ = some (.int .i64 co)) (by kernel_rfl) ?_ (fun hS => ?_)
    · exact HC.out _ h
    refine gp 0 (some 11) ?_
    refine gl 1 (some 12) ?_
    refine gp 3 (some 14) ?_
    refine gl 4 (some 15) ?_
    refine gp 7 (some 18) ?_
    refine gl 8 (some 19) ?_
    refine gp 12 (some 23) ?_
    refine gl 13 (some 24) ?_
    refine gp 16 (some 27) ?_
    refine gl 17 (some 28) ?_
    refine gk 2 (some 13) (fun K hK => ?_)
    rw [if_pos (by rfl)]
    go_simp
    refine (B1.out _ h).mono ?_
    clear h
    rintro ev w2 ⟨rfl, h⟩
    refine hK.out _ _ ?_ (fun hS => ?_)
    · exact HC.out _ h
    clear hK K
    try simp only [Act.put, List.setIfInBounds_toArray, List.set_cons_zero, List.set_cons_succ]
    refine gk 5 (some 16) (fun K hK => ?_)
    rw [if_pos (by rfl)]
    go_simp
    refine (B2.out _ h).mono ?_
    clear h
    rintro ev w2 ⟨rfl, h⟩
    refine hK.out _ _ ?_ (fun hS => ?_)
    · exact HC.out _ h
    clear hK K
    try simp only [Act.put, List.setIfInBounds_toArray, List.set_cons_zero, List.set_cons_succ]
    refine gq 6 (some 17) (.string (p1 ++ p2)) ?_ ?_
    · intro w
      go_simp; first | done | with_reducible rfl | omega | (simp only [ByteArray.size_append]; omega)
    refine gk 9 (some 20) (fun K hK => ?_)
    rw [if_pos (by rfl)]
    go_simp
    refine (KS.out _ h).mono ?_
    clear h
    rintro ev w2 ⟨rfl, h⟩
    refine hK.out _ _ ?_ (fun hS => ?_)
    · exact HC.out _ h
    clear hK K
    try simp only [Act.put, List.setIfInBounds_toArray, List.set_cons_zero, List.set_cons_succ]
    refine gk 10 (some 21) (fun K hK => ?_)
    rw [if_pos (by rfl)]
    go_simp
    refine (B3.out _ h).mono ?_
    clear h
    rintro ev w2 ⟨rfl, h⟩
    refine hK.out _ _ ?_ (fun hS => ?_)
    · exact HC.out _ h
    clear hK K
    try simp only [Act.put, List.setIfInBounds_toArray, List.set_cons_zero, List.set_cons_succ]
    refine gq 11 (some 22) (.string (p1 ++ p2 ++ p3)) ?_ ?_
    · intro w
      go_simp; first | done | with_reducible rfl | omega | (simp only [ByteArray.size_append]; omega)
    refine gk 14 (some 25) (fun K hK => ?_)
    rw [if_pos (by rfl)]
    go_simp
    refine (B4.out _ h).mono ?_
    clear h
    rintro ev w2 ⟨rfl, h⟩
    refine hK.out _ _ ?_ (fun hS => ?_)
    · exact HC.out _ h
    clear hK K
    try simp only [Act.put, List.setIfInBounds_toArray, List.set_cons_zero, List.set_cons_succ]
    refine gq 15 (some 26) (.string (p1 ++ p2 ++ p3 ++ p4)) ?_ ?_
    · intro w
      go_simp; first | done | with_reducible rfl | omega | (simp only [ByteArray.size_append]; omega)
    refine gk 18 (some 29) (fun K hK => ?_)
    rw [if_pos (by rfl)]
    go_simp
    refine (B5.out _ h).mono ?_
    clear h
    rintro ev w2 ⟨rfl, h⟩
    refine hK.out _ _ ?_ (fun hS => ?_)
    · exact HC.out _ h
    clear hK K
    try simp only [Act.put, List.setIfInBounds_toArray, List.set_cons_zero, List.set_cons_succ]
    refine gq 19 (some 30) (.string (p1 ++ p2 ++ p3 ++ p4 ++ p5)) ?_ ?_
    · intro w
      go_simp; first | done | with_reducible rfl | omega | (simp only [ByteArray.size_append]; omega)
    refine gp 20 (some 5) ?_
    refine wpAnyG_done (by kernel_rfl) ?_ _
    refine NoPanic.normal ?_
    go_wp2_with fail
    have h3 := h.drew
    clear h
    have h := h3
    clear h3
    refine wp_region_text [2, 6, 10, 14, 18, 22, 26, 30] (fun w' => w'.cell? ⟨w.heap.size, 1, none⟩ = some (.string cl) ∧ w'.cell? ⟨w.heap.size, 2, none⟩ = some (.string su) ∧ w'.cell? ⟨w.heap.size, 3, none⟩ = some (.slice A n c) ∧ w'.cell? ⟨w.heap.size, 4, none⟩ = some (.int .i64 cr) ∧ w'.cell? ⟨w.heap.size, 5, none⟩ = some (.int .i64 us) ∧ w'.cell? ⟨w.heap.size, 6, none⟩ = some (.int .i64 ii) ∧ w'.cell? ⟨w.heap.size, 7, none⟩ = some (.int .i64 ab) ∧ w'.cell? ⟨w.heap.size, 8, none⟩ = some (.int .i64 gr) ∧ w'.cell? ⟨w.heap.size, 9, none⟩ = some (.int .i64 ge) ∧ w'.cell? ⟨w.heap.size, 10, none⟩ = some (.int .i64 tk) ∧ w'.cell? ⟨w.heap.size, 11, none⟩ = some (.int .i64 st) ∧ w'.cell? ⟨w.heap.size, 12, none⟩ = some (.int .i64 en) ∧ w'.cell? ⟨w.heap.size, 13, none⟩ = some (.int .i64 co)) (by kernel_rfl) ?_ (fun hS => ?_)
    · exact HC.out _ h
    refine gp 0 (some 31) ?_
    refine gp 1 (some 32) ?_
    refine gl 2 (some 33) ?_
    refine gp 5 (some 36) ?_
    refine gl 6 (some 37) ?_
    refine gp 9 (some 40) ?_
    refine gl 10 (some 41) ?_
    refine gp 13 (some 44) ?_
    refine gl 14 (some 45) ?_
    refine gp 17 (some 48) ?_
    refine gl 18 (some 49) ?_
    refine gp 21 (some 52) ?_
    refine gl 22 (some 53) ?_
    refine gp 25 (some 56) ?_
    refine gl 26 (some 57) ?_
    refine gp 29 (some 60) ?_
    refine gl 30 (some 61) ?_
    refine gk 3 (some 34) (fun K hK => ?_)
    rw [if_pos (by rfl)]
    go_simp
    refine (B6.out _ h).mono ?_
    clear h
    rintro ev w2 ⟨rfl, h⟩
    refine hK.out _ _ ?_ (fun hS => ?_)
    · exact HC.out _ h
    clear hK K
    try simp only [Act.put, List.setIfInBounds_toArray, List.set_cons_zero, List.set_cons_succ]
    refine gq 4 (some 35) (.string (p1 ++ p2 ++ p3 ++ p4 ++ p5 ++ p6)) ?_ ?_
    · intro w
      go_simp; first | done | with_reducible rfl | omega | (simp only [ByteArray.size_append]; omega)
    refine gk 7 (some 38) (fun K hK => ?_)
    rw [if_pos (by rfl)]
    go_simp
    refine (B7.out _ h).mono ?_
    clear h
    rintro ev w2 ⟨rfl, h⟩
    refine hK.out _ _ ?_ (fun hS => ?_)
    · exact HC.out _ h
    clear hK K
    try simp only [Act.put, List.setIfInBounds_toArray, List.set_cons_zero, List.set_cons_succ]
    refine gq 8 (some 39) (.string (p1 ++ p2 ++ p3 ++ p4 ++ p5 ++ p6 ++ p7)) ?_ ?_
    · intro w
      go_simp; first | done | with_reducible rfl | omega | (simp only [ByteArray.size_append]; omega)
    refine gk 11 (some 42) (fun K hK => ?_)
    rw [if_pos (by rfl)]
    go_simp
    refine (B8.out _ h).mono ?_
    clear h
    rintro ev w2 ⟨rfl, h⟩
    refine hK.out _ _ ?_ (fun hS => ?_)
    · exact HC.out _ h
    clear hK K
    try simp only [Act.put, List.setIfInBounds_toArray, List.set_cons_zero, List.set_cons_succ]
    refine gq 12 (some 43) (.string (p1 ++ p2 ++ p3 ++ p4 ++ p5 ++ p6 ++ p7 ++ p8)) ?_ ?_
    · intro w
      go_simp; first | done | with_reducible rfl | omega | (simp only [ByteArray.size_append]; omega)
    refine gk 15 (some 46) (fun K hK => ?_)
    rw [if_pos (by rfl)]
    go_simp
    refine (B9.out _ h).mono ?_
    clear h
    rintro ev w2 ⟨rfl, h⟩
    refine hK.out _ _ ?_ (fun hS => ?_)
    · exact HC.out _ h
    clear hK K
    try simp only [Act.put, List.setIfInBounds_toArray, List.set_cons_zero, List.set_cons_succ]
    refine gq 16 (some 47) (.string (p1 ++ p2 ++ p3 ++ p4 ++ p5 ++ p6 ++ p7 ++ p8 ++ p9)) ?_ ?_
    · intro w
      go_simp; first | done | with_reducible rfl | omega | (simp only [ByteArray.size_append]; omega)
    refine gk 19 (some 50) (fun K hK => ?_)
    rw [if_pos (by rfl)]
    go_simp
    refine (B10.out _ h).mono ?_
    clear h
    rintro ev w2 ⟨rfl, h⟩
    refine hK.out _ _ ?_ (fun hS => ?_)
    · exact HC.out _ h
    clear hK K
    try simp only [Act.put, List.setIfInBounds_toArray, List.set_cons_zero, List.set_cons_succ]
    refine gq 20 (some 51) (.string (p1 ++ p2 ++ p3 ++ p4 ++ p5 ++ p6 ++ p7 ++ p8 ++ p9 ++ p10)) ?_ ?_
    · intro w
      go_simp; first | done | with_reducible rfl | omega | (simp only [ByteArray.size_append]; omega)
    refine gk 23 (some 54) (fun K hK => ?_)
    rw [if_pos (by rfl)]
    go_simp
    refine (B11.out _ h).mono ?_
    clear h
    rintro ev w2 ⟨rfl, h⟩
    refine hK.out _ _ ?_ (fun hS => ?_)
    · exact HC.out _ h
    clear hK K
    try simp only [Act.put, List.setIfInBounds_toArray, List.set_cons_zero, List.set_cons_succ]
    refine gq 24 (some 55) (.string (p1 ++ p2 ++ p3 ++ p4 ++ p5 ++ p6 ++ p7 ++ p8 ++ p9 ++ p10 ++ p11)) ?_ ?_
    · intro w
      go_simp; first | done | with_reducible rfl | omega | (simp only [ByteArray.size_append]; omega)
    refine gk 27 (some 58) (fun K hK => ?_)
    rw [if_pos (by rfl)]
    go_simp
    refine (B12.out _ h).mono ?_
    clear h
    rintro ev w2 ⟨rfl, h⟩
    refine hK.out _ _ ?_ (fun hS => ?_)
    · exact HC.out _ h
    clear hK K
    try simp only [Act.put, List.setIfInBounds_toArray, List.set_cons_zero, List.set_cons_succ]
    refine gq 28 (some 59) (.string (p1 ++ p2 ++ p3 ++ p4 ++ p5 ++ p6 ++ p7 ++ p8 ++ p9 ++ p10 ++ p11 ++ p12)) ?_ ?_
    · intro w
      go_simp; first | done | with_reducible rfl | omega | (simp only [ByteArray.size_append]; omega)
    refine gk 31 (some 62) (fun K hK => ?_)
    rw [if_pos (by rfl)]
    go_simp
    refine (B13.out _ h).mono ?_
    clear h
    rintro ev w2 ⟨rfl, h⟩
    refine hK.out _ _ ?_ (fun hS => ?_)
    · exact HC.out _ h
    clear hK K
    try simp only [Act.put, List.setIfInBounds_toArray, List.set_cons_zero, List.set_cons_succ]
    refine gq 32 (some 63) (.string (p1 ++ p2 ++ p3 ++ p4 ++ p5 ++ p6 ++ p7 ++ p8 ++ p9 ++ p10 ++ p11 ++ p12 ++ p13)) ?_ ?_
    · intro w
      go_simp; first | done | with_reducible rfl | omega | (simp only [ByteArray.size_append]; omega)
    refine gp 33 (some 5) ?_
    refine wpAnyG_done (by kernel_rfl) ?_ _
    refine NoPanic.normal ?_
    have c0 := HD.out _ h
    have H3 := Lib.hid h
    clear h
    have q0 : ¬ 9223372036854775807 < 1 + p0.size := by omega
    go_wp2_with (first
      | (with_reducible refine (B0.out _ H3.out).mono ?_; clear H3; rintro ev w2 ⟨rfl, h⟩; have H3 := Lib.hid h; clear h)
      | (with_reducible refine at_slot (k := none) ?_; refine wpList_store_whole (o := ⟨none, _, _, _, _, _⟩) (cs := [.string ⟨#[]⟩, .string ⟨#[]⟩]) (vs := [.string (⟨#[102]⟩ ++ p0), .string (p1 ++ p2 ++ p3 ++ p4 ++ p5 ++ p6 ++ p7 ++ p8 ++ p9 ++ p10 ++ p11 ++ p12 ++ p13)]) H3.out rfl (pair_one _ _) (by kernel_rfl) rfl rfl rfl rfl ?_; clear H3; intro w7 h; have H9 := Lib.hid h; clear h))
    refine bodyPost_ret (results_ct rfl rfl H9.out hd hrow (by kernel_rfl)) rfl ?_
    exact ⟨by rw [HV.out]; rfl, H9.out.drop.drop⟩
  · have HR : Hid (famR id cl su xs cr us ii ab gr ge tk st en co = (noB, noB, 140)) := Lib.hid (if_neg hm)
    have KM : Hid (∀ w3 : World, Own E w3 (Hp.blk (w.heap.size + 1) ITT #[.string ⟨#[]⟩, .string ⟨#[]⟩] :: Hp.blk w.heap.size FMT (famC id cl su A n c cr us ii ab gr ge tk st en co).toArray :: Hp.ro S :: L) → Calls Tryz.prog 105 #[.agg (famC id cl su A n c cr us ii ab gr ge tk st en co).toArray] w3 fun ev w' => ev = .returned (.bool false) ∧ Own E w' (Hp.blk (w.heap.size + 1) ITT #[.string ⟨#[]⟩, .string ⟨#[]⟩] :: Hp.blk w.heap.size FMT (famC id cl su A n c cr us ii ab gr ge tk st en co).toArray :: Hp.ro S :: L)) := Lib.hid fun w3 h3 => (xfamilymay_any id cl su A n c cr us ii ab gr ge tk st en co xs w3 hr hsz hcl hsu hn43 (show Own E w3 (Hp.ro S :: Hp.blk (w.heap.size + 1) ITT #[.string ⟨#[]⟩, .string ⟨#[]⟩] :: Hp.blk w.heap.size FMT (famC id cl su A n c cr us ii ab gr ge tk st en co).toArray :: L) from h3.f2)).mono fun ev w' he => ⟨by rw [he.1, decide_eq_false hm], he.2.f2.f2⟩
    clear h h1 h2 hm hr hsz hcl hsu
    unfold famC at *
    go_enter Tryz.func45, Tryz.ntmps45
    go_wp2_with (first
      | (with_reducible refine (KM.out _ H3.out).mono ?_; clear H3; rintro ev w2 ⟨rfl, h⟩; have H3 := Lib.hid h; clear h)
      | (with_reducible refine at_slot (k := none) ?_; refine wpList_store_whole (o := ⟨none, _, _, _, _, _⟩) (cs := [.string ⟨#[]⟩, .string ⟨#[]⟩]) (vs := [.string ⟨#[]⟩, .string ⟨#[]⟩]) H3.out rfl (pair_one ⟨#[]⟩ ⟨#[]⟩) (by kernel_rfl) rfl rfl rfl rfl ?_; clear H3; intro w7 h; have H8 := Lib.hid h; clear h))
    refine bodyPost_ret (results_ct rfl rfl H8.out hd hrow (by kernel_rfl)) rfl ?_
    exact ⟨by rw [HR.out]; rfl, H8.out.drop.drop⟩
end
end Go.Proofs.YtabibfabieghpaaGreatDoor
