/- PrintKey, the reference (printed by gen_xprint.py). PrintEvent, the reference (printed by gen_xprint.py). PrintChain, the reference (printed by gen_xprint.py). PrintNote, the program and the reference. -/
import Derived.Test.YtabibfabieghpaaGreatDoorPkz0
import Derived.Test.YtabibfabieghpaaGreatDoorPkz6
namespace Go.Proofs.YtabibfabieghpaaGreatDoor
open Go.RowKit
section
variable {E : World} {L : List Hp}
set_option maxRecDepth 20000 in
set_option maxHeartbeats 8000000 in
theorem xprintkey_any (g : Int) (s : ByteArray) (a : Int) (b : Int) (w : World) (h : Own E w L) :
    Calls Tryz.prog 17 #[.agg #[.int .i64 g, .string s, .int .i64 a, .int .i64 b]] w fun e w' => e = .returned (itemV (keyR g s a b)) ∧ Own E w' L := by
  have h1 := h.alloc (.cells #[.int .i64 g, .string s, .int .i64 a, .int .i64 b] 25)
  have h2 := h1.alloc (.cells #[.string ⟨#[]⟩, .string ⟨#[]⟩] ITT)
  rw [alloc_size] at h2
  have H3 := Lib.hid h2
  have k1 := fun w => xtime_any a w
  have k2 := fun w => xtime_any b w
  have hiff : keyMay g s a b ↔ ((1 ≤ g ∧ g ≤ 1073741824) ∧ s.size = 24 ∧ (0 ≤ a ∧ a ≤ 1099511627776) ∧ (0 ≤ b ∧ b ≤ 1099511627776) ∧ a ≤ b) := Iff.rfl
  have HR0 : Hid (¬ ((1 ≤ g ∧ g ≤ 1073741824) ∧ s.size = 24 ∧ (0 ≤ a ∧ a ≤ 1099511627776) ∧ (0 ≤ b ∧ b ≤ 1099511627776) ∧ a ≤ b) → keyR g s a b = (noB, noB, 140)) := Lib.hid fun hm => if_neg fun q => hm (hiff.1 q)
  have HR1 : Hid (((1 ≤ g ∧ g ≤ 1073741824) ∧ s.size = 24 ∧ (0 ≤ a ∧ a ≤ 1099511627776) ∧ (0 ≤ b ∧ b ≤ 1099511627776) ∧ a ≤ b) → keyR g s a b = (keyK g s a b, keyV g s a b, 0)) := Lib.hid fun hm => if_pos (hiff.2 hm)
  obtain ⟨d, hd, hrow⟩ := itt_u
  have HC : Hid (∀ w', Own E w' (Hp.blk (w.heap.size + 1) ITT #[.string ⟨#[]⟩, .string ⟨#[]⟩] :: Hp.blk w.heap.size 25 #[.int .i64 g, .string s, .int .i64 a, .int .i64 b] :: L) → w'.cell? ⟨w.heap.size, 0, none⟩ = some (.int .i64 g) ∧ w'.cell? ⟨w.heap.size, 1, none⟩ = some (.string s) ∧ w'.cell? ⟨w.heap.size, 2, none⟩ = some (.int .i64 a) ∧ w'.cell? ⟨w.heap.size, 3, none⟩ = some (.int .i64 b) ∧ Own E w' (Hp.blk (w.heap.size + 1) ITT #[.string ⟨#[]⟩, .string ⟨#[]⟩] :: Hp.blk w.heap.size 25 #[.int .i64 g, .string s, .int .i64 a, .int .i64 b] :: L)) := Lib.hid fun w' h => ⟨by rw [h.f1.cell 0]; rfl, by rw [h.f1.cell 1]; rfl, by rw [h.f1.cell 2]; rfl, by rw [h.f1.cell 3]; rfl, h⟩
  clear h h1 h2 hiff
  go_enter Tryz.func17, Tryz.ntmps17
  go_wp2_with (first
    | (with_reducible refine (k1 _).mono ?_; rintro e w2 ⟨rfl, rfl⟩)
    | (with_reducible refine (k2 _).mono ?_; rintro e w2 ⟨rfl, rfl⟩)
    | (with_reducible refine at_slot (k := none) ?_; refine wpList_store_whole (o := ⟨none, _, _, _, _, _⟩) (cs := [.string ⟨#[]⟩, .string ⟨#[]⟩]) (vs := [.string ⟨#[]⟩, .string ⟨#[]⟩]) H3.out rfl (pair_one ⟨#[]⟩ ⟨#[]⟩) (by kernel_rfl) rfl rfl rfl rfl ?_; clear H3; intro w7 h; have H8 := Lib.hid h; clear h))
  all_goals first
    | (refine bodyPost_ret (results_ct rfl rfl H8.out hd hrow (by kernel_rfl)) rfl ?_
       exact ⟨by rw [HR0.out (by (first | omega | ((try simp only [Bool.not_eq_true'] at *); (try simp only [Bool.not_eq_false'] at *); (try simp only [decide_eq_true_eq] at *); (try simp only [decide_eq_false_iff_not] at *); omega)))]; rfl, H8.out.drop.drop⟩)
    | skip
  have hm : (1 ≤ g ∧ g ≤ 1073741824) ∧ s.size = 24 ∧ (0 ≤ a ∧ a ≤ 1099511627776) ∧ (0 ≤ b ∧ b ≤ 1099511627776) ∧ a ≤ b := by (first | omega | ((try simp only [Bool.not_eq_true'] at *); (try simp only [Bool.not_eq_false'] at *); (try simp only [decide_eq_true_eq] at *); (try simp only [decide_eq_false_iff_not] at *); omega))
  have hsv := HR1.out hm
  have hbp1 := fun wq (h : Own E wq (Hp.blk (w.heap.size + 1) ITT #[.string ⟨#[]⟩, .string ⟨#[]⟩] :: Hp.blk w.heap.size 25 #[.int .i64 g, .string s, .int .i64 a, .int .i64 b] :: L)) => by_any (E := E) g 4 wq (by omega) (by omega) (by omega) h
  have hzp1 : (⟨(byN 4 g.toNat).toArray⟩ : ByteArray).size ≤ 8 := by rw [fl_size, byN_len]; omega
  have hbp2 := fun wq (h : Own E wq (Hp.blk (w.heap.size + 1) ITT #[.string ⟨#[]⟩, .string ⟨#[]⟩] :: Hp.blk w.heap.size 25 #[.int .i64 g, .string s, .int .i64 a, .int .i64 b] :: L)) => by_any (E := E) a 6 wq (by omega) (by omega) (by omega) h
  have hzp2 : (⟨(byN 6 a.toNat).toArray⟩ : ByteArray).size ≤ 8 := by rw [fl_size, byN_len]; omega
  have hbp3 := fun wq (h : Own E wq (Hp.blk (w.heap.size + 1) ITT #[.string ⟨#[]⟩, .string ⟨#[]⟩] :: Hp.blk w.heap.size 25 #[.int .i64 g, .string s, .int .i64 a, .int .i64 b] :: L)) => by_any (E := E) b 6 wq (by omega) (by omega) (by omega) h
  have hzp3 : (⟨(byN 6 b.toNat).toArray⟩ : ByteArray).size ≤ 8 := by rw [fl_size, byN_len]; omega
  have hkey : keyK g s a b = ⟨#[107]⟩ ++ (⟨(byN 4 g.toNat).toArray⟩ : ByteArray) := by
    unfold keyK
    refine (bytes_ext _ _ ?_).symm
    simp
  have hval : keyV g s a b = s ++ (⟨(byN 6 a.toNat).toArray⟩ : ByteArray) ++ (⟨(byN 6 b.toNat).toArray⟩ : ByteArray) := by
    unfold keyV
    refine (bytes_ext _ _ ?_).symm
    simp
  rw [hkey, hval] at hsv
  have HR := Lib.hid hsv
  have ht1 : ({ data := #[107] } : ByteArray).size = 1 := rfl
  clear hkey hval hsv HR0 HR1
  generalize (⟨(byN 4 g.toNat).toArray⟩ : ByteArray) = p1 at *
  generalize (⟨(byN 6 a.toNat).toArray⟩ : ByteArray) = p2 at *
  generalize (⟨(byN 6 b.toNat).toArray⟩ : ByteArray) = p3 at *
  have HBp1 := Lib.hid hbp1
  have HBp2 := Lib.hid hbp2
  have HBp3 := Lib.hid hbp3
  clear hbp1 hbp2 hbp3
  have h := H3.out.drew
  refine wp_region_text [1, 5, 7, 11] (fun w' => w'.cell? ⟨w.heap.size, 0, none⟩ = some (.int .i64 g) ∧ w'.cell? ⟨w.heap.size, 1, none⟩ = some (.string s) ∧ w'.cell? ⟨w.heap.size, 2, none⟩ = some (.int .i64 a) ∧ w'.cell? ⟨w.heap.size, 3, none⟩ = some (.int .i64 b) ∧ Own E w' (Hp.blk (w.heap.size + 1) ITT #[.string ⟨#[]⟩, .string ⟨#[]⟩] :: Hp.blk w.heap.size 25 #[.int .i64 g, .string s, .int .i64 a, .int .i64 b] :: L)) (by kernel_rfl) ?_ (fun hS => ?_)
  · exact HC.out _ h
  refine gp 0 (some 42) ?_
  refine gm 1 (some 43) (.int .i64 g) ?_ ?_
  · intro w hS
    obtain ⟨b0, b1, b2, b3, -⟩ := hS; go_simp; first | done | with_reducible rfl
  refine gp 4 (some 46) ?_
  refine gm 5 (some 47) (.string s) ?_ ?_
  · intro w hS
    obtain ⟨b0, b1, b2, b3, -⟩ := hS; go_simp; first | done | with_reducible rfl
  refine gp 6 (some 48) ?_
  refine gm 7 (some 49) (.int .i64 a) ?_ ?_
  · intro w hS
    obtain ⟨b0, b1, b2, b3, -⟩ := hS; go_simp; first | done | with_reducible rfl
  refine gp 10 (some 52) ?_
  refine gm 11 (some 53) (.int .i64 b) ?_ ?_
  · intro w hS
    obtain ⟨b0, b1, b2, b3, -⟩ := hS; go_simp; first | done | with_reducible rfl
  refine gk 2 (some 44) (fun K hK => ?_)
  rw [if_pos (by rfl)]
  go_simp
  refine (HBp1.out _ hS.2.2.2.2).mono ?_
  clear hS
  rintro e w2 ⟨rfl, h⟩
  refine hK.out _ _ ?_ (fun hS => ?_)
  · exact HC.out _ h
  clear hK K
  try simp only [Act.put, List.setIfInBounds_toArray, List.set_cons_zero, List.set_cons_succ]
  refine gq 3 (some 45) (.string (⟨#[107]⟩ ++ p1)) ?_ ?_
  · intro w
    go_simp; first | done | with_reducible rfl | omega | (simp only [ByteArray.size_append]; omega)
  refine gk 8 (some 50) (fun K hK => ?_)
  rw [if_pos (by rfl)]
  go_simp
  refine (HBp2.out _ hS.2.2.2.2).mono ?_
  clear hS
  rintro e w2 ⟨rfl, h⟩
  refine hK.out _ _ ?_ (fun hS => ?_)
  · exact HC.out _ h
  clear hK K
  try simp only [Act.put, List.setIfInBounds_toArray, List.set_cons_zero, List.set_cons_succ]
  refine gq 9 (some 51) (.string (s ++ p2)) ?_ ?_
  · intro w
    go_simp; first | done | with_reducible rfl | omega | (simp only [ByteArray.size_append]; omega)
  refine gk 12 (some 54) (fun K hK => ?_)
  rw [if_pos (by rfl)]
  go_simp
  refine (HBp3.out _ hS.2.2.2.2).mono ?_
  clear hS
  rintro e w2 ⟨rfl, h⟩
  refine hK.out _ _ ?_ (fun hS => ?_)
  · exact HC.out _ h
  clear hK K
  try simp only [Act.put, List.setIfInBounds_toArray, List.set_cons_zero, List.set_cons_succ]
  refine gq 13 (some 55) (.string (s ++ p2 ++ p3)) ?_ ?_
  · intro w
    go_simp; first | done | with_reducible rfl | omega | (simp only [ByteArray.size_append]; omega)
  refine gp 14 (some 56) ?_
  refine wpAnyG_break (i := 15) (oi := ⟨none, _, _, _, _, _⟩) (by kernel_rfl) rfl (by kernel_rfl) (fun K hK => ?_)
  rw [if_pos (by rfl)]
  refine wp_store_whole (cs := [.string ⟨#[]⟩, .string ⟨#[]⟩]) (vs := [.string (⟨#[107]⟩ ++ p1), .string (s ++ p2 ++ p3)]) hS.2.2.2.2 rfl (pair_one _ _) (by kernel_rfl) rfl rfl rfl (fun w9 h => ?_)
  refine hK.out _ _ ?_
  clear hK K
  try simp only [Act.put]
  refine gp 16 (some 3) ?_
  refine wpAnyG_done (by kernel_rfl) ?_ _
  refine NoPanic.normal ?_
  go_wp2_with fail
  refine bodyPost_ret (results_ct rfl rfl h hd hrow (by kernel_rfl)) rfl ?_
  exact ⟨by rw [HR.out]; rfl, h.drop.drop⟩
end
end Go.Proofs.YtabibfabieghpaaGreatDoor
namespace Go.Proofs.YtabibfabieghpaaGreatDoor
open Go.RowKit
section
variable {E : World} {L : List Hp}
set_option maxRecDepth 20000 in
set_option maxHeartbeats 8000000 in
theorem xprintevent_any (i : Int) (t : Int) (k : Int) (j : Int) (s : ByteArray) (w : World) (hs : s.size ≤ 1000000000000000000) (h : Own E w L) :
    Calls Tryz.prog 20 #[.agg #[.int .i64 i, .int .i64 t, .int .i64 k, .int .i64 j, .string s]] w fun e w' => e = .returned (itemV (eventR i t k j s)) ∧ Own E w' L := by
  have h1 := h.alloc (.cells #[.int .i64 i, .int .i64 t, .int .i64 k, .int .i64 j, .string s] 27)
  have h2 := h1.alloc (.cells #[.string ⟨#[]⟩, .string ⟨#[]⟩] ITT)
  rw [alloc_size] at h2
  have H3 := Lib.hid h2
  have k1 := fun w => xid_any i w
  have k2 := fun w => xtime_any t w
  obtain ⟨nv, hnv⟩ : ∃ nv : Int, nameB s = decide (nv = 1) := ⟨if nameB s then 1 else 0, by cases nameB s <;> rfl⟩
  obtain ⟨sn, hsn⟩ : ∃ sn : Int, s.size = 0 ↔ sn = 0 := ⟨s.size, by omega⟩
  have hsmall : sn = 0 ∨ nv = 1 → s.size ≤ 16 := fun q => by
    rcases q with q | q
    · have := hsn.2 q; omega
    · exact name_size s (by rw [hnv, decide_eq_true q])
  have HSM := Lib.hid hsmall
  have hiff : eventMay i t k j s ↔ ((1 ≤ i ∧ i ≤ 4611686018427387904) ∧ (0 ≤ t ∧ t ≤ 1099511627776) ∧ (1 ≤ k ∧ k ≤ 9) ∧ (j = 0 ∨ (1 ≤ j ∧ j ≤ 4611686018427387904)) ∧ (sn = 0 ∨ nv = 1)) := by unfold eventMay; rw [hnv, hsn]; simp only [decide_eq_true_eq]
  have z : s.toList.isEmpty = decide (sn = 0) := by rw [isEmpty_size, decide_eq_decide]; exact hsn
  have kn := fun w => xname_any s w hs
  rw [hnv] at kn
  have HR0 : Hid (¬ ((1 ≤ i ∧ i ≤ 4611686018427387904) ∧ (0 ≤ t ∧ t ≤ 1099511627776) ∧ (1 ≤ k ∧ k ≤ 9) ∧ (j = 0 ∨ (1 ≤ j ∧ j ≤ 4611686018427387904)) ∧ (sn = 0 ∨ nv = 1)) → eventR i t k j s = (noB, noB, 140)) := Lib.hid fun hm => if_neg fun q => hm (hiff.1 q)
  have HR1 : Hid (((1 ≤ i ∧ i ≤ 4611686018427387904) ∧ (0 ≤ t ∧ t ≤ 1099511627776) ∧ (1 ≤ k ∧ k ≤ 9) ∧ (j = 0 ∨ (1 ≤ j ∧ j ≤ 4611686018427387904)) ∧ (sn = 0 ∨ nv = 1)) → eventR i t k j s = (eventK i t k j s, eventV i t k j s, 0)) := Lib.hid fun hm => if_pos (hiff.2 hm)
  obtain ⟨d, hd, hrow⟩ := itt_u
  have HC : Hid (∀ w', Own E w' (Hp.blk (w.heap.size + 1) ITT #[.string ⟨#[]⟩, .string ⟨#[]⟩] :: Hp.blk w.heap.size 27 #[.int .i64 i, .int .i64 t, .int .i64 k, .int .i64 j, .string s] :: L) → w'.cell? ⟨w.heap.size, 0, none⟩ = some (.int .i64 i) ∧ w'.cell? ⟨w.heap.size, 1, none⟩ = some (.int .i64 t) ∧ w'.cell? ⟨w.heap.size, 2, none⟩ = some (.int .i64 k) ∧ w'.cell? ⟨w.heap.size, 3, none⟩ = some (.int .i64 j) ∧ w'.cell? ⟨w.heap.size, 4, none⟩ = some (.string s) ∧ Own E w' (Hp.blk (w.heap.size + 1) ITT #[.string ⟨#[]⟩, .string ⟨#[]⟩] :: Hp.blk w.heap.size 27 #[.int .i64 i, .int .i64 t, .int .i64 k, .int .i64 j, .string s] :: L)) := Lib.hid fun w' h => ⟨by rw [h.f1.cell 0]; rfl, by rw [h.f1.cell 1]; rfl, by rw [h.f1.cell 2]; rfl, by rw [h.f1.cell 3]; rfl, by rw [h.f1.cell 4]; rfl, h⟩
  clear h h1 h2 hiff hnv hsn hsmall
  go_enter Tryz.func20, Tryz.ntmps20
  go_wp2_with (first
    | (with_reducible refine (k1 _).mono ?_; rintro e w2 ⟨rfl, rfl⟩)
    | (with_reducible refine (k2 _).mono ?_; rintro e w2 ⟨rfl, rfl⟩)
    | (with_reducible refine (kn _).mono ?_; rintro e w2 ⟨rfl, rfl⟩)
    | (with_reducible refine at_slot (k := none) ?_; refine wpList_store_whole (o := ⟨none, _, _, _, _, _⟩) (cs := [.string ⟨#[]⟩, .string ⟨#[]⟩]) (vs := [.string ⟨#[]⟩, .string ⟨#[]⟩]) H3.out rfl (pair_one ⟨#[]⟩ ⟨#[]⟩) (by kernel_rfl) rfl rfl rfl rfl ?_; clear H3; intro w7 h; have H8 := Lib.hid h; clear h))
  all_goals first
    | (refine bodyPost_ret (results_ct rfl rfl H8.out hd hrow (by kernel_rfl)) rfl ?_
       exact ⟨by rw [HR0.out (by (first | omega | ((try simp only [Bool.not_eq_true'] at *); (try simp only [Bool.not_eq_false'] at *); (try simp only [decide_eq_true_eq] at *); (try simp only [decide_eq_false_iff_not] at *); omega)))]; rfl, H8.out.drop.drop⟩)
    | skip
  all_goals
    have hm : (1 ≤ i ∧ i ≤ 4611686018427387904) ∧ (0 ≤ t ∧ t ≤ 1099511627776) ∧ (1 ≤ k ∧ k ≤ 9) ∧ (j = 0 ∨ (1 ≤ j ∧ j ≤ 4611686018427387904)) ∧ (sn = 0 ∨ nv = 1) := by (first | omega | ((try simp only [Bool.not_eq_true'] at *); (try simp only [Bool.not_eq_false'] at *); (try simp only [decide_eq_true_eq] at *); (try simp only [decide_eq_false_iff_not] at *); omega))
    have hsv := HR1.out hm
    have hs16 := HSM.out (hm.2.2.2.2)
    have hbp1 := fun wq (h : Own E wq (Hp.blk (w.heap.size + 1) ITT #[.string ⟨#[]⟩, .string ⟨#[]⟩] :: Hp.blk w.heap.size 27 #[.int .i64 i, .int .i64 t, .int .i64 k, .int .i64 j, .string s] :: L)) => by_any (E := E) i 8 wq (by omega) (by omega) (by omega) h
    have hzp1 : (⟨(byN 8 i.toNat).toArray⟩ : ByteArray).size ≤ 8 := by rw [fl_size, byN_len]; omega
    have hbp2 := fun wq (h : Own E wq (Hp.blk (w.heap.size + 1) ITT #[.string ⟨#[]⟩, .string ⟨#[]⟩] :: Hp.blk w.heap.size 27 #[.int .i64 i, .int .i64 t, .int .i64 k, .int .i64 j, .string s] :: L)) => by_any (E := E) t 6 wq (by omega) (by omega) (by omega) h
    have hzp2 : (⟨(byN 6 t.toNat).toArray⟩ : ByteArray).size ≤ 8 := by rw [fl_size, byN_len]; omega
    have hbp3 := fun wq (h : Own E wq (Hp.blk (w.heap.size + 1) ITT #[.string ⟨#[]⟩, .string ⟨#[]⟩] :: Hp.blk w.heap.size 27 #[.int .i64 i, .int .i64 t, .int .i64 k, .int .i64 j, .string s] :: L)) => by_any (E := E) k 1 wq (by omega) (by omega) (by omega) h
    have hzp3 : (⟨(byN 1 k.toNat).toArray⟩ : ByteArray).size ≤ 8 := by rw [fl_size, byN_len]; omega
    have hbp4 := fun wq (h : Own E wq (Hp.blk (w.heap.size + 1) ITT #[.string ⟨#[]⟩, .string ⟨#[]⟩] :: Hp.blk w.heap.size 27 #[.int .i64 i, .int .i64 t, .int .i64 k, .int .i64 j, .string s] :: L)) => by_any (E := E) j 8 wq (by omega) (by omega) (by omega) h
    have hzp4 : (⟨(byN 8 j.toNat).toArray⟩ : ByteArray).size ≤ 8 := by rw [fl_size, byN_len]; omega
    have hbp5 := fun wq (h : Own E wq (Hp.blk (w.heap.size + 1) ITT #[.string ⟨#[]⟩, .string ⟨#[]⟩] :: Hp.blk w.heap.size 27 #[.int .i64 i, .int .i64 t, .int .i64 k, .int .i64 j, .string s] :: L)) => short_any (E := E) s wq (by omega) h
    have hzp5 : ((⟨(byN 1 s.size).toArray⟩ : ByteArray) ++ s).size ≤ 300 := by rw [ByteArray.size_append, fl_size, byN_len]; omega
    have hkey : eventK i t k j s = ⟨#[101]⟩ ++ (⟨(byN 8 i.toNat).toArray⟩ : ByteArray) := by
      unfold eventK
      refine (bytes_ext _ _ ?_).symm
      simp
    have hval : eventV i t k j s = (⟨(byN 6 t.toNat).toArray⟩ : ByteArray) ++ (⟨(byN 1 k.toNat).toArray⟩ : ByteArray) ++ (⟨(byN 8 j.toNat).toArray⟩ : ByteArray) ++ ((⟨(byN 1 s.size).toArray⟩ : ByteArray) ++ s) := by
      unfold eventV
      refine (bytes_ext _ _ ?_).symm
      simp
    rw [hkey, hval] at hsv
    have HR := Lib.hid hsv
    have ht1 : ({ data := #[101] } : ByteArray).size = 1 := rfl
    clear hkey hval hsv HR0 HR1
    generalize (⟨(byN 8 i.toNat).toArray⟩ : ByteArray) = p1 at *
    generalize (⟨(byN 6 t.toNat).toArray⟩ : ByteArray) = p2 at *
    generalize (⟨(byN 1 k.toNat).toArray⟩ : ByteArray) = p3 at *
    generalize (⟨(byN 8 j.toNat).toArray⟩ : ByteArray) = p4 at *
    generalize ((⟨(byN 1 s.size).toArray⟩ : ByteArray) ++ s) = p5 at *
    have HBp1 := Lib.hid hbp1
    have HBp2 := Lib.hid hbp2
    have HBp3 := Lib.hid hbp3
    have HBp4 := Lib.hid hbp4
    have HBp5 := Lib.hid hbp5
    clear hbp1 hbp2 hbp3 hbp4 hbp5
    have h := H3.out.drew
    refine wp_region_text [1, 5, 8, 12, 16] (fun w' => w'.cell? ⟨w.heap.size, 0, none⟩ = some (.int .i64 i) ∧ w'.cell? ⟨w.heap.size, 1, none⟩ = some (.int .i64 t) ∧ w'.cell? ⟨w.heap.size, 2, none⟩ = some (.int .i64 k) ∧ w'.cell? ⟨w.heap.size, 3, none⟩ = some (.int .i64 j) ∧ w'.cell? ⟨w.heap.size, 4, none⟩ = some (.string s) ∧ Own E w' (Hp.blk (w.heap.size + 1) ITT #[.string ⟨#[]⟩, .string ⟨#[]⟩] :: Hp.blk w.heap.size 27 #[.int .i64 i, .int .i64 t, .int .i64 k, .int .i64 j, .string s] :: L)) (by kernel_rfl) ?_ (fun hS => ?_)
    · exact HC.out _ h
    refine gp 0 (some 52) ?_
    refine gm 1 (some 53) (.int .i64 i) ?_ ?_
    · intro w hS
      obtain ⟨b0, b1, b2, b3, b4, -⟩ := hS; go_simp; first | done | with_reducible rfl
    refine gp 4 (some 56) ?_
    refine gm 5 (some 57) (.int .i64 t) ?_ ?_
    · intro w hS
      obtain ⟨b0, b1, b2, b3, b4, -⟩ := hS; go_simp; first | done | with_reducible rfl
    refine gp 7 (some 59) ?_
    refine gm 8 (some 60) (.int .i64 k) ?_ ?_
    · intro w hS
      obtain ⟨b0, b1, b2, b3, b4, -⟩ := hS; go_simp; first | done | with_reducible rfl
    refine gp 11 (some 63) ?_
    refine gm 12 (some 64) (.int .i64 j) ?_ ?_
    · intro w hS
      obtain ⟨b0, b1, b2, b3, b4, -⟩ := hS; go_simp; first | done | with_reducible rfl
    refine gp 15 (some 67) ?_
    refine gm 16 (some 68) (.string s) ?_ ?_
    · intro w hS
      obtain ⟨b0, b1, b2, b3, b4, -⟩ := hS; go_simp; first | done | with_reducible rfl
    refine gk 2 (some 54) (fun K hK => ?_)
    rw [if_pos (by rfl)]
    go_simp
    refine (HBp1.out _ hS.2.2.2.2.2).mono ?_
    clear hS
    rintro e w2 ⟨rfl, h⟩
    refine hK.out _ _ ?_ (fun hS => ?_)
    · exact HC.out _ h
    clear hK K
    try simp only [Act.put, List.setIfInBounds_toArray, List.set_cons_zero, List.set_cons_succ]
    refine gq 3 (some 55) (.string (⟨#[101]⟩ ++ p1)) ?_ ?_
    · intro w
      go_simp; first | done | with_reducible rfl | omega | (simp only [ByteArray.size_append]; omega)
    refine gk 6 (some 58) (fun K hK => ?_)
    rw [if_pos (by rfl)]
    go_simp
    refine (HBp2.out _ hS.2.2.2.2.2).mono ?_
    clear hS
    rintro e w2 ⟨rfl, h⟩
    refine hK.out _ _ ?_ (fun hS => ?_)
    · exact HC.out _ h
    clear hK K
    try simp only [Act.put, List.setIfInBounds_toArray, List.set_cons_zero, List.set_cons_succ]
    refine gk 9 (some 61) (fun K hK => ?_)
    rw [if_pos (by rfl)]
    go_simp
    refine (HBp3.out _ hS.2.2.2.2.2).mono ?_
    clear hS
    rintro e w2 ⟨rfl, h⟩
    refine hK.out _ _ ?_ (fun hS => ?_)
    · exact HC.out _ h
    clear hK K
    try simp only [Act.put, List.setIfInBounds_toArray, List.set_cons_zero, List.set_cons_succ]
    refine gq 10 (some 62) (.string (p2 ++ p3)) ?_ ?_
    · intro w
      go_simp; first | done | with_reducible rfl | omega | (simp only [ByteArray.size_append]; omega)
    refine gk 13 (some 65) (fun K hK => ?_)
    rw [if_pos (by rfl)]
    go_simp
    refine (HBp4.out _ hS.2.2.2.2.2).mono ?_
    clear hS
    rintro e w2 ⟨rfl, h⟩
    refine hK.out _ _ ?_ (fun hS => ?_)
    · exact HC.out _ h
    clear hK K
    try simp only [Act.put, List.setIfInBounds_toArray, List.set_cons_zero, List.set_cons_succ]
    refine gq 14 (some 66) (.string (p2 ++ p3 ++ p4)) ?_ ?_
    · intro w
      go_simp; first | done | with_reducible rfl | omega | (simp only [ByteArray.size_append]; omega)
    refine gk 17 (some 69) (fun K hK => ?_)
    rw [if_pos (by rfl)]
    go_simp
    refine (HBp5.out _ hS.2.2.2.2.2).mono ?_
    clear hS
    rintro e w2 ⟨rfl, h⟩
    refine hK.out _ _ ?_ (fun hS => ?_)
    · exact HC.out _ h
    clear hK K
    try simp only [Act.put, List.setIfInBounds_toArray, List.set_cons_zero, List.set_cons_succ]
    refine gq 18 (some 70) (.string (p2 ++ p3 ++ p4 ++ p5)) ?_ ?_
    · intro w
      go_simp; first | done | with_reducible rfl | omega | (simp only [ByteArray.size_append]; omega)
    refine gp 19 (some 71) ?_
    refine wpAnyG_break (i := 20) (oi := ⟨none, _, _, _, _, _⟩) (by kernel_rfl) rfl (by kernel_rfl) (fun K hK => ?_)
    rw [if_pos (by rfl)]
    refine wp_store_whole (cs := [.string ⟨#[]⟩, .string ⟨#[]⟩]) (vs := [.string (⟨#[101]⟩ ++ p1), .string (p2 ++ p3 ++ p4 ++ p5)]) hS.2.2.2.2.2 rfl (pair_one _ _) (by kernel_rfl) rfl rfl rfl (fun w9 h => ?_)
    refine hK.out _ _ ?_
    clear hK K
    try simp only [Act.put]
    refine gp 21 (some 3) ?_
    refine wpAnyG_done (by kernel_rfl) ?_ _
    refine NoPanic.normal ?_
    go_wp2_with fail
    refine bodyPost_ret (results_ct rfl rfl h hd hrow (by kernel_rfl)) rfl ?_
    exact ⟨by rw [HR.out]; rfl, h.drop.drop⟩
end
end Go.Proofs.YtabibfabieghpaaGreatDoor
namespace Go.Proofs.YtabibfabieghpaaGreatDoor
open Go.RowKit
section
variable {E : World} {L : List Hp}
set_option maxRecDepth 20000 in
set_option maxHeartbeats 8000000 in
theorem xprintchain_any (a : Int) (b : Int) (s : ByteArray) (r : ByteArray) (w : World) (h : Own E w L) :
    Calls Tryz.prog 23 #[.agg #[.int .i64 a, .int .i64 b, .string s, .string r]] w fun e w' => e = .returned (itemV (chainR a b s r)) ∧ Own E w' L := by
  have h1 := h.alloc (.cells #[.int .i64 a, .int .i64 b, .string s, .string r] 29)
  have h2 := h1.alloc (.cells #[.string ⟨#[]⟩, .string ⟨#[]⟩] ITT)
  rw [alloc_size] at h2
  have H3 := Lib.hid h2
  have hiff : chainMay a b s r ↔ ((0 ≤ a ∧ a ≤ 4611686018427387904) ∧ a < b ∧ b ≤ 4611686018427387905 ∧ b - a ≤ 33 ∧ s.size = 32 ∧ r.size = 32) := Iff.rfl
  have HR0 : Hid (¬ ((0 ≤ a ∧ a ≤ 4611686018427387904) ∧ a < b ∧ b ≤ 4611686018427387905 ∧ b - a ≤ 33 ∧ s.size = 32 ∧ r.size = 32) → chainR a b s r = (noB, noB, 140)) := Lib.hid fun hm => if_neg fun q => hm (hiff.1 q)
  have HR1 : Hid (((0 ≤ a ∧ a ≤ 4611686018427387904) ∧ a < b ∧ b ≤ 4611686018427387905 ∧ b - a ≤ 33 ∧ s.size = 32 ∧ r.size = 32) → chainR a b s r = (chainK a b s r, chainV a b s r, 0)) := Lib.hid fun hm => if_pos (hiff.2 hm)
  obtain ⟨d, hd, hrow⟩ := itt_u
  have HC : Hid (∀ w', Own E w' (Hp.blk (w.heap.size + 1) ITT #[.string ⟨#[]⟩, .string ⟨#[]⟩] :: Hp.blk w.heap.size 29 #[.int .i64 a, .int .i64 b, .string s, .string r] :: L) → w'.cell? ⟨w.heap.size, 0, none⟩ = some (.int .i64 a) ∧ w'.cell? ⟨w.heap.size, 1, none⟩ = some (.int .i64 b) ∧ w'.cell? ⟨w.heap.size, 2, none⟩ = some (.string s) ∧ w'.cell? ⟨w.heap.size, 3, none⟩ = some (.string r) ∧ Own E w' (Hp.blk (w.heap.size + 1) ITT #[.string ⟨#[]⟩, .string ⟨#[]⟩] :: Hp.blk w.heap.size 29 #[.int .i64 a, .int .i64 b, .string s, .string r] :: L)) := Lib.hid fun w' h => ⟨by rw [h.f1.cell 0]; rfl, by rw [h.f1.cell 1]; rfl, by rw [h.f1.cell 2]; rfl, by rw [h.f1.cell 3]; rfl, h⟩
  clear h h1 h2 hiff
  go_enter Tryz.func23, Tryz.ntmps23
  go_wp2_with (first
    | (with_reducible refine at_slot (k := none) ?_; refine wpList_store_whole (o := ⟨none, _, _, _, _, _⟩) (cs := [.string ⟨#[]⟩, .string ⟨#[]⟩]) (vs := [.string ⟨#[]⟩, .string ⟨#[]⟩]) H3.out rfl (pair_one ⟨#[]⟩ ⟨#[]⟩) (by kernel_rfl) rfl rfl rfl rfl ?_; clear H3; intro w7 h; have H8 := Lib.hid h; clear h))
  all_goals first
    | (refine bodyPost_ret (results_ct rfl rfl H8.out hd hrow (by kernel_rfl)) rfl ?_
       exact ⟨by rw [HR0.out (by first | (first | omega | ((try simp only [Bool.not_eq_true'] at *); (try simp only [Bool.not_eq_false'] at *); (try simp only [decide_eq_true_eq] at *); (try simp only [decide_eq_false_iff_not] at *); omega)) | (simp only [bne_iff_ne, ne_eq] at *; omega))]; rfl, H8.out.drop.drop⟩)
    | skip
  have hm : (0 ≤ a ∧ a ≤ 4611686018427387904) ∧ a < b ∧ b ≤ 4611686018427387905 ∧ b - a ≤ 33 ∧ s.size = 32 ∧ r.size = 32 := by first | omega | (simp only [bne_eq_false_iff_eq] at *; omega)
  have hsv := HR1.out hm
  have hbp1 := fun wq (h : Own E wq (Hp.blk (w.heap.size + 1) ITT #[.string ⟨#[]⟩, .string ⟨#[]⟩] :: Hp.blk w.heap.size 29 #[.int .i64 a, .int .i64 b, .string s, .string r] :: L)) => by_any (E := E) a 8 wq (by omega) (by omega) (by omega) h
  have hzp1 : (⟨(byN 8 a.toNat).toArray⟩ : ByteArray).size ≤ 8 := by rw [fl_size, byN_len]; omega
  have hbp2 := fun wq (h : Own E wq (Hp.blk (w.heap.size + 1) ITT #[.string ⟨#[]⟩, .string ⟨#[]⟩] :: Hp.blk w.heap.size 29 #[.int .i64 a, .int .i64 b, .string s, .string r] :: L)) => by_any (E := E) b 8 wq (by omega) (by omega) (by omega) h
  have hzp2 : (⟨(byN 8 b.toNat).toArray⟩ : ByteArray).size ≤ 8 := by rw [fl_size, byN_len]; omega
  have hkey : chainK a b s r = ⟨#[104]⟩ := by
    unfold chainK
    refine (bytes_ext _ _ ?_).symm
    simp
  have hval : chainV a b s r = (⟨(byN 8 a.toNat).toArray⟩ : ByteArray) ++ (⟨(byN 8 b.toNat).toArray⟩ : ByteArray) ++ s ++ r := by
    unfold chainV
    refine (bytes_ext _ _ ?_).symm
    simp
  rw [hkey, hval] at hsv
  have HR := Lib.hid hsv
  have ht1 : ({ data := #[104] } : ByteArray).size = 1 := rfl
  clear hkey hval hsv HR0 HR1
  generalize (⟨(byN 8 a.toNat).toArray⟩ : ByteArray) = p1 at *
  generalize (⟨(byN 8 b.toNat).toArray⟩ : ByteArray) = p2 at *
  have HBp1 := Lib.hid hbp1
  have HBp2 := Lib.hid hbp2
  clear hbp1 hbp2
  have h := H3.out.drew
  refine wp_region_text [1, 4, 8, 11] (fun w' => w'.cell? ⟨w.heap.size, 0, none⟩ = some (.int .i64 a) ∧ w'.cell? ⟨w.heap.size, 1, none⟩ = some (.int .i64 b) ∧ w'.cell? ⟨w.heap.size, 2, none⟩ = some (.string s) ∧ w'.cell? ⟨w.heap.size, 3, none⟩ = some (.string r) ∧ Own E w' (Hp.blk (w.heap.size + 1) ITT #[.string ⟨#[]⟩, .string ⟨#[]⟩] :: Hp.blk w.heap.size 29 #[.int .i64 a, .int .i64 b, .string s, .string r] :: L)) (by kernel_rfl) ?_ (fun hS => ?_)
  · exact HC.out _ h
  refine gp 0 (some 45) ?_
  refine gm 1 (some 46) (.int .i64 a) ?_ ?_
  · intro w hS
    obtain ⟨b0, b1, b2, b3, -⟩ := hS; go_simp; first | done | with_reducible rfl
  refine gp 3 (some 48) ?_
  refine gm 4 (some 49) (.int .i64 b) ?_ ?_
  · intro w hS
    obtain ⟨b0, b1, b2, b3, -⟩ := hS; go_simp; first | done | with_reducible rfl
  refine gp 7 (some 52) ?_
  refine gm 8 (some 53) (.string s) ?_ ?_
  · intro w hS
    obtain ⟨b0, b1, b2, b3, -⟩ := hS; go_simp; first | done | with_reducible rfl
  refine gp 10 (some 55) ?_
  refine gm 11 (some 56) (.string r) ?_ ?_
  · intro w hS
    obtain ⟨b0, b1, b2, b3, -⟩ := hS; go_simp; first | done | with_reducible rfl
  refine gk 2 (some 47) (fun K hK => ?_)
  rw [if_pos (by rfl)]
  go_simp
  refine (HBp1.out _ hS.2.2.2.2).mono ?_
  clear hS
  rintro e w2 ⟨rfl, h⟩
  refine hK.out _ _ ?_ (fun hS => ?_)
  · exact HC.out _ h
  clear hK K
  try simp only [Act.put, List.setIfInBounds_toArray, List.set_cons_zero, List.set_cons_succ]
  refine gk 5 (some 50) (fun K hK => ?_)
  rw [if_pos (by rfl)]
  go_simp
  refine (HBp2.out _ hS.2.2.2.2).mono ?_
  clear hS
  rintro e w2 ⟨rfl, h⟩
  refine hK.out _ _ ?_ (fun hS => ?_)
  · exact HC.out _ h
  clear hK K
  try simp only [Act.put, List.setIfInBounds_toArray, List.set_cons_zero, List.set_cons_succ]
  refine gq 6 (some 51) (.string (p1 ++ p2)) ?_ ?_
  · intro w
    go_simp; first | done | with_reducible rfl | omega | (simp only [ByteArray.size_append]; omega)
  refine gq 9 (some 54) (.string (p1 ++ p2 ++ s)) ?_ ?_
  · intro w
    go_simp; first | done | with_reducible rfl | omega | (simp only [ByteArray.size_append]; omega)
  refine gq 12 (some 57) (.string (p1 ++ p2 ++ s ++ r)) ?_ ?_
  · intro w
    go_simp; first | done | with_reducible rfl | omega | (simp only [ByteArray.size_append]; omega)
  refine gp 13 (some 58) ?_
  refine wpAnyG_break (i := 14) (oi := ⟨none, _, _, _, _, _⟩) (by kernel_rfl) rfl (by kernel_rfl) (fun K hK => ?_)
  rw [if_pos (by rfl)]
  refine wp_store_whole (cs := [.string ⟨#[]⟩, .string ⟨#[]⟩]) (vs := [.string (⟨#[104]⟩), .string (p1 ++ p2 ++ s ++ r)]) hS.2.2.2.2 rfl (pair_one _ _) (by kernel_rfl) rfl rfl rfl (fun w9 h => ?_)
  refine hK.out _ _ ?_
  clear hK K
  try simp only [Act.put]
  refine gp 15 (some 3) ?_
  refine wpAnyG_done (by kernel_rfl) ?_ _
  refine NoPanic.normal ?_
  go_wp2_with fail
  refine bodyPost_ret (results_ct rfl rfl h hd hrow (by kernel_rfl)) rfl ?_
  exact ⟨by rw [HR.out]; rfl, h.drop.drop⟩
end
end Go.Proofs.YtabibfabieghpaaGreatDoor
namespace Go.Proofs.YtabibfabieghpaaGreatDoor
open Go.RowKit
def noteFs (a b c : Nat) : List (Fk × Addr) := [(.num 8, ⟨a, 0, none⟩), (.num 6, ⟨b, 0, none⟩), (.raw 2, ⟨c, 0, none⟩)]
def noteMay (a b : Int) : Prop := (1 ≤ a ∧ a ≤ 4611686018427387905) ∧ (0 ≤ b ∧ b ≤ 1099511627776)
instance (a b : Int) : Decidable (noteMay a b) := by unfold noteMay; exact inferInstance
def noteV (a b : Int) : ByteArray := ⟨(byN 8 a.toNat ++ byN 6 b.toNat ++ [0, 0]).toArray⟩
def noteR (a b : Int) : ByteArray × Int := if noteMay a b then (noteV a b, 0) else (noB, 140)
def noteFl (x y c : Nat) (a b : Int) : List Fld := [(.num 8, ⟨x, 0, none⟩, .n a), (.num 6, ⟨y, 0, none⟩, .n b), (.raw 2, ⟨c, 0, none⟩, .s ⟨#[0, 0]⟩)]
theorem note_fits (x y c : Nat) (a b : Int) (h : noteMay a b) : ∀ f ∈ (noteFl x y c a b).map Fld.kv, fits1 f := by
  obtain ⟨c1, c2⟩ := h
  intro f hf
  simp only [noteFl, List.map_cons, List.map_nil, List.mem_cons, List.not_mem_nil, or_false] at hf
  rcases hf with rfl | rfl | rfl
  · exact ⟨by decide, by decide, by show (0 : Int) ≤ a; omega, by show a < (256 : Int) ^ 8; omega, by show a ≤ (9223372036854775807 : Int); omega⟩
  · exact ⟨by decide, by decide, by show (0 : Int) ≤ b; omega, by show b < (256 : Int) ^ 6; omega, by show b ≤ (9223372036854775807 : Int); omega⟩
  · rfl
theorem note_printed (x y c : Nat) (a b : Int) (h : noteMay a b) : printedV ((noteFl x y c a b).map Fld.kv) = noteV a b := by
  rw [printed_fits (note_fits x y c a b h)]
  refine bytes_ext _ _ ?_
  show (byN 8 a.toNat ++ (byN 6 b.toNat ++ ([0, 0] ++ []))).toArray.toList = _
  simp
section
variable {E : World} {L : List Hp}
set_option maxHeartbeats 2000000 in
theorem notefields_any (a b c : Nat) (w : World) (h : Own E w L) :
    Calls Tryz.prog 80 #[.pointer (some ⟨a, 0, none⟩), .pointer (some ⟨b, 0, none⟩), .pointer (some ⟨c, 0, none⟩)] w fun e w' => ∃ bb, e = .returned (.slice (some ⟨bb, 0, none⟩) 3 3) ∧ Own E w' (Hp.blk bb FT ((noteFs a b c).flatMap enF).toArray :: L) := by
  have H := Lib.hid h
  have k1 := fun (w : World) (h : Own E w L) => fnum_any (E := E) (L := L) 8 ⟨a, 0, none⟩ w h
  have k2 := fun (w : World) (h : Own E w L) => fnum_any (E := E) (L := L) 6 ⟨b, 0, none⟩ w h
  have k3 := fun (w : World) (h : Own E w L) => fraw_any (E := E) (L := L) 2 ⟨c, 0, none⟩ w h
  simp only [enF, show ((8 : Nat) : Int) = 8 from rfl, show ((6 : Nat) : Int) = 6 from rfl, show ((2 : Nat) : Int) = 2 from rfl] at k1 k2 k3
  clear h
  go_enter Tryz.func80, Tryz.ntmps80
  go_wp2_with (first
    | (with_reducible refine (k1 _ H.out).mono ?_; clear H; rintro e w2 ⟨rfl, h⟩; have H := Lib.hid h; clear h)
    | (with_reducible refine (k2 _ H.out).mono ?_; clear H; rintro e w2 ⟨rfl, h⟩; have H := Lib.hid h; clear h)
    | (with_reducible refine (k3 _ H.out).mono ?_; clear H; rintro e w2 ⟨rfl, h⟩; have H := Lib.hid h; clear h))
  go_ret
  exact ⟨_, rfl, H.out.alloc _⟩
set_option maxRecDepth 20000 in
set_option maxHeartbeats 4000000 in
theorem printnote_any (a b : Int) (w : World) (hG : Laid0 E L) (h : Own E w L) :
    Calls Tryz.prog 25 #[.int .i64 a, .int .i64 b] w fun e w' => e = .returned (.tuple #[.string (noteR a b).1, .int .i64 (noteR a b).2]) ∧ Own E w' L := by
  have h1 := h.alloc (.cells #[.int .i64 a] 3)
  have h2 := h1.alloc (.cells #[.int .i64 b] 3)
  rw [alloc_size] at h2
  have h3 := h2.alloc (.cells #[.string ⟨#[0, 0]⟩] 9)
  rw [alloc_size, alloc_size] at h3
  have H3 := Lib.hid (show Own E _ (Hp.blk (w.heap.size + 1 + 1) 9 #[.string ⟨#[0, 0]⟩] :: Hp.blk (w.heap.size + 1) 3 #[.int .i64 b] :: Hp.blk w.heap.size 3 #[.int .i64 a] :: L) from h3)
  have H2 := Lib.hid h2
  have k1 := fun w => istime_any b w
  have HR0 : Hid (¬ ((1 ≤ a ∧ a ≤ 4611686018427387905) ∧ (0 ≤ b ∧ b ≤ 1099511627776)) → noteR a b = (noB, 140)) := Lib.hid fun hm => if_neg hm
  have HR1 : Hid (((1 ≤ a ∧ a ≤ 4611686018427387905) ∧ (0 ≤ b ∧ b ≤ 1099511627776)) → noteR a b = (noteV a b, 0)) := Lib.hid fun hm => if_pos hm
  have HP : Hid (((1 ≤ a ∧ a ≤ 4611686018427387905) ∧ (0 ≤ b ∧ b ≤ 1099511627776)) → ∀ (bb : Nat) (w3 : World), Own E w3 (Hp.blk bb FT ((noteFs w.heap.size (w.heap.size + 1) (w.heap.size + 1 + 1)).flatMap enF).toArray :: Hp.blk (w.heap.size + 1 + 1) 9 #[.string ⟨#[0, 0]⟩] :: Hp.blk (w.heap.size + 1) 3 #[.int .i64 b] :: Hp.blk w.heap.size 3 #[.int .i64 a] :: L) →
      Calls Tryz.prog 61 #[.slice (some ⟨bb, 0, none⟩) 3 3] w3 fun e w' => e = .returned (.string (noteV a b)) ∧ Own E w' L) := Lib.hid fun hm bb w3 h3 => by
    have hr1 : Own E w3 (Hp.ro (Ph.one (w.heap.size + 1 + 1) (.cells #[.string ⟨#[0, 0]⟩] 9 (0, 0))) :: Hp.ro (Ph.one (w.heap.size + 1) (.cells #[.int .i64 b] 3 (0, 0))) :: Hp.ro (Ph.one w.heap.size (.cells #[.int .i64 a] 3 (0, 0))) :: Hp.blk bb FT ((noteFs w.heap.size (w.heap.size + 1) (w.heap.size + 1 + 1)).flatMap enF).toArray :: L) := h3.f3.f3.f3
    obtain ⟨m1, d1⟩ := hr1.merge
    obtain ⟨m2, d2⟩ := m1.merge
    have hok : ∀ x ∈ noteFl w.heap.size (w.heap.size + 1) (w.heap.size + 1 + 1) a b, FldOk (Ph.join (Ph.join (Ph.one (w.heap.size + 1 + 1) (.cells #[.string ⟨#[0, 0]⟩] 9 (0, 0))) (Ph.one (w.heap.size + 1) (.cells #[.int .i64 b] 3 (0, 0)))) (Ph.one w.heap.size (.cells #[.int .i64 a] 3 (0, 0)))) x := by
      intro x hx
      simp only [noteFl, List.mem_cons, List.not_mem_nil, or_false] at hx
      rcases hx with rfl | rfl | rfl
      · exact ⟨trivial, kept_cell d2 (one_cell _ _ _ 0), by show a ≤ (9223372036854775807 : Int); omega, by show (0 : Nat) ≤ _; omega⟩
      · exact ⟨trivial, left_cell (kept_cell d1 (one_cell _ _ _ 0)), by show b ≤ (9223372036854775807 : Int); omega, by show (0 : Nat) ≤ _; omega⟩
      · exact ⟨trivial, left_cell (left_cell (one_cell _ _ _ 0)), by show (0 : Int) ≤ _; omega, by show (2 : Nat) ≤ _; omega⟩
    refine (printed_blk bb 3 (noteFl w.heap.size (w.heap.size + 1) (w.heap.size + 1 + 1) a b) w3 rfl (by omega) hok hG m2.f1).mono ?_
    rw [note_printed _ _ _ a b hm]
    rintro e w' ⟨rfl, h⟩
    exact ⟨rfl, h.drop⟩
  clear h h1 h2 h3 hG
  generalize noteV a b = x1 at *
  go_enter Tryz.func25, Tryz.ntmps25
  go_wp2_with (first
    | (with_reducible refine (k1 _).mono ?_; rintro e w2 ⟨rfl, rfl⟩)
    | (with_reducible refine (notefields_any _ _ _ _ H3.out).mono ?_; clear H3; rintro e w2 ⟨bb, rfl, h⟩; have H3 := Lib.hid h; clear h)
    | (with_reducible refine (HP.out (by (first | omega | ((try simp only [Bool.not_eq_true'] at *); (try simp only [Bool.not_eq_false'] at *); (try simp only [decide_eq_true_eq] at *); (try simp only [decide_eq_false_iff_not] at *); omega))) _ _ H3.out).mono ?_; clear H3 HP H2; rintro e w2 ⟨rfl, h⟩; have H9 := Lib.hid h; clear h))
  all_goals go_ret2
  all_goals first
    | exact ⟨by rw [HR1.out (by (first | omega | ((try simp only [Bool.not_eq_true'] at *); (try simp only [Bool.not_eq_false'] at *); (try simp only [decide_eq_true_eq] at *); (try simp only [decide_eq_false_iff_not] at *); omega)))]; rfl, H9.out⟩
    | exact ⟨by rw [HR0.out (by (first | omega | ((try simp only [Bool.not_eq_true'] at *); (try simp only [Bool.not_eq_false'] at *); (try simp only [decide_eq_true_eq] at *); (try simp only [decide_eq_false_iff_not] at *); omega)))]; rfl, H2.out.drop.drop⟩
set_option maxRecDepth 20000 in
set_option maxHeartbeats 4000000 in
theorem xprintnote_any (a b : Int) (w : World) (h : Own E w L) :
    Calls Tryz.prog 26 #[.int .i64 a, .int .i64 b] w fun e w' => e = .returned (.tuple #[.string (noteR a b).1, .int .i64 (noteR a b).2]) ∧ Own E w' L := by
  have H3 := Lib.hid h
  have k1 := fun w => xtime_any b w
  have HR0 : Hid (¬ ((1 ≤ a ∧ a ≤ 4611686018427387905) ∧ (0 ≤ b ∧ b ≤ 1099511627776)) → noteR a b = (noB, 140)) := Lib.hid fun hm => if_neg hm
  have HR1 : Hid (((1 ≤ a ∧ a ≤ 4611686018427387905) ∧ (0 ≤ b ∧ b ≤ 1099511627776)) → noteR a b = (noteV a b, 0)) := Lib.hid fun hm => if_pos hm
  have B1 : Hid (((1 ≤ a ∧ a ≤ 4611686018427387905) ∧ (0 ≤ b ∧ b ≤ 1099511627776)) → ∀ wq, Own E wq L → Calls Tryz.prog 64 #[.int .i64 a, .int .i64 8] wq fun e w' => e = .returned (.string ⟨(byN 8 a.toNat).toArray⟩) ∧ Own E w' L) := Lib.hid fun hm wq h => by_any a 8 wq (by omega) (by omega) (by omega) h
  have B2 : Hid (((1 ≤ a ∧ a ≤ 4611686018427387905) ∧ (0 ≤ b ∧ b ≤ 1099511627776)) → ∀ wq, Own E wq L → Calls Tryz.prog 64 #[.int .i64 b, .int .i64 6] wq fun e w' => e = .returned (.string ⟨(byN 6 b.toNat).toArray⟩) ∧ Own E w' L) := Lib.hid fun hm wq h => by_any b 6 wq (by omega) (by omega) (by omega) h
  have hz1 : (⟨(byN 8 a.toNat).toArray⟩ : ByteArray).size ≤ 8 := by rw [fl_size, byN_len]; omega
  have hz2 : (⟨(byN 6 b.toNat).toArray⟩ : ByteArray).size ≤ 8 := by rw [fl_size, byN_len]; omega
  have hval : noteV a b = (⟨(byN 8 a.toNat).toArray⟩ : ByteArray) ++ ⟨(byN 6 b.toNat).toArray⟩ ++ ⟨#[0, 0]⟩ := by
    unfold noteV
    refine (bytes_ext _ _ ?_).symm
    simp
  rw [hval] at HR1
  clear h hval
  generalize (⟨(byN 8 a.toNat).toArray⟩ : ByteArray) = p1 at *
  generalize (⟨(byN 6 b.toNat).toArray⟩ : ByteArray) = p2 at *
  have q1 : ¬ 9223372036854775807 < p1.size + p2.size := by omega
  have q2 : ¬ 9223372036854775807 < p1.size + p2.size + 2 := by omega
  clear hz1 hz2
  go_enter Tryz.func26, Tryz.ntmps26
  go_wp2_with (first
    | (with_reducible refine (k1 _).mono ?_; rintro e w2 ⟨rfl, rfl⟩)
    | (with_reducible refine (B1.out (by (first | omega | ((try simp only [Bool.not_eq_true'] at *); (try simp only [Bool.not_eq_false'] at *); (try simp only [decide_eq_true_eq] at *); (try simp only [decide_eq_false_iff_not] at *); omega))) _ H3.out).mono ?_; clear H3; rintro e w2 ⟨rfl, h⟩; have H3 := Lib.hid h; clear h)
    | (with_reducible refine (B2.out (by (first | omega | ((try simp only [Bool.not_eq_true'] at *); (try simp only [Bool.not_eq_false'] at *); (try simp only [decide_eq_true_eq] at *); (try simp only [decide_eq_false_iff_not] at *); omega))) _ H3.out).mono ?_; clear H3; rintro e w2 ⟨rfl, h⟩; have H3 := Lib.hid h; clear h))
  all_goals go_ret2
  all_goals first
    | exact ⟨by rw [HR1.out (by (first | omega | ((try simp only [Bool.not_eq_true'] at *); (try simp only [Bool.not_eq_false'] at *); (try simp only [decide_eq_true_eq] at *); (try simp only [decide_eq_false_iff_not] at *); omega)))]; rfl, H3.out⟩
    | exact ⟨by rw [HR0.out (by (first | omega | ((try simp only [Bool.not_eq_true'] at *); (try simp only [Bool.not_eq_false'] at *); (try simp only [decide_eq_true_eq] at *); (try simp only [decide_eq_false_iff_not] at *); omega)))]; rfl, H3.out⟩
end
end Go.Proofs.YtabibfabieghpaaGreatDoor
