/- PrintToken, the reference (printed by gen_xtok.py). -/
import Derived.Test.YtabibfabieghpaaGreatDoorPkz0
import Derived.Test.YtabibfabieghpaaGreatDoorPkz7
namespace Go.Proofs.YtabibfabieghpaaGreatDoor
open Go.RowKit
section
variable {E : World} {L : List Hp}
set_option maxRecDepth 20000 in
set_option maxHeartbeats 8000000 in
theorem xprinttok_true (a b c : Int) (s : ByteArray) (d : Int) (e g : Int) (r : ByteArray) (w : World) (h : Own E w L) :
    Calls Tryz.prog 12 #[.agg #[.int .i64 a, .int .i64 b, .int .i64 c, .string s, .int .i64 d, .bool true, .int .i64 e, .int .i64 g, .string r]] w fun ev w' => ev = .returned (itemV (tokR a b c s d true e g r)) ∧ Own E w' L := by
  have h1 := h.alloc (.cells #[.int .i64 a, .int .i64 b, .int .i64 c, .string s, .int .i64 d, .bool true, .int .i64 e, .int .i64 g, .string r] TOKT)
  have h2 := h1.alloc (.cells #[.string ⟨#[]⟩, .string ⟨#[]⟩] ITT)
  rw [alloc_size] at h2
  have H3 := Lib.hid h2
  obtain ⟨dd, hd, hrow⟩ := itt_u
  by_cases hm : tokMay a b c s d true e g r
  · have hsv : tokR a b c s d true e g r = (tokK a, tokV b c s d true e g r, 0) := if_pos hm
    have KM : Hid (∀ w3 : World, Own E w3 (Hp.blk (w.heap.size + 1) ITT #[.string ⟨#[]⟩, .string ⟨#[]⟩] :: Hp.blk w.heap.size TOKT #[.int .i64 a, .int .i64 b, .int .i64 c, .string s, .int .i64 d, .bool true, .int .i64 e, .int .i64 g, .string r] :: L) → Calls Tryz.prog 63 #[.agg #[.int .i64 a, .int .i64 b, .int .i64 c, .string s, .int .i64 d, .bool true, .int .i64 e, .int .i64 g, .string r]] w3 fun ev w' => ev = .returned (.bool true) ∧ w'.cell? ⟨w.heap.size, 5, none⟩ = some (.bool true) ∧ Own E w' (Hp.blk (w.heap.size + 1) ITT #[.string ⟨#[]⟩, .string ⟨#[]⟩] :: Hp.blk w.heap.size TOKT #[.int .i64 a, .int .i64 b, .int .i64 c, .string s, .int .i64 d, .bool true, .int .i64 e, .int .i64 g, .string r] :: L)) := Lib.hid fun w3 h3 => (xtokenmay_any a b c s d true e g r w3 h3).mono fun ev w' he => ⟨by rw [he.1, decide_eq_true hm], by rw [he.2.f1.cell 5]; rfl, he.2⟩
    have HC : Hid (∀ w', Own E w' (Hp.blk (w.heap.size + 1) ITT #[.string ⟨#[]⟩, .string ⟨#[]⟩] :: Hp.blk w.heap.size TOKT #[.int .i64 a, .int .i64 b, .int .i64 c, .string s, .int .i64 d, .bool true, .int .i64 e, .int .i64 g, .string r] :: L) → w'.cell? ⟨w.heap.size, 0, none⟩ = some (.int .i64 a) ∧ w'.cell? ⟨w.heap.size, 1, none⟩ = some (.int .i64 b) ∧ w'.cell? ⟨w.heap.size, 2, none⟩ = some (.int .i64 c) ∧ w'.cell? ⟨w.heap.size, 3, none⟩ = some (.string s) ∧ w'.cell? ⟨w.heap.size, 4, none⟩ = some (.int .i64 d) ∧ w'.cell? ⟨w.heap.size, 5, none⟩ = some (.bool true) ∧ w'.cell? ⟨w.heap.size, 6, none⟩ = some (.int .i64 e) ∧ w'.cell? ⟨w.heap.size, 7, none⟩ = some (.int .i64 g) ∧ w'.cell? ⟨w.heap.size, 8, none⟩ = some (.string r) ∧ Own E w' (Hp.blk (w.heap.size + 1) ITT #[.string ⟨#[]⟩, .string ⟨#[]⟩] :: Hp.blk w.heap.size TOKT #[.int .i64 a, .int .i64 b, .int .i64 c, .string s, .int .i64 d, .bool true, .int .i64 e, .int .i64 g, .string r] :: L)) := Lib.hid fun w' h => ⟨by rw [h.f1.cell 0]; rfl, by rw [h.f1.cell 1]; rfl, by rw [h.f1.cell 2]; rfl, by rw [h.f1.cell 3]; rfl, by rw [h.f1.cell 4]; rfl, by rw [h.f1.cell 5]; rfl, by rw [h.f1.cell 6]; rfl, by rw [h.f1.cell 7]; rfl, by rw [h.f1.cell 8]; rfl, h⟩
    obtain ⟨c1, c2, c3, c4, c5, c6, c7, c8⟩ := tok_range hm
    have hbp0 := fun wq (h : Own E wq (Hp.blk (w.heap.size + 1) ITT #[.string ⟨#[]⟩, .string ⟨#[]⟩] :: Hp.blk w.heap.size TOKT #[.int .i64 a, .int .i64 b, .int .i64 c, .string s, .int .i64 d, .bool true, .int .i64 e, .int .i64 g, .string r] :: L)) => by_any (E := E) a 8 wq (by omega) (by omega) (by omega) h
    have hzp0 : (⟨(byN 8 a.toNat).toArray⟩ : ByteArray).size ≤ 8 := by rw [fl_size, byN_len]; omega
    have hbp1 := fun wq (h : Own E wq (Hp.blk (w.heap.size + 1) ITT #[.string ⟨#[]⟩, .string ⟨#[]⟩] :: Hp.blk w.heap.size TOKT #[.int .i64 a, .int .i64 b, .int .i64 c, .string s, .int .i64 d, .bool true, .int .i64 e, .int .i64 g, .string r] :: L)) => by_any (E := E) b 8 wq (by omega) (by omega) (by omega) h
    have hzp1 : (⟨(byN 8 (b : Int).toNat).toArray⟩ : ByteArray).size ≤ 8 := by rw [fl_size, byN_len]; omega
    have hbp2 := fun wq (h : Own E wq (Hp.blk (w.heap.size + 1) ITT #[.string ⟨#[]⟩, .string ⟨#[]⟩] :: Hp.blk w.heap.size TOKT #[.int .i64 a, .int .i64 b, .int .i64 c, .string s, .int .i64 d, .bool true, .int .i64 e, .int .i64 g, .string r] :: L)) => by_any (E := E) c 4 wq (by omega) (by omega) (by omega) h
    have hzp2 : (⟨(byN 4 (c : Int).toNat).toArray⟩ : ByteArray).size ≤ 8 := by rw [fl_size, byN_len]; omega
    have hbp3 := fun wq (h : Own E wq (Hp.blk (w.heap.size + 1) ITT #[.string ⟨#[]⟩, .string ⟨#[]⟩] :: Hp.blk w.heap.size TOKT #[.int .i64 a, .int .i64 b, .int .i64 c, .string s, .int .i64 d, .bool true, .int .i64 e, .int .i64 g, .string r] :: L)) => by_any (E := E) d 6 wq (by omega) (by omega) (by omega) h
    have hzp3 : (⟨(byN 6 (d : Int).toNat).toArray⟩ : ByteArray).size ≤ 8 := by rw [fl_size, byN_len]; omega
    have hbp4 := fun wq (h : Own E wq (Hp.blk (w.heap.size + 1) ITT #[.string ⟨#[]⟩, .string ⟨#[]⟩] :: Hp.blk w.heap.size TOKT #[.int .i64 a, .int .i64 b, .int .i64 c, .string s, .int .i64 d, .bool true, .int .i64 e, .int .i64 g, .string r] :: L)) => by_any (E := E) 1 1 wq (by omega) (by omega) (by omega) h
    have hzp4 : (⟨(byN 1 (1 : Int).toNat).toArray⟩ : ByteArray).size ≤ 8 := by rw [fl_size, byN_len]; omega
    have hbp5 := fun wq (h : Own E wq (Hp.blk (w.heap.size + 1) ITT #[.string ⟨#[]⟩, .string ⟨#[]⟩] :: Hp.blk w.heap.size TOKT #[.int .i64 a, .int .i64 b, .int .i64 c, .string s, .int .i64 d, .bool true, .int .i64 e, .int .i64 g, .string r] :: L)) => by_any (E := E) e 6 wq (by omega) (by omega) (by omega) h
    have hzp5 : (⟨(byN 6 (e : Int).toNat).toArray⟩ : ByteArray).size ≤ 8 := by rw [fl_size, byN_len]; omega
    have hbp6 := fun wq (h : Own E wq (Hp.blk (w.heap.size + 1) ITT #[.string ⟨#[]⟩, .string ⟨#[]⟩] :: Hp.blk w.heap.size TOKT #[.int .i64 a, .int .i64 b, .int .i64 c, .string s, .int .i64 d, .bool true, .int .i64 e, .int .i64 g, .string r] :: L)) => by_any (E := E) g 8 wq (by omega) (by omega) (by omega) h
    have hzp6 : (⟨(byN 8 (g : Int).toNat).toArray⟩ : ByteArray).size ≤ 8 := by rw [fl_size, byN_len]; omega
    have hbp7 := fun wq (h : Own E wq (Hp.blk (w.heap.size + 1) ITT #[.string ⟨#[]⟩, .string ⟨#[]⟩] :: Hp.blk w.heap.size TOKT #[.int .i64 a, .int .i64 b, .int .i64 c, .string s, .int .i64 d, .bool true, .int .i64 e, .int .i64 g, .string r] :: L)) => short_any (E := E) r wq (by omega) h
    have hzp7 : ((⟨(byN 1 r.size).toArray⟩ : ByteArray) ++ r).size ≤ 300 := by rw [ByteArray.size_append, fl_size, byN_len]; omega
    have hkey : tokK a = ⟨#[116]⟩ ++ ⟨(byN 8 a.toNat).toArray⟩ := by
      unfold tokK
      refine (bytes_ext _ _ ?_).symm
      simp
    have hval : tokV b c s d true e g r = (⟨(byN 8 b.toNat).toArray⟩ : ByteArray) ++ (⟨(byN 4 c.toNat).toArray⟩ : ByteArray) ++ s ++ (⟨(byN 6 d.toNat).toArray⟩ : ByteArray) ++ (⟨(byN 1 (1 : Int).toNat).toArray⟩ : ByteArray) ++ (⟨(byN 6 e.toNat).toArray⟩ : ByteArray) ++ (⟨(byN 8 g.toNat).toArray⟩ : ByteArray) ++ ((⟨(byN 1 r.size).toArray⟩ : ByteArray) ++ r) := by
      unfold tokV
      refine (bytes_ext _ _ ?_).symm
      simp [flagV]
    rw [hkey, hval] at hsv
    have HR := Lib.hid hsv
    clear hkey hval hsv hm h h1 h2
    generalize (⟨(byN 8 a.toNat).toArray⟩ : ByteArray) = p0 at *
    generalize (⟨(byN 8 (b : Int).toNat).toArray⟩ : ByteArray) = p1 at *
    generalize (⟨(byN 4 (c : Int).toNat).toArray⟩ : ByteArray) = p2 at *
    generalize (⟨(byN 6 (d : Int).toNat).toArray⟩ : ByteArray) = p3 at *
    generalize (⟨(byN 1 (1 : Int).toNat).toArray⟩ : ByteArray) = p4 at *
    generalize (⟨(byN 6 (e : Int).toNat).toArray⟩ : ByteArray) = p5 at *
    generalize (⟨(byN 8 (g : Int).toNat).toArray⟩ : ByteArray) = p6 at *
    generalize (⟨(byN 1 r.size).toArray⟩ : ByteArray) ++ r = p7 at *
    have HBp0 := Lib.hid hbp0
    have HBp1 := Lib.hid hbp1
    have HBp2 := Lib.hid hbp2
    have HBp3 := Lib.hid hbp3
    have HBp4 := Lib.hid hbp4
    have HBp5 := Lib.hid hbp5
    have HBp6 := Lib.hid hbp6
    have HBp7 := Lib.hid hbp7
    clear hbp0 hbp1 hbp2 hbp3 hbp4 hbp5 hbp6 hbp7
    have q0 : ¬ 9223372036854775807 < 1 + p0.size := by omega
    go_enter Tryz.func12, Tryz.ntmps12
    go_wp2_with (refine (KM.out _ H3.out).mono ?_; clear H3; rintro ev w2 ⟨rfl, hc5, h⟩; have H3 := Lib.hid h; clear h)
    have h := H3.out.drew
    refine wp_region_text [1, 4, 8, 11, 18, 22, 26] (fun w' => w'.cell? ⟨w.heap.size, 0, none⟩ = some (.int .i64 a) ∧ w'.cell? ⟨w.heap.size, 1, none⟩ = some (.int .i64 b) ∧ w'.cell? ⟨w.heap.size, 2, none⟩ = some (.int .i64 c) ∧ w'.cell? ⟨w.heap.size, 3, none⟩ = some (.string s) ∧ w'.cell? ⟨w.heap.size, 4, none⟩ = some (.int .i64 d) ∧ w'.cell? ⟨w.heap.size, 5, none⟩ = some (.bool true) ∧ w'.cell? ⟨w.heap.size, 6, none⟩ = some (.int .i64 e) ∧ w'.cell? ⟨w.heap.size, 7, none⟩ = some (.int .i64 g) ∧ w'.cell? ⟨w.heap.size, 8, none⟩ = some (.string r) ∧ Own E w' (Hp.blk (w.heap.size + 1) ITT #[.string ⟨#[]⟩, .string ⟨#[]⟩] :: Hp.blk w.heap.size TOKT #[.int .i64 a, .int .i64 b, .int .i64 c, .string s, .int .i64 d, .bool true, .int .i64 e, .int .i64 g, .string r] :: L)) (by kernel_rfl) ?_ (fun hS => ?_)
    · exact HC.out _ h
    refine gp 0 (some 14) ?_
    refine gm 1 (some 15) (.int .i64 b) ?_ ?_
    · intro w hS
      obtain ⟨b0, b1, b2, b3, b4, b5, b6, b7, b8, -⟩ := hS; go_simp; first | done | with_reducible rfl
    refine gp 3 (some 17) ?_
    refine gm 4 (some 18) (.int .i64 c) ?_ ?_
    · intro w hS
      obtain ⟨b0, b1, b2, b3, b4, b5, b6, b7, b8, -⟩ := hS; go_simp; first | done | with_reducible rfl
    refine gp 7 (some 21) ?_
    refine gm 8 (some 22) (.string s) ?_ ?_
    · intro w hS
      obtain ⟨b0, b1, b2, b3, b4, b5, b6, b7, b8, -⟩ := hS; go_simp; first | done | with_reducible rfl
    refine gp 10 (some 24) ?_
    refine gm 11 (some 25) (.int .i64 d) ?_ ?_
    · intro w hS
      obtain ⟨b0, b1, b2, b3, b4, b5, b6, b7, b8, -⟩ := hS; go_simp; first | done | with_reducible rfl
    refine gp 14 (some 28) ?_
    refine gp 17 (some 31) ?_
    refine gm 18 (some 32) (.int .i64 e) ?_ ?_
    · intro w hS
      obtain ⟨b0, b1, b2, b3, b4, b5, b6, b7, b8, -⟩ := hS; go_simp; first | done | with_reducible rfl
    refine gp 21 (some 35) ?_
    refine gm 22 (some 36) (.int .i64 g) ?_ ?_
    · intro w hS
      obtain ⟨b0, b1, b2, b3, b4, b5, b6, b7, b8, -⟩ := hS; go_simp; first | done | with_reducible rfl
    refine gp 25 (some 39) ?_
    refine gm 26 (some 40) (.string r) ?_ ?_
    · intro w hS
      obtain ⟨b0, b1, b2, b3, b4, b5, b6, b7, b8, -⟩ := hS; go_simp; first | done | with_reducible rfl
    refine gk 2 (some 16) (fun K hK => ?_)
    rw [if_pos (by rfl)]
    go_simp
    refine (HBp1.out _ hS.2.2.2.2.2.2.2.2.2).mono ?_
    clear hS
    rintro ev w2 ⟨rfl, h⟩
    refine hK.out _ _ ?_ (fun hS => ?_)
    · exact HC.out _ h
    clear hK K
    try simp only [Act.put, List.setIfInBounds_toArray, List.set_cons_zero, List.set_cons_succ]
    refine gk 5 (some 19) (fun K hK => ?_)
    rw [if_pos (by rfl)]
    go_simp
    refine (HBp2.out _ hS.2.2.2.2.2.2.2.2.2).mono ?_
    clear hS
    rintro ev w2 ⟨rfl, h⟩
    refine hK.out _ _ ?_ (fun hS => ?_)
    · exact HC.out _ h
    clear hK K
    try simp only [Act.put, List.setIfInBounds_toArray, List.set_cons_zero, List.set_cons_succ]
    refine gq 6 (some 20) (.string (p1 ++ p2)) ?_ ?_
    · intro w
      go_simp; first | done | with_reducible rfl | omega | (simp only [ByteArray.size_append]; omega)
    refine gq 9 (some 23) (.string (p1 ++ p2 ++ s)) ?_ ?_
    · intro w
      go_simp; first | done | with_reducible rfl | omega | (simp only [ByteArray.size_append]; omega)
    refine gk 12 (some 26) (fun K hK => ?_)
    rw [if_pos (by rfl)]
    go_simp
    refine (HBp3.out _ hS.2.2.2.2.2.2.2.2.2).mono ?_
    clear hS
    rintro ev w2 ⟨rfl, h⟩
    refine hK.out _ _ ?_ (fun hS => ?_)
    · exact HC.out _ h
    clear hK K
    try simp only [Act.put, List.setIfInBounds_toArray, List.set_cons_zero, List.set_cons_succ]
    refine gq 13 (some 27) (.string (p1 ++ p2 ++ s ++ p3)) ?_ ?_
    · intro w
      go_simp; first | done | with_reducible rfl | omega | (simp only [ByteArray.size_append]; omega)
    refine gk 15 (some 29) (fun K hK => ?_)
    rw [if_pos (by rfl)]
    go_simp
    refine (HBp4.out _ hS.2.2.2.2.2.2.2.2.2).mono ?_
    clear hS
    rintro ev w2 ⟨rfl, h⟩
    refine hK.out _ _ ?_ (fun hS => ?_)
    · exact HC.out _ h
    clear hK K
    try simp only [Act.put, List.setIfInBounds_toArray, List.set_cons_zero, List.set_cons_succ]
    refine gq 16 (some 30) (.string (p1 ++ p2 ++ s ++ p3 ++ p4)) ?_ ?_
    · intro w
      go_simp; first | done | with_reducible rfl | omega | (simp only [ByteArray.size_append]; omega)
    refine gk 19 (some 33) (fun K hK => ?_)
    rw [if_pos (by rfl)]
    go_simp
    refine (HBp5.out _ hS.2.2.2.2.2.2.2.2.2).mono ?_
    clear hS
    rintro ev w2 ⟨rfl, h⟩
    refine hK.out _ _ ?_ (fun hS => ?_)
    · exact HC.out _ h
    clear hK K
    try simp only [Act.put, List.setIfInBounds_toArray, List.set_cons_zero, List.set_cons_succ]
    refine gq 20 (some 34) (.string (p1 ++ p2 ++ s ++ p3 ++ p4 ++ p5)) ?_ ?_
    · intro w
      go_simp; first | done | with_reducible rfl | omega | (simp only [ByteArray.size_append]; omega)
    refine gk 23 (some 37) (fun K hK => ?_)
    rw [if_pos (by rfl)]
    go_simp
    refine (HBp6.out _ hS.2.2.2.2.2.2.2.2.2).mono ?_
    clear hS
    rintro ev w2 ⟨rfl, h⟩
    refine hK.out _ _ ?_ (fun hS => ?_)
    · exact HC.out _ h
    clear hK K
    try simp only [Act.put, List.setIfInBounds_toArray, List.set_cons_zero, List.set_cons_succ]
    refine gq 24 (some 38) (.string (p1 ++ p2 ++ s ++ p3 ++ p4 ++ p5 ++ p6)) ?_ ?_
    · intro w
      go_simp; first | done | with_reducible rfl | omega | (simp only [ByteArray.size_append]; omega)
    refine gk 27 (some 41) (fun K hK => ?_)
    rw [if_pos (by rfl)]
    go_simp
    refine (HBp7.out _ hS.2.2.2.2.2.2.2.2.2).mono ?_
    clear hS
    rintro ev w2 ⟨rfl, h⟩
    refine hK.out _ _ ?_ (fun hS => ?_)
    · exact HC.out _ h
    clear hK K
    try simp only [Act.put, List.setIfInBounds_toArray, List.set_cons_zero, List.set_cons_succ]
    refine gq 28 (some 42) (.string (p1 ++ p2 ++ s ++ p3 ++ p4 ++ p5 ++ p6 ++ p7)) ?_ ?_
    · intro w
      go_simp; first | done | with_reducible rfl | omega | (simp only [ByteArray.size_append]; omega)
    refine gp 29 (some 6) ?_
    refine wpAnyG_done (by kernel_rfl) ?_ _
    refine NoPanic.normal ?_
    have hc0 := (HC.out _ h).1
    clear H3
    have H3 := Lib.hid h
    clear h
    generalize p1 ++ p2 ++ s ++ p3 ++ p4 ++ p5 ++ p6 ++ p7 = x2 at *
    go_wp2_with (first
      | (refine (HBp0.out _ H3.out).mono ?_; clear H3; rintro ev w2 ⟨rfl, h⟩; have H3 := Lib.hid h; clear h)
      | (with_reducible refine at_slot (k := none) ?_; refine wpList_store_whole (o := ⟨none, _, _, _, _, _⟩) (cs := [.string ⟨#[]⟩, .string ⟨#[]⟩]) (vs := [.string (⟨#[116]⟩ ++ p0), .string x2]) H3.out rfl (pair_one _ x2) (by kernel_rfl) rfl rfl rfl rfl ?_; clear H3; intro w7 h; have H9 := Lib.hid h; clear h))
    refine bodyPost_ret (results_ct rfl rfl H9.out hd hrow (by kernel_rfl)) rfl ?_
    exact ⟨by rw [HR.out]; rfl, H9.out.drop.drop⟩
  · have HR : Hid (tokR a b c s d true e g r = (noB, noB, 140)) := Lib.hid (if_neg hm)
    have KM : Hid (∀ w3 : World, Own E w3 (Hp.blk (w.heap.size + 1) ITT #[.string ⟨#[]⟩, .string ⟨#[]⟩] :: Hp.blk w.heap.size TOKT #[.int .i64 a, .int .i64 b, .int .i64 c, .string s, .int .i64 d, .bool true, .int .i64 e, .int .i64 g, .string r] :: L) → Calls Tryz.prog 63 #[.agg #[.int .i64 a, .int .i64 b, .int .i64 c, .string s, .int .i64 d, .bool true, .int .i64 e, .int .i64 g, .string r]] w3 fun ev w' => ev = .returned (.bool false) ∧ Own E w' (Hp.blk (w.heap.size + 1) ITT #[.string ⟨#[]⟩, .string ⟨#[]⟩] :: Hp.blk w.heap.size TOKT #[.int .i64 a, .int .i64 b, .int .i64 c, .string s, .int .i64 d, .bool true, .int .i64 e, .int .i64 g, .string r] :: L)) := Lib.hid fun w3 h3 => (xtokenmay_any a b c s d true e g r w3 h3).mono fun ev w' he => ⟨by rw [he.1, decide_eq_false hm], he.2⟩
    clear h h1 h2 hm
    go_enter Tryz.func12, Tryz.ntmps12
    go_wp2_with (first
      | (with_reducible refine (KM.out _ H3.out).mono ?_; clear H3; rintro ev w2 ⟨rfl, h⟩; have H3 := Lib.hid h; clear h)
      | (with_reducible refine at_slot (k := none) ?_; refine wpList_store_whole (o := ⟨none, _, _, _, _, _⟩) (cs := [.string ⟨#[]⟩, .string ⟨#[]⟩]) (vs := [.string ⟨#[]⟩, .string ⟨#[]⟩]) H3.out rfl (pair_one ⟨#[]⟩ ⟨#[]⟩) (by kernel_rfl) rfl rfl rfl rfl ?_; clear H3; intro w7 h; have H8 := Lib.hid h; clear h))
    refine bodyPost_ret (results_ct rfl rfl H8.out hd hrow (by kernel_rfl)) rfl ?_
    exact ⟨by rw [HR.out]; rfl, H8.out.drop.drop⟩
set_option maxRecDepth 20000 in
set_option maxHeartbeats 8000000 in
theorem xprinttok_false (a b c : Int) (s : ByteArray) (d : Int) (e g : Int) (r : ByteArray) (w : World) (h : Own E w L) :
    Calls Tryz.prog 12 #[.agg #[.int .i64 a, .int .i64 b, .int .i64 c, .string s, .int .i64 d, .bool false, .int .i64 e, .int .i64 g, .string r]] w fun ev w' => ev = .returned (itemV (tokR a b c s d false e g r)) ∧ Own E w' L := by
  have h1 := h.alloc (.cells #[.int .i64 a, .int .i64 b, .int .i64 c, .string s, .int .i64 d, .bool false, .int .i64 e, .int .i64 g, .string r] TOKT)
  have h2 := h1.alloc (.cells #[.string ⟨#[]⟩, .string ⟨#[]⟩] ITT)
  rw [alloc_size] at h2
  have H3 := Lib.hid h2
  obtain ⟨dd, hd, hrow⟩ := itt_u
  by_cases hm : tokMay a b c s d false e g r
  · have hsv : tokR a b c s d false e g r = (tokK a, tokV b c s d false e g r, 0) := if_pos hm
    have KM : Hid (∀ w3 : World, Own E w3 (Hp.blk (w.heap.size + 1) ITT #[.string ⟨#[]⟩, .string ⟨#[]⟩] :: Hp.blk w.heap.size TOKT #[.int .i64 a, .int .i64 b, .int .i64 c, .string s, .int .i64 d, .bool false, .int .i64 e, .int .i64 g, .string r] :: L) → Calls Tryz.prog 63 #[.agg #[.int .i64 a, .int .i64 b, .int .i64 c, .string s, .int .i64 d, .bool false, .int .i64 e, .int .i64 g, .string r]] w3 fun ev w' => ev = .returned (.bool true) ∧ w'.cell? ⟨w.heap.size, 5, none⟩ = some (.bool false) ∧ Own E w' (Hp.blk (w.heap.size + 1) ITT #[.string ⟨#[]⟩, .string ⟨#[]⟩] :: Hp.blk w.heap.size TOKT #[.int .i64 a, .int .i64 b, .int .i64 c, .string s, .int .i64 d, .bool false, .int .i64 e, .int .i64 g, .string r] :: L)) := Lib.hid fun w3 h3 => (xtokenmay_any a b c s d false e g r w3 h3).mono fun ev w' he => ⟨by rw [he.1, decide_eq_true hm], by rw [he.2.f1.cell 5]; rfl, he.2⟩
    have HC : Hid (∀ w', Own E w' (Hp.blk (w.heap.size + 1) ITT #[.string ⟨#[]⟩, .string ⟨#[]⟩] :: Hp.blk w.heap.size TOKT #[.int .i64 a, .int .i64 b, .int .i64 c, .string s, .int .i64 d, .bool false, .int .i64 e, .int .i64 g, .string r] :: L) → w'.cell? ⟨w.heap.size, 0, none⟩ = some (.int .i64 a) ∧ w'.cell? ⟨w.heap.size, 1, none⟩ = some (.int .i64 b) ∧ w'.cell? ⟨w.heap.size, 2, none⟩ = some (.int .i64 c) ∧ w'.cell? ⟨w.heap.size, 3, none⟩ = some (.string s) ∧ w'.cell? ⟨w.heap.size, 4, none⟩ = some (.int .i64 d) ∧ w'.cell? ⟨w.heap.size, 5, none⟩ = some (.bool false) ∧ w'.cell? ⟨w.heap.size, 6, none⟩ = some (.int .i64 e) ∧ w'.cell? ⟨w.heap.size, 7, none⟩ = some (.int .i64 g) ∧ w'.cell? ⟨w.heap.size, 8, none⟩ = some (.string r) ∧ Own E w' (Hp.blk (w.heap.size + 1) ITT #[.string ⟨#[]⟩, .string ⟨#[]⟩] :: Hp.blk w.heap.size TOKT #[.int .i64 a, .int .i64 b, .int .i64 c, .string s, .int .i64 d, .bool false, .int .i64 e, .int .i64 g, .string r] :: L)) := Lib.hid fun w' h => ⟨by rw [h.f1.cell 0]; rfl, by rw [h.f1.cell 1]; rfl, by rw [h.f1.cell 2]; rfl, by rw [h.f1.cell 3]; rfl, by rw [h.f1.cell 4]; rfl, by rw [h.f1.cell 5]; rfl, by rw [h.f1.cell 6]; rfl, by rw [h.f1.cell 7]; rfl, by rw [h.f1.cell 8]; rfl, h⟩
    obtain ⟨c1, c2, c3, c4, c5, c6, c7, c8⟩ := tok_range hm
    have hbp0 := fun wq (h : Own E wq (Hp.blk (w.heap.size + 1) ITT #[.string ⟨#[]⟩, .string ⟨#[]⟩] :: Hp.blk w.heap.size TOKT #[.int .i64 a, .int .i64 b, .int .i64 c, .string s, .int .i64 d, .bool false, .int .i64 e, .int .i64 g, .string r] :: L)) => by_any (E := E) a 8 wq (by omega) (by omega) (by omega) h
    have hzp0 : (⟨(byN 8 a.toNat).toArray⟩ : ByteArray).size ≤ 8 := by rw [fl_size, byN_len]; omega
    have hbp1 := fun wq (h : Own E wq (Hp.blk (w.heap.size + 1) ITT #[.string ⟨#[]⟩, .string ⟨#[]⟩] :: Hp.blk w.heap.size TOKT #[.int .i64 a, .int .i64 b, .int .i64 c, .string s, .int .i64 d, .bool false, .int .i64 e, .int .i64 g, .string r] :: L)) => by_any (E := E) b 8 wq (by omega) (by omega) (by omega) h
    have hzp1 : (⟨(byN 8 (b : Int).toNat).toArray⟩ : ByteArray).size ≤ 8 := by rw [fl_size, byN_len]; omega
    have hbp2 := fun wq (h : Own E wq (Hp.blk (w.heap.size + 1) ITT #[.string ⟨#[]⟩, .string ⟨#[]⟩] :: Hp.blk w.heap.size TOKT #[.int .i64 a, .int .i64 b, .int .i64 c, .string s, .int .i64 d, .bool false, .int .i64 e, .int .i64 g, .string r] :: L)) => by_any (E := E) c 4 wq (by omega) (by omega) (by omega) h
    have hzp2 : (⟨(byN 4 (c : Int).toNat).toArray⟩ : ByteArray).size ≤ 8 := by rw [fl_size, byN_len]; omega
    have hbp3 := fun wq (h : Own E wq (Hp.blk (w.heap.size + 1) ITT #[.string ⟨#[]⟩, .string ⟨#[]⟩] :: Hp.blk w.heap.size TOKT #[.int .i64 a, .int .i64 b, .int .i64 c, .string s, .int .i64 d, .bool false, .int .i64 e, .int .i64 g, .string r] :: L)) => by_any (E := E) d 6 wq (by omega) (by omega) (by omega) h
    have hzp3 : (⟨(byN 6 (d : Int).toNat).toArray⟩ : ByteArray).size ≤ 8 := by rw [fl_size, byN_len]; omega
    have hbp4 := fun wq (h : Own E wq (Hp.blk (w.heap.size + 1) ITT #[.string ⟨#[]⟩, .string ⟨#[]⟩] :: Hp.blk w.heap.size TOKT #[.int .i64 a, .int .i64 b, .int .i64 c, .string s, .int .i64 d, .bool false, .int .i64 e, .int .i64 g, .string r] :: L)) => by_any (E := E) 0 1 wq (by omega) (by omega) (by omega) h
    have hzp4 : (⟨(byN 1 (0 : Int).toNat).toArray⟩ : ByteArray).size ≤ 8 := by rw [fl_size, byN_len]; omega
    have hbp5 := fun wq (h : Own E wq (Hp.blk (w.heap.size + 1) ITT #[.string ⟨#[]⟩, .string ⟨#[]⟩] :: Hp.blk w.heap.size TOKT #[.int .i64 a, .int .i64 b, .int .i64 c, .string s, .int .i64 d, .bool false, .int .i64 e, .int .i64 g, .string r] :: L)) => by_any (E := E) e 6 wq (by omega) (by omega) (by omega) h
    have hzp5 : (⟨(byN 6 (e : Int).toNat).toArray⟩ : ByteArray).size ≤ 8 := by rw [fl_size, byN_len]; omega
    have hbp6 := fun wq (h : Own E wq (Hp.blk (w.heap.size + 1) ITT #[.string ⟨#[]⟩, .string ⟨#[]⟩] :: Hp.blk w.heap.size TOKT #[.int .i64 a, .int .i64 b, .int .i64 c, .string s, .int .i64 d, .bool false, .int .i64 e, .int .i64 g, .string r] :: L)) => by_any (E := E) g 8 wq (by omega) (by omega) (by omega) h
    have hzp6 : (⟨(byN 8 (g : Int).toNat).toArray⟩ : ByteArray).size ≤ 8 := by rw [fl_size, byN_len]; omega
    have hbp7 := fun wq (h : Own E wq (Hp.blk (w.heap.size + 1) ITT #[.string ⟨#[]⟩, .string ⟨#[]⟩] :: Hp.blk w.heap.size TOKT #[.int .i64 a, .int .i64 b, .int .i64 c, .string s, .int .i64 d, .bool false, .int .i64 e, .int .i64 g, .string r] :: L)) => short_any (E := E) r wq (by omega) h
    have hzp7 : ((⟨(byN 1 r.size).toArray⟩ : ByteArray) ++ r).size ≤ 300 := by rw [ByteArray.size_append, fl_size, byN_len]; omega
    have hkey : tokK a = ⟨#[116]⟩ ++ ⟨(byN 8 a.toNat).toArray⟩ := by
      unfold tokK
      refine (bytes_ext _ _ ?_).symm
      simp
    have hval : tokV b c s d false e g r = (⟨(byN 8 b.toNat).toArray⟩ : ByteArray) ++ (⟨(byN 4 c.toNat).toArray⟩ : ByteArray) ++ s ++ (⟨(byN 6 d.toNat).toArray⟩ : ByteArray) ++ (⟨(byN 1 (0 : Int).toNat).toArray⟩ : ByteArray) ++ (⟨(byN 6 e.toNat).toArray⟩ : ByteArray) ++ (⟨(byN 8 g.toNat).toArray⟩ : ByteArray) ++ ((⟨(byN 1 r.size).toArray⟩ : ByteArray) ++ r) := by
      unfold tokV
      refine (bytes_ext _ _ ?_).symm
      simp [flagV]
    rw [hkey, hval] at hsv
    have HR := Lib.hid hsv
    clear hkey hval hsv hm h h1 h2
    generalize (⟨(byN 8 a.toNat).toArray⟩ : ByteArray) = p0 at *
    generalize (⟨(byN 8 (b : Int).toNat).toArray⟩ : ByteArray) = p1 at *
    generalize (⟨(byN 4 (c : Int).toNat).toArray⟩ : ByteArray) = p2 at *
    generalize (⟨(byN 6 (d : Int).toNat).toArray⟩ : ByteArray) = p3 at *
    generalize (⟨(byN 1 (0 : Int).toNat).toArray⟩ : ByteArray) = p4 at *
    generalize (⟨(byN 6 (e : Int).toNat).toArray⟩ : ByteArray) = p5 at *
    generalize (⟨(byN 8 (g : Int).toNat).toArray⟩ : ByteArray) = p6 at *
    generalize (⟨(byN 1 r.size).toArray⟩ : ByteArray) ++ r = p7 at *
    have HBp0 := Lib.hid hbp0
    have HBp1 := Lib.hid hbp1
    have HBp2 := Lib.hid hbp2
    have HBp3 := Lib.hid hbp3
    have HBp4 := Lib.hid hbp4
    have HBp5 := Lib.hid hbp5
    have HBp6 := Lib.hid hbp6
    have HBp7 := Lib.hid hbp7
    clear hbp0 hbp1 hbp2 hbp3 hbp4 hbp5 hbp6 hbp7
    have q0 : ¬ 9223372036854775807 < 1 + p0.size := by omega
    go_enter Tryz.func12, Tryz.ntmps12
    go_wp2_with (refine (KM.out _ H3.out).mono ?_; clear H3; rintro ev w2 ⟨rfl, hc5, h⟩; have H3 := Lib.hid h; clear h)
    have h := H3.out.drew
    refine wp_region_text [1, 4, 8, 11, 18, 22, 26] (fun w' => w'.cell? ⟨w.heap.size, 0, none⟩ = some (.int .i64 a) ∧ w'.cell? ⟨w.heap.size, 1, none⟩ = some (.int .i64 b) ∧ w'.cell? ⟨w.heap.size, 2, none⟩ = some (.int .i64 c) ∧ w'.cell? ⟨w.heap.size, 3, none⟩ = some (.string s) ∧ w'.cell? ⟨w.heap.size, 4, none⟩ = some (.int .i64 d) ∧ w'.cell? ⟨w.heap.size, 5, none⟩ = some (.bool false) ∧ w'.cell? ⟨w.heap.size, 6, none⟩ = some (.int .i64 e) ∧ w'.cell? ⟨w.heap.size, 7, none⟩ = some (.int .i64 g) ∧ w'.cell? ⟨w.heap.size, 8, none⟩ = some (.string r) ∧ Own E w' (Hp.blk (w.heap.size + 1) ITT #[.string ⟨#[]⟩, .string ⟨#[]⟩] :: Hp.blk w.heap.size TOKT #[.int .i64 a, .int .i64 b, .int .i64 c, .string s, .int .i64 d, .bool false, .int .i64 e, .int .i64 g, .string r] :: L)) (by kernel_rfl) ?_ (fun hS => ?_)
    · exact HC.out _ h
    refine gp 0 (some 14) ?_
    refine gm 1 (some 15) (.int .i64 b) ?_ ?_
    · intro w hS
      obtain ⟨b0, b1, b2, b3, b4, b5, b6, b7, b8, -⟩ := hS; go_simp; first | done | with_reducible rfl
    refine gp 3 (some 17) ?_
    refine gm 4 (some 18) (.int .i64 c) ?_ ?_
    · intro w hS
      obtain ⟨b0, b1, b2, b3, b4, b5, b6, b7, b8, -⟩ := hS; go_simp; first | done | with_reducible rfl
    refine gp 7 (some 21) ?_
    refine gm 8 (some 22) (.string s) ?_ ?_
    · intro w hS
      obtain ⟨b0, b1, b2, b3, b4, b5, b6, b7, b8, -⟩ := hS; go_simp; first | done | with_reducible rfl
    refine gp 10 (some 24) ?_
    refine gm 11 (some 25) (.int .i64 d) ?_ ?_
    · intro w hS
      obtain ⟨b0, b1, b2, b3, b4, b5, b6, b7, b8, -⟩ := hS; go_simp; first | done | with_reducible rfl
    refine gp 14 (some 28) ?_
    refine gp 17 (some 31) ?_
    refine gm 18 (some 32) (.int .i64 e) ?_ ?_
    · intro w hS
      obtain ⟨b0, b1, b2, b3, b4, b5, b6, b7, b8, -⟩ := hS; go_simp; first | done | with_reducible rfl
    refine gp 21 (some 35) ?_
    refine gm 22 (some 36) (.int .i64 g) ?_ ?_
    · intro w hS
      obtain ⟨b0, b1, b2, b3, b4, b5, b6, b7, b8, -⟩ := hS; go_simp; first | done | with_reducible rfl
    refine gp 25 (some 39) ?_
    refine gm 26 (some 40) (.string r) ?_ ?_
    · intro w hS
      obtain ⟨b0, b1, b2, b3, b4, b5, b6, b7, b8, -⟩ := hS; go_simp; first | done | with_reducible rfl
    refine gk 2 (some 16) (fun K hK => ?_)
    rw [if_pos (by rfl)]
    go_simp
    refine (HBp1.out _ hS.2.2.2.2.2.2.2.2.2).mono ?_
    clear hS
    rintro ev w2 ⟨rfl, h⟩
    refine hK.out _ _ ?_ (fun hS => ?_)
    · exact HC.out _ h
    clear hK K
    try simp only [Act.put, List.setIfInBounds_toArray, List.set_cons_zero, List.set_cons_succ]
    refine gk 5 (some 19) (fun K hK => ?_)
    rw [if_pos (by rfl)]
    go_simp
    refine (HBp2.out _ hS.2.2.2.2.2.2.2.2.2).mono ?_
    clear hS
    rintro ev w2 ⟨rfl, h⟩
    refine hK.out _ _ ?_ (fun hS => ?_)
    · exact HC.out _ h
    clear hK K
    try simp only [Act.put, List.setIfInBounds_toArray, List.set_cons_zero, List.set_cons_succ]
    refine gq 6 (some 20) (.string (p1 ++ p2)) ?_ ?_
    · intro w
      go_simp; first | done | with_reducible rfl | omega | (simp only [ByteArray.size_append]; omega)
    refine gq 9 (some 23) (.string (p1 ++ p2 ++ s)) ?_ ?_
    · intro w
      go_simp; first | done | with_reducible rfl | omega | (simp only [ByteArray.size_append]; omega)
    refine gk 12 (some 26) (fun K hK => ?_)
    rw [if_pos (by rfl)]
    go_simp
    refine (HBp3.out _ hS.2.2.2.2.2.2.2.2.2).mono ?_
    clear hS
    rintro ev w2 ⟨rfl, h⟩
    refine hK.out _ _ ?_ (fun hS => ?_)
    · exact HC.out _ h
    clear hK K
    try simp only [Act.put, List.setIfInBounds_toArray, List.set_cons_zero, List.set_cons_succ]
    refine gq 13 (some 27) (.string (p1 ++ p2 ++ s ++ p3)) ?_ ?_
    · intro w
      go_simp; first | done | with_reducible rfl | omega | (simp only [ByteArray.size_append]; omega)
    refine gk 15 (some 29) (fun K hK => ?_)
    rw [if_pos (by rfl)]
    go_simp
    refine (HBp4.out _ hS.2.2.2.2.2.2.2.2.2).mono ?_
    clear hS
    rintro ev w2 ⟨rfl, h⟩
    refine hK.out _ _ ?_ (fun hS => ?_)
    · exact HC.out _ h
    clear hK K
    try simp only [Act.put, List.setIfInBounds_toArray, List.set_cons_zero, List.set_cons_succ]
    refine gq 16 (some 30) (.string (p1 ++ p2 ++ s ++ p3 ++ p4)) ?_ ?_
    · intro w
      go_simp; first | done | with_reducible rfl | omega | (simp only [ByteArray.size_append]; omega)
    refine gk 19 (some 33) (fun K hK => ?_)
    rw [if_pos (by rfl)]
    go_simp
    refine (HBp5.out _ hS.2.2.2.2.2.2.2.2.2).mono ?_
    clear hS
    rintro ev w2 ⟨rfl, h⟩
    refine hK.out _ _ ?_ (fun hS => ?_)
    · exact HC.out _ h
    clear hK K
    try simp only [Act.put, List.setIfInBounds_toArray, List.set_cons_zero, List.set_cons_succ]
    refine gq 20 (some 34) (.string (p1 ++ p2 ++ s ++ p3 ++ p4 ++ p5)) ?_ ?_
    · intro w
      go_simp; first | done | with_reducible rfl | omega | (simp only [ByteArray.size_append]; omega)
    refine gk 23 (some 37) (fun K hK => ?_)
    rw [if_pos (by rfl)]
    go_simp
    refine (HBp6.out _ hS.2.2.2.2.2.2.2.2.2).mono ?_
    clear hS
    rintro ev w2 ⟨rfl, h⟩
    refine hK.out _ _ ?_ (fun hS => ?_)
    · exact HC.out _ h
    clear hK K
    try simp only [Act.put, List.setIfInBounds_toArray, List.set_cons_zero, List.set_cons_succ]
    refine gq 24 (some 38) (.string (p1 ++ p2 ++ s ++ p3 ++ p4 ++ p5 ++ p6)) ?_ ?_
    · intro w
      go_simp; first | done | with_reducible rfl | omega | (simp only [ByteArray.size_append]; omega)
    refine gk 27 (some 41) (fun K hK => ?_)
    rw [if_pos (by rfl)]
    go_simp
    refine (HBp7.out _ hS.2.2.2.2.2.2.2.2.2).mono ?_
    clear hS
    rintro ev w2 ⟨rfl, h⟩
    refine hK.out _ _ ?_ (fun hS => ?_)
    · exact HC.out _ h
    clear hK K
    try simp only [Act.put, List.setIfInBounds_toArray, List.set_cons_zero, List.set_cons_succ]
    refine gq 28 (some 42) (.string (p1 ++ p2 ++ s ++ p3 ++ p4 ++ p5 ++ p6 ++ p7)) ?_ ?_
    · intro w
      go_simp; first | done | with_reducible rfl | omega | (simp only [ByteArray.size_append]; omega)
    refine gp 29 (some 6) ?_
    refine wpAnyG_done (by kernel_rfl) ?_ _
    refine NoPanic.normal ?_
    have hc0 := (HC.out _ h).1
    clear H3
    have H3 := Lib.hid h
    clear h
    generalize p1 ++ p2 ++ s ++ p3 ++ p4 ++ p5 ++ p6 ++ p7 = x2 at *
    go_wp2_with (first
      | (refine (HBp0.out _ H3.out).mono ?_; clear H3; rintro ev w2 ⟨rfl, h⟩; have H3 := Lib.hid h; clear h)
      | (with_reducible refine at_slot (k := none) ?_; refine wpList_store_whole (o := ⟨none, _, _, _, _, _⟩) (cs := [.string ⟨#[]⟩, .string ⟨#[]⟩]) (vs := [.string (⟨#[116]⟩ ++ p0), .string x2]) H3.out rfl (pair_one _ x2) (by kernel_rfl) rfl rfl rfl rfl ?_; clear H3; intro w7 h; have H9 := Lib.hid h; clear h))
    refine bodyPost_ret (results_ct rfl rfl H9.out hd hrow (by kernel_rfl)) rfl ?_
    exact ⟨by rw [HR.out]; rfl, H9.out.drop.drop⟩
  · have HR : Hid (tokR a b c s d false e g r = (noB, noB, 140)) := Lib.hid (if_neg hm)
    have KM : Hid (∀ w3 : World, Own E w3 (Hp.blk (w.heap.size + 1) ITT #[.string ⟨#[]⟩, .string ⟨#[]⟩] :: Hp.blk w.heap.size TOKT #[.int .i64 a, .int .i64 b, .int .i64 c, .string s, .int .i64 d, .bool false, .int .i64 e, .int .i64 g, .string r] :: L) → Calls Tryz.prog 63 #[.agg #[.int .i64 a, .int .i64 b, .int .i64 c, .string s, .int .i64 d, .bool false, .int .i64 e, .int .i64 g, .string r]] w3 fun ev w' => ev = .returned (.bool false) ∧ Own E w' (Hp.blk (w.heap.size + 1) ITT #[.string ⟨#[]⟩, .string ⟨#[]⟩] :: Hp.blk w.heap.size TOKT #[.int .i64 a, .int .i64 b, .int .i64 c, .string s, .int .i64 d, .bool false, .int .i64 e, .int .i64 g, .string r] :: L)) := Lib.hid fun w3 h3 => (xtokenmay_any a b c s d false e g r w3 h3).mono fun ev w' he => ⟨by rw [he.1, decide_eq_false hm], he.2⟩
    clear h h1 h2 hm
    go_enter Tryz.func12, Tryz.ntmps12
    go_wp2_with (first
      | (with_reducible refine (KM.out _ H3.out).mono ?_; clear H3; rintro ev w2 ⟨rfl, h⟩; have H3 := Lib.hid h; clear h)
      | (with_reducible refine at_slot (k := none) ?_; refine wpList_store_whole (o := ⟨none, _, _, _, _, _⟩) (cs := [.string ⟨#[]⟩, .string ⟨#[]⟩]) (vs := [.string ⟨#[]⟩, .string ⟨#[]⟩]) H3.out rfl (pair_one ⟨#[]⟩ ⟨#[]⟩) (by kernel_rfl) rfl rfl rfl rfl ?_; clear H3; intro w7 h; have H8 := Lib.hid h; clear h))
    refine bodyPost_ret (results_ct rfl rfl H8.out hd hrow (by kernel_rfl)) rfl ?_
    exact ⟨by rw [HR.out]; rfl, H8.out.drop.drop⟩
theorem xprinttok_any (a b c : Int) (s : ByteArray) (d : Int) (f : Bool) (e g : Int) (r : ByteArray) (w : World) (h : Own E w L) :
    Calls Tryz.prog 12 #[.agg (tokC a b c s d f e g r).toArray] w fun ev w' => ev = .returned (itemV (tokR a b c s d f e g r)) ∧ Own E w' L := by
  cases f with
  | true => exact xprinttok_true a b c s d e g r w h
  | false => exact xprinttok_false a b c s d e g r w h
end
end Go.Proofs.YtabibfabieghpaaGreatDoor
