/- A client's cells; record.clientMay (printed by gen_cl.py). The reference's ends, subjects, OfFamily (printed by gen_xof.py). The law's same: two lists of texts compared. The law's lent: a copy of a list of texts with two spare places behind it. The law's whole: a list that was lent is as it was. The law's sameFamily, of two that are alike (printed by gen_samefam.py). -/
import Derived.Test.YtabibfabieghpaaGreatDoorPkPaFam
import Derived.Test.YtabibfabieghpaaGreatDoorPkz0
import Derived.Test.YtabibfabieghpaaGreatDoorPkXPrF
import Derived.Test.YtabibfabieghpaaGreatDoorPkz8
import Derived.Test.YtabibfabieghpaaGreatDoorPkz3
namespace Go.Proofs.YtabibfabieghpaaGreatDoor
open Go.RowKit
abbrev CLT : TypeId := 77
def clientC (nm : ByteArray) (pu sw : Bool) (dh od : ByteArray) (ut : Int) (A : Option Addr) (n c : Nat) (ii ab gr li : Int) : List Value := [.string nm, .bool pu, .bool sw, .string dh, .string od, .int .i64 ut, .slice A n c, .int .i64 ii, .int .i64 ab, .int .i64 gr, .int .i64 li]
def clientMay (nm : ByteArray) (pu _sw : Bool) (dh od : ByteArray) (ut : Int) (xs : List ByteArray) (ii ab gr li : Int) : Prop := nameB nm = true ∧ scErr xs = 0 ∧ (1 ≤ ii ∧ ii ≤ 1099511627776) ∧ (1 ≤ ab ∧ ab ≤ 1099511627776) ∧ (1 ≤ li ∧ li ≤ 1099511627776) ∧ (0 ≤ gr ∧ gr ≤ 1099511627776) ∧ ((pu = true ∧ dh.size = 0 ∧ od.size = 0 ∧ ut = 0) ∨ (pu = false ∧ ((od.size = 0 ∧ dh.size = 32 ∧ ut = 0) ∨ (dh.size = 32 ∧ od.size = 32 ∧ (0 ≤ ut ∧ ut ≤ 1099511627776)))))
instance (nm : ByteArray) (pu sw : Bool) (dh od : ByteArray) (ut : Int) (xs : List ByteArray) (ii ab gr li : Int) : Decidable (clientMay nm pu sw dh od ut xs ii ab gr li) := by unfold clientMay; exact inferInstance
section
variable {E : World} {S : Ph} {L : List Hp}
theorem client_cells {w : World} {b : Nat} (nm : ByteArray) (pu sw : Bool) (dh od : ByteArray) (ut : Int) (A : Option Addr) (n c : Nat) (ii ab gr li : Int) (h : Own E w (Hp.blk b CLT (clientC nm pu sw dh od ut A n c ii ab gr li).toArray :: L)) :
    w.cell? ⟨b, 0, none⟩ = some (.string nm) ∧ w.cell? ⟨b, 1, none⟩ = some (.bool pu) ∧ w.cell? ⟨b, 2, none⟩ = some (.bool sw) ∧ w.cell? ⟨b, 3, none⟩ = some (.string dh) ∧ w.cell? ⟨b, 4, none⟩ = some (.string od) ∧ w.cell? ⟨b, 5, none⟩ = some (.int .i64 ut) ∧ w.cell? ⟨b, 6, none⟩ = some (.slice A n c) ∧ w.cell? ⟨b, 7, none⟩ = some (.int .i64 ii) ∧ w.cell? ⟨b, 8, none⟩ = some (.int .i64 ab) ∧ w.cell? ⟨b, 9, none⟩ = some (.int .i64 gr) ∧ w.cell? ⟨b, 10, none⟩ = some (.int .i64 li) := by
  refine ⟨(h.cell 0).trans rfl, (h.cell 1).trans rfl, (h.cell 2).trans rfl, (h.cell 3).trans rfl, (h.cell 4).trans rfl, (h.cell 5).trans rfl, (h.cell 6).trans rfl, (h.cell 7).trans rfl, (h.cell 8).trans rfl, (h.cell 9).trans rfl, (h.cell 10).trans rfl⟩
set_option maxRecDepth 20000 in
set_option maxHeartbeats 8000000 in
theorem clientmay_any (nm : ByteArray) (pu sw : Bool) (dh od : ByteArray) (ut : Int) (A : Option Addr) (n c : Nat) (ii ab gr li : Int) (xs : List ByteArray) (w : World) (hr : Rds S 1 enStr A n xs) (hnc : n ≤ c) (hn43 : n ≤ 8796093022208) (h : Own E w (Hp.ro S :: L)) :
    Calls Tryz.prog 101 #[.agg (clientC nm pu sw dh od ut A n c ii ab gr li).toArray] w fun ev w' => ev = .returned (.bool (decide (clientMay nm pu sw dh od ut xs ii ab gr li))) ∧ Own E w' (Hp.ro S :: L) := by
  obtain ⟨n1, hn1⟩ : ∃ nv : Int, nameB nm = decide (nv = 1) := ⟨if nameB nm then 1 else 0, by cases nameB nm <;> rfl⟩
  obtain ⟨hz, hhz⟩ : ∃ q : Int, dh.size = 0 ↔ q = 0 := ⟨dh.size, by omega⟩
  obtain ⟨oz, hoz⟩ : ∃ q : Int, od.size = 0 ↔ q = 0 := ⟨od.size, by omega⟩
  obtain ⟨uz, huz⟩ : ∃ q : Int, ut = 0 ↔ q = 0 := ⟨if ut = 0 then 0 else 1, by split <;> simp_all⟩
  have zh : dh.toList.isEmpty = decide (hz = 0) := by rw [isEmpty_size, decide_eq_decide]; exact hhz
  have zo : od.toList.isEmpty = decide (oz = 0) := by rw [isEmpty_size, decide_eq_decide]; exact hoz
  have zu : (ut == 0) = decide (uz = 0) := by rw [Bool.eq_iff_iff, beq_iff_eq, decide_eq_true_eq, huz]
  obtain ⟨sx, hsx⟩ : ∃ sx : Int, sx = scErr xs := ⟨_, rfl⟩
  have HX := Lib.hid (show ¬ (oz = 0 ∧ od.size = 32) by rw [← hoz]; omega)
  have k1 := fun w => lasting_any ii w
  have k2 := fun w => lasting_any ab w
  have k3 := fun w => lasting_any li w
  have k4 := fun w => istime_any gr w
  have k5 := fun w => istime_any ut w
  have k6 := fun w => isdigest_any dh w
  have k7 := fun w => isdigest_any od w
  cases pu with
  | true =>
    have H1 := Lib.hid (show Own E _ (Hp.blk w.heap.size CLT (clientC nm true sw dh od ut A n c ii ab gr li).toArray :: Hp.ro S :: L) from h.alloc (.cells (clientC nm true sw dh od ut A n c ii ab gr li).toArray CLT))
    have KR := Lib.hid (fun (w3 : World) (h3 : Own E w3 (Hp.blk w.heap.size CLT (clientC nm true sw dh od ut A n c ii ab gr li).toArray :: Hp.ro S :: L)) => right_any (E := E) (S := S) (L := Hp.blk w.heap.size CLT (clientC nm true sw dh od ut A n c ii ab gr li).toArray :: L) A n c xs w3 hr hnc hn43 h3.f1)
    rw [← hsx] at KR
    have K1 := Lib.hid (fun (w3 : World) (h3 : Own E w3 (Hp.blk w.heap.size CLT (clientC nm true sw dh od ut A n c ii ab gr li).toArray :: Hp.ro S :: L)) => isname_any nm w3 h3)
    rw [hn1] at K1
    have hiff : clientMay nm true sw dh od ut xs ii ab gr li ↔ (n1 = 1 ∧ sx = 0 ∧ (1 ≤ ii ∧ ii ≤ 1099511627776) ∧ (1 ≤ ab ∧ ab ≤ 1099511627776) ∧ (1 ≤ li ∧ li ≤ 1099511627776) ∧ (0 ≤ gr ∧ gr ≤ 1099511627776) ∧ (hz = 0 ∧ oz = 0 ∧ uz = 0)) := by
      unfold clientMay
      rw [hn1, hhz, hoz, huz, ← hsx, decide_eq_true_iff]
      constructor
      · rintro ⟨h1, h2, h3, h4, h5, h6, h7 | h7⟩
        · exact ⟨h1, h2, h3, h4, h5, h6, h7.2⟩
        · exact absurd h7.1 (by decide)
      · rintro ⟨h1, h2, h3, h4, h5, h6, h7⟩
        exact ⟨h1, h2, h3, h4, h5, h6, .inl ⟨rfl, h7⟩⟩
    have HI := Lib.hid hiff
    clear h hiff hn1 hhz hoz huz hsx hr
    go_enter Tryz.func101, Tryz.ntmps101
    obtain ⟨d0, d1, d2, d3, d4, d5, d6, d7, d8, d9, d10⟩ := client_cells nm true sw dh od ut A n c ii ab gr li H1.out
    go_wp2_with (first
      | (with_reducible refine (k1 _).mono ?_; rintro ev w2 ⟨rfl, rfl⟩)
      | (with_reducible refine (k2 _).mono ?_; rintro ev w2 ⟨rfl, rfl⟩)
      | (with_reducible refine (k3 _).mono ?_; rintro ev w2 ⟨rfl, rfl⟩)
      | (with_reducible refine (k4 _).mono ?_; rintro ev w2 ⟨rfl, rfl⟩)
      | (with_reducible refine (k5 _).mono ?_; rintro ev w2 ⟨rfl, rfl⟩)
      | (with_reducible refine (k6 _).mono ?_; rintro ev w2 ⟨rfl, rfl⟩)
      | (with_reducible refine (k7 _).mono ?_; rintro ev w2 ⟨rfl, rfl⟩)
      | (with_reducible refine (K1.out _ H1.out).mono ?_; clear H1 d0 d1 d2 d3 d4 d5 d6 d7 d8 d9 d10; rintro ev w2 ⟨rfl, h⟩; have H1 := Lib.hid (show Own E w2 (Hp.blk w.heap.size CLT (clientC nm true sw dh od ut A n c ii ab gr li).toArray :: Hp.ro S :: L) from h); clear h; obtain ⟨d0, d1, d2, d3, d4, d5, d6, d7, d8, d9, d10⟩ := client_cells nm true sw dh od ut A n c ii ab gr li H1.out)
      | (with_reducible refine (KR.out _ H1.out).mono ?_; clear H1 d0 d1 d2 d3 d4 d5 d6 d7 d8 d9 d10; rintro ev w2 ⟨rfl, h⟩; have H1 := Lib.hid (show Own E w2 (Hp.blk w.heap.size CLT (clientC nm true sw dh od ut A n c ii ab gr li).toArray :: Hp.ro S :: L) from h.f1); clear h; obtain ⟨d0, d1, d2, d3, d4, d5, d6, d7, d8, d9, d10⟩ := client_cells nm true sw dh od ut A n c ii ab gr li H1.out))
    all_goals go_ret
    all_goals
      refine ⟨(show Ending.returned (Value.bool _) = Ending.returned (Value.bool _) from ret_bool ?_), H1.out.drop⟩
      rw [Bool.eq_iff_iff]
      refine Iff.trans ?_ (decide_eq_true_iff.trans HI.out).symm
      have hx := HX.out
      (first | omega | (simp <;> omega) | ((try simp only [Bool.not_eq_true'] at *); (try simp only [Bool.not_eq_false'] at *); (try simp only [decide_eq_true_eq] at *); (try simp only [decide_eq_false_iff_not] at *); (try simp only [bne_iff_ne] at *); (try simp only [ne_eq] at *); (try simp only [bne_eq_false_iff_eq] at *); first | omega | (simp <;> omega)))
  | false =>
    have H1 := Lib.hid (show Own E _ (Hp.blk w.heap.size CLT (clientC nm false sw dh od ut A n c ii ab gr li).toArray :: Hp.ro S :: L) from h.alloc (.cells (clientC nm false sw dh od ut A n c ii ab gr li).toArray CLT))
    have KR := Lib.hid (fun (w3 : World) (h3 : Own E w3 (Hp.blk w.heap.size CLT (clientC nm false sw dh od ut A n c ii ab gr li).toArray :: Hp.ro S :: L)) => right_any (E := E) (S := S) (L := Hp.blk w.heap.size CLT (clientC nm false sw dh od ut A n c ii ab gr li).toArray :: L) A n c xs w3 hr hnc hn43 h3.f1)
    rw [← hsx] at KR
    have K1 := Lib.hid (fun (w3 : World) (h3 : Own E w3 (Hp.blk w.heap.size CLT (clientC nm false sw dh od ut A n c ii ab gr li).toArray :: Hp.ro S :: L)) => isname_any nm w3 h3)
    rw [hn1] at K1
    have hiff : clientMay nm false sw dh od ut xs ii ab gr li ↔ (n1 = 1 ∧ sx = 0 ∧ (1 ≤ ii ∧ ii ≤ 1099511627776) ∧ (1 ≤ ab ∧ ab ≤ 1099511627776) ∧ (1 ≤ li ∧ li ≤ 1099511627776) ∧ (0 ≤ gr ∧ gr ≤ 1099511627776) ∧ ((oz = 0 ∧ dh.size = 32 ∧ uz = 0) ∨ (dh.size = 32 ∧ od.size = 32 ∧ (0 ≤ ut ∧ ut ≤ 1099511627776)))) := by
      unfold clientMay
      rw [hn1, hhz, hoz, huz, ← hsx, decide_eq_true_iff]
      constructor
      · rintro ⟨h1, h2, h3, h4, h5, h6, h7 | h7⟩
        · exact absurd h7.1 (by decide)
        · exact ⟨h1, h2, h3, h4, h5, h6, h7.2⟩
      · rintro ⟨h1, h2, h3, h4, h5, h6, h7⟩
        exact ⟨h1, h2, h3, h4, h5, h6, .inr ⟨rfl, h7⟩⟩
    have HI := Lib.hid hiff
    clear h hiff hn1 hhz hoz huz hsx hr
    go_enter Tryz.func101, Tryz.ntmps101
    obtain ⟨d0, d1, d2, d3, d4, d5, d6, d7, d8, d9, d10⟩ := client_cells nm false sw dh od ut A n c ii ab gr li H1.out
    go_wp2_with (first
      | (with_reducible refine (k1 _).mono ?_; rintro ev w2 ⟨rfl, rfl⟩)
      | (with_reducible refine (k2 _).mono ?_; rintro ev w2 ⟨rfl, rfl⟩)
      | (with_reducible refine (k3 _).mono ?_; rintro ev w2 ⟨rfl, rfl⟩)
      | (with_reducible refine (k4 _).mono ?_; rintro ev w2 ⟨rfl, rfl⟩)
      | (with_reducible refine (k5 _).mono ?_; rintro ev w2 ⟨rfl, rfl⟩)
      | (with_reducible refine (k6 _).mono ?_; rintro ev w2 ⟨rfl, rfl⟩)
      | (with_reducible refine (k7 _).mono ?_; rintro ev w2 ⟨rfl, rfl⟩)
      | (with_reducible refine (K1.out _ H1.out).mono ?_; clear H1 d0 d1 d2 d3 d4 d5 d6 d7 d8 d9 d10; rintro ev w2 ⟨rfl, h⟩; have H1 := Lib.hid (show Own E w2 (Hp.blk w.heap.size CLT (clientC nm false sw dh od ut A n c ii ab gr li).toArray :: Hp.ro S :: L) from h); clear h; obtain ⟨d0, d1, d2, d3, d4, d5, d6, d7, d8, d9, d10⟩ := client_cells nm false sw dh od ut A n c ii ab gr li H1.out)
      | (with_reducible refine (KR.out _ H1.out).mono ?_; clear H1 d0 d1 d2 d3 d4 d5 d6 d7 d8 d9 d10; rintro ev w2 ⟨rfl, h⟩; have H1 := Lib.hid (show Own E w2 (Hp.blk w.heap.size CLT (clientC nm false sw dh od ut A n c ii ab gr li).toArray :: Hp.ro S :: L) from h.f1); clear h; obtain ⟨d0, d1, d2, d3, d4, d5, d6, d7, d8, d9, d10⟩ := client_cells nm false sw dh od ut A n c ii ab gr li H1.out))
    all_goals go_ret
    all_goals
      refine ⟨(show Ending.returned (Value.bool _) = Ending.returned (Value.bool _) from ret_bool ?_), H1.out.drop⟩
      rw [Bool.eq_iff_iff]
      refine Iff.trans ?_ (decide_eq_true_iff.trans HI.out).symm
      have hx := HX.out
      (first | omega | (simp <;> omega) | ((try simp only [Bool.not_eq_true'] at *); (try simp only [Bool.not_eq_false'] at *); (try simp only [decide_eq_true_eq] at *); (try simp only [decide_eq_false_iff_not] at *); (try simp only [bne_iff_ne] at *); (try simp only [ne_eq] at *); (try simp only [bne_eq_false_iff_eq] at *); first | omega | (simp <;> omega)))
end
end Go.Proofs.YtabibfabieghpaaGreatDoor
namespace Go.Proofs.YtabibfabieghpaaGreatDoor
open Go.RowKit
section
variable {E : World} {L : List Hp}
set_option maxRecDepth 20000 in
set_option maxHeartbeats 8000000 in
theorem xends_any (b c : Int) (w : World) (hb : 0 ≤ b ∧ b ≤ 1099511627776) (hc : 1 ≤ c ∧ c ≤ 4611686018427387904) (h : Own E w L) :
    Calls Tryz.prog 106 #[.int .i64 b, .int .i64 c] w fun ev w' => ev = .returned (.agg #[.string (exK b c), .string ⟨#[]⟩]) ∧ Own E w' L := by
  obtain ⟨dd, hd, hrow⟩ := itt_u
  have h1 := h.alloc (.cells #[.string ⟨#[]⟩, .string ⟨#[]⟩] ITT)
  have H3 := Lib.hid h1
  have hb1 := fun wq (h : Own E wq (Hp.blk w.heap.size ITT #[.string ⟨#[]⟩, .string ⟨#[]⟩] :: L)) => by_any (E := E) b 6 wq (by omega) (by omega) (by omega) h
  have hb2 := fun wq (h : Own E wq (Hp.blk w.heap.size ITT #[.string ⟨#[]⟩, .string ⟨#[]⟩] :: L)) => by_any (E := E) c 8 wq (by omega) (by omega) (by omega) h
  have hz1 : (⟨(byN 6 b.toNat).toArray⟩ : ByteArray).size ≤ 8 := by rw [fl_size, byN_len]; omega
  have hz2 : (⟨(byN 8 c.toNat).toArray⟩ : ByteArray).size ≤ 8 := by rw [fl_size, byN_len]; omega
  have hk : exK b c = (⟨#[120]⟩ : ByteArray) ++ ⟨(byN 6 b.toNat).toArray⟩ ++ ⟨(byN 8 c.toNat).toArray⟩ := by
    unfold exK
    refine (bytes_ext _ _ ?_).symm
    simp
  rw [hk]
  clear hk h h1
  generalize (⟨(byN 6 b.toNat).toArray⟩ : ByteArray) = p1 at *
  generalize (⟨(byN 8 c.toNat).toArray⟩ : ByteArray) = p2 at *
  simp only [show ((6 : Nat) : Int) = 6 from rfl, show ((8 : Nat) : Int) = 8 from rfl] at hb1 hb2
  have B1 := Lib.hid hb1
  have B2 := Lib.hid hb2
  have q1 : ¬ 9223372036854775807 < 1 + p1.size := by omega
  have q2 : ¬ 9223372036854775807 < 1 + p1.size + p2.size := by omega
  clear hb1 hb2 hz1 hz2 hb hc
  go_enter Tryz.func106, Tryz.ntmps106
  go_wp2_with (first
    | (with_reducible refine (B1.out _ H3.out).mono ?_; clear H3; rintro ev w2 ⟨rfl, h⟩; have H3 := Lib.hid h; clear h)
    | (with_reducible refine (B2.out _ H3.out).mono ?_; clear H3; rintro ev w2 ⟨rfl, h⟩; have H3 := Lib.hid h; clear h)
    | (with_reducible refine at_slot (k := none) ?_; refine wpList_store_whole (o := ⟨none, _, _, _, _, _⟩) (cs := [.string ⟨#[]⟩, .string ⟨#[]⟩]) (vs := [.string (⟨#[120]⟩ ++ p1 ++ p2), .string ⟨#[]⟩]) H3.out rfl (pair_one _ _) (by kernel_rfl) rfl rfl rfl rfl ?_; clear H3; intro w7 h; have H9 := Lib.hid h; clear h))
  refine bodyPost_ret (results_arr rfl rfl H9.out hd hrow (by kernel_rfl)) rfl ?_
  exact ⟨rfl, H9.out.drop⟩
set_option maxRecDepth 20000 in
set_option maxHeartbeats 8000000 in
theorem xsubjects_any (su : ByteArray) (c : Int) (w : World) (hs : su.size ≤ 1000) (hc : 1 ≤ c ∧ c ≤ 4611686018427387904) (h : Own E w L) :
    Calls Tryz.prog 107 #[.string su, .int .i64 c] w fun ev w' => ev = .returned (.agg #[.string (suK su c), .string ⟨#[]⟩]) ∧ Own E w' L := by
  obtain ⟨dd, hd, hrow⟩ := itt_u
  have h1 := h.alloc (.cells #[.string ⟨#[]⟩, .string ⟨#[]⟩] ITT)
  have H3 := Lib.hid h1
  have hb2 := fun wq (h : Own E wq (Hp.blk w.heap.size ITT #[.string ⟨#[]⟩, .string ⟨#[]⟩] :: L)) => by_any (E := E) c 8 wq (by omega) (by omega) (by omega) h
  have hz2 : (⟨(byN 8 c.toNat).toArray⟩ : ByteArray).size ≤ 8 := by rw [fl_size, byN_len]; omega
  have hk : suK su c = (⟨#[115]⟩ : ByteArray) ++ su ++ ⟨#[0]⟩ ++ ⟨(byN 8 c.toNat).toArray⟩ := by
    unfold suK
    refine (bytes_ext _ _ ?_).symm
    simp
  rw [hk]
  clear hk h h1
  generalize (⟨(byN 8 c.toNat).toArray⟩ : ByteArray) = p2 at *
  simp only [show ((8 : Nat) : Int) = 8 from rfl] at hb2
  have B2 := Lib.hid hb2
  have q1 : ¬ 9223372036854775807 < 1 + su.size := by omega
  have q2 : ¬ 9223372036854775807 < 1 + su.size + 1 := by omega
  have q3 : ¬ 9223372036854775807 < 1 + su.size + 1 + p2.size := by omega
  clear hb2 hz2 hc hs
  go_enter Tryz.func107, Tryz.ntmps107
  go_wp2_with (first
    | (with_reducible refine (B2.out _ H3.out).mono ?_; clear H3; rintro ev w2 ⟨rfl, h⟩; have H3 := Lib.hid h; clear h)
    | (with_reducible refine at_slot (k := none) ?_; refine wpList_store_whole (o := ⟨none, _, _, _, _, _⟩) (cs := [.string ⟨#[]⟩, .string ⟨#[]⟩]) (vs := [.string (⟨#[115]⟩ ++ su ++ ⟨#[0]⟩ ++ p2), .string ⟨#[]⟩]) H3.out rfl (pair_one _ _) (by kernel_rfl) rfl rfl rfl rfl ?_; clear H3; intro w7 h; have H9 := Lib.hid h; clear h))
  refine bodyPost_ret (results_arr rfl rfl H9.out hd hrow (by kernel_rfl)) rfl ?_
  exact ⟨rfl, H9.out.drop⟩
end
section
variable {E : World} {S : Ph} {L : List Hp}
end
end Go.Proofs.YtabibfabieghpaaGreatDoor
namespace Go.Proofs.YtabibfabieghpaaGreatDoor
open Go.RowKit
/-- A slice of texts that reads as a list wherever these parts lie. -/
def Seen (E : World) (L : List Hp) (A : Option Addr) (n : Nat) (xs : List ByteArray) : Prop := ∀ w, Own E w L → Rds (Ph.of w) 1 enStr A n xs
theorem Seen.len {E w : World} {L : List Hp} {A : Option Addr} {n : Nat} {xs : List ByteArray} (h : Seen E L A n xs) (hw : Own E w L) : xs.length = n := (h w hw).1
theorem Seen.cell {E : World} {L : List Hp} {A : Option Addr} {n : Nat} {xs : List ByteArray} (h : Seen E L A n xs) {k : Nat} {x : ByteArray} (hx : xs[k]? = some x) {w0 : World} (h0 : Own E w0 L) :
    ∃ b off, A = some ⟨b, off, none⟩ ∧ ∀ w, Own E w L → w.cell? ⟨b, off + k, none⟩ = some (.string x) := by
  have hk : k < n := by rw [← (h w0 h0).1]; exact (List.getElem?_eq_some_iff.1 hx).1
  obtain ⟨y, b, off, hy, e, -⟩ := (h w0 h0).get1 hk
  refine ⟨b, off, e, fun w hw => ?_⟩
  obtain ⟨y2, b2, off2, hy2, e2, hc2⟩ := (h w hw).get1 hk
  rw [e] at e2
  injection e2 with e2
  injection e2 with e3 e4
  subst e3 e4
  rw [hx] at hy2
  injection hy2 with hy2
  subst hy2
  exact (Own.start w).rd (hc2 _ rfl)
section
variable {E : World} {L : List Hp}
set_option maxRecDepth 20000 in
set_option maxHeartbeats 4000000 in
theorem same_any (A B : Option Addr) (n c m d : Nat) (xs ys : List ByteArray) (w : World) (hA : Seen E L A n xs) (hB : Seen E L B m ys) (hn : n ≤ 140737488355328) (h : Own E w L) :
    Calls Tryz.prog 93 #[.slice A n c, .slice B m d] w fun e w' => e = .returned (.bool (decide (xs = ys))) ∧ Own E w' L := by
  have lA := hA.len h
  have lB := hB.len h
  by_cases hnm : n = m
  · subst hnm
    have HN := Lib.hid hn
    have HA := Lib.hid hA
    have HB := Lib.hid hB
    have HL := Lib.hid (And.intro lA lB)
    clear hn hA hB lA lB
    go_enter Tryz.func93, Tryz.ntmps93
    go_wp2_with fail
    go_loopw [5] (fun i wr => ∃ k : Nat, k ≤ n ∧ i = .int .i64 k ∧ (∀ i, i < k → xs[i]? = ys[i]?) ∧ Own E wr L) (fun i _ => n - (intOf i).toNat)
    case atStart => exact ⟨0, by omega, rfl, fun _ h => absurd h (by omega), h⟩
    case round =>
      obtain ⟨k, hk, rfl, hp, hw⟩ := hrel
      clear h
      by_cases hlt : k < n
      · cases hx : xs[k]? with
        | none =>
          rw [List.getElem?_eq_none_iff, HL.out.1] at hx
          omega
        | some x =>
        cases hy : ys[k]? with
        | none =>
          rw [List.getElem?_eq_none_iff, HL.out.2] at hy
          omega
        | some y =>
        obtain ⟨b, off, rfl, hc⟩ := HA.out.cell hx hw
        obtain ⟨b2, off2, rfl, hc2⟩ := HB.out.cell hy hw
        have HC := Lib.hid (fun (w' : World) (h : Own E w' L) => And.intro (hc w' h) (hc2 w' h))
        have HX := Lib.hid hx
        have HY := Lib.hid hy
        have HP := Lib.hid hp
        have HK := Lib.hid hlt
        have i1 : (k : Int) < n := by omega
        have i2 : (0 : Int) ≤ k := by omega
        have i5 : wrap64 ((k : Int) + 1) = ((k + 1 : Nat) : Int) := by have := HN.out; unfold wrap64; omega
        clear hx hy hc hc2 hp hk hlt
        by_cases he : x = y
        · have e5 : (x.toList == y.toList) = true := by rw [he]; exact beq_self_eq_true _
          go_wp2_with fail
          have h := hw.drew
          clear hw
          refine wp_region_text [3, 7] (fun w' => w'.cell? ⟨b, off + k, none⟩ = some (.string x) ∧ w'.cell? ⟨b2, off2 + k, none⟩ = some (.string y)) (by kernel_rfl) ?_ (fun hS => ?_)
          · exact HC.out _ h
          refine gp 0 (some 17) ?_
          refine gp 1 (some 18) ?_
          refine gq 2 (some 19) (.pointer (some ⟨b, off + k, none⟩)) ?_ ?_
          · intro w
            go_simp; first | done | omega
          refine gl 3 (some 20) ?_
          refine gp 4 (some 21) ?_
          refine gp 5 (some 22) ?_
          refine gq 6 (some 23) (.pointer (some ⟨b2, off2 + k, none⟩)) ?_ ?_
          · intro w
            go_simp; first | done | omega
          refine gl 7 (some 24) ?_
          refine gq 8 (some 25) (.bool false) ?_ ?_
          · intro w
            go_simp; first | done | exact e5 | simp [e5]
          refine wpAnyG_done (by kernel_rfl) ?_ _
          refine NoPanic.normal ?_
          have HF := Lib.hid h
          clear h
          go_wp2_with fail
          go_roundw
          case rel =>
            refine ⟨k + 1, by have := HK.out; omega, by rw [i5], fun i hi => ?_, HF.out⟩
            by_cases hi2 : i < k
            · exact HP.out i hi2
            · obtain rfl : i = k := by omega
              rw [HX.out, HY.out, he]
          case measure =>
            have := HK.out
            rw [i5]
            simp only [intOf]
            omega
        · have e5 : (x.toList == y.toList) = false := by
            rw [beq_str]
            exact decide_eq_false he
          go_wp2_with fail
          have h := hw.drew
          clear hw
          refine wp_region_text [3, 7] (fun w' => w'.cell? ⟨b, off + k, none⟩ = some (.string x) ∧ w'.cell? ⟨b2, off2 + k, none⟩ = some (.string y)) (by kernel_rfl) ?_ (fun hS => ?_)
          · exact HC.out _ h
          refine gp 0 (some 17) ?_
          refine gp 1 (some 18) ?_
          refine gq 2 (some 19) (.pointer (some ⟨b, off + k, none⟩)) ?_ ?_
          · intro w
            go_simp; first | done | omega
          refine gl 3 (some 20) ?_
          refine gp 4 (some 21) ?_
          refine gp 5 (some 22) ?_
          refine gq 6 (some 23) (.pointer (some ⟨b2, off2 + k, none⟩)) ?_ ?_
          · intro w
            go_simp; first | done | omega
          refine gl 7 (some 24) ?_
          refine gq 8 (some 25) (.bool true) ?_ ?_
          · intro w
            go_simp; first | done | exact e5 | simp [e5]
          refine wpAnyG_done (by kernel_rfl) ?_ _
          refine NoPanic.normal ?_
          go_wp2_with fail
          go_ret
          have hne : ¬ xs = ys := fun e => he (by
            have h1 := HX.out
            rw [e, HY.out] at h1
            injection h1 with h1
            exact h1.symm)
          exact ⟨by rw [decide_eq_false hne]; rfl, h⟩
      · obtain rfl : k = n := by omega
        have hxy : xs = ys := List.ext_getElem? fun i => by
          by_cases hi : i < k
          · exact hp i hi
          · rw [List.getElem?_eq_none (by rw [HL.out.1]; omega), List.getElem?_eq_none (by rw [HL.out.2]; omega)]
        have H := Lib.hid hw
        have HE := Lib.hid hxy
        clear hw hxy hp
        go_wp2_with fail
        go_ret
        exact ⟨by rw [decide_eq_true HE.out]; rfl, H.out⟩
  · have hne : ¬ xs = ys := fun e => hnm (by rw [← lA, ← lB, e])
    have z : ((n : Int) != (m : Int)) = true := by simpa using (fun e => hnm (by omega) : ¬ (n : Int) = (m : Int))
    have HE := Lib.hid hne
    have H := Lib.hid h
    clear h hA hB hne lA lB
    go_enter Tryz.func93, Tryz.ntmps93
    go_wp2_with fail
    go_ret
    exact ⟨by rw [decide_eq_false HE.out]; rfl, H.out⟩
end
end Go.Proofs.YtabibfabieghpaaGreatDoor
namespace Go.Proofs.YtabibfabieghpaaGreatDoor
open Go.RowKit
abbrev tSpare : ByteArray := ⟨#[115, 112, 97, 114, 101]⟩
abbrev lentS (xs : List ByteArray) : List Value := xs.map Value.string ++ [.string tSpare, .string tSpare]
section
variable {E : World} {S : Ph} {L : List Hp}
end
end Go.Proofs.YtabibfabieghpaaGreatDoor
namespace Go.Proofs.YtabibfabieghpaaGreatDoor
open Go.RowKit
section
variable {E : World} {S : Ph} {L : List Hp}
end
end Go.Proofs.YtabibfabieghpaaGreatDoor
namespace Go.Proofs.YtabibfabieghpaaGreatDoor
open Go.RowKit
theorem Seen.cons {E : World} {L : List Hp} {B : Hp} {A : Option Addr} {n : Nat} {l : List ByteArray} (h : Seen E L A n l) : Seen E (B :: L) A n l := fun w hw => h w hw.drop
section
variable {E : World} {L : List Hp}
set_option maxRecDepth 20000 in
set_option maxHeartbeats 8000000 in
theorem samefam_any (id : Int) (cl su : ByteArray) (A B : Option Addr) (n c m d : Nat) (cr us ii ab gr ge tk st en co : Int) (xs : List ByteArray) (w : World) (hA : Seen E L A n xs) (hB : Seen E L B m xs) (hn : n ≤ 140737488355328) (h : Own E w L) :
    Calls Tryz.prog 50 #[.agg (famC id cl su A n c cr us ii ab gr ge tk st en co).toArray, .agg (famC id cl su B m d cr us ii ab gr ge tk st en co).toArray] w fun ev w' => ev = .returned (.bool true) ∧ Own E w' L := by
  have h1 := h.alloc (.cells (famC id cl su A n c cr us ii ab gr ge tk st en co).toArray FMT)
  have h2 := h1.alloc (.cells (famC id cl su B m d cr us ii ab gr ge tk st en co).toArray FMT)
  rw [alloc_size] at h2
  have K := fun (wq : World) hq => same_any (E := E) (L := Hp.blk (w.heap.size + 1) FMT (famC id cl su B m d cr us ii ab gr ge tk st en co).toArray :: Hp.blk w.heap.size FMT (famC id cl su A n c cr us ii ab gr ge tk st en co).toArray :: L) A B n c m d xs xs wq hA.cons.cons hB.cons.cons hn hq
  rw [decide_eq_true rfl] at K
  have H := Lib.hid (show Own E _ (Hp.blk (w.heap.size + 1) FMT (famC id cl su B m d cr us ii ab gr ge tk st en co).toArray :: Hp.blk w.heap.size FMT (famC id cl su A n c cr us ii ab gr ge tk st en co).toArray :: L) from h2)
  have t1 : (cl.toList == cl.toList) = true := beq_self_eq_true _
  have t2 : (su.toList == su.toList) = true := beq_self_eq_true _
  clear h h1 h2 hA hB
  have y3 : _ = some (Value.slice B m d) := (H.out.cell 3).trans rfl
  have x3 : _ = some (Value.slice A n c) := (H.out.f1.cell 3).trans rfl
  go_enter Tryz.func50, Tryz.ntmps50
  go_wp2_with (refine (K _ H.out).mono ?_; clear H K; rintro ev w2 ⟨rfl, h⟩; have H := Lib.hid h; clear h; obtain ⟨e0, e1, e2, e3, e4, e5, e6, e7, e8, e9, e10, e11, e12, e13⟩ := fam_cells id cl su B m d cr us ii ab gr ge tk st en co H.out; obtain ⟨d0, d1, d2, d3, d4, d5, d6, d7, d8, d9, d10, d11, d12, d13⟩ := fam_cells id cl su A n c cr us ii ab gr ge tk st en co H.out.f1)
  go_ret
  first
    | exact ⟨rfl, H.out.drop.drop⟩
    | exact ⟨by simp, H.out.drop.drop⟩
end
end Go.Proofs.YtabibfabieghpaaGreatDoor
