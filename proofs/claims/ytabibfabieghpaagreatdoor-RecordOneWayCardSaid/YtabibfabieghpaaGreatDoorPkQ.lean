/- A client's cells; record.clientMay (printed by gen_cl.py). The client's fields; record.PrintClient (printed by gen_clp.py). record.ParseClient (printed by gen_pal.py): a pair that is a right client's is read as that, every other one is refused. -/
import Derived.Test.YtabibfabieghpaaGreatDoorPkN
namespace Go.Proofs.YtabibfabieghpaaGreatDoor
open Go.RowKit
abbrev CLT : TypeId := 77
def clientC (nm : ByteArray) (pu sw : Bool) (dh od : ByteArray) (ut : Int) (A : Option Addr) (n c : Nat) (ii ab gr li : Int) : List Value := [.string nm, .bool pu, .bool sw, .string dh, .string od, .int .i64 ut, .slice A n c, .int .i64 ii, .int .i64 ab, .int .i64 gr, .int .i64 li]
def clientMay (nm : ByteArray) (pu _sw : Bool) (dh od : ByteArray) (ut : Int) (xs : List ByteArray) (ii ab gr li : Int) : Prop := nameB nm = true ∧ scErr xs = 0 ∧ (1 ≤ ii ∧ ii ≤ 1099511627776) ∧ (1 ≤ ab ∧ ab ≤ 1099511627776) ∧ (1 ≤ li ∧ li ≤ 1099511627776) ∧ (0 ≤ gr ∧ gr ≤ 1099511627776) ∧ ((pu = true ∧ dh.size = 0 ∧ od.size = 0 ∧ ut = 0) ∨ (pu = false ∧ ((od.size = 0 ∧ dh.size = 32 ∧ ut = 0) ∨ (dh.size = 32 ∧ od.size = 32 ∧ (0 ≤ ut ∧ ut ≤ 1099511627776)))))
instance (nm : ByteArray) (pu sw : Bool) (dh od : ByteArray) (ut : Int) (xs : List ByteArray) (ii ab gr li : Int) : Decidable (clientMay nm pu sw dh od ut xs ii ab gr li) := by unfold clientMay; exact inferInstance
section
variable {E : World} {S : Ph} {L : List Hp}
theorem client_cells {w : World} {b : Nat} (nm : ByteArray) (pu sw : Bool) (dh od : ByteArray) (ut : Int) (A : Option Addr) (n c : Nat) (ii ab gr li : Int) (h : Own E w (Hp.blk b CLT (clientC nm pu sw dh od ut A n c ii ab gr li).toArray :: L)) :
    w.cell? ⟨b, 0, none⟩ = some (.string nm) ∧ w.cell? ⟨b, 1, none⟩ = some (.bool pu) ∧ w.cell? ⟨b, 2, none⟩ = some (.bool sw) ∧ w.cell? ⟨b, 3, none⟩ = some (.string dh) ∧ w.cell? ⟨b, 4, none⟩ = some (.string od) ∧ w.cell? ⟨b, 5, none⟩ = some (.int .i64 ut) ∧ w.cell? ⟨b, 6, none⟩ = some (.slice A n c) ∧ w.cell? ⟨b, 7, none⟩ = some (.int .i64 ii) ∧ w.cell? ⟨b, 8, none⟩ = some (.int .i64 ab) ∧ w.cell? ⟨b, 9, none⟩ = some (.int .i64 gr) ∧ w.cell? ⟨b, 10, none⟩ = some (.int .i64 li) := by
  refine ⟨(h.cell 0).trans rfl, (h.cell 1).trans rfl, (h.cell 2).trans rfl, (h.cell 3).trans rfl, (h.cell 4).trans rfl, (h.cell 5).trans rfl, (h.cell 6).trans rfl, (h.cell 7).trans rfl, (h.cell 8).trans rfl, (h.cell 9).trans rfl, (h.cell 10).trans rfl⟩
set_option maxRecDepth 20000 in
set_option maxHeartbeats 8000000 in
theorem clientmay_any (nm : ByteArray) (pu sw : Bool) (dh od : ByteArray) (ut : Int) (A : Option Addr) (n c : Nat) (ii ab gr li : Int) (xs : List ByteArray) (w : World) (hr : Rds S 1 enStr A n xs) (hnc : n ≤ c) (hn43 : n ≤ 8796093022208) (h : Own E w (Hp.ro S :: L)) :
    Calls Tryz.prog 101 #[.agg (clientC nm pu sw dh od ut A n c ii ab gr li).toArray] w fun ev w' => ev = .returned (.bool (decide (clientMay nm pu sw dh od ut xs ii ab gr li))) ∧ Own E w' (Hp.ro S :: L) := by
  obtain ⟨n1, hn1⟩ : ∃ nv : Int, nameB nm = decide (nv = 1) := ⟨if nameB nm then 1 else 0, by cases nameB nm <;> rfl⟩
  obtain ⟨hz, hhz⟩ : ∃ q : Int, dh.size = 0 ↔ q = 0 := ⟨dh.size, by omega⟩
  obtain ⟨oz, hoz⟩ : ∃ q : Int, od.size = 0 ↔ q = 0 := ⟨od.size, by omega⟩
  obtain ⟨uz, huz⟩ : ∃ q : Int, ut = 0 ↔ q = 0 := ⟨if ut = 0 then 0 else 1, by split <;> simp_all⟩
  have zh : dh.toList.isEmpty = decide (hz = 0) := by rw [isEmpty_size, decide_eq_decide]; exact hhz
  have zo : od.toList.isEmpty = decide (oz = 0) := by rw [isEmpty_size, decide_eq_decide]; exact hoz
  have zu : (ut == 0) = decide (uz = 0) := by rw [Bool.eq_iff_iff, beq_iff_eq, decide_eq_true_eq, huz]
  obtain ⟨sx, hsx⟩ : ∃ sx : Int, sx = scErr xs := ⟨_, rfl⟩
  have HX := Lib.hid (show ¬ (oz = 0 ∧ od.size = 32) by rw [← hoz]; omega)
  have k1 := fun w => lasting_any ii w
  have k2 := fun w => lasting_any ab w
  have k3 := fun w => lasting_any li w
  have k4 := fun w => istime_any gr w
  have k5 := fun w => istime_any ut w
  have k6 := fun w => isdigest_any dh w
  have k7 := fun w => isdigest_any od w
  cases pu with
  | true =>
    have H1 := Lib.hid (show Own E _ (Hp.blk w.heap.size CLT (clientC nm true sw dh od ut A n c ii ab gr li).toArray :: Hp.ro S :: L) from h.alloc (.cells (clientC nm true sw dh od ut A n c ii ab gr li).toArray CLT))
    have KR := Lib.hid (fun (w3 : World) (h3 : Own E w3 (Hp.blk w.heap.size CLT (clientC nm true sw dh od ut A n c ii ab gr li).toArray :: Hp.ro S :: L)) => right_any (E := E) (S := S) (L := Hp.blk w.heap.size CLT (clientC nm true sw dh od ut A n c ii ab gr li).toArray :: L) A n c xs w3 hr hnc hn43 h3.f1)
    rw [← hsx] at KR
    have K1 := Lib.hid (fun (w3 : World) (h3 : Own E w3 (Hp.blk w.heap.size CLT (clientC nm true sw dh od ut A n c ii ab gr li).toArray :: Hp.ro S :: L)) => isname_any nm w3 h3)
    rw [hn1] at K1
    have hiff : clientMay nm true sw dh od ut xs ii ab gr li ↔ (n1 = 1 ∧ sx = 0 ∧ (1 ≤ ii ∧ ii ≤ 1099511627776) ∧ (1 ≤ ab ∧ ab ≤ 1099511627776) ∧ (1 ≤ li ∧ li ≤ 1099511627776) ∧ (0 ≤ gr ∧ gr ≤ 1099511627776) ∧ (hz = 0 ∧ oz = 0 ∧ uz = 0)) := by
      unfold clientMay
      rw [hn1, hhz, hoz, huz, ← hsx, decide_eq_true_iff]
      constructor
      · rintro ⟨h1, h2, h3, h4, h5, h6, h7 | h7⟩
        · exact ⟨h1, h2, h3, h4, h5, h6, h7.2⟩
        · exact absurd h7.1 (by decide)
      · rintro ⟨h1, h2, h3, h4, h5, h6, h7⟩
        exact ⟨h1, h2, h3, h4, h5, h6, .inl ⟨rfl, h7⟩⟩
    have HI := Lib.hid hiff
    clear h hiff hn1 hhz hoz huz hsx hr
    go_enter Tryz.func101, Tryz.ntmps101
    obtain ⟨d0, d1, d2, d3, d4, d5, d6, d7, d8, d9, d10⟩ := client_cells nm true sw dh od ut A n c ii ab gr li H1.out
    go_wp2_with (first
      | (with_reducible refine (k1 _).mono ?_; rintro ev w2 ⟨rfl, rfl⟩)
      | (with_reducible refine (k2 _).mono ?_; rintro ev w2 ⟨rfl, rfl⟩)
      | (with_reducible refine (k3 _).mono ?_; rintro ev w2 ⟨rfl, rfl⟩)
      | (with_reducible refine (k4 _).mono ?_; rintro ev w2 ⟨rfl, rfl⟩)
      | (with_reducible refine (k5 _).mono ?_; rintro ev w2 ⟨rfl, rfl⟩)
      | (with_reducible refine (k6 _).mono ?_; rintro ev w2 ⟨rfl, rfl⟩)
      | (with_reducible refine (k7 _).mono ?_; rintro ev w2 ⟨rfl, rfl⟩)
      | (with_reducible refine (K1.out _ H1.out).mono ?_; clear H1 d0 d1 d2 d3 d4 d5 d6 d7 d8 d9 d10; rintro ev w2 ⟨rfl, h⟩; have H1 := Lib.hid (show Own E w2 (Hp.blk w.heap.size CLT (clientC nm true sw dh od ut A n c ii ab gr li).toArray :: Hp.ro S :: L) from h); clear h; obtain ⟨d0, d1, d2, d3, d4, d5, d6, d7, d8, d9, d10⟩ := client_cells nm true sw dh od ut A n c ii ab gr li H1.out)
      | (with_reducible refine (KR.out _ H1.out).mono ?_; clear H1 d0 d1 d2 d3 d4 d5 d6 d7 d8 d9 d10; rintro ev w2 ⟨rfl, h⟩; have H1 := Lib.hid (show Own E w2 (Hp.blk w.heap.size CLT (clientC nm true sw dh od ut A n c ii ab gr li).toArray :: Hp.ro S :: L) from h.f1); clear h; obtain ⟨d0, d1, d2, d3, d4, d5, d6, d7, d8, d9, d10⟩ := client_cells nm true sw dh od ut A n c ii ab gr li H1.out))
    all_goals go_ret
    all_goals
      refine ⟨(show Ending.returned (Value.bool _) = Ending.returned (Value.bool _) from ret_bool ?_), H1.out.drop⟩
      rw [Bool.eq_iff_iff]
      refine Iff.trans ?_ (decide_eq_true_iff.trans HI.out).symm
      have hx := HX.out
      (first | omega | (simp <;> omega) | ((try simp only [Bool.not_eq_true'] at *); (try simp only [Bool.not_eq_false'] at *); (try simp only [decide_eq_true_eq] at *); (try simp only [decide_eq_false_iff_not] at *); (try simp only [bne_iff_ne] at *); (try simp only [ne_eq] at *); (try simp only [bne_eq_false_iff_eq] at *); first | omega | (simp <;> omega)))
  | false =>
    have H1 := Lib.hid (show Own E _ (Hp.blk w.heap.size CLT (clientC nm false sw dh od ut A n c ii ab gr li).toArray :: Hp.ro S :: L) from h.alloc (.cells (clientC nm false sw dh od ut A n c ii ab gr li).toArray CLT))
    have KR := Lib.hid (fun (w3 : World) (h3 : Own E w3 (Hp.blk w.heap.size CLT (clientC nm false sw dh od ut A n c ii ab gr li).toArray :: Hp.ro S :: L)) => right_any (E := E) (S := S) (L := Hp.blk w.heap.size CLT (clientC nm false sw dh od ut A n c ii ab gr li).toArray :: L) A n c xs w3 hr hnc hn43 h3.f1)
    rw [← hsx] at KR
    have K1 := Lib.hid (fun (w3 : World) (h3 : Own E w3 (Hp.blk w.heap.size CLT (clientC nm false sw dh od ut A n c ii ab gr li).toArray :: Hp.ro S :: L)) => isname_any nm w3 h3)
    rw [hn1] at K1
    have hiff : clientMay nm false sw dh od ut xs ii ab gr li ↔ (n1 = 1 ∧ sx = 0 ∧ (1 ≤ ii ∧ ii ≤ 1099511627776) ∧ (1 ≤ ab ∧ ab ≤ 1099511627776) ∧ (1 ≤ li ∧ li ≤ 1099511627776) ∧ (0 ≤ gr ∧ gr ≤ 1099511627776) ∧ ((oz = 0 ∧ dh.size = 32 ∧ uz = 0) ∨ (dh.size = 32 ∧ od.size = 32 ∧ (0 ≤ ut ∧ ut ≤ 1099511627776)))) := by
      unfold clientMay
      rw [hn1, hhz, hoz, huz, ← hsx, decide_eq_true_iff]
      constructor
      · rintro ⟨h1, h2, h3, h4, h5, h6, h7 | h7⟩
        · exact absurd h7.1 (by decide)
        · exact ⟨h1, h2, h3, h4, h5, h6, h7.2⟩
      · rintro ⟨h1, h2, h3, h4, h5, h6, h7⟩
        exact ⟨h1, h2, h3, h4, h5, h6, .inr ⟨rfl, h7⟩⟩
    have HI := Lib.hid hiff
    clear h hiff hn1 hhz hoz huz hsx hr
    go_enter Tryz.func101, Tryz.ntmps101
    obtain ⟨d0, d1, d2, d3, d4, d5, d6, d7, d8, d9, d10⟩ := client_cells nm false sw dh od ut A n c ii ab gr li H1.out
    go_wp2_with (first
      | (with_reducible refine (k1 _).mono ?_; rintro ev w2 ⟨rfl, rfl⟩)
      | (with_reducible refine (k2 _).mono ?_; rintro ev w2 ⟨rfl, rfl⟩)
      | (with_reducible refine (k3 _).mono ?_; rintro ev w2 ⟨rfl, rfl⟩)
      | (with_reducible refine (k4 _).mono ?_; rintro ev w2 ⟨rfl, rfl⟩)
      | (with_reducible refine (k5 _).mono ?_; rintro ev w2 ⟨rfl, rfl⟩)
      | (with_reducible refine (k6 _).mono ?_; rintro ev w2 ⟨rfl, rfl⟩)
      | (with_reducible refine (k7 _).mono ?_; rintro ev w2 ⟨rfl, rfl⟩)
      | (with_reducible refine (K1.out _ H1.out).mono ?_; clear H1 d0 d1 d2 d3 d4 d5 d6 d7 d8 d9 d10; rintro ev w2 ⟨rfl, h⟩; have H1 := Lib.hid (show Own E w2 (Hp.blk w.heap.size CLT (clientC nm false sw dh od ut A n c ii ab gr li).toArray :: Hp.ro S :: L) from h); clear h; obtain ⟨d0, d1, d2, d3, d4, d5, d6, d7, d8, d9, d10⟩ := client_cells nm false sw dh od ut A n c ii ab gr li H1.out)
      | (with_reducible refine (KR.out _ H1.out).mono ?_; clear H1 d0 d1 d2 d3 d4 d5 d6 d7 d8 d9 d10; rintro ev w2 ⟨rfl, h⟩; have H1 := Lib.hid (show Own E w2 (Hp.blk w.heap.size CLT (clientC nm false sw dh od ut A n c ii ab gr li).toArray :: Hp.ro S :: L) from h.f1); clear h; obtain ⟨d0, d1, d2, d3, d4, d5, d6, d7, d8, d9, d10⟩ := client_cells nm false sw dh od ut A n c ii ab gr li H1.out))
    all_goals go_ret
    all_goals
      refine ⟨(show Ending.returned (Value.bool _) = Ending.returned (Value.bool _) from ret_bool ?_), H1.out.drop⟩
      rw [Bool.eq_iff_iff]
      refine Iff.trans ?_ (decide_eq_true_iff.trans HI.out).symm
      have hx := HX.out
      (first | omega | (simp <;> omega) | ((try simp only [Bool.not_eq_true'] at *); (try simp only [Bool.not_eq_false'] at *); (try simp only [decide_eq_true_eq] at *); (try simp only [decide_eq_false_iff_not] at *); (try simp only [bne_iff_ne] at *); (try simp only [ne_eq] at *); (try simp only [bne_eq_false_iff_eq] at *); first | omega | (simp <;> omega)))
end
end Go.Proofs.YtabibfabieghpaaGreatDoor
namespace Go.Proofs.YtabibfabieghpaaGreatDoor
open Go.RowKit
theorem clientt_u0 : ∃ d, Tryz.prog.underlying CLT = some d ∧ d.isRow = true := by
  cases e : Tryz.prog.underlying CLT with
  | none => exact absurd e (by rw [Tryz.underlying77]; simp)
  | some d => exact ⟨d, rfl, by rw [Tryz.underlying77] at e; injection e with e; subst e; rfl⟩
def clientFs (tb fl fb : Nat) : List (Fk × Addr) := [(.num 1, ⟨fl, 0, none⟩), (.text, ⟨tb, 3, none⟩), (.text, ⟨tb, 4, none⟩), (.num 6, ⟨tb, 5, none⟩), (.text, ⟨fb, 0, none⟩), (.num 6, ⟨tb, 7, none⟩), (.num 6, ⟨tb, 8, none⟩), (.num 6, ⟨tb, 9, none⟩), (.num 6, ⟨tb, 10, none⟩)]
section
variable {E : World} {L : List Hp}
set_option maxRecDepth 20000 in
set_option maxHeartbeats 4000000 in
theorem clientfields_any (tb fl fb : Nat) (w : World) (h : Own E w L) :
    Calls Tryz.prog 102 #[.pointer (some ⟨tb, 0, none⟩), .pointer (some ⟨fl, 0, none⟩), .pointer (some ⟨fb, 0, none⟩)] w fun e w' => ∃ b, e = .returned (.slice (some ⟨b, 0, none⟩) 9 9) ∧ Own E w' (Hp.blk b FT ((clientFs tb fl fb).flatMap enF).toArray :: L) := by
  go_enter Tryz.func102, Tryz.ntmps102
  go_wp2_with fail
  refine wp_region_text [] (fun w => Own E w L) (by kernel_rfl) ?_ (fun hS => ?_)
  · exact h.drew
  refine wpAnyG_pure (i := 0) (oi := ⟨some 7, _, _, _, _, _⟩) (v := ?_) rfl (by kernel_rfl) (by kernel_rfl) (by kernel_rfl) (by rfl) (fun _ _ _ h => h) (by rfl) ?_ ?_
  rotate_left
  · intro w
    go_simp
    first | done | with_reducible rfl
  try simp only [Act.put, List.setIfInBounds_toArray, List.set_cons_zero, List.set_cons_succ]
  refine wpAnyG_pure (i := 2) (oi := ⟨some 9, _, _, _, _, _⟩) (v := ?_) rfl (by kernel_rfl) (by kernel_rfl) (by kernel_rfl) (by rfl) (fun _ _ _ h => h) (by rfl) ?_ ?_
  rotate_left
  · intro w
    go_simp
    first | done | with_reducible rfl
  try simp only [Act.put, List.setIfInBounds_toArray, List.set_cons_zero, List.set_cons_succ]
  refine wpAnyG_pure (i := 3) (oi := ⟨some 10, _, _, _, _, _⟩) (v := ?_) rfl (by kernel_rfl) (by kernel_rfl) (by kernel_rfl) (by rfl) (fun _ _ _ h => h) (by rfl) ?_ ?_
  rotate_left
  · intro w
    go_simp
    first | done | with_reducible rfl
  try simp only [Act.put, List.setIfInBounds_toArray, List.set_cons_zero, List.set_cons_succ]
  refine wpAnyG_pure (i := 4) (oi := ⟨some 11, _, _, _, _, _⟩) (v := ?_) rfl (by kernel_rfl) (by kernel_rfl) (by kernel_rfl) (by rfl) (fun _ _ _ h => h) (by rfl) ?_ ?_
  rotate_left
  · intro w
    go_simp
    first | done | with_reducible rfl
  try simp only [Act.put, List.setIfInBounds_toArray, List.set_cons_zero, List.set_cons_succ]
  refine wpAnyG_pure (i := 6) (oi := ⟨some 13, _, _, _, _, _⟩) (v := ?_) rfl (by kernel_rfl) (by kernel_rfl) (by kernel_rfl) (by rfl) (fun _ _ _ h => h) (by rfl) ?_ ?_
  rotate_left
  · intro w
    go_simp
    first | done | with_reducible rfl
  try simp only [Act.put, List.setIfInBounds_toArray, List.set_cons_zero, List.set_cons_succ]
  refine wpAnyG_pure (i := 7) (oi := ⟨some 14, _, _, _, _, _⟩) (v := ?_) rfl (by kernel_rfl) (by kernel_rfl) (by kernel_rfl) (by rfl) (fun _ _ _ h => h) (by rfl) ?_ ?_
  rotate_left
  · intro w
    go_simp
    first | done | with_reducible rfl
  try simp only [Act.put, List.setIfInBounds_toArray, List.set_cons_zero, List.set_cons_succ]
  refine wpAnyG_pure (i := 8) (oi := ⟨some 15, _, _, _, _, _⟩) (v := ?_) rfl (by kernel_rfl) (by kernel_rfl) (by kernel_rfl) (by rfl) (fun _ _ _ h => h) (by rfl) ?_ ?_
  rotate_left
  · intro w
    go_simp
    first | done | with_reducible rfl
  try simp only [Act.put, List.setIfInBounds_toArray, List.set_cons_zero, List.set_cons_succ]
  refine wpAnyG_pure (i := 10) (oi := ⟨some 17, _, _, _, _, _⟩) (v := ?_) rfl (by kernel_rfl) (by kernel_rfl) (by kernel_rfl) (by rfl) (fun _ _ _ h => h) (by rfl) ?_ ?_
  rotate_left
  · intro w
    go_simp
    first | done | with_reducible rfl
  try simp only [Act.put, List.setIfInBounds_toArray, List.set_cons_zero, List.set_cons_succ]
  refine wpAnyG_pure (i := 11) (oi := ⟨some 18, _, _, _, _, _⟩) (v := ?_) rfl (by kernel_rfl) (by kernel_rfl) (by kernel_rfl) (by rfl) (fun _ _ _ h => h) (by rfl) ?_ ?_
  rotate_left
  · intro w
    go_simp
    first | done | with_reducible rfl
  try simp only [Act.put, List.setIfInBounds_toArray, List.set_cons_zero, List.set_cons_succ]
  refine wpAnyG_pure (i := 12) (oi := ⟨some 19, _, _, _, _, _⟩) (v := ?_) rfl (by kernel_rfl) (by kernel_rfl) (by kernel_rfl) (by rfl) (fun _ _ _ h => h) (by rfl) ?_ ?_
  rotate_left
  · intro w
    go_simp
    first | done | with_reducible rfl
  try simp only [Act.put, List.setIfInBounds_toArray, List.set_cons_zero, List.set_cons_succ]
  refine wpAnyG_pure (i := 14) (oi := ⟨some 21, _, _, _, _, _⟩) (v := ?_) rfl (by kernel_rfl) (by kernel_rfl) (by kernel_rfl) (by rfl) (fun _ _ _ h => h) (by rfl) ?_ ?_
  rotate_left
  · intro w
    go_simp
    first | done | with_reducible rfl
  try simp only [Act.put, List.setIfInBounds_toArray, List.set_cons_zero, List.set_cons_succ]
  refine wpAnyG_pure (i := 16) (oi := ⟨some 23, _, _, _, _, _⟩) (v := ?_) rfl (by kernel_rfl) (by kernel_rfl) (by kernel_rfl) (by rfl) (fun _ _ _ h => h) (by rfl) ?_ ?_
  rotate_left
  · intro w
    go_simp
    first | done | with_reducible rfl
  try simp only [Act.put, List.setIfInBounds_toArray, List.set_cons_zero, List.set_cons_succ]
  refine wpAnyG_pure (i := 17) (oi := ⟨some 24, _, _, _, _, _⟩) (v := ?_) rfl (by kernel_rfl) (by kernel_rfl) (by kernel_rfl) (by rfl) (fun _ _ _ h => h) (by rfl) ?_ ?_
  rotate_left
  · intro w
    go_simp
    first | done | with_reducible rfl
  try simp only [Act.put, List.setIfInBounds_toArray, List.set_cons_zero, List.set_cons_succ]
  refine wpAnyG_pure (i := 18) (oi := ⟨some 25, _, _, _, _, _⟩) (v := ?_) rfl (by kernel_rfl) (by kernel_rfl) (by kernel_rfl) (by rfl) (fun _ _ _ h => h) (by rfl) ?_ ?_
  rotate_left
  · intro w
    go_simp
    first | done | with_reducible rfl
  try simp only [Act.put, List.setIfInBounds_toArray, List.set_cons_zero, List.set_cons_succ]
  refine wpAnyG_pure (i := 20) (oi := ⟨some 27, _, _, _, _, _⟩) (v := ?_) rfl (by kernel_rfl) (by kernel_rfl) (by kernel_rfl) (by rfl) (fun _ _ _ h => h) (by rfl) ?_ ?_
  rotate_left
  · intro w
    go_simp
    first | done | with_reducible rfl
  try simp only [Act.put, List.setIfInBounds_toArray, List.set_cons_zero, List.set_cons_succ]
  refine wpAnyG_pure (i := 21) (oi := ⟨some 28, _, _, _, _, _⟩) (v := ?_) rfl (by kernel_rfl) (by kernel_rfl) (by kernel_rfl) (by rfl) (fun _ _ _ h => h) (by rfl) ?_ ?_
  rotate_left
  · intro w
    go_simp
    first | done | with_reducible rfl
  try simp only [Act.put, List.setIfInBounds_toArray, List.set_cons_zero, List.set_cons_succ]
  refine wpAnyG_pure (i := 22) (oi := ⟨some 29, _, _, _, _, _⟩) (v := ?_) rfl (by kernel_rfl) (by kernel_rfl) (by kernel_rfl) (by rfl) (fun _ _ _ h => h) (by rfl) ?_ ?_
  rotate_left
  · intro w
    go_simp
    first | done | with_reducible rfl
  try simp only [Act.put, List.setIfInBounds_toArray, List.set_cons_zero, List.set_cons_succ]
  refine wpAnyG_pure (i := 24) (oi := ⟨some 31, _, _, _, _, _⟩) (v := ?_) rfl (by kernel_rfl) (by kernel_rfl) (by kernel_rfl) (by rfl) (fun _ _ _ h => h) (by rfl) ?_ ?_
  rotate_left
  · intro w
    go_simp
    first | done | with_reducible rfl
  try simp only [Act.put, List.setIfInBounds_toArray, List.set_cons_zero, List.set_cons_succ]
  refine wpAnyG_pure (i := 25) (oi := ⟨some 32, _, _, _, _, _⟩) (v := ?_) rfl (by kernel_rfl) (by kernel_rfl) (by kernel_rfl) (by rfl) (fun _ _ _ h => h) (by rfl) ?_ ?_
  rotate_left
  · intro w
    go_simp
    first | done | with_reducible rfl
  try simp only [Act.put, List.setIfInBounds_toArray, List.set_cons_zero, List.set_cons_succ]
  refine wpAnyG_pure (i := 26) (oi := ⟨some 33, _, _, _, _, _⟩) (v := ?_) rfl (by kernel_rfl) (by kernel_rfl) (by kernel_rfl) (by rfl) (fun _ _ _ h => h) (by rfl) ?_ ?_
  rotate_left
  · intro w
    go_simp
    first | done | with_reducible rfl
  try simp only [Act.put, List.setIfInBounds_toArray, List.set_cons_zero, List.set_cons_succ]
  refine wpAnyG_pure (i := 28) (oi := ⟨some 35, _, _, _, _, _⟩) (v := ?_) rfl (by kernel_rfl) (by kernel_rfl) (by kernel_rfl) (by rfl) (fun _ _ _ h => h) (by rfl) ?_ ?_
  rotate_left
  · intro w
    go_simp
    first | done | with_reducible rfl
  try simp only [Act.put, List.setIfInBounds_toArray, List.set_cons_zero, List.set_cons_succ]
  refine wpAnyG_pure (i := 29) (oi := ⟨some 36, _, _, _, _, _⟩) (v := ?_) rfl (by kernel_rfl) (by kernel_rfl) (by kernel_rfl) (by rfl) (fun _ _ _ h => h) (by rfl) ?_ ?_
  rotate_left
  · intro w
    go_simp
    first | done | with_reducible rfl
  try simp only [Act.put, List.setIfInBounds_toArray, List.set_cons_zero, List.set_cons_succ]
  refine wpAnyG_pure (i := 30) (oi := ⟨some 37, _, _, _, _, _⟩) (v := ?_) rfl (by kernel_rfl) (by kernel_rfl) (by kernel_rfl) (by rfl) (fun _ _ _ h => h) (by rfl) ?_ ?_
  rotate_left
  · intro w
    go_simp
    first | done | with_reducible rfl
  try simp only [Act.put, List.setIfInBounds_toArray, List.set_cons_zero, List.set_cons_succ]
  refine wpAnyG_keep (i := 1) (oi := ⟨some 8, _, _, _, _, _⟩) (by kernel_rfl) rfl (fun K hK => ?_)
  rw [if_pos (by rfl)]
  go_simp
  refine (fnum_any 1 ⟨fl, 0, none⟩ _ hS).mono ?_
  clear hS
  rintro e w2 ⟨rfl, h⟩
  refine hK.out _ _ ?_ (fun hS => ?_)
  · exact h
  clear hK K
  try simp only [Act.put, List.setIfInBounds_toArray, List.set_cons_zero, List.set_cons_succ]
  refine wpAnyG_keep (i := 5) (oi := ⟨some 12, _, _, _, _, _⟩) (by kernel_rfl) rfl (fun K hK => ?_)
  rw [if_pos (by rfl)]
  go_simp
  refine (ftext_any ⟨tb, 3, none⟩ _ hS).mono ?_
  clear hS
  rintro e w2 ⟨rfl, h⟩
  refine hK.out _ _ ?_ (fun hS => ?_)
  · exact h
  clear hK K
  try simp only [Act.put, List.setIfInBounds_toArray, List.set_cons_zero, List.set_cons_succ]
  refine wpAnyG_keep (i := 9) (oi := ⟨some 16, _, _, _, _, _⟩) (by kernel_rfl) rfl (fun K hK => ?_)
  rw [if_pos (by rfl)]
  go_simp
  refine (ftext_any ⟨tb, 4, none⟩ _ hS).mono ?_
  clear hS
  rintro e w2 ⟨rfl, h⟩
  refine hK.out _ _ ?_ (fun hS => ?_)
  · exact h
  clear hK K
  try simp only [Act.put, List.setIfInBounds_toArray, List.set_cons_zero, List.set_cons_succ]
  refine wpAnyG_keep (i := 13) (oi := ⟨some 20, _, _, _, _, _⟩) (by kernel_rfl) rfl (fun K hK => ?_)
  rw [if_pos (by rfl)]
  go_simp
  refine (fnum_any 6 ⟨tb, 5, none⟩ _ hS).mono ?_
  clear hS
  rintro e w2 ⟨rfl, h⟩
  refine hK.out _ _ ?_ (fun hS => ?_)
  · exact h
  clear hK K
  try simp only [Act.put, List.setIfInBounds_toArray, List.set_cons_zero, List.set_cons_succ]
  refine wpAnyG_keep (i := 15) (oi := ⟨some 22, _, _, _, _, _⟩) (by kernel_rfl) rfl (fun K hK => ?_)
  rw [if_pos (by rfl)]
  go_simp
  refine (ftext_any ⟨fb, 0, none⟩ _ hS).mono ?_
  clear hS
  rintro e w2 ⟨rfl, h⟩
  refine hK.out _ _ ?_ (fun hS => ?_)
  · exact h
  clear hK K
  try simp only [Act.put, List.setIfInBounds_toArray, List.set_cons_zero, List.set_cons_succ]
  refine wpAnyG_keep (i := 19) (oi := ⟨some 26, _, _, _, _, _⟩) (by kernel_rfl) rfl (fun K hK => ?_)
  rw [if_pos (by rfl)]
  go_simp
  refine (fnum_any 6 ⟨tb, 7, none⟩ _ hS).mono ?_
  clear hS
  rintro e w2 ⟨rfl, h⟩
  refine hK.out _ _ ?_ (fun hS => ?_)
  · exact h
  clear hK K
  try simp only [Act.put, List.setIfInBounds_toArray, List.set_cons_zero, List.set_cons_succ]
  refine wpAnyG_keep (i := 23) (oi := ⟨some 30, _, _, _, _, _⟩) (by kernel_rfl) rfl (fun K hK => ?_)
  rw [if_pos (by rfl)]
  go_simp
  refine (fnum_any 6 ⟨tb, 8, none⟩ _ hS).mono ?_
  clear hS
  rintro e w2 ⟨rfl, h⟩
  refine hK.out _ _ ?_ (fun hS => ?_)
  · exact h
  clear hK K
  try simp only [Act.put, List.setIfInBounds_toArray, List.set_cons_zero, List.set_cons_succ]
  refine wpAnyG_keep (i := 27) (oi := ⟨some 34, _, _, _, _, _⟩) (by kernel_rfl) rfl (fun K hK => ?_)
  rw [if_pos (by rfl)]
  go_simp
  refine (fnum_any 6 ⟨tb, 9, none⟩ _ hS).mono ?_
  clear hS
  rintro e w2 ⟨rfl, h⟩
  refine hK.out _ _ ?_ (fun hS => ?_)
  · exact h
  clear hK K
  try simp only [Act.put, List.setIfInBounds_toArray, List.set_cons_zero, List.set_cons_succ]
  refine wpAnyG_keep (i := 31) (oi := ⟨some 38, _, _, _, _, _⟩) (by kernel_rfl) rfl (fun K hK => ?_)
  rw [if_pos (by rfl)]
  go_simp
  refine (fnum_any 6 ⟨tb, 10, none⟩ _ hS).mono ?_
  clear hS
  rintro e w2 ⟨rfl, h⟩
  refine hK.out _ _ ?_ (fun hS => ?_)
  · exact h
  clear hK K
  try simp only [Act.put, List.setIfInBounds_toArray, List.set_cons_zero, List.set_cons_succ]
  refine wpAnyG_break (i := 32) (oi := ⟨some 39, _, _, _, _, _⟩) (by kernel_rfl) rfl (by kernel_rfl) (fun K hK => ?_)
  rw [if_pos (by rfl)]
  refine wp_fields (clientFs tb fl fb) rfl rfl (by omega) (by omega) (by first | kernel_rfl | (simp [clientFs]; done) | (simp [clientFs]; rfl)) ?_
  have h := hS.alloc (.cells ((clientFs tb fl fb).flatMap enF).toArray FT)
  refine hK.out _ _ ?_
  clear hK K
  try simp only [Act.put, List.setIfInBounds_toArray, List.set_cons_zero, List.set_cons_succ]
  refine wpAnyG_pure (i := 33) (oi := ⟨some 6, _, _, _, _, _⟩) (v := ?_) rfl (by kernel_rfl) (by kernel_rfl) (by kernel_rfl) (by rfl) (fun _ _ _ h => h) (by rfl) ?_ ?_
  rotate_left
  · intro w
    go_simp
    first | done | with_reducible rfl
  try simp only [Act.put, List.setIfInBounds_toArray, List.set_cons_zero, List.set_cons_succ]
  refine wpAnyG_done (by kernel_rfl) ?_ _
  refine NoPanic.normal ?_
  go_wp2_with fail
  go_ret
  exact ⟨_, rfl, h⟩
end
def clientK (nm : ByteArray) : ByteArray := ⟨#[99]⟩ ++ nm
def clientV (fg : Int) (dh od : ByteArray) (ut : Int) (sT : ByteArray) (ii ab gr li : Int) : ByteArray := ⟨(byN 1 fg.toNat ++ (byN 1 dh.size ++ dh.data.toList) ++ (byN 1 od.size ++ od.data.toList) ++ byN 6 ut.toNat ++ (byN 1 sT.size ++ sT.data.toList) ++ byN 6 ii.toNat ++ byN 6 ab.toNat ++ byN 6 gr.toNat ++ byN 6 li.toNat).toArray⟩
def clientR (nm : ByteArray) (pu sw : Bool) (dh od : ByteArray) (ut : Int) (xs : List ByteArray) (ii ab gr li : Int) : ByteArray × ByteArray × Int := if clientMay nm pu sw dh od ut xs ii ab gr li then (clientK nm, clientV (flagV pu 1 + flagV sw 2) dh od ut (scTxt xs) ii ab gr li, 0) else (noB, noB, 140)
def clientFl (tb fl fb : Nat) (fg : Int) (dh od : ByteArray) (ut : Int) (sT : ByteArray) (ii ab gr li : Int) : List Fld := [(.num 1, ⟨fl, 0, none⟩, .n fg), (.text, ⟨tb, 3, none⟩, .s dh), (.text, ⟨tb, 4, none⟩, .s od), (.num 6, ⟨tb, 5, none⟩, .n ut), (.text, ⟨fb, 0, none⟩, .s sT), (.num 6, ⟨tb, 7, none⟩, .n ii), (.num 6, ⟨tb, 8, none⟩, .n ab), (.num 6, ⟨tb, 9, none⟩, .n gr), (.num 6, ⟨tb, 10, none⟩, .n li)]
theorem flags_range (a b : Bool) : 0 ≤ flagV a 1 + flagV b 2 ∧ flagV a 1 + flagV b 2 ≤ 3 := by cases a <;> cases b <;> decide
theorem flags_inj {a b c d : Bool} (h : flagV a 1 + flagV b 2 = flagV c 1 + flagV d 2) : a = c ∧ b = d := by
  revert h
  cases a <;> cases b <;> cases c <;> cases d <;> decide
def ClientIn (nm : ByteArray) (fg : Int) (dh od : ByteArray) (ut : Int) (sT : ByteArray) (ii ab gr li : Int) : Prop := nm.size ≤ 16 ∧ dh.size ≤ 32 ∧ od.size ≤ 32 ∧ sT.size ≤ 60 ∧ (0 ≤ fg ∧ fg ≤ 3) ∧ (0 ≤ ut ∧ ut ≤ 1099511627776) ∧ (0 ≤ ii ∧ ii ≤ 1099511627776) ∧ (0 ≤ ab ∧ ab ≤ 1099511627776) ∧ (0 ≤ gr ∧ gr ≤ 1099511627776) ∧ (0 ≤ li ∧ li ≤ 1099511627776)
theorem client_range {nm : ByteArray} {pu sw : Bool} {dh od : ByteArray} {ut : Int} {xs : List ByteArray} {ii ab gr li : Int} (h : clientMay nm pu sw dh od ut xs ii ab gr li) : ClientIn nm (flagV pu 1 + flagV sw 2) dh od ut (scTxt xs) ii ab gr li := by
  obtain ⟨c1, c2, c3, c4, c5, c6, c7⟩ := h
  have hf := flags_range pu sw
  refine ⟨nm_size c1, ?_, ?_, scTxt_size c2, hf, ?_⟩
  · omega
  · omega
  · omega
theorem client_fits (tb fl fb : Nat) {nm : ByteArray} {fg : Int} {dh od : ByteArray} {ut : Int} {sT : ByteArray} {ii ab gr li : Int} (h : ClientIn nm fg dh od ut sT ii ab gr li) : ∀ x ∈ (clientFl tb fl fb fg dh od ut sT ii ab gr li).map Fld.kv, fits1 x := by
  obtain ⟨r1, r2, r3, r4, c0, c1, c2, c3, c4, c5⟩ := h
  intro x hx
  simp only [clientFl, List.map_cons, List.map_nil, List.mem_cons, List.not_mem_nil, or_false] at hx
  rcases hx with rfl | rfl | rfl | rfl | rfl | rfl | rfl | rfl | rfl
  · exact ⟨by decide, by decide, by show (0 : Int) ≤ fg; omega, by show fg < (256 : Int) ^ 1; omega, by show fg ≤ (9223372036854775807 : Int); omega⟩
  · show dh.size ≤ 255
    omega
  · show od.size ≤ 255
    omega
  · exact ⟨by decide, by decide, by show (0 : Int) ≤ ut; omega, by show ut < (256 : Int) ^ 6; omega, by show ut ≤ (9223372036854775807 : Int); omega⟩
  · show sT.size ≤ 255
    omega
  · exact ⟨by decide, by decide, by show (0 : Int) ≤ ii; omega, by show ii < (256 : Int) ^ 6; omega, by show ii ≤ (9223372036854775807 : Int); omega⟩
  · exact ⟨by decide, by decide, by show (0 : Int) ≤ ab; omega, by show ab < (256 : Int) ^ 6; omega, by show ab ≤ (9223372036854775807 : Int); omega⟩
  · exact ⟨by decide, by decide, by show (0 : Int) ≤ gr; omega, by show gr < (256 : Int) ^ 6; omega, by show gr ≤ (9223372036854775807 : Int); omega⟩
  · exact ⟨by decide, by decide, by show (0 : Int) ≤ li; omega, by show li < (256 : Int) ^ 6; omega, by show li ≤ (9223372036854775807 : Int); omega⟩
theorem client_printed (tb fl fb : Nat) {nm : ByteArray} {fg : Int} {dh od : ByteArray} {ut : Int} {sT : ByteArray} {ii ab gr li : Int} (h : ClientIn nm fg dh od ut sT ii ab gr li) : printedV ((clientFl tb fl fb fg dh od ut sT ii ab gr li).map Fld.kv) = clientV fg dh od ut sT ii ab gr li := by
  rw [printed_fits (client_fits tb fl fb h)]
  refine bytes_ext _ _ ?_
  show ((byN 1 fg.toNat ++ ((byN 1 dh.size ++ dh.data.toList) ++ ((byN 1 od.size ++ od.data.toList) ++ (byN 6 ut.toNat ++ ((byN 1 sT.size ++ sT.data.toList) ++ (byN 6 ii.toNat ++ (byN 6 ab.toNat ++ (byN 6 gr.toNat ++ (byN 6 li.toNat ++ [])))))))))).toArray.toList = _
  simp
theorem client_ok (tb fl fb : Nat) {T : Ph} {nm : ByteArray} {pu sw : Bool} {fg : Int} {dh od : ByteArray} {ut : Int} {sT : ByteArray} {ii ab gr li : Int} {A : Option Addr} {n c : Nat} (h : ClientIn nm fg dh od ut sT ii ab gr li) (ht : ∀ i v, (clientC nm pu sw dh od ut A n c ii ab gr li)[i]? = some v → T.cell ⟨tb, i, none⟩ = some v) (hl : T.cell ⟨fl, 0, none⟩ = some (.int .i64 fg)) (hf : T.cell ⟨fb, 0, none⟩ = some (.string sT)) : ∀ x ∈ clientFl tb fl fb fg dh od ut sT ii ab gr li, FldOk T x := by
  obtain ⟨r1, r2, r3, r4, c0, c1, c2, c3, c4, c5⟩ := h
  intro x hx
  simp only [clientFl, List.mem_cons, List.not_mem_nil, or_false] at hx
  rcases hx with rfl | rfl | rfl | rfl | rfl | rfl | rfl | rfl | rfl
  · exact ⟨trivial, hl, by show fg ≤ (9223372036854775807 : Int); omega, by show (0 : Nat) ≤ _; omega⟩
  · exact ⟨trivial, ht 3 _ rfl, by show (0 : Int) ≤ _; omega, by show dh.size ≤ _; omega⟩
  · exact ⟨trivial, ht 4 _ rfl, by show (0 : Int) ≤ _; omega, by show od.size ≤ _; omega⟩
  · exact ⟨trivial, ht 5 _ rfl, by show ut ≤ (9223372036854775807 : Int); omega, by show (0 : Nat) ≤ _; omega⟩
  · exact ⟨trivial, hf, by show (0 : Int) ≤ _; omega, by show sT.size ≤ _; omega⟩
  · exact ⟨trivial, ht 7 _ rfl, by show ii ≤ (9223372036854775807 : Int); omega, by show (0 : Nat) ≤ _; omega⟩
  · exact ⟨trivial, ht 8 _ rfl, by show ab ≤ (9223372036854775807 : Int); omega, by show (0 : Nat) ≤ _; omega⟩
  · exact ⟨trivial, ht 9 _ rfl, by show gr ≤ (9223372036854775807 : Int); omega, by show (0 : Nat) ≤ _; omega⟩
  · exact ⟨trivial, ht 10 _ rfl, by show li ≤ (9223372036854775807 : Int); omega, by show (0 : Nat) ≤ _; omega⟩
section
variable {E : World} {S : Ph} {L : List Hp}
set_option maxRecDepth 20000 in
set_option maxHeartbeats 8000000 in
theorem printclient_any (nm : ByteArray) (pu sw : Bool) (dh od : ByteArray) (ut : Int) (A : Option Addr) (n c : Nat) (ii ab gr li : Int) (xs : List ByteArray) (w : World) (hr : Rds S 1 enStr A n xs) (hnc : n ≤ c) (hn43 : n ≤ 8796093022208) (hG : Laid0 E (Hp.ro S :: L)) (h : Own E w (Hp.ro S :: L)) :
    Calls Tryz.prog 40 #[.agg (clientC nm pu sw dh od ut A n c ii ab gr li).toArray] w fun ev w' => ev = .returned (itemV (clientR nm pu sw dh od ut xs ii ab gr li)) ∧ Own E w' (Hp.ro S :: L) := by
  have h1 := h.alloc (.cells (clientC nm pu sw dh od ut A n c ii ab gr li).toArray CLT)
  have h2 := h1.alloc (.cells #[.string ⟨#[]⟩, .string ⟨#[]⟩] ITT)
  rw [alloc_size] at h2
  have H3 := Lib.hid h2
  obtain ⟨dd, hd, hrow⟩ := itt_u
  by_cases hm : clientMay nm pu sw dh od ut xs ii ab gr li
  · have hrg := client_range hm
    have hsc : scErr xs = 0 := hm.2.1
    have hnm : nm.size ≤ 16 := hrg.1
    have hf1 : 0 ≤ flagV pu 1 ∧ flagV pu 1 ≤ 1 := by cases pu <;> decide
    have hf2 : 0 ≤ flagV sw 2 ∧ flagV sw 2 ≤ 2 := by cases sw <;> decide
    have HR : Hid (clientR nm pu sw dh od ut xs ii ab gr li = (clientK nm, clientV (flagV pu 1 + flagV sw 2) dh od ut (scTxt xs) ii ab gr li, 0)) := Lib.hid (if_pos hm)
    have KM : Hid (∀ w3 : World, Own E w3 (Hp.blk (w.heap.size + 1) ITT #[.string ⟨#[]⟩, .string ⟨#[]⟩] :: Hp.blk w.heap.size CLT (clientC nm pu sw dh od ut A n c ii ab gr li).toArray :: Hp.ro S :: L) → Calls Tryz.prog 101 #[.agg (clientC nm pu sw dh od ut A n c ii ab gr li).toArray] w3 fun ev w' => ev = .returned (.bool true) ∧ Own E w' (Hp.blk (w.heap.size + 1) ITT #[.string ⟨#[]⟩, .string ⟨#[]⟩] :: Hp.blk w.heap.size CLT (clientC nm pu sw dh od ut A n c ii ab gr li).toArray :: Hp.ro S :: L)) := Lib.hid fun w3 h3 => (clientmay_any nm pu sw dh od ut A n c ii ab gr li xs w3 hr hnc hn43 (show Own E w3 (Hp.ro S :: Hp.blk (w.heap.size + 1) ITT #[.string ⟨#[]⟩, .string ⟨#[]⟩] :: Hp.blk w.heap.size CLT (clientC nm pu sw dh od ut A n c ii ab gr li).toArray :: L) from h3.f2)).mono fun ev w' he => ⟨by rw [he.1, decide_eq_true hm], he.2.f2.f2⟩
    have KS : Hid (∀ (bf : Nat) (v : Value) (w3 : World), Own E w3 (Hp.blk bf 3 #[v] :: Hp.blk (w.heap.size + 1) ITT #[.string ⟨#[]⟩, .string ⟨#[]⟩] :: Hp.blk w.heap.size CLT (clientC nm pu sw dh od ut A n c ii ab gr li).toArray :: Hp.ro S :: L) → Calls Tryz.prog 82 #[.slice A n c] w3 fun ev w' => ev = .returned (.tuple #[.string (scTxt xs), .bool true]) ∧ Own E w' (Hp.blk bf 3 #[v] :: Hp.blk (w.heap.size + 1) ITT #[.string ⟨#[]⟩, .string ⟨#[]⟩] :: Hp.blk w.heap.size CLT (clientC nm pu sw dh od ut A n c ii ab gr li).toArray :: Hp.ro S :: L)) := Lib.hid fun bf v w3 h3 => (scoped_any A n c xs w3 hr hnc hn43 (show Own E w3 (Hp.ro S :: Hp.blk bf 3 #[v] :: Hp.blk (w.heap.size + 1) ITT #[.string ⟨#[]⟩, .string ⟨#[]⟩] :: Hp.blk w.heap.size CLT (clientC nm pu sw dh od ut A n c ii ab gr li).toArray :: L) from h3.f3)).mono fun ev w' he => ⟨by rw [he.1, decide_eq_true hsc], he.2.f3.f3.f3⟩
    obtain ⟨sT, hsT⟩ : ∃ sT, sT = scTxt xs := ⟨_, rfl⟩
    obtain ⟨fg, hfg⟩ : ∃ fg, fg = flagV pu 1 + flagV sw 2 := ⟨_, rfl⟩
    rw [← hsT, ← hfg] at hrg HR
    rw [← hsT] at KS
    have HP : Hid (∀ (bb bf fb : Nat) (w3 : World), Own E w3 (Hp.blk bb FT ((clientFs w.heap.size bf fb).flatMap enF).toArray :: Hp.blk fb 9 #[.string sT] :: Hp.blk bf 3 #[.int .i64 fg] :: Hp.blk (w.heap.size + 1) ITT #[.string ⟨#[]⟩, .string ⟨#[]⟩] :: Hp.blk w.heap.size CLT (clientC nm pu sw dh od ut A n c ii ab gr li).toArray :: Hp.ro S :: L) →
        Calls Tryz.prog 61 #[.slice (some ⟨bb, 0, none⟩) 9 9] w3 fun ev w' => ev = .returned (.string (clientV fg dh od ut sT ii ab gr li)) ∧ w'.cell? ⟨w.heap.size, 0, none⟩ = some (.string nm) ∧ Own E w' (Hp.blk (w.heap.size + 1) ITT #[.string ⟨#[]⟩, .string ⟨#[]⟩] :: Hp.ro S :: L)) := Lib.hid fun bb bf fb w3 h3 => by
      have h4 : Own E w3 (Hp.ro (Ph.one fb (.cells #[.string sT] 9 (0, 0))) :: Hp.ro (Ph.one bf (.cells #[.int .i64 fg] 3 (0, 0))) :: Hp.ro (Ph.one w.heap.size (.cells (clientC nm pu sw dh od ut A n c ii ab gr li).toArray CLT (0, 0))) :: Hp.blk bb FT ((clientFl w.heap.size bf fb fg dh od ut sT ii ab gr li).flatMap enFld).toArray :: Hp.blk (w.heap.size + 1) ITT #[.string ⟨#[]⟩, .string ⟨#[]⟩] :: Hp.ro S :: L) := h3.f4.f3.f3
      obtain ⟨m1, d1⟩ := h4.merge
      obtain ⟨m2, d2⟩ := m1.merge
      refine (printed_blk bb 9 (clientFl w.heap.size bf fb fg dh od ut sT ii ab gr li) w3 rfl (by omega) (client_ok _ _ _ hrg (fun i v hv => kept_cell d2 (by rw [one_cell, List.getElem?_toArray]; exact hv)) (left_cell (kept_cell d1 (one_cell _ _ _ 0))) (left_cell (left_cell (one_cell _ _ _ 0)))) hG.cons m2.f1).mono ?_
      rw [client_printed _ _ _ hrg]
      rintro ev w' ⟨rfl, h⟩
      exact ⟨rfl, h.rd (kept_cell d2 ((one_cell _ _ _ 0).trans rfl)), h.drop⟩
    have HC : Hid (∀ w', (∃ L', Own E w' (Hp.blk w.heap.size CLT (clientC nm pu sw dh od ut A n c ii ab gr li).toArray :: L')) → (w'.cell? ⟨w.heap.size, 1, none⟩ = some (.bool pu) ∧ w'.cell? ⟨w.heap.size, 2, none⟩ = some (.bool sw)) ∧ w'.cell? ⟨w.heap.size, 0, none⟩ = some (.string nm)) := Lib.hid fun w' ⟨L', h⟩ => ⟨⟨(h.cell 1).trans rfl, (h.cell 2).trans rfl⟩, (h.cell 0).trans rfl⟩
    have hq9 : ¬ 9223372036854775807 < 1 + nm.size := by omega
    have hfw : IntKind.i64.wrap (flagV pu 1 + flagV sw 2) = fg := by rw [hfg, IntKind.wrap_i64]; omega
    have hF1 := flag_any pu 1
    have hF2 := flag_any sw 2
    generalize flagV pu 1 = g1 at *
    generalize flagV sw 2 = g2 at *
    have HF := Lib.hid (And.intro hF1 hF2)
    clear h h1 h2 hG hm hrg hsc hr hsT hfg hF1 hF2 hf1 hf2 hnm
    unfold clientC at *
    go_enter Tryz.func40, Tryz.ntmps40
    go_wp2_with (with_reducible refine (KM.out _ H3.out).mono ?_; clear H3; rintro ev w2 ⟨rfl, h⟩; have H3 := Lib.hid h; clear h)
    go_cut [4] from 7 (fun x4 w' => ∃ bf : Nat, x4 = .pointer (some ⟨bf, 0, none⟩) ∧ Own E w' (Hp.blk bf 3 #[.int .i64 fg] :: Hp.blk (w.heap.size + 1) ITT #[.string ⟨#[]⟩, .string ⟨#[]⟩] :: Hp.blk w.heap.size CLT (clientC nm pu sw dh od ut A n c ii ab gr li).toArray :: Hp.ro S :: L))
    case first =>
      have h := H3.out.drew
      clear H3
      refine wp_region_text [1, 4] (fun w' => w'.cell? ⟨w.heap.size, 1, none⟩ = some (.bool pu) ∧ w'.cell? ⟨w.heap.size, 2, none⟩ = some (.bool sw)) (by kernel_rfl) ?_ (fun hS => ?_)
      · exact (HC.out _ (by first | exact ⟨_, h⟩ | exact ⟨_, h.f1⟩ | exact ⟨_, h.f2⟩ | exact ⟨_, h.f3⟩ | exact ⟨_, h.f4⟩ | exact ⟨_, h.f5⟩ | exact ⟨_, h.f6⟩ | exact ⟨_, h.f7⟩ | exact ⟨_, h.f8⟩ | exact ⟨_, h.f9⟩ | exact ⟨_, h.f10⟩ | exact ⟨_, h.f11⟩ | exact ⟨_, h.f12⟩ | exact ⟨_, h.f13⟩ | exact ⟨_, h.f14⟩ | exact ⟨_, h.f15⟩)).1
      refine wpAnyG_pure (i := 0) (oi := ⟨some 11, _, _, _, _, _⟩) (v := ?_) rfl (by kernel_rfl) (by kernel_rfl) (by kernel_rfl) (by rfl) (fun _ _ _ h => h) (by rfl) ?_ ?_
      rotate_left
      · intro w
        go_simp
        first | done | with_reducible rfl
      try simp only [Act.put, List.setIfInBounds_toArray, List.set_cons_zero, List.set_cons_succ]
      refine wpAnyG_load (i := 1) (oi := ⟨some 12, _, _, _, _, _⟩) (v := ?_) rfl (by kernel_rfl) (by kernel_rfl) (by kernel_rfl) (by rfl) (fun _ _ _ h => h) (by rfl) ?_ (by assumption) ?_
      rotate_left
      · intro w hS
        try dsimp only at hS
        go_simp
        first | done | with_reducible rfl
      try simp only [Act.put, List.setIfInBounds_toArray, List.set_cons_zero, List.set_cons_succ]
      refine wpAnyG_pure (i := 3) (oi := ⟨some 14, _, _, _, _, _⟩) (v := ?_) rfl (by kernel_rfl) (by kernel_rfl) (by kernel_rfl) (by rfl) (fun _ _ _ h => h) (by rfl) ?_ ?_
      rotate_left
      · intro w
        go_simp
        first | done | with_reducible rfl
      try simp only [Act.put, List.setIfInBounds_toArray, List.set_cons_zero, List.set_cons_succ]
      refine wpAnyG_load (i := 4) (oi := ⟨some 15, _, _, _, _, _⟩) (v := ?_) rfl (by kernel_rfl) (by kernel_rfl) (by kernel_rfl) (by rfl) (fun _ _ _ h => h) (by rfl) ?_ (by assumption) ?_
      rotate_left
      · intro w hS
        try dsimp only at hS
        go_simp
        first | done | with_reducible rfl
      try simp only [Act.put, List.setIfInBounds_toArray, List.set_cons_zero, List.set_cons_succ]
      refine wpAnyG_two (i := 2) (oi := ⟨some 13, _, _, _, _, _⟩) (j := 7) (oj := ⟨some 4, _, _, _, _, _⟩) (by kernel_rfl) rfl rfl (fun K hK => ?_) (fun K hK => ?_)
      · skip
        rw [if_pos (by rfl)]
        go_simp
        refine (HF.out.1 _).mono ?_
        rintro ev w4 ⟨rfl, rfl⟩
        refine hK.out _ _ ?_ (fun hS => ?_)
        · exact (HC.out _ (by first | exact ⟨_, h⟩ | exact ⟨_, h.f1⟩ | exact ⟨_, h.f2⟩ | exact ⟨_, h.f3⟩ | exact ⟨_, h.f4⟩ | exact ⟨_, h.f5⟩ | exact ⟨_, h.f6⟩ | exact ⟨_, h.f7⟩ | exact ⟨_, h.f8⟩ | exact ⟨_, h.f9⟩ | exact ⟨_, h.f10⟩ | exact ⟨_, h.f11⟩ | exact ⟨_, h.f12⟩ | exact ⟨_, h.f13⟩ | exact ⟨_, h.f14⟩ | exact ⟨_, h.f15⟩)).1
        clear hK K
        try simp only [Act.put, List.setIfInBounds_toArray, List.set_cons_zero, List.set_cons_succ]
        refine wpAnyG_two (i := 5) (oi := ⟨some 16, _, _, _, _, _⟩) (j := 7) (oj := ⟨some 4, _, _, _, _, _⟩) (by kernel_rfl) rfl rfl (fun K hK => ?_) (fun K hK => ?_)
        · skip
          rw [if_pos (by rfl)]
          go_simp
          refine (HF.out.2 _).mono ?_
          rintro ev w4 ⟨rfl, rfl⟩
          refine hK.out _ _ ?_ (fun hS => ?_)
          · exact (HC.out _ (by first | exact ⟨_, h⟩ | exact ⟨_, h.f1⟩ | exact ⟨_, h.f2⟩ | exact ⟨_, h.f3⟩ | exact ⟨_, h.f4⟩ | exact ⟨_, h.f5⟩ | exact ⟨_, h.f6⟩ | exact ⟨_, h.f7⟩ | exact ⟨_, h.f8⟩ | exact ⟨_, h.f9⟩ | exact ⟨_, h.f10⟩ | exact ⟨_, h.f11⟩ | exact ⟨_, h.f12⟩ | exact ⟨_, h.f13⟩ | exact ⟨_, h.f14⟩ | exact ⟨_, h.f15⟩)).1
          clear hK K
          try simp only [Act.put, List.setIfInBounds_toArray, List.set_cons_zero, List.set_cons_succ]
          refine wpAnyG_pure (i := 6) (oi := ⟨some 17, _, _, _, _, _⟩) (v := (.int .i64 fg)) rfl (by kernel_rfl) (by kernel_rfl) (by kernel_rfl) (by rfl) (fun _ _ _ h => h) (by rfl) ?_ ?_
          · intro w
            go_simp; first | done | rw [hfw]
          try simp only [Act.put, List.setIfInBounds_toArray, List.set_cons_zero, List.set_cons_succ]
          refine wpAnyG_keep (i := 7) (oi := ⟨some 4, _, _, _, _, _⟩) (by kernel_rfl) rfl (fun K hK => ?_)
          rw [if_pos (by rfl)]
          refine wp_alloc_own (cs := #[.int .i64 0]) (T := 3) h (by go_simp) (fun bf w8 h => ?_)
          refine hK.out _ _ ?_ (fun hS => ?_)
          · exact (HC.out _ (by first | exact ⟨_, h⟩ | exact ⟨_, h.f1⟩ | exact ⟨_, h.f2⟩ | exact ⟨_, h.f3⟩ | exact ⟨_, h.f4⟩ | exact ⟨_, h.f5⟩ | exact ⟨_, h.f6⟩ | exact ⟨_, h.f7⟩ | exact ⟨_, h.f8⟩ | exact ⟨_, h.f9⟩ | exact ⟨_, h.f10⟩ | exact ⟨_, h.f11⟩ | exact ⟨_, h.f12⟩ | exact ⟨_, h.f13⟩ | exact ⟨_, h.f14⟩ | exact ⟨_, h.f15⟩)).1
          clear hK K
          try simp only [Act.put, List.setIfInBounds_toArray, List.set_cons_zero, List.set_cons_succ]
          refine wpAnyG_keep (i := 8) (oi := ⟨none, _, _, _, _, _⟩) (by kernel_rfl) rfl (fun K hK => ?_)
          rw [if_pos (by rfl)]
          first | have h := (h : Own _ _ (Hp.blk bf 3 _ :: _)) | have h := (h.f1 : Own _ _ (Hp.blk bf 3 _ :: _)) | have h := (h.f2 : Own _ _ (Hp.blk bf 3 _ :: _)) | have h := (h.f3 : Own _ _ (Hp.blk bf 3 _ :: _)) | have h := (h.f4 : Own _ _ (Hp.blk bf 3 _ :: _)) | have h := (h.f5 : Own _ _ (Hp.blk bf 3 _ :: _)) | have h := (h.f6 : Own _ _ (Hp.blk bf 3 _ :: _)) | have h := (h.f7 : Own _ _ (Hp.blk bf 3 _ :: _)) | have h := (h.f8 : Own _ _ (Hp.blk bf 3 _ :: _)) | have h := (h.f9 : Own _ _ (Hp.blk bf 3 _ :: _)) | have h := (h.f10 : Own _ _ (Hp.blk bf 3 _ :: _)) | have h := (h.f11 : Own _ _ (Hp.blk bf 3 _ :: _)) | have h := (h.f12 : Own _ _ (Hp.blk bf 3 _ :: _)) | have h := (h.f13 : Own _ _ (Hp.blk bf 3 _ :: _)) | have h := (h.f14 : Own _ _ (Hp.blk bf 3 _ :: _)) | have h := (h.f15 : Own _ _ (Hp.blk bf 3 _ :: _))
          obtain ⟨⟨old, ho⟩, hfz, hs⟩ := h.put1 0 (.int .i64 fg) (show (0 : Nat) < 1 by omega)
          have h : Own E _ (Hp.blk bf 3 #[.int .i64 fg] :: _) := hs
          go_simp
          refine hK.out _ _ ?_ (fun hS => ?_)
          · exact (HC.out _ (by first | exact ⟨_, h⟩ | exact ⟨_, h.f1⟩ | exact ⟨_, h.f2⟩ | exact ⟨_, h.f3⟩ | exact ⟨_, h.f4⟩ | exact ⟨_, h.f5⟩ | exact ⟨_, h.f6⟩ | exact ⟨_, h.f7⟩ | exact ⟨_, h.f8⟩ | exact ⟨_, h.f9⟩ | exact ⟨_, h.f10⟩ | exact ⟨_, h.f11⟩ | exact ⟨_, h.f12⟩ | exact ⟨_, h.f13⟩ | exact ⟨_, h.f14⟩ | exact ⟨_, h.f15⟩)).1
          clear hK K
          try simp only [Act.put]
          refine wpAnyG_done (by kernel_rfl) ?_ _
          refine NoPanic.normal ?_
          go_wp2_with fail
          go_meet
          case rel => exact ⟨bf, rfl, h.ac (by simp only [Hp.all] <;> ac_rfl)⟩
        · skip
          rw [if_pos (by rfl)]
          refine wp_alloc_own (cs := #[.int .i64 0]) (T := 3) h (by go_simp) (fun bf w8 h => ?_)
          refine hK.out _ _ ?_ (fun hS => ?_)
          · exact (HC.out _ (by first | exact ⟨_, h⟩ | exact ⟨_, h.f1⟩ | exact ⟨_, h.f2⟩ | exact ⟨_, h.f3⟩ | exact ⟨_, h.f4⟩ | exact ⟨_, h.f5⟩ | exact ⟨_, h.f6⟩ | exact ⟨_, h.f7⟩ | exact ⟨_, h.f8⟩ | exact ⟨_, h.f9⟩ | exact ⟨_, h.f10⟩ | exact ⟨_, h.f11⟩ | exact ⟨_, h.f12⟩ | exact ⟨_, h.f13⟩ | exact ⟨_, h.f14⟩ | exact ⟨_, h.f15⟩)).1
          clear hK K
          try simp only [Act.put, List.setIfInBounds_toArray, List.set_cons_zero, List.set_cons_succ]
          refine wpAnyG_keep (i := 5) (oi := ⟨some 16, _, _, _, _, _⟩) (by kernel_rfl) rfl (fun K hK => ?_)
          rw [if_pos (by rfl)]
          go_simp
          refine (HF.out.2 _).mono ?_
          rintro ev w4 ⟨rfl, rfl⟩
          refine hK.out _ _ ?_ (fun hS => ?_)
          · exact (HC.out _ (by first | exact ⟨_, h⟩ | exact ⟨_, h.f1⟩ | exact ⟨_, h.f2⟩ | exact ⟨_, h.f3⟩ | exact ⟨_, h.f4⟩ | exact ⟨_, h.f5⟩ | exact ⟨_, h.f6⟩ | exact ⟨_, h.f7⟩ | exact ⟨_, h.f8⟩ | exact ⟨_, h.f9⟩ | exact ⟨_, h.f10⟩ | exact ⟨_, h.f11⟩ | exact ⟨_, h.f12⟩ | exact ⟨_, h.f13⟩ | exact ⟨_, h.f14⟩ | exact ⟨_, h.f15⟩)).1
          clear hK K
          try simp only [Act.put, List.setIfInBounds_toArray, List.set_cons_zero, List.set_cons_succ]
          refine wpAnyG_pure (i := 6) (oi := ⟨some 17, _, _, _, _, _⟩) (v := (.int .i64 fg)) rfl (by kernel_rfl) (by kernel_rfl) (by kernel_rfl) (by rfl) (fun _ _ _ h => h) (by rfl) ?_ ?_
          · intro w
            go_simp; first | done | rw [hfw]
          try simp only [Act.put, List.setIfInBounds_toArray, List.set_cons_zero, List.set_cons_succ]
          refine wpAnyG_keep (i := 8) (oi := ⟨none, _, _, _, _, _⟩) (by kernel_rfl) rfl (fun K hK => ?_)
          rw [if_pos (by rfl)]
          first | have h := (h : Own _ _ (Hp.blk bf 3 _ :: _)) | have h := (h.f1 : Own _ _ (Hp.blk bf 3 _ :: _)) | have h := (h.f2 : Own _ _ (Hp.blk bf 3 _ :: _)) | have h := (h.f3 : Own _ _ (Hp.blk bf 3 _ :: _)) | have h := (h.f4 : Own _ _ (Hp.blk bf 3 _ :: _)) | have h := (h.f5 : Own _ _ (Hp.blk bf 3 _ :: _)) | have h := (h.f6 : Own _ _ (Hp.blk bf 3 _ :: _)) | have h := (h.f7 : Own _ _ (Hp.blk bf 3 _ :: _)) | have h := (h.f8 : Own _ _ (Hp.blk bf 3 _ :: _)) | have h := (h.f9 : Own _ _ (Hp.blk bf 3 _ :: _)) | have h := (h.f10 : Own _ _ (Hp.blk bf 3 _ :: _)) | have h := (h.f11 : Own _ _ (Hp.blk bf 3 _ :: _)) | have h := (h.f12 : Own _ _ (Hp.blk bf 3 _ :: _)) | have h := (h.f13 : Own _ _ (Hp.blk bf 3 _ :: _)) | have h := (h.f14 : Own _ _ (Hp.blk bf 3 _ :: _)) | have h := (h.f15 : Own _ _ (Hp.blk bf 3 _ :: _))
          obtain ⟨⟨old, ho⟩, hfz, hs⟩ := h.put1 0 (.int .i64 fg) (show (0 : Nat) < 1 by omega)
          have h : Own E _ (Hp.blk bf 3 #[.int .i64 fg] :: _) := hs
          go_simp
          refine hK.out _ _ ?_ (fun hS => ?_)
          · exact (HC.out _ (by first | exact ⟨_, h⟩ | exact ⟨_, h.f1⟩ | exact ⟨_, h.f2⟩ | exact ⟨_, h.f3⟩ | exact ⟨_, h.f4⟩ | exact ⟨_, h.f5⟩ | exact ⟨_, h.f6⟩ | exact ⟨_, h.f7⟩ | exact ⟨_, h.f8⟩ | exact ⟨_, h.f9⟩ | exact ⟨_, h.f10⟩ | exact ⟨_, h.f11⟩ | exact ⟨_, h.f12⟩ | exact ⟨_, h.f13⟩ | exact ⟨_, h.f14⟩ | exact ⟨_, h.f15⟩)).1
          clear hK K
          try simp only [Act.put]
          refine wpAnyG_done (by kernel_rfl) ?_ _
          refine NoPanic.normal ?_
          go_wp2_with fail
          go_meet
          case rel => exact ⟨bf, rfl, h.ac (by simp only [Hp.all] <;> ac_rfl)⟩
      · skip
        rw [if_pos (by rfl)]
        refine wp_alloc_own (cs := #[.int .i64 0]) (T := 3) h (by go_simp) (fun bf w8 h => ?_)
        refine hK.out _ _ ?_ (fun hS => ?_)
        · exact (HC.out _ (by first | exact ⟨_, h⟩ | exact ⟨_, h.f1⟩ | exact ⟨_, h.f2⟩ | exact ⟨_, h.f3⟩ | exact ⟨_, h.f4⟩ | exact ⟨_, h.f5⟩ | exact ⟨_, h.f6⟩ | exact ⟨_, h.f7⟩ | exact ⟨_, h.f8⟩ | exact ⟨_, h.f9⟩ | exact ⟨_, h.f10⟩ | exact ⟨_, h.f11⟩ | exact ⟨_, h.f12⟩ | exact ⟨_, h.f13⟩ | exact ⟨_, h.f14⟩ | exact ⟨_, h.f15⟩)).1
        clear hK K
        try simp only [Act.put, List.setIfInBounds_toArray, List.set_cons_zero, List.set_cons_succ]
        refine wpAnyG_keep (i := 2) (oi := ⟨some 13, _, _, _, _, _⟩) (by kernel_rfl) rfl (fun K hK => ?_)
        rw [if_pos (by rfl)]
        go_simp
        refine (HF.out.1 _).mono ?_
        rintro ev w4 ⟨rfl, rfl⟩
        refine hK.out _ _ ?_ (fun hS => ?_)
        · exact (HC.out _ (by first | exact ⟨_, h⟩ | exact ⟨_, h.f1⟩ | exact ⟨_, h.f2⟩ | exact ⟨_, h.f3⟩ | exact ⟨_, h.f4⟩ | exact ⟨_, h.f5⟩ | exact ⟨_, h.f6⟩ | exact ⟨_, h.f7⟩ | exact ⟨_, h.f8⟩ | exact ⟨_, h.f9⟩ | exact ⟨_, h.f10⟩ | exact ⟨_, h.f11⟩ | exact ⟨_, h.f12⟩ | exact ⟨_, h.f13⟩ | exact ⟨_, h.f14⟩ | exact ⟨_, h.f15⟩)).1
        clear hK K
        try simp only [Act.put, List.setIfInBounds_toArray, List.set_cons_zero, List.set_cons_succ]
        refine wpAnyG_keep (i := 5) (oi := ⟨some 16, _, _, _, _, _⟩) (by kernel_rfl) rfl (fun K hK => ?_)
        rw [if_pos (by rfl)]
        go_simp
        refine (HF.out.2 _).mono ?_
        rintro ev w4 ⟨rfl, rfl⟩
        refine hK.out _ _ ?_ (fun hS => ?_)
        · exact (HC.out _ (by first | exact ⟨_, h⟩ | exact ⟨_, h.f1⟩ | exact ⟨_, h.f2⟩ | exact ⟨_, h.f3⟩ | exact ⟨_, h.f4⟩ | exact ⟨_, h.f5⟩ | exact ⟨_, h.f6⟩ | exact ⟨_, h.f7⟩ | exact ⟨_, h.f8⟩ | exact ⟨_, h.f9⟩ | exact ⟨_, h.f10⟩ | exact ⟨_, h.f11⟩ | exact ⟨_, h.f12⟩ | exact ⟨_, h.f13⟩ | exact ⟨_, h.f14⟩ | exact ⟨_, h.f15⟩)).1
        clear hK K
        try simp only [Act.put, List.setIfInBounds_toArray, List.set_cons_zero, List.set_cons_succ]
        refine wpAnyG_pure (i := 6) (oi := ⟨some 17, _, _, _, _, _⟩) (v := (.int .i64 fg)) rfl (by kernel_rfl) (by kernel_rfl) (by kernel_rfl) (by rfl) (fun _ _ _ h => h) (by rfl) ?_ ?_
        · intro w
          go_simp; first | done | rw [hfw]
        try simp only [Act.put, List.setIfInBounds_toArray, List.set_cons_zero, List.set_cons_succ]
        refine wpAnyG_keep (i := 8) (oi := ⟨none, _, _, _, _, _⟩) (by kernel_rfl) rfl (fun K hK => ?_)
        rw [if_pos (by rfl)]
        first | have h := (h : Own _ _ (Hp.blk bf 3 _ :: _)) | have h := (h.f1 : Own _ _ (Hp.blk bf 3 _ :: _)) | have h := (h.f2 : Own _ _ (Hp.blk bf 3 _ :: _)) | have h := (h.f3 : Own _ _ (Hp.blk bf 3 _ :: _)) | have h := (h.f4 : Own _ _ (Hp.blk bf 3 _ :: _)) | have h := (h.f5 : Own _ _ (Hp.blk bf 3 _ :: _)) | have h := (h.f6 : Own _ _ (Hp.blk bf 3 _ :: _)) | have h := (h.f7 : Own _ _ (Hp.blk bf 3 _ :: _)) | have h := (h.f8 : Own _ _ (Hp.blk bf 3 _ :: _)) | have h := (h.f9 : Own _ _ (Hp.blk bf 3 _ :: _)) | have h := (h.f10 : Own _ _ (Hp.blk bf 3 _ :: _)) | have h := (h.f11 : Own _ _ (Hp.blk bf 3 _ :: _)) | have h := (h.f12 : Own _ _ (Hp.blk bf 3 _ :: _)) | have h := (h.f13 : Own _ _ (Hp.blk bf 3 _ :: _)) | have h := (h.f14 : Own _ _ (Hp.blk bf 3 _ :: _)) | have h := (h.f15 : Own _ _ (Hp.blk bf 3 _ :: _))
        obtain ⟨⟨old, ho⟩, hfz, hs⟩ := h.put1 0 (.int .i64 fg) (show (0 : Nat) < 1 by omega)
        have h : Own E _ (Hp.blk bf 3 #[.int .i64 fg] :: _) := hs
        go_simp
        refine hK.out _ _ ?_ (fun hS => ?_)
        · exact (HC.out _ (by first | exact ⟨_, h⟩ | exact ⟨_, h.f1⟩ | exact ⟨_, h.f2⟩ | exact ⟨_, h.f3⟩ | exact ⟨_, h.f4⟩ | exact ⟨_, h.f5⟩ | exact ⟨_, h.f6⟩ | exact ⟨_, h.f7⟩ | exact ⟨_, h.f8⟩ | exact ⟨_, h.f9⟩ | exact ⟨_, h.f10⟩ | exact ⟨_, h.f11⟩ | exact ⟨_, h.f12⟩ | exact ⟨_, h.f13⟩ | exact ⟨_, h.f14⟩ | exact ⟨_, h.f15⟩)).1
        clear hK K
        try simp only [Act.put]
        refine wpAnyG_done (by kernel_rfl) ?_ _
        refine NoPanic.normal ?_
        go_wp2_with fail
        go_meet
        case rel => exact ⟨bf, rfl, h.ac (by simp only [Hp.all] <;> ac_rfl)⟩
    obtain ⟨bf, rfl, hw⟩ := hcut
    have c6 : _ = some (Value.slice A n c) := (hw.f2.cell 6).trans rfl
    have H3 := Lib.hid hw
    clear hw
    go_wp2_with (with_reducible refine (KS.out _ _ _ H3.out).mono ?_; clear H3; rintro ev w2 ⟨rfl, h⟩; have H3 := Lib.hid (h.alloc (.cells #[.string sT] 9)); clear h c6)
    have h := H3.out.drew
    clear H3
    refine wp_region_text [1] (fun w' => w'.cell? ⟨w.heap.size, 0, none⟩ = some (.string nm)) (by kernel_rfl) ?_ (fun hS => ?_)
    · exact (HC.out _ (by first | exact ⟨_, h⟩ | exact ⟨_, h.f1⟩ | exact ⟨_, h.f2⟩ | exact ⟨_, h.f3⟩ | exact ⟨_, h.f4⟩ | exact ⟨_, h.f5⟩ | exact ⟨_, h.f6⟩ | exact ⟨_, h.f7⟩ | exact ⟨_, h.f8⟩ | exact ⟨_, h.f9⟩ | exact ⟨_, h.f10⟩ | exact ⟨_, h.f11⟩ | exact ⟨_, h.f12⟩ | exact ⟨_, h.f13⟩ | exact ⟨_, h.f14⟩ | exact ⟨_, h.f15⟩)).2
    refine wpAnyG_pure (i := 0) (oi := ⟨some 24, _, _, _, _, _⟩) (v := ?_) rfl (by kernel_rfl) (by kernel_rfl) (by kernel_rfl) (by rfl) (fun _ _ _ h => h) (by rfl) ?_ ?_
    rotate_left
    · intro w
      go_simp
      first | done | with_reducible rfl
    try simp only [Act.put, List.setIfInBounds_toArray, List.set_cons_zero, List.set_cons_succ]
    refine wpAnyG_load (i := 1) (oi := ⟨some 25, _, _, _, _, _⟩) (v := ?_) rfl (by kernel_rfl) (by kernel_rfl) (by kernel_rfl) (by rfl) (fun _ _ _ h => h) (by rfl) ?_ (by assumption) ?_
    rotate_left
    · intro w hS
      try dsimp only at hS
      go_simp
      first | done | with_reducible rfl
    try simp only [Act.put, List.setIfInBounds_toArray, List.set_cons_zero, List.set_cons_succ]
    refine wpAnyG_pure (i := 2) (oi := ⟨some 26, _, _, _, _, _⟩) (v := (.string (clientK nm))) rfl (by kernel_rfl) (by kernel_rfl) (by kernel_rfl) (by rfl) (fun _ _ _ h => h) (by rfl) ?_ ?_
    · intro w
      go_simp; rfl
    try simp only [Act.put, List.setIfInBounds_toArray, List.set_cons_zero, List.set_cons_succ]
    refine wpAnyG_keep (i := 3) (oi := ⟨some 27, _, _, _, _, _⟩) (by kernel_rfl) rfl (fun K hK => ?_)
    rw [if_pos (by rfl)]
    go_simp
    refine (clientfields_any _ _ _ _ h).mono ?_
    clear h
    rintro ev w4 ⟨bb, rfl, h⟩
    refine hK.out _ _ ?_ (fun hS => ?_)
    · exact (HC.out _ (by first | exact ⟨_, h⟩ | exact ⟨_, h.f1⟩ | exact ⟨_, h.f2⟩ | exact ⟨_, h.f3⟩ | exact ⟨_, h.f4⟩ | exact ⟨_, h.f5⟩ | exact ⟨_, h.f6⟩ | exact ⟨_, h.f7⟩ | exact ⟨_, h.f8⟩ | exact ⟨_, h.f9⟩ | exact ⟨_, h.f10⟩ | exact ⟨_, h.f11⟩ | exact ⟨_, h.f12⟩ | exact ⟨_, h.f13⟩ | exact ⟨_, h.f14⟩ | exact ⟨_, h.f15⟩)).2
    clear hK K
    try simp only [Act.put, List.setIfInBounds_toArray, List.set_cons_zero, List.set_cons_succ]
    refine wpAnyG_keep (i := 4) (oi := ⟨some 28, _, _, _, _, _⟩) (by kernel_rfl) rfl (fun K hK => ?_)
    rw [if_pos (by rfl)]
    go_simp
    refine (HP.out _ _ _ _ h).mono ?_
    clear h
    rintro ev w5 ⟨rfl, hc4, h⟩
    refine hK.out _ _ ?_ (fun hS => ?_)
    · exact hc4
    clear hK K
    try simp only [Act.put, List.setIfInBounds_toArray, List.set_cons_zero, List.set_cons_succ]
    refine wpAnyG_pure (i := 5) (oi := ⟨some 29, _, _, _, _, _⟩) (v := ?_) rfl (by kernel_rfl) (by kernel_rfl) (by kernel_rfl) (by rfl) (fun _ _ _ h => h) (by rfl) ?_ ?_
    rotate_left
    · intro w
      go_simp
      first | done | with_reducible rfl
    try simp only [Act.put, List.setIfInBounds_toArray, List.set_cons_zero, List.set_cons_succ]
    refine wpAnyG_break (i := 6) (oi := ⟨none, _, _, _, _, _⟩) (by kernel_rfl) rfl (by kernel_rfl) (fun K hK => ?_)
    rw [if_pos (by rfl)]
    refine wp_store_whole (cs := [.string ⟨#[]⟩, .string ⟨#[]⟩]) (vs := [.string (clientK nm), .string (clientV fg dh od ut sT ii ab gr li)]) h rfl (pair_one _ _) (by kernel_rfl) rfl rfl rfl (fun w9 h => ?_)
    refine hK.out _ _ ?_
    clear hK K
    try simp only [Act.put]
    refine wpAnyG_pure (i := 7) (oi := ⟨some 3, _, _, _, _, _⟩) (v := ?_) rfl (by kernel_rfl) (by kernel_rfl) (by kernel_rfl) (by rfl) (fun _ _ _ h => h) (by rfl) ?_ ?_
    rotate_left
    · intro w
      go_simp
      first | done | with_reducible rfl
    try simp only [Act.put, List.setIfInBounds_toArray, List.set_cons_zero, List.set_cons_succ]
    refine wpAnyG_done (by kernel_rfl) ?_ _
    refine NoPanic.normal ?_
    have H9 := Lib.hid h
    clear h
    go_wp2_with fail
    refine bodyPost_ret (results_ct rfl rfl H9.out hd hrow (by kernel_rfl)) rfl ?_
    exact ⟨by rw [HR.out]; rfl, H9.out.drop⟩
  · have HR : Hid (clientR nm pu sw dh od ut xs ii ab gr li = (noB, noB, 140)) := Lib.hid (if_neg hm)
    have KM : Hid (∀ w3 : World, Own E w3 (Hp.blk (w.heap.size + 1) ITT #[.string ⟨#[]⟩, .string ⟨#[]⟩] :: Hp.blk w.heap.size CLT (clientC nm pu sw dh od ut A n c ii ab gr li).toArray :: Hp.ro S :: L) → Calls Tryz.prog 101 #[.agg (clientC nm pu sw dh od ut A n c ii ab gr li).toArray] w3 fun ev w' => ev = .returned (.bool false) ∧ Own E w' (Hp.blk (w.heap.size + 1) ITT #[.string ⟨#[]⟩, .string ⟨#[]⟩] :: Hp.blk w.heap.size CLT (clientC nm pu sw dh od ut A n c ii ab gr li).toArray :: Hp.ro S :: L)) := Lib.hid fun w3 h3 => (clientmay_any nm pu sw dh od ut A n c ii ab gr li xs w3 hr hnc hn43 (show Own E w3 (Hp.ro S :: Hp.blk (w.heap.size + 1) ITT #[.string ⟨#[]⟩, .string ⟨#[]⟩] :: Hp.blk w.heap.size CLT (clientC nm pu sw dh od ut A n c ii ab gr li).toArray :: L) from h3.f2)).mono fun ev w' he => ⟨by rw [he.1, decide_eq_false hm], he.2.f2.f2⟩
    clear h h1 h2 hG hm hr
    unfold clientC at *
    go_enter Tryz.func40, Tryz.ntmps40
    go_wp2_with (first
      | (with_reducible refine (KM.out _ H3.out).mono ?_; clear H3; rintro ev w2 ⟨rfl, h⟩; have H3 := Lib.hid h; clear h)
      | (with_reducible refine at_slot (k := none) ?_; refine wpList_store_whole (o := ⟨none, _, _, _, _, _⟩) (cs := [.string ⟨#[]⟩, .string ⟨#[]⟩]) (vs := [.string ⟨#[]⟩, .string ⟨#[]⟩]) H3.out rfl (pair_one ⟨#[]⟩ ⟨#[]⟩) (by kernel_rfl) rfl rfl rfl rfl ?_; clear H3; intro w7 h; have H8 := Lib.hid h; clear h))
    refine bodyPost_ret (results_ct rfl rfl H8.out hd hrow (by kernel_rfl)) rfl ?_
    exact ⟨by rw [HR.out]; rfl, H8.out.drop.drop⟩
end
end Go.Proofs.YtabibfabieghpaaGreatDoor
namespace Go.Proofs.YtabibfabieghpaaGreatDoor
open Go.RowKit
structure ClientV where
  nm : ByteArray
  pu : Bool
  sw : Bool
  dh : ByteArray
  od : ByteArray
  ut : Int
  xs : List ByteArray
  ii : Int
  ab : Int
  gr : Int
  li : Int
def ClientV.R (f : ClientV) : ByteArray × ByteArray × Int := clientR f.nm f.pu f.sw f.dh f.od f.ut f.xs f.ii f.ab f.gr f.li
def ClientV.C (f : ClientV) (A : Option Addr) (c : Nat) : List Value := clientC f.nm f.pu f.sw f.dh f.od f.ut A f.xs.length c f.ii f.ab f.gr f.li
def clientKs : List Fk := [.num 1, .text, .text, .num 6, .text, .num 6, .num 6, .num 6, .num 6]
theorem rest_one (t : UInt8) (nm : ByteArray) : restB ((⟨#[t]⟩ : ByteArray) ++ nm) 1 = nm := by
  have h1 : (restB ((⟨#[t]⟩ : ByteArray) ++ nm) 1).data.toList = nm.data.toList := by
    rw [rest_data, app_data]
    rfl
  rw [bytes_ext _ _ h1, Array.toArray_toList]
/-- What the flags say. -/
theorem flags_back (a b : Bool) : (bits .and .i64 (flagV a 1 + flagV b 2) 1 != 0) = a ∧ (bits .and .i64 (flagV a 1 + flagV b 2) 2 != 0) = b := by
  cases a <;> cases b <;> exact ⟨by kernel_rfl, by kernel_rfl⟩
theorem client_reads {f : ClientV} {k v : ByteArray} (h : f.R = (k, v, 0)) : clientMay f.nm f.pu f.sw f.dh f.od f.ut f.xs f.ii f.ab f.gr f.li ∧ k = clientK f.nm ∧ readV clientKs v = ([.n (flagV f.pu 1 + flagV f.sw 2), .s f.dh, .s f.od, .n f.ut, .s (scTxt f.xs), .n f.ii, .n f.ab, .n f.gr, .n f.li], true) ∧ (parseV (scTxt f.xs)).1 = f.xs := by
  unfold ClientV.R clientR at h
  by_cases hm : clientMay f.nm f.pu f.sw f.dh f.od f.ut f.xs f.ii f.ab f.gr f.li
  · rw [if_pos hm] at h
    injection h with h1 h2
    injection h2 with h2 h3
    have hr := client_range hm
    refine ⟨hm, h1.symm, ?_, ?_⟩
    · rw [← h2]
      have hh := readV_printed (client_fits 0 0 0 hr)
      rw [client_printed 0 0 0 hr] at hh
      exact hh
    · rw [parse_print hm.2.1]
  · rw [if_neg hm] at h
    injection h with h1 h2
    injection h2 with h2 h3
    cases h3
theorem clientK_inj {a b : ByteArray} (h : clientK a = clientK b) : a = b := by
  have := congrArg (fun x => restB x 1) h
  unfold clientK at this
  rwa [rest_one, rest_one] at this
theorem client_inj {f g : ClientV} {k v : ByteArray} (h : f.R = (k, v, 0)) (h2 : g.R = (k, v, 0)) : f = g := by
  obtain ⟨-, a1, a2, a3⟩ := client_reads h
  obtain ⟨-, b1, b2, b3⟩ := client_reads h2
  rw [a1] at b1
  rw [a2] at b2
  obtain ⟨fnm, fpu, fsw, fdh, fod, fut, fxs, fii, fab, fgr, fli⟩ := f
  obtain ⟨gnm, gpu, gsw, gdh, god, gut, gxs, gii, gab, ggr, gli⟩ := g
  simp only [Prod.mk.injEq, List.cons.injEq, Fv.s.injEq, Fv.n.injEq, and_true] at a3 b1 b2 b3
  obtain rfl := clientK_inj b1
  obtain ⟨ef, rfl, rfl, rfl, es, rfl, rfl, rfl, rfl⟩ := b2
  obtain ⟨rfl, rfl⟩ := flags_inj ef
  rw [es, b3] at a3
  obtain rfl := a3
  rfl
theorem client_one (nm : ByteArray) (pu : Bool) (sw : Bool) (dh : ByteArray) (od : ByteArray) (ut : Int) (A : Option Addr) (n c : Nat) (ii : Int) (ab : Int) (gr : Int) (li : Int) : ∀ v ∈ clientC nm pu sw dh od ut A n c ii ab gr li, v.oneCell' = true := fun v hv => by
  simp only [clientC, List.mem_cons, List.not_mem_nil, or_false] at hv
  rcases hv with rfl | rfl | rfl | rfl | rfl | rfl | rfl | rfl | rfl | rfl | rfl <;> rfl
/-- Its fields as they are read. -/
def clientP (tb fl fb : Nat) (vs : List Value) : Hp := Hp.sep (Hp.sep (Hp.blk tb CLT #[.string ⟨#[]⟩, .bool false, .bool false, vs.getD 1 undef, vs.getD 2 undef, vs.getD 3 undef, .slice none 0 0, vs.getD 5 undef, vs.getD 6 undef, vs.getD 7 undef, vs.getD 8 undef]) (Hp.blk fl 3 #[vs.getD 0 undef])) (Hp.blk fb 9 #[vs.getD 4 undef])
theorem places_client {E : World} (tb fl fb : Nat) : Places E (clientP tb fl fb) [⟨fl, 0, none⟩, ⟨tb, 3, none⟩, ⟨tb, 4, none⟩, ⟨tb, 5, none⟩, ⟨fb, 0, none⟩, ⟨tb, 7, none⟩, ⟨tb, 8, none⟩, ⟨tb, 9, none⟩, ⟨tb, 10, none⟩] where
  set w vs i ad v M hl hi h := by
    obtain ⟨a0, a1, a2, a3, a4, a5, a6, a7, a8, rfl⟩ : ∃ a0 a1 a2 a3 a4 a5 a6 a7 a8, vs = [a0, a1, a2, a3, a4, a5, a6, a7, a8] := by
      match vs, hl with
      | [a0, a1, a2, a3, a4, a5, a6, a7, a8], _ => exact ⟨a0, a1, a2, a3, a4, a5, a6, a7, a8, rfl⟩
    have h := Own.sep2.1 (Own.sep2.1 h)
    match i, hi with
    | 0, hi =>
      obtain rfl : (⟨fl, 0, none⟩ : Addr) = ad := by simpa using hi
      obtain ⟨h1, h2, h3⟩ := h.f1.put1 0 v (show (0 : Nat) < 1 by omega)
      exact ⟨h1, h2, Own.sep2.2 (Own.sep2.2 h3.f1)⟩
    | 1, hi =>
      obtain rfl : (⟨tb, 3, none⟩ : Addr) = ad := by simpa using hi
      obtain ⟨h1, h2, h3⟩ := h.put1 3 v (show (3 : Nat) < 11 by omega)
      exact ⟨h1, h2, Own.sep2.2 (Own.sep2.2 h3)⟩
    | 2, hi =>
      obtain rfl : (⟨tb, 4, none⟩ : Addr) = ad := by simpa using hi
      obtain ⟨h1, h2, h3⟩ := h.put1 4 v (show (4 : Nat) < 11 by omega)
      exact ⟨h1, h2, Own.sep2.2 (Own.sep2.2 h3)⟩
    | 3, hi =>
      obtain rfl : (⟨tb, 5, none⟩ : Addr) = ad := by simpa using hi
      obtain ⟨h1, h2, h3⟩ := h.put1 5 v (show (5 : Nat) < 11 by omega)
      exact ⟨h1, h2, Own.sep2.2 (Own.sep2.2 h3)⟩
    | 4, hi =>
      obtain rfl : (⟨fb, 0, none⟩ : Addr) = ad := by simpa using hi
      obtain ⟨h1, h2, h3⟩ := h.f2.put1 0 v (show (0 : Nat) < 1 by omega)
      exact ⟨h1, h2, Own.sep2.2 (Own.sep2.2 h3.f2.f2)⟩
    | 5, hi =>
      obtain rfl : (⟨tb, 7, none⟩ : Addr) = ad := by simpa using hi
      obtain ⟨h1, h2, h3⟩ := h.put1 7 v (show (7 : Nat) < 11 by omega)
      exact ⟨h1, h2, Own.sep2.2 (Own.sep2.2 h3)⟩
    | 6, hi =>
      obtain rfl : (⟨tb, 8, none⟩ : Addr) = ad := by simpa using hi
      obtain ⟨h1, h2, h3⟩ := h.put1 8 v (show (8 : Nat) < 11 by omega)
      exact ⟨h1, h2, Own.sep2.2 (Own.sep2.2 h3)⟩
    | 7, hi =>
      obtain rfl : (⟨tb, 9, none⟩ : Addr) = ad := by simpa using hi
      obtain ⟨h1, h2, h3⟩ := h.put1 9 v (show (9 : Nat) < 11 by omega)
      exact ⟨h1, h2, Own.sep2.2 (Own.sep2.2 h3)⟩
    | 8, hi =>
      obtain rfl : (⟨tb, 10, none⟩ : Addr) = ad := by simpa using hi
      obtain ⟨h1, h2, h3⟩ := h.put1 10 v (show (10 : Nat) < 11 by omega)
      exact ⟨h1, h2, Own.sep2.2 (Own.sep2.2 h3)⟩
section
variable {E : World} {L : List Hp}
set_option maxRecDepth 20000 in
set_option maxHeartbeats 16000000 in
theorem parseclient_any (k v : ByteArray) (w : World) (hk : k.size ≤ 1000000000000000) (hv : v.size ≤ 1000000000000000) (hG : Laid0 E L) (hM : Max0 E L) (h : Own E w L) :
    Calls Tryz.prog 42 #[.agg #[.string k, .string v]] w fun ev w' => (∃ (f : ClientV) (A : Option Addr) (c : Nat), ev = .returned (.tuple #[.agg (f.C A c).toArray, .int .i64 0]) ∧ f.R = (k, v, 0) ∧ Own E w' (Hp.lst ST (.slice A f.xs.length c) (f.xs.map Value.string) :: L)) ∨
      (ev = .returned (.tuple #[.agg (clientC noB false false noB noB 0 none 0 0 0 0 0 0).toArray, .int .i64 141]) ∧ (∀ f : ClientV, f.R ≠ (k, v, 0)) ∧ Own E w' L) := by
  have h1 := h.alloc (.cells #[.string k, .string v] ITT)
  have h2 := h1.alloc (.cells (clientC ⟨#[]⟩ false false ⟨#[]⟩ ⟨#[]⟩ 0 none 0 0 0 0 0 0).toArray CLT)
  have h3 := h2.alloc (.cells (clientC ⟨#[]⟩ false false ⟨#[]⟩ ⟨#[]⟩ 0 none 0 0 0 0 0 0).toArray CLT)
  have h4 := h3.alloc (.cells #[.int .i64 0] 3)
  have h5 := h4.alloc (.cells #[.string ⟨#[]⟩] 9)
  rw [alloc_size, alloc_size, alloc_size, alloc_size] at h5
  have H3 := Lib.hid (show Own E _ (Hp.blk (w.heap.size + 1 + 1) CLT (clientC ⟨#[]⟩ false false ⟨#[]⟩ ⟨#[]⟩ 0 none 0 0 0 0 0 0).toArray :: Hp.blk (w.heap.size + 1 + 1 + 1) 3 #[.int .i64 0] :: Hp.blk (w.heap.size + 1 + 1 + 1 + 1) 9 #[.string ⟨#[]⟩] :: Hp.blk (w.heap.size + 1) CLT (clientC ⟨#[]⟩ false false ⟨#[]⟩ ⟨#[]⟩ 0 none 0 0 0 0 0 0).toArray :: Hp.blk w.heap.size ITT #[.string k, .string v] :: L) from h5.f1.f2)
  obtain ⟨dd, hd, hrow⟩ := clientt_u0
  have HC0 : Hid (∀ w' : World, Own E w' (Hp.blk (w.heap.size + 1 + 1) CLT (clientC ⟨#[]⟩ false false ⟨#[]⟩ ⟨#[]⟩ 0 none 0 0 0 0 0 0).toArray :: Hp.blk (w.heap.size + 1 + 1 + 1) 3 #[.int .i64 0] :: Hp.blk (w.heap.size + 1 + 1 + 1 + 1) 9 #[.string ⟨#[]⟩] :: Hp.blk (w.heap.size + 1) CLT (clientC ⟨#[]⟩ false false ⟨#[]⟩ ⟨#[]⟩ 0 none 0 0 0 0 0 0).toArray :: Hp.blk w.heap.size ITT #[.string k, .string v] :: L) → w'.cell? ⟨w.heap.size, 0, none⟩ = some (.string k) ∧ w'.cell? ⟨w.heap.size, 1, none⟩ = some (.string v)) := Lib.hid fun w' h => ⟨(h.f4.cell 0).trans rfl, (h.f4.cell 1).trans rfl⟩
  clear h h1 h2 h3 h4 h5
  by_cases hk0 : k.size = 0
  · have zk : k.toList.isEmpty = true := by rw [isEmpty_size, decide_eq_true hk0]
    have HN : Hid (∀ f : ClientV, f.R ≠ (k, v, 0)) := Lib.hid fun f hf => by
      have := (client_reads hf).2.1
      rw [this] at hk0
      unfold clientK at hk0
      rw [ByteArray.size_append] at hk0
      have e1 : (⟨#[99]⟩ : ByteArray).size = 1 := rfl
      omega
    clear hG hM hk hv hk0
    go_enter Tryz.func42, Tryz.ntmps42
    go_wp2_with fail
    have h := H3.out.drew
    clear H3
    refine wp_region_text [1] (fun w' => w'.cell? ⟨w.heap.size, 0, none⟩ = some (.string k)) (by kernel_rfl) ?_ (fun hS => ?_)
    · exact (HC0.out _ h).1
    refine wpAnyG_pure (i := 0) (oi := ⟨some 9, _, _, _, _, _⟩) (v := ?_) rfl (by kernel_rfl) (by kernel_rfl) (by kernel_rfl) (by rfl) (fun _ _ _ h => h) (by rfl) ?_ ?_
    rotate_left
    · intro w
      go_simp
      first | done | with_reducible rfl
    try simp only [Act.put, List.setIfInBounds_toArray, List.set_cons_zero, List.set_cons_succ]
    refine wpAnyG_load (i := 1) (oi := ⟨some 10, _, _, _, _, _⟩) (v := ?_) rfl (by kernel_rfl) (by kernel_rfl) (by kernel_rfl) (by rfl) (fun _ _ _ h => h) (by rfl) ?_ (by assumption) ?_
    rotate_left
    · intro w hS
      try dsimp only at hS
      go_simp
      first | done | with_reducible rfl
    try simp only [Act.put, List.setIfInBounds_toArray, List.set_cons_zero, List.set_cons_succ]
    refine wpAnyG_pure (i := 2) (oi := ⟨some 11, _, _, _, _, _⟩) (v := ?_) rfl (by kernel_rfl) (by kernel_rfl) (by kernel_rfl) (by rfl) (fun _ _ _ h => h) (by rfl) ?_ ?_
    rotate_left
    · intro w
      go_simp
      first | done | with_reducible rfl
    try simp only [Act.put, List.setIfInBounds_toArray, List.set_cons_zero, List.set_cons_succ]
    refine wpAnyG_pure (i := 3) (oi := ⟨some 12, _, _, _, _, _⟩) (v := ?_) rfl (by kernel_rfl) (by kernel_rfl) (by kernel_rfl) (by rfl) (fun _ _ _ h => h) (by rfl) ?_ ?_
    rotate_left
    · intro w
      go_simp
      first | done | with_reducible rfl
    try simp only [Act.put, List.setIfInBounds_toArray, List.set_cons_zero, List.set_cons_succ]
    refine wpAnyG_skip (i := 4) (oi := ⟨some 13, _, _, _, _, _⟩) rfl (by kernel_rfl) (by kernel_rfl) (by kernel_rfl) (by rfl) (fun _ _ _ h => h) (by rfl) ?_
    try simp only [Act.put, List.setIfInBounds_toArray, List.set_cons_zero, List.set_cons_succ]
    refine wpAnyG_skip (i := 5) (oi := ⟨some 14, _, _, _, _, _⟩) rfl (by kernel_rfl) (by kernel_rfl) (by kernel_rfl) (by rfl) (fun _ _ _ h => h) (by rfl) ?_
    try simp only [Act.put, List.setIfInBounds_toArray, List.set_cons_zero, List.set_cons_succ]
    refine wpAnyG_skip (i := 6) (oi := ⟨some 15, _, _, _, _, _⟩) rfl (by kernel_rfl) (by kernel_rfl) (by kernel_rfl) (by rfl) (fun _ _ _ h => h) (by rfl) ?_
    try simp only [Act.put, List.setIfInBounds_toArray, List.set_cons_zero, List.set_cons_succ]
    refine wpAnyG_skip (i := 7) (oi := ⟨some 16, _, _, _, _, _⟩) rfl (by kernel_rfl) (by kernel_rfl) (by kernel_rfl) (by rfl) (fun _ _ _ h => h) (by rfl) ?_
    try simp only [Act.put, List.setIfInBounds_toArray, List.set_cons_zero, List.set_cons_succ]
    refine wpAnyG_skip (i := 8) (oi := ⟨some 17, _, _, _, _, _⟩) rfl (by kernel_rfl) (by kernel_rfl) (by kernel_rfl) (by rfl) (fun _ _ _ h => h) (by rfl) ?_
    try simp only [Act.put, List.setIfInBounds_toArray, List.set_cons_zero, List.set_cons_succ]
    refine wpAnyG_pure (i := 9) (oi := ⟨some 18, _, _, _, _, _⟩) (v := ?_) rfl (by kernel_rfl) (by kernel_rfl) (by kernel_rfl) (by rfl) (fun _ _ _ h => h) (by rfl) ?_ ?_
    rotate_left
    · intro w
      go_simp
      first | done | with_reducible rfl
    try simp only [Act.put, List.setIfInBounds_toArray, List.set_cons_zero, List.set_cons_succ]
    refine wpAnyG_done (by kernel_rfl) ?_ _
    refine NoPanic.normal ?_
    have H3 := Lib.hid h.f3
    clear h
    go_wp2_with (with_reducible refine at_slot (k := none) ?_; refine wpList_store_whole (o := ⟨none, _, _, _, _, _⟩) (cs := (clientC ⟨#[]⟩ false false ⟨#[]⟩ ⟨#[]⟩ 0 none 0 0 0 0 0 0)) (vs := (clientC ⟨#[]⟩ false false ⟨#[]⟩ ⟨#[]⟩ 0 none 0 0 0 0 0 0)) H3.out rfl (client_one _ _ _ _ _ _ _ _ _ _ _ _ _) (by kernel_rfl) rfl rfl rfl rfl ?_; clear H3; intro w7 h; have H8 := Lib.hid h; clear h)
    refine bodyPost_ret (results_ct rfl rfl H8.out hd hrow (by kernel_rfl)) rfl ?_
    exact .inr ⟨rfl, HN.out, H8.out.drop.drop.drop.drop.drop⟩
  · have zk : k.toList.isEmpty = false := by rw [isEmpty_size, decide_eq_false hk0]
    have i1 : (1 : Int) ≤ k.size := by omega
    obtain ⟨fg, dh, od, ut, sT, ii, ab, gr, li, ok, hr⟩ : ∃ fg dh od ut sT ii ab gr li ok, readV clientKs v = ([.n fg, .s dh, .s od, .n ut, .s sT, .n ii, .n ab, .n gr, .n li], ok) := ⟨_, _, _, _, _, _, _, _, _, _, rfl⟩
    have hT : sT.size ≤ 4000000000 := by
      have h9 : ((readV clientKs v).1.getD 4 (.n 0)).str.size ≤ 255 := rText_size _ _
      rw [hr] at h9
      have h8 : sT.size ≤ 255 := h9
      omega
    obtain ⟨xs, hxs⟩ : ∃ xs, xs = (parseV sT).1 := ⟨_, rfl⟩
    obtain ⟨n, hn⟩ : ∃ n, n = xs.length := ⟨_, rfl⟩
    obtain ⟨pu, hpu⟩ : ∃ pu, (bits .and .i64 fg 1 != 0) = pu := ⟨_, rfl⟩
    obtain ⟨sw, hsw⟩ : ∃ sw, (bits .and .i64 fg 2 != 0) = sw := ⟨_, rfl⟩
    have HNO : Hid (∀ f : ClientV, f.R = (k, v, 0) → ok = true ∧ (clientR (restB k 1) pu sw dh od ut xs ii ab gr li) = (k, v, 0)) := Lib.hid fun f hf => by
      obtain ⟨-, e1, e2, e3⟩ := client_reads hf
      rw [hr] at e2
      obtain ⟨qnm, qpu, qsw, qdh, qod, qut, qxs, qii, qab, qgr, qli⟩ := f
      simp only [Prod.mk.injEq, List.cons.injEq, Fv.s.injEq, Fv.n.injEq, and_true] at e1 e2 e3
      obtain ⟨⟨ef, rfl, rfl, rfl, rfl, rfl, rfl, rfl, rfl⟩, rfl⟩ := e2
      rw [ef, (flags_back _ _).1] at hpu
      rw [ef, (flags_back _ _).2] at hsw
      subst hpu hsw
      refine ⟨rfl, ?_⟩
      have e4 : restB k 1 = qnm := by rw [e1]; exact rest_one 99 qnm
      rw [hxs, e3, e4]
      exact hf
    have HSZ : Hid (xs.length ≤ 8) := Lib.hid (by
      rw [hxs]
      rcases parse_right sT with ⟨-, h⟩ | ⟨h, -⟩
      · exact ((fit_iff _).1 (scErr_zero h).2.2).1
      · rw [h]; exact Nat.zero_le _)
    have KR : Hid (∀ (bb : Nat) (w3 : World), Own E w3 (Hp.blk bb FT ((clientFs (w.heap.size + 1 + 1) (w.heap.size + 1 + 1 + 1) (w.heap.size + 1 + 1 + 1 + 1)).flatMap enF).toArray :: Hp.blk (w.heap.size + 1 + 1) CLT (clientC ⟨#[]⟩ false false ⟨#[]⟩ ⟨#[]⟩ 0 none 0 0 0 0 0 0).toArray :: Hp.blk (w.heap.size + 1 + 1 + 1) 3 #[.int .i64 0] :: Hp.blk (w.heap.size + 1 + 1 + 1 + 1) 9 #[.string ⟨#[]⟩] :: Hp.blk (w.heap.size + 1) CLT (clientC ⟨#[]⟩ false false ⟨#[]⟩ ⟨#[]⟩ 0 none 0 0 0 0 0 0).toArray :: Hp.blk w.heap.size ITT #[.string k, .string v] :: L) →
        Calls Tryz.prog 67 #[.slice (some ⟨bb, 0, none⟩) 9 9, .string v] w3 fun ev w' => ev = .returned (.bool ok) ∧ Own E w' (Hp.blk (w.heap.size + 1 + 1) CLT (clientC ⟨#[]⟩ false false dh od ut none 0 0 ii ab gr li).toArray :: Hp.blk (w.heap.size + 1 + 1 + 1) 3 #[.int .i64 fg] :: Hp.blk (w.heap.size + 1 + 1 + 1 + 1) 9 #[.string sT] :: Hp.blk (w.heap.size + 1) CLT (clientC ⟨#[]⟩ false false ⟨#[]⟩ ⟨#[]⟩ 0 none 0 0 0 0 0 0).toArray :: Hp.blk w.heap.size ITT #[.string k, .string v] :: L)) := Lib.hid fun bb w3 h3 => by
      have h4 : Own E w3 (Hp.blk bb FT ((clientFs (w.heap.size + 1 + 1) (w.heap.size + 1 + 1 + 1) (w.heap.size + 1 + 1 + 1 + 1)).flatMap enF).toArray :: clientP (w.heap.size + 1 + 1) (w.heap.size + 1 + 1 + 1) (w.heap.size + 1 + 1 + 1 + 1) [.int .i64 0, .string ⟨#[]⟩, .string ⟨#[]⟩, .int .i64 0, .string ⟨#[]⟩, .int .i64 0, .int .i64 0, .int .i64 0, .int .i64 0] :: Hp.blk (w.heap.size + 1) CLT (clientC ⟨#[]⟩ false false ⟨#[]⟩ ⟨#[]⟩ 0 none 0 0 0 0 0 0).toArray :: Hp.blk w.heap.size ITT #[.string k, .string v] :: L) := (Own.sep2.2 (Own.sep2.2 h3.f3.f3.f3)).f1
      have hh := read_blk (E := E) bb 9 (clientFs (w.heap.size + 1 + 1) (w.heap.size + 1 + 1 + 1) (w.heap.size + 1 + 1 + 1 + 1)) v _ [.int .i64 0, .string ⟨#[]⟩, .string ⟨#[]⟩, .int .i64 0, .string ⟨#[]⟩, .int .i64 0, .int .i64 0, .int .i64 0, .int .i64 0] w3 rfl (by omega) hv (places_client _ _ _) rfl hG.cons.cons h4
      rw [show (clientFs (w.heap.size + 1 + 1) (w.heap.size + 1 + 1 + 1) (w.heap.size + 1 + 1 + 1 + 1)).map (·.1) = clientKs from rfl, hr] at hh
      refine hh.mono ?_
      rintro ev w' ⟨rfl, h⟩
      exact ⟨rfl, Own.sep2.1 (Own.sep2.1 h)⟩
    have KNM : Hid (∀ w3 : World, Own E w3 (Hp.blk (w.heap.size + 1 + 1) CLT (clientC (restB k 1) pu sw dh od ut none 0 0 ii ab gr li).toArray :: Hp.blk (w.heap.size + 1 + 1 + 1 + 1) 9 #[.string sT] :: Hp.blk (w.heap.size + 1) CLT (clientC ⟨#[]⟩ false false ⟨#[]⟩ ⟨#[]⟩ 0 none 0 0 0 0 0 0).toArray :: Hp.blk w.heap.size ITT #[.string k, .string v] :: L) → Calls Tryz.prog 94 #[.string sT] w3 fun ev w' => ∃ (A : Option Addr) (cc : Nat) (b : Bool), ev = .returned (.tuple #[.slice A n cc, .bool b]) ∧ Own E w' (Hp.lst ST (.slice A n cc) (xs.map Value.string) :: Hp.blk (w.heap.size + 1 + 1) CLT (clientC (restB k 1) pu sw dh od ut none 0 0 ii ab gr li).toArray :: Hp.blk (w.heap.size + 1 + 1 + 1 + 1) 9 #[.string sT] :: Hp.blk (w.heap.size + 1) CLT (clientC ⟨#[]⟩ false false ⟨#[]⟩ ⟨#[]⟩ 0 none 0 0 0 0 0 0).toArray :: Hp.blk w.heap.size ITT #[.string k, .string v] :: L)) := Lib.hid fun w3 h3 => by
      rw [hn, hxs]
      exact names_any sT w3 hT hM.cons.cons.cons.cons h3
    have HPR : Hid (∀ (A : Option Addr) (cc : Nat) (w3 : World), Own E w3 (Hp.blk (w.heap.size + 1 + 1) CLT (clientC (restB k 1) pu sw dh od ut A n cc ii ab gr li).toArray :: Hp.lst ST (.slice A n cc) (xs.map Value.string) :: Hp.blk (w.heap.size + 1 + 1 + 1 + 1) 9 #[.string sT] :: Hp.blk (w.heap.size + 1) CLT (clientC ⟨#[]⟩ false false ⟨#[]⟩ ⟨#[]⟩ 0 none 0 0 0 0 0 0).toArray :: Hp.blk w.heap.size ITT #[.string k, .string v] :: L) → Calls Tryz.prog 40 #[.agg (clientC (restB k 1) pu sw dh od ut A n cc ii ab gr li).toArray] w3 fun ev w' => ev = .returned (.tuple #[.agg #[.string (clientR (restB k 1) pu sw dh od ut xs ii ab gr li).1, .string (clientR (restB k 1) pu sw dh od ut xs ii ab gr li).2.1], .int .i64 (clientR (restB k 1) pu sw dh od ut xs ii ab gr li).2.2]) ∧ Own E w' (Hp.blk (w.heap.size + 1 + 1) CLT (clientC (restB k 1) pu sw dh od ut A n cc ii ab gr li).toArray :: Hp.lst ST (.slice A n cc) (xs.map Value.string) :: Hp.blk (w.heap.size + 1 + 1 + 1 + 1) 9 #[.string sT] :: Hp.blk (w.heap.size + 1) CLT (clientC ⟨#[]⟩ false false ⟨#[]⟩ ⟨#[]⟩ 0 none 0 0 0 0 0 0).toArray :: Hp.blk w.heap.size ITT #[.string k, .string v] :: L)) := Lib.hid fun A cc w3 h3 => by
      obtain ⟨a, h4, ha, hb⟩ := h3.f1.opens
      obtain ⟨hr, hc, -, -⟩ := lst_rds ha
      refine (printclient_any (restB k 1) pu sw dh od ut A n cc ii ab gr li xs w3 hr hc (by have := HSZ.out; omega) hG.cons.cons.cons.cons.cons h4).mono ?_
      rintro ev w' ⟨rfl, h⟩
      exact ⟨rfl, (hb _ _ h).f1⟩
    have HC1 : Hid (∀ w' : World, Own E w' (Hp.blk (w.heap.size + 1 + 1) CLT (clientC ⟨#[]⟩ false false dh od ut none 0 0 ii ab gr li).toArray :: Hp.blk (w.heap.size + 1 + 1 + 1) 3 #[.int .i64 fg] :: Hp.blk (w.heap.size + 1 + 1 + 1 + 1) 9 #[.string sT] :: Hp.blk (w.heap.size + 1) CLT (clientC ⟨#[]⟩ false false ⟨#[]⟩ ⟨#[]⟩ 0 none 0 0 0 0 0 0).toArray :: Hp.blk w.heap.size ITT #[.string k, .string v] :: L) → w'.cell? ⟨w.heap.size, 0, none⟩ = some (.string k) ∧ w'.cell? ⟨w.heap.size + 1 + 1 + 1, 0, none⟩ = some (.int .i64 fg)) := Lib.hid fun w' h => ⟨(h.f4.cell 0).trans rfl, (h.f1.cell 0).trans rfl⟩
    have HC2 : Hid (∀ w' : World, Own E w' (Hp.blk (w.heap.size + 1 + 1) CLT (clientC ⟨#[]⟩ false false dh od ut none 0 0 ii ab gr li).toArray :: Hp.blk (w.heap.size + 1 + 1 + 1) 3 #[.int .i64 fg] :: Hp.blk (w.heap.size + 1 + 1 + 1 + 1) 9 #[.string sT] :: Hp.blk (w.heap.size + 1) CLT (clientC ⟨#[]⟩ false false ⟨#[]⟩ ⟨#[]⟩ 0 none 0 0 0 0 0 0).toArray :: Hp.blk w.heap.size ITT #[.string k, .string v] :: L) → w'.cell? ⟨w.heap.size, 0, none⟩ = some (.string k) ∧ w'.cell? ⟨w.heap.size, 1, none⟩ = some (.string v)) := Lib.hid fun w' h => ⟨(h.f4.cell 0).trans rfl, (h.f4.cell 1).trans rfl⟩
    have HNX := Lib.hid hn
    clear hr hG hM hk hv hT hxs hn
    go_enter Tryz.func42, Tryz.ntmps42
    go_wp2_with fail
    have h := H3.out.drew
    clear H3
    refine wp_region_text [1, 6] (fun w' => w'.cell? ⟨w.heap.size, 0, none⟩ = some (.string k) ∧ w'.cell? ⟨w.heap.size, 1, none⟩ = some (.string v)) (by kernel_rfl) ?_ (fun hS => ?_)
    · exact HC0.out _ h
    refine wpAnyG_pure (i := 0) (oi := ⟨some 9, _, _, _, _, _⟩) (v := ?_) rfl (by kernel_rfl) (by kernel_rfl) (by kernel_rfl) (by rfl) (fun _ _ _ h => h) (by rfl) ?_ ?_
    rotate_left
    · intro w
      go_simp
      first | done | with_reducible rfl
    try simp only [Act.put, List.setIfInBounds_toArray, List.set_cons_zero, List.set_cons_succ]
    refine wpAnyG_load (i := 1) (oi := ⟨some 10, _, _, _, _, _⟩) (v := ?_) rfl (by kernel_rfl) (by kernel_rfl) (by kernel_rfl) (by rfl) (fun _ _ _ h => h) (by rfl) ?_ (by assumption) ?_
    rotate_left
    · intro w hS
      try dsimp only at hS
      go_simp
      first | done | with_reducible rfl
    try simp only [Act.put, List.setIfInBounds_toArray, List.set_cons_zero, List.set_cons_succ]
    refine wpAnyG_pure (i := 2) (oi := ⟨some 11, _, _, _, _, _⟩) (v := ?_) rfl (by kernel_rfl) (by kernel_rfl) (by kernel_rfl) (by rfl) (fun _ _ _ h => h) (by rfl) ?_ ?_
    rotate_left
    · intro w
      go_simp
      first | done | with_reducible rfl
    try simp only [Act.put, List.setIfInBounds_toArray, List.set_cons_zero, List.set_cons_succ]
    refine wpAnyG_pure (i := 3) (oi := ⟨some 12, _, _, _, _, _⟩) (v := ?_) rfl (by kernel_rfl) (by kernel_rfl) (by kernel_rfl) (by rfl) (fun _ _ _ h => h) (by rfl) ?_ ?_
    rotate_left
    · intro w
      go_simp
      first | done | with_reducible rfl
    try simp only [Act.put, List.setIfInBounds_toArray, List.set_cons_zero, List.set_cons_succ]
    refine wpAnyG_pure (i := 5) (oi := ⟨some 14, _, _, _, _, _⟩) (v := ?_) rfl (by kernel_rfl) (by kernel_rfl) (by kernel_rfl) (by rfl) (fun _ _ _ h => h) (by rfl) ?_ ?_
    rotate_left
    · intro w
      go_simp
      first | done | with_reducible rfl
    try simp only [Act.put, List.setIfInBounds_toArray, List.set_cons_zero, List.set_cons_succ]
    refine wpAnyG_load (i := 6) (oi := ⟨some 15, _, _, _, _, _⟩) (v := ?_) rfl (by kernel_rfl) (by kernel_rfl) (by kernel_rfl) (by rfl) (fun _ _ _ h => h) (by rfl) ?_ (by assumption) ?_
    rotate_left
    · intro w hS
      try dsimp only at hS
      go_simp
      first | done | with_reducible rfl
    try simp only [Act.put, List.setIfInBounds_toArray, List.set_cons_zero, List.set_cons_succ]
    refine wpAnyG_keep (i := 4) (oi := ⟨some 13, _, _, _, _, _⟩) (by kernel_rfl) rfl (fun K hK => ?_)
    rw [if_pos (by rfl)]
    go_simp
    refine (clientfields_any _ _ _ _ h).mono ?_
    clear h
    rintro ev w2 ⟨bb, rfl, h⟩
    refine hK.out _ _ ?_ (fun hS => ?_)
    · exact HC0.out _ h.drop
    clear hK K
    try simp only [Act.put, List.setIfInBounds_toArray, List.set_cons_zero, List.set_cons_succ]
    refine wpAnyG_keep (i := 7) (oi := ⟨some 16, _, _, _, _, _⟩) (by kernel_rfl) rfl (fun K hK => ?_)
    rw [if_pos (by rfl)]
    go_simp
    refine (KR.out _ _ h).mono ?_
    clear h
    rintro ev w2 ⟨rfl, h⟩
    refine hK.out _ _ ?_ (fun hS => ?_)
    · exact HC2.out _ h
    clear hK K
    try simp only [Act.put, List.setIfInBounds_toArray, List.set_cons_zero, List.set_cons_succ]
    refine wpAnyG_pure (i := 8) (oi := ⟨some 17, _, _, _, _, _⟩) (v := ?_) rfl (by kernel_rfl) (by kernel_rfl) (by kernel_rfl) (by rfl) (fun _ _ _ h => h) (by rfl) ?_ ?_
    rotate_left
    · intro w
      go_simp
      first | done | with_reducible rfl
    try simp only [Act.put, List.setIfInBounds_toArray, List.set_cons_zero, List.set_cons_succ]
    refine wpAnyG_pure (i := 9) (oi := ⟨some 18, _, _, _, _, _⟩) (v := ?_) rfl (by kernel_rfl) (by kernel_rfl) (by kernel_rfl) (by rfl) (fun _ _ _ h => h) (by rfl) ?_ ?_
    rotate_left
    · intro w
      go_simp
      first | done | with_reducible rfl
    try simp only [Act.put, List.setIfInBounds_toArray, List.set_cons_zero, List.set_cons_succ]
    refine wpAnyG_done (by kernel_rfl) ?_ _
    refine NoPanic.normal ?_
    cases ok with
    | false =>
      have HN : Hid (∀ f : ClientV, f.R ≠ (k, v, 0)) := Lib.hid fun f hf => by
        have := (HNO.out f hf).1
        cases this
      have H3 := Lib.hid h.f3
      clear h
      go_wp2_with (with_reducible refine at_slot (k := none) ?_; refine wpList_store_whole (o := ⟨none, _, _, _, _, _⟩) (cs := (clientC ⟨#[]⟩ false false ⟨#[]⟩ ⟨#[]⟩ 0 none 0 0 0 0 0 0)) (vs := (clientC ⟨#[]⟩ false false ⟨#[]⟩ ⟨#[]⟩ 0 none 0 0 0 0 0 0)) H3.out rfl (client_one _ _ _ _ _ _ _ _ _ _ _ _ _) (by kernel_rfl) rfl rfl rfl rfl ?_; clear H3; intro w7 h; have H8 := Lib.hid h; clear h)
      refine bodyPost_ret (results_ct rfl rfl H8.out hd hrow (by kernel_rfl)) rfl ?_
      exact .inr ⟨rfl, HN.out, H8.out.drop.drop.drop.drop.drop⟩
    | true =>
      have H3 := Lib.hid h
      clear h
      go_wp2_with fail
      have h := H3.out
      have ho0 : _ = some (Value.string ⟨#[]⟩) := (H3.out.cell 0).trans rfl
      have ho1 : _ = some (Value.bool false) := (H3.out.cell 1).trans rfl
      have ho2 : _ = some (Value.bool false) := (H3.out.cell 2).trans rfl
      have cf : _ = some (Value.string sT) := (H3.out.f2.cell 0).trans rfl
      have hfz0 := H3.out.frozen 0
      have hfz1 := H3.out.frozen 1
      have hfz2 := H3.out.frozen 2
      clear H3
      refine wp_region_text [1, 3, 6] (fun w' => w'.cell? ⟨w.heap.size, 0, none⟩ = some (.string k) ∧ w'.cell? ⟨w.heap.size + 1 + 1 + 1, 0, none⟩ = some (.int .i64 fg)) (by kernel_rfl) ?_ (fun hS => ?_)
      · exact HC1.out _ h.drew
      refine wpAnyG_pure (i := 0) (oi := ⟨some 20, _, _, _, _, _⟩) (v := ?_) rfl (by kernel_rfl) (by kernel_rfl) (by kernel_rfl) (by rfl) (fun _ _ _ h => h) (by rfl) ?_ ?_
      rotate_left
      · intro w
        go_simp
        first | done | with_reducible rfl
      try simp only [Act.put, List.setIfInBounds_toArray, List.set_cons_zero, List.set_cons_succ]
      refine wpAnyG_load (i := 1) (oi := ⟨some 21, _, _, _, _, _⟩) (v := ?_) rfl (by kernel_rfl) (by kernel_rfl) (by kernel_rfl) (by rfl) (fun _ _ _ h => h) (by rfl) ?_ (by assumption) ?_
      rotate_left
      · intro w hS
        try dsimp only at hS
        go_simp
        first | done | with_reducible rfl
      try simp only [Act.put, List.setIfInBounds_toArray, List.set_cons_zero, List.set_cons_succ]
      refine wpAnyG_pure (i := 2) (oi := ⟨some 22, _, _, _, _, _⟩) (v := (.string (restB k 1))) rfl (by kernel_rfl) (by kernel_rfl) (by kernel_rfl) (by rfl) (fun _ _ _ h => h) (by rfl) ?_ ?_
      · intro w
        go_simp; first | done | rfl
      try simp only [Act.put, List.setIfInBounds_toArray, List.set_cons_zero, List.set_cons_succ]
      refine wpAnyG_load (i := 3) (oi := ⟨some 23, _, _, _, _, _⟩) (v := ?_) rfl (by kernel_rfl) (by kernel_rfl) (by kernel_rfl) (by rfl) (fun _ _ _ h => h) (by rfl) ?_ (by assumption) ?_
      rotate_left
      · intro w hS
        try dsimp only at hS
        go_simp
        first | done | with_reducible rfl
      try simp only [Act.put, List.setIfInBounds_toArray, List.set_cons_zero, List.set_cons_succ]
      refine wpAnyG_pure (i := 4) (oi := ⟨some 24, _, _, _, _, _⟩) (v := ?_) rfl (by kernel_rfl) (by kernel_rfl) (by kernel_rfl) (by rfl) (fun _ _ _ h => h) (by rfl) ?_ ?_
      rotate_left
      · intro w
        go_simp
        first | done | with_reducible rfl
      try simp only [Act.put, List.setIfInBounds_toArray, List.set_cons_zero, List.set_cons_succ]
      refine wpAnyG_pure (i := 5) (oi := ⟨some 25, _, _, _, _, _⟩) (v := (.bool pu)) rfl (by kernel_rfl) (by kernel_rfl) (by kernel_rfl) (by rfl) (fun _ _ _ h => h) (by rfl) ?_ ?_
      · intro w
        go_simp; first | done | rw [hpu]
      try simp only [Act.put, List.setIfInBounds_toArray, List.set_cons_zero, List.set_cons_succ]
      refine wpAnyG_load (i := 6) (oi := ⟨some 26, _, _, _, _, _⟩) (v := ?_) rfl (by kernel_rfl) (by kernel_rfl) (by kernel_rfl) (by rfl) (fun _ _ _ h => h) (by rfl) ?_ (by assumption) ?_
      rotate_left
      · intro w hS
        try dsimp only at hS
        go_simp
        first | done | with_reducible rfl
      try simp only [Act.put, List.setIfInBounds_toArray, List.set_cons_zero, List.set_cons_succ]
      refine wpAnyG_pure (i := 7) (oi := ⟨some 27, _, _, _, _, _⟩) (v := ?_) rfl (by kernel_rfl) (by kernel_rfl) (by kernel_rfl) (by rfl) (fun _ _ _ h => h) (by rfl) ?_ ?_
      rotate_left
      · intro w
        go_simp
        first | done | with_reducible rfl
      try simp only [Act.put, List.setIfInBounds_toArray, List.set_cons_zero, List.set_cons_succ]
      refine wpAnyG_pure (i := 8) (oi := ⟨some 28, _, _, _, _, _⟩) (v := (.bool sw)) rfl (by kernel_rfl) (by kernel_rfl) (by kernel_rfl) (by rfl) (fun _ _ _ h => h) (by rfl) ?_ ?_
      · intro w
        go_simp; first | done | rw [hsw]
      try simp only [Act.put, List.setIfInBounds_toArray, List.set_cons_zero, List.set_cons_succ]
      refine wpAnyG_pure (i := 9) (oi := ⟨some 29, _, _, _, _, _⟩) (v := ?_) rfl (by kernel_rfl) (by kernel_rfl) (by kernel_rfl) (by rfl) (fun _ _ _ h => h) (by rfl) ?_ ?_
      rotate_left
      · intro w
        go_simp
        first | done | with_reducible rfl
      try simp only [Act.put, List.setIfInBounds_toArray, List.set_cons_zero, List.set_cons_succ]
      refine wpAnyG_break (i := 10) (oi := ⟨none, _, _, _, _, _⟩) (by kernel_rfl) rfl (by kernel_rfl) (fun K hK => ?_)
      rw [if_pos (by rfl)]
      obtain ⟨-, -, hs⟩ := h.put1 0 (.string (restB k 1)) (show (0 : Nat) < 11 by omega)
      clear h
      have h := hs
      clear hs
      go_simp
      refine hK.out _ _ ?_
      clear hK K
      try simp only [Act.put]
      refine wpAnyG_pure (i := 11) (oi := ⟨some 30, _, _, _, _, _⟩) (v := ?_) rfl (by kernel_rfl) (by kernel_rfl) (by kernel_rfl) (by rfl) (fun _ _ _ h => h) (by rfl) ?_ ?_
      rotate_left
      · intro w
        go_simp
        first | done | with_reducible rfl
      try simp only [Act.put, List.setIfInBounds_toArray, List.set_cons_zero, List.set_cons_succ]
      refine wpAnyG_break (i := 12) (oi := ⟨none, _, _, _, _, _⟩) (by kernel_rfl) rfl (by kernel_rfl) (fun K hK => ?_)
      rw [if_pos (by rfl)]
      obtain ⟨-, -, hs⟩ := h.put1 1 (.bool pu) (show (1 : Nat) < 11 by omega)
      clear h
      have h := hs
      clear hs
      go_simp
      refine hK.out _ _ ?_
      clear hK K
      try simp only [Act.put]
      refine wpAnyG_pure (i := 13) (oi := ⟨some 31, _, _, _, _, _⟩) (v := ?_) rfl (by kernel_rfl) (by kernel_rfl) (by kernel_rfl) (by rfl) (fun _ _ _ h => h) (by rfl) ?_ ?_
      rotate_left
      · intro w
        go_simp
        first | done | with_reducible rfl
      try simp only [Act.put, List.setIfInBounds_toArray, List.set_cons_zero, List.set_cons_succ]
      refine wpAnyG_break (i := 14) (oi := ⟨none, _, _, _, _, _⟩) (by kernel_rfl) rfl (by kernel_rfl) (fun K hK => ?_)
      rw [if_pos (by rfl)]
      obtain ⟨-, -, hs⟩ := h.put1 2 (.bool sw) (show (2 : Nat) < 11 by omega)
      clear h
      have h := hs
      clear hs
      go_simp
      refine hK.out _ _ ?_
      clear hK K
      try simp only [Act.put]
      refine wpAnyG_done (by kernel_rfl) ?_ _
      refine NoPanic.normal ?_
      clear ho0 ho1 ho2 hfz0 hfz1 hfz2
      have h : Own E _ (Hp.blk (w.heap.size + 1 + 1) CLT (clientC (restB k 1) pu sw dh od ut none 0 0 ii ab gr li).toArray :: Hp.blk (w.heap.size + 1 + 1 + 1) 3 #[.int .i64 fg] :: Hp.blk (w.heap.size + 1 + 1 + 1 + 1) 9 #[.string sT] :: Hp.blk (w.heap.size + 1) CLT (clientC ⟨#[]⟩ false false ⟨#[]⟩ ⟨#[]⟩ 0 none 0 0 0 0 0 0).toArray :: Hp.blk w.heap.size ITT #[.string k, .string v] :: L) := h
      have H3 : Hid (Own E _ (Hp.blk (w.heap.size + 1 + 1) CLT (clientC (restB k 1) pu sw dh od ut none 0 0 ii ab gr li).toArray :: Hp.blk (w.heap.size + 1 + 1 + 1 + 1) 9 #[.string sT] :: Hp.blk (w.heap.size + 1) CLT (clientC ⟨#[]⟩ false false ⟨#[]⟩ ⟨#[]⟩ 0 none 0 0 0 0 0 0).toArray :: Hp.blk w.heap.size ITT #[.string k, .string v] :: L)) := Lib.hid h.drew.f1.drop
      clear h
      obtain ⟨x1, x2, er, hpr⟩ : ∃ x1 x2 er, (clientR (restB k 1) pu sw dh od ut xs ii ab gr li) = (x1, x2, er) := ⟨_, _, _, rfl⟩
      rw [hpr] at HPR HNO
      have HRR := Lib.hid hpr
      clear hpr
      by_cases he : er = 0
      · subst he
        by_cases hx : x1 = k ∧ x2 = v
        · have HY : Hid ((⟨(restB k 1), pu, sw, dh, od, ut, xs, ii, ab, gr, li⟩ : ClientV).R = (k, v, 0)) := Lib.hid (by
            show (clientR (restB k 1) pu sw dh od ut xs ii ab gr li) = _
            rw [HRR.out, hx.1, hx.2])
          have hq : ∀ w, (binOp .neq ITT (.agg #[.string x1, .string x2]) (.agg #[.string k, .string v])).run Tryz.prog w = .ok (.bool false) w := fun w => by rw [run_pair, decide_eq_true hx]; rfl
          clear hx HRR HNO
          go_wp2_with (first
            | ((with_reducible refine (KNM.out _ H3.out).mono ?_); clear H3; rintro ev w3 ⟨A, cc, bb, rfl, h⟩; obtain ⟨⟨old2, ho2⟩, hf2, hs⟩ := h.f1.put1 6 (.slice A n cc) (show (6 : Nat) < 11 by omega); have H3 : Hid (Own E _ (Hp.blk (w.heap.size + 1 + 1) CLT (clientC (restB k 1) pu sw dh od ut A n cc ii ab gr li).toArray :: Hp.lst ST (.slice A n cc) (xs.map Value.string) :: Hp.blk (w.heap.size + 1 + 1 + 1 + 1) 9 #[.string sT] :: Hp.blk (w.heap.size + 1) CLT (clientC ⟨#[]⟩ false false ⟨#[]⟩ ⟨#[]⟩ 0 none 0 0 0 0 0 0).toArray :: Hp.blk w.heap.size ITT #[.string k, .string v] :: L)) := Lib.hid hs; clear h hs)
            | (with_reducible refine at_slot (k := some 39) ?_; refine wpList_load_arr (o := ⟨some 39, _, _, _, _, _⟩) H3.out 0 (clientC (restB k 1) pu sw dh od ut A n cc ii ab gr li) (fun jj u hu => by simpa using hu) hd hrow (by kernel_rfl) rfl rfl rfl ?_)
            | (with_reducible refine (HPR.out _ _ _ H3.out).mono ?_; clear H3; rintro ev w2 ⟨rfl, h⟩; have H3 := Lib.hid (h.alloc (.cells #[.string x1, .string x2] ITT)); clear h; have p0 := H3.out.f5.cell 0; have p1 := H3.out.f5.cell 1; simp only [List.getElem?_toArray, List.getElem?_cons_zero, List.getElem?_cons_succ] at p0 p1)
            | (with_reducible refine at_slot (k := some 51) ?_; refine wpList_load_arr (o := ⟨some 51, _, _, _, _, _⟩) H3.out.f1 0 (clientC (restB k 1) pu sw dh od ut A n cc ii ab gr li) (fun jj u hu => by simpa using hu) hd hrow (by kernel_rfl) rfl rfl rfl ?_)
            | (with_reducible refine at_slot (k := none) ?_; refine wpList_store_whole (o := ⟨none, _, _, _, _, _⟩) (cs := (clientC ⟨#[]⟩ false false ⟨#[]⟩ ⟨#[]⟩ 0 none 0 0 0 0 0 0)) (vs := (clientC (restB k 1) pu sw dh od ut A n cc ii ab gr li)) H3.out.f4 rfl (client_one _ _ _ _ _ _ _ _ _ _ _ _ _) (by kernel_rfl) rfl rfl rfl rfl ?_; clear H3; intro w7 h; have H8 := Lib.hid h; clear h))
          refine bodyPost_ret (results_ct rfl rfl H8.out hd hrow (by kernel_rfl)) rfl ?_
          obtain rfl := HNX.out
          exact .inl ⟨⟨(restB k 1), pu, sw, dh, od, ut, xs, ii, ab, gr, li⟩, A, cc, rfl, HY.out, H8.out.drop.drop.drop.f1.drop.f1.drop⟩
        · have HN : Hid (∀ f : ClientV, f.R ≠ (k, v, 0)) := Lib.hid fun f hf => by
            have := (HNO.out f hf).2
            injection this with a b
            injection b with b c
            exact hx ⟨a, b⟩
          have hq : ∀ w, (binOp .neq ITT (.agg #[.string x1, .string x2]) (.agg #[.string k, .string v])).run Tryz.prog w = .ok (.bool true) w := fun w => by rw [run_pair, decide_eq_false hx]; rfl
          clear hx HRR HNO
          go_wp2_with (first
            | ((with_reducible refine (KNM.out _ H3.out).mono ?_); clear H3; rintro ev w3 ⟨A, cc, bb, rfl, h⟩; obtain ⟨⟨old2, ho2⟩, hf2, hs⟩ := h.f1.put1 6 (.slice A n cc) (show (6 : Nat) < 11 by omega); have H3 : Hid (Own E _ (Hp.blk (w.heap.size + 1 + 1) CLT (clientC (restB k 1) pu sw dh od ut A n cc ii ab gr li).toArray :: Hp.lst ST (.slice A n cc) (xs.map Value.string) :: Hp.blk (w.heap.size + 1 + 1 + 1 + 1) 9 #[.string sT] :: Hp.blk (w.heap.size + 1) CLT (clientC ⟨#[]⟩ false false ⟨#[]⟩ ⟨#[]⟩ 0 none 0 0 0 0 0 0).toArray :: Hp.blk w.heap.size ITT #[.string k, .string v] :: L)) := Lib.hid hs; clear h hs)
            | (with_reducible refine at_slot (k := some 39) ?_; refine wpList_load_arr (o := ⟨some 39, _, _, _, _, _⟩) H3.out 0 (clientC (restB k 1) pu sw dh od ut A n cc ii ab gr li) (fun jj u hu => by simpa using hu) hd hrow (by kernel_rfl) rfl rfl rfl ?_)
            | (with_reducible refine (HPR.out _ _ _ H3.out).mono ?_; clear H3; rintro ev w2 ⟨rfl, h⟩; have H3 := Lib.hid (h.alloc (.cells #[.string x1, .string x2] ITT)); clear h; have p0 := H3.out.f5.cell 0; have p1 := H3.out.f5.cell 1; simp only [List.getElem?_toArray, List.getElem?_cons_zero, List.getElem?_cons_succ] at p0 p1)
            | (with_reducible refine at_slot (k := some 51) ?_; refine wpList_load_arr (o := ⟨some 51, _, _, _, _, _⟩) H3.out.f1 0 (clientC (restB k 1) pu sw dh od ut A n cc ii ab gr li) (fun jj u hu => by simpa using hu) hd hrow (by kernel_rfl) rfl rfl rfl ?_)
            | (with_reducible refine at_slot (k := none) ?_; refine wpList_store_whole (o := ⟨none, _, _, _, _, _⟩) (cs := (clientC ⟨#[]⟩ false false ⟨#[]⟩ ⟨#[]⟩ 0 none 0 0 0 0 0 0)) (vs := (clientC ⟨#[]⟩ false false ⟨#[]⟩ ⟨#[]⟩ 0 none 0 0 0 0 0 0)) H3.out.f4 rfl (client_one _ _ _ _ _ _ _ _ _ _ _ _ _) (by kernel_rfl) rfl rfl rfl rfl ?_; clear H3; intro w7 h; have H8 := Lib.hid h; clear h))
          refine bodyPost_ret (results_ct rfl rfl H8.out hd hrow (by kernel_rfl)) rfl ?_
          exact .inr ⟨rfl, HN.out, H8.out.drop.drop.drop.drop.drop.drop⟩
      · have HN : Hid (∀ f : ClientV, f.R ≠ (k, v, 0)) := Lib.hid fun f hf => by
          have := (HNO.out f hf).2
          injection this with a b
          injection b with b c
          exact he c
        have hz : (er != 0) = true := by rw [bne_iff_ne]; exact he
        clear he HRR HNO
        go_wp2_with (first
          | ((with_reducible refine (KNM.out _ H3.out).mono ?_); clear H3; rintro ev w3 ⟨A, cc, bb, rfl, h⟩; obtain ⟨⟨old2, ho2⟩, hf2, hs⟩ := h.f1.put1 6 (.slice A n cc) (show (6 : Nat) < 11 by omega); have H3 : Hid (Own E _ (Hp.blk (w.heap.size + 1 + 1) CLT (clientC (restB k 1) pu sw dh od ut A n cc ii ab gr li).toArray :: Hp.lst ST (.slice A n cc) (xs.map Value.string) :: Hp.blk (w.heap.size + 1 + 1 + 1 + 1) 9 #[.string sT] :: Hp.blk (w.heap.size + 1) CLT (clientC ⟨#[]⟩ false false ⟨#[]⟩ ⟨#[]⟩ 0 none 0 0 0 0 0 0).toArray :: Hp.blk w.heap.size ITT #[.string k, .string v] :: L)) := Lib.hid hs; clear h hs)
          | (with_reducible refine at_slot (k := some 39) ?_; refine wpList_load_arr (o := ⟨some 39, _, _, _, _, _⟩) H3.out 0 (clientC (restB k 1) pu sw dh od ut A n cc ii ab gr li) (fun jj u hu => by simpa using hu) hd hrow (by kernel_rfl) rfl rfl rfl ?_)
          | (with_reducible refine (HPR.out _ _ _ H3.out).mono ?_; clear H3; rintro ev w2 ⟨rfl, h⟩; have H3 := Lib.hid (h.alloc (.cells #[.string x1, .string x2] ITT)); clear h; have p0 := H3.out.f5.cell 0; have p1 := H3.out.f5.cell 1; simp only [List.getElem?_toArray, List.getElem?_cons_zero, List.getElem?_cons_succ] at p0 p1)
          | (with_reducible refine at_slot (k := some 51) ?_; refine wpList_load_arr (o := ⟨some 51, _, _, _, _, _⟩) H3.out.f1 0 (clientC (restB k 1) pu sw dh od ut A n cc ii ab gr li) (fun jj u hu => by simpa using hu) hd hrow (by kernel_rfl) rfl rfl rfl ?_)
          | (with_reducible refine at_slot (k := none) ?_; refine wpList_store_whole (o := ⟨none, _, _, _, _, _⟩) (cs := (clientC ⟨#[]⟩ false false ⟨#[]⟩ ⟨#[]⟩ 0 none 0 0 0 0 0 0)) (vs := (clientC ⟨#[]⟩ false false ⟨#[]⟩ ⟨#[]⟩ 0 none 0 0 0 0 0 0)) H3.out.f4 rfl (client_one _ _ _ _ _ _ _ _ _ _ _ _ _) (by kernel_rfl) rfl rfl rfl rfl ?_; clear H3; intro w7 h; have H8 := Lib.hid h; clear h))
        refine bodyPost_ret (results_ct rfl rfl H8.out hd hrow (by kernel_rfl)) rfl ?_
        exact .inr ⟨rfl, HN.out, H8.out.drop.drop.drop.drop.drop.drop⟩
end
end Go.Proofs.YtabibfabieghpaaGreatDoor
