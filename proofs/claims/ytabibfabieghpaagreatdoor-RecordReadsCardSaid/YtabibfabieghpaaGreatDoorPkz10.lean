/- record.OfFamily, of a family that may be (printed by gen_offam.py). The reference's Nearest, Add, End, ends, subjects (printed by gen_xend.py). A code's cells; record.codeMay (printed by gen_cd.py). The code's fields; record.PrintCode (printed by gen_cd.py). -/
import Derived.Test.YtabibfabieghpaaGreatDoorPkz0
import Derived.Test.YtabibfabieghpaaGreatDoorPkEnd
import Derived.Test.YtabibfabieghpaaGreatDoorPkz8
import Derived.Test.YtabibfabieghpaaGreatDoorPkPaFam
namespace Go.Proofs.YtabibfabieghpaaGreatDoor
open Go.RowKit
abbrev PST : TypeId := 58
def enP (x : ByteArray × ByteArray) : List Value := [.string x.1, .string x.2]
def exFs (eb tb : Nat) : List (Fk × Addr) := [(.num 6, ⟨eb, 0, none⟩), (.num 8, ⟨tb, 0, none⟩)]
def exFl (eb tb : Nat) (b c : Int) : List Fld := [(.num 6, ⟨eb, 0, none⟩, .n b), (.num 8, ⟨tb, 0, none⟩, .n c)]
/-- The two entries of a family. -/
def exK (fin id : Int) : ByteArray := ⟨(120 :: (byN 6 fin.toNat ++ byN 8 id.toNat)).toArray⟩
def suK (su : ByteArray) (id : Int) : ByteArray := ⟨(115 :: (su.data.toList ++ 0 :: byN 8 id.toNat)).toArray⟩
section
variable {E : World} {S : Ph} {L : List Hp}
end
end Go.Proofs.YtabibfabieghpaaGreatDoor
namespace Go.Proofs.YtabibfabieghpaaGreatDoor
open Go.RowKit
section
variable {E : World} {L : List Hp}
end
end Go.Proofs.YtabibfabieghpaaGreatDoor
namespace Go.Proofs.YtabibfabieghpaaGreatDoor
open Go.RowKit
abbrev CDT : TypeId := 66
def codeC (id : Int) (cl su : ByteArray) (A : Option Addr) (n c : Nat) (hs ch : ByteArray) (un st fa : Int) : List Value := [.int .i64 id, .string cl, .string su, .slice A n c, .string hs, .string ch, .int .i64 un, .int .i64 st, .int .i64 fa]
def codeMay (id : Int) (cl su : ByteArray) (xs : List ByteArray) (hs ch : ByteArray) (un st fa : Int) : Prop := (1 ≤ id ∧ id ≤ 4611686018427387904) ∧ nameB cl = true ∧ nameB su = true ∧ scErr xs = 0 ∧ hs.size = 32 ∧ ch.size = 32 ∧ (0 ≤ un ∧ un ≤ 1099511627776) ∧ ((st = 1 ∧ fa = 0) ∨ (st = 2 ∧ (1 ≤ fa ∧ fa ≤ 4611686018427387904)))
instance (id : Int) (cl su : ByteArray) (xs : List ByteArray) (hs ch : ByteArray) (un st fa : Int) : Decidable (codeMay id cl su xs hs ch un st fa) := by unfold codeMay; exact inferInstance
section
variable {E : World} {S : Ph} {L : List Hp}
theorem code_cells {w : World} {b : Nat} (id : Int) (cl su : ByteArray) (A : Option Addr) (n c : Nat) (hs ch : ByteArray) (un st fa : Int) (h : Own E w (Hp.blk b CDT (codeC id cl su A n c hs ch un st fa).toArray :: L)) :
    w.cell? ⟨b, 0, none⟩ = some (.int .i64 id) ∧ w.cell? ⟨b, 1, none⟩ = some (.string cl) ∧ w.cell? ⟨b, 2, none⟩ = some (.string su) ∧ w.cell? ⟨b, 3, none⟩ = some (.slice A n c) ∧ w.cell? ⟨b, 4, none⟩ = some (.string hs) ∧ w.cell? ⟨b, 5, none⟩ = some (.string ch) ∧ w.cell? ⟨b, 6, none⟩ = some (.int .i64 un) ∧ w.cell? ⟨b, 7, none⟩ = some (.int .i64 st) ∧ w.cell? ⟨b, 8, none⟩ = some (.int .i64 fa) := by
  refine ⟨(h.cell 0).trans rfl, (h.cell 1).trans rfl, (h.cell 2).trans rfl, (h.cell 3).trans rfl, (h.cell 4).trans rfl, (h.cell 5).trans rfl, (h.cell 6).trans rfl, (h.cell 7).trans rfl, (h.cell 8).trans rfl⟩
set_option maxRecDepth 20000 in
set_option maxHeartbeats 8000000 in
theorem codemay_any (id : Int) (cl su : ByteArray) (A : Option Addr) (n c : Nat) (hs ch : ByteArray) (un st fa : Int) (xs : List ByteArray) (w : World) (hr : Rds S 1 enStr A n xs) (hnc : n ≤ c) (hn43 : n ≤ 8796093022208) (h : Own E w (Hp.ro S :: L)) :
    Calls Tryz.prog 89 #[.agg (codeC id cl su A n c hs ch un st fa).toArray] w fun ev w' => ev = .returned (.bool (decide (codeMay id cl su xs hs ch un st fa))) ∧ Own E w' (Hp.ro S :: L) := by
  have H1 := Lib.hid (show Own E _ (Hp.blk w.heap.size CDT (codeC id cl su A n c hs ch un st fa).toArray :: Hp.ro S :: L) from h.alloc (.cells (codeC id cl su A n c hs ch un st fa).toArray CDT))
  obtain ⟨n1, hn1⟩ : ∃ nv : Int, nameB cl = decide (nv = 1) := ⟨if nameB cl then 1 else 0, by cases nameB cl <;> rfl⟩
  obtain ⟨n2, hn2⟩ : ∃ nv : Int, nameB su = decide (nv = 1) := ⟨if nameB su then 1 else 0, by cases nameB su <;> rfl⟩
  obtain ⟨jn, hjn⟩ : ∃ jn : Int, fa = 0 ↔ jn = 1 := ⟨if fa = 0 then 1 else 0, by split <;> simp_all⟩
  obtain ⟨q1, hq1⟩ : ∃ q : Int, st = 1 ↔ q = 1 := ⟨if st = 1 then 1 else 0, by split <;> simp_all⟩
  obtain ⟨q2, hq2⟩ : ∃ q : Int, st = 2 ↔ q = 1 := ⟨if st = 2 then 1 else 0, by split <;> simp_all⟩
  have zj : (fa == 0) = decide (jn = 1) := by rw [Bool.eq_iff_iff, beq_iff_eq, decide_eq_true_eq, hjn]
  have z1 : (st == 1) = decide (q1 = 1) := by rw [Bool.eq_iff_iff, beq_iff_eq, decide_eq_true_eq, hq1]
  have z2 : (st == 2) = decide (q2 = 1) := by rw [Bool.eq_iff_iff, beq_iff_eq, decide_eq_true_eq, hq2]
  have KR := Lib.hid (fun (w3 : World) (h3 : Own E w3 (Hp.blk w.heap.size CDT (codeC id cl su A n c hs ch un st fa).toArray :: Hp.ro S :: L)) => right_any (E := E) (S := S) (L := Hp.blk w.heap.size CDT (codeC id cl su A n c hs ch un st fa).toArray :: L) A n c xs w3 hr hnc hn43 h3.f1)
  obtain ⟨sx, hsx⟩ : ∃ sx : Int, sx = scErr xs := ⟨_, rfl⟩
  rw [← hsx] at KR
  have K1 := Lib.hid (fun (w3 : World) (h3 : Own E w3 (Hp.blk w.heap.size CDT (codeC id cl su A n c hs ch un st fa).toArray :: Hp.ro S :: L)) => isname_any cl w3 h3)
  have K2 := Lib.hid (fun (w3 : World) (h3 : Own E w3 (Hp.blk w.heap.size CDT (codeC id cl su A n c hs ch un st fa).toArray :: Hp.ro S :: L)) => isname_any su w3 h3)
  rw [hn1] at K1
  rw [hn2] at K2
  have hiff : codeMay id cl su xs hs ch un st fa ↔ ((1 ≤ id ∧ id ≤ 4611686018427387904) ∧ n1 = 1 ∧ n2 = 1 ∧ sx = 0 ∧ hs.size = 32 ∧ ch.size = 32 ∧ (0 ≤ un ∧ un ≤ 1099511627776) ∧ ((q1 = 1 ∧ jn = 1) ∨ (q2 = 1 ∧ (1 ≤ fa ∧ fa ≤ 4611686018427387904)))) := by
    unfold codeMay
    rw [hn1, hn2, hjn, hq1, hq2, ← hsx, decide_eq_true_iff, decide_eq_true_iff]
  have HI := Lib.hid hiff
  have HX := Lib.hid (show ¬ (q1 = 1 ∧ q2 = 1) by rw [← hq1, ← hq2]; omega)
  have k1 := fun w => isid_any id w
  have k2 := fun w => istime_any un w
  have k3 := fun w => isdigest_any hs w
  have k4 := fun w => isdigest_any ch w
  have k5 := fun w => isid_any fa w
  clear h hiff hn1 hn2 hjn hq1 hq2 hsx hr
  go_enter Tryz.func89, Tryz.ntmps89
  obtain ⟨d0, d1, d2, d3, d4, d5, d6, d7, d8⟩ := code_cells id cl su A n c hs ch un st fa H1.out
  go_wp2_with (first
    | (with_reducible refine (k1 _).mono ?_; rintro ev w2 ⟨rfl, rfl⟩)
    | (with_reducible refine (k2 _).mono ?_; rintro ev w2 ⟨rfl, rfl⟩)
    | (with_reducible refine (k3 _).mono ?_; rintro ev w2 ⟨rfl, rfl⟩)
    | (with_reducible refine (k4 _).mono ?_; rintro ev w2 ⟨rfl, rfl⟩)
    | (with_reducible refine (k5 _).mono ?_; rintro ev w2 ⟨rfl, rfl⟩)
    | (with_reducible refine (K1.out _ H1.out).mono ?_; clear H1 d0 d1 d2 d3 d4 d5 d6 d7 d8; rintro ev w2 ⟨rfl, h⟩; have H1 := Lib.hid (show Own E w2 (Hp.blk w.heap.size CDT (codeC id cl su A n c hs ch un st fa).toArray :: Hp.ro S :: L) from h); clear h; obtain ⟨d0, d1, d2, d3, d4, d5, d6, d7, d8⟩ := code_cells id cl su A n c hs ch un st fa H1.out)
    | (with_reducible refine (K2.out _ H1.out).mono ?_; clear H1 d0 d1 d2 d3 d4 d5 d6 d7 d8; rintro ev w2 ⟨rfl, h⟩; have H1 := Lib.hid (show Own E w2 (Hp.blk w.heap.size CDT (codeC id cl su A n c hs ch un st fa).toArray :: Hp.ro S :: L) from h); clear h; obtain ⟨d0, d1, d2, d3, d4, d5, d6, d7, d8⟩ := code_cells id cl su A n c hs ch un st fa H1.out)
    | (with_reducible refine (KR.out _ H1.out).mono ?_; clear H1 d0 d1 d2 d3 d4 d5 d6 d7 d8; rintro ev w2 ⟨rfl, h⟩; have H1 := Lib.hid (show Own E w2 (Hp.blk w.heap.size CDT (codeC id cl su A n c hs ch un st fa).toArray :: Hp.ro S :: L) from h.f1); clear h; obtain ⟨d0, d1, d2, d3, d4, d5, d6, d7, d8⟩ := code_cells id cl su A n c hs ch un st fa H1.out))
  all_goals go_ret
  all_goals
    refine ⟨(show Ending.returned (Value.bool _) = Ending.returned (Value.bool _) from ret_bool ?_), H1.out.drop⟩
    rw [Bool.eq_iff_iff]
    refine Iff.trans ?_ (decide_eq_true_iff.trans HI.out).symm
    have hx := HX.out
    (first | omega | (simp <;> omega) | ((try simp only [Bool.not_eq_true'] at *); (try simp only [Bool.not_eq_false'] at *); (try simp only [decide_eq_true_eq] at *); (try simp only [decide_eq_false_iff_not] at *); (try simp only [bne_iff_ne] at *); (try simp only [ne_eq] at *); (try simp only [bne_eq_false_iff_eq] at *); first | omega | (simp <;> omega)))
end
end Go.Proofs.YtabibfabieghpaaGreatDoor
namespace Go.Proofs.YtabibfabieghpaaGreatDoor
open Go.RowKit
def codeFs (tb fb : Nat) : List (Fk × Addr) := [(.text, ⟨tb, 1, none⟩), (.text, ⟨tb, 2, none⟩), (.text, ⟨fb, 0, none⟩), (.raw 32, ⟨tb, 4, none⟩), (.raw 32, ⟨tb, 5, none⟩), (.num 6, ⟨tb, 6, none⟩), (.num 1, ⟨tb, 7, none⟩), (.num 8, ⟨tb, 8, none⟩)]
section
variable {E : World} {L : List Hp}
set_option maxRecDepth 20000 in
set_option maxHeartbeats 4000000 in
theorem codefields_any (tb fb : Nat) (w : World) (h : Own E w L) :
    Calls Tryz.prog 90 #[.pointer (some ⟨tb, 0, none⟩), .pointer (some ⟨fb, 0, none⟩)] w fun e w' => ∃ b, e = .returned (.slice (some ⟨b, 0, none⟩) 8 8) ∧ Own E w' (Hp.blk b FT ((codeFs tb fb).flatMap enF).toArray :: L) := by
  go_enter Tryz.func90, Tryz.ntmps90
  go_wp2_with fail
  refine wp_region_text [] (fun w => Own E w L) (by kernel_rfl) ?_ (fun hS => ?_)
  · exact h.drew
  refine gp 0 (some 5) ?_
  refine gp 1 (some 6) ?_
  refine gp 2 (some 7) ?_
  refine gp 4 (some 9) ?_
  refine gp 5 (some 10) ?_
  refine gp 6 (some 11) ?_
  refine gp 8 (some 13) ?_
  refine gp 10 (some 15) ?_
  refine gp 11 (some 16) ?_
  refine gp 12 (some 17) ?_
  refine gp 14 (some 19) ?_
  refine gp 15 (some 20) ?_
  refine gp 16 (some 21) ?_
  refine gp 18 (some 23) ?_
  refine gp 19 (some 24) ?_
  refine gp 20 (some 25) ?_
  refine gp 22 (some 27) ?_
  refine gp 23 (some 28) ?_
  refine gp 24 (some 29) ?_
  refine gp 26 (some 31) ?_
  refine gp 27 (some 32) ?_
  refine gp 28 (some 33) ?_
  refine gk 3 (some 8) (fun K hK => ?_)
  rw [if_pos (by rfl)]
  go_simp
  refine (ftext_any ⟨tb, 1, none⟩ _ hS).mono ?_
  clear hS
  rintro e w2 ⟨rfl, h⟩
  refine hK.out _ _ ?_ (fun hS => ?_)
  · exact h
  clear hK K
  try simp only [Act.put, List.setIfInBounds_toArray, List.set_cons_zero, List.set_cons_succ]
  refine gk 7 (some 12) (fun K hK => ?_)
  rw [if_pos (by rfl)]
  go_simp
  refine (ftext_any ⟨tb, 2, none⟩ _ hS).mono ?_
  clear hS
  rintro e w2 ⟨rfl, h⟩
  refine hK.out _ _ ?_ (fun hS => ?_)
  · exact h
  clear hK K
  try simp only [Act.put, List.setIfInBounds_toArray, List.set_cons_zero, List.set_cons_succ]
  refine gk 9 (some 14) (fun K hK => ?_)
  rw [if_pos (by rfl)]
  go_simp
  refine (ftext_any ⟨fb, 0, none⟩ _ hS).mono ?_
  clear hS
  rintro e w2 ⟨rfl, h⟩
  refine hK.out _ _ ?_ (fun hS => ?_)
  · exact h
  clear hK K
  try simp only [Act.put, List.setIfInBounds_toArray, List.set_cons_zero, List.set_cons_succ]
  refine gk 13 (some 18) (fun K hK => ?_)
  rw [if_pos (by rfl)]
  go_simp
  refine (fraw_any 32 ⟨tb, 4, none⟩ _ hS).mono ?_
  clear hS
  rintro e w2 ⟨rfl, h⟩
  refine hK.out _ _ ?_ (fun hS => ?_)
  · exact h
  clear hK K
  try simp only [Act.put, List.setIfInBounds_toArray, List.set_cons_zero, List.set_cons_succ]
  refine gk 17 (some 22) (fun K hK => ?_)
  rw [if_pos (by rfl)]
  go_simp
  refine (fraw_any 32 ⟨tb, 5, none⟩ _ hS).mono ?_
  clear hS
  rintro e w2 ⟨rfl, h⟩
  refine hK.out _ _ ?_ (fun hS => ?_)
  · exact h
  clear hK K
  try simp only [Act.put, List.setIfInBounds_toArray, List.set_cons_zero, List.set_cons_succ]
  refine gk 21 (some 26) (fun K hK => ?_)
  rw [if_pos (by rfl)]
  go_simp
  refine (fnum_any 6 ⟨tb, 6, none⟩ _ hS).mono ?_
  clear hS
  rintro e w2 ⟨rfl, h⟩
  refine hK.out _ _ ?_ (fun hS => ?_)
  · exact h
  clear hK K
  try simp only [Act.put, List.setIfInBounds_toArray, List.set_cons_zero, List.set_cons_succ]
  refine gk 25 (some 30) (fun K hK => ?_)
  rw [if_pos (by rfl)]
  go_simp
  refine (fnum_any 1 ⟨tb, 7, none⟩ _ hS).mono ?_
  clear hS
  rintro e w2 ⟨rfl, h⟩
  refine hK.out _ _ ?_ (fun hS => ?_)
  · exact h
  clear hK K
  try simp only [Act.put, List.setIfInBounds_toArray, List.set_cons_zero, List.set_cons_succ]
  refine gk 29 (some 34) (fun K hK => ?_)
  rw [if_pos (by rfl)]
  go_simp
  refine (fnum_any 8 ⟨tb, 8, none⟩ _ hS).mono ?_
  clear hS
  rintro e w2 ⟨rfl, h⟩
  refine hK.out _ _ ?_ (fun hS => ?_)
  · exact h
  clear hK K
  try simp only [Act.put, List.setIfInBounds_toArray, List.set_cons_zero, List.set_cons_succ]
  refine wpAnyG_break (i := 30) (oi := ⟨some 35, _, _, _, _, _⟩) (by kernel_rfl) rfl (by kernel_rfl) (fun K hK => ?_)
  rw [if_pos (by rfl)]
  refine wp_fields (codeFs tb fb) rfl rfl (by omega) (by omega) (by first | kernel_rfl | (simp [codeFs]; done) | (simp [codeFs]; rfl)) ?_
  have h := hS.alloc (.cells ((codeFs tb fb).flatMap enF).toArray FT)
  refine hK.out _ _ ?_
  clear hK K
  try simp only [Act.put, List.setIfInBounds_toArray, List.set_cons_zero, List.set_cons_succ]
  refine gp 31 (some 4) ?_
  refine wpAnyG_done (by kernel_rfl) ?_ _
  refine NoPanic.normal ?_
  go_wp2_with fail
  go_ret
  exact ⟨_, rfl, h⟩
end
def codeK (id : Int) : ByteArray := ⟨(97 :: byN 8 id.toNat).toArray⟩
def codeV (cl su sT hs ch : ByteArray) (un st fa : Int) : ByteArray := ⟨((byN 1 cl.size ++ cl.data.toList) ++ (byN 1 su.size ++ su.data.toList) ++ (byN 1 sT.size ++ sT.data.toList) ++ hs.data.toList ++ ch.data.toList ++ byN 6 un.toNat ++ byN 1 st.toNat ++ byN 8 fa.toNat).toArray⟩
def codeR (id : Int) (cl su : ByteArray) (xs : List ByteArray) (hs ch : ByteArray) (un st fa : Int) : ByteArray × ByteArray × Int := if codeMay id cl su xs hs ch un st fa then (codeK id, codeV cl su (scTxt xs) hs ch un st fa, 0) else (noB, noB, 140)
def codeFl (tb fb : Nat) (cl su sT hs ch : ByteArray) (un st fa : Int) : List Fld := [(.text, ⟨tb, 1, none⟩, .s cl), (.text, ⟨tb, 2, none⟩, .s su), (.text, ⟨fb, 0, none⟩, .s sT), (.raw 32, ⟨tb, 4, none⟩, .s hs), (.raw 32, ⟨tb, 5, none⟩, .s ch), (.num 6, ⟨tb, 6, none⟩, .n un), (.num 1, ⟨tb, 7, none⟩, .n st), (.num 8, ⟨tb, 8, none⟩, .n fa)]
def CodeIn (id : Int) (cl su sT hs ch : ByteArray) (un st fa : Int) : Prop := cl.size ≤ 16 ∧ su.size ≤ 16 ∧ sT.size ≤ 60 ∧ (1 ≤ id ∧ id ≤ 4611686018427387904) ∧ hs.size = 32 ∧ ch.size = 32 ∧ (0 ≤ un ∧ un ≤ 1099511627776) ∧ (0 ≤ st ∧ st ≤ 2) ∧ (0 ≤ fa ∧ fa ≤ 4611686018427387904)
theorem code_range {id : Int} {cl su : ByteArray} {xs : List ByteArray} {hs ch : ByteArray} {un st fa : Int} (h : codeMay id cl su xs hs ch un st fa) : CodeIn id cl su (scTxt xs) hs ch un st fa := by
  obtain ⟨c1, c2, c3, c4, c5, c6, c7, c8⟩ := h
  refine ⟨nm_size c2, nm_size c3, scTxt_size c4, ?_⟩
  omega
theorem code_fits (tb fb : Nat) {id : Int} {cl su sT hs ch : ByteArray} {un st fa : Int} (h : CodeIn id cl su sT hs ch un st fa) : ∀ x ∈ (codeFl tb fb cl su sT hs ch un st fa).map Fld.kv, fits1 x := by
  obtain ⟨r1, r2, r3, r0, e1, e2, c0, c1, c2⟩ := h
  intro x hx
  simp only [codeFl, List.map_cons, List.map_nil, List.mem_cons, List.not_mem_nil, or_false] at hx
  rcases hx with rfl | rfl | rfl | rfl | rfl | rfl | rfl | rfl
  · show cl.size ≤ 255
    omega
  · show su.size ≤ 255
    omega
  · show sT.size ≤ 255
    omega
  · show hs.size = 32
    omega
  · show ch.size = 32
    omega
  · exact ⟨by decide, by decide, by show (0 : Int) ≤ un; omega, by show un < (256 : Int) ^ 6; omega, by show un ≤ (9223372036854775807 : Int); omega⟩
  · exact ⟨by decide, by decide, by show (0 : Int) ≤ st; omega, by show st < (256 : Int) ^ 1; omega, by show st ≤ (9223372036854775807 : Int); omega⟩
  · exact ⟨by decide, by decide, by show (0 : Int) ≤ fa; omega, by show fa < (256 : Int) ^ 8; omega, by show fa ≤ (9223372036854775807 : Int); omega⟩
theorem code_printed (tb fb : Nat) {id : Int} {cl su sT hs ch : ByteArray} {un st fa : Int} (h : CodeIn id cl su sT hs ch un st fa) : printedV ((codeFl tb fb cl su sT hs ch un st fa).map Fld.kv) = codeV cl su sT hs ch un st fa := by
  rw [printed_fits (code_fits tb fb h)]
  refine bytes_ext _ _ ?_
  show (((byN 1 cl.size ++ cl.data.toList) ++ ((byN 1 su.size ++ su.data.toList) ++ ((byN 1 sT.size ++ sT.data.toList) ++ (hs.data.toList ++ (ch.data.toList ++ (byN 6 un.toNat ++ (byN 1 st.toNat ++ (byN 8 fa.toNat ++ []))))))))).toArray.toList = _
  simp
theorem code_ok (tb fb : Nat) {T : Ph} {id : Int} {cl su sT hs ch : ByteArray} {un st fa : Int} {A : Option Addr} {n c : Nat} (h : CodeIn id cl su sT hs ch un st fa) (ht : ∀ i v, (codeC id cl su A n c hs ch un st fa)[i]? = some v → T.cell ⟨tb, i, none⟩ = some v) (hf : T.cell ⟨fb, 0, none⟩ = some (.string sT)) : ∀ x ∈ codeFl tb fb cl su sT hs ch un st fa, FldOk T x := by
  obtain ⟨r1, r2, r3, r0, e1, e2, c0, c1, c2⟩ := h
  intro x hx
  simp only [codeFl, List.mem_cons, List.not_mem_nil, or_false] at hx
  rcases hx with rfl | rfl | rfl | rfl | rfl | rfl | rfl | rfl
  · exact ⟨trivial, ht 1 _ rfl, by show (0 : Int) ≤ _; omega, by show cl.size ≤ _; omega⟩
  · exact ⟨trivial, ht 2 _ rfl, by show (0 : Int) ≤ _; omega, by show su.size ≤ _; omega⟩
  · exact ⟨trivial, hf, by show (0 : Int) ≤ _; omega, by show sT.size ≤ _; omega⟩
  · exact ⟨trivial, ht 4 _ rfl, by show (0 : Int) ≤ _; omega, by show hs.size ≤ _; omega⟩
  · exact ⟨trivial, ht 5 _ rfl, by show (0 : Int) ≤ _; omega, by show ch.size ≤ _; omega⟩
  · exact ⟨trivial, ht 6 _ rfl, by show un ≤ (9223372036854775807 : Int); omega, by show (0 : Nat) ≤ _; omega⟩
  · exact ⟨trivial, ht 7 _ rfl, by show st ≤ (9223372036854775807 : Int); omega, by show (0 : Nat) ≤ _; omega⟩
  · exact ⟨trivial, ht 8 _ rfl, by show fa ≤ (9223372036854775807 : Int); omega, by show (0 : Nat) ≤ _; omega⟩
section
variable {E : World} {S : Ph} {L : List Hp}
set_option maxRecDepth 20000 in
set_option maxHeartbeats 8000000 in
theorem printcode_any (id : Int) (cl su : ByteArray) (A : Option Addr) (n c : Nat) (hs ch : ByteArray) (un st fa : Int) (xs : List ByteArray) (w : World) (hr : Rds S 1 enStr A n xs) (hnc : n ≤ c) (hn43 : n ≤ 8796093022208) (hG : Laid0 E (Hp.ro S :: L)) (h : Own E w (Hp.ro S :: L)) :
    Calls Tryz.prog 33 #[.agg (codeC id cl su A n c hs ch un st fa).toArray] w fun ev w' => ev = .returned (itemV (codeR id cl su xs hs ch un st fa)) ∧ Own E w' (Hp.ro S :: L) := by
  have h1 := h.alloc (.cells (codeC id cl su A n c hs ch un st fa).toArray CDT)
  have h2 := h1.alloc (.cells #[.string ⟨#[]⟩, .string ⟨#[]⟩] ITT)
  rw [alloc_size] at h2
  have H3 := Lib.hid h2
  obtain ⟨dd, hd, hrow⟩ := itt_u
  by_cases hm : codeMay id cl su xs hs ch un st fa
  · have hrg : CodeIn id cl su (scTxt xs) hs ch un st fa := code_range hm
    have hsc : scErr xs = 0 := hm.2.2.2.1
    have HR : Hid (codeR id cl su xs hs ch un st fa = (codeK id, codeV cl su (scTxt xs) hs ch un st fa, 0)) := Lib.hid (if_pos hm)
    have KM : Hid (∀ w3 : World, Own E w3 (Hp.blk (w.heap.size + 1) ITT #[.string ⟨#[]⟩, .string ⟨#[]⟩] :: Hp.blk w.heap.size CDT (codeC id cl su A n c hs ch un st fa).toArray :: Hp.ro S :: L) → Calls Tryz.prog 89 #[.agg (codeC id cl su A n c hs ch un st fa).toArray] w3 fun ev w' => ev = .returned (.bool true) ∧ w'.cell? ⟨w.heap.size, 3, none⟩ = some (.slice A n c) ∧ Own E w' (Hp.blk (w.heap.size + 1) ITT #[.string ⟨#[]⟩, .string ⟨#[]⟩] :: Hp.blk w.heap.size CDT (codeC id cl su A n c hs ch un st fa).toArray :: Hp.ro S :: L)) := Lib.hid fun w3 h3 => (codemay_any id cl su A n c hs ch un st fa xs w3 hr hnc hn43 (show Own E w3 (Hp.ro S :: Hp.blk (w.heap.size + 1) ITT #[.string ⟨#[]⟩, .string ⟨#[]⟩] :: Hp.blk w.heap.size CDT (codeC id cl su A n c hs ch un st fa).toArray :: L) from h3.f2)).mono fun ev w' he => ⟨by rw [he.1, decide_eq_true hm], by rw [he.2.f2.cell 3]; rfl, he.2.f2.f2⟩
    have KS : Hid (∀ w3 : World, Own E w3 (Hp.blk (w.heap.size + 1) ITT #[.string ⟨#[]⟩, .string ⟨#[]⟩] :: Hp.blk w.heap.size CDT (codeC id cl su A n c hs ch un st fa).toArray :: Hp.ro S :: L) → Calls Tryz.prog 82 #[.slice A n c] w3 fun ev w' => ev = .returned (.tuple #[.string (scTxt xs), .bool true]) ∧ Own E w' (Hp.blk (w.heap.size + 1) ITT #[.string ⟨#[]⟩, .string ⟨#[]⟩] :: Hp.blk w.heap.size CDT (codeC id cl su A n c hs ch un st fa).toArray :: Hp.ro S :: L)) := Lib.hid fun w3 h3 => (scoped_any A n c xs w3 hr hnc hn43 (show Own E w3 (Hp.ro S :: Hp.blk (w.heap.size + 1) ITT #[.string ⟨#[]⟩, .string ⟨#[]⟩] :: Hp.blk w.heap.size CDT (codeC id cl su A n c hs ch un st fa).toArray :: L) from h3.f2)).mono fun ev w' he => ⟨by rw [he.1, decide_eq_true hsc], he.2.f2.f2⟩
    have HNUM : Hid (∀ (fb : Nat) (w3 : World), Own E w3 (Hp.blk fb 9 #[.string (scTxt xs)] :: Hp.blk (w.heap.size + 1) ITT #[.string ⟨#[]⟩, .string ⟨#[]⟩] :: Hp.blk w.heap.size CDT (codeC id cl su A n c hs ch un st fa).toArray :: Hp.ro S :: L) → Calls Tryz.prog 60 #[.string ⟨#[97]⟩, .int .i64 8, .int .i64 id] w3 fun ev w' => ev = .returned (.string (codeK id)) ∧ Own E w' (Hp.blk fb 9 #[.string (scTxt xs)] :: Hp.blk (w.heap.size + 1) ITT #[.string ⟨#[]⟩, .string ⟨#[]⟩] :: Hp.blk w.heap.size CDT (codeC id cl su A n c hs ch un st fa).toArray :: Hp.ro S :: L)) := Lib.hid fun fb w3 h3 => by
      have c1 := hrg.2.2.2.1
      have hnum := numbered_any (E := E) ⟨#[97]⟩ 8 id w3 (by decide) (by omega) hG.cons.cons.cons h3
      rw [key_num 97 8 id (by omega) (by omega) (by omega) (by omega) (by omega)] at hnum
      exact hnum
    have HP : Hid (∀ (bb fb : Nat) (w3 : World), Own E w3 (Hp.blk bb FT ((codeFs w.heap.size fb).flatMap enF).toArray :: Hp.blk fb 9 #[.string (scTxt xs)] :: Hp.blk (w.heap.size + 1) ITT #[.string ⟨#[]⟩, .string ⟨#[]⟩] :: Hp.blk w.heap.size CDT (codeC id cl su A n c hs ch un st fa).toArray :: Hp.ro S :: L) →
        Calls Tryz.prog 61 #[.slice (some ⟨bb, 0, none⟩) 8 8] w3 fun ev w' => ev = .returned (.string (codeV cl su (scTxt xs) hs ch un st fa)) ∧ Own E w' (Hp.blk (w.heap.size + 1) ITT #[.string ⟨#[]⟩, .string ⟨#[]⟩] :: Hp.ro S :: L)) := Lib.hid fun bb fb w3 h3 => by
      have h4 : Own E w3 (Hp.ro (Ph.one fb (.cells #[.string (scTxt xs)] 9 (0, 0))) :: Hp.ro (Ph.one w.heap.size (.cells (codeC id cl su A n c hs ch un st fa).toArray CDT (0, 0))) :: Hp.blk bb FT ((codeFl w.heap.size fb cl su (scTxt xs) hs ch un st fa).flatMap enFld).toArray :: Hp.blk (w.heap.size + 1) ITT #[.string ⟨#[]⟩, .string ⟨#[]⟩] :: Hp.ro S :: L) := h3.f3.f2
      obtain ⟨m1, d1⟩ := h4.merge
      refine (printed_blk bb 8 (codeFl w.heap.size fb cl su (scTxt xs) hs ch un st fa) w3 rfl (by omega) (code_ok _ _ hrg (fun i v hv => kept_cell d1 (by rw [one_cell, List.getElem?_toArray]; exact hv)) (left_cell (one_cell _ _ _ 0))) hG.cons m1.f1).mono ?_
      rw [code_printed _ _ hrg]
      rintro ev w' ⟨rfl, h⟩
      exact ⟨rfl, h.drop⟩
    clear h h1 h2 hG hm hrg hsc hr
    generalize codeK id = x1 at *
    generalize codeV cl su (scTxt xs) hs ch un st fa = x2 at *
    generalize scTxt xs = sT at *
    unfold codeC at *
    go_enter Tryz.func33, Tryz.ntmps33
    go_wp2_with (first
      | (with_reducible refine (KM.out _ H3.out).mono ?_; clear H3; rintro ev w2 ⟨rfl, hc3, h⟩; have H3 := Lib.hid h; clear h)
      | (with_reducible refine (KS.out _ H3.out).mono ?_; clear H3; rintro ev w2 ⟨rfl, h⟩; have hc0 := (h.alloc (.cells #[.string sT] 9)).f2.cell 0; have H3 := Lib.hid (h.alloc (.cells #[.string sT] 9)); clear h; simp only [List.getElem?_toArray, List.getElem?_cons_zero] at hc0)
      | (with_reducible refine (HNUM.out _ _ H3.out).mono ?_; clear HNUM H3; rintro ev w2 ⟨rfl, h⟩; have H3 := Lib.hid h; clear h)
      | (with_reducible refine (codefields_any _ _ _ H3.out).mono ?_; clear H3; rintro ev w2 ⟨bb, rfl, h⟩; have H3 := Lib.hid h; clear h)
      | (with_reducible refine (HP.out _ _ _ H3.out).mono ?_; clear H3 HP; rintro ev w2 ⟨rfl, h⟩; have H3 := Lib.hid h; clear h)
      | (with_reducible refine at_slot (k := none) ?_; refine wpList_store_whole (o := ⟨none, _, _, _, _, _⟩) (cs := [.string ⟨#[]⟩, .string ⟨#[]⟩]) (vs := [.string x1, .string x2]) H3.out rfl (pair_one x1 x2) (by kernel_rfl) rfl rfl rfl rfl ?_; clear H3; intro w7 h; have H9 := Lib.hid h; clear h))
    refine bodyPost_ret (results_ct rfl rfl H9.out hd hrow (by kernel_rfl)) rfl ?_
    exact ⟨by rw [HR.out]; rfl, H9.out.drop⟩
  · have HR : Hid (codeR id cl su xs hs ch un st fa = (noB, noB, 140)) := Lib.hid (if_neg hm)
    have KM : Hid (∀ w3 : World, Own E w3 (Hp.blk (w.heap.size + 1) ITT #[.string ⟨#[]⟩, .string ⟨#[]⟩] :: Hp.blk w.heap.size CDT (codeC id cl su A n c hs ch un st fa).toArray :: Hp.ro S :: L) → Calls Tryz.prog 89 #[.agg (codeC id cl su A n c hs ch un st fa).toArray] w3 fun ev w' => ev = .returned (.bool false) ∧ Own E w' (Hp.blk (w.heap.size + 1) ITT #[.string ⟨#[]⟩, .string ⟨#[]⟩] :: Hp.blk w.heap.size CDT (codeC id cl su A n c hs ch un st fa).toArray :: Hp.ro S :: L)) := Lib.hid fun w3 h3 => (codemay_any id cl su A n c hs ch un st fa xs w3 hr hnc hn43 (show Own E w3 (Hp.ro S :: Hp.blk (w.heap.size + 1) ITT #[.string ⟨#[]⟩, .string ⟨#[]⟩] :: Hp.blk w.heap.size CDT (codeC id cl su A n c hs ch un st fa).toArray :: L) from h3.f2)).mono fun ev w' he => ⟨by rw [he.1, decide_eq_false hm], he.2.f2.f2⟩
    clear h h1 h2 hG hm hr
    unfold codeC at *
    go_enter Tryz.func33, Tryz.ntmps33
    go_wp2_with (first
      | (with_reducible refine (KM.out _ H3.out).mono ?_; clear H3; rintro ev w2 ⟨rfl, h⟩; have H3 := Lib.hid h; clear h)
      | (with_reducible refine at_slot (k := none) ?_; refine wpList_store_whole (o := ⟨none, _, _, _, _, _⟩) (cs := [.string ⟨#[]⟩, .string ⟨#[]⟩]) (vs := [.string ⟨#[]⟩, .string ⟨#[]⟩]) H3.out rfl (pair_one ⟨#[]⟩ ⟨#[]⟩) (by kernel_rfl) rfl rfl rfl rfl ?_; clear H3; intro w7 h; have H8 := Lib.hid h; clear h))
    refine bodyPost_ret (results_ct rfl rfl H8.out hd hrow (by kernel_rfl)) rfl ?_
    exact ⟨by rw [HR.out]; rfl, H8.out.drop.drop⟩
end
end Go.Proofs.YtabibfabieghpaaGreatDoor
