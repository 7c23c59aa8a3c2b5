/- PrintKey, the program (printed by gen_print.py). PrintEvent, the program (printed by gen_print.py). PrintChain, the program (printed by gen_print.py). -/
import Derived.Test.YtabibfabieghpaaGreatDoorPkKg
namespace Go.Proofs.YtabibfabieghpaaGreatDoor
open Go.RowKit
def keyMay (g : Int) (s : ByteArray) (a : Int) (b : Int) : Prop := (1 ≤ g ∧ g ≤ 1073741824) ∧ s.size = 24 ∧ (0 ≤ a ∧ a ≤ 1099511627776) ∧ (0 ≤ b ∧ b ≤ 1099511627776) ∧ a ≤ b
instance (g : Int) (s : ByteArray) (a : Int) (b : Int) : Decidable (keyMay g s a b) := by unfold keyMay; exact inferInstance
def keyK (g : Int) (_s : ByteArray) (_a : Int) (_b : Int) : ByteArray := ⟨(107 :: byN 4 g.toNat).toArray⟩
def keyV (_g : Int) (s : ByteArray) (a : Int) (b : Int) : ByteArray := ⟨(s.data.toList ++ byN 6 a.toNat ++ byN 6 b.toNat).toArray⟩
def keyR (g : Int) (s : ByteArray) (a : Int) (b : Int) : ByteArray × ByteArray × Int := if keyMay g s a b then (keyK g s a b, keyV g s a b, 0) else (noB, noB, 140)
def keyFl (tb : Nat) (_g : Int) (s : ByteArray) (a : Int) (b : Int) : List Fld := [(.raw 24, ⟨tb, 1, none⟩, .s s), (.num 6, ⟨tb, 2, none⟩, .n a), (.num 6, ⟨tb, 3, none⟩, .n b)]
theorem key_fits (tb : Nat) (g : Int) (s : ByteArray) (a : Int) (b : Int) (h : keyMay g s a b) : ∀ f ∈ (keyFl tb g s a b).map Fld.kv, fits1 f := by
  obtain ⟨c1, c2, c3, c4, c5⟩ := h
  intro f hf
  simp only [keyFl, List.map_cons, List.map_nil, List.mem_cons, List.not_mem_nil, or_false] at hf
  rcases hf with rfl | rfl | rfl
  · show s.size = 24
    omega
  · exact ⟨by decide, by decide, by show (0 : Int) ≤ a; omega, by show a < (256 : Int) ^ 6; omega, by show a ≤ (9223372036854775807 : Int); omega⟩
  · exact ⟨by decide, by decide, by show (0 : Int) ≤ b; omega, by show b < (256 : Int) ^ 6; omega, by show b ≤ (9223372036854775807 : Int); omega⟩
theorem key_printed (tb : Nat) (g : Int) (s : ByteArray) (a : Int) (b : Int) (h : keyMay g s a b) : printedV ((keyFl tb g s a b).map Fld.kv) = keyV g s a b := by
  rw [printed_fits (key_fits tb g s a b h)]
  refine bytes_ext _ _ ?_
  show ((s.data.toList ++ (byN 6 a.toNat ++ (byN 6 b.toNat ++ [])))).toArray.toList = _
  simp
theorem key_ok (tb : Nat) (g : Int) (s : ByteArray) (a : Int) (b : Int) (h : keyMay g s a b) : ∀ x ∈ keyFl tb g s a b, FldOk (Ph.one tb (.cells #[.int .i64 g, .string s, .int .i64 a, .int .i64 b] 25 (0, 0))) x := by
  obtain ⟨c1, c2, c3, c4, c5⟩ := h
  intro x hx
  simp only [keyFl, List.mem_cons, List.not_mem_nil, or_false] at hx
  rcases hx with rfl | rfl | rfl
  · exact ⟨trivial, one_cell _ _ _ 1, by show (0 : Int) ≤ _; omega, by show s.size ≤ _; omega⟩
  · exact ⟨trivial, one_cell _ _ _ 2, by show a ≤ (9223372036854775807 : Int); omega, by show (0 : Nat) ≤ _; omega⟩
  · exact ⟨trivial, one_cell _ _ _ 3, by show b ≤ (9223372036854775807 : Int); omega, by show (0 : Nat) ≤ _; omega⟩
section
variable {E : World} {L : List Hp}
set_option maxRecDepth 20000 in
set_option maxHeartbeats 8000000 in
theorem printkey_any (g : Int) (s : ByteArray) (a : Int) (b : Int) (w : World) (hG : Laid0 E L) (h : Own E w L) :
    Calls Tryz.prog 16 #[.agg #[.int .i64 g, .string s, .int .i64 a, .int .i64 b]] w fun e w' => e = .returned (itemV (keyR g s a b)) ∧ Own E w' L := by
  have h1 := h.alloc (.cells #[.int .i64 g, .string s, .int .i64 a, .int .i64 b] 25)
  have h2 := h1.alloc (.cells #[.string ⟨#[]⟩, .string ⟨#[]⟩] ITT)
  rw [alloc_size] at h2
  have H3 := Lib.hid h2
  have k1 := fun w => istime_any a w
  have k2 := fun w => istime_any b w
  have hiff : keyMay g s a b ↔ ((1 ≤ g ∧ g ≤ 1073741824) ∧ s.size = 24 ∧ (0 ≤ a ∧ a ≤ 1099511627776) ∧ (0 ≤ b ∧ b ≤ 1099511627776) ∧ a ≤ b) := Iff.rfl
  have HR0 : Hid (¬ ((1 ≤ g ∧ g ≤ 1073741824) ∧ s.size = 24 ∧ (0 ≤ a ∧ a ≤ 1099511627776) ∧ (0 ≤ b ∧ b ≤ 1099511627776) ∧ a ≤ b) → keyR g s a b = (noB, noB, 140)) := Lib.hid fun hm => if_neg fun q => hm (hiff.1 q)
  have HR1 : Hid (((1 ≤ g ∧ g ≤ 1073741824) ∧ s.size = 24 ∧ (0 ≤ a ∧ a ≤ 1099511627776) ∧ (0 ≤ b ∧ b ≤ 1099511627776) ∧ a ≤ b) → keyR g s a b = (keyK g s a b, keyV g s a b, 0)) := Lib.hid fun hm => if_pos (hiff.2 hm)
  have HNUM : Hid (((1 ≤ g ∧ g ≤ 1073741824) ∧ s.size = 24 ∧ (0 ≤ a ∧ a ≤ 1099511627776) ∧ (0 ≤ b ∧ b ≤ 1099511627776) ∧ a ≤ b) → ∀ w3 : World, Own E w3 (Hp.blk (w.heap.size + 1) ITT #[.string ⟨#[]⟩, .string ⟨#[]⟩] :: Hp.blk w.heap.size 25 #[.int .i64 g, .string s, .int .i64 a, .int .i64 b] :: L) → Calls Tryz.prog 60 #[.string ⟨#[107]⟩, .int .i64 4, .int .i64 g] w3 fun e w' => e = .returned (.string (keyK g s a b)) ∧ Own E w' (Hp.blk (w.heap.size + 1) ITT #[.string ⟨#[]⟩, .string ⟨#[]⟩] :: Hp.blk w.heap.size 25 #[.int .i64 g, .string s, .int .i64 a, .int .i64 b] :: L)) := Lib.hid fun hm w3 h3 => by
    obtain ⟨c1, c2, c3, c4, c5⟩ := hm
    have hnum := numbered_any (E := E) (L := Hp.blk (w.heap.size + 1) ITT #[.string ⟨#[]⟩, .string ⟨#[]⟩] :: Hp.blk w.heap.size 25 #[.int .i64 g, .string s, .int .i64 a, .int .i64 b] :: L) ⟨#[107]⟩ 4 g w3 (by decide) (by omega) hG.cons.cons h3
    rw [key_num 107 4 g (by omega) (by omega) (by omega) (by omega) (by omega)] at hnum
    exact hnum
  have HP : Hid (((1 ≤ g ∧ g ≤ 1073741824) ∧ s.size = 24 ∧ (0 ≤ a ∧ a ≤ 1099511627776) ∧ (0 ≤ b ∧ b ≤ 1099511627776) ∧ a ≤ b) → ∀ (bb : Nat) (w3 : World), Own E w3 (Hp.blk bb FT ((keyFs w.heap.size).flatMap enF).toArray :: Hp.blk (w.heap.size + 1) ITT #[.string ⟨#[]⟩, .string ⟨#[]⟩] :: Hp.blk w.heap.size 25 #[.int .i64 g, .string s, .int .i64 a, .int .i64 b] :: L) →
      Calls Tryz.prog 61 #[.slice (some ⟨bb, 0, none⟩) 3 3] w3 fun e w' => e = .returned (.string (keyV g s a b)) ∧ Own E w' (Hp.blk (w.heap.size + 1) ITT #[.string ⟨#[]⟩, .string ⟨#[]⟩] :: L)) := Lib.hid fun hm bb w3 h3 => by
    have h4 : Own E w3 (Hp.blk bb FT ((keyFl w.heap.size g s a b).flatMap enFld).toArray :: Hp.ro (Ph.one w.heap.size (.cells #[.int .i64 g, .string s, .int .i64 a, .int .i64 b] 25 (0, 0))) :: Hp.blk (w.heap.size + 1) ITT #[.string ⟨#[]⟩, .string ⟨#[]⟩] :: L) := h3.f2.f1
    refine (printed_blk bb 3 (keyFl w.heap.size g s a b) w3 rfl (by omega) (key_ok _ g s a b (hiff.2 hm)) hG.cons h4).mono ?_
    rw [key_printed _ g s a b (hiff.2 hm)]
    rintro e w' ⟨rfl, h⟩
    exact ⟨rfl, h.drop⟩
  obtain ⟨d, hd, hrow⟩ := itt_u
  clear h h1 h2 hG hiff
  generalize keyK g s a b = x1 at *
  generalize keyV g s a b = x2 at *
  go_enter Tryz.func16, Tryz.ntmps16
  go_wp2_with (first
    | (with_reducible refine (k1 _).mono ?_; rintro e w2 ⟨rfl, rfl⟩)
    | (with_reducible refine (k2 _).mono ?_; rintro e w2 ⟨rfl, rfl⟩)
    | (with_reducible refine (HNUM.out (by (first | omega | ((try simp only [Bool.not_eq_true'] at *); (try simp only [Bool.not_eq_false'] at *); (try simp only [decide_eq_true_eq] at *); (try simp only [decide_eq_false_iff_not] at *); omega))) _ H3.out).mono ?_; clear HNUM H3; rintro e w2 ⟨rfl, h⟩; have H3 := Lib.hid h; clear h)
    | (with_reducible refine (keyfields_any _ _ H3.out).mono ?_; clear H3; rintro e w2 ⟨bb, rfl, h⟩; have H3 := Lib.hid h; clear h)
    | (with_reducible refine (HP.out (by (first | omega | ((try simp only [Bool.not_eq_true'] at *); (try simp only [Bool.not_eq_false'] at *); (try simp only [decide_eq_true_eq] at *); (try simp only [decide_eq_false_iff_not] at *); omega))) _ _ H3.out).mono ?_; clear H3 HP; rintro e w2 ⟨rfl, h⟩; have H3 := Lib.hid h; clear h)
    | (with_reducible refine at_slot (k := none) ?_; refine wpList_store_whole (o := ⟨none, _, _, _, _, _⟩) (cs := [.string ⟨#[]⟩, .string ⟨#[]⟩]) (vs := [.string x1, .string x2]) H3.out rfl (pair_one x1 x2) (by kernel_rfl) rfl rfl rfl rfl ?_; clear H3; intro w7 h; have H9 := Lib.hid h; clear h)
    | (with_reducible refine at_slot (k := none) ?_; refine wpList_store_whole (o := ⟨none, _, _, _, _, _⟩) (cs := [.string ⟨#[]⟩, .string ⟨#[]⟩]) (vs := [.string ⟨#[]⟩, .string ⟨#[]⟩]) H3.out rfl (pair_one ⟨#[]⟩ ⟨#[]⟩) (by kernel_rfl) rfl rfl rfl rfl ?_; clear H3; intro w7 h; have H8 := Lib.hid h; clear h))
  all_goals first
    | (refine bodyPost_ret (results_ct rfl rfl H9.out hd hrow (by kernel_rfl)) rfl ?_
       exact ⟨by rw [HR1.out (by (first | omega | ((try simp only [Bool.not_eq_true'] at *); (try simp only [Bool.not_eq_false'] at *); (try simp only [decide_eq_true_eq] at *); (try simp only [decide_eq_false_iff_not] at *); omega)))]; rfl, H9.out.drop⟩)
    | (refine bodyPost_ret (results_ct rfl rfl H8.out hd hrow (by kernel_rfl)) rfl ?_
       exact ⟨by rw [HR0.out (by (first | omega | ((try simp only [Bool.not_eq_true'] at *); (try simp only [Bool.not_eq_false'] at *); (try simp only [decide_eq_true_eq] at *); (try simp only [decide_eq_false_iff_not] at *); omega)))]; rfl, H8.out.drop.drop⟩)
end
end Go.Proofs.YtabibfabieghpaaGreatDoor
namespace Go.Proofs.YtabibfabieghpaaGreatDoor
open Go.RowKit
def eventMay (i : Int) (t : Int) (k : Int) (j : Int) (s : ByteArray) : Prop := (1 ≤ i ∧ i ≤ 4611686018427387904) ∧ (0 ≤ t ∧ t ≤ 1099511627776) ∧ (1 ≤ k ∧ k ≤ 9) ∧ (j = 0 ∨ (1 ≤ j ∧ j ≤ 4611686018427387904)) ∧ (s.size = 0 ∨ nameB s = true)
instance (i : Int) (t : Int) (k : Int) (j : Int) (s : ByteArray) : Decidable (eventMay i t k j s) := by unfold eventMay; exact inferInstance
def eventK (i : Int) (_t : Int) (_k : Int) (_j : Int) (_s : ByteArray) : ByteArray := ⟨(101 :: byN 8 i.toNat).toArray⟩
def eventV (_i : Int) (t : Int) (k : Int) (j : Int) (s : ByteArray) : ByteArray := ⟨(byN 6 t.toNat ++ byN 1 k.toNat ++ byN 8 j.toNat ++ (byN 1 s.size ++ s.data.toList)).toArray⟩
def eventR (i : Int) (t : Int) (k : Int) (j : Int) (s : ByteArray) : ByteArray × ByteArray × Int := if eventMay i t k j s then (eventK i t k j s, eventV i t k j s, 0) else (noB, noB, 140)
def eventFl (tb : Nat) (_i : Int) (t : Int) (k : Int) (j : Int) (s : ByteArray) : List Fld := [(.num 6, ⟨tb, 1, none⟩, .n t), (.num 1, ⟨tb, 2, none⟩, .n k), (.num 8, ⟨tb, 3, none⟩, .n j), (.text, ⟨tb, 4, none⟩, .s s)]
theorem event_fits (tb : Nat) (i : Int) (t : Int) (k : Int) (j : Int) (s : ByteArray) (h : eventMay i t k j s) : ∀ f ∈ (eventFl tb i t k j s).map Fld.kv, fits1 f := by
  obtain ⟨c1, c2, c3, c4, c5⟩ := h
  intro f hf
  simp only [eventFl, List.map_cons, List.map_nil, List.mem_cons, List.not_mem_nil, or_false] at hf
  rcases hf with rfl | rfl | rfl | rfl
  · exact ⟨by decide, by decide, by show (0 : Int) ≤ t; omega, by show t < (256 : Int) ^ 6; omega, by show t ≤ (9223372036854775807 : Int); omega⟩
  · exact ⟨by decide, by decide, by show (0 : Int) ≤ k; omega, by show k < (256 : Int) ^ 1; omega, by show k ≤ (9223372036854775807 : Int); omega⟩
  · exact ⟨by decide, by decide, by show (0 : Int) ≤ j; omega, by show j < (256 : Int) ^ 8; omega, by show j ≤ (9223372036854775807 : Int); omega⟩
  · show s.size ≤ 255
    have := name_size s
    rcases c5 with c | c
    · omega
    · have := this c; omega
theorem event_printed (tb : Nat) (i : Int) (t : Int) (k : Int) (j : Int) (s : ByteArray) (h : eventMay i t k j s) : printedV ((eventFl tb i t k j s).map Fld.kv) = eventV i t k j s := by
  rw [printed_fits (event_fits tb i t k j s h)]
  refine bytes_ext _ _ ?_
  show ((byN 6 t.toNat ++ (byN 1 k.toNat ++ (byN 8 j.toNat ++ ((byN 1 s.size ++ s.data.toList) ++ []))))).toArray.toList = _
  simp
theorem event_ok (tb : Nat) (i : Int) (t : Int) (k : Int) (j : Int) (s : ByteArray) (h : eventMay i t k j s) : ∀ x ∈ eventFl tb i t k j s, FldOk (Ph.one tb (.cells #[.int .i64 i, .int .i64 t, .int .i64 k, .int .i64 j, .string s] 27 (0, 0))) x := by
  obtain ⟨c1, c2, c3, c4, c5⟩ := h
  intro x hx
  simp only [eventFl, List.mem_cons, List.not_mem_nil, or_false] at hx
  rcases hx with rfl | rfl | rfl | rfl
  · exact ⟨trivial, one_cell _ _ _ 1, by show t ≤ (9223372036854775807 : Int); omega, by show (0 : Nat) ≤ _; omega⟩
  · exact ⟨trivial, one_cell _ _ _ 2, by show k ≤ (9223372036854775807 : Int); omega, by show (0 : Nat) ≤ _; omega⟩
  · exact ⟨trivial, one_cell _ _ _ 3, by show j ≤ (9223372036854775807 : Int); omega, by show (0 : Nat) ≤ _; omega⟩
  · have := name_size s
    have hsz : s.size ≤ 255 := by rcases c5 with c | c; omega; have := this c; omega
    exact ⟨trivial, one_cell _ _ _ 4, by show (0 : Int) ≤ _; omega, by show s.size ≤ _; omega⟩
section
variable {E : World} {L : List Hp}
set_option maxRecDepth 20000 in
set_option maxHeartbeats 8000000 in
theorem printevent_any (i : Int) (t : Int) (k : Int) (j : Int) (s : ByteArray) (w : World) (hG : Laid0 E L) (h : Own E w L) :
    Calls Tryz.prog 19 #[.agg #[.int .i64 i, .int .i64 t, .int .i64 k, .int .i64 j, .string s]] w fun e w' => e = .returned (itemV (eventR i t k j s)) ∧ Own E w' L := by
  have h1 := h.alloc (.cells #[.int .i64 i, .int .i64 t, .int .i64 k, .int .i64 j, .string s] 27)
  have h2 := h1.alloc (.cells #[.string ⟨#[]⟩, .string ⟨#[]⟩] ITT)
  rw [alloc_size] at h2
  have H3 := Lib.hid h2
  have k1 := fun w => isid_any i w
  have k2 := fun w => istime_any t w
  have k3 := fun w => isid_any j w
  obtain ⟨nv, hnv⟩ : ∃ nv : Int, nameB s = decide (nv = 1) := ⟨if nameB s then 1 else 0, by cases nameB s <;> rfl⟩
  obtain ⟨sn, hsn⟩ : ∃ sn : Int, s.size = 0 ↔ sn = 0 := ⟨s.size, by omega⟩
  obtain ⟨jn, hjn⟩ : ∃ jn : Int, j = 0 ↔ ¬ jn = 1 := ⟨if j = 0 then 0 else 1, by split <;> simp_all⟩
  have hiff : eventMay i t k j s ↔ ((1 ≤ i ∧ i ≤ 4611686018427387904) ∧ (0 ≤ t ∧ t ≤ 1099511627776) ∧ (1 ≤ k ∧ k ≤ 9) ∧ (¬ jn = 1 ∨ (1 ≤ j ∧ j ≤ 4611686018427387904)) ∧ (sn = 0 ∨ nv = 1)) := by unfold eventMay; rw [hnv, hsn, hjn]; simp only [decide_eq_true_eq]
  have z : s.toList.isEmpty = decide (sn = 0) := by rw [isEmpty_size, decide_eq_decide]; exact hsn
  have zj : (j != 0) = decide (jn = 1) := by rw [Bool.eq_iff_iff, bne_iff_ne, decide_eq_true_eq, ne_eq, hjn, Decidable.not_not]
  have KN : Hid (∀ w3 : World, Own E w3 (Hp.blk (w.heap.size + 1) ITT #[.string ⟨#[]⟩, .string ⟨#[]⟩] :: Hp.blk w.heap.size 27 #[.int .i64 i, .int .i64 t, .int .i64 k, .int .i64 j, .string s] :: L) → Calls Tryz.prog 74 #[.string s] w3 fun e w' => e = .returned (.bool (decide (nv = 1))) ∧ Own E w' (Hp.blk (w.heap.size + 1) ITT #[.string ⟨#[]⟩, .string ⟨#[]⟩] :: Hp.blk w.heap.size 27 #[.int .i64 i, .int .i64 t, .int .i64 k, .int .i64 j, .string s] :: L)) := Lib.hid fun w3 h3 => by rw [← hnv]; exact isname_any s w3 h3
  have HR0 : Hid (¬ ((1 ≤ i ∧ i ≤ 4611686018427387904) ∧ (0 ≤ t ∧ t ≤ 1099511627776) ∧ (1 ≤ k ∧ k ≤ 9) ∧ (¬ jn = 1 ∨ (1 ≤ j ∧ j ≤ 4611686018427387904)) ∧ (sn = 0 ∨ nv = 1)) → eventR i t k j s = (noB, noB, 140)) := Lib.hid fun hm => if_neg fun q => hm (hiff.1 q)
  have HR1 : Hid (((1 ≤ i ∧ i ≤ 4611686018427387904) ∧ (0 ≤ t ∧ t ≤ 1099511627776) ∧ (1 ≤ k ∧ k ≤ 9) ∧ (¬ jn = 1 ∨ (1 ≤ j ∧ j ≤ 4611686018427387904)) ∧ (sn = 0 ∨ nv = 1)) → eventR i t k j s = (eventK i t k j s, eventV i t k j s, 0)) := Lib.hid fun hm => if_pos (hiff.2 hm)
  have HNUM : Hid (((1 ≤ i ∧ i ≤ 4611686018427387904) ∧ (0 ≤ t ∧ t ≤ 1099511627776) ∧ (1 ≤ k ∧ k ≤ 9) ∧ (¬ jn = 1 ∨ (1 ≤ j ∧ j ≤ 4611686018427387904)) ∧ (sn = 0 ∨ nv = 1)) → ∀ w3 : World, Own E w3 (Hp.blk (w.heap.size + 1) ITT #[.string ⟨#[]⟩, .string ⟨#[]⟩] :: Hp.blk w.heap.size 27 #[.int .i64 i, .int .i64 t, .int .i64 k, .int .i64 j, .string s] :: L) → Calls Tryz.prog 60 #[.string ⟨#[101]⟩, .int .i64 8, .int .i64 i] w3 fun e w' => e = .returned (.string (eventK i t k j s)) ∧ Own E w' (Hp.blk (w.heap.size + 1) ITT #[.string ⟨#[]⟩, .string ⟨#[]⟩] :: Hp.blk w.heap.size 27 #[.int .i64 i, .int .i64 t, .int .i64 k, .int .i64 j, .string s] :: L)) := Lib.hid fun hm w3 h3 => by
    obtain ⟨c1, c2, c3, c4, c5⟩ := hm
    have hnum := numbered_any (E := E) (L := Hp.blk (w.heap.size + 1) ITT #[.string ⟨#[]⟩, .string ⟨#[]⟩] :: Hp.blk w.heap.size 27 #[.int .i64 i, .int .i64 t, .int .i64 k, .int .i64 j, .string s] :: L) ⟨#[101]⟩ 8 i w3 (by decide) (by omega) hG.cons.cons h3
    rw [key_num 101 8 i (by omega) (by omega) (by omega) (by omega) (by omega)] at hnum
    exact hnum
  have HP : Hid (((1 ≤ i ∧ i ≤ 4611686018427387904) ∧ (0 ≤ t ∧ t ≤ 1099511627776) ∧ (1 ≤ k ∧ k ≤ 9) ∧ (¬ jn = 1 ∨ (1 ≤ j ∧ j ≤ 4611686018427387904)) ∧ (sn = 0 ∨ nv = 1)) → ∀ (bb : Nat) (w3 : World), Own E w3 (Hp.blk bb FT ((eventFs w.heap.size).flatMap enF).toArray :: Hp.blk (w.heap.size + 1) ITT #[.string ⟨#[]⟩, .string ⟨#[]⟩] :: Hp.blk w.heap.size 27 #[.int .i64 i, .int .i64 t, .int .i64 k, .int .i64 j, .string s] :: L) →
      Calls Tryz.prog 61 #[.slice (some ⟨bb, 0, none⟩) 4 4] w3 fun e w' => e = .returned (.string (eventV i t k j s)) ∧ Own E w' (Hp.blk (w.heap.size + 1) ITT #[.string ⟨#[]⟩, .string ⟨#[]⟩] :: L)) := Lib.hid fun hm bb w3 h3 => by
    have h4 : Own E w3 (Hp.blk bb FT ((eventFl w.heap.size i t k j s).flatMap enFld).toArray :: Hp.ro (Ph.one w.heap.size (.cells #[.int .i64 i, .int .i64 t, .int .i64 k, .int .i64 j, .string s] 27 (0, 0))) :: Hp.blk (w.heap.size + 1) ITT #[.string ⟨#[]⟩, .string ⟨#[]⟩] :: L) := h3.f2.f1
    refine (printed_blk bb 4 (eventFl w.heap.size i t k j s) w3 rfl (by omega) (event_ok _ i t k j s (hiff.2 hm)) hG.cons h4).mono ?_
    rw [event_printed _ i t k j s (hiff.2 hm)]
    rintro e w' ⟨rfl, h⟩
    exact ⟨rfl, h.drop⟩
  obtain ⟨d, hd, hrow⟩ := itt_u
  clear h h1 h2 hG hiff hnv hsn hjn
  generalize eventK i t k j s = x1 at *
  generalize eventV i t k j s = x2 at *
  go_enter Tryz.func19, Tryz.ntmps19
  go_wp2_with (first
    | (with_reducible refine (k1 _).mono ?_; rintro e w2 ⟨rfl, rfl⟩)
    | (with_reducible refine (k2 _).mono ?_; rintro e w2 ⟨rfl, rfl⟩)
    | (with_reducible refine (k3 _).mono ?_; rintro e w2 ⟨rfl, rfl⟩)
    | (with_reducible refine (KN.out _ H3.out).mono ?_; clear H3; rintro e w2 ⟨rfl, h⟩; have hc0 := h.f1.cell 0; have H3 := Lib.hid h; clear h; simp only [List.getElem?_toArray, List.getElem?_cons_zero] at hc0)
    | (with_reducible refine (HNUM.out (by (first | omega | ((try simp only [Bool.not_eq_true'] at *); (try simp only [Bool.not_eq_false'] at *); (try simp only [decide_eq_true_eq] at *); (try simp only [decide_eq_false_iff_not] at *); omega))) _ H3.out).mono ?_; clear HNUM H3; rintro e w2 ⟨rfl, h⟩; have H3 := Lib.hid h; clear h)
    | (with_reducible refine (eventfields_any _ _ H3.out).mono ?_; clear H3; rintro e w2 ⟨bb, rfl, h⟩; have H3 := Lib.hid h; clear h)
    | (with_reducible refine (HP.out (by (first | omega | ((try simp only [Bool.not_eq_true'] at *); (try simp only [Bool.not_eq_false'] at *); (try simp only [decide_eq_true_eq] at *); (try simp only [decide_eq_false_iff_not] at *); omega))) _ _ H3.out).mono ?_; clear H3 HP; rintro e w2 ⟨rfl, h⟩; have H3 := Lib.hid h; clear h)
    | (with_reducible refine at_slot (k := none) ?_; refine wpList_store_whole (o := ⟨none, _, _, _, _, _⟩) (cs := [.string ⟨#[]⟩, .string ⟨#[]⟩]) (vs := [.string x1, .string x2]) H3.out rfl (pair_one x1 x2) (by kernel_rfl) rfl rfl rfl rfl ?_; clear H3; intro w7 h; have H9 := Lib.hid h; clear h)
    | (with_reducible refine at_slot (k := none) ?_; refine wpList_store_whole (o := ⟨none, _, _, _, _, _⟩) (cs := [.string ⟨#[]⟩, .string ⟨#[]⟩]) (vs := [.string ⟨#[]⟩, .string ⟨#[]⟩]) H3.out rfl (pair_one ⟨#[]⟩ ⟨#[]⟩) (by kernel_rfl) rfl rfl rfl rfl ?_; clear H3; intro w7 h; have H8 := Lib.hid h; clear h))
  all_goals first
    | (refine bodyPost_ret (results_ct rfl rfl H9.out hd hrow (by kernel_rfl)) rfl ?_
       exact ⟨by rw [HR1.out (by (first | omega | ((try simp only [Bool.not_eq_true'] at *); (try simp only [Bool.not_eq_false'] at *); (try simp only [decide_eq_true_eq] at *); (try simp only [decide_eq_false_iff_not] at *); omega)))]; rfl, H9.out.drop⟩)
    | (refine bodyPost_ret (results_ct rfl rfl H8.out hd hrow (by kernel_rfl)) rfl ?_
       exact ⟨by rw [HR0.out (by (first | omega | ((try simp only [Bool.not_eq_true'] at *); (try simp only [Bool.not_eq_false'] at *); (try simp only [decide_eq_true_eq] at *); (try simp only [decide_eq_false_iff_not] at *); omega)))]; rfl, H8.out.drop.drop⟩)
end
end Go.Proofs.YtabibfabieghpaaGreatDoor
namespace Go.Proofs.YtabibfabieghpaaGreatDoor
open Go.RowKit
def chainMay (a : Int) (b : Int) (s : ByteArray) (r : ByteArray) : Prop := (0 ≤ a ∧ a ≤ 4611686018427387904) ∧ a < b ∧ b ≤ 4611686018427387905 ∧ b - a ≤ 33 ∧ s.size = 32 ∧ r.size = 32
instance (a : Int) (b : Int) (s : ByteArray) (r : ByteArray) : Decidable (chainMay a b s r) := by unfold chainMay; exact inferInstance
def chainK (_a : Int) (_b : Int) (_s : ByteArray) (_r : ByteArray) : ByteArray := ⟨#[104]⟩
def chainV (a : Int) (b : Int) (s : ByteArray) (r : ByteArray) : ByteArray := ⟨(byN 8 a.toNat ++ byN 8 b.toNat ++ s.data.toList ++ r.data.toList).toArray⟩
def chainR (a : Int) (b : Int) (s : ByteArray) (r : ByteArray) : ByteArray × ByteArray × Int := if chainMay a b s r then (chainK a b s r, chainV a b s r, 0) else (noB, noB, 140)
def chainFl (tb : Nat) (a : Int) (b : Int) (s : ByteArray) (r : ByteArray) : List Fld := [(.num 8, ⟨tb, 0, none⟩, .n a), (.num 8, ⟨tb, 1, none⟩, .n b), (.raw 32, ⟨tb, 2, none⟩, .s s), (.raw 32, ⟨tb, 3, none⟩, .s r)]
theorem chain_fits (tb : Nat) (a : Int) (b : Int) (s : ByteArray) (r : ByteArray) (h : chainMay a b s r) : ∀ f ∈ (chainFl tb a b s r).map Fld.kv, fits1 f := by
  obtain ⟨c1, c2, c3, c4, c5, c6⟩ := h
  intro f hf
  simp only [chainFl, List.map_cons, List.map_nil, List.mem_cons, List.not_mem_nil, or_false] at hf
  rcases hf with rfl | rfl | rfl | rfl
  · exact ⟨by decide, by decide, by show (0 : Int) ≤ a; omega, by show a < (256 : Int) ^ 8; omega, by show a ≤ (9223372036854775807 : Int); omega⟩
  · exact ⟨by decide, by decide, by show (0 : Int) ≤ b; omega, by show b < (256 : Int) ^ 8; omega, by show b ≤ (9223372036854775807 : Int); omega⟩
  · show s.size = 32
    omega
  · show r.size = 32
    omega
theorem chain_printed (tb : Nat) (a : Int) (b : Int) (s : ByteArray) (r : ByteArray) (h : chainMay a b s r) : printedV ((chainFl tb a b s r).map Fld.kv) = chainV a b s r := by
  rw [printed_fits (chain_fits tb a b s r h)]
  refine bytes_ext _ _ ?_
  show ((byN 8 a.toNat ++ (byN 8 b.toNat ++ (s.data.toList ++ (r.data.toList ++ []))))).toArray.toList = _
  simp
theorem chain_ok (tb : Nat) (a : Int) (b : Int) (s : ByteArray) (r : ByteArray) (h : chainMay a b s r) : ∀ x ∈ chainFl tb a b s r, FldOk (Ph.one tb (.cells #[.int .i64 a, .int .i64 b, .string s, .string r] 29 (0, 0))) x := by
  obtain ⟨c1, c2, c3, c4, c5, c6⟩ := h
  intro x hx
  simp only [chainFl, List.mem_cons, List.not_mem_nil, or_false] at hx
  rcases hx with rfl | rfl | rfl | rfl
  · exact ⟨trivial, one_cell _ _ _ 0, by show a ≤ (9223372036854775807 : Int); omega, by show (0 : Nat) ≤ _; omega⟩
  · exact ⟨trivial, one_cell _ _ _ 1, by show b ≤ (9223372036854775807 : Int); omega, by show (0 : Nat) ≤ _; omega⟩
  · exact ⟨trivial, one_cell _ _ _ 2, by show (0 : Int) ≤ _; omega, by show s.size ≤ _; omega⟩
  · exact ⟨trivial, one_cell _ _ _ 3, by show (0 : Int) ≤ _; omega, by show r.size ≤ _; omega⟩
section
variable {E : World} {L : List Hp}
set_option maxRecDepth 20000 in
set_option maxHeartbeats 8000000 in
theorem printchain_any (a : Int) (b : Int) (s : ByteArray) (r : ByteArray) (w : World) (hG : Laid0 E L) (h : Own E w L) :
    Calls Tryz.prog 22 #[.agg #[.int .i64 a, .int .i64 b, .string s, .string r]] w fun e w' => e = .returned (itemV (chainR a b s r)) ∧ Own E w' L := by
  have h1 := h.alloc (.cells #[.int .i64 a, .int .i64 b, .string s, .string r] 29)
  have h2 := h1.alloc (.cells #[.string ⟨#[]⟩, .string ⟨#[]⟩] ITT)
  rw [alloc_size] at h2
  have H3 := Lib.hid h2
  have k1 := fun w => isdigest_any s w
  have k2 := fun w => isdigest_any r w
  have hiff : chainMay a b s r ↔ ((0 ≤ a ∧ a ≤ 4611686018427387904) ∧ a < b ∧ b ≤ 4611686018427387905 ∧ b - a ≤ 33 ∧ s.size = 32 ∧ r.size = 32) := Iff.rfl
  have HR0 : Hid (¬ ((0 ≤ a ∧ a ≤ 4611686018427387904) ∧ a < b ∧ b ≤ 4611686018427387905 ∧ b - a ≤ 33 ∧ s.size = 32 ∧ r.size = 32) → chainR a b s r = (noB, noB, 140)) := Lib.hid fun hm => if_neg fun q => hm (hiff.1 q)
  have HR1 : Hid (((0 ≤ a ∧ a ≤ 4611686018427387904) ∧ a < b ∧ b ≤ 4611686018427387905 ∧ b - a ≤ 33 ∧ s.size = 32 ∧ r.size = 32) → chainR a b s r = (chainK a b s r, chainV a b s r, 0)) := Lib.hid fun hm => if_pos (hiff.2 hm)
  have HP : Hid (((0 ≤ a ∧ a ≤ 4611686018427387904) ∧ a < b ∧ b ≤ 4611686018427387905 ∧ b - a ≤ 33 ∧ s.size = 32 ∧ r.size = 32) → ∀ (bb : Nat) (w3 : World), Own E w3 (Hp.blk bb FT ((chainFs w.heap.size).flatMap enF).toArray :: Hp.blk (w.heap.size + 1) ITT #[.string ⟨#[]⟩, .string ⟨#[]⟩] :: Hp.blk w.heap.size 29 #[.int .i64 a, .int .i64 b, .string s, .string r] :: L) →
      Calls Tryz.prog 61 #[.slice (some ⟨bb, 0, none⟩) 4 4] w3 fun e w' => e = .returned (.string (chainV a b s r)) ∧ Own E w' (Hp.blk (w.heap.size + 1) ITT #[.string ⟨#[]⟩, .string ⟨#[]⟩] :: L)) := Lib.hid fun hm bb w3 h3 => by
    have h4 : Own E w3 (Hp.blk bb FT ((chainFl w.heap.size a b s r).flatMap enFld).toArray :: Hp.ro (Ph.one w.heap.size (.cells #[.int .i64 a, .int .i64 b, .string s, .string r] 29 (0, 0))) :: Hp.blk (w.heap.size + 1) ITT #[.string ⟨#[]⟩, .string ⟨#[]⟩] :: L) := h3.f2.f1
    refine (printed_blk bb 4 (chainFl w.heap.size a b s r) w3 rfl (by omega) (chain_ok _ a b s r (hiff.2 hm)) hG.cons h4).mono ?_
    rw [chain_printed _ a b s r (hiff.2 hm)]
    rintro e w' ⟨rfl, h⟩
    exact ⟨rfl, h.drop⟩
  obtain ⟨d, hd, hrow⟩ := itt_u
  clear h h1 h2 hG hiff
  generalize chainV a b s r = x2 at *
  go_enter Tryz.func22, Tryz.ntmps22
  go_wp2_with (first
    | (with_reducible refine (k1 _).mono ?_; rintro e w2 ⟨rfl, rfl⟩)
    | (with_reducible refine (k2 _).mono ?_; rintro e w2 ⟨rfl, rfl⟩)
    | (with_reducible refine (chainfields_any _ _ H3.out).mono ?_; clear H3; rintro e w2 ⟨bb, rfl, h⟩; have H3 := Lib.hid h; clear h)
    | (with_reducible refine (HP.out (by (first | omega | ((try simp only [Bool.not_eq_true'] at *); (try simp only [Bool.not_eq_false'] at *); (try simp only [decide_eq_true_eq] at *); (try simp only [decide_eq_false_iff_not] at *); omega))) _ _ H3.out).mono ?_; clear H3 HP; rintro e w2 ⟨rfl, h⟩; have H3 := Lib.hid h; clear h)
    | (with_reducible refine at_slot (k := none) ?_; refine wpList_store_whole (o := ⟨none, _, _, _, _, _⟩) (cs := [.string ⟨#[]⟩, .string ⟨#[]⟩]) (vs := [.string ⟨#[104]⟩, .string x2]) H3.out rfl (pair_one ⟨#[104]⟩ x2) (by kernel_rfl) rfl rfl rfl rfl ?_; clear H3; intro w7 h; have H9 := Lib.hid h; clear h)
    | (with_reducible refine at_slot (k := none) ?_; refine wpList_store_whole (o := ⟨none, _, _, _, _, _⟩) (cs := [.string ⟨#[]⟩, .string ⟨#[]⟩]) (vs := [.string ⟨#[]⟩, .string ⟨#[]⟩]) H3.out rfl (pair_one ⟨#[]⟩ ⟨#[]⟩) (by kernel_rfl) rfl rfl rfl rfl ?_; clear H3; intro w7 h; have H8 := Lib.hid h; clear h))
  all_goals first
    | (refine bodyPost_ret (results_ct rfl rfl H9.out hd hrow (by kernel_rfl)) rfl ?_
       exact ⟨by rw [HR1.out (by (first | omega | ((try simp only [Bool.not_eq_true'] at *); (try simp only [Bool.not_eq_false'] at *); (try simp only [decide_eq_true_eq] at *); (try simp only [decide_eq_false_iff_not] at *); omega)))]; rfl, H9.out.drop⟩)
    | (refine bodyPost_ret (results_ct rfl rfl H8.out hd hrow (by kernel_rfl)) rfl ?_
       exact ⟨by rw [HR0.out (by (first | omega | ((try simp only [Bool.not_eq_true'] at *); (try simp only [Bool.not_eq_false'] at *); (try simp only [decide_eq_true_eq] at *); (try simp only [decide_eq_false_iff_not] at *); omega)))]; rfl, H8.out.drop.drop⟩)
end
end Go.Proofs.YtabibfabieghpaaGreatDoor
