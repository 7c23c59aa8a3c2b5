/- PrintToken, the program. -/
import Derived.Test.YtabibfabieghpaaGreatDoorTokMay
namespace Go.Proofs.YtabibfabieghpaaGreatDoor
open Go.RowKit
def tokK (a : Int) : ByteArray := ⟨(116 :: byN 8 a.toNat).toArray⟩
def tokV (b c : Int) (s : ByteArray) (d : Int) (f : Bool) (e g : Int) (r : ByteArray) : ByteArray :=
  ⟨(byN 8 b.toNat ++ byN 4 c.toNat ++ s.data.toList ++ byN 6 d.toNat ++ byN 1 (flagV f 1).toNat ++ byN 6 e.toNat ++ byN 8 g.toNat ++ (byN 1 r.size ++ r.data.toList)).toArray⟩
def tokR (a b c : Int) (s : ByteArray) (d : Int) (f : Bool) (e g : Int) (r : ByteArray) : ByteArray × ByteArray × Int :=
  if tokMay a b c s d f e g r then (tokK a, tokV b c s d f e g r, 0) else (noB, noB, 140)
def tokFl (tb fb : Nat) (b c : Int) (s : ByteArray) (d : Int) (f : Bool) (e g : Int) (r : ByteArray) : List Fld :=
  [(.num 8, ⟨tb, 1, none⟩, .n b), (.num 4, ⟨tb, 2, none⟩, .n c), (.raw 32, ⟨tb, 3, none⟩, .s s), (.num 6, ⟨tb, 4, none⟩, .n d), (.num 1, ⟨fb, 0, none⟩, .n (flagV f 1)), (.num 6, ⟨tb, 6, none⟩, .n e), (.num 8, ⟨tb, 7, none⟩, .n g), (.text, ⟨tb, 8, none⟩, .s r)]
theorem flagV_range (f : Bool) : 0 ≤ flagV f 1 ∧ flagV f 1 ≤ 1 := by cases f <;> decide
theorem tok_range {a b c : Int} {s : ByteArray} {d : Int} {f : Bool} {e g : Int} {r : ByteArray} (h : tokMay a b c s d f e g r) : (1 ≤ a ∧ a ≤ 4611686018427387904) ∧ (1 ≤ b ∧ b ≤ 4611686018427387904) ∧ (1 ≤ c ∧ c ≤ 1073741824) ∧ s.size = 32 ∧ (0 ≤ d ∧ d ≤ 1099511627776) ∧ (0 ≤ e ∧ e ≤ 1099511627776) ∧ (0 ≤ g ∧ g ≤ 4611686018427387904) ∧ r.size ≤ 24 := by
  obtain ⟨h1, h2, h3, h4, h5, h6 | h6⟩ := h
  · omega
  · omega
theorem tok_fits (tb fb : Nat) {a b c : Int} {s : ByteArray} {d : Int} {f : Bool} {e g : Int} {r : ByteArray} (h : tokMay a b c s d f e g r) : ∀ x ∈ (tokFl tb fb b c s d f e g r).map Fld.kv, fits1 x := by
  obtain ⟨c1, c2, c3, c4, c5, c6, c7, c8⟩ := tok_range h
  have hf := flagV_range f
  intro x hx
  simp only [tokFl, List.map_cons, List.map_nil, List.mem_cons, List.not_mem_nil, or_false] at hx
  rcases hx with rfl | rfl | rfl | rfl | rfl | rfl | rfl | rfl
  · exact ⟨by decide, by decide, by show (0 : Int) ≤ b; omega, by show b < (256 : Int) ^ 8; omega, by show b ≤ (9223372036854775807 : Int); omega⟩
  · exact ⟨by decide, by decide, by show (0 : Int) ≤ c; omega, by show c < (256 : Int) ^ 4; omega, by show c ≤ (9223372036854775807 : Int); omega⟩
  · exact c4
  · exact ⟨by decide, by decide, by show (0 : Int) ≤ d; omega, by show d < (256 : Int) ^ 6; omega, by show d ≤ (9223372036854775807 : Int); omega⟩
  · exact ⟨by decide, by decide, by show (0 : Int) ≤ flagV f 1; omega, by show flagV f 1 < (256 : Int) ^ 1; omega, by show flagV f 1 ≤ (9223372036854775807 : Int); omega⟩
  · exact ⟨by decide, by decide, by show (0 : Int) ≤ e; omega, by show e < (256 : Int) ^ 6; omega, by show e ≤ (9223372036854775807 : Int); omega⟩
  · exact ⟨by decide, by decide, by show (0 : Int) ≤ g; omega, by show g < (256 : Int) ^ 8; omega, by show g ≤ (9223372036854775807 : Int); omega⟩
  · show r.size ≤ 255
    omega
theorem tok_printed (tb fb : Nat) {a b c : Int} {s : ByteArray} {d : Int} {f : Bool} {e g : Int} {r : ByteArray} (h : tokMay a b c s d f e g r) : printedV ((tokFl tb fb b c s d f e g r).map Fld.kv) = tokV b c s d f e g r := by
  rw [printed_fits (tok_fits tb fb h)]
  refine bytes_ext _ _ ?_
  show (byN 8 b.toNat ++ (byN 4 c.toNat ++ (s.data.toList ++ (byN 6 d.toNat ++ (byN 1 (flagV f 1).toNat ++ (byN 6 e.toNat ++ (byN 8 g.toNat ++ ((byN 1 r.size ++ r.data.toList) ++ [])))))))).toArray.toList = _
  simp
theorem tok_ok (tb fb : Nat) {T : Ph} {a b c : Int} {s : ByteArray} {d : Int} {f : Bool} {e g : Int} {r : ByteArray} (h : tokMay a b c s d f e g r) (ht : ∀ i v, (tokC a b c s d f e g r)[i]? = some v → T.cell ⟨tb, i, none⟩ = some v) (hf : T.cell ⟨fb, 0, none⟩ = some (.int .i64 (flagV f 1))) : ∀ x ∈ tokFl tb fb b c s d f e g r, FldOk T x := by
  obtain ⟨c1, c2, c3, c4, c5, c6, c7, c8⟩ := tok_range h
  have hf2 := flagV_range f
  intro x hx
  simp only [tokFl, List.mem_cons, List.not_mem_nil, or_false] at hx
  rcases hx with rfl | rfl | rfl | rfl | rfl | rfl | rfl | rfl
  · exact ⟨trivial, ht 1 _ rfl, by show b ≤ (9223372036854775807 : Int); omega, by show (0 : Nat) ≤ _; omega⟩
  · exact ⟨trivial, ht 2 _ rfl, by show c ≤ (9223372036854775807 : Int); omega, by show (0 : Nat) ≤ _; omega⟩
  · exact ⟨trivial, ht 3 _ rfl, by show (0 : Int) ≤ _; omega, by show s.size ≤ _; omega⟩
  · exact ⟨trivial, ht 4 _ rfl, by show d ≤ (9223372036854775807 : Int); omega, by show (0 : Nat) ≤ _; omega⟩
  · exact ⟨trivial, hf, by show flagV f 1 ≤ (9223372036854775807 : Int); omega, by show (0 : Nat) ≤ _; omega⟩
  · exact ⟨trivial, ht 6 _ rfl, by show e ≤ (9223372036854775807 : Int); omega, by show (0 : Nat) ≤ _; omega⟩
  · exact ⟨trivial, ht 7 _ rfl, by show g ≤ (9223372036854775807 : Int); omega, by show (0 : Nat) ≤ _; omega⟩
  · exact ⟨trivial, ht 8 _ rfl, by show (0 : Int) ≤ _; omega, by show r.size ≤ _; omega⟩
section
variable {E : World} {L : List Hp}
set_option maxRecDepth 20000 in
set_option maxHeartbeats 8000000 in
theorem printtok_any (a b c : Int) (s : ByteArray) (d : Int) (f : Bool) (e g : Int) (r : ByteArray) (w : World) (hG : Laid0 E L) (h : Own E w L) :
    Calls Tryz.prog 11 #[.agg (tokC a b c s d f e g r).toArray] w fun ev w' => ev = .returned (itemV (tokR a b c s d f e g r)) ∧ Own E w' L := by
  have h1 := h.alloc (.cells (tokC a b c s d f e g r).toArray TOKT)
  have h2 := h1.alloc (.cells #[.string ⟨#[]⟩, .string ⟨#[]⟩] ITT)
  rw [alloc_size] at h2
  have H3 := Lib.hid h2
  obtain ⟨dd, hd, hrow⟩ := itt_u
  have KF := fun w => flag_any f 1 w
  by_cases hm : tokMay a b c s d f e g r
  · have HR : Hid (tokR a b c s d f e g r = (tokK a, tokV b c s d f e g r, 0)) := Lib.hid (if_pos hm)
    have KM : Hid (∀ w3 : World, Own E w3 (Hp.blk (w.heap.size + 1) ITT #[.string ⟨#[]⟩, .string ⟨#[]⟩] :: Hp.blk w.heap.size TOKT (tokC a b c s d f e g r).toArray :: L) → Calls Tryz.prog 58 #[.agg (tokC a b c s d f e g r).toArray] w3 fun ev w' => ev = .returned (.bool true) ∧ w'.cell? ⟨w.heap.size, 5, none⟩ = some (.bool f) ∧ Own E w' (Hp.blk (w.heap.size + 1) ITT #[.string ⟨#[]⟩, .string ⟨#[]⟩] :: Hp.blk w.heap.size TOKT (tokC a b c s d f e g r).toArray :: L)) := Lib.hid fun w3 h3 => (tokenmay_any a b c s d f e g r w3 h3).mono fun ev w' he => ⟨by rw [he.1, decide_eq_true hm], by rw [he.2.f1.cell 5]; rfl, he.2⟩
    have HNUM : Hid (∀ (fb : Nat) (w3 : World), Own E w3 (Hp.blk fb 3 #[.int .i64 (flagV f 1)] :: Hp.blk (w.heap.size + 1) ITT #[.string ⟨#[]⟩, .string ⟨#[]⟩] :: Hp.blk w.heap.size TOKT (tokC a b c s d f e g r).toArray :: L) → Calls Tryz.prog 60 #[.string ⟨#[116]⟩, .int .i64 8, .int .i64 a] w3 fun ev w' => ev = .returned (.string (tokK a)) ∧ Own E w' (Hp.blk fb 3 #[.int .i64 (flagV f 1)] :: Hp.blk (w.heap.size + 1) ITT #[.string ⟨#[]⟩, .string ⟨#[]⟩] :: Hp.blk w.heap.size TOKT (tokC a b c s d f e g r).toArray :: L)) := Lib.hid fun fb w3 h3 => by
      obtain ⟨c1, -⟩ := hm
      have hnum := numbered_any (E := E) ⟨#[116]⟩ 8 a w3 (by decide) (by omega) hG.cons.cons.cons h3
      rw [key_num 116 8 a (by omega) (by omega) (by omega) (by omega) (by omega)] at hnum
      exact hnum
    have HP : Hid (∀ (bb fb : Nat) (w3 : World), Own E w3 (Hp.blk bb FT ((tokenFs w.heap.size fb).flatMap enF).toArray :: Hp.blk fb 3 #[.int .i64 (flagV f 1)] :: Hp.blk (w.heap.size + 1) ITT #[.string ⟨#[]⟩, .string ⟨#[]⟩] :: Hp.blk w.heap.size TOKT (tokC a b c s d f e g r).toArray :: L) →
        Calls Tryz.prog 61 #[.slice (some ⟨bb, 0, none⟩) 8 8] w3 fun ev w' => ev = .returned (.string (tokV b c s d f e g r)) ∧ Own E w' (Hp.blk (w.heap.size + 1) ITT #[.string ⟨#[]⟩, .string ⟨#[]⟩] :: L)) := Lib.hid fun bb fb w3 h3 => by
      have h4 : Own E w3 (Hp.ro (Ph.one fb (.cells #[.int .i64 (flagV f 1)] 3 (0, 0))) :: Hp.ro (Ph.one w.heap.size (.cells (tokC a b c s d f e g r).toArray TOKT (0, 0))) :: Hp.blk bb FT ((tokFl w.heap.size fb b c s d f e g r).flatMap enFld).toArray :: Hp.blk (w.heap.size + 1) ITT #[.string ⟨#[]⟩, .string ⟨#[]⟩] :: L) := h3.f3.f2
      obtain ⟨m1, d1⟩ := h4.merge
      refine (printed_blk bb 8 (tokFl w.heap.size fb b c s d f e g r) w3 rfl (by omega) (tok_ok _ _ hm (fun i v hv => kept_cell d1 (by rw [one_cell, List.getElem?_toArray]; exact hv)) (left_cell (one_cell _ _ _ 0))) hG.cons m1.f1).mono ?_
      rw [tok_printed _ _ hm]
      rintro ev w' ⟨rfl, h⟩
      exact ⟨rfl, h.drop⟩
    clear h h1 h2 hG hm
    generalize tokK a = x1 at *
    generalize tokV b c s d f e g r = x2 at *
    unfold tokC at *
    go_enter Tryz.func11, Tryz.ntmps11
    go_wp2_with (first
      | (with_reducible refine (KM.out _ H3.out).mono ?_; clear H3; rintro ev w2 ⟨rfl, hc5, h⟩; have hc0 := (h.alloc (.cells #[.int .i64 (flagV f 1)] 3)).f2.cell 0; have H3 := Lib.hid (h.alloc (.cells #[.int .i64 (flagV f 1)] 3)); clear h; simp only [List.getElem?_toArray, List.getElem?_cons_zero] at hc0)
      | (with_reducible refine (KF _).mono ?_; rintro ev w2 ⟨rfl, rfl⟩)
      | (with_reducible refine (HNUM.out _ _ H3.out).mono ?_; clear HNUM H3; rintro ev w2 ⟨rfl, h⟩; have H3 := Lib.hid h; clear h)
      | (with_reducible refine (tokenfields_any _ _ _ H3.out).mono ?_; clear H3; rintro ev w2 ⟨bb, rfl, h⟩; have H3 := Lib.hid h; clear h)
      | (with_reducible refine (HP.out _ _ _ H3.out).mono ?_; clear H3 HP; rintro ev w2 ⟨rfl, h⟩; have H3 := Lib.hid h; clear h)
      | (with_reducible refine at_slot (k := none) ?_; refine wpList_store_whole (o := ⟨none, _, _, _, _, _⟩) (cs := [.string ⟨#[]⟩, .string ⟨#[]⟩]) (vs := [.string x1, .string x2]) H3.out rfl (pair_one x1 x2) (by kernel_rfl) rfl rfl rfl rfl ?_; clear H3; intro w7 h; have H9 := Lib.hid h; clear h))
    refine bodyPost_ret (results_ct rfl rfl H9.out hd hrow (by kernel_rfl)) rfl ?_
    exact ⟨by rw [HR.out]; rfl, H9.out.drop⟩
  · have HR : Hid (tokR a b c s d f e g r = (noB, noB, 140)) := Lib.hid (if_neg hm)
    have KM : Hid (∀ w3 : World, Own E w3 (Hp.blk (w.heap.size + 1) ITT #[.string ⟨#[]⟩, .string ⟨#[]⟩] :: Hp.blk w.heap.size TOKT (tokC a b c s d f e g r).toArray :: L) → Calls Tryz.prog 58 #[.agg (tokC a b c s d f e g r).toArray] w3 fun ev w' => ev = .returned (.bool false) ∧ Own E w' (Hp.blk (w.heap.size + 1) ITT #[.string ⟨#[]⟩, .string ⟨#[]⟩] :: Hp.blk w.heap.size TOKT (tokC a b c s d f e g r).toArray :: L)) := Lib.hid fun w3 h3 => (tokenmay_any a b c s d f e g r w3 h3).mono fun ev w' he => ⟨by rw [he.1, decide_eq_false hm], he.2⟩
    clear h h1 h2 hG hm
    unfold tokC at *
    go_enter Tryz.func11, Tryz.ntmps11
    go_wp2_with (first
      | (with_reducible refine (KM.out _ H3.out).mono ?_; clear H3; rintro ev w2 ⟨rfl, h⟩; have H3 := Lib.hid h; clear h)
      | (with_reducible refine at_slot (k := none) ?_; refine wpList_store_whole (o := ⟨none, _, _, _, _, _⟩) (cs := [.string ⟨#[]⟩, .string ⟨#[]⟩]) (vs := [.string ⟨#[]⟩, .string ⟨#[]⟩]) H3.out rfl (pair_one ⟨#[]⟩ ⟨#[]⟩) (by kernel_rfl) rfl rfl rfl rfl ?_; clear H3; intro w7 h; have H8 := Lib.hid h; clear h))
    refine bodyPost_ret (results_ct rfl rfl H8.out hd hrow (by kernel_rfl)) rfl ?_
    exact ⟨by rw [HR.out]; rfl, H8.out.drop.drop⟩
end
end Go.Proofs.YtabibfabieghpaaGreatDoor
