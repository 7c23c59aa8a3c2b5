/- The client's fields; record.PrintClient (printed by gen_clp.py). -/
import Derived.Test.YtabibfabieghpaaGreatDoorPkz0
import Derived.Test.YtabibfabieghpaaGreatDoorPkz12
namespace Go.Proofs.YtabibfabieghpaaGreatDoor
open Go.RowKit
theorem clientt_u0 : ∃ d, Tryz.prog.underlying CLT = some d ∧ d.isRow = true := by
  cases e : Tryz.prog.underlying CLT with
  | none => exact absurd e (by rw [Tryz.underlying77]; simp)
  | some d => exact ⟨d, rfl, by rw [Tryz.underlying77] at e; injection e with e; subst e; rfl⟩
def clientFs (tb fl fb : Nat) : List (Fk × Addr) := [(.num 1, ⟨fl, 0, none⟩), (.text, ⟨tb, 3, none⟩), (.text, ⟨tb, 4, none⟩), (.num 6, ⟨tb, 5, none⟩), (.text, ⟨fb, 0, none⟩), (.num 6, ⟨tb, 7, none⟩), (.num 6, ⟨tb, 8, none⟩), (.num 6, ⟨tb, 9, none⟩), (.num 6, ⟨tb, 10, none⟩)]
section
variable {E : World} {L : List Hp}
set_option maxRecDepth 20000 in
set_option maxHeartbeats 4000000 in
theorem clientfields_any (tb fl fb : Nat) (w : World) (h : Own E w L) :
    Calls Tryz.prog 102 #[.pointer (some ⟨tb, 0, none⟩), .pointer (some ⟨fl, 0, none⟩), .pointer (some ⟨fb, 0, none⟩)] w fun e w' => ∃ b, e = .returned (.slice (some ⟨b, 0, none⟩) 9 9) ∧ Own E w' (Hp.blk b FT ((clientFs tb fl fb).flatMap enF).toArray :: L) := by
  go_enter Tryz.func102, Tryz.ntmps102
  go_wp2_with fail
  refine wp_region_text [] (fun w => Own E w L) (by kernel_rfl) ?_ (fun hS => ?_)
  · exact h.drew
  refine gp 0 (some 7) ?_
  refine gp 2 (some 9) ?_
  refine gp 3 (some 10) ?_
  refine gp 4 (some 11) ?_
  refine gp 6 (some 13) ?_
  refine gp 7 (some 14) ?_
  refine gp 8 (some 15) ?_
  refine gp 10 (some 17) ?_
  refine gp 11 (some 18) ?_
  refine gp 12 (some 19) ?_
  refine gp 14 (some 21) ?_
  refine gp 16 (some 23) ?_
  refine gp 17 (some 24) ?_
  refine gp 18 (some 25) ?_
  refine gp 20 (some 27) ?_
  refine gp 21 (some 28) ?_
  refine gp 22 (some 29) ?_
  refine gp 24 (some 31) ?_
  refine gp 25 (some 32) ?_
  refine gp 26 (some 33) ?_
  refine gp 28 (some 35) ?_
  refine gp 29 (some 36) ?_
  refine gp 30 (some 37) ?_
  refine gk 1 (some 8) (fun K hK => ?_)
  rw [if_pos (by rfl)]
  go_simp
  refine (fnum_any 1 ⟨fl, 0, none⟩ _ hS).mono ?_
  clear hS
  rintro e w2 ⟨rfl, h⟩
  refine hK.out _ _ ?_ (fun hS => ?_)
  · exact h
  clear hK K
  try simp only [Act.put, List.setIfInBounds_toArray, List.set_cons_zero, List.set_cons_succ]
  refine gk 5 (some 12) (fun K hK => ?_)
  rw [if_pos (by rfl)]
  go_simp
  refine (ftext_any ⟨tb, 3, none⟩ _ hS).mono ?_
  clear hS
  rintro e w2 ⟨rfl, h⟩
  refine hK.out _ _ ?_ (fun hS => ?_)
  · exact h
  clear hK K
  try simp only [Act.put, List.setIfInBounds_toArray, List.set_cons_zero, List.set_cons_succ]
  refine gk 9 (some 16) (fun K hK => ?_)
  rw [if_pos (by rfl)]
  go_simp
  refine (ftext_any ⟨tb, 4, none⟩ _ hS).mono ?_
  clear hS
  rintro e w2 ⟨rfl, h⟩
  refine hK.out _ _ ?_ (fun hS => ?_)
  · exact h
  clear hK K
  try simp only [Act.put, List.setIfInBounds_toArray, List.set_cons_zero, List.set_cons_succ]
  refine gk 13 (some 20) (fun K hK => ?_)
  rw [if_pos (by rfl)]
  go_simp
  refine (fnum_any 6 ⟨tb, 5, none⟩ _ hS).mono ?_
  clear hS
  rintro e w2 ⟨rfl, h⟩
  refine hK.out _ _ ?_ (fun hS => ?_)
  · exact h
  clear hK K
  try simp only [Act.put, List.setIfInBounds_toArray, List.set_cons_zero, List.set_cons_succ]
  refine gk 15 (some 22) (fun K hK => ?_)
  rw [if_pos (by rfl)]
  go_simp
  refine (ftext_any ⟨fb, 0, none⟩ _ hS).mono ?_
  clear hS
  rintro e w2 ⟨rfl, h⟩
  refine hK.out _ _ ?_ (fun hS => ?_)
  · exact h
  clear hK K
  try simp only [Act.put, List.setIfInBounds_toArray, List.set_cons_zero, List.set_cons_succ]
  refine gk 19 (some 26) (fun K hK => ?_)
  rw [if_pos (by rfl)]
  go_simp
  refine (fnum_any 6 ⟨tb, 7, none⟩ _ hS).mono ?_
  clear hS
  rintro e w2 ⟨rfl, h⟩
  refine hK.out _ _ ?_ (fun hS => ?_)
  · exact h
  clear hK K
  try simp only [Act.put, List.setIfInBounds_toArray, List.set_cons_zero, List.set_cons_succ]
  refine gk 23 (some 30) (fun K hK => ?_)
  rw [if_pos (by rfl)]
  go_simp
  refine (fnum_any 6 ⟨tb, 8, none⟩ _ hS).mono ?_
  clear hS
  rintro e w2 ⟨rfl, h⟩
  refine hK.out _ _ ?_ (fun hS => ?_)
  · exact h
  clear hK K
  try simp only [Act.put, List.setIfInBounds_toArray, List.set_cons_zero, List.set_cons_succ]
  refine gk 27 (some 34) (fun K hK => ?_)
  rw [if_pos (by rfl)]
  go_simp
  refine (fnum_any 6 ⟨tb, 9, none⟩ _ hS).mono ?_
  clear hS
  rintro e w2 ⟨rfl, h⟩
  refine hK.out _ _ ?_ (fun hS => ?_)
  · exact h
  clear hK K
  try simp only [Act.put, List.setIfInBounds_toArray, List.set_cons_zero, List.set_cons_succ]
  refine gk 31 (some 38) (fun K hK => ?_)
  rw [if_pos (by rfl)]
  go_simp
  refine (fnum_any 6 ⟨tb, 10, none⟩ _ hS).mono ?_
  clear hS
  rintro e w2 ⟨rfl, h⟩
  refine hK.out _ _ ?_ (fun hS => ?_)
  · exact h
  clear hK K
  try simp only [Act.put, List.setIfInBounds_toArray, List.set_cons_zero, List.set_cons_succ]
  refine wpAnyG_break (i := 32) (oi := ⟨some 39, _, _, _, _, _⟩) (by kernel_rfl) rfl (by kernel_rfl) (fun K hK => ?_)
  rw [if_pos (by rfl)]
  refine wp_fields (clientFs tb fl fb) rfl rfl (by omega) (by omega) (by first | kernel_rfl | (simp [clientFs]; done) | (simp [clientFs]; rfl)) ?_
  have h := hS.alloc (.cells ((clientFs tb fl fb).flatMap enF).toArray FT)
  refine hK.out _ _ ?_
  clear hK K
  try simp only [Act.put, List.setIfInBounds_toArray, List.set_cons_zero, List.set_cons_succ]
  refine gp 33 (some 6) ?_
  refine wpAnyG_done (by kernel_rfl) ?_ _
  refine NoPanic.normal ?_
  go_wp2_with fail
  go_ret
  exact ⟨_, rfl, h⟩
end
def clientK (nm : ByteArray) : ByteArray := ⟨#[99]⟩ ++ nm
def clientV (fg : Int) (dh od : ByteArray) (ut : Int) (sT : ByteArray) (ii ab gr li : Int) : ByteArray := ⟨(byN 1 fg.toNat ++ (byN 1 dh.size ++ dh.data.toList) ++ (byN 1 od.size ++ od.data.toList) ++ byN 6 ut.toNat ++ (byN 1 sT.size ++ sT.data.toList) ++ byN 6 ii.toNat ++ byN 6 ab.toNat ++ byN 6 gr.toNat ++ byN 6 li.toNat).toArray⟩
def clientR (nm : ByteArray) (pu sw : Bool) (dh od : ByteArray) (ut : Int) (xs : List ByteArray) (ii ab gr li : Int) : ByteArray × ByteArray × Int := if clientMay nm pu sw dh od ut xs ii ab gr li then (clientK nm, clientV (flagV pu 1 + flagV sw 2) dh od ut (scTxt xs) ii ab gr li, 0) else (noB, noB, 140)
def clientFl (tb fl fb : Nat) (fg : Int) (dh od : ByteArray) (ut : Int) (sT : ByteArray) (ii ab gr li : Int) : List Fld := [(.num 1, ⟨fl, 0, none⟩, .n fg), (.text, ⟨tb, 3, none⟩, .s dh), (.text, ⟨tb, 4, none⟩, .s od), (.num 6, ⟨tb, 5, none⟩, .n ut), (.text, ⟨fb, 0, none⟩, .s sT), (.num 6, ⟨tb, 7, none⟩, .n ii), (.num 6, ⟨tb, 8, none⟩, .n ab), (.num 6, ⟨tb, 9, none⟩, .n gr), (.num 6, ⟨tb, 10, none⟩, .n li)]
theorem flags_range (a b : Bool) : 0 ≤ flagV a 1 + flagV b 2 ∧ flagV a 1 + flagV b 2 ≤ 3 := by cases a <;> cases b <;> decide
theorem flags_inj {a b c d : Bool} (h : flagV a 1 + flagV b 2 = flagV c 1 + flagV d 2) : a = c ∧ b = d := by
  revert h
  cases a <;> cases b <;> cases c <;> cases d <;> decide
def ClientIn (nm : ByteArray) (fg : Int) (dh od : ByteArray) (ut : Int) (sT : ByteArray) (ii ab gr li : Int) : Prop := nm.size ≤ 16 ∧ dh.size ≤ 32 ∧ od.size ≤ 32 ∧ sT.size ≤ 60 ∧ (0 ≤ fg ∧ fg ≤ 3) ∧ (0 ≤ ut ∧ ut ≤ 1099511627776) ∧ (0 ≤ ii ∧ ii ≤ 1099511627776) ∧ (0 ≤ ab ∧ ab ≤ 1099511627776) ∧ (0 ≤ gr ∧ gr ≤ 1099511627776) ∧ (0 ≤ li ∧ li ≤ 1099511627776)
theorem client_range {nm : ByteArray} {pu sw : Bool} {dh od : ByteArray} {ut : Int} {xs : List ByteArray} {ii ab gr li : Int} (h : clientMay nm pu sw dh od ut xs ii ab gr li) : ClientIn nm (flagV pu 1 + flagV sw 2) dh od ut (scTxt xs) ii ab gr li := by
  obtain ⟨c1, c2, c3, c4, c5, c6, c7⟩ := h
  have hf := flags_range pu sw
  refine ⟨nm_size c1, ?_, ?_, scTxt_size c2, hf, ?_⟩
  · omega
  · omega
  · omega
theorem client_fits (tb fl fb : Nat) {nm : ByteArray} {fg : Int} {dh od : ByteArray} {ut : Int} {sT : ByteArray} {ii ab gr li : Int} (h : ClientIn nm fg dh od ut sT ii ab gr li) : ∀ x ∈ (clientFl tb fl fb fg dh od ut sT ii ab gr li).map Fld.kv, fits1 x := by
  obtain ⟨r1, r2, r3, r4, c0, c1, c2, c3, c4, c5⟩ := h
  intro x hx
  simp only [clientFl, List.map_cons, List.map_nil, List.mem_cons, List.not_mem_nil, or_false] at hx
  rcases hx with rfl | rfl | rfl | rfl | rfl | rfl | rfl | rfl | rfl
  · exact ⟨by decide, by decide, by show (0 : Int) ≤ fg; omega, by show fg < (256 : Int) ^ 1; omega, by show fg ≤ (9223372036854775807 : Int); omega⟩
  · show dh.size ≤ 255
    omega
  · show od.size ≤ 255
    omega
  · exact ⟨by decide, by decide, by show (0 : Int) ≤ ut; omega, by show ut < (256 : Int) ^ 6; omega, by show ut ≤ (9223372036854775807 : Int); omega⟩
  · show sT.size ≤ 255
    omega
  · exact ⟨by decide, by decide, by show (0 : Int) ≤ ii; omega, by show ii < (256 : Int) ^ 6; omega, by show ii ≤ (9223372036854775807 : Int); omega⟩
  · exact ⟨by decide, by decide, by show (0 : Int) ≤ ab; omega, by show ab < (256 : Int) ^ 6; omega, by show ab ≤ (9223372036854775807 : Int); omega⟩
  · exact ⟨by decide, by decide, by show (0 : Int) ≤ gr; omega, by show gr < (256 : Int) ^ 6; omega, by show gr ≤ (9223372036854775807 : Int); omega⟩
  · exact ⟨by decide, by decide, by show (0 : Int) ≤ li; omega, by show li < (256 : Int) ^ 6; omega, by show li ≤ (9223372036854775807 : Int); omega⟩
theorem client_printed (tb fl fb : Nat) {nm : ByteArray} {fg : Int} {dh od : ByteArray} {ut : Int} {sT : ByteArray} {ii ab gr li : Int} (h : ClientIn nm fg dh od ut sT ii ab gr li) : printedV ((clientFl tb fl fb fg dh od ut sT ii ab gr li).map Fld.kv) = clientV fg dh od ut sT ii ab gr li := by
  rw [printed_fits (client_fits tb fl fb h)]
  refine bytes_ext _ _ ?_
  show ((byN 1 fg.toNat ++ ((byN 1 dh.size ++ dh.data.toList) ++ ((byN 1 od.size ++ od.data.toList) ++ (byN 6 ut.toNat ++ ((byN 1 sT.size ++ sT.data.toList) ++ (byN 6 ii.toNat ++ (byN 6 ab.toNat ++ (byN 6 gr.toNat ++ (byN 6 li.toNat ++ [])))))))))).toArray.toList = _
  simp
theorem client_ok (tb fl fb : Nat) {T : Ph} {nm : ByteArray} {pu sw : Bool} {fg : Int} {dh od : ByteArray} {ut : Int} {sT : ByteArray} {ii ab gr li : Int} {A : Option Addr} {n c : Nat} (h : ClientIn nm fg dh od ut sT ii ab gr li) (ht : ∀ i v, (clientC nm pu sw dh od ut A n c ii ab gr li)[i]? = some v → T.cell ⟨tb, i, none⟩ = some v) (hl : T.cell ⟨fl, 0, none⟩ = some (.int .i64 fg)) (hf : T.cell ⟨fb, 0, none⟩ = some (.string sT)) : ∀ x ∈ clientFl tb fl fb fg dh od ut sT ii ab gr li, FldOk T x := by
  obtain ⟨r1, r2, r3, r4, c0, c1, c2, c3, c4, c5⟩ := h
  intro x hx
  simp only [clientFl, List.mem_cons, List.not_mem_nil, or_false] at hx
  rcases hx with rfl | rfl | rfl | rfl | rfl | rfl | rfl | rfl | rfl
  · exact ⟨trivial, hl, by show fg ≤ (9223372036854775807 : Int); omega, by show (0 : Nat) ≤ _; omega⟩
  · exact ⟨trivial, ht 3 _ rfl, by show (0 : Int) ≤ _; omega, by show dh.size ≤ _; omega⟩
  · exact ⟨trivial, ht 4 _ rfl, by show (0 : Int) ≤ _; omega, by show od.size ≤ _; omega⟩
  · exact ⟨trivial, ht 5 _ rfl, by show ut ≤ (9223372036854775807 : Int); omega, by show (0 : Nat) ≤ _; omega⟩
  · exact ⟨trivial, hf, by show (0 : Int) ≤ _; omega, by show sT.size ≤ _; omega⟩
  · exact ⟨trivial, ht 7 _ rfl, by show ii ≤ (9223372036854775807 : Int); omega, by show (0 : Nat) ≤ _; omega⟩
  · exact ⟨trivial, ht 8 _ rfl, by show ab ≤ (9223372036854775807 : Int); omega, by show (0 : Nat) ≤ _; omega⟩
  · exact ⟨trivial, ht 9 _ rfl, by show gr ≤ (9223372036854775807 : Int); omega, by show (0 : Nat) ≤ _; omega⟩
  · exact ⟨trivial, ht 10 _ rfl, by show li ≤ (9223372036854775807 : Int); omega, by show (0 : Nat) ≤ _; omega⟩
section
variable {E : World} {S : Ph} {L : List Hp}
set_option maxRecDepth 20000 in
set_option maxHeartbeats 8000000 in
theorem printclient_any (nm : ByteArray) (pu sw : Bool) (dh od : ByteArray) (ut : Int) (A : Option Addr) (n c : Nat) (ii ab gr li : Int) (xs : List ByteArray) (w : World) (hr : Rds S 1 enStr A n xs) (hnc : n ≤ c) (hn43 : n ≤ 8796093022208) (hG : Laid0 E (Hp.ro S :: L)) (h : Own E w (Hp.ro S :: L)) :
    Calls Tryz.prog 40 #[.agg (clientC nm pu sw dh od ut A n c ii ab gr li).toArray] w fun ev w' => ev = .returned (itemV (clientR nm pu sw dh od ut xs ii ab gr li)) ∧ Own E w' (Hp.ro S :: L) := by
  have h1 := h.alloc (.cells (clientC nm pu sw dh od ut A n c ii ab gr li).toArray CLT)
  have h2 := h1.alloc (.cells #[.string ⟨#[]⟩, .string ⟨#[]⟩] ITT)
  rw [alloc_size] at h2
  have H3 := Lib.hid h2
  obtain ⟨dd, hd, hrow⟩ := itt_u
  by_cases hm : clientMay nm pu sw dh od ut xs ii ab gr li
  · have hrg := client_range hm
    have hsc : scErr xs = 0 := hm.2.1
    have hnm : nm.size ≤ 16 := hrg.1
    have hf1 : 0 ≤ flagV pu 1 ∧ flagV pu 1 ≤ 1 := by cases pu <;> decide
    have hf2 : 0 ≤ flagV sw 2 ∧ flagV sw 2 ≤ 2 := by cases sw <;> decide
    have HR : Hid (clientR nm pu sw dh od ut xs ii ab gr li = (clientK nm, clientV (flagV pu 1 + flagV sw 2) dh od ut (scTxt xs) ii ab gr li, 0)) := Lib.hid (if_pos hm)
    have KM : Hid (∀ w3 : World, Own E w3 (Hp.blk (w.heap.size + 1) ITT #[.string ⟨#[]⟩, .string ⟨#[]⟩] :: Hp.blk w.heap.size CLT (clientC nm pu sw dh od ut A n c ii ab gr li).toArray :: Hp.ro S :: L) → Calls Tryz.prog 101 #[.agg (clientC nm pu sw dh od ut A n c ii ab gr li).toArray] w3 fun ev w' => ev = .returned (.bool true) ∧ Own E w' (Hp.blk (w.heap.size + 1) ITT #[.string ⟨#[]⟩, .string ⟨#[]⟩] :: Hp.blk w.heap.size CLT (clientC nm pu sw dh od ut A n c ii ab gr li).toArray :: Hp.ro S :: L)) := Lib.hid fun w3 h3 => (clientmay_any nm pu sw dh od ut A n c ii ab gr li xs w3 hr hnc hn43 (show Own E w3 (Hp.ro S :: Hp.blk (w.heap.size + 1) ITT #[.string ⟨#[]⟩, .string ⟨#[]⟩] :: Hp.blk w.heap.size CLT (clientC nm pu sw dh od ut A n c ii ab gr li).toArray :: L) from h3.f2)).mono fun ev w' he => ⟨by rw [he.1, decide_eq_true hm], he.2.f2.f2⟩
    have KS : Hid (∀ (bf : Nat) (v : Value) (w3 : World), Own E w3 (Hp.blk bf 3 #[v] :: Hp.blk (w.heap.size + 1) ITT #[.string ⟨#[]⟩, .string ⟨#[]⟩] :: Hp.blk w.heap.size CLT (clientC nm pu sw dh od ut A n c ii ab gr li).toArray :: Hp.ro S :: L) → Calls Tryz.prog 82 #[.slice A n c] w3 fun ev w' => ev = .returned (.tuple #[.string (scTxt xs), .bool true]) ∧ Own E w' (Hp.blk bf 3 #[v] :: Hp.blk (w.heap.size + 1) ITT #[.string ⟨#[]⟩, .string ⟨#[]⟩] :: Hp.blk w.heap.size CLT (clientC nm pu sw dh od ut A n c ii ab gr li).toArray :: Hp.ro S :: L)) := Lib.hid fun bf v w3 h3 => (scoped_any A n c xs w3 hr hnc hn43 (show Own E w3 (Hp.ro S :: Hp.blk bf 3 #[v] :: Hp.blk (w.heap.size + 1) ITT #[.string ⟨#[]⟩, .string ⟨#[]⟩] :: Hp.blk w.heap.size CLT (clientC nm pu sw dh od ut A n c ii ab gr li).toArray :: L) from h3.f3)).mono fun ev w' he => ⟨by rw [he.1, decide_eq_true hsc], he.2.f3.f3.f3⟩
    obtain ⟨sT, hsT⟩ : ∃ sT, sT = scTxt xs := ⟨_, rfl⟩
    obtain ⟨fg, hfg⟩ : ∃ fg, fg = flagV pu 1 + flagV sw 2 := ⟨_, rfl⟩
    rw [← hsT, ← hfg] at hrg HR
    rw [← hsT] at KS
    have HP : Hid (∀ (bb bf fb : Nat) (w3 : World), Own E w3 (Hp.blk bb FT ((clientFs w.heap.size bf fb).flatMap enF).toArray :: Hp.blk fb 9 #[.string sT] :: Hp.blk bf 3 #[.int .i64 fg] :: Hp.blk (w.heap.size + 1) ITT #[.string ⟨#[]⟩, .string ⟨#[]⟩] :: Hp.blk w.heap.size CLT (clientC nm pu sw dh od ut A n c ii ab gr li).toArray :: Hp.ro S :: L) →
        Calls Tryz.prog 61 #[.slice (some ⟨bb, 0, none⟩) 9 9] w3 fun ev w' => ev = .returned (.string (clientV fg dh od ut sT ii ab gr li)) ∧ w'.cell? ⟨w.heap.size, 0, none⟩ = some (.string nm) ∧ Own E w' (Hp.blk (w.heap.size + 1) ITT #[.string ⟨#[]⟩, .string ⟨#[]⟩] :: Hp.ro S :: L)) := Lib.hid fun bb bf fb w3 h3 => by
      have h4 : Own E w3 (Hp.ro (Ph.one fb (.cells #[.string sT] 9 (0, 0))) :: Hp.ro (Ph.one bf (.cells #[.int .i64 fg] 3 (0, 0))) :: Hp.ro (Ph.one w.heap.size (.cells (clientC nm pu sw dh od ut A n c ii ab gr li).toArray CLT (0, 0))) :: Hp.blk bb FT ((clientFl w.heap.size bf fb fg dh od ut sT ii ab gr li).flatMap enFld).toArray :: Hp.blk (w.heap.size + 1) ITT #[.string ⟨#[]⟩, .string ⟨#[]⟩] :: Hp.ro S :: L) := h3.f4.f3.f3
      obtain ⟨m1, d1⟩ := h4.merge
      obtain ⟨m2, d2⟩ := m1.merge
      refine (printed_blk bb 9 (clientFl w.heap.size bf fb fg dh od ut sT ii ab gr li) w3 rfl (by omega) (client_ok _ _ _ hrg (fun i v hv => kept_cell d2 (by rw [one_cell, List.getElem?_toArray]; exact hv)) (left_cell (kept_cell d1 (one_cell _ _ _ 0))) (left_cell (left_cell (one_cell _ _ _ 0)))) hG.cons m2.f1).mono ?_
      rw [client_printed _ _ _ hrg]
      rintro ev w' ⟨rfl, h⟩
      exact ⟨rfl, h.rd (kept_cell d2 ((one_cell _ _ _ 0).trans rfl)), h.drop⟩
    have HC : Hid (∀ w', (∃ L', Own E w' (Hp.blk w.heap.size CLT (clientC nm pu sw dh od ut A n c ii ab gr li).toArray :: L')) → (w'.cell? ⟨w.heap.size, 1, none⟩ = some (.bool pu) ∧ w'.cell? ⟨w.heap.size, 2, none⟩ = some (.bool sw)) ∧ w'.cell? ⟨w.heap.size, 0, none⟩ = some (.string nm)) := Lib.hid fun w' ⟨L', h⟩ => ⟨⟨(h.cell 1).trans rfl, (h.cell 2).trans rfl⟩, (h.cell 0).trans rfl⟩
    have hq9 : ¬ 9223372036854775807 < 1 + nm.size := by omega
    have hfw : IntKind.i64.wrap (flagV pu 1 + flagV sw 2) = fg := by rw [hfg, IntKind.wrap_i64]; omega
    have hF1 := flag_any pu 1
    have hF2 := flag_any sw 2
    generalize flagV pu 1 = g1 at *
    generalize flagV sw 2 = g2 at *
    have HF := Lib.hid (And.intro hF1 hF2)
    clear h h1 h2 hG hm hrg hsc hr hsT hfg hF1 hF2 hf1 hf2 hnm
    unfold clientC at *
    go_enter Tryz.func40, Tryz.ntmps40
    go_wp2_with (with_reducible refine (KM.out _ H3.out).mono ?_; clear H3; rintro ev w2 ⟨rfl, h⟩; have H3 := Lib.hid h; clear h)
    go_cut [4] from 7 (fun x4 w' => ∃ bf : Nat, x4 = .pointer (some ⟨bf, 0, none⟩) ∧ Own E w' (Hp.blk bf 3 #[.int .i64 fg] :: Hp.blk (w.heap.size + 1) ITT #[.string ⟨#[]⟩, .string ⟨#[]⟩] :: Hp.blk w.heap.size CLT (clientC nm pu sw dh od ut A n c ii ab gr li).toArray :: Hp.ro S :: L))
    case first =>
      have h := H3.out.drew
      clear H3
      refine wp_region_text [1, 4] (fun w' => w'.cell? ⟨w.heap.size, 1, none⟩ = some (.bool pu) ∧ w'.cell? ⟨w.heap.size, 2, none⟩ = some (.bool sw)) (by kernel_rfl) ?_ (fun hS => ?_)
      · exact (HC.out _ (by first | exact ⟨_, h⟩ | exact ⟨_, h.f1⟩ | exact ⟨_, h.f2⟩ | exact ⟨_, h.f3⟩ | exact ⟨_, h.f4⟩ | exact ⟨_, h.f5⟩ | exact ⟨_, h.f6⟩ | exact ⟨_, h.f7⟩ | exact ⟨_, h.f8⟩ | exact ⟨_, h.f9⟩ | exact ⟨_, h.f10⟩ | exact ⟨_, h.f11⟩ | exact ⟨_, h.f12⟩ | exact ⟨_, h.f13⟩ | exact ⟨_, h.f14⟩ | exact ⟨_, h.f15⟩)).1
      refine gp 0 (some 11) ?_
      refine gl 1 (some 12) ?_
      refine gp 3 (some 14) ?_
      refine gl 4 (some 15) ?_
      refine wpAnyG_two (i := 2) (oi := ⟨some 13, _, _, _, _, _⟩) (j := 7) (oj := ⟨some 4, _, _, _, _, _⟩) (by kernel_rfl) rfl rfl (fun K hK => ?_) (fun K hK => ?_)
      · skip
        rw [if_pos (by rfl)]
        go_simp
        refine (HF.out.1 _).mono ?_
        rintro ev w4 ⟨rfl, rfl⟩
        refine hK.out _ _ ?_ (fun hS => ?_)
        · exact (HC.out _ (by first | exact ⟨_, h⟩ | exact ⟨_, h.f1⟩ | exact ⟨_, h.f2⟩ | exact ⟨_, h.f3⟩ | exact ⟨_, h.f4⟩ | exact ⟨_, h.f5⟩ | exact ⟨_, h.f6⟩ | exact ⟨_, h.f7⟩ | exact ⟨_, h.f8⟩ | exact ⟨_, h.f9⟩ | exact ⟨_, h.f10⟩ | exact ⟨_, h.f11⟩ | exact ⟨_, h.f12⟩ | exact ⟨_, h.f13⟩ | exact ⟨_, h.f14⟩ | exact ⟨_, h.f15⟩)).1
        clear hK K
        try simp only [Act.put, List.setIfInBounds_toArray, List.set_cons_zero, List.set_cons_succ]
        refine wpAnyG_two (i := 5) (oi := ⟨some 16, _, _, _, _, _⟩) (j := 7) (oj := ⟨some 4, _, _, _, _, _⟩) (by kernel_rfl) rfl rfl (fun K hK => ?_) (fun K hK => ?_)
        · skip
          rw [if_pos (by rfl)]
          go_simp
          refine (HF.out.2 _).mono ?_
          rintro ev w4 ⟨rfl, rfl⟩
          refine hK.out _ _ ?_ (fun hS => ?_)
          · exact (HC.out _ (by first | exact ⟨_, h⟩ | exact ⟨_, h.f1⟩ | exact ⟨_, h.f2⟩ | exact ⟨_, h.f3⟩ | exact ⟨_, h.f4⟩ | exact ⟨_, h.f5⟩ | exact ⟨_, h.f6⟩ | exact ⟨_, h.f7⟩ | exact ⟨_, h.f8⟩ | exact ⟨_, h.f9⟩ | exact ⟨_, h.f10⟩ | exact ⟨_, h.f11⟩ | exact ⟨_, h.f12⟩ | exact ⟨_, h.f13⟩ | exact ⟨_, h.f14⟩ | exact ⟨_, h.f15⟩)).1
          clear hK K
          try simp only [Act.put, List.setIfInBounds_toArray, List.set_cons_zero, List.set_cons_succ]
          refine gq 6 (some 17) (.int .i64 fg) ?_ ?_
          · intro w
            go_simp; first | done | rw [hfw]
          refine gk 7 (some 4) (fun K hK => ?_)
          rw [if_pos (by rfl)]
          refine wp_alloc_own (cs := #[.int .i64 0]) (T := 3) h (by go_simp) (fun bf w8 h => ?_)
          refine hK.out _ _ ?_ (fun hS => ?_)
          · exact (HC.out _ (by first | exact ⟨_, h⟩ | exact ⟨_, h.f1⟩ | exact ⟨_, h.f2⟩ | exact ⟨_, h.f3⟩ | exact ⟨_, h.f4⟩ | exact ⟨_, h.f5⟩ | exact ⟨_, h.f6⟩ | exact ⟨_, h.f7⟩ | exact ⟨_, h.f8⟩ | exact ⟨_, h.f9⟩ | exact ⟨_, h.f10⟩ | exact ⟨_, h.f11⟩ | exact ⟨_, h.f12⟩ | exact ⟨_, h.f13⟩ | exact ⟨_, h.f14⟩ | exact ⟨_, h.f15⟩)).1
          clear hK K
          try simp only [Act.put, List.setIfInBounds_toArray, List.set_cons_zero, List.set_cons_succ]
          refine gk 8 none (fun K hK => ?_)
          rw [if_pos (by rfl)]
          first | have h := (h : Own _ _ (Hp.blk bf 3 _ :: _)) | have h := (h.f1 : Own _ _ (Hp.blk bf 3 _ :: _)) | have h := (h.f2 : Own _ _ (Hp.blk bf 3 _ :: _)) | have h := (h.f3 : Own _ _ (Hp.blk bf 3 _ :: _)) | have h := (h.f4 : Own _ _ (Hp.blk bf 3 _ :: _)) | have h := (h.f5 : Own _ _ (Hp.blk bf 3 _ :: _)) | have h := (h.f6 : Own _ _ (Hp.blk bf 3 _ :: _)) | have h := (h.f7 : Own _ _ (Hp.blk bf 3 _ :: _)) | have h := (h.f8 : Own _ _ (Hp.blk bf 3 _ :: _)) | have h := (h.f9 : Own _ _ (Hp.blk bf 3 _ :: _)) | have h := (h.f10 : Own _ _ (Hp.blk bf 3 _ :: _)) | have h := (h.f11 : Own _ _ (Hp.blk bf 3 _ :: _)) | have h := (h.f12 : Own _ _ (Hp.blk bf 3 _ :: _)) | have h := (h.f13 : Own _ _ (Hp.blk bf 3 _ :: _)) | have h := (h.f14 : Own _ _ (Hp.blk bf 3 _ :: _)) | have h := (h.f15 : Own _ _ (Hp.blk bf 3 _ :: _))
          obtain ⟨⟨old, ho⟩, hfz, hs⟩ := h.put1 0 (.int .i64 fg) (show (0 : Nat) < 1 by omega)
          have h : Own E _ (Hp.blk bf 3 #[.int .i64 fg] :: _) := hs
          go_simp
          refine hK.out _ _ ?_ (fun hS => ?_)
          · exact (HC.out _ (by first | exact ⟨_, h⟩ | exact ⟨_, h.f1⟩ | exact ⟨_, h.f2⟩ | exact ⟨_, h.f3⟩ | exact ⟨_, h.f4⟩ | exact ⟨_, h.f5⟩ | exact ⟨_, h.f6⟩ | exact ⟨_, h.f7⟩ | exact ⟨_, h.f8⟩ | exact ⟨_, h.f9⟩ | exact ⟨_, h.f10⟩ | exact ⟨_, h.f11⟩ | exact ⟨_, h.f12⟩ | exact ⟨_, h.f13⟩ | exact ⟨_, h.f14⟩ | exact ⟨_, h.f15⟩)).1
          clear hK K
          try simp only [Act.put]
          refine wpAnyG_done (by kernel_rfl) ?_ _
          refine NoPanic.normal ?_
          go_wp2_with fail
          go_meet
          case rel => exact ⟨bf, rfl, h.ac (by simp only [Hp.all] <;> ac_rfl)⟩
        · skip
          rw [if_pos (by rfl)]
          refine wp_alloc_own (cs := #[.int .i64 0]) (T := 3) h (by go_simp) (fun bf w8 h => ?_)
          refine hK.out _ _ ?_ (fun hS => ?_)
          · exact (HC.out _ (by first | exact ⟨_, h⟩ | exact ⟨_, h.f1⟩ | exact ⟨_, h.f2⟩ | exact ⟨_, h.f3⟩ | exact ⟨_, h.f4⟩ | exact ⟨_, h.f5⟩ | exact ⟨_, h.f6⟩ | exact ⟨_, h.f7⟩ | exact ⟨_, h.f8⟩ | exact ⟨_, h.f9⟩ | exact ⟨_, h.f10⟩ | exact ⟨_, h.f11⟩ | exact ⟨_, h.f12⟩ | exact ⟨_, h.f13⟩ | exact ⟨_, h.f14⟩ | exact ⟨_, h.f15⟩)).1
          clear hK K
          try simp only [Act.put, List.setIfInBounds_toArray, List.set_cons_zero, List.set_cons_succ]
          refine gk 5 (some 16) (fun K hK => ?_)
          rw [if_pos (by rfl)]
          go_simp
          refine (HF.out.2 _).mono ?_
          rintro ev w4 ⟨rfl, rfl⟩
          refine hK.out _ _ ?_ (fun hS => ?_)
          · exact (HC.out _ (by first | exact ⟨_, h⟩ | exact ⟨_, h.f1⟩ | exact ⟨_, h.f2⟩ | exact ⟨_, h.f3⟩ | exact ⟨_, h.f4⟩ | exact ⟨_, h.f5⟩ | exact ⟨_, h.f6⟩ | exact ⟨_, h.f7⟩ | exact ⟨_, h.f8⟩ | exact ⟨_, h.f9⟩ | exact ⟨_, h.f10⟩ | exact ⟨_, h.f11⟩ | exact ⟨_, h.f12⟩ | exact ⟨_, h.f13⟩ | exact ⟨_, h.f14⟩ | exact ⟨_, h.f15⟩)).1
          clear hK K
          try simp only [Act.put, List.setIfInBounds_toArray, List.set_cons_zero, List.set_cons_succ]
          refine gq 6 (some 17) (.int .i64 fg) ?_ ?_
          · intro w
            go_simp; first | done | rw [hfw]
          refine gk 8 none (fun K hK => ?_)
          rw [if_pos (by rfl)]
          first | have h := (h : Own _ _ (Hp.blk bf 3 _ :: _)) | have h := (h.f1 : Own _ _ (Hp.blk bf 3 _ :: _)) | have h := (h.f2 : Own _ _ (Hp.blk bf 3 _ :: _)) | have h := (h.f3 : Own _ _ (Hp.blk bf 3 _ :: _)) | have h := (h.f4 : Own _ _ (Hp.blk bf 3 _ :: _)) | have h := (h.f5 : Own _ _ (Hp.blk bf 3 _ :: _)) | have h := (h.f6 : Own _ _ (Hp.blk bf 3 _ :: _)) | have h := (h.f7 : Own _ _ (Hp.blk bf 3 _ :: _)) | have h := (h.f8 : Own _ _ (Hp.blk bf 3 _ :: _)) | have h := (h.f9 : Own _ _ (Hp.blk bf 3 _ :: _)) | have h := (h.f10 : Own _ _ (Hp.blk bf 3 _ :: _)) | have h := (h.f11 : Own _ _ (Hp.blk bf 3 _ :: _)) | have h := (h.f12 : Own _ _ (Hp.blk bf 3 _ :: _)) | have h := (h.f13 : Own _ _ (Hp.blk bf 3 _ :: _)) | have h := (h.f14 : Own _ _ (Hp.blk bf 3 _ :: _)) | have h := (h.f15 : Own _ _ (Hp.blk bf 3 _ :: _))
          obtain ⟨⟨old, ho⟩, hfz, hs⟩ := h.put1 0 (.int .i64 fg) (show (0 : Nat) < 1 by omega)
          have h : Own E _ (Hp.blk bf 3 #[.int .i64 fg] :: _) := hs
          go_simp
          refine hK.out _ _ ?_ (fun hS => ?_)
          · exact (HC.out _ (by first | exact ⟨_, h⟩ | exact ⟨_, h.f1⟩ | exact ⟨_, h.f2⟩ | exact ⟨_, h.f3⟩ | exact ⟨_, h.f4⟩ | exact ⟨_, h.f5⟩ | exact ⟨_, h.f6⟩ | exact ⟨_, h.f7⟩ | exact ⟨_, h.f8⟩ | exact ⟨_, h.f9⟩ | exact ⟨_, h.f10⟩ | exact ⟨_, h.f11⟩ | exact ⟨_, h.f12⟩ | exact ⟨_, h.f13⟩ | exact ⟨_, h.f14⟩ | exact ⟨_, h.f15⟩)).1
          clear hK K
          try simp only [Act.put]
          refine wpAnyG_done (by kernel_rfl) ?_ _
          refine NoPanic.normal ?_
          go_wp2_with fail
          go_meet
          case rel => exact ⟨bf, rfl, h.ac (by simp only [Hp.all] <;> ac_rfl)⟩
      · skip
        rw [if_pos (by rfl)]
        refine wp_alloc_own (cs := #[.int .i64 0]) (T := 3) h (by go_simp) (fun bf w8 h => ?_)
        refine hK.out _ _ ?_ (fun hS => ?_)
        · exact (HC.out _ (by first | exact ⟨_, h⟩ | exact ⟨_, h.f1⟩ | exact ⟨_, h.f2⟩ | exact ⟨_, h.f3⟩ | exact ⟨_, h.f4⟩ | exact ⟨_, h.f5⟩ | exact ⟨_, h.f6⟩ | exact ⟨_, h.f7⟩ | exact ⟨_, h.f8⟩ | exact ⟨_, h.f9⟩ | exact ⟨_, h.f10⟩ | exact ⟨_, h.f11⟩ | exact ⟨_, h.f12⟩ | exact ⟨_, h.f13⟩ | exact ⟨_, h.f14⟩ | exact ⟨_, h.f15⟩)).1
        clear hK K
        try simp only [Act.put, List.setIfInBounds_toArray, List.set_cons_zero, List.set_cons_succ]
        refine gk 2 (some 13) (fun K hK => ?_)
        rw [if_pos (by rfl)]
        go_simp
        refine (HF.out.1 _).mono ?_
        rintro ev w4 ⟨rfl, rfl⟩
        refine hK.out _ _ ?_ (fun hS => ?_)
        · exact (HC.out _ (by first | exact ⟨_, h⟩ | exact ⟨_, h.f1⟩ | exact ⟨_, h.f2⟩ | exact ⟨_, h.f3⟩ | exact ⟨_, h.f4⟩ | exact ⟨_, h.f5⟩ | exact ⟨_, h.f6⟩ | exact ⟨_, h.f7⟩ | exact ⟨_, h.f8⟩ | exact ⟨_, h.f9⟩ | exact ⟨_, h.f10⟩ | exact ⟨_, h.f11⟩ | exact ⟨_, h.f12⟩ | exact ⟨_, h.f13⟩ | exact ⟨_, h.f14⟩ | exact ⟨_, h.f15⟩)).1
        clear hK K
        try simp only [Act.put, List.setIfInBounds_toArray, List.set_cons_zero, List.set_cons_succ]
        refine gk 5 (some 16) (fun K hK => ?_)
        rw [if_pos (by rfl)]
        go_simp
        refine (HF.out.2 _).mono ?_
        rintro ev w4 ⟨rfl, rfl⟩
        refine hK.out _ _ ?_ (fun hS => ?_)
        · exact (HC.out _ (by first | exact ⟨_, h⟩ | exact ⟨_, h.f1⟩ | exact ⟨_, h.f2⟩ | exact ⟨_, h.f3⟩ | exact ⟨_, h.f4⟩ | exact ⟨_, h.f5⟩ | exact ⟨_, h.f6⟩ | exact ⟨_, h.f7⟩ | exact ⟨_, h.f8⟩ | exact ⟨_, h.f9⟩ | exact ⟨_, h.f10⟩ | exact ⟨_, h.f11⟩ | exact ⟨_, h.f12⟩ | exact ⟨_, h.f13⟩ | exact ⟨_, h.f14⟩ | exact ⟨_, h.f15⟩)).1
        clear hK K
        try simp only [Act.put, List.setIfInBounds_toArray, List.set_cons_zero, List.set_cons_succ]
        refine gq 6 (some 17) (.int .i64 fg) ?_ ?_
        · intro w
          go_simp; first | done | rw [hfw]
        refine gk 8 none (fun K hK => ?_)
        rw [if_pos (by rfl)]
        first | have h := (h : Own _ _ (Hp.blk bf 3 _ :: _)) | have h := (h.f1 : Own _ _ (Hp.blk bf 3 _ :: _)) | have h := (h.f2 : Own _ _ (Hp.blk bf 3 _ :: _)) | have h := (h.f3 : Own _ _ (Hp.blk bf 3 _ :: _)) | have h := (h.f4 : Own _ _ (Hp.blk bf 3 _ :: _)) | have h := (h.f5 : Own _ _ (Hp.blk bf 3 _ :: _)) | have h := (h.f6 : Own _ _ (Hp.blk bf 3 _ :: _)) | have h := (h.f7 : Own _ _ (Hp.blk bf 3 _ :: _)) | have h := (h.f8 : Own _ _ (Hp.blk bf 3 _ :: _)) | have h := (h.f9 : Own _ _ (Hp.blk bf 3 _ :: _)) | have h := (h.f10 : Own _ _ (Hp.blk bf 3 _ :: _)) | have h := (h.f11 : Own _ _ (Hp.blk bf 3 _ :: _)) | have h := (h.f12 : Own _ _ (Hp.blk bf 3 _ :: _)) | have h := (h.f13 : Own _ _ (Hp.blk bf 3 _ :: _)) | have h := (h.f14 : Own _ _ (Hp.blk bf 3 _ :: _)) | have h := (h.f15 : Own _ _ (Hp.blk bf 3 _ :: _))
        obtain ⟨⟨old, ho⟩, hfz, hs⟩ := h.put1 0 (.int .i64 fg) (show (0 : Nat) < 1 by omega)
        have h : Own E _ (Hp.blk bf 3 #[.int .i64 fg] :: _) := hs
        go_simp
        refine hK.out _ _ ?_ (fun hS => ?_)
        · exact (HC.out _ (by first | exact ⟨_, h⟩ | exact ⟨_, h.f1⟩ | exact ⟨_, h.f2⟩ | exact ⟨_, h.f3⟩ | exact ⟨_, h.f4⟩ | exact ⟨_, h.f5⟩ | exact ⟨_, h.f6⟩ | exact ⟨_, h.f7⟩ | exact ⟨_, h.f8⟩ | exact ⟨_, h.f9⟩ | exact ⟨_, h.f10⟩ | exact ⟨_, h.f11⟩ | exact ⟨_, h.f12⟩ | exact ⟨_, h.f13⟩ | exact ⟨_, h.f14⟩ | exact ⟨_, h.f15⟩)).1
        clear hK K
        try simp only [Act.put]
        refine wpAnyG_done (by kernel_rfl) ?_ _
        refine NoPanic.normal ?_
        go_wp2_with fail
        go_meet
        case rel => exact ⟨bf, rfl, h.ac (by simp only [Hp.all] <;> ac_rfl)⟩
    obtain ⟨bf, rfl, hw⟩ := hcut
    have c6 : _ = some (Value.slice A n c) := (hw.f2.cell 6).trans rfl
    have H3 := Lib.hid hw
    clear hw
    go_wp2_with (with_reducible refine (KS.out _ _ _ H3.out).mono ?_; clear H3; rintro ev w2 ⟨rfl, h⟩; have H3 := Lib.hid (h.alloc (.cells #[.string sT] 9)); clear h c6)
    have h := H3.out.drew
    clear H3
    refine wp_region_text [1] (fun w' => w'.cell? ⟨w.heap.size, 0, none⟩ = some (.string nm)) (by kernel_rfl) ?_ (fun hS => ?_)
    · exact (HC.out _ (by first | exact ⟨_, h⟩ | exact ⟨_, h.f1⟩ | exact ⟨_, h.f2⟩ | exact ⟨_, h.f3⟩ | exact ⟨_, h.f4⟩ | exact ⟨_, h.f5⟩ | exact ⟨_, h.f6⟩ | exact ⟨_, h.f7⟩ | exact ⟨_, h.f8⟩ | exact ⟨_, h.f9⟩ | exact ⟨_, h.f10⟩ | exact ⟨_, h.f11⟩ | exact ⟨_, h.f12⟩ | exact ⟨_, h.f13⟩ | exact ⟨_, h.f14⟩ | exact ⟨_, h.f15⟩)).2
    refine gp 0 (some 24) ?_
    refine gl 1 (some 25) ?_
    refine gq 2 (some 26) (.string (clientK nm)) ?_ ?_
    · intro w
      go_simp; rfl
    refine gk 3 (some 27) (fun K hK => ?_)
    rw [if_pos (by rfl)]
    go_simp
    refine (clientfields_any _ _ _ _ h).mono ?_
    clear h
    rintro ev w4 ⟨bb, rfl, h⟩
    refine hK.out _ _ ?_ (fun hS => ?_)
    · exact (HC.out _ (by first | exact ⟨_, h⟩ | exact ⟨_, h.f1⟩ | exact ⟨_, h.f2⟩ | exact ⟨_, h.f3⟩ | exact ⟨_, h.f4⟩ | exact ⟨_, h.f5⟩ | exact ⟨_, h.f6⟩ | exact ⟨_, h.f7⟩ | exact ⟨_, h.f8⟩ | exact ⟨_, h.f9⟩ | exact ⟨_, h.f10⟩ | exact ⟨_, h.f11⟩ | exact ⟨_, h.f12⟩ | exact ⟨_, h.f13⟩ | exact ⟨_, h.f14⟩ | exact ⟨_, h.f15⟩)).2
    clear hK K
    try simp only [Act.put, List.setIfInBounds_toArray, List.set_cons_zero, List.set_cons_succ]
    refine gk 4 (some 28) (fun K hK => ?_)
    rw [if_pos (by rfl)]
    go_simp
    refine (HP.out _ _ _ _ h).mono ?_
    clear h
    rintro ev w5 ⟨rfl, hc4, h⟩
    refine hK.out _ _ ?_ (fun hS => ?_)
    · exact hc4
    clear hK K
    try simp only [Act.put, List.setIfInBounds_toArray, List.set_cons_zero, List.set_cons_succ]
    refine gp 5 (some 29) ?_
    refine wpAnyG_break (i := 6) (oi := ⟨none, _, _, _, _, _⟩) (by kernel_rfl) rfl (by kernel_rfl) (fun K hK => ?_)
    rw [if_pos (by rfl)]
    refine wp_store_whole (cs := [.string ⟨#[]⟩, .string ⟨#[]⟩]) (vs := [.string (clientK nm), .string (clientV fg dh od ut sT ii ab gr li)]) h rfl (pair_one _ _) (by kernel_rfl) rfl rfl rfl (fun w9 h => ?_)
    refine hK.out _ _ ?_
    clear hK K
    try simp only [Act.put]
    refine gp 7 (some 3) ?_
    refine wpAnyG_done (by kernel_rfl) ?_ _
    refine NoPanic.normal ?_
    have H9 := Lib.hid h
    clear h
    go_wp2_with fail
    refine bodyPost_ret (results_ct rfl rfl H9.out hd hrow (by kernel_rfl)) rfl ?_
    exact ⟨by rw [HR.out]; rfl, H9.out.drop⟩
  · have HR : Hid (clientR nm pu sw dh od ut xs ii ab gr li = (noB, noB, 140)) := Lib.hid (if_neg hm)
    have KM : Hid (∀ w3 : World, Own E w3 (Hp.blk (w.heap.size + 1) ITT #[.string ⟨#[]⟩, .string ⟨#[]⟩] :: Hp.blk w.heap.size CLT (clientC nm pu sw dh od ut A n c ii ab gr li).toArray :: Hp.ro S :: L) → Calls Tryz.prog 101 #[.agg (clientC nm pu sw dh od ut A n c ii ab gr li).toArray] w3 fun ev w' => ev = .returned (.bool false) ∧ Own E w' (Hp.blk (w.heap.size + 1) ITT #[.string ⟨#[]⟩, .string ⟨#[]⟩] :: Hp.blk w.heap.size CLT (clientC nm pu sw dh od ut A n c ii ab gr li).toArray :: Hp.ro S :: L)) := Lib.hid fun w3 h3 => (clientmay_any nm pu sw dh od ut A n c ii ab gr li xs w3 hr hnc hn43 (show Own E w3 (Hp.ro S :: Hp.blk (w.heap.size + 1) ITT #[.string ⟨#[]⟩, .string ⟨#[]⟩] :: Hp.blk w.heap.size CLT (clientC nm pu sw dh od ut A n c ii ab gr li).toArray :: L) from h3.f2)).mono fun ev w' he => ⟨by rw [he.1, decide_eq_false hm], he.2.f2.f2⟩
    clear h h1 h2 hG hm hr
    unfold clientC at *
    go_enter Tryz.func40, Tryz.ntmps40
    go_wp2_with (first
      | (with_reducible refine (KM.out _ H3.out).mono ?_; clear H3; rintro ev w2 ⟨rfl, h⟩; have H3 := Lib.hid h; clear h)
      | (with_reducible refine at_slot (k := none) ?_; refine wpList_store_whole (o := ⟨none, _, _, _, _, _⟩) (cs := [.string ⟨#[]⟩, .string ⟨#[]⟩]) (vs := [.string ⟨#[]⟩, .string ⟨#[]⟩]) H3.out rfl (pair_one ⟨#[]⟩ ⟨#[]⟩) (by kernel_rfl) rfl rfl rfl rfl ?_; clear H3; intro w7 h; have H8 := Lib.hid h; clear h))
    refine bodyPost_ret (results_ct rfl rfl H8.out hd hrow (by kernel_rfl)) rfl ?_
    exact ⟨by rw [HR.out]; rfl, H8.out.drop.drop⟩
end
end Go.Proofs.YtabibfabieghpaaGreatDoor
