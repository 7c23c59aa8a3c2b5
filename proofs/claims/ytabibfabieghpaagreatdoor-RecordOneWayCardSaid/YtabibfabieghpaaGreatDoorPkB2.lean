/- scope.gather: a list of names as a map of how often each stands there. (scope.names).told: the names of a map, rising; or that they are too many. Scopes in plain Lean: what is printed is parsed back; what was parsed is a scope. -/
import Derived.Test.YtabibfabieghpaaGreatDoorScp
import Derived.Test.YtabibfabieghpaaGreatDoorPkB
import Derived.Maps.OwnOps
import Derived.Test.YtabibfabieghpaaGreatDoorShelf4
namespace Go.Proofs.YtabibfabieghpaaGreatDoor
open Go.RowKit Go.Maps
abbrev NMT : TypeId := 185
abbrev INT : TypeId := 3
abbrev keyL (s : ByteArray) : Lit := .string s.data.toList
theorem keyL_ne {s t : ByteArray} (h : s ≠ t) : keyL s ≠ keyL t := fun e => h (by
  injection e with e
  exact str_eq_of e)
/-- How often a text stands in a list. -/
def often (s : ByteArray) (xs : List ByteArray) : Nat := (xs.filter fun x => decide (x = s)).length
theorem often_le (s : ByteArray) (xs : List ByteArray) : often s xs ≤ xs.length := List.length_filter_le ..
theorem often_snoc (s x : ByteArray) (xs : List ByteArray) : often s (xs ++ [x]) = often s xs + (if x = s then 1 else 0) := by
  unfold often
  rw [List.filter_append, List.length_append]
  by_cases e : x = s <;> simp [e]
/-- The map has the names of the list, each with how often it stands there. -/
structure Counts (D : DataW Unit) (xs : List ByteArray) : Prop where
  isMap : IsMap D
  at_ : ∀ s, D.atKey (keyL s) (.lit (.int .i64 0)) = .lit (.int .i64 (often s xs))
  has_ : ∀ s, has D (keyL s) = xs.any fun x => decide (x = s)
theorem Counts.nil : Counts (.map []) [] := ⟨⟨_, rfl⟩, fun _ => rfl, fun _ => rfl⟩
theorem Counts.snoc {D : DataW Unit} {xs : List ByteArray} {x : ByteArray} (h : Counts D xs) (hk : WideAt.IsKeyLit (keyL x)) : Counts (D.put (keyL x) (.lit (.int .i64 ((often x xs + 1 : Nat) : Int)))) (xs ++ [x]) := by
  refine ⟨h.isMap.put _ _, fun s => ?_, fun s => ?_⟩
  · rw [often_snoc]
    by_cases e : s = x
    · subst e
      rw [atKey_put_same h.isMap hk, if_pos rfl]
    · rw [atKey_put_other (keyL_ne e), h.at_ s, if_neg (fun e2 => e e2.symm), Nat.add_zero]
  · rw [List.any_append]
    by_cases e : s = x
    · subst e
      rw [has_put_same h.isMap hk]
      simp
    · rw [has_put_other (keyL_ne e), h.has_ s]
      have e3 : ¬ x = s := fun e2 => e e2.symm
      simp [e3]
section
variable {E : World} {S : Ph} {L : List Hp}
theorem nmt_u : Tryz.prog.underlying NMT = some (.map ST INT) := by kernel_rfl
theorem st_keyed : Keyed Tryz.prog ST := string_keyed (by kernel_rfl)
noncomputable abbrev intEl : Value → Option (DataW Unit × List MemPlace) := plainElem Tryz.prog INT
theorem keyL_is (s : ByteArray) : WideAt.IsKeyLit (keyL s) := trivial
theorem zero_int (w : World) : (zeroValue INT).run Tryz.prog w = .ok (.int .i64 0) w := by kernel_rfl
theorem key_of (s : ByteArray) (h : s.size ≤ 16) : keyOf Tryz.prog ST (.string s) = some (keyL s) := WideMaps.keyOf_string_mk (by kernel_rfl) (by unfold maxLen; omega)
theorem lit_eq {a b : Int} (h : (DataW.lit (.int .i64 a) : DataW Unit) = .lit (.int .i64 b)) : a = b := by
  injection h with h
  injection h with _ h
set_option maxRecDepth 20000 in
set_option maxHeartbeats 4000000 in
/-- All are names: the map of them; or not. -/
theorem gather_any (A : Option Addr) (n c : Nat) (xs : List ByteArray) (w : World) (hr : Rds S 1 enStr A n xs) (hn43 : n ≤ 8796093022208) (h : Own E w (Hp.ro S :: L)) :
    Calls Tryz.prog 142 #[.slice A n c] w fun e w' => (xs.all nameB = true ∧ ∃ b D, e = .returned (.tuple #[.map (some b), .int .i64 0]) ∧ Counts D xs ∧ Own E w' (Hp.mp Tryz.prog ST intEl b n D :: Hp.ro S :: L)) ∨
      (xs.all nameB = false ∧ e = .returned (.tuple #[.map none, .int .i64 60]) ∧ Own E w' (Hp.ro S :: L)) := by
  have HN43 := Lib.hid hn43
  have HLEN := Lib.hid hr.1
  have hmm := @run_makeMap Tryz.prog
  have H := Lib.hid (Own.mpMade (P := Tryz.prog) (K := ST) (R := intEl) h)
  clear hn43 h
  go_enter Tryz.func142, Tryz.ntmps142
  go_wp2_with fail
  go_loopw [10] (fun i wr => ∃ (k : Nat) (D : DataW Unit), k ≤ n ∧ i = .int .i64 k ∧ Counts D (xs.take k) ∧ (xs.take k).all nameB = true ∧ Own E wr (Hp.mp Tryz.prog ST intEl w.heap.size k D :: Hp.ro S :: L)) (fun i _ => n - (intOf i).toNat)
  case atStart => exact ⟨0, _, by omega, rfl, Counts.nil, rfl, H.out⟩
  case round =>
    obtain ⟨k, D, hk, rfl, hc, hall, hw⟩ := hrel
    clear H
    by_cases hlt : k < n
    · obtain ⟨x, b, off, hx, rfl, hcc⟩ := hr.get1 hlt
      have hcx := hw.f1.rd (hcc _ rfl)
      have HN := fun h => named_any (E := E) (L := Hp.mp Tryz.prog ST intEl w.heap.size k D :: Hp.ro S :: L) x wr h
      have ht : xs.take (k + 1) = xs.take k ++ [x] := by rw [List.take_add_one, hx]; rfl
      have i1 : (k : Int) < n := by omega
      have HX := Lib.hid hx
      cases hnx : nameB x with
      | false =>
        rw [hnx] at HN
        have HNX := Lib.hid hnx
        clear hx hcc hnx ht hc hr hall hk hlt
        go_wp2_with (refine (HN hw).mono ?_; clear HN hw; rintro e wr2 ⟨rfl, hw⟩; have H2 := Lib.hid hw; clear hw)
        go_ret2
        refine .inr ⟨?_, rfl, H2.out.drop⟩
        cases e : xs.all nameB with
        | false => rfl
        | true => have := List.all_eq_true.1 e x (List.mem_of_getElem? HX.out); rw [HNX.out] at this; cases this
      | true =>
        rw [hnx] at HN
        have hkx := key_of x (nm_size hnx)
        have HT := Lib.hid ht
        have HC := Lib.hid hc
        have HALL := Lib.hid hall
        have HNX := Lib.hid hnx
        have HK := Lib.hid hlt
        have i5 : wrap64 ((k : Int) + 1) = ((k + 1 : Nat) : Int) := by have := HN43.out; unfold wrap64; omega
        have hof : often x (xs.take k) ≤ k := Nat.le_trans (often_le _ _) (by rw [List.length_take]; omega)
        have HAT := Lib.hid (hc.at_ x)
        have HSN := Lib.hid (hc.snoc (keyL_is x))
        generalize often x (xs.take k) = q at *
        have i6 : wrap64 ((q : Int) + 1) = ((q + 1 : Nat) : Int) := by have := HN43.out; unfold wrap64; omega
        have WF : (Lit.int .i64 (((q + 1 : Nat) : Int))).wf = true := by have := HN43.out; exact WalkArith.wf_i64 (by omega)
        have HKM := Lib.hid (show k < maxLen by have := HN43.out; unfold maxLen; omega)
        clear hx hcc hnx ht hc hr hall hof hk hlt
        go_wp2_with (first
          | (refine (HN hw).mono ?_; clear HN hw; rintro e wr2 ⟨rfl, hw⟩; have H2 := Lib.hid hw; clear hw)
          | (at_lookup; refine wpList_lookup_own_int _ rfl _ _ NMT rfl ST INT .i64 st_keyed nmt_u (by kernel_rfl) (zero_int _) w.heap.size k D rfl H2.out.mpOwns _ _ rfl hkx ?_; intro c7 hat hwc; obtain rfl := lit_eq (HAT.out.symm.trans hat))
          | (at_mapUpdate; refine wpList_mapUpdate_own _ rfl _ _ _ NMT rfl ST INT st_keyed nmt_u intEl w.heap.size k D rfl H2.out.mpOwns HKM.out _ (.int .i64 ((q + 1 : Nat) : Int)) _ rfl (by first | rfl | (rw [← i6]; rfl) | (simp [i6])) hkx _ [] (plainElem_int (by kernel_rfl) WF) ?_; intro w1 hown1 hgrow1; have H3 := Lib.hid (H2.out.mpTurn hown1 hgrow1); clear H2 hown1 hgrow1))
        go_roundw
        case rel => exact ⟨k + 1, _, by have := HK.out; omega, by rw [i5], by rw [HT.out]; exact HSN.out, by rw [HT.out, List.all_append, HALL.out]; simp [HNX.out], H3.out⟩
        case measure =>
          have := HK.out
          rw [i5]
          simp only [intOf]
          omega
    · obtain rfl : k = n := by omega
      have e9 : xs.take k = xs := List.take_of_length_le (by rw [HLEN.out]; omega)
      rw [e9] at hc hall
      have HC := Lib.hid hc
      have HALL := Lib.hid hall
      have i1 : ¬ (k : Int) < (k : Int) := by omega
      have H2 := Lib.hid hw
      clear hw hc hall
      go_wp2_with fail
      go_ret2
      exact .inl ⟨List.all_eq_true.1 HALL.out, w.heap.size, rfl, D, HC.out, H2.out⟩
end
end Go.Proofs.YtabibfabieghpaaGreatDoor
namespace Go.Proofs.YtabibfabieghpaaGreatDoor
open Go.RowKit Go.Maps Go.Sort
/-- The bytes of a scope's text and one. -/
def bytesL (l : List ByteArray) : Nat := (l.map fun s => s.size + 1).sum
theorem bytesL_snoc (l : List ByteArray) (s : ByteArray) : bytesL (l ++ [s]) = bytesL l + (s.size + 1) := by simp [bytesL]
theorem bytesL_perm {l m : List ByteArray} (h : l.Perm m) : bytesL l = bytesL m := (h.map _).sum_nat
theorem bytesL_le {l : List ByteArray} (h : ∀ s ∈ l, s.size ≤ 16) : bytesL l ≤ 17 * l.length := by
  induction l with
  | nil => simp [bytesL]
  | cons a l ih =>
    have h1 := h a (List.mem_cons_self ..)
    have h2 := ih fun s hs => h s (List.mem_cons_of_mem _ hs)
    simp only [bytesL, List.map_cons, List.sum_cons, List.length_cons] at h2 ⊢
    omega
/-- Few and short enough for a scope? -/
def fitL (l : List ByteArray) : Bool := decide (l.length ≤ 8) && decide (bytesL l ≤ 61)
def manyE (l : List ByteArray) : Int := if fitL l then 0 else 61
def fewL (l : List ByteArray) : List ByteArray := if fitL l then l else []
/-- What has come of a map's names. -/
structure Got (ks : List ByteArray) (left : Lit → Bool) (done : List ByteArray) : Prop where
  nodup : done.Nodup
  mem_ : ∀ s, s ∈ done ↔ (s ∈ ks ∧ left (keyL s) = false)
theorem Got.start {ks : List ByteArray} {D : DataW Unit} (hk : ∀ s, has D (keyL s) = true ↔ s ∈ ks) : Got ks (has D) [] :=
  ⟨List.nodup_nil, fun s => by
    constructor
    · intro h; cases h
    · rintro ⟨h1, h2⟩; rw [(hk s).2 h1] at h2; cases h2⟩
theorem Got.step {ks done : List ByteArray} {left : Lit → Bool} (h : Got ks left done) {x : ByteArray} (hx : x ∈ ks) (hl : left (keyL x) = true) : Got ks (fun z => left z && !z.sameKey (keyL x)) (done ++ [x]) := by
  have hnew : x ∉ done := fun h1 => by have := ((h.mem_ x).1 h1).2; rw [hl] at this; cases this
  refine ⟨List.nodup_append.2 ⟨h.nodup, by simp, fun a ha b hb => by simp at hb; subst hb; exact fun e => hnew (e ▸ ha)⟩, fun s => ?_⟩
  rw [List.mem_append, h.mem_ s]
  by_cases e : s = x
  · subst e
    simp [hx, WideAt.sameKey_self (keyL_is s)]
  · simp [e, sameKey_ne (keyL_ne e)]
theorem Got.perm {ks done : List ByteArray} {left : Lit → Bool} (h : Got ks left done) (hl : ∀ kl, left kl = false) : done.Perm (sortL ks) :=
  nodup_perm h.nodup (rise_sortL ks).nodup fun s => by rw [h.mem_, mem_sortL, hl]; simp
section
variable {E : World} {S : Ph} {L : List Hp}
theorem st_info : (Tryz.prog.info? ST).map (fun i => (i.zero, i.size, i.bytes)) = some (some (.string ⟨#[]⟩), 1, 16) := by kernel_rfl
theorem st_str : Tryz.prog.underlying ST = some .string := by kernel_rfl
theorem key_inv {kl : Lit} {s : ByteArray} (h : keyOf Tryz.prog ST (.string s) = some kl) : kl = keyL s := by
  obtain ⟨x, e, h2, h3⟩ := Maps.keyOf_str st_str h
  have e2 : s = ⟨x.toArray⟩ := Value.string.inj e
  rw [h2, e2]
theorem key_string {key : Value} {kl : Lit} (h : keyOf Tryz.prog ST key = some kl) : ∃ s, key = .string s := by
  obtain ⟨x, e, h2, h3⟩ := Maps.keyOf_str st_str h
  exact ⟨_, e⟩
theorem map_enc (l : List ByteArray) : (l.map fun s => s.data.toList).map encStr = l.map Value.string := by
  rw [List.map_map]
  exact List.map_congr_left fun s _ => rfl
theorem sort_any (A : Option Addr) (c : Nat) (l : List ByteArray) (hd : l.Nodup) (hl : l.length ≤ 8796093022208) (w : World) (h : Own E w (Hp.lst ST (.slice A l.length c) (l.map Value.string) :: L)) :
    Calls Tryz.prog 157 #[.slice A l.length c] w fun e w' => e = .returned (.tuple #[]) ∧ Own E w' (Hp.lst ST (.slice A l.length c) ((sortL l).map Value.string) :: L) := by
  by_cases h0 : l = []
  · subst h0
    refine (Tryz.slices_Sort_string_none A c w).mono ?_
    rintro e w' ⟨rfl, rfl⟩
    exact ⟨rfl, h⟩
  · obtain ⟨A', c', hv, -, -, ⟨e1, -⟩ | ⟨g, cur, rfl, -, -, -⟩⟩ := h.lstForm
    · exact absurd (List.map_eq_nil_iff.1 e1) h0
    · injection hv with q1 q2 q3
      subst q1
      rw [← map_enc] at h ⊢
      have hlen : (l.map fun s : ByteArray => s.data.toList).length = l.length := List.length_map ..
      have h9 : Own E w (Hp.lst ST (.slice (some ⟨g, 0, none⟩) (l.map fun s : ByteArray => s.data.toList).length c) ((l.map fun s : ByteArray => s.data.toList).map encStr) :: L) := by rw [hlen]; exact h
      have hpos : 0 < (l.map fun s : ByteArray => s.data.toList).length := by rw [hlen]; exact List.length_pos_iff.2 h0
      obtain ⟨hH, hlt⟩ := h9.lstHolds hpos
      have c0 := Tryz.slices_Sort_string g 0 c (l.map fun s => s.data.toList) w hH hlt (by rw [hlen]; omega)
      rw [hlen] at c0
      refine c0.mono ?_
      rintro e w' ⟨rfl, n, os, rfl⟩
      have h10 := h9.sorted hpos (ys := (l.map fun s : ByteArray => s.data.toList).mergeSort fun x y => decide (x ≤ y)) (by rw [List.length_mergeSort]) n os
      refine ⟨rfl, ?_⟩
      rw [mergeSort_eq hd, hlen] at h10
      rw [mergeSort_eq hd]
      exact h10
set_option maxRecDepth 20000 in
set_option maxHeartbeats 4000000 in
theorem sctold_any (b n : Nat) (D : DataW Unit) (ks : List ByteArray) (w : World) (hk : ∀ s, has D (keyL s) = true ↔ s ∈ ks) (hs : ∀ s ∈ ks, s.size ≤ 16) (hn : n ≤ 8796093022208) (h : Own E w (Hp.mp Tryz.prog ST intEl b n D :: L)) :
    Calls Tryz.prog 144 #[.map (some b)] w fun e w' => ∃ v, e = .returned (.tuple #[v, .int .i64 (manyE (sortL ks))]) ∧ Own E w' (Hp.lst ST v ((fewL (sortL ks)).map Value.string) :: Hp.mp Tryz.prog ST intEl b n D :: L) := by
  have HK := Lib.hid hk
  have HS := Lib.hid hs
  have hsz := h.mpOwns.size_le
  obtain ⟨m, hm⟩ : ∃ m, m = Maps.size D := ⟨_, rfl⟩
  rw [← hm] at hsz
  obtain ⟨w1, hmk, hw1, h1, -⟩ := sl_make (P := Tryz.prog) (T := LST) (e := ST) (z := .string ⟨#[]⟩) lst_u st_info rfl .i64 .i64 0 m (Nat.zero_le _) (by omega) (by unfold maxLen; omega) h
  obtain ⟨g, hg⟩ : ∃ g, g = w.heap.size := ⟨_, rfl⟩
  rw [← hg] at hmk h1
  have hmk' : (Instr.makeSlice LST (.int .i64 0) (.int .i64 m)).run Tryz.prog w = .ok (.slice (some ⟨g, 0, none⟩) 0 m) w1 := hmk
  have H := Lib.hid (show Own E w1 (Hp.lst ST (.slice (some ⟨g, 0, none⟩) 0 m) [] :: Hp.mp Tryz.prog ST intEl b n D :: L) from h1.rowLst)
  have HM := Lib.hid h
  have HMS := Lib.hid hm
  have HMN := Lib.hid (show m ≤ 8796093022208 by omega)
  clear hn hs hsz hk h h1 hmk hw1 hm hg
  go_enter Tryz.func144, Tryz.ntmps144
  go_wp2_with (first
    | (at_len; refine wpList_len_own _ rfl _ NMT rfl ST INT nmt_u intEl b n D rfl HM.out.mpOwns ?_; rw [← HMS.out])
    | (with_reducible refine at_slot (k := some 9) ?_; refine wpList_make_run (o := ⟨some 9, _, _, _, _, _⟩) hmk' rfl rfl rfl rfl ?_; clear hmk')
    | (at_range; refine wpList_range_own _ rfl _ NMT rfl ST INT st_keyed nmt_u intEl b n D rfl H.out.f1.mpOwns ?_; intro w2 hrg2 hg2 hs2; have H2 := Lib.hid (H.out.f1.rngStart hrg2 hg2); clear hrg2 hg2 hs2)
    | go_in)
  go_frame
  go_loopw [4, 5] (fun v i wr => ∃ (done : List ByteArray) (left : Lit → Bool) (cnt c : Nat) (A : Option Addr), v = .slice A done.length c ∧ i = .int .i64 (bytesL done) ∧ Got ks left done ∧ done.length + cnt ≤ m ∧ Own E wr (Hp.lst ST (.slice A done.length c) (done.map Value.string) :: Hp.rng Tryz.prog ST intEl b w1.heap.size n D left cnt :: L)) (fun _ _ wr => wr.rangeLeft b w1.heap.size)
  case atStart => exact ⟨[], has D, Maps.size D, m, some ⟨g, 0, none⟩, rfl, rfl, Got.start HK.out, by rw [← HMS.out]; simp, H2.out.f1⟩
  case round =>
    obtain ⟨done, left, cnt, c, A, rfl, rfl, hgot, hcnt, hw⟩ := hrel
    clear H H2 HM
    have HW := Lib.hid hw
    have HGOT := Lib.hid hgot
    have HCNT := Lib.hid hcnt
    have HBL := Lib.hid (bytesL_le fun s h => HS.out s ((hgot.mem_ s).1 h).1)
    clear hw hgot hcnt
    go_wp2_with (first
      | (at_next; refine wpList_next_ranges _ rfl _ rfl ST st_keyed intEl Value.string id (fun key kl hk => key_string hk) (fun v _ _ => ⟨v, rfl⟩) b w1.heap.size n _ _ _ rfl HW.out.f1.ranges ?_ ?_)
      | go_in)
    · intro hc0 hl0
      have hp := HGOT.out.perm hl0
      have e1 := hp.length_eq
      have e2 := bytesL_perm hp
      have HE : Hid (manyE (sortL ks) = (if done.length ≤ 8 ∧ bytesL done ≤ 61 then 0 else 61) ∧ fewL (sortL ks) = if done.length ≤ 8 ∧ bytesL done ≤ 61 then sortL ks else []) := Lib.hid (by
        unfold manyE fewL fitL
        rw [← e1, ← e2]
        by_cases q1 : done.length ≤ 8 <;> by_cases q2 : bytesL done ≤ 61 <;> simp [q1, q2])
      have ES : Hid (sortL done = sortL ks) := Lib.hid (sortL_congr fun x => by rw [hp.mem_iff, mem_sortL])
      have hd43 : done.length ≤ 8796093022208 := by have := HMN.out; have := HCNT.out; omega
      have KS := Lib.hid fun w4 h => sort_any (E := E) (L := Hp.mp Tryz.prog ST intEl b n D :: L) A c done HGOT.out.nodup hd43 w4 h
      have H5 := Lib.hid HW.out.f1.rngMap.f1
      clear hc0 hl0 hp e1 e2 hd43 HGOT HW
      rcases (by omega : 8 < done.length ∨ (done.length ≤ 8 ∧ 61 < bytesL done) ∨ (done.length ≤ 8 ∧ bytesL done ≤ 61)) with q | ⟨q, q2⟩ | ⟨q, q2⟩
      · have i1 : (8 : Int) < done.length := by omega
        go_wp2_with fail
        go_ret2
        obtain ⟨e1, e2⟩ := HE.out
        rw [if_neg (by omega)] at e1 e2
        rw [e1, e2]
        exact ⟨_, rfl, H5.out.drop.emptyLst ST none⟩
      · have i1 : ¬ (8 : Int) < done.length := by omega
        have i2 : (61 : Int) < bytesL done := by omega
        go_wp2_with fail
        go_ret2
        obtain ⟨e1, e2⟩ := HE.out
        rw [if_neg (by omega)] at e1 e2
        rw [e1, e2]
        exact ⟨_, rfl, H5.out.drop.emptyLst ST none⟩
      · have i1 : ¬ (8 : Int) < done.length := by omega
        have i2 : ¬ (61 : Int) < bytesL done := by omega
        go_wp2_with (with_reducible refine (KS.out _ H5.out).mono ?_; clear KS H5; rintro e w5 ⟨rfl, h⟩; have H6 := Lib.hid h; clear h)
        go_ret2
        obtain ⟨e1, e2⟩ := HE.out
        rw [if_pos ⟨q, q2⟩] at e1 e2
        rw [e1, e2, ← ES.out]
        exact ⟨_, rfl, H6.out⟩
    · intro x cv kl y yp w3 cnt3 hkey hlk hv hat hrg hlt hg3 hs3 hen
      obtain rfl := key_inv hkey
      have hx : x ∈ ks := (HK.out x).1 (has_true_of_atKey hat)
      have hx16 := HS.out x hx
      have hst := HGOT.out.step hx hlk
      have h3 := HW.out.f1.rngStep hrg hg3
      have hal := h3.alloc (.cells #[.string x] ST)
      obtain ⟨v', w4, hap, h4⟩ := lst_append (P := Tryz.prog) (t := LST) (ty := LST) lst_u st_info rfl hal.f2 (some ⟨w3.heap.size, 0, none⟩) 1 1 [.string x] rfl (hal.rdc 0 _ (fun j u hu => by simpa using hu)) (by simp [Value.oneCell']) (by have := HMN.out; have := HCNT.out; unfold maxLen; rw [List.length_map]; omega) (by have := HMN.out; have := HCNT.out; rw [List.length_map]; omega)
      obtain ⟨A', c', rfl, -⟩ := h4.lstSlice
      have e3 : done.map Value.string ++ [.string x] = (done ++ [x]).map Value.string := by simp
      rw [e3, List.length_map] at h4
      rw [e3, List.length_map] at hap
      have H4 := Lib.hid h4.f2
      have HST := Lib.hid hst
      have HLT := Lib.hid hlt
      have HL := Lib.hid HW.out.f1.ranges.left_eq
      have i2 : wrap64 ((x.size : Int) + 1) = (x.size : Int) + 1 := by unfold wrap64; omega
      have i3 : wrap64 ((bytesL done : Int) + ((x.size : Int) + 1)) = (bytesL (done ++ [x]) : Int) := by have := HBL.out; have := HMN.out; have := HCNT.out; rw [bytesL_snoc]; unfold wrap64; omega
      clear hkey hlk hv hat hrg hlt hg3 hs3 hx hst h3 hal h4 e3 HW HGOT
      go_wp2_with (with_reducible refine at_slot (k := some 19) ?_; refine wpList_append_run (o := ⟨some 19, _, _, _, _, _⟩) hap rfl rfl rfl rfl ?_; clear hap)
      go_roundw
      case rel => exact ⟨done ++ [x], _, cnt3, c', A', by simp, by rw [i3], HST.out, by have := HLT.out; have := HCNT.out; simp only [List.length_append, List.length_singleton]; omega, H4.out.f2.drop.f1⟩
      case measure => rw [H4.out.ranges.left_eq, HL.out]; exact HLT.out
/-- internal/bytealg.MaxLen holds an int. -/
def Max0 (E : World) (L : List Hp) : Prop := ∃ m : Int, ∀ w, Own E w L → w.cell? ⟨0, 0, none⟩ = some (.int .i64 m)
theorem Max0.cons {A : Hp} (h : Max0 E L) : Max0 E (A :: L) := h.imp fun _ h w hw => h w hw.drop
theorem Own.opened {w : World} {A : Hp} (h : Own E w (A :: L)) : ∃ a, A a ∧ Own E w (Hp.ro a :: L) := by
  obtain ⟨h1, h2, h3, x, hx, a, c, hd, rfl, hA, hL⟩ := h
  exact ⟨a, hA, h1, h2, h3, _, hx, a, c, hd, rfl, rfl, hL⟩
/-- scope.Parse of a text: its names, or what is wrong. -/
def parseV (s : ByteArray) : List ByteArray × Int :=
  if s.size = 0 then ([], 0) else if (pieces s).all nameB = true then (fewL (sortL (pieces s)), manyE (sortL (pieces s))) else ([], 60)
theorem manyE_cases (l : List ByteArray) : (manyE l = 0 ∧ fewL l = l) ∨ (manyE l = 61 ∧ fewL l = []) := by
  unfold manyE fewL
  cases fitL l <;> simp
set_option maxRecDepth 20000 in
set_option maxHeartbeats 4000000 in
theorem scparse_any (s : ByteArray) (w : World) (hs : s.size ≤ 4000000000) (hM : Max0 E L) (h : Own E w L) :
    Calls Tryz.prog 128 #[.string s] w fun e w' => ∃ v, e = .returned (.tuple #[v, .int .i64 (parseV s).2]) ∧ Own E w' (Hp.lst ST v ((parseV s).1.map Value.string) :: L) := by
  by_cases h0 : s.size = 0
  · have e0 : parseV s = ([], 0) := by unfold parseV; rw [if_pos h0]
    rw [e0]
    obtain rfl := size_zero h0
    have H := Lib.hid h
    clear h h0 hs
    go_enter Tryz.func128, Tryz.ntmps128
    go_wp2_with fail
    go_ret2
    exact ⟨_, rfl, H.out.emptyLst ST none⟩
  · have hne : s.toList.isEmpty = false := by
      rw [ByteArray.toList_eq, List.isEmpty_eq_false_iff]
      intro e
      exact h0 (by have := congrArg List.length e; simpa using this)
    obtain ⟨m, hm⟩ := hM
    obtain ⟨hl, hc⟩ := pieces_len s
    have KP := Tryz.strings_Split s spB m w (by omega) (hm w h) (by decide)
    have ha := (h.alloc (.cells ((pieces s).map Value.string).toArray ST))
    obtain ⟨S, hS, hb⟩ := (Own.mtoLst (xs := (pieces s).map Value.string) ha.toMk ((pieces s).length) (by simp) (by unfold maxLen; omega) (by simp) (by rw [List.take_of_length_le (by simp)])).opened
    rw [List.length_map] at hS
    have hrd := (lst_rds hS).1
    have e0 : parseV s = if (pieces s).all nameB = true then (fewL (sortL (pieces s)), manyE (sortL (pieces s))) else ([], 60) := by unfold parseV; rw [if_neg h0]
    have E0 := Lib.hid e0
    have KG := Lib.hid fun w3 h => gather_any (E := E) (S := S) (L := L) (some ⟨w.heap.size, 0, none⟩) (pieces s).length (pieces s).length (pieces s) w3 hrd (by omega) h
    have KT := Lib.hid fun b D w3 (hC : Counts D (pieces s)) (ha : (pieces s).all nameB = true) h => sctold_any (E := E) (L := Hp.ro S :: L) b (pieces s).length D (pieces s) w3 (fun x => by rw [hC.has_]; simp) (fun x hx => nm_size (List.all_eq_true.1 ha x hx)) (by omega) h
    have KP' : Hid (Calls Tryz.prog 143 #[.string s, .string spB] w fun e w' => e = .returned (.slice (some ⟨w.heap.size, 0, none⟩) (pieces s).length (pieces s).length) ∧ Own E w' (Hp.ro S :: L)) := Lib.hid (by
      refine KP.mono ?_
      rintro e w' ⟨rfl, rfl⟩
      rw [hl]
      exact ⟨rfl, hb⟩)
    clear h h0 hs hm ha hb hS hrd e0 KP hl hc
    generalize pieces s = ps at *
    obtain ⟨pn, hpn⟩ : ∃ pn, pn = ps.length := ⟨_, rfl⟩
    rw [← hpn] at KG KT KP'
    clear hpn
    generalize w.heap.size = g at *
    cases hall : ps.all nameB with
    | true =>
      have HA := Lib.hid hall
      have KG2 : Hid (∀ w3, Own E w3 (Hp.ro S :: L) → Calls Tryz.prog 142 #[.slice (some ⟨g, 0, none⟩) pn pn] w3 fun e w' => ∃ b, e = .returned (.tuple #[.map (some b), .int .i64 0]) ∧ ∃ D, Counts D ps ∧ Own E w' (Hp.mp Tryz.prog ST intEl b pn D :: Hp.ro S :: L)) := Lib.hid fun w3 h => (KG.out w3 h).mono fun e w' hor => by
        rcases hor with ⟨-, b, D, he, h1, h2⟩ | ⟨h1, -, -⟩
        · exact ⟨b, he, D, h1, h2⟩
        · rw [h1] at hall; cases hall
      clear KG hall
      go_enter Tryz.func128, Tryz.ntmps128
      go_wp2_with (first
        | (with_reducible refine KP'.out.mono ?_; clear KP'; rintro e w2 ⟨rfl, h⟩; have H2 := Lib.hid h; clear h)
        | (with_reducible refine (KG2.out _ H2.out).mono ?_; clear KG2 H2; rintro e w3 ⟨b, rfl, D, hC, h⟩; have HC := Lib.hid hC; have H3 := Lib.hid h; clear h hC)
        | (with_reducible refine (KT.out _ _ _ HC.out HA.out H3.out).mono ?_; clear KT H3; rintro e w4 ⟨v, rfl, h⟩; have H4 := Lib.hid h; clear h))
      go_ret2
      rw [E0.out, if_pos HA.out]
      exact ⟨v, rfl, H4.out.f1.drop.f1.drop⟩
    | false =>
      have HA := Lib.hid hall
      have KG2 : Hid (∀ w3, Own E w3 (Hp.ro S :: L) → Calls Tryz.prog 142 #[.slice (some ⟨g, 0, none⟩) pn pn] w3 fun e w' => e = .returned (.tuple #[.map none, .int .i64 60]) ∧ Own E w' (Hp.ro S :: L)) := Lib.hid fun w3 h => (KG.out w3 h).mono fun e w' hor => by
        rcases hor with ⟨h1, -⟩ | ⟨-, he, h2⟩
        · rw [h1] at hall; cases hall
        · exact ⟨he, h2⟩
      clear KG hall KT
      go_enter Tryz.func128, Tryz.ntmps128
      go_wp2_with (first
        | (with_reducible refine KP'.out.mono ?_; clear KP'; rintro e w2 ⟨rfl, h⟩; have H2 := Lib.hid h; clear h)
        | (with_reducible refine (KG2.out _ H2.out).mono ?_; clear KG2 H2; rintro e w3 ⟨rfl, h⟩; have H3 := Lib.hid h; clear h))
      go_ret2
      rw [E0.out, if_neg (by rw [HA.out]; decide)]
      exact ⟨_, rfl, H3.out.drop.emptyLst ST none⟩
end
end Go.Proofs.YtabibfabieghpaaGreatDoor
namespace Go.Proofs.YtabibfabieghpaaGreatDoor
open Go.RowKit
theorem join_len (xs : List ByteArray) : (joinL xs).length + 1 = (if xs = [] then 1 else bytesL xs) := by
  cases xs with
  | nil => rfl
  | cons x r =>
    rw [if_neg (by simp)]
    show (x.data.toList ++ r.flatMap fun y => 32 :: y.data.toList).length + 1 = (x.size + 1) + (r.map fun s => s.size + 1).sum
    have h : ∀ r : List ByteArray, (r.flatMap fun y => 32 :: y.data.toList).length = (r.map fun s => s.size + 1).sum := fun r => by
      induction r with
      | nil => rfl
      | cons y r ih => rw [List.flatMap_cons, List.length_append, ih, List.map_cons, List.sum_cons]; rfl
    rw [List.length_append, h r]
    show x.size + _ + 1 = _
    omega
theorem fit_iff (xs : List ByteArray) : fitL xs = true ↔ xs.length ≤ 8 ∧ (joinL xs).length ≤ 60 := by
  have h := join_len xs
  unfold fitL
  simp only [Bool.and_eq_true, decide_eq_true_eq]
  by_cases e : xs = []
  · subst e; simp [bytesL, joinL]
  · rw [if_neg e] at h
    omega
/-- Names that rise: a scope, if they fit. -/
theorem scErr_rise {xs : List ByteArray} (hn : xs.all nameB = true) (hr : Rise xs) : scErr xs = manyE xs := by
  have e : scOk xs = true := by unfold scOk; rw [hn, rise_risesB hr]; rfl
  unfold scErr manyE
  rw [if_pos e]
  by_cases hf : fitL xs = true
  · rw [if_pos hf, if_pos ((fit_iff xs).1 hf)]
  · rw [if_neg hf, if_neg (fun h => hf ((fit_iff xs).2 h))]
theorem scErr_zero {xs : List ByteArray} (h : scErr xs = 0) : xs.all nameB = true ∧ Rise xs ∧ fitL xs = true := by
  unfold scErr at h
  split at h
  · rename_i hok
    unfold scOk at hok
    rw [Bool.and_eq_true] at hok
    split at h
    · rename_i hf
      exact ⟨hok.1, risesB_rise hok.2, (fit_iff xs).2 hf⟩
    · cases h
  · cases h
theorem scErr_of {xs : List ByteArray} (hn : xs.all nameB = true) (hr : Rise xs) (hf : fitL xs = true) : scErr xs = 0 := by
  rw [scErr_rise hn hr]; unfold manyE; rw [if_pos hf]
theorem ok_not_space {c : UInt8} (h : okC c = true) : c ≠ 32 := by rintro rfl; revert h; decide
theorem name_no_space {s : ByteArray} (h : nameB s = true) : ∀ c ∈ s.data.toList, c ≠ 32 := by
  unfold nameB at h
  simp only [Bool.and_eq_true] at h
  exact fun c hc => ok_not_space (List.all_eq_true.1 h.1.1 c hc)
theorem cut_join : ∀ {xs : List ByteArray}, xs ≠ [] → xs.all nameB = true → cutL (joinL xs) = xs.map fun s => s.data.toList
  | [], h, _ => absurd rfl h
  | [x], _, hn => by
    show cutL (x.data.toList ++ []) = _
    rw [List.append_nil]
    exact cutL_whole (name_no_space (List.all_eq_true.1 hn x (List.mem_cons_self ..)))
  | x :: y :: r, _, hn => by
    have h1 := List.all_eq_true.1 hn
    show cutL (x.data.toList ++ 32 :: (y.data.toList ++ r.flatMap fun y => 32 :: y.data.toList)) = _
    rw [cutL_hit _ (name_no_space (h1 x (List.mem_cons_self ..)))]
    have ih := cut_join (xs := y :: r) (by simp) (List.all_eq_true.2 fun z hz => h1 z (List.mem_cons_of_mem _ hz))
    have ih' : cutL (y.data.toList ++ r.flatMap fun y => 32 :: y.data.toList) = (y :: r).map fun s => s.data.toList := ih
    rw [ih']
    rfl
theorem name_pos {s : ByteArray} (h : nameB s = true) : 0 < s.size := by
  unfold nameB at h
  simp only [Bool.and_eq_true, decide_eq_true_eq] at h
  exact h.1.2
/-- Parse of Print. -/
theorem parse_print {xs : List ByteArray} (h : scErr xs = 0) : parseV (scTxt xs) = (xs, 0) := by
  obtain ⟨hn, hr, hf⟩ := scErr_zero h
  have e : scTxt xs = ⟨(joinL xs).toArray⟩ := by unfold scTxt; rw [if_pos h]
  rw [e]
  by_cases h0 : xs = []
  · subst h0; rfl
  · have hp : pieces ⟨(joinL xs).toArray⟩ = xs := pieces_of (cut_join h0 hn)
    have hs : (⟨(joinL xs).toArray⟩ : ByteArray).size ≠ 0 := by
      obtain ⟨x, r, rfl⟩ := List.exists_cons_of_ne_nil h0
      have := name_pos (List.all_eq_true.1 hn x (List.mem_cons_self ..))
      show (x.data.toList ++ _).toArray.size ≠ 0
      have h2 : x.data.toList.length = x.size := rfl
      simp only [List.size_toArray, List.length_append, h2]
      omega
    unfold parseV
    rw [if_neg hs, hp, if_pos hn, sortL_of_rise hr]
    unfold fewL manyE
    rw [if_pos hf, if_pos hf]
theorem names_sort {xs : List ByteArray} (hn : xs.all nameB = true) : (sortL xs).all nameB = true := List.all_eq_true.2 fun x hx => List.all_eq_true.1 hn x ((mem_sortL x xs).1 hx)
/-- What was parsed is a scope, or nothing. -/
theorem parse_right (s : ByteArray) : ((parseV s).2 = 0 ∧ scErr (parseV s).1 = 0) ∨ ((parseV s).1 = [] ∧ ((parseV s).2 = 60 ∨ (parseV s).2 = 61)) := by
  unfold parseV
  split
  · exact .inl ⟨rfl, rfl⟩
  · split
    · rename_i hn
      rcases manyE_cases (sortL (pieces s)) with ⟨h1, h2⟩ | ⟨h1, h2⟩
      · left
        show manyE _ = 0 ∧ scErr (fewL _) = 0
        rw [h1, h2]
        exact ⟨rfl, by rw [scErr_rise (names_sort hn) (rise_sortL _)]; exact h1⟩
      · right
        show fewL _ = [] ∧ (manyE _ = 60 ∨ manyE _ = 61)
        rw [h1, h2]
        exact ⟨rfl, .inr rfl⟩
    · exact .inr ⟨rfl, .inl rfl⟩
theorem scErr_cases (xs : List ByteArray) : scErr xs = 0 ∨ scErr xs = 60 ∨ scErr xs = 61 := by
  unfold scErr
  split
  · split
    · exact .inl rfl
    · exact .inr (.inr rfl)
  · exact .inr (.inl rfl)
end Go.Proofs.YtabibfabieghpaaGreatDoor
