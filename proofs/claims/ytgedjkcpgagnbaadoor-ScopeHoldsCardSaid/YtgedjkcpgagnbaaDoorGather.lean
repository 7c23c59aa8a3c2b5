/- scope.gather: a list of names as a map of how often each stands there. -/
import Derived.Test.YtgedjkcpgagnbaaDoorScp
import Derived.Test.YtgedjkcpgagnbaaDoorRange
import Derived.Test.YtgedjkcpgagnbaaDoorSetL
import Derived.Test.YtgedjkcpgagnbaaDoorLst2
import Derived.Maps.OwnOps
namespace Go.Proofs.YtgedjkcpgagnbaaDoor
open Go.RowKit Go.Maps
abbrev NMT : TypeId := 44
abbrev INT : TypeId := 3
abbrev keyL (s : ByteArray) : Lit := .string s.data.toList
theorem keyL_ne {s t : ByteArray} (h : s ≠ t) : keyL s ≠ keyL t := fun e => h (by
  injection e with e
  exact str_eq_of e)
/-- How often a text stands in a list. -/
def often (s : ByteArray) (xs : List ByteArray) : Nat := (xs.filter fun x => decide (x = s)).length
theorem often_le (s : ByteArray) (xs : List ByteArray) : often s xs ≤ xs.length := List.length_filter_le ..
theorem often_snoc (s x : ByteArray) (xs : List ByteArray) : often s (xs ++ [x]) = often s xs + (if x = s then 1 else 0) := by
  unfold often
  rw [List.filter_append, List.length_append]
  by_cases e : x = s <;> simp [e]
/-- The map has the names of the list, each with how often it stands there. -/
structure Counts (D : DataW Unit) (xs : List ByteArray) : Prop where
  isMap : IsMap D
  at_ : ∀ s, D.atKey (keyL s) (.lit (.int .i64 0)) = .lit (.int .i64 (often s xs))
  has_ : ∀ s, has D (keyL s) = xs.any fun x => decide (x = s)
theorem Counts.nil : Counts (.map []) [] := ⟨⟨_, rfl⟩, fun _ => rfl, fun _ => rfl⟩
theorem Counts.snoc {D : DataW Unit} {xs : List ByteArray} {x : ByteArray} (h : Counts D xs) (hk : WideAt.IsKeyLit (keyL x)) : Counts (D.put (keyL x) (.lit (.int .i64 ((often x xs + 1 : Nat) : Int)))) (xs ++ [x]) := by
  refine ⟨h.isMap.put _ _, fun s => ?_, fun s => ?_⟩
  · rw [often_snoc]
    by_cases e : s = x
    · subst e
      rw [atKey_put_same h.isMap hk, if_pos rfl]
    · rw [atKey_put_other (keyL_ne e), h.at_ s, if_neg (fun e2 => e e2.symm), Nat.add_zero]
  · rw [List.any_append]
    by_cases e : s = x
    · subst e
      rw [has_put_same h.isMap hk]
      simp
    · rw [has_put_other (keyL_ne e), h.has_ s]
      have e3 : ¬ x = s := fun e2 => e e2.symm
      simp [e3]
section
variable {E : World} {S : Ph} {L : List Hp}
theorem nmt_u : Tryd.prog.underlying NMT = some (.map ST INT) := by kernel_rfl
theorem st_keyed : Keyed Tryd.prog ST := string_keyed (by kernel_rfl)
noncomputable abbrev intEl : Value → Option (DataW Unit × List MemPlace) := plainElem Tryd.prog INT
theorem keyL_is (s : ByteArray) : WideAt.IsKeyLit (keyL s) := trivial
theorem zero_int (w : World) : (zeroValue INT).run Tryd.prog w = .ok (.int .i64 0) w := by kernel_rfl
theorem key_of (s : ByteArray) (h : s.size ≤ 16) : keyOf Tryd.prog ST (.string s) = some (keyL s) := WideMaps.keyOf_string_mk (by kernel_rfl) (by unfold maxLen; omega)
theorem lit_eq {a b : Int} (h : (DataW.lit (.int .i64 a) : DataW Unit) = .lit (.int .i64 b)) : a = b := by
  injection h with h
  injection h with _ h
set_option maxRecDepth 20000 in
set_option maxHeartbeats 4000000 in
/-- All are names: the map of them; or not. -/
theorem gather_any (A : Option Addr) (n c : Nat) (xs : List ByteArray) (w : World) (hr : Rds S 1 enStr A n xs) (hn43 : n ≤ 8796093022208) (h : Own E w (Hp.ro S :: L)) :
    Calls Tryd.prog 25 #[.slice A n c] w fun e w' => (xs.all nameB = true ∧ ∃ b D, e = .returned (.tuple #[.map (some b), .int .i64 0]) ∧ Counts D xs ∧ Own E w' (Hp.mp Tryd.prog ST intEl b n D :: Hp.ro S :: L)) ∨
      (xs.all nameB = false ∧ e = .returned (.tuple #[.map none, .int .i64 60]) ∧ Own E w' (Hp.ro S :: L)) := by
  have HN43 := Lib.hid hn43
  have HLEN := Lib.hid hr.1
  have hmm := @run_makeMap Tryd.prog
  have H := Lib.hid (Own.mpMade (P := Tryd.prog) (K := ST) (R := intEl) h)
  clear hn43 h
  go_enter Tryd.func25, Tryd.ntmps25
  go_wp2_with fail
  go_loopw [10] (fun i wr => ∃ (k : Nat) (D : DataW Unit), k ≤ n ∧ i = .int .i64 k ∧ Counts D (xs.take k) ∧ (xs.take k).all nameB = true ∧ Own E wr (Hp.mp Tryd.prog ST intEl w.heap.size k D :: Hp.ro S :: L)) (fun i _ => n - (intOf i).toNat)
  case atStart => exact ⟨0, _, by omega, rfl, Counts.nil, rfl, H.out⟩
  case round =>
    obtain ⟨k, D, hk, rfl, hc, hall, hw⟩ := hrel
    clear H
    by_cases hlt : k < n
    · obtain ⟨x, b, off, hx, rfl, hcc⟩ := hr.get1 hlt
      have hcx := hw.f1.rd (hcc _ rfl)
      have HN := fun h => named_any (E := E) (L := Hp.mp Tryd.prog ST intEl w.heap.size k D :: Hp.ro S :: L) x wr h
      have ht : xs.take (k + 1) = xs.take k ++ [x] := by rw [List.take_add_one, hx]; rfl
      have i1 : (k : Int) < n := by omega
      have HX := Lib.hid hx
      cases hnx : nameB x with
      | false =>
        rw [hnx] at HN
        have HNX := Lib.hid hnx
        clear hx hcc hnx ht hc hr hall hk hlt
        go_wp2_with (refine (HN hw).mono ?_; clear HN hw; rintro e wr2 ⟨rfl, hw⟩; have H2 := Lib.hid hw; clear hw)
        go_ret2
        refine .inr ⟨?_, rfl, H2.out.drop⟩
        cases e : xs.all nameB with
        | false => rfl
        | true => have := List.all_eq_true.1 e x (List.mem_of_getElem? HX.out); rw [HNX.out] at this; cases this
      | true =>
        rw [hnx] at HN
        have hkx := key_of x (nm_size hnx)
        have HT := Lib.hid ht
        have HC := Lib.hid hc
        have HALL := Lib.hid hall
        have HNX := Lib.hid hnx
        have HK := Lib.hid hlt
        have i5 : wrap64 ((k : Int) + 1) = ((k + 1 : Nat) : Int) := by have := HN43.out; unfold wrap64; omega
        have hof : often x (xs.take k) ≤ k := Nat.le_trans (often_le _ _) (by rw [List.length_take]; omega)
        have HAT := Lib.hid (hc.at_ x)
        have HSN := Lib.hid (hc.snoc (keyL_is x))
        generalize often x (xs.take k) = q at *
        have i6 : wrap64 ((q : Int) + 1) = ((q + 1 : Nat) : Int) := by have := HN43.out; unfold wrap64; omega
        have WF : (Lit.int .i64 (((q + 1 : Nat) : Int))).wf = true := by have := HN43.out; exact WalkArith.wf_i64 (by omega)
        have HKM := Lib.hid (show k < maxLen by have := HN43.out; unfold maxLen; omega)
        clear hx hcc hnx ht hc hr hall hof hk hlt
        go_wp2_with (first
          | (refine (HN hw).mono ?_; clear HN hw; rintro e wr2 ⟨rfl, hw⟩; have H2 := Lib.hid hw; clear hw)
          | (at_lookup; refine wpList_lookup_own_int _ rfl _ _ NMT rfl ST INT .i64 st_keyed nmt_u (by kernel_rfl) (zero_int _) w.heap.size k D rfl H2.out.mpOwns _ _ rfl hkx ?_; intro c7 hat hwc; obtain rfl := lit_eq (HAT.out.symm.trans hat))
          | (at_mapUpdate; refine wpList_mapUpdate_own _ rfl _ _ _ NMT rfl ST INT st_keyed nmt_u intEl w.heap.size k D rfl H2.out.mpOwns HKM.out _ (.int .i64 ((q + 1 : Nat) : Int)) _ rfl (by first | rfl | (rw [← i6]; rfl) | (simp [i6])) hkx _ [] (plainElem_int (by kernel_rfl) WF) ?_; intro w1 hown1 hgrow1; have H3 := Lib.hid (H2.out.mpTurn hown1 hgrow1); clear H2 hown1 hgrow1))
        go_roundw
        case rel => exact ⟨k + 1, _, by have := HK.out; omega, by rw [i5], by rw [HT.out]; exact HSN.out, by rw [HT.out, List.all_append, HALL.out]; simp [HNX.out], H3.out⟩
        case measure =>
          have := HK.out
          rw [i5]
          simp only [intOf]
          omega
    · obtain rfl : k = n := by omega
      have e9 : xs.take k = xs := List.take_of_length_le (by rw [HLEN.out]; omega)
      rw [e9] at hc hall
      have HC := Lib.hid hc
      have HALL := Lib.hid hall
      have i1 : ¬ (k : Int) < (k : Int) := by omega
      have H2 := Lib.hid hw
      clear hw hc hall
      go_wp2_with fail
      go_ret2
      exact .inl ⟨List.all_eq_true.1 HALL.out, w.heap.size, rfl, D, HC.out, H2.out⟩
end
end Go.Proofs.YtgedjkcpgagnbaaDoor
