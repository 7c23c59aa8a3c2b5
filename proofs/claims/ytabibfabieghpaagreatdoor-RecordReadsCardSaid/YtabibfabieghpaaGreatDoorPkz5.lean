/- scope.gather: a list of names as a map of how often each stands there. What the library's sort leaves behind, among the parts of memory. No program in sight. Contracts of library functions, laid at this program by the kit: strings_Split, slices_Sort_string, slices_Sort_string_none. A text cut at its spaces, in plain Lean. (scope.names).told: the names of a map, rising; or that they are too many. Laws of this seat that list errors.errorType and the tables of unicode/utf8, and reach MaxLen: the row's contract with the world's shape (as common/XLaidShape); what the listed variables give; a world that meets the condition. -/
import Derived.Test.YtabibfabieghpaaGreatDoorPkz4
import Derived.Test.YtabibfabieghpaaGreatDoorPkz3
import Derived.Maps.OwnOps
import Derived.Test.YtabibfabieghpaaGreatDoorPkz2
import Derived.Sort.Grow
import Derived.Sort.EncStr
import Derived.Shelf.Sort.Plain
import Derived.Shelf.Strings.Split
import Derived.Shelf.Slices.In.SortNone
import Derived.Test.YtabibfabieghpaaGreatDoorProg
import Derived.Lib.Split
import Derived.Lib.IndexBytes
import Derived.Lib.SplitLaws
import Derived.Lib.IndexLaws
import Derived.ProofKit
import Derived.ChangeSame
import Derived.ChangeVars
import Derived.LaidLaws
import Derived.LaidHandle
import Derived.Stop.Joined
import Derived.SevenTiedAt
import Derived.Deep.DeepLaidRun
import Derived.Shelf.Vars
import Derived.Test.YtabibfabieghpaaGreatDoorRows
import Derived.Test.YtabibfabieghpaaGreatDoorPkz0
namespace Go.Proofs.YtabibfabieghpaaGreatDoor
open Go.RowKit Go.Maps
abbrev NMT : TypeId := 185
abbrev INT : TypeId := 3
abbrev keyL (s : ByteArray) : Lit := .string s.data.toList
theorem keyL_ne {s t : ByteArray} (h : s ≠ t) : keyL s ≠ keyL t := fun e => h (by
  injection e with e
  exact str_eq_of e)
/-- How often a text stands in a list. -/
def often (s : ByteArray) (xs : List ByteArray) : Nat := (xs.filter fun x => decide (x = s)).length
theorem often_le (s : ByteArray) (xs : List ByteArray) : often s xs ≤ xs.length := List.length_filter_le ..
theorem often_snoc (s x : ByteArray) (xs : List ByteArray) : often s (xs ++ [x]) = often s xs + (if x = s then 1 else 0) := by
  unfold often
  rw [List.filter_append, List.length_append]
  by_cases e : x = s <;> simp [e]
/-- The map has the names of the list, each with how often it stands there. -/
structure Counts (D : DataW Unit) (xs : List ByteArray) : Prop where
  isMap : IsMap D
  at_ : ∀ s, D.atKey (keyL s) (.lit (.int .i64 0)) = .lit (.int .i64 (often s xs))
  has_ : ∀ s, has D (keyL s) = xs.any fun x => decide (x = s)
theorem Counts.nil : Counts (.map []) [] := ⟨⟨_, rfl⟩, fun _ => rfl, fun _ => rfl⟩
theorem Counts.snoc {D : DataW Unit} {xs : List ByteArray} {x : ByteArray} (h : Counts D xs) (hk : WideAt.IsKeyLit (keyL x)) : Counts (D.put (keyL x) (.lit (.int .i64 ((often x xs + 1 : Nat) : Int)))) (xs ++ [x]) := by
  refine ⟨h.isMap.put _ _, fun s => ?_, fun s => ?_⟩
  · rw [often_snoc]
    by_cases e : s = x
    · subst e
      rw [atKey_put_same h.isMap hk, if_pos rfl]
    · rw [atKey_put_other (keyL_ne e), h.at_ s, if_neg (fun e2 => e e2.symm), Nat.add_zero]
  · rw [List.any_append]
    by_cases e : s = x
    · subst e
      rw [has_put_same h.isMap hk]
      simp
    · rw [has_put_other (keyL_ne e), h.has_ s]
      have e3 : ¬ x = s := fun e2 => e e2.symm
      simp [e3]
section
variable {E : World} {S : Ph} {L : List Hp}
theorem nmt_u : Tryz.prog.underlying NMT = some (.map ST INT) := by kernel_rfl
theorem st_keyed : Keyed Tryz.prog ST := string_keyed (by kernel_rfl)
noncomputable abbrev intEl : Value → Option (DataW Unit × List MemPlace) := plainElem Tryz.prog INT
theorem keyL_is (s : ByteArray) : WideAt.IsKeyLit (keyL s) := trivial
theorem zero_int (w : World) : (zeroValue INT).run Tryz.prog w = .ok (.int .i64 0) w := by kernel_rfl
theorem key_of (s : ByteArray) (h : s.size ≤ 16) : keyOf Tryz.prog ST (.string s) = some (keyL s) := WideMaps.keyOf_string_mk (by kernel_rfl) (by unfold maxLen; omega)
theorem lit_eq {a b : Int} (h : (DataW.lit (.int .i64 a) : DataW Unit) = .lit (.int .i64 b)) : a = b := by
  injection h with h
  injection h with _ h
set_option maxRecDepth 20000 in
set_option maxHeartbeats 4000000 in
/-- All are names: the map of them; or not. -/
theorem gather_any (A : Option Addr) (n c : Nat) (xs : List ByteArray) (w : World) (hr : Rds S 1 enStr A n xs) (hn43 : n ≤ 8796093022208) (h : Own E w (Hp.ro S :: L)) :
    Calls Tryz.prog 142 #[.slice A n c] w fun e w' => (xs.all nameB = true ∧ ∃ b D, e = .returned (.tuple #[.map (some b), .int .i64 0]) ∧ Counts D xs ∧ Own E w' (Hp.mp Tryz.prog ST intEl b n D :: Hp.ro S :: L)) ∨
      (xs.all nameB = false ∧ e = .returned (.tuple #[.map none, .int .i64 60]) ∧ Own E w' (Hp.ro S :: L)) := by
  have HN43 := Lib.hid hn43
  have HLEN := Lib.hid hr.1
  have hmm := @run_makeMap Tryz.prog
  have H := Lib.hid (Own.mpMade (P := Tryz.prog) (K := ST) (R := intEl) h)
  clear hn43 h
  go_enter Tryz.func142, Tryz.ntmps142
  go_wp2_with fail
  go_loopw [10] (fun i wr => ∃ (k : Nat) (D : DataW Unit), k ≤ n ∧ i = .int .i64 k ∧ Counts D (xs.take k) ∧ (xs.take k).all nameB = true ∧ Own E wr (Hp.mp Tryz.prog ST intEl w.heap.size k D :: Hp.ro S :: L)) (fun i _ => n - (intOf i).toNat)
  case atStart => exact ⟨0, _, by omega, rfl, Counts.nil, rfl, H.out⟩
  case round =>
    obtain ⟨k, D, hk, rfl, hc, hall, hw⟩ := hrel
    clear H
    by_cases hlt : k < n
    · obtain ⟨x, b, off, hx, rfl, hcc⟩ := hr.get1 hlt
      have hcx := hw.f1.rd (hcc _ rfl)
      have HN := fun h => named_any (E := E) (L := Hp.mp Tryz.prog ST intEl w.heap.size k D :: Hp.ro S :: L) x wr h
      have ht : xs.take (k + 1) = xs.take k ++ [x] := by rw [List.take_add_one, hx]; rfl
      have i1 : (k : Int) < n := by omega
      have HX := Lib.hid hx
      cases hnx : nameB x with
      | false =>
        rw [hnx] at HN
        have HNX := Lib.hid hnx
        clear hx hcc hnx ht hc hr hall hk hlt
        go_wp2_with (refine (HN hw).mono ?_; clear HN hw; rintro e wr2 ⟨rfl, hw⟩; have H2 := Lib.hid hw; clear hw)
        go_ret2
        refine .inr ⟨?_, rfl, H2.out.drop⟩
        cases e : xs.all nameB with
        | false => rfl
        | true => have := List.all_eq_true.1 e x (List.mem_of_getElem? HX.out); rw [HNX.out] at this; cases this
      | true =>
        rw [hnx] at HN
        have hkx := key_of x (nm_size hnx)
        have HT := Lib.hid ht
        have HC := Lib.hid hc
        have HALL := Lib.hid hall
        have HNX := Lib.hid hnx
        have HK := Lib.hid hlt
        have i5 : wrap64 ((k : Int) + 1) = ((k + 1 : Nat) : Int) := by have := HN43.out; unfold wrap64; omega
        have hof : often x (xs.take k) ≤ k := Nat.le_trans (often_le _ _) (by rw [List.length_take]; omega)
        have HAT := Lib.hid (hc.at_ x)
        have HSN := Lib.hid (hc.snoc (keyL_is x))
        generalize often x (xs.take k) = q at *
        have i6 : wrap64 ((q : Int) + 1) = ((q + 1 : Nat) : Int) := by have := HN43.out; unfold wrap64; omega
        have WF : (Lit.int .i64 (((q + 1 : Nat) : Int))).wf = true := by have := HN43.out; exact WalkArith.wf_i64 (by omega)
        have HKM := Lib.hid (show k < maxLen by have := HN43.out; unfold maxLen; omega)
        clear hx hcc hnx ht hc hr hall hof hk hlt
        go_wp2_with (first
          | (refine (HN hw).mono ?_; clear HN hw; rintro e wr2 ⟨rfl, hw⟩; have H2 := Lib.hid hw; clear hw)
          | (at_lookup; refine wpList_lookup_own_int _ rfl _ _ NMT rfl ST INT .i64 st_keyed nmt_u (by kernel_rfl) (zero_int _) w.heap.size k D rfl H2.out.mpOwns _ _ rfl hkx ?_; intro c7 hat hwc; obtain rfl := lit_eq (HAT.out.symm.trans hat))
          | (at_mapUpdate; refine wpList_mapUpdate_own _ rfl _ _ _ NMT rfl ST INT st_keyed nmt_u intEl w.heap.size k D rfl H2.out.mpOwns HKM.out _ (.int .i64 ((q + 1 : Nat) : Int)) _ rfl (by first | rfl | (rw [← i6]; rfl) | (simp [i6])) hkx _ [] (plainElem_int (by kernel_rfl) WF) ?_; intro w1 hown1 hgrow1; have H3 := Lib.hid (H2.out.mpTurn hown1 hgrow1); clear H2 hown1 hgrow1))
        go_roundw
        case rel => exact ⟨k + 1, _, by have := HK.out; omega, by rw [i5], by rw [HT.out]; exact HSN.out, by rw [HT.out, List.all_append, HALL.out]; simp [HNX.out], H3.out⟩
        case measure =>
          have := HK.out
          rw [i5]
          simp only [intOf]
          omega
    · obtain rfl : k = n := by omega
      have e9 : xs.take k = xs := List.take_of_length_le (by rw [HLEN.out]; omega)
      rw [e9] at hc hall
      have HC := Lib.hid hc
      have HALL := Lib.hid hall
      have i1 : ¬ (k : Int) < (k : Int) := by omega
      have H2 := Lib.hid hw
      clear hw hc hall
      go_wp2_with fail
      go_ret2
      exact .inl ⟨List.all_eq_true.1 HALL.out, w.heap.size, rfl, D, HC.out, H2.out⟩
end
end Go.Proofs.YtabibfabieghpaaGreatDoor
namespace Go.Proofs.YtabibfabieghpaaGreatDoor
open Go.RowKit Go.Sort
section
variable {E w : World} {L : List Hp}
theorem Own.grow (h : Own E w L) (os : Array Obj) : Own E (Go.Sort.grow w os) L := by
  obtain ⟨h1, h2, h3, x, hx, hL⟩ := h
  refine ⟨h1, h2, h3, x, fun k o hk => ?_, hL⟩
  have h4 := hx k o hk
  have hlt := (Array.getElem?_eq_some_iff.1 h4).1
  show (w.heap ++ os)[k]? = some o
  rw [Array.getElem?_append_left hlt, h4]
theorem size_putCells {α : Type} [Inhabited α] (enc : α → Value) (off : Nat) (d : Array α) (c : Array Value) : (putCells enc off d c).size = c.size := by unfold putCells; simp
theorem take_putCells {α : Type} [Inhabited α] (enc : α → Value) (d : List α) (c : Array Value) (hd : d.length ≤ c.size) : (putCells enc 0 d.toArray c).toList.take d.length = d.map enc := by
  apply List.ext_getElem?
  intro k
  by_cases hk : k < d.length
  · rw [List.getElem?_take_of_lt hk, List.getElem?_map, Array.getElem?_toList]
    unfold putCells
    rw [Array.getElem?_mapIdx]
    have h1 : c[k]? = some c[k] := Array.getElem?_eq_getElem (by omega)
    rw [h1, List.getElem?_eq_getElem hk]
    simp [hk]
  · rw [List.getElem?_eq_none (by rw [List.length_take]; omega), List.getElem?_eq_none (by rw [List.length_map]; omega)]
/-- The list is sorted in its block. -/
theorem Own.sorted {α : Type} [Inhabited α] {enc : α → Value} {g c : Nat} {e : TypeId} {xs ys : List α} (h : Own E w (Hp.lst e (.slice (some ⟨g, 0, none⟩) xs.length c) (xs.map enc) :: L)) (h0 : 0 < xs.length) (hl : ys.length = xs.length) (n : Nat) (os : Array Obj) :
    Own E (Go.Sort.grow (Go.Sort.putRow enc (Go.Sort.ahead w n) g 0 ys.toArray) os) (Hp.lst e (.slice (some ⟨g, 0, none⟩) xs.length c) (ys.map enc) :: L) := by
  refine Own.grow ?_ os
  obtain ⟨A, c0, hv, hc, hm, ⟨e1, -, -⟩ | ⟨g', cur, e1, e2, e3, ho⟩⟩ := h.lstForm
  · rw [List.map_eq_nil_iff] at e1; subst e1; cases h0
  · injection hv with q1 q2 q3
    subst q3
    rw [← q1] at e1
    injection e1 with e1
    injection e1 with e1
    subst e1
    obtain ⟨fr, hfr, hob⟩ := ho.ofMk
    have hlt := hob.lt
    have hat := hob.at_
    have h5 : Own E (Go.Sort.putRow enc (Go.Sort.ahead w n) g 0 ys.toArray) (Hp.obj g (.cells (putCells enc 0 ys.toArray cur) e fr) :: L) := by
      refine hob.turn rfl rfl rfl ?_ ?_
      · show (w.heap.modify g (onCells _))[g]? = _
        rw [Array.getElem?_modify, if_pos rfl, hat]
        rfl
      · intro k hk hne
        show (w.heap.modify g (onCells _))[k]? = _
        rw [Array.getElem?_modify, if_neg (fun e => hne e.symm)]
    have h6 := Own.mkMk (by rw [size_putCells]; exact hfr) h5
    rw [List.length_map] at hc e3
    have h7 := Own.mtoLst (xs := ys.map enc) h6 c (by rw [size_putCells]; exact e2) hm (by rw [List.length_map, hl]; exact hc) (by rw [List.length_map]; exact take_putCells enc ys cur (by omega))
    rw [List.length_map, hl] at h7
    exact h7
/-- The cells of an owned list of texts, as the library's sort asks for them. -/
theorem Own.lstHolds {α : Type} [Inhabited α] {enc : α → Value} {g c : Nat} {e : TypeId} {xs : List α} (h : Own E w (Hp.lst e (.slice (some ⟨g, 0, none⟩) xs.length c) (xs.map enc) :: L)) (h0 : 0 < xs.length) : Holds enc w g 0 xs.toArray ∧ g < w.heap.size := by
  obtain ⟨A, c0, hv, hc, hm, ⟨e1, -, -⟩ | ⟨g', cur, e1, e2, e3, ho⟩⟩ := h.lstForm
  · rw [List.map_eq_nil_iff] at e1; subst e1; cases h0
  · injection hv with q1 q2 q3
    rw [← q1] at e1
    injection e1 with e1
    injection e1 with e1
    subst e1
    rw [List.length_map] at e3 hc
    refine ⟨fun j hj => ?_, ?_⟩
    · have hj' : j < xs.length := by simpa using hj
      rw [Nat.zero_add]
      refine ⟨?_, ho.mfrozen j (by omega)⟩
      rw [ho.mcell j]
      have h4 : (cur.toList.take xs.length)[j]? = (xs.map enc)[j]? := by rw [e3]
      rw [List.getElem?_take_of_lt hj', Array.getElem?_toList, List.getElem?_map, List.getElem?_eq_getElem hj'] at h4
      rw [h4]
      simp [hj']
    · obtain ⟨fr, -, hob⟩ := ho.ofMk
      exact hob.lt
end
end Go.Proofs.YtabibfabieghpaaGreatDoor
namespace Go.Proofs
open Go.Shelf
def Tryz.lays190_ren : Go.Shelf.Ren := ⟨fun | 190 => 157 | 125 => 171 | 258 => 170 | 128 => 191 | 129 => 192 | 302 => 182 | 303 => 183 | 304 => 184 | 305 => 185 | 306 => 186 | 307 => 187 | 308 => 188 | 309 => 189 | 310 => 190 | 333 => 194 | 329 => 195 | 330 => 196 | 334 => 197 | 335 => 198 | 336 => 199 | 344 => 200 | n => n, fun | 31 => 54 | 9 => 9 | 3 => 3 | 46 => 161 | 0 => 0 | 51 => 220 | 53 => 254 | 4 => 4 | 183 => 247 | 182 => 246 | 131 => 100 | 5 => 5 | 218 => 255 | 222 => 97 | 228 => 264 | 229 => 265 | n => n, fun | n => n⟩
theorem Tryz.lays190 : Go.Proofs.Lays.n190 Tryz.prog Tryz.lays190_ren := {
  mixed := by kernel_rfl
  f125 := Tryz.func171.trans (congrArg some (by kernel_rfl))
  f128 := Tryz.func191.trans (congrArg some (by kernel_rfl))
  f129 := Tryz.func192.trans (congrArg some (by kernel_rfl))
  f190 := Tryz.func157.trans (congrArg some (by kernel_rfl))
  f258 := Tryz.func170.trans (congrArg some (by kernel_rfl))
  f302 := Tryz.func182.trans (congrArg some (by kernel_rfl))
  f303 := Tryz.func183.trans (congrArg some (by kernel_rfl))
  f304 := Tryz.func184.trans (congrArg some (by kernel_rfl))
  f305 := Tryz.func185.trans (congrArg some (by kernel_rfl))
  f306 := Tryz.func186.trans (congrArg some (by kernel_rfl))
  f307 := Tryz.func187.trans (congrArg some (by kernel_rfl))
  f308 := Tryz.func188.trans (congrArg some (by kernel_rfl))
  f309 := Tryz.func189.trans (congrArg some (by kernel_rfl))
  f310 := Tryz.func190.trans (congrArg some (by kernel_rfl))
  f329 := Tryz.func195.trans (congrArg some (by kernel_rfl))
  f330 := Tryz.func196.trans (congrArg some (by kernel_rfl))
  f333 := Tryz.func194.trans (congrArg some (by kernel_rfl))
  f334 := Tryz.func197.trans (congrArg some (by kernel_rfl))
  f335 := Tryz.func198.trans (congrArg some (by kernel_rfl))
  f336 := Tryz.func199.trans (congrArg some (by kernel_rfl))
  f344 := Tryz.func200.trans (congrArg some (by kernel_rfl))
  t0 := Tryz.underlying0
  a0 := Tryz.isAgg0
  z0 := Tryz.sizeOf0
  v0 := Tryz.zeroValue0
  t3 := Tryz.underlying3
  a3 := Tryz.isAgg3
  z3 := Tryz.sizeOf3
  v3 := Tryz.zeroValue3
  t4 := Tryz.underlying4
  a4 := Tryz.isAgg4
  z4 := Tryz.sizeOf4
  v4 := Tryz.zeroValue4
  t5 := Tryz.underlying5
  a5 := Tryz.isAgg5
  z5 := Tryz.sizeOf5
  v5 := Tryz.zeroValue5
  t9 := Tryz.underlying9
  a9 := Tryz.isAgg9
  z9 := Tryz.sizeOf9
  v9 := Tryz.zeroValue9
  t31 := Tryz.underlying54
  a31 := Tryz.isAgg54
  z31 := Tryz.sizeOf54
  v31 := Tryz.zeroValue54
  t46 := Tryz.underlying161
  a46 := Tryz.isAgg161
  z46 := Tryz.sizeOf161
  v46 := Tryz.zeroValue161
  t51 := Tryz.underlying220
  a51 := Tryz.isAgg220
  z51 := Tryz.sizeOf220
  v51 := Tryz.zeroValue220
  t53 := Tryz.underlying254
  a53 := Tryz.isAgg254
  z53 := Tryz.sizeOf254
  v53 := Tryz.zeroValue254
  t131 := Tryz.underlying100
  a131 := Tryz.isAgg100
  z131 := Tryz.sizeOf100
  v131 := Tryz.zeroValue100
  t182 := Tryz.underlying246
  a182 := Tryz.isAgg246
  z182 := Tryz.sizeOf246
  v182 := Tryz.zeroValue246
  t183 := Tryz.underlying247
  a183 := Tryz.isAgg247
  z183 := Tryz.sizeOf247
  v183 := Tryz.zeroValue247
  t218 := Tryz.underlying255
  a218 := Tryz.isAgg255
  z218 := Tryz.sizeOf255
  v218 := Tryz.zeroValue255
  t222 := Tryz.underlying97
  a222 := Tryz.isAgg97
  z222 := Tryz.sizeOf97
  v222 := Tryz.zeroValue97
  t228 := Tryz.underlying264
  a228 := Tryz.isAgg264
  z228 := Tryz.sizeOf264
  v228 := Tryz.zeroValue264
  t229 := Tryz.underlying265
  a229 := Tryz.isAgg265
  z229 := Tryz.sizeOf265
  v229 := Tryz.zeroValue265 }
open Go.Sort Go.RowKit in
theorem Tryz.slices_Sort_string (blk off cap : Nat) (ss : List (List UInt8)) (w : World) (hH : Holds encStr w blk off ss.toArray) (hblk : blk < w.heap.size) (hsz : ss.length < 4611686018427387904) :
    Calls Tryz.prog 157 #[.slice (some ⟨blk, off, none⟩) ss.length cap] w fun e w' =>
      e = .returned (.tuple #[]) ∧ ∃ n os, w' = grow (putRow encStr (Sort.ahead w n) blk off (ss.mergeSort fun x y => decide (x ≤ y)).toArray) os := Any.slices_Sort_string Tryz.lays190 blk off cap ss w hH hblk hsz
def Tryz.lays146_ren : Go.Shelf.Ren := ⟨fun | 146 => 143 | 221 => 156 | 268 => 167 | 138 => 168 | 143 => 169 | 195 => 179 | 197 => 180 | 218 => 181 | 219 => 141 | 260 => 193 | 217 => 152 | 225 => 153 | 224 => 154 | 267 => 155 | 266 => 165 | 314 => 166 | n => n, fun | 9 => 9 | 31 => 54 | 3 => 3 | 4 => 4 | 0 => 0 | 105 => 243 | 21 => 21 | 5 => 5 | 46 => 161 | 119 => 260 | 139 => 263 | 138 => 262 | 146 => 221 | 51 => 220 | n => n, fun | 1 => 0 | 3 => 2 | 4 => 3 | n => n⟩
theorem Tryz.lays146 : Go.Proofs.Lays.n146 Tryz.prog Tryz.lays146_ren := {
  mixed := by kernel_rfl
  f138 := Tryz.func168.trans (congrArg some (by kernel_rfl))
  f143 := Tryz.func169.trans (congrArg some (by kernel_rfl))
  f146 := Tryz.func143.trans (congrArg some (by kernel_rfl))
  f195 := Tryz.func179.trans (congrArg some (by kernel_rfl))
  f197 := Tryz.func180.trans (congrArg some (by kernel_rfl))
  f217 := Tryz.func152.trans (congrArg some (by kernel_rfl))
  f218 := Tryz.func181.trans (congrArg some (by kernel_rfl))
  f219 := Tryz.func141.trans (congrArg some (by kernel_rfl))
  f221 := Tryz.func156.trans (congrArg some (by kernel_rfl))
  f224 := Tryz.func154.trans (congrArg some (by kernel_rfl))
  f225 := Tryz.func153.trans (congrArg some (by kernel_rfl))
  f260 := Tryz.func193.trans (congrArg some (by kernel_rfl))
  f266 := Tryz.func165.trans (congrArg some (by kernel_rfl))
  f267 := Tryz.func155.trans (congrArg some (by kernel_rfl))
  f268 := Tryz.func167.trans (congrArg some (by kernel_rfl))
  f314 := Tryz.func166.trans (congrArg some (by kernel_rfl))
  t0 := Tryz.underlying0
  a0 := Tryz.isAgg0
  z0 := Tryz.sizeOf0
  v0 := Tryz.zeroValue0
  t3 := Tryz.underlying3
  a3 := Tryz.isAgg3
  z3 := Tryz.sizeOf3
  v3 := Tryz.zeroValue3
  t4 := Tryz.underlying4
  a4 := Tryz.isAgg4
  z4 := Tryz.sizeOf4
  v4 := Tryz.zeroValue4
  t5 := Tryz.underlying5
  a5 := Tryz.isAgg5
  z5 := Tryz.sizeOf5
  v5 := Tryz.zeroValue5
  t9 := Tryz.underlying9
  a9 := Tryz.isAgg9
  z9 := Tryz.sizeOf9
  v9 := Tryz.zeroValue9
  t21 := Tryz.underlying21
  a21 := Tryz.isAgg21
  z21 := Tryz.sizeOf21
  v21 := Tryz.zeroValue21
  t31 := Tryz.underlying54
  a31 := Tryz.isAgg54
  z31 := Tryz.sizeOf54
  v31 := Tryz.zeroValue54
  t46 := Tryz.underlying161
  a46 := Tryz.isAgg161
  z46 := Tryz.sizeOf161
  v46 := Tryz.zeroValue161
  t51 := Tryz.underlying220
  a51 := Tryz.isAgg220
  z51 := Tryz.sizeOf220
  v51 := Tryz.zeroValue220
  t105 := Tryz.underlying243
  a105 := Tryz.isAgg243
  z105 := Tryz.sizeOf243
  v105 := Tryz.zeroValue243
  t119 := Tryz.underlying260
  a119 := Tryz.isAgg260
  z119 := Tryz.sizeOf260
  t138 := Tryz.underlying262
  a138 := Tryz.isAgg262
  z138 := Tryz.sizeOf262
  v138 := Tryz.zeroValue262
  t139 := Tryz.underlying263
  a139 := Tryz.isAgg263
  z139 := Tryz.sizeOf263
  v139 := Tryz.zeroValue263
  t146 := Tryz.underlying221
  a146 := Tryz.isAgg221
  z146 := Tryz.sizeOf221
  v146 := Tryz.zeroValue221
  g1 := by kernel_rfl
  g3 := by kernel_rfl
  g4 := by kernel_rfl }
open Go.RowKit Go.Lib in
/-- strings.Split. (LAID: no walk: one application.) -/
theorem Tryz.strings_Split (s sep : ByteArray) (m : Int) (w : World) (hs : s.size < 4294967281) (hm : w.cell? ⟨0, 0, none⟩ = some (.int .i64 m)) (h1 : 1 ≤ sep.size) :
    Calls Tryz.prog 143 #[.string s, .string sep] w fun e w' =>
      e = .returned (.slice (some ⟨w.heap.size, 0, none⟩) (Lib.countB s sep + 1) (Lib.countB s sep + 1)) ∧ w' = w.alloc (.cells ((Lib.splitB sep 0 (Lib.countB s sep) s).map Value.string).toArray 9) := Any.strings_Split Tryz.lays146 (by kernel_rfl) s sep m w hs hm h1
open Go.RowKit Go.Sort in
/-- .. and plain. (LAID: no walk: one application.) -/
theorem Tryz.slices_Sort_string_none (p : Option Addr) (cap : Nat) (w : World) :
    Calls Tryz.prog 157 #[.slice p 0 cap] w fun e w' => e = .returned (.tuple #[]) ∧ w' = w := Any.slices_Sort_string_none Tryz.lays190 p cap w
end Go.Proofs
namespace Go.Proofs.YtabibfabieghpaaGreatDoor
/-- What the spaces of a text part, byte by byte. -/
def cutL : List UInt8 → List (List UInt8)
  | [] => [[]]
  | c :: l => if c = 32 then [] :: cutL l else match cutL l with
    | [] => [[c]]
    | p :: ps => (c :: p) :: ps
theorem cutL_whole : ∀ {p : List UInt8}, (∀ x ∈ p, x ≠ 32) → cutL p = [p]
  | [], _ => rfl
  | c :: p, h => by
    unfold cutL
    rw [if_neg (h c (List.mem_cons_self ..)), cutL_whole fun x hx => h x (List.mem_cons_of_mem _ hx)]
theorem cutL_hit : ∀ {p : List UInt8} (l : List UInt8), (∀ x ∈ p, x ≠ 32) → cutL (p ++ 32 :: l) = p :: cutL l
  | [], l, _ => by simp [cutL]
  | c :: p, l, h => by
    show (if c = 32 then [] :: cutL (p ++ 32 :: l) else match cutL (p ++ 32 :: l) with | [] => [[c]] | q :: qs => (c :: q) :: qs) = _
    rw [if_neg (h c (List.mem_cons_self ..)), cutL_hit l fun x hx => h x (List.mem_cons_of_mem _ hx)]
theorem split_cut : ∀ (n : Nat) (s : List UInt8), s.length ≤ n → Lib.splitK [32] 0 (Lib.count s [32]) s = cutL s := fun n => by
  induction n with
  | zero =>
    intro s hs
    have : s = [] := List.eq_nil_of_length_eq_zero (by omega)
    subst this
    rfl
  | succ n ih =>
    intro s hs
    have h1 := Lib.indexByte_ge s 32
    by_cases hm : Lib.indexByte s 32 = -1
    · have e : Lib.index s [32] = -1 := by rw [Lib.index_one]; exact hm
      rw [Lib.count_miss e]
      show [s] = _
      rw [cutL_whole]
      intro x hx e2
      subst e2
      obtain ⟨k, hk⟩ := List.getElem?_of_mem hx
      exact Lib.indexByte_none hm k hk
    · obtain ⟨i, hi⟩ : ∃ i : Nat, Lib.indexByte s 32 = i := ⟨(Lib.indexByte s 32).toNat, by omega⟩
      have e : Lib.index s [32] = i := by rw [Lib.index_one]; exact hi
      obtain ⟨h2, h3⟩ := Lib.indexByte_some hi
      obtain ⟨hl, h2'⟩ := List.getElem?_eq_some_iff.1 h2
      have es : s = s.take i ++ 32 :: s.drop (i + 1) := by
        conv => lhs; rw [← List.take_append_drop i s, List.drop_eq_getElem_cons hl, h2']
      rw [Lib.count_hit (by simp) e, Nat.add_comm 1]
      unfold Lib.splitK
      have hne : ¬ (Lib.index s [32] == -1) = true := fun q => by have := beq_iff_eq.1 q; omega
      rw [if_neg hne, e]
      show s.take i :: Lib.splitK [32] 0 (Lib.count (s.drop (i + 1)) [32]) (s.drop (i + 1)) = _
      rw [ih _ (by rw [List.length_drop]; omega)]
      conv => rhs; rw [es]
      rw [cutL_hit]
      intro x hx e2
      subst e2
      obtain ⟨k, hk⟩ := List.getElem?_of_mem hx
      have hk2 : k < i := by
        have := (List.getElem?_eq_some_iff.1 hk).1
        rw [List.length_take] at this
        omega
      rw [List.getElem?_take_of_lt hk2] at hk
      exact h3 k hk2 hk
abbrev spB : ByteArray := ⟨#[32]⟩
/-- What the spaces of a text part. -/
def pieces (s : ByteArray) : List ByteArray := Lib.splitB spB 0 (Lib.countB s spB) s
theorem pieces_len (s : ByteArray) : (pieces s).length = Lib.countB s spB + 1 ∧ Lib.countB s spB ≤ s.size := ⟨Lib.splitB_all spB (by decide) 0 _ s rfl, Lib.countB_le spB (by decide) s.size s (Nat.le_refl _)⟩
theorem pieces_data (s : ByteArray) : (pieces s).map (fun x => x.data.toList) = cutL s.data.toList := by
  unfold pieces
  rw [Lib.splitB_data]
  exact split_cut _ _ (Nat.le_refl _)
theorem pieces_of {s : ByteArray} {xs : List ByteArray} (h : cutL s.data.toList = xs.map fun x => x.data.toList) : pieces s = xs := by
  have h1 := (pieces_data s).trans h
  have h2 := congrArg (List.map fun b : List UInt8 => (⟨b.toArray⟩ : ByteArray)) h1
  rw [List.map_map, List.map_map] at h2
  have e : ((fun b : List UInt8 => (⟨b.toArray⟩ : ByteArray)) ∘ fun s : ByteArray => s.data.toList) = id := by funext b; rfl
  rwa [e, List.map_id, List.map_id] at h2
end Go.Proofs.YtabibfabieghpaaGreatDoor
namespace Go.Proofs.YtabibfabieghpaaGreatDoor
open Go.RowKit Go.Maps Go.Sort
/-- The bytes of a scope's text and one. -/
def bytesL (l : List ByteArray) : Nat := (l.map fun s => s.size + 1).sum
theorem bytesL_snoc (l : List ByteArray) (s : ByteArray) : bytesL (l ++ [s]) = bytesL l + (s.size + 1) := by simp [bytesL]
theorem bytesL_perm {l m : List ByteArray} (h : l.Perm m) : bytesL l = bytesL m := (h.map _).sum_nat
theorem bytesL_le {l : List ByteArray} (h : ∀ s ∈ l, s.size ≤ 16) : bytesL l ≤ 17 * l.length := by
  induction l with
  | nil => simp [bytesL]
  | cons a l ih =>
    have h1 := h a (List.mem_cons_self ..)
    have h2 := ih fun s hs => h s (List.mem_cons_of_mem _ hs)
    simp only [bytesL, List.map_cons, List.sum_cons, List.length_cons] at h2 ⊢
    omega
/-- Few and short enough for a scope? -/
def fitL (l : List ByteArray) : Bool := decide (l.length ≤ 8) && decide (bytesL l ≤ 61)
def manyE (l : List ByteArray) : Int := if fitL l then 0 else 61
def fewL (l : List ByteArray) : List ByteArray := if fitL l then l else []
/-- What has come of a map's names. -/
structure Got (ks : List ByteArray) (left : Lit → Bool) (done : List ByteArray) : Prop where
  nodup : done.Nodup
  mem_ : ∀ s, s ∈ done ↔ (s ∈ ks ∧ left (keyL s) = false)
theorem Got.start {ks : List ByteArray} {D : DataW Unit} (hk : ∀ s, has D (keyL s) = true ↔ s ∈ ks) : Got ks (has D) [] :=
  ⟨List.nodup_nil, fun s => by
    constructor
    · intro h; cases h
    · rintro ⟨h1, h2⟩; rw [(hk s).2 h1] at h2; cases h2⟩
theorem Got.step {ks done : List ByteArray} {left : Lit → Bool} (h : Got ks left done) {x : ByteArray} (hx : x ∈ ks) (hl : left (keyL x) = true) : Got ks (fun z => left z && !z.sameKey (keyL x)) (done ++ [x]) := by
  have hnew : x ∉ done := fun h1 => by have := ((h.mem_ x).1 h1).2; rw [hl] at this; cases this
  refine ⟨List.nodup_append.2 ⟨h.nodup, by simp, fun a ha b hb => by simp at hb; subst hb; exact fun e => hnew (e ▸ ha)⟩, fun s => ?_⟩
  rw [List.mem_append, h.mem_ s]
  by_cases e : s = x
  · subst e
    simp [hx, WideAt.sameKey_self (keyL_is s)]
  · simp [e, sameKey_ne (keyL_ne e)]
theorem Got.perm {ks done : List ByteArray} {left : Lit → Bool} (h : Got ks left done) (hl : ∀ kl, left kl = false) : done.Perm (sortL ks) :=
  nodup_perm h.nodup (rise_sortL ks).nodup fun s => by rw [h.mem_, mem_sortL, hl]; simp
section
variable {E : World} {S : Ph} {L : List Hp}
theorem st_info : (Tryz.prog.info? ST).map (fun i => (i.zero, i.size, i.bytes)) = some (some (.string ⟨#[]⟩), 1, 16) := by kernel_rfl
theorem st_str : Tryz.prog.underlying ST = some .string := by kernel_rfl
theorem key_inv {kl : Lit} {s : ByteArray} (h : keyOf Tryz.prog ST (.string s) = some kl) : kl = keyL s := by
  obtain ⟨x, e, h2, h3⟩ := Maps.keyOf_str st_str h
  have e2 : s = ⟨x.toArray⟩ := Value.string.inj e
  rw [h2, e2]
theorem key_string {key : Value} {kl : Lit} (h : keyOf Tryz.prog ST key = some kl) : ∃ s, key = .string s := by
  obtain ⟨x, e, h2, h3⟩ := Maps.keyOf_str st_str h
  exact ⟨_, e⟩
theorem map_enc (l : List ByteArray) : (l.map fun s => s.data.toList).map encStr = l.map Value.string := by
  rw [List.map_map]
  exact List.map_congr_left fun s _ => rfl
theorem sort_any (A : Option Addr) (c : Nat) (l : List ByteArray) (hd : l.Nodup) (hl : l.length ≤ 8796093022208) (w : World) (h : Own E w (Hp.lst ST (.slice A l.length c) (l.map Value.string) :: L)) :
    Calls Tryz.prog 157 #[.slice A l.length c] w fun e w' => e = .returned (.tuple #[]) ∧ Own E w' (Hp.lst ST (.slice A l.length c) ((sortL l).map Value.string) :: L) := by
  by_cases h0 : l = []
  · subst h0
    refine (Tryz.slices_Sort_string_none A c w).mono ?_
    rintro e w' ⟨rfl, rfl⟩
    exact ⟨rfl, h⟩
  · obtain ⟨A', c', hv, -, -, ⟨e1, -⟩ | ⟨g, cur, rfl, -, -, -⟩⟩ := h.lstForm
    · exact absurd (List.map_eq_nil_iff.1 e1) h0
    · injection hv with q1 q2 q3
      subst q1
      rw [← map_enc] at h ⊢
      have hlen : (l.map fun s : ByteArray => s.data.toList).length = l.length := List.length_map ..
      have h9 : Own E w (Hp.lst ST (.slice (some ⟨g, 0, none⟩) (l.map fun s : ByteArray => s.data.toList).length c) ((l.map fun s : ByteArray => s.data.toList).map encStr) :: L) := by rw [hlen]; exact h
      have hpos : 0 < (l.map fun s : ByteArray => s.data.toList).length := by rw [hlen]; exact List.length_pos_iff.2 h0
      obtain ⟨hH, hlt⟩ := h9.lstHolds hpos
      have c0 := Tryz.slices_Sort_string g 0 c (l.map fun s => s.data.toList) w hH hlt (by rw [hlen]; omega)
      rw [hlen] at c0
      refine c0.mono ?_
      rintro e w' ⟨rfl, n, os, rfl⟩
      have h10 := h9.sorted hpos (ys := (l.map fun s : ByteArray => s.data.toList).mergeSort fun x y => decide (x ≤ y)) (by rw [List.length_mergeSort]) n os
      refine ⟨rfl, ?_⟩
      rw [mergeSort_eq hd, hlen] at h10
      rw [mergeSort_eq hd]
      exact h10
set_option maxRecDepth 20000 in
set_option maxHeartbeats 4000000 in
theorem sctold_any (b n : Nat) (D : DataW Unit) (ks : List ByteArray) (w : World) (hk : ∀ s, has D (keyL s) = true ↔ s ∈ ks) (hs : ∀ s ∈ ks, s.size ≤ 16) (hn : n ≤ 8796093022208) (h : Own E w (Hp.mp Tryz.prog ST intEl b n D :: L)) :
    Calls Tryz.prog 144 #[.map (some b)] w fun e w' => ∃ v, e = .returned (.tuple #[v, .int .i64 (manyE (sortL ks))]) ∧ Own E w' (Hp.lst ST v ((fewL (sortL ks)).map Value.string) :: Hp.mp Tryz.prog ST intEl b n D :: L) := by
  have HK := Lib.hid hk
  have HS := Lib.hid hs
  have hsz := h.mpOwns.size_le
  obtain ⟨m, hm⟩ : ∃ m, m = Maps.size D := ⟨_, rfl⟩
  rw [← hm] at hsz
  obtain ⟨w1, hmk, hw1, h1, -⟩ := sl_make (P := Tryz.prog) (T := LST) (e := ST) (z := .string ⟨#[]⟩) lst_u st_info rfl .i64 .i64 0 m (Nat.zero_le _) (by omega) (by unfold maxLen; omega) h
  obtain ⟨g, hg⟩ : ∃ g, g = w.heap.size := ⟨_, rfl⟩
  rw [← hg] at hmk h1
  have hmk' : (Instr.makeSlice LST (.int .i64 0) (.int .i64 m)).run Tryz.prog w = .ok (.slice (some ⟨g, 0, none⟩) 0 m) w1 := hmk
  have H := Lib.hid (show Own E w1 (Hp.lst ST (.slice (some ⟨g, 0, none⟩) 0 m) [] :: Hp.mp Tryz.prog ST intEl b n D :: L) from h1.rowLst)
  have HM := Lib.hid h
  have HMS := Lib.hid hm
  have HMN := Lib.hid (show m ≤ 8796093022208 by omega)
  clear hn hs hsz hk h h1 hmk hw1 hm hg
  go_enter Tryz.func144, Tryz.ntmps144
  go_wp2_with (first
    | (at_len; refine wpList_len_own _ rfl _ NMT rfl ST INT nmt_u intEl b n D rfl HM.out.mpOwns ?_; rw [← HMS.out])
    | (with_reducible refine at_slot (k := some 9) ?_; refine wpList_make_run (o := ⟨some 9, _, _, _, _, _⟩) hmk' rfl rfl rfl rfl ?_; clear hmk')
    | (at_range; refine wpList_range_own _ rfl _ NMT rfl ST INT st_keyed nmt_u intEl b n D rfl H.out.f1.mpOwns ?_; intro w2 hrg2 hg2 hs2; have H2 := Lib.hid (H.out.f1.rngStart hrg2 hg2); clear hrg2 hg2 hs2)
    | go_in)
  go_frame
  go_loopw [4, 5] (fun v i wr => ∃ (done : List ByteArray) (left : Lit → Bool) (cnt c : Nat) (A : Option Addr), v = .slice A done.length c ∧ i = .int .i64 (bytesL done) ∧ Got ks left done ∧ done.length + cnt ≤ m ∧ Own E wr (Hp.lst ST (.slice A done.length c) (done.map Value.string) :: Hp.rng Tryz.prog ST intEl b w1.heap.size n D left cnt :: L)) (fun _ _ wr => wr.rangeLeft b w1.heap.size)
  case atStart => exact ⟨[], has D, Maps.size D, m, some ⟨g, 0, none⟩, rfl, rfl, Got.start HK.out, by rw [← HMS.out]; simp, H2.out.f1⟩
  case round =>
    obtain ⟨done, left, cnt, c, A, rfl, rfl, hgot, hcnt, hw⟩ := hrel
    clear H H2 HM
    have HW := Lib.hid hw
    have HGOT := Lib.hid hgot
    have HCNT := Lib.hid hcnt
    have HBL := Lib.hid (bytesL_le fun s h => HS.out s ((hgot.mem_ s).1 h).1)
    clear hw hgot hcnt
    go_wp2_with (first
      | (at_next; refine wpList_next_ranges _ rfl _ rfl ST st_keyed intEl Value.string id (fun key kl hk => key_string hk) (fun v _ _ => ⟨v, rfl⟩) b w1.heap.size n _ _ _ rfl HW.out.f1.ranges ?_ ?_)
      | go_in)
    · intro hc0 hl0
      have hp := HGOT.out.perm hl0
      have e1 := hp.length_eq
      have e2 := bytesL_perm hp
      have HE : Hid (manyE (sortL ks) = (if done.length ≤ 8 ∧ bytesL done ≤ 61 then 0 else 61) ∧ fewL (sortL ks) = if done.length ≤ 8 ∧ bytesL done ≤ 61 then sortL ks else []) := Lib.hid (by
        unfold manyE fewL fitL
        rw [← e1, ← e2]
        by_cases q1 : done.length ≤ 8 <;> by_cases q2 : bytesL done ≤ 61 <;> simp [q1, q2])
      have ES : Hid (sortL done = sortL ks) := Lib.hid (sortL_congr fun x => by rw [hp.mem_iff, mem_sortL])
      have hd43 : done.length ≤ 8796093022208 := by have := HMN.out; have := HCNT.out; omega
      have KS := Lib.hid fun w4 h => sort_any (E := E) (L := Hp.mp Tryz.prog ST intEl b n D :: L) A c done HGOT.out.nodup hd43 w4 h
      have H5 := Lib.hid HW.out.f1.rngMap.f1
      clear hc0 hl0 hp e1 e2 hd43 HGOT HW
      rcases (by omega : 8 < done.length ∨ (done.length ≤ 8 ∧ 61 < bytesL done) ∨ (done.length ≤ 8 ∧ bytesL done ≤ 61)) with q | ⟨q, q2⟩ | ⟨q, q2⟩
      · have i1 : (8 : Int) < done.length := by omega
        go_wp2_with fail
        go_ret2
        obtain ⟨e1, e2⟩ := HE.out
        rw [if_neg (by omega)] at e1 e2
        rw [e1, e2]
        exact ⟨_, rfl, H5.out.drop.emptyLst ST none⟩
      · have i1 : ¬ (8 : Int) < done.length := by omega
        have i2 : (61 : Int) < bytesL done := by omega
        go_wp2_with fail
        go_ret2
        obtain ⟨e1, e2⟩ := HE.out
        rw [if_neg (by omega)] at e1 e2
        rw [e1, e2]
        exact ⟨_, rfl, H5.out.drop.emptyLst ST none⟩
      · have i1 : ¬ (8 : Int) < done.length := by omega
        have i2 : ¬ (61 : Int) < bytesL done := by omega
        go_wp2_with (with_reducible refine (KS.out _ H5.out).mono ?_; clear KS H5; rintro e w5 ⟨rfl, h⟩; have H6 := Lib.hid h; clear h)
        go_ret2
        obtain ⟨e1, e2⟩ := HE.out
        rw [if_pos ⟨q, q2⟩] at e1 e2
        rw [e1, e2, ← ES.out]
        exact ⟨_, rfl, H6.out⟩
    · intro x cv kl y yp w3 cnt3 hkey hlk hv hat hrg hlt hg3 hs3 hen
      obtain rfl := key_inv hkey
      have hx : x ∈ ks := (HK.out x).1 (has_true_of_atKey hat)
      have hx16 := HS.out x hx
      have hst := HGOT.out.step hx hlk
      have h3 := HW.out.f1.rngStep hrg hg3
      have hal := h3.alloc (.cells #[.string x] ST)
      obtain ⟨v', w4, hap, h4⟩ := lst_append (P := Tryz.prog) (t := LST) (ty := LST) lst_u st_info rfl hal.f2 (some ⟨w3.heap.size, 0, none⟩) 1 1 [.string x] rfl (hal.rdc 0 _ (fun j u hu => by simpa using hu)) (by simp [Value.oneCell']) (by have := HMN.out; have := HCNT.out; unfold maxLen; rw [List.length_map]; omega) (by have := HMN.out; have := HCNT.out; rw [List.length_map]; omega)
      obtain ⟨A', c', rfl, -⟩ := h4.lstSlice
      have e3 : done.map Value.string ++ [.string x] = (done ++ [x]).map Value.string := by simp
      rw [e3, List.length_map] at h4
      rw [e3, List.length_map] at hap
      have H4 := Lib.hid h4.f2
      have HST := Lib.hid hst
      have HLT := Lib.hid hlt
      have HL := Lib.hid HW.out.f1.ranges.left_eq
      have i2 : wrap64 ((x.size : Int) + 1) = (x.size : Int) + 1 := by unfold wrap64; omega
      have i3 : wrap64 ((bytesL done : Int) + ((x.size : Int) + 1)) = (bytesL (done ++ [x]) : Int) := by have := HBL.out; have := HMN.out; have := HCNT.out; rw [bytesL_snoc]; unfold wrap64; omega
      clear hkey hlk hv hat hrg hlt hg3 hs3 hx hst h3 hal h4 e3 HW HGOT
      go_wp2_with (with_reducible refine at_slot (k := some 19) ?_; refine wpList_append_run (o := ⟨some 19, _, _, _, _, _⟩) hap rfl rfl rfl rfl ?_; clear hap)
      go_roundw
      case rel => exact ⟨done ++ [x], _, cnt3, c', A', by simp, by rw [i3], HST.out, by have := HLT.out; have := HCNT.out; simp only [List.length_append, List.length_singleton]; omega, H4.out.f2.drop.f1⟩
      case measure => rw [H4.out.ranges.left_eq, HL.out]; exact HLT.out
/-- internal/bytealg.MaxLen holds an int. -/
def Max0 (E : World) (L : List Hp) : Prop := ∃ m : Int, ∀ w, Own E w L → w.cell? ⟨0, 0, none⟩ = some (.int .i64 m)
theorem Max0.cons {A : Hp} (h : Max0 E L) : Max0 E (A :: L) := h.imp fun _ h w hw => h w hw.drop
theorem Own.opened {w : World} {A : Hp} (h : Own E w (A :: L)) : ∃ a, A a ∧ Own E w (Hp.ro a :: L) := by
  obtain ⟨h1, h2, h3, x, hx, a, c, hd, rfl, hA, hL⟩ := h
  exact ⟨a, hA, h1, h2, h3, _, hx, a, c, hd, rfl, rfl, hL⟩
/-- scope.Parse of a text: its names, or what is wrong. -/
def parseV (s : ByteArray) : List ByteArray × Int :=
  if s.size = 0 then ([], 0) else if (pieces s).all nameB = true then (fewL (sortL (pieces s)), manyE (sortL (pieces s))) else ([], 60)
theorem manyE_cases (l : List ByteArray) : (manyE l = 0 ∧ fewL l = l) ∨ (manyE l = 61 ∧ fewL l = []) := by
  unfold manyE fewL
  cases fitL l <;> simp
set_option maxRecDepth 20000 in
set_option maxHeartbeats 4000000 in
theorem scparse_any (s : ByteArray) (w : World) (hs : s.size ≤ 4000000000) (hM : Max0 E L) (h : Own E w L) :
    Calls Tryz.prog 128 #[.string s] w fun e w' => ∃ v, e = .returned (.tuple #[v, .int .i64 (parseV s).2]) ∧ Own E w' (Hp.lst ST v ((parseV s).1.map Value.string) :: L) := by
  by_cases h0 : s.size = 0
  · have e0 : parseV s = ([], 0) := by unfold parseV; rw [if_pos h0]
    rw [e0]
    obtain rfl := size_zero h0
    have H := Lib.hid h
    clear h h0 hs
    go_enter Tryz.func128, Tryz.ntmps128
    go_wp2_with fail
    go_ret2
    exact ⟨_, rfl, H.out.emptyLst ST none⟩
  · have hne : s.toList.isEmpty = false := by
      rw [ByteArray.toList_eq, List.isEmpty_eq_false_iff]
      intro e
      exact h0 (by have := congrArg List.length e; simpa using this)
    obtain ⟨m, hm⟩ := hM
    obtain ⟨hl, hc⟩ := pieces_len s
    have KP := Tryz.strings_Split s spB m w (by omega) (hm w h) (by decide)
    have ha := (h.alloc (.cells ((pieces s).map Value.string).toArray ST))
    obtain ⟨S, hS, hb⟩ := (Own.mtoLst (xs := (pieces s).map Value.string) ha.toMk ((pieces s).length) (by simp) (by unfold maxLen; omega) (by simp) (by rw [List.take_of_length_le (by simp)])).opened
    rw [List.length_map] at hS
    have hrd := (lst_rds hS).1
    have e0 : parseV s = if (pieces s).all nameB = true then (fewL (sortL (pieces s)), manyE (sortL (pieces s))) else ([], 60) := by unfold parseV; rw [if_neg h0]
    have E0 := Lib.hid e0
    have KG := Lib.hid fun w3 h => gather_any (E := E) (S := S) (L := L) (some ⟨w.heap.size, 0, none⟩) (pieces s).length (pieces s).length (pieces s) w3 hrd (by omega) h
    have KT := Lib.hid fun b D w3 (hC : Counts D (pieces s)) (ha : (pieces s).all nameB = true) h => sctold_any (E := E) (L := Hp.ro S :: L) b (pieces s).length D (pieces s) w3 (fun x => by rw [hC.has_]; simp) (fun x hx => nm_size (List.all_eq_true.1 ha x hx)) (by omega) h
    have KP' : Hid (Calls Tryz.prog 143 #[.string s, .string spB] w fun e w' => e = .returned (.slice (some ⟨w.heap.size, 0, none⟩) (pieces s).length (pieces s).length) ∧ Own E w' (Hp.ro S :: L)) := Lib.hid (by
      refine KP.mono ?_
      rintro e w' ⟨rfl, rfl⟩
      rw [hl]
      exact ⟨rfl, hb⟩)
    clear h h0 hs hm ha hb hS hrd e0 KP hl hc
    generalize pieces s = ps at *
    obtain ⟨pn, hpn⟩ : ∃ pn, pn = ps.length := ⟨_, rfl⟩
    rw [← hpn] at KG KT KP'
    clear hpn
    generalize w.heap.size = g at *
    cases hall : ps.all nameB with
    | true =>
      have HA := Lib.hid hall
      have KG2 : Hid (∀ w3, Own E w3 (Hp.ro S :: L) → Calls Tryz.prog 142 #[.slice (some ⟨g, 0, none⟩) pn pn] w3 fun e w' => ∃ b, e = .returned (.tuple #[.map (some b), .int .i64 0]) ∧ ∃ D, Counts D ps ∧ Own E w' (Hp.mp Tryz.prog ST intEl b pn D :: Hp.ro S :: L)) := Lib.hid fun w3 h => (KG.out w3 h).mono fun e w' hor => by
        rcases hor with ⟨-, b, D, he, h1, h2⟩ | ⟨h1, -, -⟩
        · exact ⟨b, he, D, h1, h2⟩
        · rw [h1] at hall; cases hall
      clear KG hall
      go_enter Tryz.func128, Tryz.ntmps128
      go_wp2_with (first
        | (with_reducible refine KP'.out.mono ?_; clear KP'; rintro e w2 ⟨rfl, h⟩; have H2 := Lib.hid h; clear h)
        | (with_reducible refine (KG2.out _ H2.out).mono ?_; clear KG2 H2; rintro e w3 ⟨b, rfl, D, hC, h⟩; have HC := Lib.hid hC; have H3 := Lib.hid h; clear h hC)
        | (with_reducible refine (KT.out _ _ _ HC.out HA.out H3.out).mono ?_; clear KT H3; rintro e w4 ⟨v, rfl, h⟩; have H4 := Lib.hid h; clear h))
      go_ret2
      rw [E0.out, if_pos HA.out]
      exact ⟨v, rfl, H4.out.f1.drop.f1.drop⟩
    | false =>
      have HA := Lib.hid hall
      have KG2 : Hid (∀ w3, Own E w3 (Hp.ro S :: L) → Calls Tryz.prog 142 #[.slice (some ⟨g, 0, none⟩) pn pn] w3 fun e w' => e = .returned (.tuple #[.map none, .int .i64 60]) ∧ Own E w' (Hp.ro S :: L)) := Lib.hid fun w3 h => (KG.out w3 h).mono fun e w' hor => by
        rcases hor with ⟨h1, -⟩ | ⟨-, he, h2⟩
        · rw [h1] at hall; cases hall
        · exact ⟨he, h2⟩
      clear KG hall KT
      go_enter Tryz.func128, Tryz.ntmps128
      go_wp2_with (first
        | (with_reducible refine KP'.out.mono ?_; clear KP'; rintro e w2 ⟨rfl, h⟩; have H2 := Lib.hid h; clear h)
        | (with_reducible refine (KG2.out _ H2.out).mono ?_; clear KG2 H2; rintro e w3 ⟨rfl, h⟩; have H3 := Lib.hid h; clear h))
      go_ret2
      rw [E0.out, if_neg (by rw [HA.out]; decide)]
      exact ⟨_, rfl, H3.out.drop.emptyLst ST none⟩
end
end Go.Proofs.YtabibfabieghpaaGreatDoor
namespace Go.Proofs.YtabibfabieghpaaGreatDoor
open Go.ChangeShapes Go.WideShapes Go.ChangeAt Go.RowKit
section
variable {H : Type} {enc : TypeId × Value → H}
/-- As the kit's returnsInHanded_of_change_and, with the world's shape. -/
theorem returns_shaped {a : Assume} {C : Checked} {os : Os} {f : FuncId} {fn : Func} {s : ChangeSpec} {conds : List PathCond} {apart fresh handsOn again : Bool} {X : World → Array Value → Prop}
    (hX : ∀ (w w' : World) (args : Array Value), w.heap = w'.heap → X w args → X w' args)
    (own : ownKnob C.prog.godebug = none) (started : os.Started) (noInit : C.prog.inits.idxOf? f = none) (hfn : C.prog.funcs[f]? = some fn)
    (witness : ∃ (w : World) (tape : Tape) (i : Input), w.os = os ∧ (w.forCall tape i).Shaped C.prog ∧ i.vars = [] ∧ Input.okWide C.prog (w.forCall tape i) .any w.heap.size f i ∧
      ((s.pre enc C.prog fn conds apart (w.forCall tape i).memory i.args ∧ X (w.forCall tape i).memory i.args) ∧ sizedMet enc C.prog fn (OpenSpec.ofChange s) apart (w.forCall tape i).memory i.args) ∧ a.holds C.prog (lone (Frame.enter C.prog f i.args .normal) [] (w.forCall tape i)))
    (contract : ∀ (W : World) (base0 : Nat) (args : Array Value) (ds gs : List (DataW H)) (before : List MemPlace), W.ShapedOpen C.prog →
      (∀ (j : Nat) t v, fn.params[j]? = some t → args[j]? = some v → Value.okWide C.prog W .any base0 t v) →
      DataW.Whole enc C.prog fn.params.toList s.vars apart W args.toList ds gs before →
      (DataW.weightsEach C.prog (fn.params.toList ++ s.plain.varTypes C.prog) (ds ++ gs)).all (· ≤ reachBytes) = true → X W args →
      Calls C.prog f args W fun e W' => ∃ v, e = .returned v ∧ s.post enc C.prog fn apart fresh handsOn again W args v W') :
    ReturnsInHanded a C os f .any (fun w args => (s.pre enc C.prog fn conds apart w args ∧ X w args) ∧ sizedMet enc C.prog fn (OpenSpec.ofChange s) apart w args) (s.post enc C.prog fn apart fresh handsOn again) := by
  refine returnsInHanded_of_calls own started noInit witness ?_
  intro w tape i _ hsh _ hok hpre _
  obtain ⟨_, _, _, fn', hfn', _, _, _, _, hval⟩ := hok
  have e : fn' = fn := Option.some.inj (hfn'.symm.trans hfn)
  subst e
  obtain ⟨⟨⟨ds, gs, before, hw, _⟩, hx⟩, hz⟩ := hpre
  have hw' := DataW.Whole.of_heap (w' := w.forCall tape i) (by rfl) hw
  refine (contract (w.forCall tape i) w.heap.size i.args ds gs before hsh hval hw' (hz.weights hw) (hX _ _ _ (by rfl) hx)).mono fun e W' ⟨v, he, hp⟩ => ?_
  subst he
  exact ChangeSpec.post_blind hp
/-- A law that answers true and leaves what was there as it was, where the listed variables hold what they do. -/
theorem law_shaped {C : Checked} {lay : List (String × DataW Unit)} {os : Os} {f : FuncId} {fn : Func} {s : ChangeSpec}
    (own : ownKnob C.prog.godebug = none) (started : os.Started) (noInit : C.prog.inits.idxOf? f = none) (hfn : C.prog.funcs[f]? = some fn)
    (witness : ∃ (w : World) (tape : Tape) (i : Input), w.os = os ∧ (w.forCall tape i).Shaped C.prog ∧ i.vars = [] ∧ Input.okWide C.prog (w.forCall tape i) .any w.heap.size f i ∧
      ((s.pre enc C.prog fn [] false (w.forCall tape i).memory i.args ∧ laidMetH C.prog lay (w.forCall tape i).memory) ∧ sizedMet enc C.prog fn (OpenSpec.ofChange s) false (w.forCall tape i).memory i.args) ∧ Assume.holds {} C.prog (lone (Frame.enter C.prog f i.args .normal) [] (w.forCall tape i)))
    (hl : laidOutB C.prog = true) (hvars : s.vars = []) (hrd0 : (fn.params.toList.all fun t => C.prog.readableRec t && decide (t < C.prog.types.size)) = true)
    {tb : TypeId} (hres : fn.resultTypes = #[tb]) (hub : C.prog.underlying tb = some .bool)
    (hspec : ∀ ds : List (DataW H), ds.length = fn.params.toList.length → s.fn H ds = { results := [.lit (.bool true)], args := ds, vars := [] })
    (contract : ∀ (W : World) (base : Nat) (args : Array Value) (ds : List (DataW H)) (before : List MemPlace), W.ShapedOpen C.prog →
      (∀ (j : Nat) t v, fn.params[j]? = some t → args[j]? = some v → Value.okWide C.prog W .any base t v) →
      DataW.TrodAll enc C.prog W 0 (fun _ => true) true fn.params.toList args.toList ds before → laidMetH C.prog lay W →
      (DataW.weightsEach C.prog fn.params.toList ds).all (· ≤ reachBytes) = true →
      Calls C.prog f args W fun e W' => e = .returned (.bool true) ∧ Below W.heap.size W W') :
    ReturnsInHanded {} C os f .any (fun w args => (s.pre enc C.prog fn [] false w args ∧ laidMetH C.prog lay w) ∧ sizedMet enc C.prog fn (OpenSpec.ofChange s) false w args) (s.post enc C.prog fn false true false false) := by
  have hrd : ∀ t ∈ fn.params.toList, C.prog.readableRec t = true ∧ t < C.prog.types.size := fun t ht => by
    have := List.all_eq_true.1 hrd0 t ht
    simpa using this
  refine returns_shaped (X := fun w _ => laidMetH C.prog lay w) (fun _ _ _ hh h => h.of_heap hh) own started noInit hfn witness ?_
  intro W base args ds gs before hsh hval hW hsz hL
  have hW' := hW
  obtain ⟨p, q, hA, hV, rfl, hz, _⟩ := hW
  rw [hvars] at hV
  have hgs : gs = [] ∧ q = [] := by
    cases gs with
    | nil => exact ⟨rfl, hV⟩
    | cons _ _ => cases hV
  obtain ⟨rfl, rfl⟩ := hgs
  have hvt : s.plain.varTypes C.prog = [] := by simp [ChangeSpec.plain, DataSpec.varTypes, hvars]
  rw [hvt, List.append_nil, List.append_nil] at hsz
  have hlt : ∀ x ∈ p, x.block < W.heap.size := fun x hx => hW'.lt x (by simpa using hx)
  refine (contract W base args ds p hsh hval hA hL hsz).mono ?_
  rintro e W' ⟨rfl, hb⟩
  refine ⟨_, rfl, ds, [], p ++ [], [], p, [], hW', ?_, ?_, ?_, hb.frame _, fun h => by cases h⟩
  · rw [List.append_nil, hspec ds (trodAll_length _ _ _ _ hA), hres]
    exact trodAll_mk1 (shut_bool hub true)
  · rw [List.append_nil, hspec ds (trodAll_length _ _ _ _ hA)]
    exact trodAll_below hl hb _ _ _ _ hrd hA hlt
  · rw [List.append_nil, hspec ds (trodAll_length _ _ _ _ hA), hvars]
    rfl
end
/-- The listed variables. -/
abbrev laidF : List (String × DataW Unit) := [("unicode/utf8.acceptRanges", Rows.laid_unicode_utf8_acceptRanges), ("errors.errorType", Rows.laid_errors_errorType), ("unicode/utf8.first", Rows.laid_unicode_utf8_first)]
theorem laid_sub {W : World} (h : laidMetH Tryz.prog laidF W) : laidMetH Tryz.prog laidE W := by
  have h' : laidMet Tryz.prog [("unicode/utf8.acceptRanges", Rows.laid_unicode_utf8_acceptRanges), ("unicode/utf8.first", Rows.laid_unicode_utf8_first)] W ∧ handlesMet Tryz.prog laidE W := h
  exact ⟨laidMet_nil _ _, h'.2⟩
def firstCells : Array Value := (Go.Pinned.utf8FirstZ.map fun (n : Nat) => Value.int .u8 n).toArray
def acceptCells : Array Value := #[.int .u8 128, .int .u8 191, .int .u8 160, .int .u8 191, .int .u8 128, .int .u8 159, .int .u8 144, .int .u8 191, .int .u8 128, .int .u8 143] ++ Array.replicate 22 (.int .u8 0)
/-- A world that meets the condition. -/
noncomputable def laidWorldF (os : Os) : World :=
  let w0 := World.holding Tryz.prog os ⟨#[], #[], []⟩
  { w0 with heap := ((w0.heap.modify 2 fun
      | .cells _ t frozen => .cells firstCells t frozen
      | o => o).modify 3 fun
      | .cells _ t frozen => .cells acceptCells t frozen
      | o => o).modify 1 fun
      | .cells _ t frozen => .cells #[errT] t frozen
      | o => o }
theorem laidWorldF_met (os : Os) (args : Array Value) : laidMetH Tryz.prog laidF ((laidWorldF os).forCall (fun _ _ => 0) ⟨#[], args, []⟩).memory :=
  laidMetH_of_parts (laidMet_of_run3 8 (by kernel_rfl) (by kernel_rfl) (by kernel_rfl)) (by kernel_rfl)
theorem max_shaped (W : World) (h : W.ShapedOpen Tryz.prog) : ∃ m : Int, W.cell? ⟨0, 0, none⟩ = some (.int .i64 m) := by
  exact Go.Proofs.cell_of_shapedOpen_int (zero := #[.int .i64 0]) (t := 3) h (of_decide_eq_true (by kernel_rfl)) (by kernel_rfl) rfl (by kernel_rfl) (by kernel_rfl) Tryz.underlying3
theorem Max0.start {W : World} (h : W.ShapedOpen Tryz.prog) : Max0 W [Hp.ro (Ph.of W)] := by
  obtain ⟨m, hm⟩ := max_shaped W h
  exact ⟨m, fun _ hw => hw.old hm⟩
end Go.Proofs.YtabibfabieghpaaGreatDoor
