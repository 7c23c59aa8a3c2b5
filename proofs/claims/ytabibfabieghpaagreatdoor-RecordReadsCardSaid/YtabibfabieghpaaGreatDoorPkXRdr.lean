/- The reference's reader: number, take, num, short, parts, scope, after; same of two pairs. -/
import Derived.Test.YtabibfabieghpaaGreatDoorPkPaFam
import Derived.Test.YtabibfabieghpaaGreatDoorPkXPrF
namespace Go.Proofs.YtabibfabieghpaaGreatDoor
open Go.RowKit
/- PLAIN -/
def xnumV (s : ByteArray) : Int := if s.size = 0 ∨ 8 < s.size ∨ 9223372036854775808 ≤ numL s.data.toList then -1 else numL s.data.toList
def xtakeV (s : ByteArray) (n : Nat) : ByteArray × ByteArray := if s.size < n then (noB, noB) else (frontB s n, restB s n)
def xshortV (s : ByteArray) : ByteArray × ByteArray := if xnumV (xtakeV s 1).1 < 0 then (noB, (xtakeV s 1).2) else xtakeV (xtakeV s 1).2 (xnumV (xtakeV s 1).1).toNat
def xF (k : Fk) (s : ByteArray) : Fv × ByteArray :=
  match k with
  | .num k => (.n (xnumV (xtakeV s k).1), (xtakeV s k).2)
  | .text => (.s (xshortV s).1, (xshortV s).2)
  | .raw k => (.s (xtakeV s k).1, (xtakeV s k).2)
def xpartsV (s : ByteArray) : List ByteArray := if s.size = 0 then [] else pieces s
def xafterV (s : ByteArray) : Int := if s.size < 2 then -1 else xnumV (restB s 1)
theorem xtake_size (s : ByteArray) (n : Nat) : (xtakeV s n).1.size ≤ n ∧ (xtakeV s n).2.size ≤ s.size := by
  unfold xtakeV
  split
  · exact ⟨Nat.zero_le _, Nat.zero_le _⟩
  · refine ⟨front_len s n, ?_⟩
    show (restB s n).size ≤ _
    unfold restB
    rw [ByteArray.size_extract]; omega
theorem xnum_one (s : ByteArray) (h : s.size ≤ 1) : xnumV s ≤ 255 := by
  unfold xnumV
  split
  · omega
  · have h1 := numL_lt s.data.toList
    have h2 : s.data.toList.length = s.size := rfl
    have h3 : (256 : Nat) ^ s.data.toList.length ≤ 256 ^ 1 := Nat.pow_le_pow_right (by omega) (by omega)
    omega
theorem xshort_size (s : ByteArray) : (xshortV s).1.size ≤ 255 ∧ (xshortV s).2.size ≤ s.size := by
  unfold xshortV
  have h1 := xtake_size s 1
  split
  · exact ⟨Nat.zero_le _, h1.2⟩
  · have h2 := xtake_size (xtakeV s 1).2 (xnumV (xtakeV s 1).1).toNat
    have h3 := xnum_one (xtakeV s 1).1 h1.1
    exact ⟨by omega, by omega⟩
theorem xtake_front (l m : List UInt8) (k : Nat) (h : l.length = k) : xtakeV ⟨(l ++ m).toArray⟩ k = (⟨l.toArray⟩, ⟨m.toArray⟩) := by
  unfold xtakeV
  rw [fl_size, List.length_append, if_neg (by omega), fl_front l m k h, fl_rest l m k h]
theorem xnum_byN (k m : Nat) (h1 : 1 ≤ k) (h2 : k ≤ 8) (h3 : m < 256 ^ k) (h4 : m ≤ 9223372036854775807) : xnumV ⟨(byN k m).toArray⟩ = m := by
  unfold xnumV
  rw [fl_size, byN_len]
  show (if k = 0 ∨ 8 < k ∨ 9223372036854775808 ≤ numL (byN k m) then (-1 : Int) else numL (byN k m)) = m
  rw [fl_numL_byN, Nat.mod_eq_of_lt h3, if_neg (by omega)]
theorem xF_fits {f : Fk × Fv} (h : fits1 f) (R : List UInt8) : xF f.1 ⟨(bytesF f ++ R).toArray⟩ = (f.2, ⟨R.toArray⟩) := by
  obtain ⟨k, v⟩ := f
  cases k with
  | num k =>
    cases v with
    | n z =>
      obtain ⟨h1, h2, h3, h4, h5⟩ := h
      obtain ⟨m, rfl⟩ := Int.eq_ofNat_of_zero_le h3
      have hm : m < 256 ^ k := by
        have e : ((256 ^ k : Nat) : Int) = (256 : Int) ^ k := by rw [Int.natCast_pow]; rfl
        rw [← e] at h4; omega
      show (Fv.n (xnumV (xtakeV ⟨(byN k (m : Int).toNat ++ R).toArray⟩ k).1), (xtakeV ⟨(byN k (m : Int).toNat ++ R).toArray⟩ k).2) = (Fv.n m, _)
      rw [Int.toNat_natCast, xtake_front _ _ k (byN_len k m), xnum_byN k m h1 h2 hm (by omega)]
    | s t => exact h.elim
  | text =>
    cases v with
    | n z => exact h.elim
    | s t =>
      have h1 : t.size ≤ 255 := h
      show (Fv.s (xshortV ⟨(byN 1 t.size ++ t.data.toList ++ R).toArray⟩).1, (xshortV ⟨(byN 1 t.size ++ t.data.toList ++ R).toArray⟩).2) = (Fv.s t, _)
      have e : xshortV ⟨(byN 1 t.size ++ t.data.toList ++ R).toArray⟩ = (t, ⟨R.toArray⟩) := by
        unfold xshortV
        rw [List.append_assoc, xtake_front _ _ 1 (byN_len 1 _), xnum_byN 1 t.size (by omega) (by omega) (by omega) (by omega), if_neg (by omega), Int.toNat_natCast]
        exact xtake_front t.data.toList R t.size rfl
      rw [e]
  | raw k =>
    cases v with
    | n z => exact h.elim
    | s t =>
      have h1 : t.size = k := h
      show (Fv.s (xtakeV ⟨(t.data.toList ++ R).toArray⟩ k).1, (xtakeV ⟨(t.data.toList ++ R).toArray⟩ k).2) = (Fv.s t, _)
      rw [xtake_front t.data.toList R k h1]
/-- Fields one behind the other. -/
def xL : List Fk → ByteArray → List Fv
  | [], _ => []
  | k :: ks, s => (xF k s).1 :: xL ks (xF k s).2
theorem xL_fits : ∀ (fs : List (Fk × Fv)), (∀ f ∈ fs, fits1 f) → xL (fs.map (·.1)) ⟨(fs.flatMap bytesF).toArray⟩ = fs.map (·.2)
  | [], _ => rfl
  | f :: fs, h => by
    have h1 := xF_fits (h f (List.mem_cons_self ..)) (fs.flatMap bytesF)
    have h2 := xL_fits fs fun g hg => h g (List.mem_cons_of_mem _ hg)
    rw [List.map_cons, List.flatMap_cons, List.map_cons]
    unfold xL
    rw [h1]
    dsimp only
    rw [h2]
theorem xL_printed {fs : List (Fk × Fv)} (h : ∀ f ∈ fs, fits1 f) : xL (fs.map (·.1)) (printedV fs) = fs.map (·.2) := by
  rw [printed_fits h]; exact xL_fits fs h
theorem xafter_key (t : UInt8) (k : Nat) (z : Int) (h1 : 1 ≤ k) (h2 : k ≤ 8) (h3 : 0 ≤ z) (h4 : z < 256 ^ k) (h5 : z ≤ 9223372036854775807) : xafterV ⟨(t :: byN k z.toNat).toArray⟩ = z := by
  obtain ⟨m, rfl⟩ := Int.eq_ofNat_of_zero_le h3
  have hm : m < 256 ^ k := by
    have e : ((256 ^ k : Nat) : Int) = (256 : Int) ^ k := by rw [Int.natCast_pow]; rfl
    rw [← e] at h4; omega
  unfold xafterV
  rw [fl_size, List.length_cons, byN_len, if_neg (by omega), Int.toNat_natCast]
  have e : restB ⟨(t :: byN k m).toArray⟩ 1 = ⟨(byN k m).toArray⟩ := fl_rest [t] (byN k m) 1 rfl
  rw [e]
  exact xnum_byN k m h1 h2 hm (by omega)
/-- A scope's text parted is the scope. -/
theorem xparts_print {xs : List ByteArray} (h : scErr xs = 0) : xpartsV (scTxt xs) = xs := by
  obtain ⟨hn, hr, hf⟩ := scErr_zero h
  have e : scTxt xs = ⟨(joinL xs).toArray⟩ := by unfold scTxt; rw [if_pos h]
  unfold xpartsV
  rw [e]
  by_cases h0 : xs = []
  · subst h0
    rfl
  · have hp : pieces ⟨(joinL xs).toArray⟩ = xs := pieces_of (cut_join h0 hn)
    have hs : (⟨(joinL xs).toArray⟩ : ByteArray).size ≠ 0 := by
      obtain ⟨x, r, rfl⟩ := List.exists_cons_of_ne_nil h0
      have := name_pos (List.all_eq_true.1 hn x (List.mem_cons_self ..))
      show (x.data.toList ++ _).toArray.size ≠ 0
      have h2 : x.data.toList.length = x.size := rfl
      simp only [List.size_toArray, List.length_append, h2]
      omega
    rw [hp, if_neg hs]
theorem ext_data (s : ByteArray) (f k : Nat) : (s.extract f k).data.toList = (s.data.toList.drop f).take (k - f) := by
  rw [Lib.extract_data]
/- THE WALKS -/
abbrev RDT : TypeId := 141
def Hp.xrd (b : Nat) (s : ByteArray) : Hp := Hp.ex fun wr : Bool => Hp.blk b RDT #[.string s, .bool wr]
section
variable {E : World} {S : Ph} {L : List Hp}
/-- A text is put behind an owned list. -/
theorem push_str {v : Value} {xs : List ByteArray} {w : World} (h : Own E w (Hp.lst ST v (xs.map Value.string) :: L)) (s : ByteArray) (hl : xs.length + 1 ≤ 8796093022208) :
    ∃ A' c' w', (Builtin.append_ #[LST, LST] LST #[v, .slice (some ⟨w.heap.size, 0, none⟩) 1 1]).run Tryz.prog (w.alloc (.cells #[.string s] ST)) = .ok (.slice A' (xs.length + 1) c') w' ∧ Own E w' (Hp.lst ST (.slice A' (xs.length + 1) c') ((xs ++ [s]).map Value.string) :: L) := by
  have hal := h.alloc (.cells #[.string s] ST)
  obtain ⟨v', w4, hap, h4⟩ := lst_append (P := Tryz.prog) (t := LST) (ty := LST) lst_u st_info rfl hal.f1 (some ⟨w.heap.size, 0, none⟩) 1 1 [.string s] rfl (hal.rdc 0 _ (fun j u hu => by simpa using hu)) (by simp [Value.oneCell']) (by unfold maxLen; rw [List.length_map]; omega) (by rw [List.length_map]; omega)
  obtain ⟨A', c', rfl, -⟩ := h4.lstSlice
  have e3 : xs.map Value.string ++ [.string s] = (xs ++ [s]).map Value.string := by simp
  have e4 : (xs.map Value.string ++ [Value.string s]).length = xs.length + 1 := by simp
  rw [e4] at hap h4
  rw [e3] at h4
  exact ⟨A', c', w4, hap, h4.f1.drop⟩
theorem wrap_small (n : Nat) (h : n ≤ 9223372036854775807) : wrap64 (n : Int) = n := by unfold wrap64; omega
theorem num_take (l : List UInt8) (k : Nat) (hk : k < l.length) : numL (l.take (k + 1)) = numL (l.take k) * 256 + (l.getD k 0).toNat := by
  rw [List.take_add_one, List.getElem?_eq_getElem hk, List.getD_eq_getElem?_getD, List.getElem?_eq_getElem hk]
  exact numL_snoc _ _
set_option maxRecDepth 20000 in
set_option maxHeartbeats 4000000 in
theorem xnumber_any (s : ByteArray) (w : World) (hs : s.size ≤ 1000000000000000) (h : Own E w L) :
    Calls Tryz.prog 110 #[.string s] w fun e w' => e = .returned (.int .i64 (xnumV s)) ∧ Own E w' L := by
  have H := Lib.hid h
  have hlen : s.data.toList.length = s.size := rfl
  clear h
  by_cases h0 : s.size = 0
  · have e0 : xnumV s = -1 := if_pos (.inl h0)
    have i0 : (s.size : Int) = 0 := by omega
    rw [e0]
    clear e0 hlen
    go_enter Tryz.func110, Tryz.ntmps110
    go_wp2_with fail
    go_ret
    exact ⟨rfl, H.out⟩
  by_cases h8 : 8 < s.size
  · have e0 : xnumV s = -1 := if_pos (.inr (.inl h8))
    have hz : ((s.size : Int) == 0) = false := by rw [beq_eq_false_iff_ne]; omega
    have i1 : (8 : Int) < s.size := by omega
    rw [e0]
    clear e0 hlen h0
    go_enter Tryz.func110, Tryz.ntmps110
    go_wp2_with fail
    go_ret
    exact ⟨rfl, H.out⟩
  have hbig : numL s.data.toList < 256 ^ s.size := by rw [← hlen]; exact numL_lt _
  have h2 : (256 : Nat) ^ s.size ≤ 256 ^ 8 := Nat.pow_le_pow_right (by omega) (by omega)
  have hz : ((s.size : Int) == 0) = false := by rw [beq_eq_false_iff_ne]; omega
  have i1 : ¬ (8 : Int) < s.size := by omega
  have hix0 := byte_index s 0 0 rfl (by omega)
  by_cases hb : 9223372036854775808 ≤ numL s.data.toList
  · have e0 : xnumV s = -1 := if_pos (.inr (.inr hb))
    have e8 : s.size = 8 := by
      refine Nat.le_antisymm (by omega) (Nat.le_of_not_lt fun hlt => ?_)
      have h3 : (256 : Nat) ^ s.size ≤ 256 ^ 7 := Nat.pow_le_pow_right (by omega) (by omega)
      omega
    have hc := (numL_big s.data.toList (by omega)).1 hb
    have i2 : ((s.size : Int) == 8) = true := by rw [beq_iff_eq]; omega
    have i3 : (127 : Int) < ((s.data.toList.getD 0 0).toNat : Int) := by omega
    rw [e0]
    generalize (s.data.toList.getD 0 0).toNat = c0 at *
    clear e0 hlen h0 h8 hbig h2 hb hc
    go_enter Tryz.func110, Tryz.ntmps110
    go_wp2_with fail
    go_ret
    exact ⟨rfl, H.out⟩
  have e0 : xnumV s = numL s.data.toList := if_neg (by omega)
  have HT : Hid (∀ k, k < s.size → numL (s.data.toList.take (k + 1)) = numL (s.data.toList.take k) * 256 + (s.data.toList.getD k 0).toNat ∧ numL (s.data.toList.take (k + 1)) ≤ 9223372036854775807) := Lib.hid fun k hk => ⟨num_take _ k (by omega), by have := numL_le s.data.toList (k + 1); omega⟩
  have HE : Hid (s.data.toList.take s.size = s.data.toList) := Lib.hid (List.take_of_length_le (by omega))
  have hor : (((s.size : Int) == 8) = false) ∨ (((s.size : Int) == 8) = true ∧ ¬ (127 : Int) < ((s.data.toList.getD 0 0).toNat : Int)) := by
    by_cases h : s.size = 8
    · right
      refine ⟨by rw [beq_iff_eq]; omega, fun hc => hb ((numL_big s.data.toList (by omega)).2 (by omega))⟩
    · left; rw [beq_eq_false_iff_ne]; omega
  rw [e0]
  have HS8 := Lib.hid (show s.size ≤ 8 by omega)
  clear e0 hlen h0 h8 hbig h2 hb
  have KL : Hid (∀ k : Nat, k < s.size → ∀ W : World, (Instr.index ST (.string s) (.int .i64 k)).run Tryz.prog W = .ok (.int .u8 (s.data.toList.getD k 0).toNat) W) := Lib.hid fun k hk W => byte_index s k k rfl hk W
  generalize hc0 : (s.data.toList.getD 0 0).toNat = c0 at hor hix0
  clear hc0
  rcases hor with i2 | ⟨i2, i3⟩
  · go_enter Tryz.func110, Tryz.ntmps110
    go_wp2_with fail
    clear hix0
    go_loopw [3, 4] (fun o i wr => ∃ k : Nat, k ≤ s.size ∧ i = .int .i64 k ∧ o = .int .i64 (numL (s.data.toList.take k)) ∧ Own E wr L) (fun _ i _ => s.size - (intOf i).toNat)
    case atStart => exact ⟨0, by omega, rfl, rfl, H.out⟩
    case round =>
      obtain ⟨k, hk, rfl, rfl, hw⟩ := hrel
      clear H
      by_cases hlt : k < s.size
      · have hlti : (k : Int) < s.size := by omega
        have hix := KL.out k hlt
        obtain ⟨e1, e2⟩ := HT.out k hlt
        have hc := UInt8.toNat_lt (s.data.toList.getD k 0)
        obtain ⟨q1, hq1⟩ : ∃ q1, q1 = numL (s.data.toList.take (k + 1)) := ⟨_, rfl⟩
        rw [← hq1] at e1 e2
        generalize numL (s.data.toList.take k) = q at *
        generalize (s.data.toList.getD k 0).toNat = c at *
        have j3 : wrap64 ((k : Int) + 1) = ((k + 1 : Nat) : Int) := by have := HS8.out; unfold wrap64; omega
        have j4 : wrap64 ((q : Int) * 256) = (q : Int) * 256 := by rw [show (q : Int) * 256 = ((q * 256 : Nat) : Int) by omega, wrap_small (q * 256) (by omega)]
        have HQ1 := Lib.hid hq1
        have HQ := Lib.hid (show wrap64 ((q : Int) * 256 + wrap64 c) = (q1 : Int) by
          rw [wrap_small c (by omega), show (q : Int) * 256 + (c : Int) = (q1 : Int) by omega, wrap_small q1 e2])
        have HW := Lib.hid hw
        clear hw e1 e2 hq1 hc
        go_wp2_with fail
        go_roundw
        case rel => exact ⟨k + 1, by omega, by go_num, by rw [← HQ1.out, HQ.out], HW.out⟩
        case measure => simp [intOf]; omega
      · obtain rfl : k = s.size := by omega
        have hlti : ¬ (s.size : Int) < s.size := by omega
        have HW := Lib.hid hw
        clear hw
        rw [HE.out]
        go_wp2_with fail
        go_ret
        exact ⟨rfl, HW.out⟩
  · go_enter Tryz.func110, Tryz.ntmps110
    go_wp2_with fail
    clear hix0
    go_loopw [3, 4] (fun o i wr => ∃ k : Nat, k ≤ s.size ∧ i = .int .i64 k ∧ o = .int .i64 (numL (s.data.toList.take k)) ∧ Own E wr L) (fun _ i _ => s.size - (intOf i).toNat)
    case atStart => exact ⟨0, by omega, rfl, rfl, H.out⟩
    case round =>
      obtain ⟨k, hk, rfl, rfl, hw⟩ := hrel
      clear H
      by_cases hlt : k < s.size
      · have hlti : (k : Int) < s.size := by omega
        have hix := KL.out k hlt
        obtain ⟨e1, e2⟩ := HT.out k hlt
        have hc := UInt8.toNat_lt (s.data.toList.getD k 0)
        obtain ⟨q1, hq1⟩ : ∃ q1, q1 = numL (s.data.toList.take (k + 1)) := ⟨_, rfl⟩
        rw [← hq1] at e1 e2
        generalize numL (s.data.toList.take k) = q at *
        generalize (s.data.toList.getD k 0).toNat = c at *
        have j3 : wrap64 ((k : Int) + 1) = ((k + 1 : Nat) : Int) := by have := HS8.out; unfold wrap64; omega
        have j4 : wrap64 ((q : Int) * 256) = (q : Int) * 256 := by rw [show (q : Int) * 256 = ((q * 256 : Nat) : Int) by omega, wrap_small (q * 256) (by omega)]
        have HQ1 := Lib.hid hq1
        have HQ := Lib.hid (show wrap64 ((q : Int) * 256 + wrap64 c) = (q1 : Int) by
          rw [wrap_small c (by omega), show (q : Int) * 256 + (c : Int) = (q1 : Int) by omega, wrap_small q1 e2])
        have HW := Lib.hid hw
        clear hw e1 e2 hq1 hc
        go_wp2_with fail
        go_roundw
        case rel => exact ⟨k + 1, by omega, by go_num, by rw [← HQ1.out, HQ.out], HW.out⟩
        case measure => simp [intOf]; omega
      · obtain rfl : k = s.size := by omega
        have hlti : ¬ (s.size : Int) < s.size := by omega
        have HW := Lib.hid hw
        clear hw
        rw [HE.out]
        go_wp2_with fail
        go_ret
        exact ⟨rfl, HW.out⟩
set_option maxRecDepth 20000 in
set_option maxHeartbeats 4000000 in
theorem xparts_any (s : ByteArray) (w : World) (hs : s.size + 1 ≤ 8796093022208) (h : Own E w L) :
    Calls Tryz.prog 129 #[.string s] w fun e w' => ∃ A c, e = .returned (.slice A (xpartsV s).length c) ∧ Own E w' (Hp.lst ST (.slice A (xpartsV s).length c) ((xpartsV s).map Value.string) :: L) := by
  have HN43 := Lib.hid hs
  have H2 := Lib.hid (h.emptyLst ST none)
  clear h hs
  go_enter Tryz.func129, Tryz.ntmps129
  go_wp2_with fail
  go_loopw [3, 4, 5] (fun o f i wr => ∃ (k q : Nat) (out : List ByteArray) (A' : Option Addr) (c' : Nat), k ≤ s.size ∧ q ≤ k ∧ i = .int .i64 k ∧ f = .int .i64 q ∧ o = .slice A' out.length c' ∧ out.length ≤ k ∧
    cutL s.data.toList = (out.map fun x => x.data.toList) ++ cutL (s.data.toList.drop q) ∧ (∀ x ∈ (s.data.toList.drop q).take (k - q), x ≠ 32) ∧ Own E wr (Hp.lst ST (.slice A' out.length c') (out.map Value.string) :: L)) (fun _ _ i _ => s.size - (intOf i).toNat)
  case atStart => exact ⟨0, 0, [], none, 0, by omega, by omega, rfl, rfl, rfl, by simp, rfl, (by simp), H2.out⟩
  case round =>
    obtain ⟨k, q, out, A', c', hk, hq, rfl, rfl, rfl, hol, hcut, hno, hw⟩ := hrel
    clear H2
    have hlen : s.data.toList.length = s.size := rfl
    by_cases hlt : k < s.size
    · have hix := byte_index s k k rfl hlt
      have hgd : s.data.toList.getD k 0 = s.data.toList[k]'(by rw [hlen]; exact hlt) := by rw [List.getD_eq_getElem?_getD, List.getElem?_eq_getElem (by rw [hlen]; exact hlt)]; rfl
      rw [hgd] at hix
      have hdrop : s.data.toList.drop q = (s.data.toList.drop q).take (k - q) ++ s.data.toList[k]'(by rw [hlen]; exact hlt) :: s.data.toList.drop (k + 1) := by
        have e1 : s.data.toList.drop k = s.data.toList[k]'(by rw [hlen]; exact hlt) :: s.data.toList.drop (k + 1) := List.drop_eq_getElem_cons (by rw [hlen]; exact hlt)
        have e2 : (s.data.toList.drop q).drop (k - q) = s.data.toList.drop k := by rw [List.drop_drop, show q + (k - q) = k by omega]
        rw [← e1, ← e2, List.take_append_drop]
      have htake : (s.data.toList.drop q).take (k + 1 - q) = (s.data.toList.drop q).take (k - q) ++ [s.data.toList[k]'(by rw [hlen]; exact hlt)] := by
        rw [show k + 1 - q = (k - q) + 1 by omega, List.take_add_one, List.getElem?_drop, show q + (k - q) = k by omega, List.getElem?_eq_getElem (by rw [hlen]; exact hlt)]
        rfl
      obtain ⟨b, hb⟩ : ∃ b, b = s.data.toList[k]'(by rw [hlen]; exact hlt) := ⟨_, rfl⟩
      rw [← hb] at hix hdrop htake
      have i1 : (k : Int) < s.size := by omega
      have i5 : wrap64 ((k : Int) + 1) = ((k + 1 : Nat) : Int) := by have := HN43.out; unfold wrap64; omega
      have HK := Lib.hid hlt
      have HQ := Lib.hid hq
      have HOL := Lib.hid hol
      by_cases h32 : b = 32
      · subst h32
        have e32 : ((32 : UInt8).toNat : Int) = 32 := rfl
        rw [e32] at hix
        obtain ⟨A2, c2, w6, hap, h6⟩ := push_str hw (s.extract q k) (by have := HN43.out; omega)
        have HC := Lib.hid (show cutL s.data.toList = ((out ++ [s.extract q k]).map fun x => x.data.toList) ++ cutL (s.data.toList.drop (k + 1)) by
          rw [hcut, hdrop, cutL_hit _ hno, List.map_append, List.append_assoc]
          show _ = _ ++ ((s.extract q k).data.toList :: _)
          rw [ext_data]
          rfl)
        have H6 := Lib.hid h6
        have HL6 := Lib.hid (show (out ++ [s.extract q k]).length = out.length + 1 by rw [List.length_append]; rfl)
        have i2 : (q : Int) ≤ k := by omega
        have i3 : (k : Int) ≤ s.size := by omega
        have i4 : (0 : Int) ≤ q := by omega
        clear hgd hdrop htake hb hcut hno hw h6 e32 hk hq hlt hol hlen
        go_wp2_with (with_reducible refine at_slot (k := some 22) ?_; refine wpList_append_run (o := ⟨some 22, _, _, _, _, _⟩) hap rfl rfl rfl rfl ?_; clear hap)
        go_roundw
        case rel => exact ⟨k + 1, k + 1, _, A2, c2, by have := HK.out; omega, Nat.le_refl _, by rw [i5], by rw [i5], by rw [HL6.out], by have := HOL.out; rw [HL6.out]; omega, HC.out, by simp, by rw [HL6.out]; exact H6.out⟩
        case measure =>
          have := HK.out
          rw [i5]
          simp only [intOf]
          omega
      · have h33 : ((b.toNat : Int) == 32) = false := by
          rw [beq_eq_false_iff_ne]
          intro e
          exact h32 (by rw [← UInt8.toNat_inj]; have : (32 : UInt8).toNat = 32 := rfl; omega)
        have HNO := Lib.hid (show ∀ x ∈ (s.data.toList.drop q).take (k + 1 - q), x ≠ 32 from fun x hx => by
          rw [htake] at hx
          rcases List.mem_append.1 hx with hx | hx
          · exact hno x hx
          · rw [List.mem_singleton.1 hx]; exact h32)
        have HC := Lib.hid hcut
        have H6 := Lib.hid hw
        clear hgd hdrop htake hb hcut hno hw hk hq hlt hol hlen h32
        go_wp2_with fail
        go_roundw
        case rel => exact ⟨k + 1, q, _, A', c', by have := HK.out; omega, by have := HQ.out; omega, by rw [i5], rfl, rfl, by have := HOL.out; omega, HC.out, HNO.out, H6.out⟩
        case measure =>
          have := HK.out
          rw [i5]
          simp only [intOf]
          omega
    · obtain rfl : k = s.size := by omega
      have i1 : ¬ (s.size : Int) < s.size := by omega
      obtain ⟨A2, c2, w6, hap, h6⟩ := push_str hw (s.extract q s.size) (by have := HN43.out; omega)
      have HC := Lib.hid (show pieces s = out ++ [s.extract q s.size] from pieces_of (by
        have e1 : (s.data.toList.drop q).take (s.size - q) = s.data.toList.drop q := List.take_of_length_le (by rw [List.length_drop, hlen]; omega)
        rw [e1] at hno
        rw [hcut, cutL_whole hno, List.map_append]
        show _ ++ [_] = _ ++ [(s.extract q s.size).data.toList]
        rw [ext_data, e1]))
      have H6 := Lib.hid h6
      have HW0 := Lib.hid hw
      have i2 : (q : Int) ≤ s.size := by omega
      have i4 : (0 : Int) ≤ q := by omega
      clear hcut hno hw h6 hk hq hlt hol hlen
      have HS0 := Lib.hid (show (pieces s).length = (out ++ [s.extract q s.size]).length by rw [HC.out])
      by_cases hz : s.size = 0
      · have hzt : (s.toList == []) = true := by
          rw [ByteArray.toList_eq, beq_iff_eq]
          exact List.eq_nil_of_length_eq_zero hz
        have e0 : xpartsV s = [] := if_pos hz
        have HE0 := Lib.hid e0
        clear hz e0 hap
        have H7 := Lib.hid (HW0.out.drop.emptyLst ST none)
        go_wp2_with fail
        go_ret
        rw [HE0.out]
        exact ⟨none, 0, rfl, H7.out⟩
      · have hzt : (s.toList == []) = false := by
          rw [ByteArray.toList_eq, beq_eq_false_iff_ne]
          intro e
          exact hz (congrArg List.length e)
        have e0 : xpartsV s = out ++ [s.extract q s.size] := by
          unfold xpartsV
          rw [if_neg hz, HC.out]
        have e1 : (out ++ [s.extract q s.size]).length = out.length + 1 := by rw [List.length_append]; rfl
        have HE0 := Lib.hid e0
        have HE1 := Lib.hid e1
        clear hz e0 e1
        go_wp2_with (with_reducible refine at_slot (k := some 32) ?_; refine wpList_append_run (o := ⟨some 32, _, _, _, _, _⟩) hap rfl rfl rfl rfl ?_; clear hap)
        go_ret
        rw [HE0.out, HE1.out]
        exact ⟨_, _, rfl, H6.out⟩
set_option maxRecDepth 20000 in
set_option maxHeartbeats 4000000 in
theorem xtake_any (b : Nat) (s : ByteArray) (n : Nat) (w : World) (h : Own E w (Hp.xrd b s :: L)) :
    Calls Tryz.prog 98 #[.pointer (some ⟨b, 0, none⟩), .int .i64 n] w fun e w' => e = .returned (.string (xtakeV s n).1) ∧ Own E w' (Hp.xrd b (xtakeV s n).2 :: L) := by
  obtain ⟨wr, h⟩ := Own.ex.1 h
  have c0 := h.cell 0
  have f0 := h.frozen 0
  have f1 := h.frozen 1
  have c1 := h.cell 1
  simp only [List.getElem?_toArray, List.getElem?_cons_zero, List.getElem?_cons_succ] at c0 c1
  by_cases hlt : s.size < n
  · have e0 : xtakeV s n = (noB, noB) := if_pos hlt
    have hlti : (s.size : Int) < n := by omega
    have h1 : Own E _ (Hp.blk b RDT #[.string s, .bool true] :: L) := h.set 1 (.bool true)
    have h2 : Own E _ (Hp.blk b RDT #[.string ⟨#[]⟩, .bool true] :: L) := h1.set 0 (.string ⟨#[]⟩)
    have H := Lib.hid h2
    rw [e0]
    clear e0 h h1 h2
    go_enter Tryz.func98, Tryz.ntmps98
    go_wp2_with fail
    go_ret
    exact ⟨rfl, Own.ex.2 ⟨true, H.out⟩⟩
  · have e0 : xtakeV s n = (frontB s n, restB s n) := if_neg hlt
    have hlti : ¬ (s.size : Int) < n := by omega
    have i2 : (n : Int) ≤ s.size := by omega
    have h1 : Own E _ (Hp.blk b RDT #[.string (restB s n), .bool wr] :: L) := h.set 0 (.string (restB s n))
    have H := Lib.hid h1
    rw [e0]
    clear e0 h h1 hlt
    go_enter Tryz.func98, Tryz.ntmps98
    go_wp2_with fail
    go_ret
    exact ⟨rfl, Own.ex.2 ⟨wr, H.out⟩⟩
set_option maxRecDepth 20000 in
set_option maxHeartbeats 4000000 in
theorem xnum_any (b : Nat) (s : ByteArray) (n : Nat) (w : World) (hn : n ≤ 1000) (h : Own E w (Hp.xrd b s :: L)) :
    Calls Tryz.prog 99 #[.pointer (some ⟨b, 0, none⟩), .int .i64 n] w fun e w' => e = .returned (.int .i64 (xnumV (xtakeV s n).1)) ∧ Own E w' (Hp.xrd b (xtakeV s n).2 :: L) := by
  have K1 := Lib.hid (xtake_any b s n w h)
  have hsz := (xtake_size s n).1
  generalize xtakeV s n = p at *
  have K2 := Lib.hid (fun w h => xnumber_any (E := E) (L := Hp.xrd b p.2 :: L) p.1 w (by omega) h)
  clear h hsz
  obtain ⟨t, r⟩ := p
  dsimp only at K1 K2 ⊢
  go_enter Tryz.func99, Tryz.ntmps99
  go_wp2_with (first
    | (with_reducible refine K1.out.mono ?_; clear K1; rintro e w1 ⟨rfl, h⟩; have H1 := Lib.hid h; clear h)
    | (with_reducible refine (K2.out _ H1.out).mono ?_; clear K2 H1; rintro e w2 ⟨rfl, h⟩; have H2 := Lib.hid h; clear h))
  go_ret
  exact ⟨rfl, H2.out⟩
set_option maxRecDepth 20000 in
set_option maxHeartbeats 4000000 in
theorem xshort_any (b : Nat) (s : ByteArray) (w : World) (h : Own E w (Hp.xrd b s :: L)) :
    Calls Tryz.prog 96 #[.pointer (some ⟨b, 0, none⟩)] w fun e w' => e = .returned (.string (xshortV s).1) ∧ Own E w' (Hp.xrd b (xshortV s).2 :: L) := by
  have K1 : Hid (Calls Tryz.prog 99 #[.pointer (some ⟨b, 0, none⟩), .int .i64 1] w fun e w' => e = .returned (.int .i64 (xnumV (xtakeV s 1).1)) ∧ Own E w' (Hp.xrd b (xtakeV s 1).2 :: L)) := Lib.hid (xnum_any b s 1 w (by omega) h)
  have hsz := xtake_size s 1
  have hn1 := xnum_one (xtakeV s 1).1 hsz.1
  have e0 : xshortV s = if xnumV (xtakeV s 1).1 < 0 then (noB, (xtakeV s 1).2) else xtakeV (xtakeV s 1).2 (xnumV (xtakeV s 1).1).toNat := rfl
  rw [e0]
  generalize xtakeV s 1 = p at *
  obtain ⟨t, r⟩ := p
  dsimp only at K1 hsz hn1 ⊢
  generalize xnumV t = z at *
  clear h e0
  by_cases hz : z < 0
  · rw [if_pos hz]
    go_enter Tryz.func96, Tryz.ntmps96
    go_wp2_with (with_reducible refine K1.out.mono ?_; clear K1; rintro e w1 ⟨rfl, h⟩; have H1 := Lib.hid h; clear h)
    go_ret
    exact ⟨rfl, H1.out⟩
  · rw [if_neg hz]
    obtain ⟨n, rfl⟩ := Int.eq_ofNat_of_zero_le (Int.not_lt.1 hz)
    have K2 := Lib.hid (fun w h => xtake_any (E := E) (L := L) b r n w h)
    have hz1 : ¬ (n : Int) < 0 := hz
    rw [Int.toNat_natCast]
    clear hz
    go_enter Tryz.func96, Tryz.ntmps96
    go_wp2_with (first
      | (with_reducible refine K1.out.mono ?_; clear K1; rintro e w1 ⟨rfl, h⟩; have H1 := Lib.hid h; clear h)
      | (with_reducible refine (K2.out _ H1.out).mono ?_; clear K2 H1; rintro e w2 ⟨rfl, h⟩; have H2 := Lib.hid h; clear h))
    go_ret
    exact ⟨rfl, H2.out⟩
set_option maxRecDepth 20000 in
set_option maxHeartbeats 4000000 in
theorem xrscope_any (b : Nat) (s : ByteArray) (w : World) (h : Own E w (Hp.xrd b s :: L)) :
    Calls Tryz.prog 97 #[.pointer (some ⟨b, 0, none⟩)] w fun e w' => ∃ A c, e = .returned (.slice A (xpartsV (xshortV s).1).length c) ∧ Own E w' (Hp.lst ST (.slice A (xpartsV (xshortV s).1).length c) ((xpartsV (xshortV s).1).map Value.string) :: Hp.xrd b (xshortV s).2 :: L) := by
  have K1 := Lib.hid (xshort_any b s w h)
  have hsz := (xshort_size s).1
  generalize xshortV s = p at *
  obtain ⟨t, r⟩ := p
  dsimp only at K1 hsz ⊢
  have K2 := Lib.hid (fun w h => xparts_any (E := E) (L := Hp.xrd b r :: L) t w (by omega) h)
  clear h
  go_enter Tryz.func97, Tryz.ntmps97
  go_wp2_with (first
    | (with_reducible refine K1.out.mono ?_; clear K1; rintro e w1 ⟨rfl, h⟩; have H1 := Lib.hid h; clear h)
    | (with_reducible refine (K2.out _ H1.out).mono ?_; clear K2 H1; rintro e w2 ⟨A, c, rfl, h⟩; have H2 := Lib.hid h; clear h))
  go_ret
  exact ⟨A, c, rfl, H2.out⟩
set_option maxRecDepth 20000 in
set_option maxHeartbeats 4000000 in
theorem xafter_any (s : ByteArray) (w : World) (hs : s.size ≤ 1000000000000000) (h : Own E w L) :
    Calls Tryz.prog 95 #[.string s] w fun e w' => e = .returned (.int .i64 (xafterV s)) ∧ Own E w' L := by
  by_cases h2 : s.size < 2
  · have e0 : xafterV s = -1 := if_pos h2
    have i0 : (s.size : Int) < 2 := by omega
    have H := Lib.hid h
    rw [e0]
    clear e0 h h2
    go_enter Tryz.func95, Tryz.ntmps95
    go_wp2_with fail
    go_ret
    exact ⟨rfl, H.out⟩
  · have e0 : xafterV s = xnumV (restB s 1) := if_neg h2
    have i0 : ¬ (s.size : Int) < 2 := by omega
    have i1 : (1 : Int) ≤ s.size := by omega
    have K := Lib.hid (xnumber_any (restB s 1) w (by unfold restB; rw [ByteArray.size_extract]; omega) h)
    rw [e0]
    generalize hz : xnumV (restB s 1) = z at *
    clear e0 h h2 hz
    go_enter Tryz.func95, Tryz.ntmps95
    go_wp2_with (with_reducible refine K.out.mono ?_; clear K; rintro e w1 ⟨rfl, h⟩; have H1 := Lib.hid h; clear h)
    go_ret
    exact ⟨rfl, H1.out⟩
set_option maxRecDepth 20000 in
set_option maxHeartbeats 4000000 in
theorem xsame_any (k v k2 v2 : ByteArray) (w : World) (h : Own E w L) :
    Calls Tryz.prog 100 #[.agg #[.string k, .string v], .agg #[.string k2, .string v2]] w fun e w' => e = .returned (.bool (decide (k = k2) && decide (v = v2))) ∧ Own E w' L := by
  have h1 := (h.alloc (.cells #[.string k, .string v] ITT)).alloc (.cells #[.string k2, .string v2] ITT)
  rw [alloc_size] at h1
  have c0 := h1.f1.cell 0
  have c1 := h1.f1.cell 1
  have c2 := h1.cell 0
  have c3 := h1.cell 1
  simp only [List.getElem?_toArray, List.getElem?_cons_zero, List.getElem?_cons_succ] at c0 c1 c2 c3
  have e1 : (k.toList == k2.toList) = decide (k = k2) := beq_str _ _
  have e2 : (v.toList == v2.toList) = decide (v = v2) := beq_str _ _
  have H := Lib.hid h1.drop.drop
  clear h h1
  generalize decide (k = k2) = b1 at *
  generalize decide (v = v2) = b2 at *
  cases b1 <;>
  · go_enter Tryz.func100, Tryz.ntmps100
    go_wp2_with fail
    go_ret
    exact ⟨rfl, H.out⟩
/- By a field's kind. -/
theorem xFtext (b : Nat) {s r a : ByteArray} (hx : xF .text s = (.s a, r)) (w : World) (h : Own E w (Hp.xrd b s :: L)) :
    Calls Tryz.prog 96 #[.pointer (some ⟨b, 0, none⟩)] w fun e w' => e = .returned (.string a) ∧ Own E w' (Hp.xrd b r :: L) := by
  have hh := xshort_any b s w h
  have h1 : (xshortV s).1 = a := by injection hx with h1; injection h1
  have h2 : (xshortV s).2 = r := by injection hx
  rw [h1, h2] at hh
  exact hh
theorem xFnum (b : Nat) {n : Nat} {s r : ByteArray} {a : Int} (hn : n ≤ 1000) (hx : xF (.num n) s = (.n a, r)) (w : World) (h : Own E w (Hp.xrd b s :: L)) :
    Calls Tryz.prog 99 #[.pointer (some ⟨b, 0, none⟩), .int .i64 n] w fun e w' => e = .returned (.int .i64 a) ∧ Own E w' (Hp.xrd b r :: L) := by
  have hh := xnum_any b s n w hn h
  have h1 : xnumV (xtakeV s n).1 = a := by injection hx with h1; injection h1
  have h2 : (xtakeV s n).2 = r := by injection hx
  rw [h1, h2] at hh
  exact hh
theorem xFraw (b : Nat) {n : Nat} {s r a : ByteArray} (hx : xF (.raw n) s = (.s a, r)) (w : World) (h : Own E w (Hp.xrd b s :: L)) :
    Calls Tryz.prog 98 #[.pointer (some ⟨b, 0, none⟩), .int .i64 n] w fun e w' => e = .returned (.string a) ∧ Own E w' (Hp.xrd b r :: L) := by
  have hh := xtake_any b s n w h
  have h1 : (xtakeV s n).1 = a := by injection hx with h1; injection h1
  have h2 : (xtakeV s n).2 = r := by injection hx
  rw [h1, h2] at hh
  exact hh
theorem xFscope (b : Nat) {s r a : ByteArray} (hx : xF .text s = (.s a, r)) (w : World) (h : Own E w (Hp.xrd b s :: L)) :
    Calls Tryz.prog 97 #[.pointer (some ⟨b, 0, none⟩)] w fun e w' => ∃ A c, e = .returned (.slice A (xpartsV a).length c) ∧ Own E w' (Hp.lst ST (.slice A (xpartsV a).length c) ((xpartsV a).map Value.string) :: Hp.xrd b r :: L) := by
  have hh := xrscope_any b s w h
  have h1 : (xshortV s).1 = a := by injection hx with h1; injection h1
  have h2 : (xshortV s).2 = r := by injection hx
  rw [h1, h2] at hh
  exact hh
end
theorem xF_text (s : ByteArray) : ∃ a r, xF .text s = (.s a, r) ∧ a.size ≤ 255 := ⟨_, _, rfl, (xshort_size s).1⟩
theorem xF_num (n : Nat) (s : ByteArray) : ∃ a r, xF (.num n) s = (.n a, r) := ⟨_, _, rfl⟩
theorem xF_raw (n : Nat) (s : ByteArray) : ∃ a r, xF (.raw n) s = (.s a, r) ∧ a.size ≤ n := ⟨_, _, rfl, (xtake_size s n).1⟩
theorem cutP_le : ∀ {l : List UInt8}, ∀ p ∈ cutL l, p.length ≤ l.length
  | [], p, hp => by
    have : p = [] := by simpa [cutL] using hp
    rw [this]; exact Nat.zero_le _
  | c :: l, p, hp => by
    unfold cutL at hp
    split at hp
    · rcases List.mem_cons.1 hp with rfl | hp
      · exact Nat.zero_le _
      · have := cutP_le p hp
        rw [List.length_cons]; omega
    · split at hp
      · have : p = [c] := by simpa using hp
        rw [this]; simp
      · rename_i q qs e
        have ih := cutP_le (l := l)
        rw [e] at ih
        rcases List.mem_cons.1 hp with rfl | hp
        · have := ih q (List.mem_cons_self ..)
          rw [List.length_cons, List.length_cons]; omega
        · have := ih p (List.mem_cons_of_mem _ hp)
          rw [List.length_cons]; omega
theorem xparts_size (s : ByteArray) : (xpartsV s).length ≤ s.size + 1 ∧ ∀ x ∈ xpartsV s, x.size ≤ s.size := by
  unfold xpartsV
  split
  · exact ⟨Nat.zero_le _, fun x hx => by cases hx⟩
  · refine ⟨by have := pieces_len s; omega, fun x hx => ?_⟩
    have h1 : x.data.toList ∈ cutL s.data.toList := by rw [← pieces_data]; exact List.mem_map_of_mem hx
    exact cutP_le _ h1
end Go.Proofs.YtabibfabieghpaaGreatDoor
