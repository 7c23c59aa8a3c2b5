/- scope.Print, scope.Right of one name; record.isName. A list of fields is built; printed of one; record.numbered. read of a list that was built; record.number. The reference's by, short, member. The lists of fields of the kinds of records (printed by gen_fields.py). For the Prints: pairs, keys, names. -/
import Derived.Test.YtabibfabieghpaaGreatDoorPkz0
import Derived.Test.YtabibfabieghpaaGreatDoorPkNamed
import Derived.Test.YtabibfabieghpaaGreatDoorPkRead
import Derived.Great.BuildSlice
import Derived.Test.YtabibfabieghpaaGreatDoorPkz1
namespace Go.Proofs.YtabibfabieghpaaGreatDoor
open Go.RowKit
section
variable {E : World} {L : List Hp}
theorem joinone_any (b : Nat) (s : ByteArray) (w : World) (hs : s.size ≤ 16) (h : Own E w (Hp.blk b 9 #[.string s] :: L)) :
    Calls Tryz.prog 140 #[.slice (some ⟨b, 0, none⟩) 1 1, .string ⟨#[32]⟩] w fun e w' => e = .returned (.string s) ∧ Own E w' (Hp.blk b 9 #[.string s] :: L) := by
  have hl : Lib.join ([s].map (·.data.toList)) [32] = s.data.toList := Lib.join_one _ _
  refine (Tryz.strings_Join b 0 1 [s] ⟨#[32]⟩ w (fun j x hx => ?_) (lt_of_some h.at_) (by simp) (by simp) ?_).mono ?_
  · have hc := h.cell j
    rw [Nat.zero_add, hc]
    cases j with
    | zero =>
      simp only [List.getElem?_cons_zero, Option.some.injEq] at hx
      rw [← hx]; rfl
    | succ j => simp at hx
  · rw [show (⟨#[32]⟩ : ByteArray).data.toList = [32] from rfl, hl]
    show s.size ≤ _
    omega
  · rintro e w' ⟨rfl, hb⟩
    refine ⟨?_, h.ofBelow hb⟩
    rw [show (⟨#[32]⟩ : ByteArray).data.toList = [32] from rfl, hl]
def nmV (s : ByteArray) (b : Bool) : ByteArray := if b then s else ⟨#[]⟩
set_option maxHeartbeats 1000000 in
theorem printone_any (b : Nat) (s : ByteArray) (w : World) (h : Own E w (Hp.blk b 9 #[.string s] :: L)) :
    Calls Tryz.prog 124 #[.slice (some ⟨b, 0, none⟩) 1 1] w fun e w' => ∃ x : Int, (x == 0) = nameB s ∧ e = .returned (.tuple #[.string (nmV s (nameB s)), .int .i64 x]) ∧ Own E w' (Hp.blk b 9 #[.string s] :: L) := by
  go_enter Tryz.func124, Tryz.ntmps124
  go_wp2_with fail
  go_loopw [9] (fun i wr => ∃ k : Nat, k ≤ 1 ∧ i = .int .i64 k ∧ (k = 1 → nameB s = true) ∧ Own E wr (Hp.blk b 9 #[.string s] :: L)) (fun i _ => 1 - (intOf i).toNat)
  case atStart => exact ⟨0, by omega, rfl, fun h => absurd h (by decide), h⟩
  case round =>
    obtain ⟨k, hk, rfl, hn, hw⟩ := hrel
    clear h
    rcases (by omega : k = 0 ∨ k = 1) with rfl | rfl
    · have hc : wr.cell? ⟨b, 0, none⟩ = some (.string s) := by rw [hw.cell 0]; rfl
      have HN := fun h => named_any (E := E) (L := Hp.blk b 9 #[.string s] :: L) s wr h
      have HX := Lib.hid hn
      clear hn
      cases e : nameB s with
      | true =>
        rw [e] at HN
        have HE := Lib.hid e
        clear e
        go_wp2_with (refine (HN hw).mono ?_; clear HN hw; rintro e wr2 ⟨rfl, hw⟩)
        go_roundw
        case rel => exact ⟨1, by omega, rfl, fun _ => by first | trivial | exact HE.out, hw⟩
        case measure => simp [intOf]
      | false =>
        rw [e] at HN
        have HE := Lib.hid e
        clear e
        go_wp2_with (refine (HN hw).mono ?_; clear HN hw; rintro e wr2 ⟨rfl, hw⟩)
        go_ret2
        exact ⟨60, by rw [HE.out]; rfl, by rw [HE.out]; rfl, hw⟩
    · have e := hn rfl
      have hs : s.size ≤ 16 := by
        unfold nameB at e
        simp only [Bool.and_eq_true, decide_eq_true_eq] at e
        exact e.2
      have hg : ¬ (60 : Int) < s.size := by omega
      have HN := fun h => joinone_any (E := E) (L := L) b s wr hs h
      have HE := Lib.hid e
      clear e hn hs
      go_wp2_with (refine (HN hw).mono ?_; clear HN hw; rintro e wr2 ⟨rfl, hw⟩)
      go_ret2
      exact ⟨0, by rw [HE.out]; rfl, by rw [HE.out]; rfl, hw⟩
theorem rightone_any (b : Nat) (s : ByteArray) (w : World) (h : Own E w (Hp.blk b 9 #[.string s] :: L)) :
    Calls Tryz.prog 122 #[.slice (some ⟨b, 0, none⟩) 1 1] w fun e w' => e = .returned (.bool (nameB s)) ∧ Own E w' (Hp.blk b 9 #[.string s] :: L) := by
  go_enter Tryz.func122, Tryz.ntmps122
  go_wp2_with (refine (printone_any b s _ h).mono ?_; clear h; rintro e w2 ⟨x, hx, rfl, h⟩)
  go_ret
  exact ⟨by rw [← hx]; rfl, h⟩
theorem isname_any (s : ByteArray) (w : World) (h : Own E w L) :
    Calls Tryz.prog 74 #[.string s] w fun e w' => e = .returned (.bool (nameB s)) ∧ Own E w' L := by
  go_enter Tryz.func74, Tryz.ntmps74
  go_wp2_with (refine (rightone_any _ s _ (h.alloc _)).mono ?_; rintro e w2 ⟨rfl, h⟩)
  go_ret
  exact ⟨rfl, h.drop⟩
end
end Go.Proofs.YtabibfabieghpaaGreatDoor
namespace Go.Proofs.YtabibfabieghpaaGreatDoor
open Go.RowKit
theorem Own.lend {E w : World} {A : Hp} {S : Ph} {L : List Hp} (h : Own E w (A :: Hp.ro S :: L)) :
    ∃ a : Ph, A a ∧ Ph.apart a S ∧ Own E w (Hp.ro (Ph.join a S) :: L) := by
  obtain ⟨h1, h2, h3, _, hx, a, b, hd, rfl, hA, hL⟩ := h
  have h4 : Own E w (Hp.ro a :: Hp.ro S :: L) := ⟨h1, h2, h3, _, hx, a, b, hd, rfl, rfl, hL⟩
  exact ⟨a, hA, h4.merge.2, h4.merge.1⟩
theorem Own.give {E w : World} {A : Hp} {S a : Ph} {L : List Hp} (hA : A a) (hd : Ph.apart a S) (h : Own E w (Hp.ro (Ph.join a S) :: L)) : Own E w (A :: Hp.ro S :: L) :=
  (h.part hd).imp fun x hx => by have hx' : x = a := hx; rw [hx']; exact hA
/-- What is lent is read as it is. -/
theorem lent_cell {b : Nat} {t : TypeId} {cs : Array Value} {a S : Ph} (h : Hp.blk b t cs a) (i : Nat) : (Ph.join a S).cell ⟨b, i, none⟩ = cs[i]? := by
  have e : a = Ph.one b (.cells cs t (0, 0)) := h
  subst e
  unfold Ph.cell Ph.join Ph.one
  simp
theorem left_cell {a S : Ph} {x : Addr} {v : Value} (hc : a.cell x = some v) : (Ph.join a S).cell x = some v := Ph.cell_sub (fun _ _ h => Ph.join_some h) hc
theorem kept_cell {a S : Ph} (h : Ph.apart a S) {x : Addr} {v : Value} (hc : S.cell x = some v) : (Ph.join a S).cell x = some v := Ph.cell_sub (fun k o hk => by
  unfold Ph.join
  rcases h k with e | e
  · rw [e]; exact hk
  · rw [hk] at e; cases e) hc
/-- Fields one after another. -/
theorem fl_at (xs : List (Fk × Addr)) (k : Nat) (hk : k < xs.length) (j : Nat) (v : Value) (hv : (enF xs[k])[j]? = some v) : (xs.flatMap enF)[k * 8 + j]? = some v := flatMap_at enF_len xs k hk j v hv
theorem fl_rdsK {b : Nat} {xs : List Fld} {n : Nat} (hn : xs.length = n) {a S : Ph} (h : Hp.blk b FT (xs.flatMap enFld).toArray a) : Rds (Ph.join a S) 8 enFld (some ⟨b, 0, none⟩) n xs :=
  ⟨hn, fun x => enF_len _, fun k hk => ⟨b, 0, rfl, fun j v hv => by
    rw [Nat.zero_add, lent_cell h]
    rw [List.getElem?_toArray]
    exact flatMap_at (fun x => enF_len _) xs k hk j v hv⟩⟩
theorem ft_info : (Tryz.prog.info? FT).map (fun i => (i.zero.isSome, i.size)) = some (true, 8) := by kernel_rfl
theorem run_fields (xs : List (Fk × Addr)) (n : Nat) (hn : xs.length = n) (h0 : 0 < n) (h1 : n ≤ 100) (parts : Array (Nat × Value)) (hp : parts.toList = ((xs.map fun x => Value.agg (enF x).toArray).zipIdx 0).map fun x => (x.2, x.1)) (w : World) :
    (Instr.buildSlice FLT n parts).run Tryz.prog w = .ok (.slice (some ⟨w.heap.size, 0, none⟩) n n) (w.alloc (.cells (xs.flatMap enF).toArray FT)) := by
  obtain ⟨i, hi, hz⟩ := Option.map_eq_some_iff.1 ft_info
  simp only [Prod.mk.injEq] at hz
  obtain ⟨z, hz0⟩ := Option.isSome_iff_exists.1 hz.1
  have e : (xs.map fun x => Value.agg (enF x).toArray).flatMap (fun v => v.cells.toList) = xs.flatMap enF := by
    rw [List.flatMap_map]
    rfl
  have hf := Great.fill_whole (s := 8) (by omega) (xs.map fun x => Value.agg (enF x).toArray) ((Array.range (n * 8)).map (z.cells[· % z.cells.size]!)) (fun v hv => by
    obtain ⟨x, _, rfl⟩ := List.mem_map.1 hv
    show (enF x).toArray.size = 8
    rw [List.size_toArray, enF_len]) (by simp [hn])
  rw [e, ← hp] at hf
  exact run_buildSlice w FLT FT n parts _ i z Tryz.underlying94 hi hz0 (by rw [hz.2]; omega) (by rw [hz.2]; omega) (by rw [hz.2]; exact hf)
theorem wp_fields {o : Oper} {a : Act} {w : World} {K : Act → World → Prop} {Q : Exit → Act → World → Prop} {n : Nat} {parts : Array (Nat × Operand)} (xs : List (Fk × Addr)) (ho : o.op = .buildSlice FLT n parts) (hn : xs.length = n) (h0 : 0 < n) (h1 : n ≤ 100)
    (hp : (parts.map fun (i, x) => (i, a.eval x)).toList = ((xs.map fun x => Value.agg (enF x).toArray).zipIdx 0).map fun x => (x.2, x.1))
    (h : K (a.put o.dst (.slice (some ⟨w.heap.size, 0, none⟩) n n)) (w.alloc (.cells (xs.flatMap enF).toArray FT))) : o.wp Tryz.prog a w K Q := by
  unfold Oper.wp execOp
  simp only [ho, Sem.run_bind, run_fields xs n hn h0 h1 _ hp w, Result.andThen_ok]
  exact h
theorem printed_size (fs : List (Fk × Fv)) (h : ∀ f ∈ fs, f.2.str.size ≤ 4294967000) : (printedV fs).size ≤ 4294967296 * fs.length := by
  have h1 := lays_len fs ([], 0) h
  have h2 : (layL fs).1.length ≤ 0 + 4294967296 * fs.length := h1
  unfold printedV wDone
  split
  · exact Nat.zero_le _
  · show (layL fs).1.toArray.size ≤ _
    rw [List.size_toArray]; omega
theorem one_cell (b : Nat) (t : TypeId) (cs : Array Value) (i : Nat) : (Ph.one b (.cells cs t (0, 0))).cell ⟨b, i, none⟩ = cs[i]? := by
  unfold Ph.cell Ph.one
  simp
theorem one_ok (b : Nat) (k : Nat) (z : Int) (hz : z ≤ 9223372036854775807) : ∀ x ∈ [((.num k, ⟨b, 0, none⟩, .n z) : Fld)], FldOk (Ph.one b (.cells #[.int .i64 z] 3 (0, 0))) x := fun x hx => by
  rw [List.mem_singleton] at hx
  subst hx
  exact ⟨trivial, one_cell b _ _ 0, hz, by show (0 : Nat) ≤ _; omega⟩
section
variable {E : World} {L : List Hp}
/-- printed of a list that was built; what it points to lies in T. -/
theorem printed_blk {T : Ph} (b n : Nat) (xs : List Fld) (w : World) (hn : xs.length = n) (h1 : n ≤ 100) (hx : ∀ x ∈ xs, FldOk T x) (hG : Laid0 E L) (h : Own E w (Hp.blk b FT (xs.flatMap enFld).toArray :: Hp.ro T :: L)) :
    Calls Tryz.prog 61 #[.slice (some ⟨b, 0, none⟩) n n] w fun e w' => e = .returned (.string (printedV (xs.map Fld.kv))) ∧ Own E w' (Hp.ro T :: L) := by
  obtain ⟨a, hA, hd, h2⟩ := h.lend
  refine (printed_any (some ⟨b, 0, none⟩) n n xs w h1 (fl_rdsK hn hA) (fun x hx' => ⟨(hx x hx').su, kept_cell hd (hx x hx').at_, (hx x hx').num, (hx x hx').str⟩) hG.cons h2).mono ?_
  rintro e w' ⟨rfl, h⟩
  exact ⟨rfl, (Own.give hA hd h).drop⟩
set_option maxHeartbeats 1000000 in
theorem numbered_any (p : ByteArray) (k : Nat) (z : Int) (w : World) (hp : p.size ≤ 1000000) (hz : z ≤ 9223372036854775807) (hG : Laid0 E L) (h : Own E w L) :
    Calls Tryz.prog 60 #[.string p, .int .i64 k, .int .i64 z] w fun e w' => e = .returned (.string (p ++ printedV [(.num k, .n z)])) ∧ Own E w' L := by
  have H := Lib.hid h
  have HG := Lib.hid hG
  have HL : Hid (∀ a : Addr, ¬ 9223372036854775807 < p.size + (printedV [Fld.kv (.num k, a, .n z)]).size) := Lib.hid fun a => by
    have := printed_size [(.num k, .n z)] fun f hf => by
      rw [List.mem_singleton] at hf
      subst hf
      show (0 : Nat) ≤ _
      omega
    have e : (printedV [Fld.kv (.num k, a, .n z)]).size ≤ 4294967296 := this
    omega
  clear h hG hp
  go_enter Tryz.func60, Tryz.ntmps60
  go_wp2_with (first
    | (refine (fnum_any _ _ _ (H.out.alloc _)).mono ?_; rintro e w2 ⟨rfl, h⟩; have H2 := Lib.hid h; clear h; simp only [enF])
    | (refine (printed_blk (L := L) _ 1 [(.num k, ⟨w.heap.size, 0, none⟩, .n z)] _ rfl (by omega) (one_ok _ _ _ hz) HG.out (H2.out.alloc _)).mono ?_; clear H2; rintro e w3 ⟨rfl, h⟩; have hlim := HL.out ⟨w.heap.size, 0, none⟩; clear HL; simp only [List.map_cons, List.map_nil]))
  go_ret
  exact ⟨rfl, h.drop⟩
end
end Go.Proofs.YtabibfabieghpaaGreatDoor
namespace Go.Proofs.YtabibfabieghpaaGreatDoor
open Go.RowKit
theorem fl_rdsOne (b : Nat) {xs : List (Fk × Addr)} {n : Nat} (hn : xs.length = n) : Rds (Ph.one b (.cells (xs.flatMap enF).toArray FT (0, 0))) 8 enF (some ⟨b, 0, none⟩) n xs :=
  ⟨hn, enF_len, fun k hk => ⟨b, 0, rfl, fun j v hv => by
    rw [Nat.zero_add, one_cell]
    rw [List.getElem?_toArray]
    exact fl_at xs k hk j v hv⟩⟩
/-- One cell of a block may be written. -/
theorem Own.put1 {E w : World} {L : List Hp} {b : Nat} {t : TypeId} {cs : Array Value} (h : Own E w (Hp.blk b t cs :: L)) (i : Nat) (v : Value) (hi : i < cs.size) :
    (∃ old, w.cell? ⟨b, i, none⟩ = some old) ∧ w.frozen? ⟨b, i, none⟩ = false ∧ Own E (w.setCell ⟨b, i, none⟩ v) (Hp.blk b t (cs.setIfInBounds i v) :: L) :=
  ⟨⟨cs[i], by rw [h.cell i, Array.getElem?_eq_getElem hi]⟩, h.frozen i, h.set i v⟩
theorem places_one {E : World} (b : Nat) (t : TypeId) : Places E (fun vs => Hp.blk b t vs.toArray) [⟨b, 0, none⟩] where
  set w vs i ad v M hl hi h := by
    have h0 : i = 0 := by
      cases i with
      | zero => rfl
      | succ i => simp at hi
    subst h0
    obtain rfl : (⟨b, 0, none⟩ : Addr) = ad := by simpa using hi
    obtain ⟨h1, h2, h3⟩ := h.put1 0 v (by simpa using by rw [hl]; exact Nat.zero_lt_one)
    refine ⟨h1, h2, ?_⟩
    have e : vs.toArray.setIfInBounds 0 v = (vs.set 0 v).toArray := by simp
    rw [e] at h3
    exact h3
def numberV (s p : ByteArray) (k : Nat) : Int × Bool :=
  if Lib.hasPrefix s.data.toList p.data.toList then
    (((readV [.num k] ⟨(Lib.trimPrefix s.data.toList p.data.toList).toArray⟩).1.getD 0 (.n 0)).num, (readV [.num k] ⟨(Lib.trimPrefix s.data.toList p.data.toList).toArray⟩).2)
  else (0, false)
section
variable {E : World} {L : List Hp}
theorem read_blk (b n : Nat) (xs : List (Fk × Addr)) (s : ByteArray) (R : List Value → Hp) (vs : List Value) (w : World) (hxs : xs.length = n) (hn : n ≤ 100) (hs : s.size ≤ 1000000000000000) (hp : Places E R (xs.map (·.2))) (hvl : vs.length = n) (hG : Laid0 E L) (h : Own E w (Hp.blk b FT (xs.flatMap enF).toArray :: R vs :: L)) :
    Calls Tryz.prog 67 #[.slice (some ⟨b, 0, none⟩) n n, .string s] w fun e w' => e = .returned (.bool (readV (xs.map (·.1)) s).2) ∧ Own E w' (R ((readV (xs.map (·.1)) s).1.map Fv.val) :: L) := by
  have h2 : Own E w (R vs :: Hp.ro (Ph.one b (.cells (xs.flatMap enF).toArray FT (0, 0))) :: L) := h.f1
  refine (read_any _ n n xs s R vs w hn hs hp hvl (fl_rdsOne b hxs) hG.cons h2).mono ?_
  rintro e w' ⟨rfl, h⟩
  exact ⟨rfl, h.f1.drop⟩
set_option maxHeartbeats 1000000 in
theorem recnum_any (s p : ByteArray) (k : Nat) (w : World) (hs : s.size ≤ 1000000000000000) (hG : Laid0 E L) (h : Own E w L) :
    Calls Tryz.prog 66 #[.string s, .string p, .int .i64 k] w fun e w' => e = .returned (.tuple #[.int .i64 (numberV s p k).1, .bool (numberV s p k).2]) ∧ Own E w' L := by
  have H := Lib.hid h
  have HG := Lib.hid hG
  have hlen : (⟨(Lib.trimPrefix s.data.toList p.data.toList).toArray⟩ : ByteArray).size ≤ 1000000000000000 := by
    show (Lib.trimPrefix s.data.toList p.data.toList).toArray.size ≤ _
    rw [List.size_toArray]
    unfold Lib.trimPrefix
    have : s.data.toList.length = s.size := rfl
    split
    · rw [List.length_drop]; omega
    · omega
  cases hpre : Lib.hasPrefix s.data.toList p.data.toList with
  | false =>
    have HV : Hid (numberV s p k = (0, false)) := Lib.hid (by unfold numberV; rw [hpre]; rfl)
    have hc := Tryz.strings_CutPrefix s p
    rw [hpre] at hc
    have HC := Lib.hid hc
    clear h hG hpre hc hlen hs
    go_enter Tryz.func66, Tryz.ntmps66
    go_wp2_with (refine (HC.out _).mono ?_; rintro e w2 ⟨rfl, rfl⟩)
    go_ret2
    exact ⟨by rw [HV.out]; rfl, (H.out.alloc _).drop⟩
  | true =>
    have hv : numberV s p k = ((rNum ⟨(Lib.trimPrefix s.data.toList p.data.toList).toArray⟩ 0 k).1, (readV [.num k] ⟨(Lib.trimPrefix s.data.toList p.data.toList).toArray⟩).2) := by unfold numberV; rw [hpre]; rfl
    have hc := Tryz.strings_CutPrefix s p
    rw [hpre] at hc
    have HC := Lib.hid hc
    generalize (⟨(Lib.trimPrefix s.data.toList p.data.toList).toArray⟩ : ByteArray) = r at hlen hv HC
    have HR : ∀ (b c : Nat) (w : World), Own E w (Hp.blk b FT ([(.num k, ⟨c, 0, none⟩)].flatMap enF).toArray :: Hp.blk c 3 #[.int .i64 0] :: L) → Calls Tryz.prog 67 #[.slice (some ⟨b, 0, none⟩) 1 1, .string r] w fun e w' => e = .returned (.bool (numberV s p k).2) ∧ w'.cell? ⟨c, 0, none⟩ = some (.int .i64 (numberV s p k).1) ∧ Own E w' L := fun b c w h => (read_blk (E := E) (L := L) b 1 [(.num k, ⟨c, 0, none⟩)] r (fun vs => Hp.blk c 3 vs.toArray) [.int .i64 0] w rfl (by omega) hlen (places_one c _) rfl HG.out h).mono fun e w' he => ⟨by rw [hv]; exact he.1, by rw [he.2.cell 0, hv]; rfl, he.2.drop⟩
    generalize numberV s p k = q at HR ⊢
    clear h hG hpre hc hlen hs hv
    go_enter Tryz.func66, Tryz.ntmps66
    go_wp2_with (first
      | (refine (HC.out _).mono ?_; rintro e w2 ⟨rfl, rfl⟩)
      | (refine (fnum_any _ _ _ (H.out.alloc _)).mono ?_; rintro e w2 ⟨rfl, h⟩; have H2 := Lib.hid h; clear h; simp only [enF])
      | (refine (HR _ _ _ (H2.out.alloc _)).mono ?_; clear H2 HR; rintro e w3 ⟨rfl, hc, h⟩))
    go_ret2
    exact ⟨rfl, h⟩
end
end Go.Proofs.YtabibfabieghpaaGreatDoor
namespace Go.Proofs.YtabibfabieghpaaGreatDoor
open Go.RowKit
theorem and255 (x : Nat) (hx : x < 9223372036854775808) : bits .and .i64 (x : Int) 255 = ((x % 256 : Nat) : Int) := by
  have h := i64_and_nat x 255 hx (by omega)
  rw [show x &&& 255 = x % 256 from Nat.and_two_pow_sub_one_eq_mod x 8] at h
  exact h
theorem by_set (n k z : Nat) (hk : k < n) : ((List.replicate (n - k) (Value.int .u8 0) ++ (byN k z).map V8').set (n - 1 - k) (.int .u8 ((z / 256 ^ k % 256 : Nat) : Int))) = List.replicate (n - (k + 1)) (Value.int .u8 0) ++ (byN (k + 1) z).map V8' := by
  have e1 : n - k = (n - (k + 1)) + 1 := by omega
  have e2 : n - 1 - k = n - (k + 1) := by omega
  rw [e1, e2, List.replicate_succ', List.append_assoc, List.set_append_right _ _ (by simp), List.length_replicate, Nat.sub_self]
  show _ ++ (Value.int .u8 _ :: _) = _ ++ (V8' (UInt8.ofNat (z / 256 ^ k)) :: _)
  rw [show V8' (UInt8.ofNat (z / 256 ^ k)) = .int .u8 ((z / 256 ^ k % 256 : Nat) : Int) by unfold V8'; rw [UInt8.toNat_ofNat']]
  rfl
def byC (n k m : Nat) : List Value := List.replicate (n - k) (Value.int .u8 0) ++ (byN k m).map V8'
section
variable {E : World} {L : List Hp}
set_option maxRecDepth 20000 in
set_option maxHeartbeats 2000000 in
theorem by_any (z : Int) (n : Nat) (w : World) (hn : n ≤ 8) (h0 : 0 ≤ z) (hz : z ≤ 9223372036854775807) (h : Own E w L) :
    Calls Tryz.prog 64 #[.int .i64 z, .int .i64 n] w fun e w' => e = .returned (.string ⟨(byN n z.toNat).toArray⟩) ∧ Own E w' L := by
  obtain ⟨m, rfl⟩ : ∃ m : Nat, z = m := ⟨z.toNat, by omega⟩
  rw [Int.toNat_natCast]
  obtain ⟨w1, hmk, hw1, -, hb⟩ := sl_make (P := Tryz.prog) (T := BT) (e := U8) (by kernel_rfl) u8_info rfl .i64 .i64 n n (Nat.le_refl _) (by omega) (by unfold maxLen; omega) h
  generalize w.heap.size = g at *
  clear hw1
  have H := Lib.hid (show Own E w1 (Hp.blk g U8 (List.replicate n (.int .u8 0)).toArray :: L) from hb)
  clear hb h
  go_enter Tryz.func64, Tryz.ntmps64
  go_wp2_with (with_reducible refine at_slot (k := some 8) ?_; refine wpList_make_run (o := ⟨some 8, _, _, _, _, _⟩) hmk rfl rfl rfl rfl ?_; clear hmk)
  go_loopw [0, 6] (fun a i wr => ∃ k : Nat, k ≤ n ∧ a = .int .i64 ((m / 256 ^ k : Nat) : Int) ∧ i = .int .i64 ((n : Int) - 1 - k) ∧ Own E wr (Hp.blk g U8 (byC n k m).toArray :: L)) (fun a i _ => (intOf i + 1).toNat)
  case atStart =>
    refine ⟨0, by omega, by rw [Nat.pow_zero, Nat.div_one], by go_num, ?_⟩
    unfold byC
    rw [Nat.sub_zero, show byN 0 m = [] from rfl, List.map_nil, List.append_nil]
    exact H.out
  case round =>
    obtain ⟨k, hk, rfl, rfl, hw⟩ := hrel
    clear H
    by_cases hlt : k < n
    · obtain ⟨j, hj⟩ : ∃ j : Nat, (n : Int) - 1 - k = j := ⟨n - 1 - k, by omega⟩
      have hjn : n - 1 - k = j := by omega
      have hlen : (byC n k m).length = n := by unfold byC; rw [List.length_append, List.length_replicate, List.length_map, byN_len]; omega
      obtain ⟨⟨old, ho⟩, hf, hs⟩ := hw.put1 j (.int .u8 ((m / 256 ^ k % 256 : Nat) : Int)) (by rw [List.size_toArray, hlen]; omega)
      have hset : (byC n k m).toArray.setIfInBounds j (.int .u8 ((m / 256 ^ k % 256 : Nat) : Int)) = (byC n (k + 1) m).toArray := by
        rw [List.setIfInBounds_toArray]
        unfold byC
        rw [← by_set n k m hlt, hjn]
      rw [hset] at hs
      have HS := Lib.hid hs
      have hq : m / 256 ^ k / 256 = m / 256 ^ (k + 1) := by rw [Nat.div_div_eq_div_mul, Nat.pow_succ]
      have hqle : m / 256 ^ k ≤ m := Nat.div_le_self _ _
      have HQ := Lib.hid hq
      generalize m / 256 ^ k = q at ho hf HS HQ hqle ⊢
      rw [hj]
      have ha := and255 q (by omega)
      have hu : IntKind.u8.wrap ((q % 256 : Nat) : Int) = ((q % 256 : Nat) : Int) := by rw [IntKind.wrap_u8]; omega
      have hjn2 : (j : Int) < n := by omega
      have hj0 : (0 : Int) ≤ j := by omega
      clear hw hs hset hq hlen
      go_wp2_with fail
      go_roundw
      case rel =>
        refine ⟨k + 1, hlt, ?_, ?_, ?_⟩
        · rw [← HQ.out]
          have e : ((q / 256 : Nat) : Int) = (q : Int) / 256 := by omega
          rw [e]
        · go_num
        · have e : ((q % 256 : Nat) : Int) = (q : Int) % 256 := by omega
          have hs := HS.out
          rw [e] at hs
          exact hs
      case measure =>
        simp only [intOf]
        omega
    · obtain rfl : k = n := by omega
      have hrow := hw.toRow 1 k k (Nat.le_refl _) (by unfold maxLen; omega) (by
        rw [List.size_toArray]
        unfold byC
        rw [List.length_append, List.length_replicate, List.length_map, byN_len]; omega)
      have el : (byC k k m).toArray.toList.take (k * 1) = (byN k m).map V8' := by
        unfold byC
        rw [Nat.sub_self, List.replicate_zero, List.nil_append, Nat.mul_one]
        exact List.take_of_length_le (by rw [List.length_map, byN_len]; exact Nat.le_refl _)
      rw [el] at hrow
      have hcv := hrow.rowString (P := Tryz.prog) (src := BT) (dst := ST) (by kernel_rfl) (by kernel_rfl) (by kernel_rfl)
      have HF := Lib.hid hrow.drop
      clear hw hrow el hz
      have hneg : (k : Int) - 1 - k = -1 := by omega
      rw [hneg]
      clear hneg
      generalize m / 256 ^ k = q
      go_wp2_with (with_reducible refine at_slot (k := some 24) ?_; refine wpList_conv_run (o := ⟨some 24, _, _, _, _, _⟩) hcv rfl rfl rfl ?_; clear hcv)
      go_ret
      exact ⟨rfl, HF.out⟩
theorem short_any (s : ByteArray) (w : World) (hs : s.size ≤ 255) (h : Own E w L) :
    Calls Tryz.prog 65 #[.string s] w fun e w' => e = .returned (.string (⟨(byN 1 s.size).toArray⟩ ++ s)) ∧ Own E w' L := by
  have hb := fun w h => by_any (E := E) (L := L) (s.size : Int) 1 w (by omega) (by omega) (by omega) h
  rw [Int.toNat_natCast] at hb
  have hl : (⟨(byN 1 s.size).toArray⟩ : ByteArray).size = 1 := rfl
  have hlim : ¬ 9223372036854775807 < (⟨(byN 1 s.size).toArray⟩ : ByteArray).size + s.size := by rw [hl]; omega
  generalize (⟨(byN 1 s.size).toArray⟩ : ByteArray) = t at hb hlim ⊢
  clear hl
  go_enter Tryz.func65, Tryz.ntmps65
  go_wp2_with (refine (hb _ h).mono ?_; clear h hb; rintro e w2 ⟨rfl, h⟩)
  go_ret
  exact ⟨rfl, h⟩
end
end Go.Proofs.YtabibfabieghpaaGreatDoor
namespace Go.Proofs.YtabibfabieghpaaGreatDoor
open Go.RowKit
section
variable {E : World} {L : List Hp}
def tokenFs (tb fb : Nat) : List (Fk × Addr) := [(.num 8, ⟨tb, 1, none⟩), (.num 4, ⟨tb, 2, none⟩), (.raw 32, ⟨tb, 3, none⟩), (.num 6, ⟨tb, 4, none⟩), (.num 1, ⟨fb, 0, none⟩), (.num 6, ⟨tb, 6, none⟩), (.num 8, ⟨tb, 7, none⟩), (.text, ⟨tb, 8, none⟩)]
set_option maxRecDepth 20000 in
set_option maxHeartbeats 2000000 in
theorem tokenfields_any (tb fb : Nat) (w : World) (h : Own E w L) :
    Calls Tryz.prog 62 #[.pointer (some ⟨tb, 0, none⟩), .pointer (some ⟨fb, 0, none⟩)] w fun e w' => ∃ b, e = .returned (.slice (some ⟨b, 0, none⟩) 8 8) ∧ Own E w' (Hp.blk b FT ((tokenFs tb fb).flatMap enF).toArray :: L) := by
  go_enter Tryz.func62, Tryz.ntmps62
  go_wp2_with fail
  refine wp_region_text [] (fun w => Own E w L) (by kernel_rfl) ?_ (fun hS => ?_)
  · exact h.drew
  refine gp 0 (some 5) ?_
  refine gp 1 (some 6) ?_
  refine gp 2 (some 7) ?_
  refine gp 4 (some 9) ?_
  refine gp 5 (some 10) ?_
  refine gp 6 (some 11) ?_
  refine gp 8 (some 13) ?_
  refine gp 9 (some 14) ?_
  refine gp 10 (some 15) ?_
  refine gp 12 (some 17) ?_
  refine gp 13 (some 18) ?_
  refine gp 14 (some 19) ?_
  refine gp 16 (some 21) ?_
  refine gp 18 (some 23) ?_
  refine gp 19 (some 24) ?_
  refine gp 20 (some 25) ?_
  refine gp 22 (some 27) ?_
  refine gp 23 (some 28) ?_
  refine gp 24 (some 29) ?_
  refine gp 26 (some 31) ?_
  refine gp 27 (some 32) ?_
  refine gp 28 (some 33) ?_
  refine gk 3 (some 8) (fun K hK => ?_)
  rw [if_pos (by rfl)]
  go_simp
  refine (fnum_any 8 ⟨tb, 1, none⟩ _ hS).mono ?_
  clear hS
  rintro e w2 ⟨rfl, h⟩
  refine hK.out _ _ ?_ (fun hS => ?_)
  · exact h
  clear hK K
  try simp only [Act.put, List.setIfInBounds_toArray, List.set_cons_zero, List.set_cons_succ]
  refine gk 7 (some 12) (fun K hK => ?_)
  rw [if_pos (by rfl)]
  go_simp
  refine (fnum_any 4 ⟨tb, 2, none⟩ _ hS).mono ?_
  clear hS
  rintro e w2 ⟨rfl, h⟩
  refine hK.out _ _ ?_ (fun hS => ?_)
  · exact h
  clear hK K
  try simp only [Act.put, List.setIfInBounds_toArray, List.set_cons_zero, List.set_cons_succ]
  refine gk 11 (some 16) (fun K hK => ?_)
  rw [if_pos (by rfl)]
  go_simp
  refine (fraw_any 32 ⟨tb, 3, none⟩ _ hS).mono ?_
  clear hS
  rintro e w2 ⟨rfl, h⟩
  refine hK.out _ _ ?_ (fun hS => ?_)
  · exact h
  clear hK K
  try simp only [Act.put, List.setIfInBounds_toArray, List.set_cons_zero, List.set_cons_succ]
  refine gk 15 (some 20) (fun K hK => ?_)
  rw [if_pos (by rfl)]
  go_simp
  refine (fnum_any 6 ⟨tb, 4, none⟩ _ hS).mono ?_
  clear hS
  rintro e w2 ⟨rfl, h⟩
  refine hK.out _ _ ?_ (fun hS => ?_)
  · exact h
  clear hK K
  try simp only [Act.put, List.setIfInBounds_toArray, List.set_cons_zero, List.set_cons_succ]
  refine gk 17 (some 22) (fun K hK => ?_)
  rw [if_pos (by rfl)]
  go_simp
  refine (fnum_any 1 ⟨fb, 0, none⟩ _ hS).mono ?_
  clear hS
  rintro e w2 ⟨rfl, h⟩
  refine hK.out _ _ ?_ (fun hS => ?_)
  · exact h
  clear hK K
  try simp only [Act.put, List.setIfInBounds_toArray, List.set_cons_zero, List.set_cons_succ]
  refine gk 21 (some 26) (fun K hK => ?_)
  rw [if_pos (by rfl)]
  go_simp
  refine (fnum_any 6 ⟨tb, 6, none⟩ _ hS).mono ?_
  clear hS
  rintro e w2 ⟨rfl, h⟩
  refine hK.out _ _ ?_ (fun hS => ?_)
  · exact h
  clear hK K
  try simp only [Act.put, List.setIfInBounds_toArray, List.set_cons_zero, List.set_cons_succ]
  refine gk 25 (some 30) (fun K hK => ?_)
  rw [if_pos (by rfl)]
  go_simp
  refine (fnum_any 8 ⟨tb, 7, none⟩ _ hS).mono ?_
  clear hS
  rintro e w2 ⟨rfl, h⟩
  refine hK.out _ _ ?_ (fun hS => ?_)
  · exact h
  clear hK K
  try simp only [Act.put, List.setIfInBounds_toArray, List.set_cons_zero, List.set_cons_succ]
  refine gk 29 (some 34) (fun K hK => ?_)
  rw [if_pos (by rfl)]
  go_simp
  refine (ftext_any ⟨tb, 8, none⟩ _ hS).mono ?_
  clear hS
  rintro e w2 ⟨rfl, h⟩
  refine hK.out _ _ ?_ (fun hS => ?_)
  · exact h
  clear hK K
  try simp only [Act.put, List.setIfInBounds_toArray, List.set_cons_zero, List.set_cons_succ]
  refine wpAnyG_break (i := 30) (oi := ⟨some 35, _, _, _, _, _⟩) (by kernel_rfl) rfl (by kernel_rfl) (fun K hK => ?_)
  rw [if_pos (by rfl)]
  refine wp_fields (tokenFs tb fb) rfl rfl (by omega) (by omega) (by first | kernel_rfl | (simp [tokenFs]; done) | (simp [tokenFs]; rfl)) ?_
  have h := hS.alloc (.cells ((tokenFs tb fb).flatMap enF).toArray FT)
  refine hK.out _ _ ?_
  clear hK K
  try simp only [Act.put, List.setIfInBounds_toArray, List.set_cons_zero, List.set_cons_succ]
  refine gp 31 (some 4) ?_
  refine wpAnyG_done (by kernel_rfl) ?_ _
  refine NoPanic.normal ?_
  go_wp2_with fail
  go_ret
  exact ⟨_, rfl, h⟩
def keyFs (tb : Nat) : List (Fk × Addr) := [(.raw 24, ⟨tb, 1, none⟩), (.num 6, ⟨tb, 2, none⟩), (.num 6, ⟨tb, 3, none⟩)]
set_option maxRecDepth 20000 in
set_option maxHeartbeats 2000000 in
theorem keyfields_any (tb : Nat) (w : World) (h : Own E w L) :
    Calls Tryz.prog 71 #[.pointer (some ⟨tb, 0, none⟩)] w fun e w' => ∃ b, e = .returned (.slice (some ⟨b, 0, none⟩) 3 3) ∧ Own E w' (Hp.blk b FT ((keyFs tb).flatMap enF).toArray :: L) := by
  go_enter Tryz.func71, Tryz.ntmps71
  go_wp2_with fail
  refine wp_region_text [] (fun w => Own E w L) (by kernel_rfl) ?_ (fun hS => ?_)
  · exact h.drew
  refine gp 0 (some 3) ?_
  refine gp 1 (some 4) ?_
  refine gp 2 (some 5) ?_
  refine gp 4 (some 7) ?_
  refine gp 5 (some 8) ?_
  refine gp 6 (some 9) ?_
  refine gp 8 (some 11) ?_
  refine gp 9 (some 12) ?_
  refine gp 10 (some 13) ?_
  refine gk 3 (some 6) (fun K hK => ?_)
  rw [if_pos (by rfl)]
  go_simp
  refine (fraw_any 24 ⟨tb, 1, none⟩ _ hS).mono ?_
  clear hS
  rintro e w2 ⟨rfl, h⟩
  refine hK.out _ _ ?_ (fun hS => ?_)
  · exact h
  clear hK K
  try simp only [Act.put, List.setIfInBounds_toArray, List.set_cons_zero, List.set_cons_succ]
  refine gk 7 (some 10) (fun K hK => ?_)
  rw [if_pos (by rfl)]
  go_simp
  refine (fnum_any 6 ⟨tb, 2, none⟩ _ hS).mono ?_
  clear hS
  rintro e w2 ⟨rfl, h⟩
  refine hK.out _ _ ?_ (fun hS => ?_)
  · exact h
  clear hK K
  try simp only [Act.put, List.setIfInBounds_toArray, List.set_cons_zero, List.set_cons_succ]
  refine gk 11 (some 14) (fun K hK => ?_)
  rw [if_pos (by rfl)]
  go_simp
  refine (fnum_any 6 ⟨tb, 3, none⟩ _ hS).mono ?_
  clear hS
  rintro e w2 ⟨rfl, h⟩
  refine hK.out _ _ ?_ (fun hS => ?_)
  · exact h
  clear hK K
  try simp only [Act.put, List.setIfInBounds_toArray, List.set_cons_zero, List.set_cons_succ]
  refine wpAnyG_break (i := 12) (oi := ⟨some 15, _, _, _, _, _⟩) (by kernel_rfl) rfl (by kernel_rfl) (fun K hK => ?_)
  rw [if_pos (by rfl)]
  refine wp_fields (keyFs tb) rfl rfl (by omega) (by omega) (by first | kernel_rfl | (simp [keyFs]; done) | (simp [keyFs]; rfl)) ?_
  have h := hS.alloc (.cells ((keyFs tb).flatMap enF).toArray FT)
  refine hK.out _ _ ?_
  clear hK K
  try simp only [Act.put, List.setIfInBounds_toArray, List.set_cons_zero, List.set_cons_succ]
  refine gp 13 (some 2) ?_
  refine wpAnyG_done (by kernel_rfl) ?_ _
  refine NoPanic.normal ?_
  go_wp2_with fail
  go_ret
  exact ⟨_, rfl, h⟩
def eventFs (tb : Nat) : List (Fk × Addr) := [(.num 6, ⟨tb, 1, none⟩), (.num 1, ⟨tb, 2, none⟩), (.num 8, ⟨tb, 3, none⟩), (.text, ⟨tb, 4, none⟩)]
set_option maxRecDepth 20000 in
set_option maxHeartbeats 2000000 in
theorem eventfields_any (tb : Nat) (w : World) (h : Own E w L) :
    Calls Tryz.prog 75 #[.pointer (some ⟨tb, 0, none⟩)] w fun e w' => ∃ b, e = .returned (.slice (some ⟨b, 0, none⟩) 4 4) ∧ Own E w' (Hp.blk b FT ((eventFs tb).flatMap enF).toArray :: L) := by
  go_enter Tryz.func75, Tryz.ntmps75
  go_wp2_with fail
  refine wp_region_text [] (fun w => Own E w L) (by kernel_rfl) ?_ (fun hS => ?_)
  · exact h.drew
  refine gp 0 (some 3) ?_
  refine gp 1 (some 4) ?_
  refine gp 2 (some 5) ?_
  refine gp 4 (some 7) ?_
  refine gp 5 (some 8) ?_
  refine gp 6 (some 9) ?_
  refine gp 8 (some 11) ?_
  refine gp 9 (some 12) ?_
  refine gp 10 (some 13) ?_
  refine gp 12 (some 15) ?_
  refine gp 13 (some 16) ?_
  refine gp 14 (some 17) ?_
  refine gk 3 (some 6) (fun K hK => ?_)
  rw [if_pos (by rfl)]
  go_simp
  refine (fnum_any 6 ⟨tb, 1, none⟩ _ hS).mono ?_
  clear hS
  rintro e w2 ⟨rfl, h⟩
  refine hK.out _ _ ?_ (fun hS => ?_)
  · exact h
  clear hK K
  try simp only [Act.put, List.setIfInBounds_toArray, List.set_cons_zero, List.set_cons_succ]
  refine gk 7 (some 10) (fun K hK => ?_)
  rw [if_pos (by rfl)]
  go_simp
  refine (fnum_any 1 ⟨tb, 2, none⟩ _ hS).mono ?_
  clear hS
  rintro e w2 ⟨rfl, h⟩
  refine hK.out _ _ ?_ (fun hS => ?_)
  · exact h
  clear hK K
  try simp only [Act.put, List.setIfInBounds_toArray, List.set_cons_zero, List.set_cons_succ]
  refine gk 11 (some 14) (fun K hK => ?_)
  rw [if_pos (by rfl)]
  go_simp
  refine (fnum_any 8 ⟨tb, 3, none⟩ _ hS).mono ?_
  clear hS
  rintro e w2 ⟨rfl, h⟩
  refine hK.out _ _ ?_ (fun hS => ?_)
  · exact h
  clear hK K
  try simp only [Act.put, List.setIfInBounds_toArray, List.set_cons_zero, List.set_cons_succ]
  refine gk 15 (some 18) (fun K hK => ?_)
  rw [if_pos (by rfl)]
  go_simp
  refine (ftext_any ⟨tb, 4, none⟩ _ hS).mono ?_
  clear hS
  rintro e w2 ⟨rfl, h⟩
  refine hK.out _ _ ?_ (fun hS => ?_)
  · exact h
  clear hK K
  try simp only [Act.put, List.setIfInBounds_toArray, List.set_cons_zero, List.set_cons_succ]
  refine wpAnyG_break (i := 16) (oi := ⟨some 19, _, _, _, _, _⟩) (by kernel_rfl) rfl (by kernel_rfl) (fun K hK => ?_)
  rw [if_pos (by rfl)]
  refine wp_fields (eventFs tb) rfl rfl (by omega) (by omega) (by first | kernel_rfl | (simp [eventFs]; done) | (simp [eventFs]; rfl)) ?_
  have h := hS.alloc (.cells ((eventFs tb).flatMap enF).toArray FT)
  refine hK.out _ _ ?_
  clear hK K
  try simp only [Act.put, List.setIfInBounds_toArray, List.set_cons_zero, List.set_cons_succ]
  refine gp 17 (some 2) ?_
  refine wpAnyG_done (by kernel_rfl) ?_ _
  refine NoPanic.normal ?_
  go_wp2_with fail
  go_ret
  exact ⟨_, rfl, h⟩
def chainFs (tb : Nat) : List (Fk × Addr) := [(.num 8, ⟨tb, 0, none⟩), (.num 8, ⟨tb, 1, none⟩), (.raw 32, ⟨tb, 2, none⟩), (.raw 32, ⟨tb, 3, none⟩)]
set_option maxRecDepth 20000 in
set_option maxHeartbeats 2000000 in
theorem chainfields_any (tb : Nat) (w : World) (h : Own E w L) :
    Calls Tryz.prog 79 #[.pointer (some ⟨tb, 0, none⟩)] w fun e w' => ∃ b, e = .returned (.slice (some ⟨b, 0, none⟩) 4 4) ∧ Own E w' (Hp.blk b FT ((chainFs tb).flatMap enF).toArray :: L) := by
  go_enter Tryz.func79, Tryz.ntmps79
  go_wp2_with fail
  refine wp_region_text [] (fun w => Own E w L) (by kernel_rfl) ?_ (fun hS => ?_)
  · exact h.drew
  refine gp 0 (some 3) ?_
  refine gp 1 (some 4) ?_
  refine gp 2 (some 5) ?_
  refine gp 4 (some 7) ?_
  refine gp 5 (some 8) ?_
  refine gp 6 (some 9) ?_
  refine gp 8 (some 11) ?_
  refine gp 9 (some 12) ?_
  refine gp 10 (some 13) ?_
  refine gp 12 (some 15) ?_
  refine gp 13 (some 16) ?_
  refine gp 14 (some 17) ?_
  refine gk 3 (some 6) (fun K hK => ?_)
  rw [if_pos (by rfl)]
  go_simp
  refine (fnum_any 8 ⟨tb, 0, none⟩ _ hS).mono ?_
  clear hS
  rintro e w2 ⟨rfl, h⟩
  refine hK.out _ _ ?_ (fun hS => ?_)
  · exact h
  clear hK K
  try simp only [Act.put, List.setIfInBounds_toArray, List.set_cons_zero, List.set_cons_succ]
  refine gk 7 (some 10) (fun K hK => ?_)
  rw [if_pos (by rfl)]
  go_simp
  refine (fnum_any 8 ⟨tb, 1, none⟩ _ hS).mono ?_
  clear hS
  rintro e w2 ⟨rfl, h⟩
  refine hK.out _ _ ?_ (fun hS => ?_)
  · exact h
  clear hK K
  try simp only [Act.put, List.setIfInBounds_toArray, List.set_cons_zero, List.set_cons_succ]
  refine gk 11 (some 14) (fun K hK => ?_)
  rw [if_pos (by rfl)]
  go_simp
  refine (fraw_any 32 ⟨tb, 2, none⟩ _ hS).mono ?_
  clear hS
  rintro e w2 ⟨rfl, h⟩
  refine hK.out _ _ ?_ (fun hS => ?_)
  · exact h
  clear hK K
  try simp only [Act.put, List.setIfInBounds_toArray, List.set_cons_zero, List.set_cons_succ]
  refine gk 15 (some 18) (fun K hK => ?_)
  rw [if_pos (by rfl)]
  go_simp
  refine (fraw_any 32 ⟨tb, 3, none⟩ _ hS).mono ?_
  clear hS
  rintro e w2 ⟨rfl, h⟩
  refine hK.out _ _ ?_ (fun hS => ?_)
  · exact h
  clear hK K
  try simp only [Act.put, List.setIfInBounds_toArray, List.set_cons_zero, List.set_cons_succ]
  refine wpAnyG_break (i := 16) (oi := ⟨some 19, _, _, _, _, _⟩) (by kernel_rfl) rfl (by kernel_rfl) (fun K hK => ?_)
  rw [if_pos (by rfl)]
  refine wp_fields (chainFs tb) rfl rfl (by omega) (by omega) (by first | kernel_rfl | (simp [chainFs]; done) | (simp [chainFs]; rfl)) ?_
  have h := hS.alloc (.cells ((chainFs tb).flatMap enF).toArray FT)
  refine hK.out _ _ ?_
  clear hK K
  try simp only [Act.put, List.setIfInBounds_toArray, List.set_cons_zero, List.set_cons_succ]
  refine gp 17 (some 2) ?_
  refine wpAnyG_done (by kernel_rfl) ?_ _
  refine NoPanic.normal ?_
  go_wp2_with fail
  go_ret
  exact ⟨_, rfl, h⟩
end
end Go.Proofs.YtabibfabieghpaaGreatDoor
namespace Go.Proofs.YtabibfabieghpaaGreatDoor
open Go.RowKit
abbrev ITT : TypeId := 34
def noB : ByteArray := ⟨#[]⟩
def itemV (r : ByteArray × ByteArray × Int) : Value := .tuple #[.agg #[.string r.1, .string r.2.1], .int .i64 r.2.2]
theorem alloc_size (w : World) (o : Obj) : (w.alloc o).heap.size = w.heap.size + 1 := by simp
theorem pair_one (a b : ByteArray) : ∀ v ∈ [Value.string a, Value.string b], v.oneCell' = true := fun v hv => by
  simp only [List.mem_cons, List.not_mem_nil, or_false] at hv
  rcases hv with rfl | rfl
  · rfl
  · rfl
theorem itt_u : ∃ d, Tryz.prog.underlying ITT = some d ∧ d.isRow = true := by
  cases e : Tryz.prog.underlying ITT with
  | none => exact absurd e (by rw [Tryz.underlying34]; simp)
  | some d => exact ⟨d, rfl, by rw [Tryz.underlying34] at e; injection e with e; subst e; rfl⟩
theorem key_num (t : UInt8) (k : Nat) (z : Int) (h1 : 1 ≤ k) (h2 : k ≤ 8) (h3 : 0 ≤ z) (h4 : z < 256 ^ k) (h5 : z ≤ 9223372036854775807) : (⟨#[t]⟩ : ByteArray) ++ printedV [(.num k, .n z)] = ⟨(t :: byN k z.toNat).toArray⟩ := by
  rw [printed_fits (fun f hf => by
    rw [List.mem_singleton] at hf
    subst hf
    exact ⟨h1, h2, h3, h4, h5⟩)]
  refine bytes_ext _ _ ?_
  rw [app_data]
  show [t] ++ (byN k z.toNat ++ []).toArray.toList = _
  rw [List.append_nil]
  simp
/-- omega, where a decided fact may be negated. -/
theorem name_size (s : ByteArray) : nameB s = true → s.size ≤ 16 := fun h => by
  unfold nameB at h
  simp only [Bool.and_eq_true, decide_eq_true_eq] at h
  exact h.2
theorem isEmpty_size (s : ByteArray) : s.toList.isEmpty = decide (s.size = 0) := by
  by_cases h : s.size = 0
  · obtain rfl := size_zero h
    rw [ByteArray.toList_eq]
    rfl
  · rw [text_some h, decide_eq_false h]
end Go.Proofs.YtabibfabieghpaaGreatDoor
