/- The law's same: two lists of texts compared. The law's lent: a copy of a list of texts with two spare places behind it. The law's whole: a list that was lent is as it was. The law's sameFamily, of two that are alike (printed by gen_samefam.py). OfFamily, the program's and the reference's, of a family that may not be (printed by gen_offnot.py). -/
import Derived.Test.YtabibfabieghpaaGreatDoorPkG
import Derived.Test.YtabibfabieghpaaGreatDoorEqs
import Derived.Test.YtabibfabieghpaaGreatDoorPkB
namespace Go.Proofs.YtabibfabieghpaaGreatDoor
open Go.RowKit
/-- A slice of texts that reads as a list wherever these parts lie. -/
def Seen (E : World) (L : List Hp) (A : Option Addr) (n : Nat) (xs : List ByteArray) : Prop := ∀ w, Own E w L → Rds (Ph.of w) 1 enStr A n xs
theorem Seen.len {E w : World} {L : List Hp} {A : Option Addr} {n : Nat} {xs : List ByteArray} (h : Seen E L A n xs) (hw : Own E w L) : xs.length = n := (h w hw).1
theorem Seen.cell {E : World} {L : List Hp} {A : Option Addr} {n : Nat} {xs : List ByteArray} (h : Seen E L A n xs) {k : Nat} {x : ByteArray} (hx : xs[k]? = some x) {w0 : World} (h0 : Own E w0 L) :
    ∃ b off, A = some ⟨b, off, none⟩ ∧ ∀ w, Own E w L → w.cell? ⟨b, off + k, none⟩ = some (.string x) := by
  have hk : k < n := by rw [← (h w0 h0).1]; exact (List.getElem?_eq_some_iff.1 hx).1
  obtain ⟨y, b, off, hy, e, -⟩ := (h w0 h0).get1 hk
  refine ⟨b, off, e, fun w hw => ?_⟩
  obtain ⟨y2, b2, off2, hy2, e2, hc2⟩ := (h w hw).get1 hk
  rw [e] at e2
  injection e2 with e2
  injection e2 with e3 e4
  subst e3 e4
  rw [hx] at hy2
  injection hy2 with hy2
  subst hy2
  exact (Own.start w).rd (hc2 _ rfl)
section
variable {E : World} {L : List Hp}
set_option maxRecDepth 20000 in
set_option maxHeartbeats 4000000 in
theorem same_any (A B : Option Addr) (n c m d : Nat) (xs ys : List ByteArray) (w : World) (hA : Seen E L A n xs) (hB : Seen E L B m ys) (hn : n ≤ 140737488355328) (h : Own E w L) :
    Calls Tryz.prog 93 #[.slice A n c, .slice B m d] w fun e w' => e = .returned (.bool (decide (xs = ys))) ∧ Own E w' L := by
  have lA := hA.len h
  have lB := hB.len h
  by_cases hnm : n = m
  · subst hnm
    have HN := Lib.hid hn
    have HA := Lib.hid hA
    have HB := Lib.hid hB
    have HL := Lib.hid (And.intro lA lB)
    clear hn hA hB lA lB
    go_enter Tryz.func93, Tryz.ntmps93
    go_wp2_with fail
    go_loopw [5] (fun i wr => ∃ k : Nat, k ≤ n ∧ i = .int .i64 k ∧ (∀ i, i < k → xs[i]? = ys[i]?) ∧ Own E wr L) (fun i _ => n - (intOf i).toNat)
    case atStart => exact ⟨0, by omega, rfl, fun _ h => absurd h (by omega), h⟩
    case round =>
      obtain ⟨k, hk, rfl, hp, hw⟩ := hrel
      clear h
      by_cases hlt : k < n
      · cases hx : xs[k]? with
        | none =>
          rw [List.getElem?_eq_none_iff, HL.out.1] at hx
          omega
        | some x =>
        cases hy : ys[k]? with
        | none =>
          rw [List.getElem?_eq_none_iff, HL.out.2] at hy
          omega
        | some y =>
        obtain ⟨b, off, rfl, hc⟩ := HA.out.cell hx hw
        obtain ⟨b2, off2, rfl, hc2⟩ := HB.out.cell hy hw
        have HC := Lib.hid (fun (w' : World) (h : Own E w' L) => And.intro (hc w' h) (hc2 w' h))
        have HX := Lib.hid hx
        have HY := Lib.hid hy
        have HP := Lib.hid hp
        have HK := Lib.hid hlt
        have i1 : (k : Int) < n := by omega
        have i2 : (0 : Int) ≤ k := by omega
        have i5 : wrap64 ((k : Int) + 1) = ((k + 1 : Nat) : Int) := by have := HN.out; unfold wrap64; omega
        clear hx hy hc hc2 hp hk hlt
        by_cases he : x = y
        · have e5 : (x.toList == y.toList) = true := by rw [he]; exact beq_self_eq_true _
          go_wp2_with fail
          have h := hw.drew
          clear hw
          refine wp_region_text [3, 7] (fun w' => w'.cell? ⟨b, off + k, none⟩ = some (.string x) ∧ w'.cell? ⟨b2, off2 + k, none⟩ = some (.string y)) (by kernel_rfl) ?_ (fun hS => ?_)
          · exact HC.out _ h
          refine wpAnyG_pure (i := 0) (oi := ⟨some 17, _, _, _, _, _⟩) (v := ?_) rfl (by kernel_rfl) (by kernel_rfl) (by kernel_rfl) (by rfl) (fun _ _ _ h => h) (by rfl) ?_ ?_
          rotate_left
          · intro w
            go_simp
            first | done | with_reducible rfl
          try simp only [Act.put, List.setIfInBounds_toArray, List.set_cons_zero, List.set_cons_succ]
          refine wpAnyG_pure (i := 1) (oi := ⟨some 18, _, _, _, _, _⟩) (v := ?_) rfl (by kernel_rfl) (by kernel_rfl) (by kernel_rfl) (by rfl) (fun _ _ _ h => h) (by rfl) ?_ ?_
          rotate_left
          · intro w
            go_simp
            first | done | with_reducible rfl
          try simp only [Act.put, List.setIfInBounds_toArray, List.set_cons_zero, List.set_cons_succ]
          refine wpAnyG_pure (i := 2) (oi := ⟨some 19, _, _, _, _, _⟩) (v := (.pointer (some ⟨b, off + k, none⟩))) rfl (by kernel_rfl) (by kernel_rfl) (by kernel_rfl) (by rfl) (fun _ _ _ h => h) (by rfl) ?_ ?_
          · intro w
            go_simp; first | done | omega
          try simp only [Act.put, List.setIfInBounds_toArray, List.set_cons_zero, List.set_cons_succ]
          refine wpAnyG_load (i := 3) (oi := ⟨some 20, _, _, _, _, _⟩) (v := ?_) rfl (by kernel_rfl) (by kernel_rfl) (by kernel_rfl) (by rfl) (fun _ _ _ h => h) (by rfl) ?_ (by assumption) ?_
          rotate_left
          · intro w hS
            try dsimp only at hS
            go_simp
            first | done | with_reducible rfl
          try simp only [Act.put, List.setIfInBounds_toArray, List.set_cons_zero, List.set_cons_succ]
          refine wpAnyG_pure (i := 4) (oi := ⟨some 21, _, _, _, _, _⟩) (v := ?_) rfl (by kernel_rfl) (by kernel_rfl) (by kernel_rfl) (by rfl) (fun _ _ _ h => h) (by rfl) ?_ ?_
          rotate_left
          · intro w
            go_simp
            first | done | with_reducible rfl
          try simp only [Act.put, List.setIfInBounds_toArray, List.set_cons_zero, List.set_cons_succ]
          refine wpAnyG_pure (i := 5) (oi := ⟨some 22, _, _, _, _, _⟩) (v := ?_) rfl (by kernel_rfl) (by kernel_rfl) (by kernel_rfl) (by rfl) (fun _ _ _ h => h) (by rfl) ?_ ?_
          rotate_left
          · intro w
            go_simp
            first | done | with_reducible rfl
          try simp only [Act.put, List.setIfInBounds_toArray, List.set_cons_zero, List.set_cons_succ]
          refine wpAnyG_pure (i := 6) (oi := ⟨some 23, _, _, _, _, _⟩) (v := (.pointer (some ⟨b2, off2 + k, none⟩))) rfl (by kernel_rfl) (by kernel_rfl) (by kernel_rfl) (by rfl) (fun _ _ _ h => h) (by rfl) ?_ ?_
          · intro w
            go_simp; first | done | omega
          try simp only [Act.put, List.setIfInBounds_toArray, List.set_cons_zero, List.set_cons_succ]
          refine wpAnyG_load (i := 7) (oi := ⟨some 24, _, _, _, _, _⟩) (v := ?_) rfl (by kernel_rfl) (by kernel_rfl) (by kernel_rfl) (by rfl) (fun _ _ _ h => h) (by rfl) ?_ (by assumption) ?_
          rotate_left
          · intro w hS
            try dsimp only at hS
            go_simp
            first | done | with_reducible rfl
          try simp only [Act.put, List.setIfInBounds_toArray, List.set_cons_zero, List.set_cons_succ]
          refine wpAnyG_pure (i := 8) (oi := ⟨some 25, _, _, _, _, _⟩) (v := (.bool false)) rfl (by kernel_rfl) (by kernel_rfl) (by kernel_rfl) (by rfl) (fun _ _ _ h => h) (by rfl) ?_ ?_
          · intro w
            go_simp; first | done | exact e5 | simp [e5]
          try simp only [Act.put, List.setIfInBounds_toArray, List.set_cons_zero, List.set_cons_succ]
          refine wpAnyG_done (by kernel_rfl) ?_ _
          refine NoPanic.normal ?_
          have HF := Lib.hid h
          clear h
          go_wp2_with fail
          go_roundw
          case rel =>
            refine ⟨k + 1, by have := HK.out; omega, by rw [i5], fun i hi => ?_, HF.out⟩
            by_cases hi2 : i < k
            · exact HP.out i hi2
            · obtain rfl : i = k := by omega
              rw [HX.out, HY.out, he]
          case measure =>
            have := HK.out
            rw [i5]
            simp only [intOf]
            omega
        · have e5 : (x.toList == y.toList) = false := by
            rw [beq_str]
            exact decide_eq_false he
          go_wp2_with fail
          have h := hw.drew
          clear hw
          refine wp_region_text [3, 7] (fun w' => w'.cell? ⟨b, off + k, none⟩ = some (.string x) ∧ w'.cell? ⟨b2, off2 + k, none⟩ = some (.string y)) (by kernel_rfl) ?_ (fun hS => ?_)
          · exact HC.out _ h
          refine wpAnyG_pure (i := 0) (oi := ⟨some 17, _, _, _, _, _⟩) (v := ?_) rfl (by kernel_rfl) (by kernel_rfl) (by kernel_rfl) (by rfl) (fun _ _ _ h => h) (by rfl) ?_ ?_
          rotate_left
          · intro w
            go_simp
            first | done | with_reducible rfl
          try simp only [Act.put, List.setIfInBounds_toArray, List.set_cons_zero, List.set_cons_succ]
          refine wpAnyG_pure (i := 1) (oi := ⟨some 18, _, _, _, _, _⟩) (v := ?_) rfl (by kernel_rfl) (by kernel_rfl) (by kernel_rfl) (by rfl) (fun _ _ _ h => h) (by rfl) ?_ ?_
          rotate_left
          · intro w
            go_simp
            first | done | with_reducible rfl
          try simp only [Act.put, List.setIfInBounds_toArray, List.set_cons_zero, List.set_cons_succ]
          refine wpAnyG_pure (i := 2) (oi := ⟨some 19, _, _, _, _, _⟩) (v := (.pointer (some ⟨b, off + k, none⟩))) rfl (by kernel_rfl) (by kernel_rfl) (by kernel_rfl) (by rfl) (fun _ _ _ h => h) (by rfl) ?_ ?_
          · intro w
            go_simp; first | done | omega
          try simp only [Act.put, List.setIfInBounds_toArray, List.set_cons_zero, List.set_cons_succ]
          refine wpAnyG_load (i := 3) (oi := ⟨some 20, _, _, _, _, _⟩) (v := ?_) rfl (by kernel_rfl) (by kernel_rfl) (by kernel_rfl) (by rfl) (fun _ _ _ h => h) (by rfl) ?_ (by assumption) ?_
          rotate_left
          · intro w hS
            try dsimp only at hS
            go_simp
            first | done | with_reducible rfl
          try simp only [Act.put, List.setIfInBounds_toArray, List.set_cons_zero, List.set_cons_succ]
          refine wpAnyG_pure (i := 4) (oi := ⟨some 21, _, _, _, _, _⟩) (v := ?_) rfl (by kernel_rfl) (by kernel_rfl) (by kernel_rfl) (by rfl) (fun _ _ _ h => h) (by rfl) ?_ ?_
          rotate_left
          · intro w
            go_simp
            first | done | with_reducible rfl
          try simp only [Act.put, List.setIfInBounds_toArray, List.set_cons_zero, List.set_cons_succ]
          refine wpAnyG_pure (i := 5) (oi := ⟨some 22, _, _, _, _, _⟩) (v := ?_) rfl (by kernel_rfl) (by kernel_rfl) (by kernel_rfl) (by rfl) (fun _ _ _ h => h) (by rfl) ?_ ?_
          rotate_left
          · intro w
            go_simp
            first | done | with_reducible rfl
          try simp only [Act.put, List.setIfInBounds_toArray, List.set_cons_zero, List.set_cons_succ]
          refine wpAnyG_pure (i := 6) (oi := ⟨some 23, _, _, _, _, _⟩) (v := (.pointer (some ⟨b2, off2 + k, none⟩))) rfl (by kernel_rfl) (by kernel_rfl) (by kernel_rfl) (by rfl) (fun _ _ _ h => h) (by rfl) ?_ ?_
          · intro w
            go_simp; first | done | omega
          try simp only [Act.put, List.setIfInBounds_toArray, List.set_cons_zero, List.set_cons_succ]
          refine wpAnyG_load (i := 7) (oi := ⟨some 24, _, _, _, _, _⟩) (v := ?_) rfl (by kernel_rfl) (by kernel_rfl) (by kernel_rfl) (by rfl) (fun _ _ _ h => h) (by rfl) ?_ (by assumption) ?_
          rotate_left
          · intro w hS
            try dsimp only at hS
            go_simp
            first | done | with_reducible rfl
          try simp only [Act.put, List.setIfInBounds_toArray, List.set_cons_zero, List.set_cons_succ]
          refine wpAnyG_pure (i := 8) (oi := ⟨some 25, _, _, _, _, _⟩) (v := (.bool true)) rfl (by kernel_rfl) (by kernel_rfl) (by kernel_rfl) (by rfl) (fun _ _ _ h => h) (by rfl) ?_ ?_
          · intro w
            go_simp; first | done | exact e5 | simp [e5]
          try simp only [Act.put, List.setIfInBounds_toArray, List.set_cons_zero, List.set_cons_succ]
          refine wpAnyG_done (by kernel_rfl) ?_ _
          refine NoPanic.normal ?_
          go_wp2_with fail
          go_ret
          have hne : ¬ xs = ys := fun e => he (by
            have h1 := HX.out
            rw [e, HY.out] at h1
            injection h1 with h1
            exact h1.symm)
          exact ⟨by rw [decide_eq_false hne]; rfl, h⟩
      · obtain rfl : k = n := by omega
        have hxy : xs = ys := List.ext_getElem? fun i => by
          by_cases hi : i < k
          · exact hp i hi
          · rw [List.getElem?_eq_none (by rw [HL.out.1]; omega), List.getElem?_eq_none (by rw [HL.out.2]; omega)]
        have H := Lib.hid hw
        have HE := Lib.hid hxy
        clear hw hxy hp
        go_wp2_with fail
        go_ret
        exact ⟨by rw [decide_eq_true HE.out]; rfl, H.out⟩
  · have hne : ¬ xs = ys := fun e => hnm (by rw [← lA, ← lB, e])
    have z : ((n : Int) != (m : Int)) = true := by simpa using (fun e => hnm (by omega) : ¬ (n : Int) = (m : Int))
    have HE := Lib.hid hne
    have H := Lib.hid h
    clear h hA hB hne lA lB
    go_enter Tryz.func93, Tryz.ntmps93
    go_wp2_with fail
    go_ret
    exact ⟨by rw [decide_eq_false HE.out]; rfl, H.out⟩
end
end Go.Proofs.YtabibfabieghpaaGreatDoor
namespace Go.Proofs.YtabibfabieghpaaGreatDoor
open Go.RowKit
abbrev tSpare : ByteArray := ⟨#[115, 112, 97, 114, 101]⟩
abbrev lentS (xs : List ByteArray) : List Value := xs.map Value.string ++ [.string tSpare, .string tSpare]
theorem str_info : (Tryz.prog.info? ST).map (fun i => (i.zero, i.size, i.bytes)) = some (some (.string ⟨#[]⟩), 1, 16) := by kernel_rfl
theorem str_one (xs : List ByteArray) : ∀ v ∈ xs.map Value.string, v.oneCell' = true := by
  intro v hv
  obtain ⟨x, -, rfl⟩ := List.mem_map.1 hv
  rfl
theorem flat_str (l : List ByteArray) : l.flatMap enStr = l.map Value.string := by
  induction l with
  | nil => rfl
  | cons x r ih =>
    rw [List.flatMap_cons, List.map_cons, ih]
    rfl
theorem set_first (l : List Value) (a b v : Value) (n : Nat) (h : l.length = n) : (l ++ [a, b]).toArray.setIfInBounds n v = (l ++ [v, b]).toArray := by
  subst h
  simp
theorem set_second (l : List Value) (a b v : Value) (n : Nat) (h : l.length = n) : (l ++ [a, b]).toArray.setIfInBounds (n + 1) v = (l ++ [a, v]).toArray := by
  subst h
  simp
section
variable {E : World} {S : Ph} {L : List Hp}
set_option maxRecDepth 100000 in
set_option maxHeartbeats 2000000 in
theorem lent_any (A : Option Addr) (n c : Nat) (l : List ByteArray) (w : World) (hn : n ≤ 8796093022208) (hr : Rds S 1 enStr A n l) (h : Own E w (Hp.ro S :: L)) :
    Calls Tryz.prog 32 #[.slice A n c] w fun e w' => ∃ g : Nat, e = .returned (.slice (some ⟨g, 0, none⟩) n (n + 2)) ∧ Own E w' (Hp.blk g ST (lentS l).toArray :: Hp.ro S :: L) := by
  obtain ⟨w1, hmk, rfl, -, h1⟩ := sl_make (P := Tryz.prog) (T := LST) (e := ST) (z := .string ⟨#[]⟩) lst_u str_info rfl .i64 .i64 (n + 2) (n + 2) (Nat.le_refl _) (by omega) (by unfold maxLen; omega) h
  obtain ⟨g, hg⟩ : ∃ g, g = w.heap.size := ⟨_, rfl⟩
  rw [← hg] at hmk h1
  have hl := hr.1
  have hrd : RdC (w.alloc (.cells (List.replicate (n + 2) (.string ⟨#[]⟩)).toArray ST)) A (l.map Value.string) := by
    have h5 := Rds.rdc (hr.sub h1.f1.sub)
    rwa [flat_str] at h5
  obtain ⟨w2, hcp, h2⟩ := sl_copy (P := Tryz.prog) (dT := LST) (sT := LST) (ty := I64) (elem := ST) lst_u (by kernel_rfl) (off := 0) h1 (some ⟨g, 0, none⟩) A (n + 2) (n + 2) n c (l.map Value.string) (by rw [List.length_map, hl]; exact (Nat.min_eq_left (by omega)).symm) (fun _ => rfl) hrd (by simp; omega) (str_one l)
  have e0 : splice (List.replicate (n + 2) (Value.string ⟨#[]⟩)) 0 (l.map Value.string) = l.map Value.string ++ [.string ⟨#[]⟩, .string ⟨#[]⟩] := by
    unfold splice
    simp [List.drop_replicate, hl]
  rw [e0] at h2
  rw [List.length_map, hl] at hcp
  have hmk' : (Instr.makeSlice LST (.int .i64 ((n : Int) + 2)) (.int .i64 ((n : Int) + 2))).run Tryz.prog w = .ok (.slice (some ⟨g, 0, none⟩) (n + 2) (n + 2)) (w.alloc (.cells (List.replicate (n + 2) (.string ⟨#[]⟩)).toArray ST)) := hmk
  have hll : (l.map Value.string).length = n := by rw [List.length_map, hl]
  have c1 : w2.cell? ⟨g, n, none⟩ = some (.string ⟨#[]⟩) := by rw [h2.cell n]; simp [hl]
  have f1 := h2.frozen n
  have h3 := h2.set n (.string tSpare)
  rw [set_first _ _ _ _ _ hll] at h3
  have c2 : (w2.setCell ⟨g, n, none⟩ (.string tSpare)).cell? ⟨g, n + 1, none⟩ = some (.string ⟨#[]⟩) := by rw [h3.cell (n + 1)]; simp [hl]
  have f2 := h3.frozen (n + 1)
  have h4 := h3.set (n + 1) (.string tSpare)
  rw [set_second _ _ _ _ _ hll] at h4
  have H4 := Lib.hid h4
  have hsl : ∀ w, (Instr.sliceAt LST (.slice (some ⟨g, 0, none⟩) (n + 2) (n + 2)) none (some (.int .i64 n)) none).run Tryz.prog w = .ok (.slice (some ⟨g, 0, none⟩) n (n + 2)) w := fun w => run_slice_high (size := 1) lst_u (by kernel_rfl) (by omega)
  clear h h1 h2 h3 h4 hrd hmk e0 hg hr hll hl
  generalize w.alloc (.cells (List.replicate (n + 2) (.string ⟨#[]⟩)).toArray ST) = wa at *
  have j0 : IntKind.i64.wrap ((n : Int) + 2) = (n : Int) + 2 := IntWalk.i64_in _ (by omega)
  have j1 : wrap64 ((n : Int) + 2) = (n : Int) + 2 := by unfold wrap64; omega
  have j2 : wrap64 ((n : Int) + 1) = (n : Int) + 1 := by unfold wrap64; omega
  have j3 : (n : Int) < (n : Int) + 2 := by omega
  have j4 : (n : Int) + 1 < (n : Int) + 2 := by omega
  have j5 : (0 : Int) ≤ (n : Int) + 1 := by omega
  go_enter Tryz.func32, Tryz.ntmps32
  go_wp2_with (first | (with_reducible refine at_slot (k := some 7) ?_; refine wpList_make_run (o := ⟨some 7, _, _, _, _, _⟩) hmk' rfl rfl rfl rfl ?_; clear hmk') | (with_reducible refine at_slot (k := some 10) ?_; refine wpList_copy_run (o := ⟨some 10, _, _, _, _, _⟩) hcp rfl rfl rfl rfl ?_; clear hcp))
  go_ret
  exact ⟨g, rfl, H4.out⟩
end
end Go.Proofs.YtabibfabieghpaaGreatDoor
namespace Go.Proofs.YtabibfabieghpaaGreatDoor
open Go.RowKit
theorem seen_ro {E : World} {S : Ph} {L : List Hp} {B : Hp} {A : Option Addr} {n : Nat} {l : List ByteArray} (hr : Rds S 1 enStr A n l) : Seen E (B :: Hp.ro S :: L) A n l := fun _ h => hr.sub h.f1.sub
theorem seen_blk {E : World} {L : List Hp} (g : Nat) (l more : List ByteArray) : Seen E (Hp.blk g ST (l.map Value.string ++ more.map Value.string).toArray :: L) (some ⟨g, 0, none⟩) l.length l := fun w h => by
  refine ⟨rfl, fun _ => rfl, fun k hk => ⟨g, 0, rfl, fun j v hv => ?_⟩⟩
  cases j with
  | zero =>
    have hv2 : Value.string l[k] = v := by simpa using hv
    subst hv2
    have h2 : (Ph.one g (.cells (l.map Value.string ++ more.map Value.string).toArray ST (0, 0))).cell ⟨g, k, none⟩ = some (.string l[k]) := by
      rw [one_cell]
      simp [List.getElem?_append_left, hk]
    have h3 := Ph.cell_sub (Own.sub (show Own E w (Hp.ro (Ph.one g (.cells (l.map Value.string ++ more.map Value.string).toArray ST (0, 0))) :: L) from h)) h2
    simpa using h3
  | succ j => simp at hv
section
variable {E : World} {S : Ph} {L : List Hp}
set_option maxRecDepth 20000 in
set_option maxHeartbeats 2000000 in
theorem whole_any (g : Nat) (A : Option Addr) (n c : Nat) (l : List ByteArray) (w : World) (hn : n ≤ 8796093022208) (hr : Rds S 1 enStr A n l) (h : Own E w (Hp.blk g ST (lentS l).toArray :: Hp.ro S :: L)) :
    Calls Tryz.prog 35 #[.slice (some ⟨g, 0, none⟩) n (n + 2), .slice A n c] w fun e w' => e = .returned (.bool true) ∧ Own E w' (Hp.blk g ST (lentS l).toArray :: Hp.ro S :: L) := by
  have hl := hr.1
  have hs1 : Seen E (Hp.blk g ST (lentS l).toArray :: Hp.ro S :: L) (some ⟨g, 0, none⟩) n l := by
    rw [← hl]
    exact seen_blk g l [tSpare, tSpare]
  have K := fun (wq : World) h => same_any (E := E) (L := Hp.blk g ST (lentS l).toArray :: Hp.ro S :: L) (some ⟨g, 0, none⟩) A n (n + 2) n c l l wq hs1 (seen_ro hr) (by omega) h
  rw [decide_eq_true rfl] at K
  have hd : ∀ w', Own E w' (Hp.blk g ST (lentS l).toArray :: Hp.ro S :: L) → w'.cell? ⟨g, n, none⟩ = some (.string tSpare) ∧ w'.cell? ⟨g, n + 1, none⟩ = some (.string tSpare) := fun w' h => by
    constructor
    · rw [h.cell n]
      simp [lentS, hl]
    · rw [h.cell (n + 1)]
      simp [lentS, hl]
  have HD := Lib.hid hd
  have hsl : ∀ w, (Instr.sliceAt LST (.slice (some ⟨g, 0, none⟩) n (n + 2)) none (some (.int .i64 ((n + 2 : Nat) : Int))) none).run Tryz.prog w = .ok (.slice (some ⟨g, 0, none⟩) (n + 2) (n + 2)) w := fun w => run_slice_high (size := 1) lst_u (by kernel_rfl) (by omega)
  have hsl2 : ∀ w, (Instr.sliceAt LST (.slice (some ⟨g, 0, none⟩) n (n + 2)) none (some (.int .i64 ((n : Int) + 2))) none).run Tryz.prog w = .ok (.slice (some ⟨g, 0, none⟩) (n + 2) (n + 2)) w := hsl
  have j1 : wrap64 ((n : Int) + 2) = (n : Int) + 2 := by unfold wrap64; omega
  have j2 : wrap64 ((n : Int) + 1) = (n : Int) + 1 := by unfold wrap64; omega
  have j3 : (n : Int) < (n : Int) + 2 := by omega
  have j4 : (n : Int) + 1 < (n : Int) + 2 := by omega
  have j5 : (0 : Int) ≤ (n : Int) + 1 := by omega
  have H := Lib.hid h
  clear h hr hl hs1 hd hsl hn
  go_enter Tryz.func35, Tryz.ntmps35
  go_wp2_with (refine (K _ H.out).mono ?_; clear H K; rintro e w2 ⟨rfl, h⟩; have H2 := Lib.hid h; clear h; obtain ⟨c1, c2⟩ := HD.out _ H2.out)
  go_ret
  exact ⟨rfl, H2.out⟩
end
end Go.Proofs.YtabibfabieghpaaGreatDoor
namespace Go.Proofs.YtabibfabieghpaaGreatDoor
open Go.RowKit
theorem Seen.cons {E : World} {L : List Hp} {B : Hp} {A : Option Addr} {n : Nat} {l : List ByteArray} (h : Seen E L A n l) : Seen E (B :: L) A n l := fun w hw => h w hw.drop
section
variable {E : World} {L : List Hp}
set_option maxRecDepth 20000 in
set_option maxHeartbeats 8000000 in
theorem samefam_any (id : Int) (cl su : ByteArray) (A B : Option Addr) (n c m d : Nat) (cr us ii ab gr ge tk st en co : Int) (xs : List ByteArray) (w : World) (hA : Seen E L A n xs) (hB : Seen E L B m xs) (hn : n ≤ 140737488355328) (h : Own E w L) :
    Calls Tryz.prog 50 #[.agg (famC id cl su A n c cr us ii ab gr ge tk st en co).toArray, .agg (famC id cl su B m d cr us ii ab gr ge tk st en co).toArray] w fun ev w' => ev = .returned (.bool true) ∧ Own E w' L := by
  have h1 := h.alloc (.cells (famC id cl su A n c cr us ii ab gr ge tk st en co).toArray FMT)
  have h2 := h1.alloc (.cells (famC id cl su B m d cr us ii ab gr ge tk st en co).toArray FMT)
  rw [alloc_size] at h2
  have K := fun (wq : World) hq => same_any (E := E) (L := Hp.blk (w.heap.size + 1) FMT (famC id cl su B m d cr us ii ab gr ge tk st en co).toArray :: Hp.blk w.heap.size FMT (famC id cl su A n c cr us ii ab gr ge tk st en co).toArray :: L) A B n c m d xs xs wq hA.cons.cons hB.cons.cons hn hq
  rw [decide_eq_true rfl] at K
  have H := Lib.hid (show Own E _ (Hp.blk (w.heap.size + 1) FMT (famC id cl su B m d cr us ii ab gr ge tk st en co).toArray :: Hp.blk w.heap.size FMT (famC id cl su A n c cr us ii ab gr ge tk st en co).toArray :: L) from h2)
  have t1 : (cl.toList == cl.toList) = true := beq_self_eq_true _
  have t2 : (su.toList == su.toList) = true := beq_self_eq_true _
  clear h h1 h2 hA hB
  have y3 : _ = some (Value.slice B m d) := (H.out.cell 3).trans rfl
  have x3 : _ = some (Value.slice A n c) := (H.out.f1.cell 3).trans rfl
  go_enter Tryz.func50, Tryz.ntmps50
  go_wp2_with (refine (K _ H.out).mono ?_; clear H K; rintro ev w2 ⟨rfl, h⟩; have H := Lib.hid h; clear h; obtain ⟨e0, e1, e2, e3, e4, e5, e6, e7, e8, e9, e10, e11, e12, e13⟩ := fam_cells id cl su B m d cr us ii ab gr ge tk st en co H.out; obtain ⟨d0, d1, d2, d3, d4, d5, d6, d7, d8, d9, d10, d11, d12, d13⟩ := fam_cells id cl su A n c cr us ii ab gr ge tk st en co H.out.f1)
  go_ret
  first
    | exact ⟨rfl, H.out.drop.drop⟩
    | exact ⟨by simp, H.out.drop.drop⟩
end
end Go.Proofs.YtabibfabieghpaaGreatDoor
namespace Go.Proofs.YtabibfabieghpaaGreatDoor
open Go.RowKit
section
variable {E : World} {S : Ph} {L : List Hp}
set_option maxRecDepth 20000 in
set_option maxHeartbeats 4000000 in
theorem offam_not (id : Int) (cl su : ByteArray) (A : Option Addr) (n c : Nat) (cr us ii ab gr ge tk st en co : Int) (xs : List ByteArray) (w : World) (hm : ¬ famMay id cl su xs cr us ii ab gr ge tk st en co) (hr : Rds S 1 enStr A n xs) (hnc : n ≤ c) (hn43 : n ≤ 8796093022208) (h : Own E w (Hp.ro S :: L)) :
    Calls Tryz.prog 29 #[.agg (famC id cl su A n c cr us ii ab gr ge tk st en co).toArray] w fun ev w' => ev = .returned (.tuple #[.slice none 0 0, .int .i64 140]) ∧ Own E w' (Hp.ro S :: L) := by
  have H3 := Lib.hid (show Own E _ (Hp.blk w.heap.size FMT (famC id cl su A n c cr us ii ab gr ge tk st en co).toArray :: Hp.ro S :: L) from h.alloc (.cells (famC id cl su A n c cr us ii ab gr ge tk st en co).toArray FMT))
  have KM : Hid (∀ w3 : World, Own E w3 (Hp.blk w.heap.size FMT (famC id cl su A n c cr us ii ab gr ge tk st en co).toArray :: Hp.ro S :: L) → Calls Tryz.prog 81 #[.agg (famC id cl su A n c cr us ii ab gr ge tk st en co).toArray] w3 fun ev w' => ev = .returned (.bool false) ∧ Own E w' (Hp.blk w.heap.size FMT (famC id cl su A n c cr us ii ab gr ge tk st en co).toArray :: Hp.ro S :: L)) := Lib.hid fun w3 h3 => (familymay_any id cl su A n c cr us ii ab gr ge tk st en co xs w3 hr hnc hn43 (show Own E w3 (Hp.ro S :: Hp.blk w.heap.size FMT (famC id cl su A n c cr us ii ab gr ge tk st en co).toArray :: L) from h3.f1)).mono fun ev w' he => ⟨by rw [he.1, decide_eq_false hm], he.2.f1⟩
  clear h hm hr
  unfold famC at *
  go_enter Tryz.func29, Tryz.ntmps29
  go_wp2_with (with_reducible refine (KM.out _ H3.out).mono ?_; clear H3 KM; rintro ev w2 ⟨rfl, h⟩; have H3 := Lib.hid h; clear h)
  go_ret2
  exact ⟨rfl, H3.out.drop⟩
set_option maxRecDepth 20000 in
set_option maxHeartbeats 4000000 in
theorem xoffam_not (id : Int) (cl su : ByteArray) (A : Option Addr) (n c : Nat) (cr us ii ab gr ge tk st en co : Int) (xs : List ByteArray) (w : World) (hm : ¬ famMay id cl su xs cr us ii ab gr ge tk st en co) (hr : Rds S 1 enStr A n xs) (hsz : ∀ x ∈ xs, x.size ≤ 1000000000000000000) (hcl : cl.size ≤ 1000000000000000000) (hsu : su.size ≤ 1000000000000000000) (hn43 : n ≤ 8796093022208) (h : Own E w (Hp.ro S :: L)) :
    Calls Tryz.prog 46 #[.agg (famC id cl su A n c cr us ii ab gr ge tk st en co).toArray] w fun ev w' => ev = .returned (.tuple #[.slice none 0 0, .int .i64 140]) ∧ Own E w' (Hp.ro S :: L) := by
  have H3 := Lib.hid (show Own E _ (Hp.blk w.heap.size FMT (famC id cl su A n c cr us ii ab gr ge tk st en co).toArray :: Hp.ro S :: L) from h.alloc (.cells (famC id cl su A n c cr us ii ab gr ge tk st en co).toArray FMT))
  have KM : Hid (∀ w3 : World, Own E w3 (Hp.blk w.heap.size FMT (famC id cl su A n c cr us ii ab gr ge tk st en co).toArray :: Hp.ro S :: L) → Calls Tryz.prog 105 #[.agg (famC id cl su A n c cr us ii ab gr ge tk st en co).toArray] w3 fun ev w' => ev = .returned (.bool false) ∧ Own E w' (Hp.blk w.heap.size FMT (famC id cl su A n c cr us ii ab gr ge tk st en co).toArray :: Hp.ro S :: L)) := Lib.hid fun w3 h3 => (xfamilymay_any id cl su A n c cr us ii ab gr ge tk st en co xs w3 hr hsz hcl hsu hn43 (show Own E w3 (Hp.ro S :: Hp.blk w.heap.size FMT (famC id cl su A n c cr us ii ab gr ge tk st en co).toArray :: L) from h3.f1)).mono fun ev w' he => ⟨by rw [he.1, decide_eq_false hm], he.2.f1⟩
  clear h hm hr
  unfold famC at *
  go_enter Tryz.func46, Tryz.ntmps46
  go_wp2_with (with_reducible refine (KM.out _ H3.out).mono ?_; clear H3 KM; rintro ev w2 ⟨rfl, h⟩; have H3 := Lib.hid h; clear h)
  go_ret2
  exact ⟨rfl, H3.out.drop⟩
end
end Go.Proofs.YtabibfabieghpaaGreatDoor
