/- The law's lent, whole, told. -/
import Derived.Test.YtgedjkcpgagnbaaDoorAlg6
namespace Go.Proofs.YtgedjkcpgagnbaaDoor
open Go.RowKit
abbrev tSpare : ByteArray := ⟨#[115, 112, 97, 114, 101]⟩
abbrev lentS (xs : List ByteArray) : List Value := xs.map Value.string ++ List.replicate 4 (.string tSpare)
theorem str_one (xs : List ByteArray) : ∀ v ∈ xs.map Value.string, v.oneCell' = true := by
  intro v hv
  obtain ⟨x, -, rfl⟩ := List.mem_map.1 hv
  rfl
section
variable {E : World} {S : Ph} {L : List Hp}
theorem Own.blkIs {w : World} {b : Nat} {t : TypeId} {cs ds : Array Value} (h : Own E w (Hp.blk b t cs :: L)) (e : cs = ds) : Own E w (Hp.blk b t ds :: L) := e ▸ h
set_option maxRecDepth 100000 in
set_option maxHeartbeats 2000000 in
theorem lent_any (A : Option Addr) (n c : Nat) (l : List ByteArray) (w : World) (hn : n ≤ 4294967296) (hr : Rds S 1 enStr A n l) (h : Own E w (Hp.ro S :: L)) :
    Calls Tryd.prog 15 #[.slice A n c] w fun e w' => ∃ g : Nat, e = .returned (.slice (some ⟨g, 0, none⟩) (n + 4) (n + 4)) ∧ Own E w' (Hp.blk g ST (lentS l).toArray :: Hp.ro S :: L) := by
  obtain ⟨w1, hmk, rfl, -, h1⟩ := sl_make (P := Tryd.prog) (T := LST) (e := ST) (z := .string ⟨#[]⟩) lst_u st_info rfl .i64 .i64 (n + 4) (n + 4) (Nat.le_refl _) (by omega) (by unfold maxLen; omega) h
  obtain ⟨g, hg⟩ : ∃ g, g = w.heap.size := ⟨_, rfl⟩
  rw [← hg] at hmk h1
  have hl := hr.1
  have hrd : RdC (w.alloc (.cells (List.replicate (n + 4) (.string ⟨#[]⟩)).toArray ST)) A (l.map Value.string) := hr.rdC h1.f1
  obtain ⟨w2, hcp, h2⟩ := sl_copy (P := Tryd.prog) (dT := LST) (sT := LST) (ty := INT) (elem := ST) lst_u (by kernel_rfl) (off := 0) h1 (some ⟨g, 0, none⟩) A (n + 4) (n + 4) n c (l.map Value.string) (by rw [List.length_map, hl]; exact (Nat.min_eq_left (by omega)).symm) (fun _ => rfl) hrd (by simp; omega) (str_one l)
  have e0 : splice (List.replicate (n + 4) (Value.string ⟨#[]⟩)) 0 (l.map Value.string) = l.map Value.string ++ List.replicate 0 (Value.string tSpare) ++ List.replicate 4 (Value.string ⟨#[]⟩) := by
    unfold splice
    simp [List.drop_replicate, hl]
  rw [e0] at h2
  rw [List.length_map, hl] at hcp
  have hmk' : (Instr.makeSlice LST (.int .i64 ((n : Int) + 4)) (.int .i64 ((n : Int) + 4))).run Tryd.prog w = .ok (.slice (some ⟨g, 0, none⟩) (n + 4) (n + 4)) (w.alloc (.cells (List.replicate (n + 4) (.string ⟨#[]⟩)).toArray ST)) := hmk
  have H2 := Lib.hid h2
  clear h h1 h2 hrd hmk e0 hg
  generalize w.alloc (.cells (List.replicate (n + 4) (Value.string ⟨#[]⟩)).toArray ST) = wa at *
  have j0 : IntKind.i64.wrap ((n : Int) + 4) = (n : Int) + 4 := IntWalk.i64_in _ (by omega)
  go_enter Tryd.func15, Tryd.ntmps15
  go_wp2_with (first | (with_reducible refine at_slot (k := some 8) ?_; refine wpList_make_run (o := ⟨some 8, _, _, _, _, _⟩) hmk' rfl rfl rfl rfl ?_; clear hmk') | (with_reducible refine at_slot (k := some 11) ?_; refine wpList_copy_run (o := ⟨some 11, _, _, _, _, _⟩) hcp rfl rfl rfl rfl ?_; clear hcp))
  go_loopw [4] (fun i wr => ∃ k : Nat, k ≤ 4 ∧ i = .int .i64 ((n : Int) + k) ∧ Own E wr (Hp.blk g ST (l.map Value.string ++ List.replicate k (Value.string tSpare) ++ List.replicate (4 - k) (Value.string ⟨#[]⟩)).toArray :: Hp.ro S :: L)) (fun i _ => n + 4 - (intOf i).toNat)
  case atStart => exact ⟨0, by omega, by simp, H2.out⟩
  case round =>
    obtain ⟨k, hk, rfl, hw⟩ := hrel
    clear H2
    have hlt3 : (k : Int) ≤ 4 := by omega
    by_cases hlt : k < 4
    · have hlti : (n : Int) + k < (n : Int) + 4 := by omega
      have hlti2 : (n : Int) + k < ((n + 4 : Nat) : Int) := by omega
      have hz0 : (0 : Int) ≤ (n : Int) + k := by omega
      have hz1 : ((n : Int) + k).toNat = n + k := by omega
      have hc1 := hw.cell (n + k)
      have hf1 := hw.frozen (n + k)
      have hs1 := hw.set (n + k) (.string tSpare)
      have e1 : 4 - k = (4 - (k + 1)) + 1 := by omega
      rw [e1, List.replicate_succ] at hs1 hc1
      have hlen : (l.map Value.string ++ List.replicate k (Value.string tSpare)).length = n + k := by simp [hl]
      rw [set_mid _ _ _ _ _ hlen] at hs1
      rw [get_mid _ _ _ _ hlen] at hc1
      have e2 : l.map Value.string ++ List.replicate k (Value.string tSpare) ++ (Value.string tSpare) :: List.replicate (4 - (k + 1)) (Value.string ⟨#[]⟩) = l.map Value.string ++ List.replicate (k + 1) (Value.string tSpare) ++ List.replicate (4 - (k + 1)) (Value.string ⟨#[]⟩) := by
        rw [List.replicate_succ']; simp
      rw [e2] at hs1
      have HS := Lib.hid hs1
      clear hw hs1 e1 e2 hlen
      go_wp2_with fail
      go_roundw
      case rel => exact ⟨k + 1, by omega, by go_num, HS.out⟩
      case measure => simp [intOf]; omega
    · obtain rfl : k = 4 := by omega
      have hlti : ¬ (n : Int) + 4 < ((n + 4 : Nat) : Int) := by omega
      have HW := Lib.hid hw
      clear hw
      go_wp2_with fail
      go_ret
      exact ⟨g, rfl, HW.out.blkIs (by simp [lentS])⟩
theorem one_cell (g : Nat) (t : TypeId) (cs : List Value) (i : Nat) : (Ph.one g (.cells cs.toArray t (0, 0))).cell ⟨g, i, none⟩ = cs[i]? := by
  simp [Ph.cell, Ph.one]
theorem one_rds (g : Nat) (l : List ByteArray) (rest : List Value) : Rds (Ph.one g (.cells (l.map Value.string ++ rest).toArray ST (0, 0))) 1 enStr (some ⟨g, 0, none⟩) l.length l := by
  refine ⟨rfl, fun _ => rfl, fun k hk => ⟨g, 0, rfl, fun j v hv => ?_⟩⟩
  cases j with
  | zero =>
    have hv2 : Value.string l[k] = v := by simpa using hv
    subst hv2
    have h2 : (Ph.one g (.cells (l.map Value.string ++ rest).toArray ST (0, 0))).cell ⟨g, k, none⟩ = some (.string l[k]) := by
      rw [one_cell]
      simp [List.getElem?_append_left, hk]
    simpa using h2
  | succ j => simp at hv
/-- A list that its owner lends, four things behind it: it may be read; then it is his again. -/
theorem lentT {w : World} {g : Nat} {l : List ByteArray} (h : Own E w (Hp.blk g ST (lentS l).toArray :: Hp.ro S :: L)) : ∃ T, Ext S T ∧ Rds T 1 enStr (some ⟨g, 0, none⟩) l.length l ∧ (∀ j, j < 4 → T.cell ⟨g, l.length + j, none⟩ = some (.string tSpare)) ∧ Own E w (Hp.ro T :: L) ∧
    (∀ w', Own E w' (Hp.ro T :: L) → Own E w' (Hp.blk g ST (lentS l).toArray :: Hp.ro S :: L)) := by
  have h1 : Own E w (Hp.ro (Ph.one g (.cells (lentS l).toArray ST (0, 0))) :: Hp.ro S :: L) := h
  obtain ⟨hm, hd⟩ := h1.merge
  refine ⟨Ph.join (Ph.one g (.cells (lentS l).toArray ST (0, 0))) S, fun k o hk => by rw [Ph.join_comm hd]; exact Ph.join_some hk, (one_rds g l _).sub fun k o hk => Ph.join_some hk, fun j hj => ?_, hm, fun w' hw => hw.part hd⟩
  refine Ph.cell_sub (fun k o hk => Ph.join_some hk) ?_
  rw [one_cell, List.getElem?_append_right (by simp), List.getElem?_replicate, if_pos (by rw [List.length_map]; omega)]
set_option maxRecDepth 100000 in
set_option maxHeartbeats 2000000 in
theorem whole_any (g : Nat) (A : Option Addr) (n c : Nat) (l : List ByteArray) (w : World) (hn : n ≤ 4294967296) (hr : Rds S 1 enStr A n l) (h : Own E w (Hp.blk g ST (lentS l).toArray :: Hp.ro S :: L)) :
    Calls Tryd.prog 17 #[.slice (some ⟨g, 0, none⟩) (n + 4) (n + 4), .slice A n c] w fun e w' => e = .returned (.bool true) ∧ Own E w' (Hp.blk g ST (lentS l).toArray :: Hp.ro S :: L) := by
  have hl := hr.1
  obtain ⟨T, he, r1, hsp, h1, hback⟩ := lentT h
  rw [hl] at r1 hsp
  have K := fun (wq : World) h => same_any (E := E) (L := Hp.ro T :: L) (some ⟨g, 0, none⟩) A n (n + 4) n c l l wq (seen_list r1) (seen_list (hr.sub he)) (by omega) h
  rw [decide_eq_true rfl] at K
  have HD := Lib.hid (fun w' (h : Own E w' (Hp.ro T :: L)) j (hj : j < 4) => h.rd (hsp j hj))
  have HB := Lib.hid hback
  have hsl : ∀ w, (Instr.sliceAt LST (.slice (some ⟨g, 0, none⟩) (n + 4) (n + 4)) none (some (.int .i64 (n : Int))) none).run Tryd.prog w = .ok (.slice (some ⟨g, 0, none⟩) n (n + 4)) w := fun w => run_slice_high (size := 1) lst_u (by kernel_rfl) (by omega)
  have H := Lib.hid h1
  clear h hr hl r1 hsp h1 hback he
  have j0 : IntKind.i64.wrap ((n : Int) + 4) = (n : Int) + 4 := IntWalk.i64_in _ (by omega)
  go_enter Tryd.func17, Tryd.ntmps17
  go_wp2_with (refine (K _ H.out).mono ?_; clear H K; rintro e w2 ⟨rfl, h⟩; have H2 := Lib.hid h; clear h)
  go_loopw [5, 6] (fun b i wr => ∃ k : Nat, k ≤ 4 ∧ b = .bool true ∧ i = .int .i64 ((n : Int) + k) ∧ Own E wr (Hp.ro T :: L)) (fun _ i _ => n + 4 - (intOf i).toNat)
  case atStart => exact ⟨0, by omega, rfl, by simp, H2.out⟩
  case round =>
    obtain ⟨k, hk, rfl, rfl, hw⟩ := hrel
    clear H2
    have hlt3 : (k : Int) ≤ 4 := by omega
    by_cases hlt : k < 4
    · have hlti : (n : Int) + k < (n : Int) + 4 := by omega
      have hlti2 : (n : Int) + k < ((n + 4 : Nat) : Int) := by omega
      have hz0 : (0 : Int) ≤ (n : Int) + k := by omega
      have hz1 : ((n : Int) + k).toNat = n + k := by omega
      have hc1 := HD.out _ hw k hlt
      have HW := Lib.hid hw
      clear hw
      go_wp2_with fail
      go_roundw
      case rel => exact ⟨k + 1, by omega, by first | rfl | simp, by go_num, HW.out⟩
      case measure => simp [intOf]; omega
    · obtain rfl : k = 4 := by omega
      have hlti : ¬ (n : Int) + 4 < ((n + 4 : Nat) : Int) := by omega
      have HW := Lib.hid hw
      clear hw
      go_wp2_with fail
      go_ret
      exact ⟨rfl, HB.out _ HW.out⟩
end
end Go.Proofs.YtgedjkcpgagnbaaDoor
