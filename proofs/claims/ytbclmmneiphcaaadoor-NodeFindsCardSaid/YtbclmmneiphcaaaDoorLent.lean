/- latchkeylaw10.lentTexts, lentInts, lent, spare, whole: lists in their owner's memory, four things behind them. -/
import Derived.Test.YtbclmmneiphcaaaDoorWeigh
import Derived.Test.YtbclmmneiphcaaaDoorRegion
namespace Go.Proofs.YtbclmmneiphcaaaDoor
open Go.RowKit
abbrev tSpare : ByteArray := ⟨#[115, 112, 97, 114, 101]⟩
abbrev lentS (xs : List ByteArray) : List Value := xs.map VS ++ List.replicate 4 (VS tSpare)
abbrev lentI (xs : List Int) : List Value := xs.map VI ++ List.replicate 4 (VI (-77))
section
variable {E : World} {S : Ph} {L : List Hp}
set_option maxRecDepth 100000 in
set_option maxHeartbeats 2000000 in
theorem lent_texts (A : Option Addr) (n c : Nat) (l : List ByteArray) (w : World) (hn : n ≤ 4294967296) (hr : Rds S 1 enStr A n l) (h : Own E w (Hp.ro S :: L)) :
    Calls Tryd.prog 36 #[.slice A n c] w fun e w' => ∃ g : Nat, e = .returned (.slice (some ⟨g, 0, none⟩) (n + 4) (n + 4)) ∧ Own E w' (Hp.blk g ST (lentS l).toArray :: Hp.ro S :: L) := by
  obtain ⟨w1, hmk, rfl, -, h1⟩ := sl_make (P := Tryd.prog) (T := LST) (e := ST) (z := VS ⟨#[]⟩) lst_u st_info rfl .i64 .i64 (n + 4) (n + 4) (Nat.le_refl _) (by omega) (by unfold maxLen; omega) h
  obtain ⟨g, hg⟩ : ∃ g, g = w.heap.size := ⟨_, rfl⟩
  rw [← hg] at hmk h1
  have hl := hr.1
  have hrd : RdC (w.alloc (.cells (List.replicate (n + 4) (VS ⟨#[]⟩)).toArray ST)) A (l.map VS) := hr.rdC h1.f1
  obtain ⟨w2, hcp, h2⟩ := sl_copy (P := Tryd.prog) (dT := LST) (sT := LST) (ty := IT) (elem := ST) lst_u (by kernel_rfl) (off := 0) h1 (some ⟨g, 0, none⟩) A (n + 4) (n + 4) n c (l.map VS) (by rw [List.length_map, hl]; exact (Nat.min_eq_left (by omega)).symm) (fun _ => rfl) hrd (by simp; omega) (VS_one l)
  have e0 : splice (List.replicate (n + 4) (VS ⟨#[]⟩)) 0 (l.map VS) = l.map VS ++ List.replicate 0 (VS tSpare) ++ List.replicate 4 (VS ⟨#[]⟩) := by
    unfold splice
    simp [List.drop_replicate, hl]
  rw [e0] at h2
  rw [List.length_map, hl] at hcp
  have hmk' : (Instr.makeSlice LST (.int .i64 ((n : Int) + 4)) (.int .i64 ((n : Int) + 4))).run Tryd.prog w = .ok (.slice (some ⟨g, 0, none⟩) (n + 4) (n + 4)) (w.alloc (.cells (List.replicate (n + 4) (VS ⟨#[]⟩)).toArray ST)) := hmk
  have H2 := Lib.hid h2
  clear h h1 h2 hrd hmk e0 hg
  generalize w.alloc (.cells (List.replicate (n + 4) (VS ⟨#[]⟩)).toArray ST) = wa at *
  have j0 : IntKind.i64.wrap ((n : Int) + 4) = (n : Int) + 4 := IntWalk.i64_in _ (by omega)
  go_enter Tryd.func36, Tryd.ntmps36
  go_wp2_with (first | (with_reducible refine at_slot (k := some 8) ?_; refine wpList_make_run (o := ⟨some 8, _, _, _, _, _⟩) hmk' rfl rfl rfl rfl ?_; clear hmk') | (with_reducible refine at_slot (k := some 11) ?_; refine wpList_copy_run (o := ⟨some 11, _, _, _, _, _⟩) hcp rfl rfl rfl rfl ?_; clear hcp))
  go_loopw [4] (fun i wr => ∃ k : Nat, k ≤ 4 ∧ i = .int .i64 ((n : Int) + k) ∧ Own E wr (Hp.blk g ST (l.map VS ++ List.replicate k (VS tSpare) ++ List.replicate (4 - k) (VS ⟨#[]⟩)).toArray :: Hp.ro S :: L)) (fun i _ => n + 4 - (intOf i).toNat)
  case atStart => exact ⟨0, by omega, by simp, H2.out⟩
  case round =>
    obtain ⟨k, hk, rfl, hw⟩ := hrel
    clear H2
    have hlt3 : (k : Int) ≤ 4 := by omega
    by_cases hlt : k < 4
    · have hlti : (n : Int) + k < (n : Int) + 4 := by omega
      have hlti2 : (n : Int) + k < ((n + 4 : Nat) : Int) := by omega
      have hz0 : (0 : Int) ≤ (n : Int) + k := by omega
      have hz1 : ((n : Int) + k).toNat = n + k := by omega
      have hc1 := hw.cell (n + k)
      have hf1 := hw.frozen (n + k)
      have hs1 := hw.set (n + k) (VS tSpare)
      have e1 : 4 - k = (4 - (k + 1)) + 1 := by omega
      rw [e1, List.replicate_succ] at hs1 hc1
      have hlen : (l.map VS ++ List.replicate k (VS tSpare)).length = n + k := by simp [hl]
      rw [set_mid _ _ _ _ _ hlen] at hs1
      rw [get_mid _ _ _ _ hlen] at hc1
      have e2 : l.map VS ++ List.replicate k (VS tSpare) ++ (VS tSpare) :: List.replicate (4 - (k + 1)) (VS ⟨#[]⟩) = l.map VS ++ List.replicate (k + 1) (VS tSpare) ++ List.replicate (4 - (k + 1)) (VS ⟨#[]⟩) := by
        rw [List.replicate_succ']; simp
      rw [e2] at hs1
      have HS := Lib.hid hs1
      clear hw hs1 e1 e2 hlen
      go_wp2_with fail
      go_roundw
      case rel => exact ⟨k + 1, by omega, by go_num, HS.out⟩
      case measure => simp [intOf]; omega
    · obtain rfl : k = 4 := by omega
      have hlti : ¬ (n : Int) + 4 < ((n + 4 : Nat) : Int) := by omega
      have HW := Lib.hid hw
      clear hw
      go_wp2_with fail
      go_ret
      exact ⟨g, rfl, HW.out.blkEq' (by simp [lentS])⟩
set_option maxRecDepth 100000 in
set_option maxHeartbeats 2000000 in
theorem lent_ints (A : Option Addr) (n c : Nat) (l : List Int) (w : World) (hn : n ≤ 4294967296) (hr : Rds S 1 en64 A n l) (h : Own E w (Hp.ro S :: L)) :
    Calls Tryd.prog 37 #[.slice A n c] w fun e w' => ∃ g : Nat, e = .returned (.slice (some ⟨g, 0, none⟩) (n + 4) (n + 4)) ∧ Own E w' (Hp.blk g IT (lentI l).toArray :: Hp.ro S :: L) := by
  obtain ⟨w1, hmk, rfl, -, h1⟩ := sl_make (P := Tryd.prog) (T := LIT) (e := IT) (z := VI 0) lit_u it_info rfl .i64 .i64 (n + 4) (n + 4) (Nat.le_refl _) (by omega) (by unfold maxLen; omega) h
  obtain ⟨g, hg⟩ : ∃ g, g = w.heap.size := ⟨_, rfl⟩
  rw [← hg] at hmk h1
  have hl := hr.1
  have hrd : RdC (w.alloc (.cells (List.replicate (n + 4) (VI 0)).toArray IT)) A (l.map VI) := hr.rdC h1.f1
  obtain ⟨w2, hcp, h2⟩ := sl_copy (P := Tryd.prog) (dT := LIT) (sT := LIT) (ty := IT) (elem := IT) lit_u (by kernel_rfl) (off := 0) h1 (some ⟨g, 0, none⟩) A (n + 4) (n + 4) n c (l.map VI) (by rw [List.length_map, hl]; exact (Nat.min_eq_left (by omega)).symm) (fun _ => rfl) hrd (by simp; omega) (VI_one l)
  have e0 : splice (List.replicate (n + 4) (VI 0)) 0 (l.map VI) = l.map VI ++ List.replicate 0 (VI (-77)) ++ List.replicate 4 (VI 0) := by
    unfold splice
    simp [List.drop_replicate, hl]
  rw [e0] at h2
  rw [List.length_map, hl] at hcp
  have hmk' : (Instr.makeSlice LIT (.int .i64 ((n : Int) + 4)) (.int .i64 ((n : Int) + 4))).run Tryd.prog w = .ok (.slice (some ⟨g, 0, none⟩) (n + 4) (n + 4)) (w.alloc (.cells (List.replicate (n + 4) (VI 0)).toArray IT)) := hmk
  have H2 := Lib.hid h2
  clear h h1 h2 hrd hmk e0 hg
  generalize w.alloc (.cells (List.replicate (n + 4) (VI 0)).toArray IT) = wa at *
  have j0 : IntKind.i64.wrap ((n : Int) + 4) = (n : Int) + 4 := IntWalk.i64_in _ (by omega)
  go_enter Tryd.func37, Tryd.ntmps37
  go_wp2_with (first | (with_reducible refine at_slot (k := some 8) ?_; refine wpList_make_run (o := ⟨some 8, _, _, _, _, _⟩) hmk' rfl rfl rfl rfl ?_; clear hmk') | (with_reducible refine at_slot (k := some 11) ?_; refine wpList_copy_run (o := ⟨some 11, _, _, _, _, _⟩) hcp rfl rfl rfl rfl ?_; clear hcp))
  go_loopw [4] (fun i wr => ∃ k : Nat, k ≤ 4 ∧ i = .int .i64 ((n : Int) + k) ∧ Own E wr (Hp.blk g IT (l.map VI ++ List.replicate k (VI (-77)) ++ List.replicate (4 - k) (VI 0)).toArray :: Hp.ro S :: L)) (fun i _ => n + 4 - (intOf i).toNat)
  case atStart => exact ⟨0, by omega, by simp, H2.out⟩
  case round =>
    obtain ⟨k, hk, rfl, hw⟩ := hrel
    clear H2
    have hlt3 : (k : Int) ≤ 4 := by omega
    by_cases hlt : k < 4
    · have hlti : (n : Int) + k < (n : Int) + 4 := by omega
      have hlti2 : (n : Int) + k < ((n + 4 : Nat) : Int) := by omega
      have hz0 : (0 : Int) ≤ (n : Int) + k := by omega
      have hz1 : ((n : Int) + k).toNat = n + k := by omega
      have hc1 := hw.cell (n + k)
      have hf1 := hw.frozen (n + k)
      have hs1 := hw.set (n + k) (VI (-77))
      have e1 : 4 - k = (4 - (k + 1)) + 1 := by omega
      rw [e1, List.replicate_succ] at hs1 hc1
      have hlen : (l.map VI ++ List.replicate k (VI (-77))).length = n + k := by simp [hl]
      rw [set_mid _ _ _ _ _ hlen] at hs1
      rw [get_mid _ _ _ _ hlen] at hc1
      have e2 : l.map VI ++ List.replicate k (VI (-77)) ++ (VI (-77)) :: List.replicate (4 - (k + 1)) (VI 0) = l.map VI ++ List.replicate (k + 1) (VI (-77)) ++ List.replicate (4 - (k + 1)) (VI 0) := by
        rw [List.replicate_succ']; simp
      rw [e2] at hs1
      have HS := Lib.hid hs1
      clear hw hs1 e1 e2 hlen
      go_wp2_with fail
      go_roundw
      case rel => exact ⟨k + 1, by omega, by go_num, HS.out⟩
      case measure => simp [intOf]; omega
    · obtain rfl : k = 4 := by omega
      have hlti : ¬ (n : Int) + 4 < ((n + 4 : Nat) : Int) := by omega
      have HW := Lib.hid hw
      clear hw
      go_wp2_with fail
      go_ret
      exact ⟨g, rfl, HW.out.blkEq' (by simp [lentI])⟩
end
end Go.Proofs.YtbclmmneiphcaaaDoor
