/- hash.first, hash.rounds. -/
import Derived.Test.YtilcilbmbhbakaaDoorSched
namespace Go.Proofs.YtilcilbmbhbakaaDoor
open Go.RowKit
abbrev S8T : TypeId := 78
def z64 : List Value := (List.replicate 64 (0 : BitVec 32)).map V32
def z8 : List Value := (List.replicate 8 (0 : BitVec 32)).map V32
theorem size64 (l : List (BitVec 32)) (h : l.length = 64) : (Tryd.prog.info? A64).map (·.size) = some (l.map V32).length := by rw [List.length_map, h]; kernel_rfl
theorem size8 (l : List (BitVec 32)) (h : l.length = 8) : (Tryd.prog.info? S8T).map (·.size) = some (l.map V32).length := by rw [List.length_map, h]; kernel_rfl
theorem K_length : Sha.K.length = 64 := rfl
theorem run_alloc64 (w : World) : (Instr.alloc A64 true (.tuple #[])).run Tryd.prog w = .ok (.pointer (some ⟨w.heap.size, 0, none⟩)) (w.alloc (.cells z64.toArray A64)) := by kernel_rfl
theorem run_alloc8 (w : World) : (Instr.alloc S8T true (.tuple #[])).run Tryd.prog w = .ok (.pointer (some ⟨w.heap.size, 0, none⟩)) (w.alloc (.cells z8.toArray S8T)) := by kernel_rfl

set_option maxHeartbeats 1000000 in
theorem rounds_any {E : World} {L : List Hp} (w : World) (h : Own E w L) :
    Calls Tryd.prog 69 #[] w fun e w' => e = .returned (.agg (Sha.cells Sha.K)) ∧ Own E w' L := by
  have h1 : Own E (w.alloc (.cells z64.toArray A64)) (Hp.blk w.heap.size A64 z64.toArray :: L) := h.alloc _
  go_enter Tryd.func69, Tryd.ntmps69
  go_upto_region 1 with (fail)
  refine wp_region_list ?_
  refine wpList_yield (v := .agg (Sha.K.map V32).toArray) (w' := w.alloc (.cells z64.toArray A64)) (by kernel_rfl) rfl ?_
  refine wpList_store_arr h1 0 (Sha.K.map V32) (by simp [z64, K_length]) (V32_one _) (size64 _ K_length) rfl rfl rfl rfl ?_
  intro w2 h2
  unfold z64 at h2
  rw [putArr_zero _ _ (by simp [K_length])] at h2
  go_wp2_with fail
  exact bodyPost_ret (results_arr Tryd.results69 rfl h2 Tryd.underlying104 rfl (size64 _ K_length)) rfl ⟨rfl, h2.drop⟩

theorem H0_length : Sha.H0.list.length = 8 := rfl
set_option maxHeartbeats 1000000 in
theorem first_any {E : World} {L : List Hp} (w : World) (h : Own E w L) :
    Calls Tryd.prog 56 #[] w fun e w' => e = .returned (.agg (Sha.H0.list.map V32).toArray) ∧ Own E w' L := by
  have h1 : Own E (w.alloc (.cells z8.toArray S8T)) (Hp.blk w.heap.size S8T z8.toArray :: L) := h.alloc _
  go_enter Tryd.func56, Tryd.ntmps56
  go_upto_region 1 with (fail)
  refine wp_region_list ?_
  refine wpList_yield (v := .agg (Sha.H0.list.map V32).toArray) (w' := w.alloc (.cells z8.toArray S8T)) (by kernel_rfl) rfl ?_
  refine wpList_store_arr h1 0 (Sha.H0.list.map V32) (by simp [z8, H0_length]) (V32_one _) (size8 _ H0_length) rfl rfl rfl rfl ?_
  intro w2 h2
  unfold z8 at h2
  rw [putArr_zero _ _ (by simp [H0_length])] at h2
  go_wp2_with fail
  exact bodyPost_ret (results_arr Tryd.results56 rfl h2 (d0 := .array 8 U32) (by kernel_rfl) rfl (size8 _ H0_length)) rfl ⟨rfl, h2.drop⟩
end Go.Proofs.YtilcilbmbhbakaaDoor
