/- latchkeylaw02.bent: some text of the same length. -/
import Derived.Test.YtokephnlelpjhaaDoorAdd
namespace Go.Proofs.YtokephnlelpjhaaDoor
open Go.RowKit
theorem str_some {s : ByteArray} (h : ¬ s.size = 0) : s.toList.isEmpty = false := by
  rw [ByteArray.toList_eq, List.isEmpty_eq_false_iff]
  intro e
  have : s.data.toList.length = s.size := rfl
  rw [e] at this
  simp at this
  omega
set_option maxRecDepth 20000 in
set_option maxHeartbeats 1000000 in
theorem bent_any {E : World} {L : List Hp} (s : ByteArray) (p q : Int) (w : World) (hs : s.size ≤ 140737488355328) (hp : -9223372036854775808 ≤ p ∧ p ≤ 9223372036854775807) (h : Own E w L) :
    Calls Tryd.prog 51 #[.string s, .int .i64 p, .int .i64 q] w fun e w' => ∃ r : ByteArray, e = .returned (.string r) ∧ r.size = s.size ∧ Own E w' L := by
  by_cases h0 : s.size = 0
  · have e0 : s = ⟨#[]⟩ := by
      apply ByteArray.ext
      exact Array.eq_empty_of_size_eq_zero h0
    subst e0
    clear h0
    go_enter Tryd.func51, Tryd.ntmps51
    go_wp2_with fail
    go_ret
    exact ⟨_, rfl, rfl, h⟩
  · have h1 : s.toList.isEmpty = false := str_some h0
    obtain ⟨cap, w1, hcv, h2⟩ := sl_to_bytes (P := Tryd.prog) (src := ST) (dst := BT) (e := U8) (by kernel_rfl) (by kernel_rfl) (by kernel_rfl) s (by unfold maxLen; omega) h
    generalize w.heap.size = g at *
    obtain ⟨j, hj⟩ : ∃ j, j = pickN p s.size := ⟨_, rfl⟩
    have hjl : j < s.size := by rw [hj]; exact pickN_lt _ _ (by omega)
    obtain ⟨x, hx⟩ : ∃ x : UInt8, IntKind.u8.wrap q = (x.toNat : Int) := ⟨UInt8.ofNat (q % 256).toNat, by
      rw [IntKind.wrap_u8, UInt8.toNat_ofNat']
      have := Int.emod_nonneg q (show (256 : Int) ≠ 0 by omega)
      have := Int.emod_lt_of_pos q (show (0 : Int) < 256 by omega)
      omega⟩
    obtain ⟨g', hg, c1, f1, h3⟩ := h2.rowSet j hjl (.int .u8 (x.toNat : Int))
    injection hg with hg
    injection hg with hg
    subst hg
    have h3' : Own E (w1.setCell ⟨g, j, none⟩ (.int .u8 (x.toNat : Int))) (Hp.row U8 1 (.slice (some ⟨g, 0, none⟩) s.size cap) s.size ((s.data.toList.set j x).map V8') :: L) := by
      rw [List.map_set]; exact h3
    have hst := h3'.rowString (P := Tryd.prog) (src := BT) (dst := ST) (e := U8) (by kernel_rfl) (by kernel_rfl) (by kernel_rfl)
    have H4 := Lib.hid h3'.drop
    have HJ := Lib.hid hj
    have i1 : (j : Int) < s.size := by omega
    have i0 : (0 : Int) ≤ j := by omega
    have hss : s.size ≤ 9223372036854775807 := by omega
    clear h h2 h3 h3' hj
    go_enter Tryd.func51, Tryd.ntmps51
    go_wp2_with (with_reducible refine at_slot (k := some 12) ?_; refine wpList_conv_run (o := ⟨some 12, _, _, _, _, _⟩) hcv rfl rfl rfl ?_; clear hcv)
    refine (pick_any p s.size _ hp (by omega) (by omega)).mono ?_
    rintro e w2 ⟨rfl, rfl⟩
    rw [← HJ.out]
    go_wp2_with (with_reducible refine at_slot (k := some 22) ?_; refine wpList_conv_run (o := ⟨some 22, _, _, _, _, _⟩) hst rfl rfl rfl ?_; clear hst)
    go_ret
    refine ⟨_, rfl, ?_, H4.out⟩
    show (s.data.toList.set j x).length = _
    rw [List.length_set]
    rfl
end Go.Proofs.YtokephnlelpjhaaDoor
