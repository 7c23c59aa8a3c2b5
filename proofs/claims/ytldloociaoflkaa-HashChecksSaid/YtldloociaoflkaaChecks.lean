/- HashChecks. -/
import Derived.Test.YtldloociaoflkaaRefCrc
import Derived.Test.YtldloociaoflkaaKnown
namespace Go.Proofs.Ytldloociaoflkaa
open Go.RowKit
theorem sameB_self (a : ByteArray) : sameB a a = true := by simp [sameB]
theorem sameB_list (a b : ByteArray) : sameB a b = (a.toList == b.toList) := by
  unfold sameB
  rw [ByteArray.toList_eq, ByteArray.toList_eq, Bool.eq_iff_iff, decide_eq_true_eq, beq_iff_eq]
theorem sameB_swap (a b : ByteArray) : sameB a b = (b.toList == a.toList) := by
  rw [sameB_list, Bool.eq_iff_iff, beq_iff_eq, beq_iff_eq]
  exact ⟨Eq.symm, Eq.symm⟩
set_option maxHeartbeats 1000000 in
theorem checks_any {E : World} {L : List Hp} (s t : ByteArray) (w : World) (hs : s.size ≤ maxLen) (ht : t.size ≤ maxLen) (h : Own E w L) :
    Calls Try.prog 5 #[.string s, .string t] w fun e w' => e = .returned (.bool true) ∧ Own E w' L := by
  have Hs := Lib.hid hs
  have Ht := Lib.hid ht
  clear hs ht
  go_enter Try.func5, Try.ntmps5
  go_wp2_with fail
  refine (known_any _ h).mono ?_
  rintro e w1 ⟨rfl, h1⟩
  clear h
  obtain ⟨cap, w2, hcv, h2⟩ := sl_to_bytes (P := Try.prog) (src := ST) (dst := BT) (e := U8) (by kernel_rfl) (by kernel_rfl) (by kernel_rfl) s Hs.out h1
  have hst := h2.rowString (P := Try.prog) (src := BT) (dst := ST) (e := U8) (by kernel_rfl) (by kernel_rfl) (by kernel_rfl)
  have es : (⟨s.data.toList.toArray⟩ : ByteArray) = s := rfl
  rw [es] at hst
  have H2 := Lib.hid h2.drop
  clear h2 h1 es
  go_wp2_with (first | (refine wpList_conv_run (o := ⟨some 9, _, _, _, _, _⟩) hcv rfl rfl rfl ?_; clear hcv) | (refine wpList_conv_run (o := ⟨some 10, _, _, _, _, _⟩) hst rfl rfl rfl ?_; clear hst))
  refine (crc_any s _ Hs.out H2.out).mono ?_
  rintro e w3 ⟨rfl, h3⟩
  clear H2
  go_wp2_with fail
  refine (refcrc_any s _ Hs.out).mono ?_
  rintro e w4 ⟨rfl, rfl⟩
  go_wp2_with fail
  refine (same_any s t _ Hs.out h3).mono ?_
  rintro e w4 ⟨rfl, h4⟩
  rw [sameB_list]
  clear h3
  go_wp2_with fail
  refine (same_any s s _ Hs.out h4).mono ?_
  rintro e w5 ⟨rfl, h5⟩
  rw [sameB_self]
  clear h4
  go_wp2_with fail
  refine (same_any t s _ Ht.out h5).mono ?_
  rintro e w6 ⟨rfl, h6⟩
  rw [sameB_swap]
  clear h5
  go_wp2_with fail
  go_ret
  exact ⟨rfl, h6⟩
end Go.Proofs.Ytldloociaoflkaa
