/- latchkeyref01: filled, Sum. -/
import Derived.Test.YtilcilbmbhbakaaDoorRefSum
namespace Go.Proofs.YtilcilbmbhbakaaDoor
open Go.RowKit
theorem eight_byte (N s : Nat) (A : Int) (hA : A = ((2 ^ s : Nat) : Int)) : (N : Int) / A % 256 = ((UInt8.ofNat (N / 2 ^ s)).toNat : Int) := by
  rw [hA, ← Int.natCast_ediv]
  simp
theorem eight_byte0 (N : Nat) : (N : Int) % 256 = ((UInt8.ofNat (N / 2 ^ 0)).toNat : Int) := by
  have := eight_byte N 0 1 rfl
  rw [Int.ediv_one] at this
  exact this
theorem big_len {E : World} {L : List Hp} (N : Nat) (n : Int) (hn : n = (N : Int)) (w : World) (h : Own E w L) :
    Calls Tryd.prog 55 #[.int .i64 n, .int .i64 8] w fun e w' => e = .returned (.string ⟨(Sha.eight N).toArray⟩) ∧ Own E w' L := by
  subst hn
  exact big8_any N (Sha.eight N) rfl (eight_byte0 N) (eight_byte N 8 256 rfl) (eight_byte N 16 65536 rfl) (eight_byte N 24 16777216 rfl) (eight_byte N 32 4294967296 rfl) (eight_byte N 40 1099511627776 rfl) (eight_byte N 48 281474976710656 rfl) (eight_byte N 56 72057594037927936 rfl) w h
theorem big_word {E : World} {L : List Hp} (x : BitVec 32) (w : World) (h : Own E w L) :
    Calls Tryd.prog 55 #[V64 x, .int .i64 4] w fun e w' => e = .returned (.string ⟨(Sha.four x).toArray⟩) ∧ Own E w' L :=
  big4_any (tn x) (Sha.four x) rfl (tn_byte0 x) (tn_byte x 8 256 rfl) (tn_byte x 16 65536 rfl) (tn_byte x 24 16777216 rfl) w h
set_option maxRecDepth 100000 in
set_option maxHeartbeats 2000000 in
theorem filled_ref {E : World} {L : List Hp} (s : ByteArray) (w : World) (hs : s.size ≤ 140737488355000) (h : Own E w L) :
    Calls Tryd.prog 51 #[.string s] w fun e w' => e = .returned (.string ⟨(s.data.toList ++ Sha.fill s.size).toArray⟩) ∧ Own E w' L := by
  obtain ⟨cap, w1, hcv, h1⟩ := sl_to_bytes (P := Tryd.prog) (src := ST) (dst := BT) (e := U8) (by kernel_rfl) (by kernel_rfl) (by kernel_rfl) s (Nat.le_trans hs (by unfold maxLen; omega)) h
  obtain ⟨v2, w2, hap, h2, -⟩ := sl_append_new (P := Tryd.prog) (ty := BT) (t := BT) (by kernel_rfl) u8_info rfl (by omega) h1 #[.int .u8 128] 1 rfl (by intro u hu; rw [List.mem_singleton.1 hu]; rfl) (by unfold maxLen; omega) (by omega)
  obtain ⟨A2, c2, hv2⟩ := h2.rowSlice
  subst hv2
  have h3 : Own E w2 (Hp.row U8 1 (.slice A2 (s.size + 1) c2) (s.size + 1) ((s.data.toList ++ (128 : UInt8) :: List.replicate 0 0).map V8') :: L) := by
    have e : (s.data.toList ++ (128 : UInt8) :: List.replicate 0 0).map V8' = s.data.toList.map V8' ++ #[Value.int .u8 128].toList := by
      rw [List.map_append]; rfl
    rw [e]; exact h2
  have H3 := Lib.hid h3
  clear h h1 h2 h3
  go_enter Tryd.func51, Tryd.ntmps51
  go_wp2_with (first | (refine wpList_conv_run (o := ⟨some 5, _, _, _, _, _⟩) hcv rfl rfl rfl ?_; clear hcv) | (refine wpList_append_run (o := ⟨some 8, _, _, _, _, _⟩) hap rfl rfl rfl rfl ?_; clear hap))
  go_loopw [3] (fun v wr => ∃ (j m : Nat) (A : Option Addr) (c : Nat), m = s.size + 1 + j ∧ j ≤ 63 - (s.size + 8) % 64 ∧ v = .slice A m c ∧ Own E wr (Hp.row U8 1 (.slice A m c) m ((s.data.toList ++ (128 : UInt8) :: List.replicate j 0).map V8') :: L)) (fun v _ => match v with | .slice _ m _ => s.size + 70 - m | _ => 0)
  case atStart => exact ⟨0, s.size + 1, A2, c2, rfl, by omega, rfl, H3.out⟩
  case round =>
    obtain ⟨j, m, A, c, hm, hj, rfl, hw⟩ := hrel
    clear H3
    have hmb : m ≤ 140737488355200 := by omega
    by_cases hlt : j < 63 - (s.size + 8) % 64
    · have hne : ((m : Int) % 64 != 56) = true := by rw [bne_iff_ne]; omega
      obtain ⟨v2, w2, hap, h2, -⟩ := sl_append_new (P := Tryd.prog) (ty := BT) (t := BT) (by kernel_rfl) u8_info rfl (by omega) hw #[.int .u8 0] 1 rfl (by intro u hu; rw [List.mem_singleton.1 hu]; rfl) (by unfold maxLen; omega) (by omega)
      obtain ⟨A2, c2, hv2⟩ := h2.rowSlice
      subst hv2
      have h3 : Own E w2 (Hp.row U8 1 (.slice A2 (m + 1) c2) (m + 1) ((s.data.toList ++ (128 : UInt8) :: List.replicate (j + 1) 0).map V8') :: L) := by
        have e : (s.data.toList ++ (128 : UInt8) :: List.replicate (j + 1) 0).map V8' = (s.data.toList ++ (128 : UInt8) :: List.replicate j 0).map V8' ++ #[Value.int .u8 0].toList := by
          rw [List.replicate_succ']
          simp
        rw [e]; exact h2
      have H3 := Lib.hid h3
      have HM := Lib.hid hm
      have hmlt : m + 1 ≤ s.size + 64 := by omega
      clear h3 h2 hw hm
      go_wp2_with (refine wpList_append_run (o := ⟨some 15, _, _, _, _, _⟩) hap rfl rfl rfl rfl ?_; clear hap)
      go_roundw
      case rel => exact ⟨j + 1, m + 1, A2, c2, by rw [HM.out]; omega, by omega, rfl, H3.out⟩
      case measure =>
        show s.size + 70 - (m + 1) < s.size + 70 - m
        omega
    · have hz : j = 63 - (s.size + 8) % 64 := by omega
      have hne : ((m : Int) % 64 != 56) = false := by
        have : (m : Int) % 64 = 56 := by omega
        rw [this]; rfl
      obtain ⟨B, hB⟩ : ∃ B : ByteArray, B = ⟨(s.data.toList ++ (128 : UInt8) :: List.replicate j 0).toArray⟩ := ⟨_, rfl⟩
      have hrs : ∀ W, Own E W (Hp.row U8 1 (.slice A m c) m ((s.data.toList ++ (128 : UInt8) :: List.replicate j 0).map V8') :: L) → (convert BT ST (.slice A m c)).run Tryd.prog W = .ok (.string B) W := fun W hW => by
        rw [hB]; exact hW.rowString (P := Tryd.prog) (src := BT) (dst := ST) (e := U8) (by kernel_rfl) (by kernel_rfl) (by kernel_rfl)
      have hBs : B.size = m := by
        have e : B.size = (s.data.toList ++ (128 : UInt8) :: List.replicate j 0).length := by rw [hB]; rfl
        have e2 : s.data.toList.length = s.size := rfl
        rw [e]; simp [e2]; omega
      have hBb : B.size ≤ 140737488355200 := by omega
      obtain ⟨X, hX⟩ : ∃ X : ByteArray, X = ⟨(Sha.eight (8 * s.size)).toArray⟩ := ⟨_, rfl⟩
      have hXb : X.size ≤ 8 := by rw [hX]; exact Nat.le_refl _
      have hfin : (B ++ X).data.toList = s.data.toList ++ Sha.fill s.size := by
        rw [app_data, hB, hX]
        unfold Sha.fill
        rw [← hz]
        simp
      have HF := Lib.hid hfin
      have HR := Lib.hid hrs
      have HW := Lib.hid hw
      have HX := Lib.hid hX
      have hcat : ¬ 9223372036854775807 < B.size + X.size := by omega
      have wr1 : IntKind.i64.wrap (8 * (s.size : Int)) = 8 * (s.size : Int) := IntWalk.i64_in _ (by omega)
      clear hfin hrs hw hX hBs hB hz hm hj hlt
      go_wp2_with fail
      refine wp_region_text [1] (fun w' => (convert BT ST (.slice A m c)).run Tryd.prog w' = .ok (.string B) w') (by kernel_rfl) ?_ (fun hS => ?_)
      · exact HR.out _ HW.out.drew
      refine wpAnyG_pure (i := 0) (oi := ⟨some 16, _, _, _, _, _⟩) (v := ?_) rfl (by kernel_rfl) (by kernel_rfl) (by kernel_rfl) (by rfl) (fun _ _ _ h => h) (by rfl) ?_ ?_
      rotate_left
      · intro w
        go_simp
        first | done | with_reducible rfl
      try simp only [Act.put, List.setIfInBounds_toArray, List.set_cons_zero, List.set_cons_succ]
      refine wpAnyG_load (i := 1) (oi := ⟨some 17, _, _, _, _, _⟩) (v := (.string B)) rfl (by kernel_rfl) (by kernel_rfl) (by kernel_rfl) (by rfl) (fun _ _ _ h => h) (by rfl) ?_ (by assumption) ?_
      · intro w hS
        exact exec_conv_run hS rfl (by rfl)
      try simp only [Act.put, List.setIfInBounds_toArray, List.set_cons_zero, List.set_cons_succ]
      refine wpAnyG_pure (i := 2) (oi := ⟨some 18, _, _, _, _, _⟩) (v := ?_) rfl (by kernel_rfl) (by kernel_rfl) (by kernel_rfl) (by rfl) (fun _ _ _ h => h) (by rfl) ?_ ?_
      rotate_left
      · intro w
        go_simp
        first | done | with_reducible rfl
      try simp only [Act.put, List.setIfInBounds_toArray, List.set_cons_zero, List.set_cons_succ]
      refine wpAnyG_pure (i := 3) (oi := ⟨some 19, _, _, _, _, _⟩) (v := ?_) rfl (by kernel_rfl) (by kernel_rfl) (by kernel_rfl) (by rfl) (fun _ _ _ h => h) (by rfl) ?_ ?_
      rotate_left
      · intro w
        go_simp
        first | done | with_reducible rfl
      try simp only [Act.put, List.setIfInBounds_toArray, List.set_cons_zero, List.set_cons_succ]
      refine wpAnyG_pure (i := 4) (oi := ⟨some 20, _, _, _, _, _⟩) (v := ?_) rfl (by kernel_rfl) (by kernel_rfl) (by kernel_rfl) (by rfl) (fun _ _ _ h => h) (by rfl) ?_ ?_
      rotate_left
      · intro w
        go_simp
        first | done | with_reducible rfl
      try simp only [Act.put, List.setIfInBounds_toArray, List.set_cons_zero, List.set_cons_succ]
      refine wpAnyG_keep (i := 5) (oi := ⟨some 21, _, _, _, _, _⟩) (by kernel_rfl) rfl (fun K hK => ?_)
      rw [if_pos (by rfl)]
      go_simp
      refine (big_len (8 * s.size) _ (by omega) _ (by exact HW.out)).mono ?_
      rintro e w5 ⟨rfl, h5⟩
      rw [← HX.out]
      refine hK.out _ _ ?_ (fun hS => ?_)
      · exact HR.out _ h5
      clear hK K
      try simp only [Act.put, List.setIfInBounds_toArray, List.set_cons_zero, List.set_cons_succ]
      refine wpAnyG_pure (i := 6) (oi := ⟨some 22, _, _, _, _, _⟩) (v := ?_) rfl (by kernel_rfl) (by kernel_rfl) (by kernel_rfl) (by rfl) (fun _ _ _ h => h) (by rfl) ?_ ?_
      rotate_left
      · intro w
        go_simp
        first | done | with_reducible rfl
      try simp only [Act.put, List.setIfInBounds_toArray, List.set_cons_zero, List.set_cons_succ]
      refine wpAnyG_pure (i := 7) (oi := ⟨some 2, _, _, _, _, _⟩) (v := ?_) rfl (by kernel_rfl) (by kernel_rfl) (by kernel_rfl) (by rfl) (fun _ _ _ h => h) (by rfl) ?_ ?_
      rotate_left
      · intro w
        go_simp
        first | done | with_reducible rfl
      try simp only [Act.put, List.setIfInBounds_toArray, List.set_cons_zero, List.set_cons_succ]
      refine wpAnyG_done (by kernel_rfl) ?_ _
      refine NoPanic.normal ?_
      clear wr1
      go_wp2_with fail
      go_ret
      exact ⟨str_ext HF.out, h5.drop⟩
end Go.Proofs.YtilcilbmbhbakaaDoor
