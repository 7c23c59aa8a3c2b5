/- latchkeylaw24.Real.float. -/
import Derived.Test.YtnbpbonpcbemdaaLimR
namespace Go.Proofs.Ytnbpbonpcbemdaa
open Go.RowKit
structure Rl where
  kind : Int
  n : Int
  d : Int
  e : Int
abbrev enR (x : Rl) : List Value := [.int .i64 x.kind, .int .i64 x.n, .int .i64 x.d, .int .i64 x.e]
abbrev RLT : TypeId := 39
def rawF (x : Rl) : Nat := Fl.iterF x.e (pickN x.e 41) ((Ieee.single.div (floatOfInt .f32 x.n) (Fl.R (1 + pickN x.d 4096) 0)).getD 0)
def realF (x : Rl) : Nat := if x.kind = 2 then 2139095040 else if x.kind = 3 then 4286578688 else if x.kind = 4 then Op.negFloat .f32 (rawF x) else if x.kind = 5 then 2139095039 else if x.kind = 6 then 2147483648 else rawF x
section
variable {P : Program} {w : World}
theorem cut_lt (x y tt : Nat) : (Question.cut (.nanBits .f32 x y) tt) < 4294967296 := by
  show ((tt % 2) * 2147483648 + 2139095040 + 1 + tt / 2 % 8388607) < 4294967296
  have hz : tt / 2 % 8388607 < 8388607 := Nat.mod_lt _ (by omega)
  generalize tt / 2 % 8388607 = z at *
  rcases (by omega : tt % 2 = 0 ∨ tt % 2 = 1) with h | h <;> rw [h] <;> omega
theorem cut_pr (x y tt : Nat) : Fl.prB (Question.cut (.nanBits .f32 x y) tt) = false := by
  show Fl.prB ((tt % 2) * 2147483648 + 2139095040 + 1 + tt / 2 % 8388607) = false
  have hz : tt / 2 % 8388607 < 8388607 := Nat.mod_lt _ (by omega)
  unfold Fl.prB
  generalize tt / 2 % 8388607 = z at *
  rcases (by omega : tt % 2 = 0 ∨ tt % 2 = 1) with h | h <;> rw [h, decide_eq_false (by omega), decide_eq_false (by omega)] <;> rfl
theorem run_neg_float (x : Nat) : (Op.unary .neg (.float .f32 x)).run P w = .ok (.float .f32 (Op.negFloat .f32 x)) w := rfl
theorem run_quo_nan (t : TypeId) : ∃ r, (binOp .quo t (.float .f32 0) (.float .f32 0)).run P w = .ok (.float .f32 r) w.drew ∧ r < 4294967296 ∧ Fl.prB r = false := by
  have e : FloatKind.f32.format.div 0 0 = none := by decide
  refine ⟨_, by simp [binOp, Op.floatArith, e]; rfl, ?_, ?_⟩
  · exact cut_lt _ _ _
  · exact cut_pr _ _ _
end
section
variable {E : World} {L : List Hp}
set_option maxHeartbeats 8000000 in
theorem real_any (x : Rl) (w : World) (b1 : -9223372036854775808 ≤ x.kind ∧ x.kind ≤ 9223372036854775807) (b3 : -9223372036854775808 ≤ x.d ∧ x.d ≤ 9223372036854775807) (b4 : -9223372036854775808 ≤ x.e ∧ x.e ≤ 9223372036854775807) (h : Own E w L) :
    Calls Try.prog 14 #[.agg #[.int .i64 x.kind, .int .i64 x.n, .int .i64 x.d, .int .i64 x.e]] w fun e w' => ∃ r, e = .returned (.float .f32 r) ∧ ((x.kind = 1 ∧ Fl.prB r = false ∧ r < 4294967296) ∨ (x.kind ≠ 1 ∧ r = realF x)) ∧ Own E w' L := by
  obtain ⟨kd, n, d, ee⟩ := x
  dsimp only at *
  have h1 : Own E _ (Hp.blk w.heap.size RLT #[.int .i64 kd, .int .i64 n, .int .i64 d, .int .i64 ee] :: _) := h.alloc _
  obtain ⟨g, hg⟩ : ∃ g, g = w.heap.size := ⟨_, rfl⟩
  rw [← hg] at h1
  have hraw : rawF ⟨kd, n, d, ee⟩ = Fl.iterF ee (pickN ee 41) ((Ieee.single.div (floatOfInt .f32 n) (Fl.R (1 + pickN d 4096) 0)).getD 0) := rfl
  have hp4 := pickN_lt d 4096 (by omega)
  obtain ⟨f0, hdiv, hf0⟩ := Fl.div_int (Fl.ofInt_nn n) (show 1 ≤ 1 + pickN d 4096 by omega) (by omega)
  rw [hdiv] at hraw
  have hraw : rawF ⟨kd, n, d, ee⟩ = Fl.iterF ee (pickN ee 41) f0 := hraw
  have hq : floatBits .quo .f32 (floatOfInt .f32 n) (floatOfInt .f32 (1 + (pickN d 4096 : Int))) = some f0 := by
    rw [show (1 + (pickN d 4096 : Int)) = ((1 + pickN d 4096 : Nat) : Int) by omega, Fl.ofInt]; exact hdiv
  have k1 := fun w => pick_any d 4096 w b3 (by omega) (by omega)
  have k2 := fun w => pick_any ee 41 w b4 (by omega) (by omega)
  have hp5 := pickN_lt ee 41 (by omega)
  generalize pickN d 4096 = pd at *
  generalize pickN ee 41 = pe at *
  have p1 := fun t (w : World) => run_float_arith (P := Try.prog) w .quo t .f32 _ _ _ hq
  have j1 : IntKind.i64.wrap (1 + (pd : Int)) = 1 + (pd : Int) := IntWalk.i64_in _ (by omega)
  have HRAW := Lib.hid hraw
  have K2 := Lib.hid k2
  have HF0 := Lib.hid hf0
  have hcell : ∀ w', (∃ L', Own E w' (Hp.blk g RLT #[.int .i64 kd, .int .i64 n, .int .i64 d, .int .i64 ee] :: L')) → w'.cell? ⟨g, 1, none⟩ = some (.int .i64 n) ∧ w'.cell? ⟨g, 2, none⟩ = some (.int .i64 d) := fun w' hw => by
    obtain ⟨_, hw⟩ := hw
    exact ⟨hw.cell 1, hw.cell 2⟩
  have HC := Lib.hid hcell
  have h := h1.drew
  clear h1 hcell hraw hdiv hq k2 hf0
  go_enter Try.func14, Try.ntmps14
  go_wp2_with fail
  rw [← hg]
  clear hg
  refine wp_region_text [1, 4] (fun w' => w'.cell? ⟨g, 1, none⟩ = some (.int .i64 n) ∧ w'.cell? ⟨g, 2, none⟩ = some (.int .i64 d)) (by kernel_rfl) ?_ (fun hS => ?_)
  · exact HC.out _ ⟨_, h⟩
  refine wpAnyG_pure (i := 0) (oi := ⟨some 6, _, _, _, _, _⟩) (v := ?_) rfl (by kernel_rfl) (by kernel_rfl) (by kernel_rfl) (by rfl) (fun _ _ _ h => h) (by rfl) ?_ ?_
  rotate_left
  · intro w
    go_simp
    first | done | with_reducible rfl
  try simp only [Act.put, List.setIfInBounds_toArray, List.set_cons_zero, List.set_cons_succ]
  refine wpAnyG_load (i := 1) (oi := ⟨some 7, _, _, _, _, _⟩) (v := ?_) rfl (by kernel_rfl) (by kernel_rfl) (by kernel_rfl) (by rfl) (fun _ _ _ h => h) (by rfl) ?_ (by assumption) ?_
  rotate_left
  · intro w hS
    try dsimp only at hS
    go_simp
    first | done | with_reducible rfl
  try simp only [Act.put, List.setIfInBounds_toArray, List.set_cons_zero, List.set_cons_succ]
  refine wpAnyG_pure (i := 2) (oi := ⟨some 8, _, _, _, _, _⟩) (v := ?_) rfl (by kernel_rfl) (by kernel_rfl) (by kernel_rfl) (by rfl) (fun _ _ _ h => h) (by rfl) ?_ ?_
  rotate_left
  · intro w
    go_simp
    first | done | with_reducible rfl
  try simp only [Act.put, List.setIfInBounds_toArray, List.set_cons_zero, List.set_cons_succ]
  refine wpAnyG_pure (i := 3) (oi := ⟨some 9, _, _, _, _, _⟩) (v := ?_) rfl (by kernel_rfl) (by kernel_rfl) (by kernel_rfl) (by rfl) (fun _ _ _ h => h) (by rfl) ?_ ?_
  rotate_left
  · intro w
    go_simp
    first | done | with_reducible rfl
  try simp only [Act.put, List.setIfInBounds_toArray, List.set_cons_zero, List.set_cons_succ]
  refine wpAnyG_load (i := 4) (oi := ⟨some 10, _, _, _, _, _⟩) (v := ?_) rfl (by kernel_rfl) (by kernel_rfl) (by kernel_rfl) (by rfl) (fun _ _ _ h => h) (by rfl) ?_ (by assumption) ?_
  rotate_left
  · intro w hS
    try dsimp only at hS
    go_simp
    first | done | with_reducible rfl
  try simp only [Act.put, List.setIfInBounds_toArray, List.set_cons_zero, List.set_cons_succ]
  refine wpAnyG_keep (i := 5) (oi := ⟨some 11, _, _, _, _, _⟩) (by kernel_rfl) rfl (fun K hK => ?_)
  rw [if_pos (by rfl)]
  go_simp
  refine (k1 _).mono ?_
  rintro e w5 ⟨rfl, rfl⟩
  refine hK.out _ _ ?_ (fun hS => ?_)
  · exact HC.out _ ⟨_, h⟩
  clear hK K
  try simp only [Act.put, List.setIfInBounds_toArray, List.set_cons_zero, List.set_cons_succ]
  refine wpAnyG_pure (i := 6) (oi := ⟨some 12, _, _, _, _, _⟩) (v := ?_) rfl (by kernel_rfl) (by kernel_rfl) (by kernel_rfl) (by rfl) (fun _ _ _ h => h) (by rfl) ?_ ?_
  rotate_left
  · intro w
    go_simp
    first | done | with_reducible rfl
  try simp only [Act.put, List.setIfInBounds_toArray, List.set_cons_zero, List.set_cons_succ]
  refine wpAnyG_pure (i := 7) (oi := ⟨some 13, _, _, _, _, _⟩) (v := ?_) rfl (by kernel_rfl) (by kernel_rfl) (by kernel_rfl) (by rfl) (fun _ _ _ h => h) (by rfl) ?_ ?_
  rotate_left
  · intro w
    go_simp
    first | done | with_reducible rfl
  try simp only [Act.put, List.setIfInBounds_toArray, List.set_cons_zero, List.set_cons_succ]
  refine wpAnyG_pure (i := 8) (oi := ⟨some 14, _, _, _, _, _⟩) (v := ?_) rfl (by kernel_rfl) (by kernel_rfl) (by kernel_rfl) (by rfl) (fun _ _ _ h => h) (by rfl) ?_ ?_
  rotate_left
  · intro w
    go_simp
    first | done | with_reducible rfl
  try simp only [Act.put, List.setIfInBounds_toArray, List.set_cons_zero, List.set_cons_succ]
  refine wpAnyG_pure (i := 9) (oi := ⟨some 4, _, _, _, _, _⟩) (v := ?_) rfl (by kernel_rfl) (by kernel_rfl) (by kernel_rfl) (by rfl) (fun _ _ _ h => h) (by rfl) ?_ ?_
  rotate_left
  · intro w
    go_simp
    first | done | with_reducible rfl
  try simp only [Act.put, List.setIfInBounds_toArray, List.set_cons_zero, List.set_cons_succ]
  refine wpAnyG_done (by kernel_rfl) ?_ _
  refine NoPanic.normal ?_
  have H := Lib.hid h
  clear h p1 j1 k1
  go_wp2_with fail
  clear hraw
  go_loopw [4, 5] (fun f i wr => ∃ k fv : Nat, k ≤ pe ∧ i = .int .i64 k ∧ f = .float .f32 fv ∧ fv = Fl.iterF ee k f0 ∧ Own E wr (Hp.blk g RLT #[.int .i64 kd, .int .i64 n, .int .i64 d, .int .i64 ee] :: L)) (fun _ i _ => pe - (intOf i).toNat)
  case atStart => exact ⟨0, f0, by omega, rfl, rfl, rfl, H.out⟩
  case round =>
    obtain ⟨k, fv, hk, rfl, rfl, hfv, hw⟩ := hrel
    clear H
    have c0 : wr.cell? ⟨g, 0, none⟩ = some (.int .i64 kd) := hw.cell 0
    have c3 : wr.cell? ⟨g, 3, none⟩ = some (.int .i64 ee) := hw.cell 3
    have HFV := Lib.hid hfv
    have hnn : Fl.nn fv := by rw [hfv]; exact Fl.iterF_nn ee HF0.out k
    have HNN := Lib.hid hnn
    have H := Lib.hid hw
    clear hfv hw hnn
    by_cases hlt : k < pe
    · have hlti : (k : Int) < pe := by omega
      obtain ⟨f2, hf2⟩ : ∃ f2, f2 = Fl.stepF ee fv := ⟨_, rfl⟩
      have HF2 := Lib.hid (show f2 = Fl.iterF ee (k + 1) f0 by rw [hf2, HFV.out]; rfl)
      by_cases he : ee < 0
      · obtain ⟨r, hr, -⟩ := Fl.div_two HNN.out
        have e1 : Fl.stepF ee fv = r := by unfold Fl.stepF; rw [if_pos he, hr]; rfl
        rw [e1] at hf2
        subst hf2
        have p1 := fun t (w : World) => run_float_arith (P := Try.prog) w .quo t .f32 fv 1073741824 _ hr
        clear hr e1
        go_wp2_with fail
        refine (K2.out _).mono ?_
        rintro e w3 ⟨rfl, rfl⟩
        go_wp2_with fail
        go_roundw
        case rel => exact ⟨k + 1, _, by omega, by go_num, rfl, HF2.out, H.out⟩
        case measure => simp [intOf]; omega
      · obtain ⟨r, hr, -⟩ := Fl.mul_two HNN.out
        have e1 : Fl.stepF ee fv = r := by unfold Fl.stepF; rw [if_neg he, hr]; rfl
        rw [e1] at hf2
        subst hf2
        have p1 := fun t (w : World) => run_float_arith (P := Try.prog) w .mul t .f32 fv 1073741824 _ hr
        clear hr e1
        go_wp2_with fail
        refine (K2.out _).mono ?_
        rintro e w3 ⟨rfl, rfl⟩
        go_wp2_with fail
        go_roundw
        case rel => exact ⟨k + 1, _, by omega, by go_num, rfl, HF2.out, H.out⟩
        case measure => simp [intOf]; omega
    · obtain rfl : k = pe := by omega
      have hlti : ¬ (k : Int) < k := by omega
      have HFR := Lib.hid (show rawF ⟨kd, n, d, ee⟩ = fv by rw [HRAW.out, HFV.out])
      have H2 := Lib.hid H.out.drop
      clear H hlt hk
      rcases (by omega : kd = 1 ∨ kd = 2 ∨ kd = 3 ∨ kd = 4 ∨ kd = 5 ∨ kd = 6 ∨ (kd ≠ 1 ∧ kd ≠ 2 ∧ kd ≠ 3 ∧ kd ≠ 4 ∧ kd ≠ 5 ∧ kd ≠ 6)) with rfl | rfl | rfl | rfl | rfl | rfl | ⟨n1, n2, n3, n4, n5, n6⟩
      · obtain ⟨r, hrun, hr1, hr2⟩ := run_quo_nan (P := Try.prog) (w := wr) 24
        have HR := Lib.hid (And.intro hr1 hr2)
        clear hr1 hr2
        go_wp2_with fail
        refine (K2.out _).mono ?_
        rintro e w3 ⟨rfl, rfl⟩
        go_wp2_with fail
        go_ret
        first | exact ⟨_, rfl, .inl ⟨rfl, HR.out.2, HR.out.1⟩, H2.out.drew⟩ | exact ⟨_, rfl, ⟨HR.out.2, HR.out.1⟩, H2.out.drew⟩
      · have p1 := fun t (w : World) => run_float_arith (P := Try.prog) w .quo t .f32 1065353216 0 2139095040 (by decide)
        go_wp2_with fail
        refine (K2.out _).mono ?_
        rintro e w3 ⟨rfl, rfl⟩
        go_wp2_with fail
        go_ret
        exact ⟨_, rfl, .inr ⟨by decide, rfl⟩, H2.out⟩
      · have p1 := fun t (w : World) => run_float_arith (P := Try.prog) w .quo t .f32 3212836864 0 4286578688 (by decide)
        go_wp2_with fail
        refine (K2.out _).mono ?_
        rintro e w3 ⟨rfl, rfl⟩
        go_wp2_with fail
        go_ret
        exact ⟨_, rfl, .inr ⟨by decide, rfl⟩, H2.out⟩
      · have pn := fun (w : World) => run_neg_float (P := Try.prog) (w := w) fv
        go_wp2_with fail
        refine (K2.out _).mono ?_
        rintro e w3 ⟨rfl, rfl⟩
        go_wp2_with fail
        go_ret
        exact ⟨_, rfl, .inr ⟨by decide, by show _ = Op.negFloat .f32 (rawF _); rw [HFR.out]⟩, H2.out⟩
      · go_wp2_with fail
        refine (K2.out _).mono ?_
        rintro e w3 ⟨rfl, rfl⟩
        go_wp2_with fail
        go_ret
        exact ⟨_, rfl, .inr ⟨by decide, rfl⟩, H2.out⟩
      · have pn := fun (w : World) => run_neg_float (P := Try.prog) (w := w) 0
        go_wp2_with fail
        refine (K2.out _).mono ?_
        rintro e w3 ⟨rfl, rfl⟩
        go_wp2_with fail
        go_ret
        exact ⟨_, rfl, .inr ⟨by decide, rfl⟩, H2.out⟩
      · go_wp2_with fail
        refine (K2.out _).mono ?_
        rintro e w3 ⟨rfl, rfl⟩
        go_wp2_with fail
        go_ret
        exact ⟨_, rfl, .inr ⟨n1, by show _ = realF ⟨kd, n, d, ee⟩; unfold realF; dsimp only; rw [if_neg n2, if_neg n3, if_neg n4, if_neg n5, if_neg n6, HFR.out]⟩, H2.out⟩
end
end Go.Proofs.Ytnbpbonpcbemdaa
