/- latchkeylaw24.names: Names of both, twice. -/
import Derived.Test.YtnbpbonpcbemdaaLimP
namespace Go.Proofs.Ytnbpbonpcbemdaa
open Go.RowKit
section
variable {E : World} {L : List Hp}
set_option maxRecDepth 100000 in
set_option maxHeartbeats 8000000 in
theorem bothnames_any (b b2 rate burst : Nat) (l : List Bkt) (w : World) (hl : l.length ≤ 16) (h : Own E w (Hp.lim b rate burst l :: Hp.rlim b2 rate burst l :: L)) :
    Calls Try.prog 18 #[.pointer (some ⟨b, 0, none⟩), .pointer (some ⟨b2, 0, none⟩)] w fun e w' => e = .returned (.bool true) ∧ Own E w' (Hp.lim b rate burst l :: Hp.rlim b2 rate burst l :: L) := by
  have H := Lib.hid h
  clear h
  go_enter Try.func18, Try.ntmps18
  go_wp2_with fail
  refine (names2_any b rate burst l _ (by omega) H.out).mono ?_
  clear H
  rintro e w1 ⟨va, rfl, h⟩
  obtain ⟨A1, c1, rfl⟩ := h.rowSlice
  have H := Lib.hid h
  clear h
  go_wp2_with fail
  refine (names2_any b rate burst l _ (by omega) H.out.f1).mono ?_
  clear H
  rintro e w2 ⟨vb, rfl, h⟩
  obtain ⟨A2, c2, rfl⟩ := h.rowSlice
  have H := Lib.hid h
  clear h
  go_wp2_with fail
  refine (xnames_any b2 rate burst l _ (by omega) H.out.f3).mono ?_
  clear H
  rintro e w3 ⟨vc, rfl, h⟩
  obtain ⟨A3, c3, rfl⟩ := h.rowSlice
  have h : Own E w3 (Hp.row ST 1 (.slice A1 l.length c1) l.length (nmsV l) :: Hp.row ST 1 (.slice A3 l.length c3) l.length (nmsV l) :: Hp.row ST 1 (.slice A2 l.length c2) l.length (nmsV l) :: Hp.lim b rate burst l :: Hp.rlim b2 rate burst l :: L) := h.ac (by simp only [Hp.all] <;> ac_rfl)
  have H := Lib.hid h
  clear h
  go_wp2_with fail
  refine (texts_own A1 A3 l.length c1 c3 l _ rfl (by omega) H.out).mono ?_
  clear H
  rintro e w4 ⟨rfl, h⟩
  have h : Own E w4 (Hp.row ST 1 (.slice A2 l.length c2) l.length (nmsV l) :: Hp.row ST 1 (.slice A3 l.length c3) l.length (nmsV l) :: Hp.row ST 1 (.slice A1 l.length c1) l.length (nmsV l) :: Hp.lim b rate burst l :: Hp.rlim b2 rate burst l :: L) := h.ac (by simp only [Hp.all] <;> ac_rfl)
  have H := Lib.hid h
  clear h
  go_wp2_with fail
  refine (texts_own A2 A3 l.length c2 c3 l _ rfl (by omega) H.out).mono ?_
  clear H
  rintro e w5 ⟨rfl, h⟩
  have h : Own E w5 (Hp.row ST 1 (.slice A1 l.length c1) l.length (nmsV l) :: Hp.row ST 1 (.slice A2 l.length c2) l.length (nmsV l) :: Hp.row ST 1 (.slice A3 l.length c3) l.length (nmsV l) :: Hp.lim b rate burst l :: Hp.rlim b2 rate burst l :: L) := h.ac (by simp only [Hp.all] <;> ac_rfl)
  have H := Lib.hid h
  clear h
  go_wp2_with fail
  go_loopw [10] (fun i wr => ∃ (k : Nat) (ys : List Value), k ≤ l.length ∧ i = .int .i64 k ∧ Own E wr (Hp.row ST 1 (.slice A1 l.length c1) l.length ys :: Hp.row ST 1 (.slice A2 l.length c2) l.length (nmsV l) :: Hp.row ST 1 (.slice A3 l.length c3) l.length (nmsV l) :: Hp.lim b rate burst l :: Hp.rlim b2 rate burst l :: L)) (fun i _ => l.length - (intOf i).toNat)
  case atStart => exact ⟨0, _, by omega, rfl, H.out⟩
  case round =>
    obtain ⟨k, ys, hk, rfl, hw⟩ := hrel
    clear H
    by_cases hlt : k < l.length
    · have hlti : (k : Int) < l.length := by omega
      obtain ⟨g, rfl, hcell, hfz, h⟩ := hw.rowSet k hlt (.string ⟨#[109, 97, 114, 107]⟩)
      generalize List.getD _ _ _ = z at hcell
      have H := Lib.hid h
      clear hw h
      go_wp2_with fail
      go_roundw
      case rel => exact ⟨k + 1, _, by omega, by go_num, H.out⟩
      case measure => simp [intOf]; omega
    · obtain rfl : k = l.length := by omega
      have hlti : ¬ (l.length : Int) < l.length := by omega
      have H := Lib.hid hw
      clear hw hlt hk
      go_wp2_with fail
      go_loopw [5, 11] (fun v i wr => ∃ (k n : Nat) (ys : List Value), k ≤ 9 ∧ n ≤ 16 + k ∧ i = .int .i64 k ∧ Own E wr (Hp.row ST 1 v n ys :: Hp.row ST 1 (.slice A2 l.length c2) l.length (nmsV l) :: Hp.row ST 1 (.slice A3 l.length c3) l.length (nmsV l) :: Hp.lim b rate burst l :: Hp.rlim b2 rate burst l :: L)) (fun _ i _ => 9 - (intOf i).toNat)
      case atStart => exact ⟨0, l.length, _, by omega, by omega, rfl, H.out⟩
      case round =>
        obtain ⟨k, n, ys, hk, hn, rfl, hw⟩ := hrel
        clear H
        obtain ⟨A5, c5, rfl⟩ := hw.rowSlice
        by_cases hlt : k < 9
        · have hlti2 : (k : Int) < 9 := by omega
          obtain ⟨v', w6, hap, h5, -⟩ := sl_append_new (P := Try.prog) (t := LST) (ty := LST) (by kernel_rfl) st_info rfl (by omega) hw #[.string ⟨#[109, 97, 114, 107]⟩] 1 rfl (by simp [Value.oneCell']) (by unfold maxLen; omega) (by omega)
          have H := Lib.hid h5
          clear hw h5
          go_wp2_with (with_reducible refine at_slot (k := some 47) ?_; refine wpList_append_run (o := ⟨some 47, _, _, _, _, _⟩) hap rfl rfl rfl rfl ?_; clear hap)
          go_roundw
          case rel => exact ⟨k + 1, n + 1, _, by omega, by omega, by go_num, H.out⟩
          case measure => simp [intOf]; omega
        · have hlti2 : ¬ (k : Int) < 9 := by omega
          have H := Lib.hid hw.drop
          clear hw
          go_wp2_with fail
          refine (texts_own A2 A3 l.length c2 c3 l _ rfl (by omega) H.out).mono ?_
          clear H
          rintro e w7 ⟨rfl, h⟩
          have H := Lib.hid h
          clear h
          go_wp2_with fail
          refine (names2_any b rate burst l _ (by omega) H.out.f2).mono ?_
          clear H
          rintro e w8 ⟨vd, rfl, h⟩
          obtain ⟨A6, c6, rfl⟩ := h.rowSlice
          have h : Own E w8 (Hp.row ST 1 (.slice A6 l.length c6) l.length (nmsV l) :: Hp.row ST 1 (.slice A3 l.length c3) l.length (nmsV l) :: Hp.row ST 1 (.slice A2 l.length c2) l.length (nmsV l) :: Hp.lim b rate burst l :: Hp.rlim b2 rate burst l :: L) := h.ac (by simp only [Hp.all] <;> ac_rfl)
          have H := Lib.hid h
          clear h
          go_wp2_with fail
          refine (texts_own A6 A3 l.length c6 c3 l _ rfl (by omega) H.out).mono ?_
          clear H
          rintro e w9 ⟨rfl, h⟩
          have H := Lib.hid h.drop.drop.drop
          clear h
          go_wp2_with fail
          go_ret
          exact ⟨rfl, H.out⟩
end
end Go.Proofs.Ytnbpbonpcbemdaa
