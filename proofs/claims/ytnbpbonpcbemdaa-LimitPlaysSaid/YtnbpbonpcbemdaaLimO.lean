/- Take of what is no name or no cost; the reference's Names. -/
import Derived.Test.YtnbpbonpcbemdaaLimM
import Derived.Test.YtnbpbonpcbemdaaLimG
namespace Go.Proofs.Ytnbpbonpcbemdaa
open Go.RowKit
section
variable {E : World} {L : List Hp}
set_option maxHeartbeats 4000000 in
theorem take_bad (b rate burst cost : Nat) (l : List Bkt) (s : ByteArray) (now : Int) (w : World) (hc : cost < 4294967296) (hs : s.size ≤ 1000000000000000000) (hbad : nameB s = false ∨ Fl.prB cost = false) (h : Own E w (Hp.lim b rate burst l :: L)) :
    Calls Try.prog 12 #[.pointer (some ⟨b, 0, none⟩), .string s, .float .f32 cost, .int .i64 now] w fun e w' => e = .returned (.tuple #[.int .i64 0, .int .i64 1]) ∧ Own E w' (Hp.lim b rate burst l :: L) := by
  have k0 := fun w M hw => isname_any (E := E) (L := M) s w hs (by unfold maxLen; omega) hw
  have kp := fun w M hw => proper_any (E := E) (L := M) cost w hc hw
  cases hn : nameB s with
  | false =>
    rw [hn] at k0
    have K0 := Lib.hid k0
    have H := Lib.hid h
    clear k0 kp h hbad hn
    go_enter Try.func12, Try.ntmps12
    go_wp2_with fail
    refine (K0.out _ _ H.out).mono ?_
    clear H
    rintro e w1 ⟨rfl, h⟩
    have H := Lib.hid h
    clear h
    go_wp2_with fail
    go_ret2
    exact ⟨rfl, H.out⟩
  | true =>
    have hp : Fl.prB cost = false := hbad.resolve_left (by rw [hn]; simp)
    rw [hn] at k0
    rw [hp] at kp
    have K0 := Lib.hid k0
    have KP := Lib.hid kp
    have H := Lib.hid h
    clear k0 kp h hbad hn hp
    go_enter Try.func12, Try.ntmps12
    go_wp2_with fail
    refine (K0.out _ _ H.out).mono ?_
    clear H
    rintro e w1 ⟨rfl, h⟩
    have H := Lib.hid h
    clear h
    go_wp2_with fail
    refine (KP.out _ _ H.out).mono ?_
    clear H
    rintro e w1 ⟨rfl, h⟩
    have H := Lib.hid h
    clear h
    go_wp2_with fail
    go_ret2
    exact ⟨rfl, H.out⟩
set_option maxHeartbeats 4000000 in
theorem xtake_bad (b cost : Nat) (s : ByteArray) (now : Int) (w : World) (hc : cost < 4294967296) (hs : s.size ≤ 1000000000000000000) (hbad : nameB s = false ∨ Fl.prB cost = false) (h : Own E w L) :
    Calls Try.prog 16 #[.pointer (some ⟨b, 0, none⟩), .string s, .float .f32 cost, .int .i64 now] w fun e w' => e = .returned (.tuple #[.int .i64 0, .int .i64 1]) ∧ Own E w' L := by
  have k0 := fun w => xname_any s w hs
  have kp := fun w => finite_any cost w hc
  have H := Lib.hid h
  cases hn : nameB s with
  | false =>
    rw [hn] at k0
    generalize Fl.prB cost = pc at *
    clear hbad hn h
    go_enter Try.func16, Try.ntmps16
    go_wp2_with fail
    refine (k0 _).mono ?_
    rintro e w1 ⟨rfl, rfl⟩
    go_wp2_with fail
    refine (kp _).mono ?_
    rintro e w1 ⟨rfl, rfl⟩
    go_wp2_with fail
    go_ret2
    exact ⟨rfl, H.out⟩
  | true =>
    have hp : Fl.prB cost = false := hbad.resolve_left (by rw [hn]; simp)
    rw [hn] at k0
    rw [hp] at kp
    clear hbad hn hp h
    go_enter Try.func16, Try.ntmps16
    go_wp2_with fail
    refine (k0 _).mono ?_
    rintro e w1 ⟨rfl, rfl⟩
    go_wp2_with fail
    refine (kp _).mono ?_
    rintro e w1 ⟨rfl, rfl⟩
    go_wp2_with fail
    go_ret2
    exact ⟨rfl, H.out⟩
/-- the names of a list -/
abbrev nmsV (l : List Bkt) : List Value := l.map fun x => .string x.name
set_option maxHeartbeats 8000000 in
theorem xnames_any (b rate burst : Nat) (l : List Bkt) (w : World) (hl : l.length ≤ 1000) (h : Own E w (Hp.rlim b rate burst l :: L)) :
    Calls Try.prog 36 #[.pointer (some ⟨b, 0, none⟩)] w fun e w' => ∃ v, e = .returned v ∧ Own E w' (Hp.row ST 1 v l.length (nmsV l) :: Hp.rlim b rate burst l :: L) := by
  obtain ⟨v, h⟩ := h.ofRlim
  obtain ⟨A, c, rfl⟩ := h.f1.rowSlice
  have h0 := h.nilRow ST 1
  have H := Lib.hid h0
  clear h h0
  go_enter Try.func36, Try.ntmps36
  go_wp2_with fail
  go_loopw [3, 4] (fun out i wr => ∃ k : Nat, k ≤ l.length ∧ i = .int .i64 k ∧ Own E wr (Hp.row ST 1 out k ((l.take k).map fun x => .string x.name) :: Hp.blk b RLIMT #[.float .f32 rate, .float .f32 burst, .slice A l.length c] :: Hp.row RBKT 3 (.slice A l.length c) l.length (l.flatMap enB) :: L)) (fun _ i _ => l.length - (intOf i).toNat)
  case atStart => exact ⟨0, by omega, rfl, H.out⟩
  case round =>
    obtain ⟨k, hk, rfl, hw⟩ := hrel
    clear H
    obtain ⟨A2, c3, rfl⟩ := hw.rowSlice
    have c2 : wr.cell? ⟨b, 2, none⟩ = some (.slice A l.length c) := hw.f1.cell 2
    by_cases hlt : k < l.length
    · have hlti : (k : Int) < l.length := by omega
      obtain ⟨x, hx⟩ : ∃ x, l[k]? = some x := ⟨_, List.getElem?_eq_getElem hlt⟩
      obtain ⟨g, rfl, d0, d1, d2⟩ := hw.f2.rcell k x hx
      obtain ⟨v', w5, hap, h5, -⟩ := sl_append_new (P := Try.prog) (t := LST) (ty := LST) (by kernel_rfl) st_info rfl (by omega) hw #[.string x.name] 1 rfl (by simp [Value.oneCell']) (by unfold maxLen; omega) (by omega)
      have et : ((l.take k).map fun x => Value.string x.name) ++ (#[Value.string x.name] : Array Value).toList = (l.take (k + 1)).map fun x => Value.string x.name := by
        rw [List.take_add_one, hx, List.map_append]; rfl
      rw [et] at h5
      have H6 := Lib.hid h5
      clear hw h5 et hx d1 d2
      go_wp2_with (with_reducible refine at_slot (k := some 24) ?_; refine wpList_append_run (o := ⟨some 24, _, _, _, _, _⟩) hap rfl rfl rfl rfl ?_; clear hap)
      go_roundw
      case rel => exact ⟨k + 1, by omega, by go_num, H6.out⟩
      case measure => simp [intOf]; omega
    · obtain rfl : k = l.length := by omega
      have hlti : ¬ (l.length : Int) < l.length := by omega
      rw [List.take_of_length_le (Nat.le_refl _)] at hw
      have H := Lib.hid ((Own.toRlim hw.f2.f2).f1)
      clear hw hlt hk
      go_wp2_with fail
      go_ret
      first | exact ⟨_, rfl, H.out⟩ | exact ⟨rfl, H.out⟩ | exact H.out
end
end Go.Proofs.Ytnbpbonpcbemdaa
