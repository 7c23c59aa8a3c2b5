/- New of any numbers, the program's and the reference's. -/
import Derived.Test.YtnbpbonpcbemdaaLimI
namespace Go.Proofs.Ytnbpbonpcbemdaa
open Go.RowKit
def newB (rate burst : Nat) : Bool := Fl.prB rate && Fl.prB burst && !decide (Fl.Z burst = 0)
theorem newB_fin {rate burst : Nat} (h : newB rate burst = true) : Fl.Pr rate ∧ burst < 2139095040 ∧ burst ≠ 0 := by
  unfold newB at h
  rw [Bool.and_eq_true, Bool.and_eq_true] at h
  obtain ⟨⟨h1, h2⟩, h3⟩ := h
  rcases Fl.prB_Pr h2 with hb | rfl
  · refine ⟨Fl.prB_Pr h1, hb, ?_⟩
    rintro rfl
    exact absurd h3 (by decide)
  · exact absurd h3 (by decide)
abbrev RBKT : TypeId := 73
abbrev RLIMT : TypeId := 71
/-- The reference's limiter. -/
def Hp.rlim (b rate burst : Nat) (l : List Bkt) : Hp := Hp.ex fun v : Value => Hp.all [Hp.blk b RLIMT #[.float .f32 rate, .float .f32 burst, v], Hp.row RBKT 3 v l.length (l.flatMap enB)]
section
variable {E w : World} {L : List Hp} {b rate burst : Nat} {l : List Bkt}
theorem Own.ofRlim (h : Own E w (Hp.rlim b rate burst l :: L)) : ∃ v, Own E w (Hp.blk b RLIMT #[.float .f32 rate, .float .f32 burst, v] :: Hp.row RBKT 3 v l.length (l.flatMap enB) :: L) := by
  obtain ⟨v, h⟩ := Own.ex.1 h
  exact ⟨v, Own.star.1 h⟩
theorem Own.toRlim {v : Value} (h : Own E w (Hp.blk b RLIMT #[.float .f32 rate, .float .f32 burst, v] :: Hp.row RBKT 3 v l.length (l.flatMap enB) :: L)) : Own E w (Hp.rlim b rate burst l :: L) := Own.ex.2 ⟨v, Own.star.2 h⟩
theorem Own.rlimRate (h : Own E w (Hp.rlim b rate burst l :: L)) : w.cell? ⟨b, 0, none⟩ = some (.float .f32 rate) ∧ w.cell? ⟨b, 1, none⟩ = some (.float .f32 burst) := by
  obtain ⟨v, h⟩ := h.ofRlim
  exact ⟨h.cell 0, h.cell 1⟩
end
section
variable {E : World} {L : List Hp}
set_option maxHeartbeats 4000000 in
theorem newg_any (rate burst : Nat) (w : World) (hr : rate < 4294967296) (hb : burst < 4294967296) (h : Own E w L) :
    Calls Try.prog 8 #[.float .f32 rate, .float .f32 burst] w fun e w' => (newB rate burst = true ∧ ∃ b, e = .returned (.tuple #[.pointer (some ⟨b, 0, none⟩), .int .i64 0]) ∧ Own E w' (Hp.lim b rate burst [] :: L)) ∨ (newB rate burst = false ∧ e = .returned (.tuple #[.pointer none, .int .i64 240]) ∧ Own E w' L) := by
  have kp : ∀ x w, x < 4294967296 → Own E w L → Calls Try.prog 20 #[.float .f32 x] w fun e w' => e = .returned (.bool (Fl.prB x)) ∧ Own E w' L := fun x w hx hw => proper_any x w hx hw
  have hnb : newB rate burst = (Fl.prB rate && Fl.prB burst && !decide (Fl.Z burst = 0)) := rfl
  have hz : Fl.prB burst = true → (FloatKind.f32.format.order burst 0 == some .eq) = decide (Fl.Z burst = 0) := fun hp => Fl.eq_Z (Fl.prB_Pr hp) (.inl (by omega))
  have fin : ∀ w', Own E w' L → Own E (w'.alloc (.cells #[.float .f32 rate, .float .f32 burst, .slice none 0 0] LIMT)) (Hp.lim w'.heap.size rate burst [] :: L) := fun w' hw => Own.toLim (l := []) ((((hw.alloc (.cells #[.float .f32 rate, .float .f32 burst, .slice none 0 0] LIMT)).nilRow BKT 3)).f1)
  have KP := Lib.hid kp
  have FIN := Lib.hid fin
  have H := Lib.hid h
  rw [hnb]
  generalize newB rate burst = nb at *
  clear h kp fin hnb
  cases h1 : Fl.prB rate with
  | false =>
    have H1 := Lib.hid h1
    clear h1 hz
    go_enter Try.func8, Try.ntmps8
    go_wp2_with fail
    refine (KP.out _ _ hr H.out).mono ?_
    clear H
    rw [H1.out]
    rintro e w1 ⟨rfl, h⟩
    have H := Lib.hid h
    clear h
    go_wp2_with fail
    go_ret2
    exact .inr ⟨rfl, rfl, H.out⟩
  | true =>
    cases h2 : Fl.prB burst with
    | false =>
      have H1 := Lib.hid h1
      have H2 := Lib.hid h2
      clear h1 h2 hz
      go_enter Try.func8, Try.ntmps8
      go_wp2_with fail
      refine (KP.out _ _ hr H.out).mono ?_
      clear H
      rw [H1.out]
      rintro e w1 ⟨rfl, h⟩
      have H := Lib.hid h
      clear h
      go_wp2_with fail
      refine (KP.out _ _ hb H.out).mono ?_
      clear H
      rw [H2.out]
      rintro e w1 ⟨rfl, h⟩
      have H := Lib.hid h
      clear h
      go_wp2_with fail
      go_ret2
      exact .inr ⟨rfl, rfl, H.out⟩
    | true =>
      have hz := hz h2
      have H1 := Lib.hid h1
      have H2 := Lib.hid h2
      clear h1 h2
      by_cases h3 : Fl.Z burst = 0
      all_goals
        first | rw [decide_eq_true h3] at hz ⊢ | rw [decide_eq_false h3] at hz ⊢
        clear h3
        go_enter Try.func8, Try.ntmps8
        go_wp2_with fail
        refine (KP.out _ _ hr H.out).mono ?_
        clear H
        rw [H1.out]
        rintro e w1 ⟨rfl, h⟩
        have H := Lib.hid h
        clear h
        go_wp2_with fail
        refine (KP.out _ _ hb H.out).mono ?_
        clear H
        rw [H2.out]
        rintro e w1 ⟨rfl, h⟩
        have H := Lib.hid h
        clear h
        go_wp2_with fail
        go_ret2
        first | exact .inr ⟨rfl, rfl, H.out⟩ | exact .inl ⟨rfl, _, rfl, FIN.out _ H.out⟩
set_option maxHeartbeats 4000000 in
theorem xnew_any (rate burst : Nat) (w : World) (hr : rate < 4294967296) (hb : burst < 4294967296) (h : Own E w L) :
    Calls Try.prog 15 #[.float .f32 rate, .float .f32 burst] w fun e w' => (newB rate burst = true ∧ ∃ b, e = .returned (.tuple #[.pointer (some ⟨b, 0, none⟩), .int .i64 0]) ∧ Own E w' (Hp.rlim b rate burst [] :: L)) ∨ (newB rate burst = false ∧ e = .returned (.tuple #[.pointer none, .int .i64 240]) ∧ Own E w' L) := by
  have kp : ∀ x w, x < 4294967296 → Own E w L → Calls Try.prog 29 #[.float .f32 x] w fun e w' => e = .returned (.bool (Fl.prB x)) ∧ Own E w' L := fun x w hx hw => (finite_any x w hx).mono fun e w' ⟨he, hww⟩ => ⟨he, hww ▸ hw⟩
  have hnb : newB rate burst = (Fl.prB rate && Fl.prB burst && !decide (Fl.Z burst = 0)) := rfl
  have hz : Fl.prB burst = true → (FloatKind.f32.format.order burst 0 == some .eq) = decide (Fl.Z burst = 0) := fun hp => Fl.eq_Z (Fl.prB_Pr hp) (.inl (by omega))
  have fin : ∀ w', Own E w' L → Own E (w'.alloc (.cells #[.float .f32 rate, .float .f32 burst, .slice none 0 0] RLIMT)) (Hp.rlim w'.heap.size rate burst [] :: L) := fun w' hw => Own.toRlim (l := []) ((((hw.alloc (.cells #[.float .f32 rate, .float .f32 burst, .slice none 0 0] RLIMT)).nilRow RBKT 3)).f1)
  have KP := Lib.hid kp
  have FIN := Lib.hid fin
  have H := Lib.hid h
  rw [hnb]
  generalize newB rate burst = nb at *
  clear h kp fin hnb
  cases h1 : Fl.prB rate with
  | false =>
    have H1 := Lib.hid h1
    clear h1 hz
    go_enter Try.func15, Try.ntmps15
    go_wp2_with fail
    refine (KP.out _ _ hr H.out).mono ?_
    clear H
    rw [H1.out]
    rintro e w1 ⟨rfl, h⟩
    have H := Lib.hid h
    clear h
    go_wp2_with fail
    refine (KP.out _ _ hb H.out).mono ?_
    clear H
    rintro e w1 ⟨rfl, h⟩
    have H := Lib.hid h
    clear h
    go_wp2_with fail
    go_ret2
    exact .inr ⟨rfl, rfl, H.out⟩
  | true =>
    cases h2 : Fl.prB burst with
    | false =>
      have H1 := Lib.hid h1
      have H2 := Lib.hid h2
      clear h1 h2 hz
      go_enter Try.func15, Try.ntmps15
      go_wp2_with fail
      refine (KP.out _ _ hr H.out).mono ?_
      clear H
      rw [H1.out]
      rintro e w1 ⟨rfl, h⟩
      have H := Lib.hid h
      clear h
      go_wp2_with fail
      refine (KP.out _ _ hb H.out).mono ?_
      clear H
      rw [H2.out]
      rintro e w1 ⟨rfl, h⟩
      have H := Lib.hid h
      clear h
      go_wp2_with fail
      go_ret2
      exact .inr ⟨rfl, rfl, H.out⟩
    | true =>
      have hz := hz h2
      have H1 := Lib.hid h1
      have H2 := Lib.hid h2
      clear h1 h2
      by_cases h3 : Fl.Z burst = 0
      all_goals
        first | rw [decide_eq_true h3] at hz ⊢ | rw [decide_eq_false h3] at hz ⊢
        clear h3
        go_enter Try.func15, Try.ntmps15
        go_wp2_with fail
        refine (KP.out _ _ hr H.out).mono ?_
        clear H
        rw [H1.out]
        rintro e w1 ⟨rfl, h⟩
        have H := Lib.hid h
        clear h
        go_wp2_with fail
        refine (KP.out _ _ hb H.out).mono ?_
        clear H
        rw [H2.out]
        rintro e w1 ⟨rfl, h⟩
        have H := Lib.hid h
        clear h
        go_wp2_with fail
        go_ret2
        first | exact .inr ⟨rfl, rfl, H.out⟩ | exact .inl ⟨rfl, _, rfl, FIN.out _ H.out⟩
end
end Go.Proofs.Ytnbpbonpcbemdaa
