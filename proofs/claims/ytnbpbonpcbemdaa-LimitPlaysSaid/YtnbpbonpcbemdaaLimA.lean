/- limit.Take, Level, New. -/
import Derived.Test.YtnbpbonpcbemdaaLim9
namespace Go.Proofs.Ytnbpbonpcbemdaa
open Go.RowKit
theorem run_store_float {P : Program} {w : World} {a : Addr} {m : Mode} (k : FloatKind) (x : Nat) : (store a (.float k x) m).run P w = stored P w a (.float k x) m := run_store P w a _ m rfl
/-- What is kept is in order. -/
structure LimOk (burst : Nat) (l : List Bkt) : Prop where
  len : l.length ≤ 16
  lev : ∀ x ∈ l, x.level ≤ burst
  at_ : ∀ x ∈ l, 0 ≤ x.at_ ∧ x.at_ ≤ 1099511627776
theorem ofN_mem {burst : Nat} {l : List Bkt} {s : ByteArray} {now : Int} : ofN burst l s now ∈ l ∨ ofN burst l s now = ⟨s, burst, now⟩ := by
  cases h : findN l s with
  | some k =>
    obtain ⟨x, hx, -, -⟩ := findN_some h
    rw [ofN_some h hx]
    exact .inl (List.mem_of_getElem? hx)
  | none => exact .inr (ofN_none h)
theorem ofN_ok {burst : Nat} {l : List Bkt} {s : ByteArray} {now : Int} (h : LimOk burst l) (hn : 0 ≤ now ∧ now ≤ 1099511627776) : (ofN burst l s now).level ≤ burst ∧ 0 ≤ (ofN burst l s now).at_ ∧ (ofN burst l s now).at_ ≤ 1099511627776 := by
  rcases ofN_mem (burst := burst) (l := l) (s := s) (now := now) with h1 | h1
  · exact ⟨h.lev _ h1, h.at_ _ h1⟩
  · rw [h1]; exact ⟨Nat.le_refl _, hn⟩
/-- a list without a name -/
def dropN (l : List Bkt) (s : ByteArray) : List Bkt := match findN l s with | some k => l.eraseIdx k | none => l
theorem dropN_len (l : List Bkt) (s : ByteArray) : (dropN l s).length ≤ l.length := by
  unfold dropN
  split
  · exact List.length_eraseIdx_le ..
  · exact Nat.le_refl _
theorem dropN_mem {l : List Bkt} {s : ByteArray} {x : Bkt} (h : x ∈ dropN l s) : x ∈ l := by
  unfold dropN at h
  split at h
  · exact List.mem_of_mem_eraseIdx h
  · exact h
/-- the level that a name has -/
def hasN (rate burst : Nat) (l : List Bkt) (s : ByteArray) (now : Int) : Nat := levelN rate burst (ofN burst l s (nearN now)) (nearN now)
theorem levelN_le (rate burst : Nat) (x : Bkt) (now : Int) (h : x.level ≤ burst) : levelN rate burst x now ≤ burst := by
  unfold levelN
  split
  · exact h
  · exact Fl.fillN_le _ _ _ _
theorem hasN_le {rate burst : Nat} {l : List Bkt} {s : ByteArray} {now : Int} (h : LimOk burst l) : hasN rate burst l s now ≤ burst := levelN_le _ _ _ _ (ofN_ok h (nearN_in now)).1
/-- what is kept when a name was let in -/
def tookN (rate burst : Nat) (l : List Bkt) (s : ByteArray) (cost : Nat) (now : Int) : List Bkt :=
  (⟨s, Fl.D (hasN rate burst l s now) (Fl.Z cost), max (nearN now) (ofN burst l s (nearN now)).at_⟩ :: dropN l s).take 16
theorem tookN_ok {rate burst : Nat} {l : List Bkt} {s : ByteArray} {cost : Nat} {now : Int} (h : LimOk burst l) (hb : burst < 2139095040) : LimOk burst (tookN rate burst l s cost now) := by
  have h1 := hasN_le (rate := rate) (s := s) (now := now) h
  have h2 := ofN_ok (s := s) h (nearN_in now)
  have h3 := nearN_in now
  refine ⟨?_, ?_, ?_⟩
  · unfold tookN; rw [List.length_take]; omega
  · intro x hx
    rcases List.mem_cons.1 (List.mem_of_mem_take hx) with rfl | hx
    · exact Nat.le_trans (Fl.D_le _ _ (by omega)) h1
    · exact h.lev x (dropN_mem hx)
  · intro x hx
    rcases List.mem_cons.1 (List.mem_of_mem_take hx) with rfl | hx
    · show 0 ≤ max _ _ ∧ max _ _ ≤ _; omega
    · exact h.at_ x (dropN_mem hx)
theorem flat_take : ∀ (l : List Bkt) (k : Nat), (l.flatMap enB).take (k * 3) = (l.take k).flatMap enB
  | [], k => by simp
  | x :: l, 0 => by simp
  | x :: l, k + 1 => by
    rw [List.flatMap_cons, List.take_succ_cons, List.flatMap_cons, ← flat_take l k]
    have e1 : (k + 1) * 3 = (enB x).length + k * 3 := by show _ = 3 + _; omega
    rw [e1, List.take_length_add_append]
section
variable {E : World} {L : List Hp}
theorem Own.rowCut {e : TypeId} {size : Nat} {A : Option Addr} {n c m : Nat} {xs : List Value} {w : World} (h : Own E w (Hp.row e size (.slice A n c) n xs :: L)) (hm : m ≤ n) : Own E w (Hp.row e size (.slice A m c) m (xs.take (m * size)) :: L) := by
  obtain ⟨hl, hf⟩ := h.rowForm
  rcases hf with ⟨hv, hn0, hx0, _⟩ | ⟨g, cap, cur, hv, h3, h4, h5, h6, ho⟩
  · obtain rfl : m = n := by omega
    rw [List.take_of_length_le (by omega)]
    exact h
  · injection hv with hA hn' hc
    subst hA
    subst hc
    have h7 := ho.mtoRow size m c (by omega) h4 h5
    rw [← h6, List.take_take, Nat.min_eq_left (Nat.mul_le_mul_right _ hm)]
    exact h7
set_option maxHeartbeats 4000000 in
theorem level2_any (b rate burst : Nat) (l : List Bkt) (s : ByteArray) (now : Int) (w : World) (hr : Fl.Pr rate) (hb : burst < 2139095040) (hok : LimOk burst l) (h : Own E w (Hp.lim b rate burst l :: L)) :
    Calls Try.prog 11 #[.pointer (some ⟨b, 0, none⟩), .string s, .int .i64 now] w fun e w' => e = .returned (.float .f32 (hasN rate burst l s now)) ∧ Own E w' (Hp.lim b rate burst l :: L) := by
  have hn := nearN_in now
  have ho := ofN_ok (s := s) hok hn
  have k1 := nearest_any now w
  have k2 := fun w M hw => of_any (E := E) (L := M) b rate burst l s (nearN now) w (by have := hok.len; omega) hw
  have k3 := fun w M hw => level_any (E := E) (L := M) b rate burst l (ofN burst l s (nearN now)) (nearN now) w hr (by omega) (by omega) ho.2 hn hw
  have hh : hasN rate burst l s now = levelN rate burst (ofN burst l s (nearN now)) (nearN now) := rfl
  rw [hh]
  generalize ofN burst l s (nearN now) = x at *
  generalize nearN now = t at *
  have K1 := Lib.hid k1
  have K2 := Lib.hid k2
  have K3 := Lib.hid k3
  have H := Lib.hid h
  clear k1 k2 k3 h hh ho hok
  go_enter Try.func11, Try.ntmps11
  go_wp2_with fail
  refine K1.out.mono ?_
  rintro e w1 ⟨rfl, rfl⟩
  go_wp2_with fail
  refine (K2.out _ _ H.out).mono ?_
  rintro e w1 ⟨rfl, h⟩
  clear H
  have H := Lib.hid h
  clear h
  go_wp2_with fail
  refine (K3.out _ _ H.out).mono ?_
  rintro e w2 ⟨rfl, h⟩
  go_wp2_with fail
  go_ret
  exact ⟨rfl, h⟩
set_option maxHeartbeats 4000000 in
theorem new_any (rate burst : Nat) (w : World) (hr : Fl.Pr rate) (hb : burst < 2139095040) (h0 : burst ≠ 0) (h : Own E w L) :
    Calls Try.prog 8 #[.float .f32 rate, .float .f32 burst] w fun e w' => ∃ b, e = .returned (.tuple #[.pointer (some ⟨b, 0, none⟩), .int .i64 0]) ∧ Own E w' (Hp.lim b rate burst [] :: L) := by
  have k1 := fun w => proper_ok rate w hr
  have k2 := fun w => proper_ok burst w (.inl hb)
  have he : (FloatKind.f32.format.order burst 0 == some .eq) = false := by
    rw [show (0 : Nat) = 0 from rfl, Fl.eq_Z (.inl hb) (.inl (by omega)), Fl.Z_same hb]
    exact decide_eq_false h0
  have h1 := h.alloc (.cells #[.float .f32 rate, .float .f32 burst, .slice none 0 0] LIMT)
  have h2 := Own.toLim (l := []) (((h1.nilRow BKT 3)).f1)
  have H := Lib.hid h2
  have K1 := Lib.hid k1
  have K2 := Lib.hid k2
  clear k1 k2 h h1 h2
  go_enter Try.func8, Try.ntmps8
  go_wp2_with fail
  refine (K1.out _).mono ?_
  rintro e w1 ⟨rfl, rfl⟩
  go_wp2_with fail
  refine (K2.out _).mono ?_
  rintro e w1 ⟨rfl, rfl⟩
  go_wp2_with fail
  go_ret2
  exact ⟨_, rfl, H.out⟩
end
end Go.Proofs.Ytnbpbonpcbemdaa
