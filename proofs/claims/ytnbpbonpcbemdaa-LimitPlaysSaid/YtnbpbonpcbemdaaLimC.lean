/- latchkeylaw24.awake. -/
import Derived.Test.YtnbpbonpcbemdaaLimB
namespace Go.Proofs.Ytnbpbonpcbemdaa
open Go.RowKit
abbrev tA : ByteArray := ⟨#[97]⟩
abbrev tB : ByteArray := ⟨#[98]⟩
abbrev la1 : List Bkt := [⟨⟨#[97]⟩, 1065353216, 100⟩]
abbrev la2 : List Bkt := [⟨⟨#[97]⟩, 0, 100⟩]
abbrev la3 : List Bkt := [⟨⟨#[97]⟩, 0, 102⟩]
theorem aw1 : hasN 1056964608 1073741824 [] ⟨#[97]⟩ 100 = 1073741824 := by kernel_rfl
theorem aw1t : tookN 1056964608 1073741824 [] ⟨#[97]⟩ 1065353216 100 = la1 := by kernel_rfl
theorem aw2 : hasN 1056964608 1073741824 la1 ⟨#[97]⟩ 100 = 1065353216 := by kernel_rfl
theorem aw2t : tookN 1056964608 1073741824 la1 ⟨#[97]⟩ 1065353216 100 = la2 := by kernel_rfl
theorem aw3 : hasN 1056964608 1073741824 la2 ⟨#[97]⟩ 100 = 0 := by kernel_rfl
theorem aw4 : hasN 1056964608 1073741824 la2 ⟨#[97]⟩ 101 = 1056964608 := by kernel_rfl
theorem aw5 : hasN 1056964608 1073741824 la2 ⟨#[97]⟩ 102 = 1065353216 := by kernel_rfl
theorem aw5t : tookN 1056964608 1073741824 la2 ⟨#[97]⟩ 1065353216 102 = la3 := by kernel_rfl
theorem aw6 : hasN 1056964608 1073741824 la3 ⟨#[97]⟩ 103 = 1056964608 := by kernel_rfl
theorem aw7 : hasN 1056964608 1073741824 la3 ⟨#[98]⟩ 0 = 1073741824 := by kernel_rfl
theorem aw3w : IsWait (fun d => enoughB 1056964608 1073741824 (ofN 1073741824 la2 ⟨#[97]⟩ (nearN 100)).level 1065353216 ((nearN 100 - (ofN 1073741824 la2 ⟨#[97]⟩ (nearN 100)).at_).toNat + d)) 2 := by
  refine .inr ⟨by kernel_rfl, by omega, by omega, by kernel_rfl, fun w h1 h2 => ?_⟩
  obtain rfl : w = 1 := by omega
  kernel_rfl
theorem aw4w : IsWait (fun d => enoughB 1056964608 1073741824 (ofN 1073741824 la2 ⟨#[97]⟩ (nearN 101)).level 1065353216 ((nearN 101 - (ofN 1073741824 la2 ⟨#[97]⟩ (nearN 101)).at_).toNat + d)) 1 :=
  .inr ⟨by kernel_rfl, by omega, by omega, by kernel_rfl, fun w h1 h2 => by omega⟩
theorem awz : Fl.Z 1065353216 = 1065353216 := by kernel_rfl
theorem la_ok (x : Bkt) (h1 : x.level ≤ 1073741824) (h2 : 0 ≤ x.at_ ∧ x.at_ ≤ 1099511627776) : LimOk 1073741824 [x] :=
  ⟨by show 1 ≤ 16; omega, fun y hy => by rw [List.mem_singleton] at hy; subst hy; exact h1, fun y hy => by rw [List.mem_singleton] at hy; subst hy; exact h2⟩
section
variable {E : World} {L : List Hp}
set_option maxHeartbeats 4000000 in
theorem newz_any (w : World) : Calls Try.prog 8 #[.float .f32 0, .float .f32 0] w fun e w' => e = .returned (.tuple #[.pointer none, .int .i64 240]) ∧ w = w' := by
  have k1 := fun w => proper_ok 0 w (.inl (by omega))
  have he : (FloatKind.f32.format.order 0 0 == some .eq) = true := by decide
  go_enter Try.func8, Try.ntmps8
  go_wp2_with fail
  refine (k1 _).mono ?_
  rintro e w1 ⟨rfl, rfl⟩
  go_wp2_with fail
  refine (k1 _).mono ?_
  rintro e w1 ⟨rfl, rfl⟩
  go_wp2_with fail
  go_ret2
  exact ⟨rfl, rfl⟩
/-- Take, where the answer is known: let in. -/
theorem take_in (b rate burst cost : Nat) (l l' : List Bkt) (s : ByteArray) (now : Int) (lv : Nat) (w : World) (hr : Fl.Pr rate) (hb : burst < 2139095040) (hc : Fl.Pr cost) (hs : s.size ≤ 1000000000000000000) (hnm : nameB s = true) (hok : LimOk burst l) (hlv : hasN rate burst l s now = lv) (hle : Fl.Z cost ≤ lv) (ht : tookN rate burst l s cost now = l') (h : Own E w (Hp.lim b rate burst l :: L)) :
    Calls Try.prog 12 #[.pointer (some ⟨b, 0, none⟩), .string s, .float .f32 cost, .int .i64 now] w fun e w' => e = .returned (.tuple #[.int .i64 0, .int .i64 0]) ∧ Own E w' (Hp.lim b rate burst l' :: L) := by
  refine (take_any b rate burst cost l s now w hr hb hc hs hnm hok h).mono ?_
  rintro e w' (⟨h1, -⟩ | ⟨-, rfl, h⟩)
  · rw [hlv] at h1; omega
  · rw [ht] at h; exact ⟨rfl, h⟩
/-- Take, where the answer is known: so many seconds to wait. -/
theorem take_out (b rate burst cost : Nat) (l : List Bkt) (s : ByteArray) (now : Int) (lv W : Nat) (w : World) (hr : Fl.Pr rate) (hb : burst < 2139095040) (hc : Fl.Pr cost) (hs : s.size ≤ 1000000000000000000) (hnm : nameB s = true) (hok : LimOk burst l) (hlv : hasN rate burst l s now = lv) (hle : lv < Fl.Z cost)
    (hW : IsWait (fun d => enoughB rate burst (ofN burst l s (nearN now)).level cost ((nearN now - (ofN burst l s (nearN now)).at_).toNat + d)) W) (h : Own E w (Hp.lim b rate burst l :: L)) :
    Calls Try.prog 12 #[.pointer (some ⟨b, 0, none⟩), .string s, .float .f32 cost, .int .i64 now] w fun e w' => e = .returned (.tuple #[.int .i64 W, .int .i64 241]) ∧ Own E w' (Hp.lim b rate burst l :: L) := by
  refine (take_any b rate burst cost l s now w hr hb hc hs hnm hok h).mono ?_
  rintro e w' (⟨-, ⟨U, rfl, hU⟩, h⟩ | ⟨h1, -⟩)
  · rw [hU.uniq hW]; exact ⟨rfl, h⟩
  · rw [hlv] at h1; omega
set_option maxHeartbeats 8000000 in
theorem awake_any (w : World) (h : Own E w L) : Calls Try.prog 6 #[] w fun e w' => e = .returned (.bool true) ∧ Own E w' L := by
  have hr : Fl.Pr 1056964608 := .inl (by omega)
  have hc : Fl.Pr 1065353216 := .inl (by omega)
  have hb : (1073741824 : Nat) < 2139095040 := by omega
  have hs : (⟨#[97]⟩ : ByteArray).size ≤ 1000000000000000000 := by decide
  have hs2 : (⟨#[98]⟩ : ByteArray).size ≤ 1000000000000000000 := by decide
  have hn : nameB ⟨#[97]⟩ = true := by decide
  have o1 : LimOk 1073741824 la1 := la_ok _ (by decide) (by decide)
  have o2 : LimOk 1073741824 la2 := la_ok _ (by decide) (by decide)
  have o3 : LimOk 1073741824 la3 := la_ok _ (by decide) (by decide)
  have o0 : LimOk 1073741824 [] := ⟨by decide, fun _ h => (nomatch h), fun _ h => (nomatch h)⟩
  have z := awz
  have t1 := fun b w M hw => take_in (E := E) (L := M) b _ _ _ _ _ _ 100 _ w hr hb hc hs hn o0 aw1 (by rw [z]; omega) aw1t hw
  have t2 := fun b w M hw => take_in (E := E) (L := M) b _ _ _ _ _ _ 100 _ w hr hb hc hs hn o1 aw2 (by rw [z]; omega) aw2t hw
  have t3 := fun b w M hw => take_out (E := E) (L := M) b _ _ _ _ _ 100 _ 2 w hr hb hc hs hn o2 aw3 (by rw [z]; omega) aw3w hw
  have t4 := fun b w M hw => take_out (E := E) (L := M) b _ _ _ _ _ 101 _ 1 w hr hb hc hs hn o2 aw4 (by rw [z]; omega) aw4w hw
  have t5 := fun b w M hw => take_in (E := E) (L := M) b _ _ _ _ _ _ 102 _ w hr hb hc hs hn o2 aw5 (by rw [z]; omega) aw5t hw
  have v1 := fun b w M hw => level2_any (E := E) (L := M) b 1056964608 1073741824 la3 ⟨#[97]⟩ 103 w hr hb o3 hw
  have v2 := fun b w M hw => level2_any (E := E) (L := M) b 1056964608 1073741824 la3 ⟨#[98]⟩ 0 w hr hb o3 hw
  rw [aw6] at v1
  rw [aw7] at v2
  have q1 : (FloatKind.f32.format.order 1056964608 1056964608 == some .eq) = true := by decide
  have q2 : (FloatKind.f32.format.order 1073741824 1073741824 == some .eq) = true := by decide
  have T1 := Lib.hid t1
  have T2 := Lib.hid t2
  have T3 := Lib.hid t3
  have T4 := Lib.hid t4
  have T5 := Lib.hid t5
  have V1 := Lib.hid v1
  have V2 := Lib.hid v2
  have H := Lib.hid h
  clear t1 t2 t3 t4 t5 v1 v2 o0 o1 o2 o3 hs hs2 hn z h hc
  go_enter Try.func6, Try.ntmps6
  go_wp2_with fail
  refine (new_any 1056964608 1073741824 _ hr hb (by omega) H.out).mono ?_
  rintro e w1 ⟨b, rfl, h⟩
  clear H
  have H := Lib.hid h
  clear h
  go_wp2_with fail
  refine (newz_any _).mono ?_
  rintro e w2 ⟨rfl, rfl⟩
  go_wp2_with fail
  refine (T1.out b _ _ H.out).mono ?_
  clear H
  rintro e w3 ⟨rfl, h⟩
  have H := Lib.hid h
  clear h
  go_wp2_with fail
  refine (T2.out b _ _ H.out).mono ?_
  clear H
  rintro e w3 ⟨rfl, h⟩
  have H := Lib.hid h
  clear h
  go_wp2_with fail
  refine (T3.out b _ _ H.out).mono ?_
  clear H
  rintro e w3 ⟨rfl, h⟩
  have H := Lib.hid h
  clear h
  go_wp2_with fail
  refine (T4.out b _ _ H.out).mono ?_
  clear H
  rintro e w3 ⟨rfl, h⟩
  have H := Lib.hid h
  clear h
  go_wp2_with fail
  refine (T5.out b _ _ H.out).mono ?_
  clear H
  rintro e w3 ⟨rfl, h⟩
  have H := Lib.hid h
  clear h
  go_wp2_with fail
  refine (V1.out b _ _ H.out).mono ?_
  clear H
  rintro e w4 ⟨rfl, h⟩
  have H := Lib.hid h
  clear h
  go_wp2_with fail
  refine (V2.out b _ _ H.out).mono ?_
  clear H
  rintro e w5 ⟨rfl, h⟩
  have H := Lib.hid h
  clear h
  go_wp2_with fail
  go_ret
  exact ⟨rfl, H.out.drop⟩
end
end Go.Proofs.Ytnbpbonpcbemdaa
