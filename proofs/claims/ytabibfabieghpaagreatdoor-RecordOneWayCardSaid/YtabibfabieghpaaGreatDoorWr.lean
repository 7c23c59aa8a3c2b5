/- codec.Writer in every state: Num, Text, Raw, Done. -/
import Derived.Test.YtabibfabieghpaaGreatDoorWrong
namespace Go.Proofs.YtabibfabieghpaaGreatDoor
open Go.RowKit
/-- Num: what is laid down, what is wrong. -/
def wNum (l : List UInt8) (e size n : Int) : List UInt8 × Int :=
  if size < 1 ∨ 8 < size then (l, orE e 1)
  else if n < 0 ∨ 256 ^ size.toNat ≤ n.toNat then (l, orE e 20)
  else (l ++ byN size.toNat n.toNat, e)
def wText (l : List UInt8) (e most : Int) (s : ByteArray) : List UInt8 × Int :=
  if most < 0 ∨ 65535 < most then (l, orE e 1)
  else if most < s.size then (l, orE e 21)
  else (l ++ byN (ahead most.toNat) s.size ++ s.data.toList, e)
def wDone (l : List UInt8) (e : Int) : ByteArray × Int := if e ≠ 0 then (⟨#[]⟩, e) else (⟨l.toArray⟩, 0)
theorem pow_bits (k : Nat) : (2 : Int) ^ (8 * k) = ((256 ^ k : Nat) : Int) := by
  rw [show (256 : Nat) = 2 ^ 8 by rfl, ← Nat.pow_mul, Int.natCast_pow]
  rfl
section
variable {E : World} {L : List Hp}
set_option maxRecDepth 20000 in
set_option maxHeartbeats 2000000 in
theorem wnum_all (b : Nat) (l : List UInt8) (e size n : Int) (l' : List UInt8) (e' : Int) (w : World) (hr : wNum l e size n = (l', e')) (hn : n ≤ 9223372036854775807) (hl : l.length + 8 ≤ 140737488355328) (h : Own E w (Hp.wtr b l e :: L)) :
    Calls Tryz.prog 120 #[.pointer (some ⟨b, 0, none⟩), .int .i64 size, .int .i64 n] w fun ev w' => ev = .returned (.tuple #[]) ∧ Own E w' (Hp.wtr b l' e' :: L) := by
  have H := Lib.hid h
  unfold wNum at hr
  by_cases h1 : size < 1
  · rw [if_pos (.inl h1)] at hr
    cases hr
    clear h
    go_enter Tryz.func120, Tryz.ntmps120
    go_wp2_with fail
    refine (wrefuse_any b _ e 1 _ (by decide) H.out).mono ?_
    rintro e w1 ⟨rfl, h2⟩
    go_wp2_with fail
    go_end0
    exact ⟨rfl, h2⟩
  by_cases h8 : 8 < size
  · rw [if_pos (.inr h8)] at hr
    cases hr
    clear h
    go_enter Tryz.func120, Tryz.ntmps120
    go_wp2_with fail
    refine (wrefuse_any b _ e 1 _ (by decide) H.out).mono ?_
    rintro e w1 ⟨rfl, h2⟩
    go_wp2_with fail
    go_end0
    exact ⟨rfl, h2⟩
  rw [if_neg (by omega)] at hr
  by_cases hn0 : n < 0
  · rw [if_pos (.inl hn0)] at hr
    cases hr
    clear h
    go_enter Tryz.func120, Tryz.ntmps120
    go_wp2_with fail
    refine (wrefuse_any b _ e 20 _ (by decide) H.out).mono ?_
    rintro e w1 ⟨rfl, h2⟩
    go_wp2_with fail
    go_end0
    exact ⟨rfl, h2⟩
  obtain ⟨k, rfl⟩ : ∃ k : Nat, size = k := ⟨size.toNat, by omega⟩
  obtain ⟨m, rfl⟩ : ∃ m : Nat, n = m := ⟨n.toNat, by omega⟩
  rw [Int.toNat_natCast, Int.toNat_natCast] at hr
  by_cases hbig : 256 ^ k ≤ m
  · rw [if_pos (.inr hbig)] at hr
    cases hr
    have hk8 : k < 8 := by
      refine Nat.lt_of_not_le fun hc => ?_
      have e8 : k = 8 := by omega
      rw [e8] at hbig
      have : (256 : Nat) ^ 8 = 18446744073709551616 := by rfl
      omega
    have i1 : (k : Int) < 8 := by omega
    have hdi : (m : Int) / 2 ^ (8 * k) = ((m / 256 ^ k : Nat) : Int) := by rw [pow_bits, Int.natCast_ediv]
    obtain ⟨d, hd⟩ : ∃ d, d = m / 256 ^ k := ⟨_, rfl⟩
    have hd0 : 0 < d := by rw [hd]; exact Nat.div_pos hbig (Nat.pow_pos (by omega))
    rw [← hd] at hdi
    have hdi0 : (0 : Int) < d := by omega
    clear h hbig hd
    go_enter Tryz.func120, Tryz.ntmps120
    go_wp2_with fail
    refine (wrefuse_any b _ e 20 _ (by decide) H.out).mono ?_
    rintro e w1 ⟨rfl, h2⟩
    go_wp2_with fail
    go_end0
    exact ⟨rfl, h2⟩
  · rw [if_neg (by omega)] at hr
    cases hr
    obtain ⟨r, h2⟩ := h.ofWtr
    refine (wnum_any b (wrongV r e) l k m w (by omega) (by omega) (by omega) (by omega) hl h2).mono ?_
    rintro ev w1 ⟨rfl, h3⟩
    exact ⟨rfl, h3.toWtr⟩
set_option maxHeartbeats 1000000 in
theorem wtext_all (b : Nat) (l : List UInt8) (e most : Int) (s : ByteArray) (l' : List UInt8) (e' : Int) (w : World) (hr : wText l e most s = (l', e')) (hl : l.length + 70000 ≤ 140737488355328) (h : Own E w (Hp.wtr b l e :: L)) :
    Calls Tryz.prog 132 #[.pointer (some ⟨b, 0, none⟩), .int .i64 most, .string s] w fun ev w' => ev = .returned (.tuple #[]) ∧ Own E w' (Hp.wtr b l' e' :: L) := by
  have H := Lib.hid h
  unfold wText at hr
  by_cases h1 : most < 0
  · rw [if_pos (.inl h1)] at hr
    cases hr
    clear h
    go_enter Tryz.func132, Tryz.ntmps132
    go_wp2_with fail
    refine (wrefuse_any b _ e 1 _ (by decide) H.out).mono ?_
    rintro e w1 ⟨rfl, h2⟩
    go_wp2_with fail
    go_end0
    exact ⟨rfl, h2⟩
  by_cases h8 : 65535 < most
  · rw [if_pos (.inr h8)] at hr
    cases hr
    clear h
    go_enter Tryz.func132, Tryz.ntmps132
    go_wp2_with fail
    refine (wrefuse_any b _ e 1 _ (by decide) H.out).mono ?_
    rintro e w1 ⟨rfl, h2⟩
    go_wp2_with fail
    go_end0
    exact ⟨rfl, h2⟩
  rw [if_neg (by omega)] at hr
  by_cases hs : most < s.size
  · rw [if_pos hs] at hr
    cases hr
    clear h
    go_enter Tryz.func132, Tryz.ntmps132
    go_wp2_with fail
    refine (wrefuse_any b _ e 21 _ (by decide) H.out).mono ?_
    rintro e w1 ⟨rfl, h2⟩
    go_wp2_with fail
    go_end0
    exact ⟨rfl, h2⟩
  rw [if_neg hs] at hr
  cases hr
  obtain ⟨k, rfl⟩ : ∃ k : Nat, most = k := ⟨most.toNat, by omega⟩
  rw [Int.toNat_natCast]
  obtain ⟨r, h2⟩ := h.ofWtr
  refine (wtext_any b (wrongV r e) l k s w (by omega) (by omega) hl h2).mono ?_
  rintro ev w1 ⟨rfl, h3⟩
  exact ⟨rfl, h3.toWtr⟩
theorem wraw_all (b : Nat) (l : List UInt8) (e : Int) (s : ByteArray) (w : World) (hs : l.length + s.size ≤ 140737488355328) (h : Own E w (Hp.wtr b l e :: L)) :
    Calls Tryz.prog 113 #[.pointer (some ⟨b, 0, none⟩), .string s] w fun ev w' => ev = .returned (.tuple #[]) ∧ Own E w' (Hp.wtr b (l ++ s.data.toList) e :: L) := by
  obtain ⟨r, h2⟩ := h.ofWtr
  refine (raw_any b (wrongV r e) l s w hs h2).mono ?_
  rintro ev w1 ⟨rfl, h3⟩
  exact ⟨rfl, h3.toWtr⟩
theorem wdone_all (b : Nat) (l : List UInt8) (e : Int) (v : ByteArray) (f : Int) (w : World) (hr : wDone l e = (v, f)) (hG : Laid0 E L) (h : Own E w (Hp.wtr b l e :: L)) :
    Calls Tryz.prog 114 #[.pointer (some ⟨b, 0, none⟩)] w fun ev w' => ev = .returned (.tuple #[.string v, .int .i64 f]) ∧ Own E w' (Hp.wtr b l e :: L) := by
  unfold wDone at hr
  by_cases he : e ≠ 0
  · rw [if_pos he] at hr
    cases hr
    obtain ⟨r, h2⟩ := h.ofWtrN he
    obtain ⟨v, h3⟩ := h2.ofWriter
    have c1 := h3.cell 1
    have HE := Lib.hid he
    have H3 := Lib.hid h2.f1
    clear h h2 h3 he
    go_enter Tryz.func114, Tryz.ntmps114
    go_wp2_with fail
    refine (told_any r e _ hG.cons H3.out).mono ?_
    rintro ev w1 ⟨rfl, h4⟩
    go_wp2_with fail
    go_ret2
    exact ⟨rfl, h4.f1.toWtrN HE.out⟩
  · rw [if_neg he] at hr
    cases hr
    obtain rfl : e = 0 := Decidable.not_not.1 he
    refine (wdone_any b l w h.ofWtr0).mono ?_
    rintro ev w1 ⟨rfl, h4⟩
    exact ⟨rfl, h4.toWtr0⟩
end
end Go.Proofs.YtabibfabieghpaaGreatDoor
