/- SHA-256 of whole texts, in plain Lean: what a hasher holds, how it takes a part, how a text is filled up. -/
import Derived.Test.YtilcilbmbhbakaaDoorSha
namespace Go.Proofs.YtilcilbmbhbakaaDoor
open Go.RowKit
namespace Sha
/-- The state behind the first n blocks of a text. -/
def after (t : List UInt8) : Nat → S8
  | 0 => H0
  | n + 1 => compress (after t n) ((t.drop (64 * n)).take 64)
def st (t : List UInt8) : S8 := after t (t.length / 64)
theorem after_app (t u : List UInt8) : ∀ n, 64 * n ≤ t.length → after (t ++ u) n = after t n
  | 0, _ => rfl
  | n + 1, h => by
    unfold after
    rw [after_app t u n (by omega)]
    congr 1
    rw [List.drop_append_of_le_length (by omega), List.take_append_of_le_length (by simp; omega)]
/-- What a hasher holds of the block that is not whole. -/
def Rest (t r : List UInt8) : Prop := r.length = 64 ∧ r.take (t.length % 64) = t.drop (64 * (t.length / 64))
/-- A part of k bytes is taken, which fits into the block. -/
theorem rest_put {t r p : List UInt8} (h : Rest t r) (hp : t.length % 64 + p.length ≤ 64) :
    (r.take (t.length % 64) ++ (p ++ r.drop (t.length % 64 + p.length))).length = 64 := by
  obtain ⟨h1, h2⟩ := h
  simp [h1]; omega
theorem step_part {t r p : List UInt8} (h : Rest t r) (hp : t.length % 64 + p.length < 64) :
    st (t ++ p) = st t ∧ Rest (t ++ p) (r.take (t.length % 64) ++ (p ++ r.drop (t.length % 64 + p.length))) := by
  have hl := rest_put (p := p) h (by omega)
  have hd : (t ++ p).length / 64 = t.length / 64 := by simp; omega
  have hm : (t ++ p).length % 64 = t.length % 64 + p.length := by simp; omega
  refine ⟨?_, hl, ?_⟩
  · unfold st; rw [hd, after_app _ _ _ (by omega)]
  · rw [hm, hd, List.drop_append_of_le_length (by omega), ← h.2, ← List.append_assoc]
    have e : (r.take (t.length % 64) ++ p).length = t.length % 64 + p.length := by
      have := h.1
      simp; omega
    rw [List.take_append_of_le_length (by omega), List.take_of_length_le (by omega)]
theorem step_full {t r p : List UInt8} (h : Rest t r) (hp : t.length % 64 + p.length = 64) :
    st (t ++ p) = compress (st t) (r.take (t.length % 64) ++ (p ++ r.drop (t.length % 64 + p.length))) ∧ Rest (t ++ p) (r.take (t.length % 64) ++ (p ++ r.drop (t.length % 64 + p.length))) := by
  have hl := rest_put (p := p) h (by omega)
  have hd : (t ++ p).length / 64 = t.length / 64 + 1 := by simp; omega
  have hm : (t ++ p).length % 64 = 0 := by simp; omega
  have e0 : r.drop (t.length % 64 + p.length) = [] := List.drop_eq_nil_of_le (by rw [h.1]; omega)
  refine ⟨?_, hl, ?_⟩
  · unfold st
    rw [hd]
    show compress (after (t ++ p) (t.length / 64)) _ = _
    rw [after_app _ _ _ (by omega), e0, List.append_nil, h.2, List.drop_append_of_le_length (by omega)]
    rw [List.take_of_length_le (by simp; omega)]
  · rw [hm, hd, List.take_zero]
    exact (List.drop_eq_nil_of_le (by simp; omega)).symm
/-- The eight bytes of a word of 64 bits. -/
def eight (n : Nat) : List UInt8 := [56, 48, 40, 32, 24, 16, 8, 0].map fun s => UInt8.ofNat (n / 2 ^ s)
/-- What stands behind a text of n bytes. -/
def fill (n : Nat) : List UInt8 := 128 :: List.replicate (63 - (n + 8) % 64) 0 ++ eight (8 * n)
def four (w : W) : List UInt8 := [UInt8.ofBitVec ((w >>> 24).setWidth 8), UInt8.ofBitVec ((w >>> 16).setWidth 8), UInt8.ofBitVec ((w >>> 8).setWidth 8), UInt8.ofBitVec (w.setWidth 8)]
def out (s : S8) : List UInt8 := s.list.flatMap four
/-- SHA-256. -/
def sum (t : List UInt8) : List UInt8 := out (st (t ++ fill t.length))
theorem out_length (s : S8) : (out s).length = 32 := rfl
theorem sum_length (t : List UInt8) : (sum t).length = 32 := out_length _
/-- A key as 64 bytes, each of them crossed with one. -/
def padded (k : List UInt8) (x : UInt8) : List UInt8 := (k ++ List.replicate (64 - k.length) 0).map (· ^^^ x)
def key (k : List UInt8) : List UInt8 := if 64 < k.length then sum k else k
def mac (k t : List UInt8) : List UInt8 := sum (padded (key k) 92 ++ sum (padded (key k) 54 ++ t))
theorem mac_length (k t : List UInt8) : (mac k t).length = 32 := sum_length _
end Sha
/- CRC-32. -/
namespace Crc
def sh (r : BitVec 32) : BitVec 32 := if r &&& 1#32 = 1#32 then (r >>> 1) ^^^ 0xedb88320#32 else r >>> 1
def shs : Nat → BitVec 32 → BitVec 32
  | 0, r => r
  | n + 1, r => sh (shs n r)
def step (r : BitVec 32) (c : UInt8) : BitVec 32 := shs 8 (r ^^^ c.toBitVec.setWidth 32)
def run (r : BitVec 32) (l : List UInt8) : BitVec 32 := l.foldl step r
def crc (l : List UInt8) : BitVec 32 := ~~~ run (BitVec.allOnes 32) l
end Crc
end Go.Proofs.YtilcilbmbhbakaaDoor
