/- TokenBack in plain terms: what was minted is read; what is cut or longer is no token; what is read is minted as it was. -/
import Derived.Test.YtilcilbmbhbakaaDoorTok7
namespace Go.Proofs.YtilcilbmbhbakaaDoor
open Go.RowKit
theorem begins_list (s p : ByteArray) : begins s p ↔ p.size ≤ s.size ∧ s.data.toList.take p.size = p.data.toList := by
  unfold begins
  refine and_congr_right fun _ => ?_
  rw [← front_data]
  constructor
  · intro h
    exact congrArg (fun x : ByteArray => x.data.toList) h
  · intro h
    exact ByteArray.ext (Array.toList_inj.1 h)
theorem kind_two (k : Int) (hk : k = 1 ∨ k = 2) : (pfx k).size = 4 ∧ (pfx (3 - k)).size = 4 ∧ pfx k ≠ pfx (3 - k) := by
  rcases hk with rfl | rfl
  · exact ⟨rfl, rfl, by decide⟩
  · exact ⟨rfl, rfl, by decide⟩
/-- A token's text. -/
def tokenT (k : Int) (n : Nat) (z : ByteArray) : ByteArray := pfx k ++ b64 ⟨(laidT k n z.data.toList).toArray⟩
theorem tokenT_data (k : Int) (n : Nat) (z : ByteArray) : (tokenT k n z).data.toList = (pfx k).data.toList ++ (b64 ⟨(laidT k n z.data.toList).toArray⟩).data.toList := app_data _ _
theorem tokenT_size (k : Int) (n : Nat) (z : ByteArray) (hk : k = 1 ∨ k = 2) (hz : z.size = 24) : (tokenT k n z).size = 52 := by
  have hl : (⟨(laidT k n z.data.toList).toArray⟩ : ByteArray).size = 36 := by
    rw [mk_size, laidT_len]
    show 12 + z.size = 36
    omega
  unfold tokenT
  rw [ByteArray.size_append, b64_size, hl, (kind_two k hk).1]
theorem mintV_ok (k : Int) (n : Nat) (z : ByteArray) (hk : k = 1 ∨ k = 2) (h1 : 1 ≤ n) (h2 : n ≤ 4611686018427387904) (hz : z.size = 24) : mintV k n z = (tokenT k n z, 0) := by
  unfold mintV
  rw [if_neg (by omega), Int.toNat_natCast]
  rfl
/-- A text that begins as a kind's token does not begin as the other's. -/
theorem not_other (k : Int) (s : ByteArray) (hk : k = 1 ∨ k = 2) (h : s.data.toList.take 4 = (pfx k).data.toList.take s.size) : ¬ begins s (pfx (3 - k)) := by
  obtain ⟨e1, e2, e3⟩ := kind_two k hk
  rw [begins_list, e2]
  rintro ⟨hs, hb⟩
  rw [h, List.take_of_length_le (by show (pfx k).size ≤ _; omega)] at hb
  exact e3 (ByteArray.ext (Array.toList_inj.1 hb))
theorem parse_form (k : Int) (s : ByteArray) (hk : k = 1 ∨ k = 2) (h : s.data.toList.take 4 = (pfx k).data.toList.take s.size) (hs : s.size ≠ 52) : parseV k s = (0, ⟨#[]⟩, 171) := by
  unfold parseV readT
  rw [if_neg (by omega), if_neg (not_other k s hk h), if_pos (.inl hs)]
theorem parse_back (k : Int) (n : Nat) (z : ByteArray) (hk : k = 1 ∨ k = 2) (h1 : 1 ≤ n) (h2 : n ≤ 4611686018427387904) (hz : z.size = 24) : parseV k (tokenT k n z) = ((n : Int), z, 0) := by
  obtain ⟨e1, e2, e3⟩ := kind_two k hk
  have hs := tokenT_size k n z hk hz
  have hd := tokenT_data k n z
  have hpl : (pfx k).data.toList.length = 4 := e1
  have ht : (tokenT k n z).data.toList.take 4 = (pfx k).data.toList := by
    rw [hd]
    exact List.take_left' hpl
  have hdr : (tokenT k n z).data.toList.drop 4 = (b64 ⟨(laidT k n z.data.toList).toArray⟩).data.toList := by
    rw [hd]
    exact List.drop_left' hpl
  have hno := not_other k (tokenT k n z) hk (by rw [ht, List.take_of_length_le (by rw [hpl, hs]; omega)])
  have hbe : begins (tokenT k n z) (pfx k) := by
    rw [begins_list, e1, ht]
    exact ⟨by omega, rfl⟩
  have hfs : fromS namesB.data.toList (b64 ⟨(laidT k n z.data.toList).toArray⟩).data.toList = some (laidT k n z.data.toList) := (fromS_some _ _ _).2 ⟨names_back _, rfl⟩
  have hzl : z.data.toList.length = 24 := hz
  have h8 : (laidT k n z.data.toList).take 8 = byN 8 n := by
    unfold laidT frontT
    rw [List.append_assoc]
    exact List.take_left' (byN_len 8 n)
  have h24 : ((laidT k n z.data.toList).drop 8).take 24 = z.data.toList := by
    unfold laidT frontT
    rw [List.append_assoc, List.drop_left' (byN_len 8 n)]
    exact List.take_left' hzl
  have hn : numL (byN 8 n) = n := by
    rw [numL_byN]
    exact Nat.mod_eq_of_lt (Nat.lt_of_le_of_lt h2 (by decide))
  unfold parseV readT
  rw [if_neg (by omega), if_neg hno, if_neg (by rintro (hc | hc); exact hc hs; exact hc hbe), hdr, hfs]
  dsimp only
  rw [h8, h24, hn, if_neg (by omega), if_pos rfl]
theorem parse_kind (k : Int) (n : Nat) (z : ByteArray) (hk : k = 1 ∨ k = 2) (hz : z.size = 24) : parseV (3 - k) (tokenT k n z) = (0, ⟨#[]⟩, 170) := by
  obtain ⟨e1, e2, e3⟩ := kind_two k hk
  have hs := tokenT_size k n z hk hz
  have hpl : (pfx k).data.toList.length = 4 := e1
  have hbe : begins (tokenT k n z) (pfx (3 - (3 - k))) := by
    rw [show 3 - (3 - k) = k by omega, begins_list, e1, tokenT_data]
    exact ⟨by omega, List.take_left' hpl⟩
  unfold parseV readT
  rw [if_neg (by omega), if_pos hbe]
/-- What is read of a text without an error is minted as that text. -/
theorem mint_back (k : Int) (s : ByteArray) (x : Int) (y : ByteArray) (hk : k = 1 ∨ k = 2) (h : parseV k s = (x, y, 0)) : mintV k x y = (s, 0) := by
  obtain ⟨e1, e2, e3⟩ := kind_two k hk
  unfold parseV readT at h
  rw [if_neg (by omega)] at h
  by_cases h1 : begins s (pfx (3 - k))
  · rw [if_pos h1] at h; cases h
  rw [if_neg h1] at h
  by_cases h2 : s.size ≠ 52 ∨ ¬ begins s (pfx k)
  · rw [if_pos h2] at h; cases h
  rw [if_neg h2] at h
  have hs : s.size = 52 := Decidable.not_not.1 fun hc => h2 (.inl hc)
  have hb : begins s (pfx k) := Decidable.not_not.1 fun hc => h2 (.inr hc)
  rw [begins_list, e1] at hb
  cases hfs : fromS namesB.data.toList (s.data.toList.drop 4) with
  | none => rw [hfs] at h; cases h
  | some b =>
    rw [hfs] at h
    dsimp only at h
    by_cases h3 : numL (b.take 8) < 1 ∨ 4611686018427387904 < numL (b.take 8)
    · rw [if_pos h3] at h; cases h
    rw [if_neg h3] at h
    by_cases h4 : b = laidT k (numL (b.take 8)) ((b.drop 8).take 24)
    · rw [if_pos h4] at h
      have ex := (Prod.mk.inj h).1
      have ey := (Prod.mk.inj (Prod.mk.inj h).2).1
      have hfb := (fromS_some _ _ _).1 hfs
      have hbl : b.length = 36 := by
        have q := congrArg List.length hfb.2
        rw [Six.enc_len, List.length_drop, show s.data.toList.length = s.size from rfl, hs] at q
        omega
      have hyd : y.data.toList = (b.drop 8).take 24 := by rw [← ey]
      have hys : y.size = 24 := by
        show y.data.toList.length = 24
        rw [hyd, List.length_take, List.length_drop, hbl]
        omega
      rw [← ex, mintV_ok k _ y hk (by omega) (by omega) hys]
      congr 1
      refine ByteArray.ext (Array.toList_inj.1 ?_)
      rw [tokenT_data, hyd, ← h4, ← hb.2]
      have hbb : (b64 ⟨b.toArray⟩).data.toList = s.data.toList.drop 4 := hfb.2
      rw [hbb, List.take_append_drop]
    · rw [if_neg h4] at h; cases h
end Go.Proofs.YtilcilbmbhbakaaDoor
