/- HashSums. -/
import Derived.Test.YtldloociaoflkaaLaw01
namespace Go.Proofs.Ytldloociaoflkaa
open Go.RowKit
abbrev strs (l : List ByteArray) : Array Value := (l.map Value.string).toArray
/-- A block of texts, of which a front part is read. -/
theorem Rds.of_pre (g : Nat) (xs ys : List ByteArray) (n : Nat) (hn : xs.length = n) : Rds (Ph.one g (.cells (strs (xs ++ ys)) ST (0, 0))) 1 enStr (some ⟨g, 0, none⟩) n xs := by
  refine ⟨hn, fun _ => rfl, fun k hk => ⟨g, 0, rfl, fun j u hu => ?_⟩⟩
  obtain rfl : j = 0 := by
    have := (List.getElem?_eq_some_iff.1 hu).1
    simp at this; omega
  have hu' : u = .string xs[k] := by simpa using hu.symm
  subst hu'
  simp [Ph.cell, Ph.one]
  rw [List.getElem?_append_left (by simpa using hk)]
  simp [hk]
theorem lentSo_all (xs : List ByteArray) : (lentSo xs 8).toArray = strs (xs ++ List.replicate 8 spareB) := by
  unfold lentSo strs
  rw [List.map_append, List.map_replicate]
  simp
theorem splice_all (xs ys zs : List ByteArray) (h : xs.length = ys.length) : splice ((xs ++ zs).map Value.string) 0 (ys.map Value.string) = (ys ++ zs).map Value.string := by
  unfold splice
  rw [List.length_map, ← h]
  simp
theorem joined_bytes (xs : List ByteArray) : (⟨(joined xs).toArray⟩ : ByteArray).data.toList = joined xs := rfl
theorem joined_size (xs : List ByteArray) : (⟨(joined xs).toArray⟩ : ByteArray).size = (joined xs).length := rfl
set_option maxHeartbeats 4000000 in
theorem sums_any {E : World} {S : Ph} {L : List Hp} (A : Option Addr) (n c : Nat) (xs : List ByteArray) (w : World) (hn : n ≤ maxLen) (hr : Rds S 1 enStr A n xs) (hz : ∀ x ∈ xs, x.size ≤ 9000000000000000000) (h : Own E w (Hp.ro S :: L)) :
    Calls Try.prog 3 #[.slice A n c] w fun e w' => e = .returned (.bool true) ∧ Own E w' (Hp.ro S :: L) := by
  have hxl := hr.1
  have HZ := Lib.hid hz
  clear hz
  go_enter Try.func3, Try.ntmps3
  go_wp2_with fail
  refine (beyond_any _ _ _ _ xs _ hn hr (by exact Nat.zero_le _) HZ.out h).mono ?_
  rintro e w1 ⟨b, hb, rfl, rfl⟩
  cases b with
  | true =>
    go_wp2_with fail
    go_ret
    exact ⟨rfl, h⟩
  | false =>
    have hb1 := hb rfl
    have hn2 : n ≤ 2147483647 := by omega
    have hj : (joined xs).length ≤ 2147483647 := by omega
    have hrj : (joined xs.reverse).length ≤ 2147483647 := by rw [joined_reverse_len]; exact hj
    have hj1 : (joined xs).length ≤ 140737488355328 := by omega
    have hj2 : (joined xs).length ≤ 1152921504606846975 := by omega
    have hj3 : (⟨(joined xs).toArray⟩ : ByteArray).size ≤ 140737488355000 := by rw [joined_size]; omega
    have hj4 : (joined xs.reverse).length ≤ 140737488355328 := by omega
    have hj5 : (joined xs.reverse).length ≤ 1152921504606846975 := by omega
    have hj6 : (⟨(joined xs.reverse).toArray⟩ : ByteArray).size ≤ 140737488355000 := by rw [joined_size]; omega
    have J1 := Lib.hid hj1
    have J2 := Lib.hid hj2
    have J3 := Lib.hid hj3
    have J4 := Lib.hid hj4
    have J5 := Lib.hid hj5
    have J6 := Lib.hid hj6
    clear hb hb1 hj hrj hj1 hj2 hj3 hj4 hj5 hj6
    go_wp2_with fail
    refine (known_any _ h).mono ?_
    rintro e w1 ⟨rfl, h1⟩
    clear h
    go_wp2_with fail
    refine (lent_any _ _ _ xs _ hn2 hr h1).mono ?_
    rintro e w2 ⟨g, rfl, h2⟩
    rw [lentSo_all] at h2
    have h3 := h2.f1
    clear h1 h2
    go_wp2_with fail
    refine (joined_any _ _ _ xs _ hn hr J1.out h3).mono ?_
    rintro e w3 ⟨rfl, h4⟩
    go_wp2_with fail
    refine (refsum_any _ _ J3.out h4).mono ?_
    rintro e w4 ⟨rfl, h5⟩
    rw [joined_bytes]
    obtain ⟨D, hD⟩ : ∃ D : ByteArray, D = ⟨(Sha.sum (joined xs)).toArray⟩ := ⟨_, rfl⟩
    rw [← hD]
    have HD := Lib.hid hD
    have h6 := h5.f1
    have hpre := Lib.hid (Rds.of_pre g xs (List.replicate 8 spareB) n hxl)
    clear hD h3 h4 h5
    go_wp2_with fail
    refine (hsum_any _ _ _ xs _ hn hpre.out J2.out h6).mono ?_
    rintro e w5 ⟨rfl, h7⟩
    rw [← HD.out]
    clear h6
    go_wp2_with fail
    refine (hsum_any _ _ _ xs _ hn hpre.out J2.out h7).mono ?_
    rintro e w6 ⟨rfl, h8⟩
    rw [← HD.out]
    clear h7
    go_wp2_with fail
    have hwhole := Lib.hid (Rds.of_pre g (xs ++ List.replicate 8 spareB) [] (n + 8) (by rw [List.length_append, List.length_replicate, hxl]))
    rw [List.append_nil] at hwhole
    refine (kept_any _ _ n _ _ xs _ _ hn2 hwhole.out hr rfl h8).mono ?_
    rintro e w7 ⟨rfl, rfl⟩
    go_wp2_with fail
    refine (backward_any _ _ _ xs _ hn2 hr h8.f1).mono ?_
    rintro e w8 ⟨v, rfl, h9⟩
    obtain ⟨A', c', S', hv', hr', h10⟩ := Own.rowStrs h9
    subst hv'
    have hrd : RdC w8 A' (xs.reverse.map Value.string) := by
      have h2 := (hr'.sub h10.sub).rdc
      rw [flat_strs] at h2
      exact h2
    have h11 : Own E w8 (Hp.blk g ST ((xs ++ List.replicate 8 spareB).map Value.string).toArray :: Hp.ro S' :: Hp.ro S :: L) := h10.f2
    obtain ⟨w9, hcp, h12⟩ := sl_copy (P := Try.prog) (dT := SLT) (sT := SLT) (ty := 3) (elem := ST) (by kernel_rfl) (by kernel_rfl) (off := 0) h11 (some ⟨g, 0, none⟩) A' (n + 8) (n + 8) n c' (xs.reverse.map Value.string) (by rw [List.length_map, List.length_reverse, hxl]; exact (Nat.min_eq_left (by omega)).symm) (fun _ => rfl) hrd (by simp) (strs_one _)
    rw [splice_all xs xs.reverse _ (by simp)] at h12
    have H12 := Lib.hid h12
    have hpre2 := Lib.hid (Rds.of_pre g xs.reverse (List.replicate 8 spareB) n (by rw [List.length_reverse]; exact hxl))
    clear hrd h8 h9 h10 h11 h12 hwhole hpre hr
    go_wp2_with (refine wpList_copy_run (o := ⟨some 37, _, _, _, _, _⟩) hcp rfl rfl rfl rfl ?_; clear hcp)
    refine (hsum_any _ _ _ xs.reverse _ hn hpre2.out J5.out H12.out).mono ?_
    rintro e w10 ⟨rfl, h13⟩
    obtain ⟨D2, hD2⟩ : ∃ D : ByteArray, D = ⟨(Sha.sum (joined xs.reverse)).toArray⟩ := ⟨_, rfl⟩
    rw [← hD2]
    have HD2 := Lib.hid hD2
    clear hD2 hpre2 H12
    go_wp2_with fail
    refine (joined_any _ _ _ xs.reverse _ hn hr' J4.out h13.f1).mono ?_
    rintro e w11 ⟨rfl, h14⟩
    go_wp2_with fail
    refine (refsum_any _ _ J6.out h14).mono ?_
    rintro e w12 ⟨rfl, h15⟩
    rw [joined_bytes, ← HD2.out]
    go_wp2_with fail
    go_ret
    exact ⟨rfl, h15.drop.drop⟩
end Go.Proofs.Ytldloociaoflkaa
