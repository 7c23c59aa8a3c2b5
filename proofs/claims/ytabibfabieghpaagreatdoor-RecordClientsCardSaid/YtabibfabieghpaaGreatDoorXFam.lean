/- The reference's spaced, of a scope. -/
import Derived.Test.YtabibfabieghpaaGreatDoorXScp
namespace Go.Proofs.YtabibfabieghpaaGreatDoor
open Go.RowKit
theorem joinL_snoc : ∀ (xs : List ByteArray) (k : Nat) (x : ByteArray), xs[k]? = some x → joinL (xs.take (k + 1)) = if k = 0 then x.data.toList else joinL (xs.take k) ++ [32] ++ x.data.toList
  | [], k, x, h => by simp at h
  | y :: r, 0, x, h => by
    simp at h
    subst h
    simp [joinL]
  | y :: r, k + 1, x, h => by
    have h2 : r[k]? = some x := by simpa using h
    have h3 := flatJ_take r k x h2
    show y.data.toList ++ flatJ (r.take (k + 1)) = y.data.toList ++ flatJ (r.take k) ++ [32] ++ x.data.toList
    rw [h3]
    simp
section
variable {E : World} {S : Ph} {L : List Hp}
set_option maxRecDepth 20000 in
set_option maxHeartbeats 4000000 in
theorem spaced_any (A : Option Addr) (n c : Nat) (xs : List ByteArray) (w : World) (hr : Rds S 1 enStr A n xs) (hsc : scErr xs = 0) (h : Own E w (Hp.ro S :: L)) :
    Calls Tryz.prog 92 #[.slice A n c] w fun e w' => e = .returned (.string (scTxt xs)) ∧ Own E w' (Hp.ro S :: L) := by
  have hall : xs.length ≤ 8 ∧ (joinL xs).length ≤ 60 ∧ xs.all nameB = true := by
    unfold scErr at hsc
    split at hsc
    · rename_i hok
      split at hsc
      · rename_i hl
        refine ⟨hl.1, hl.2, ?_⟩
        unfold scOk at hok
        rw [Bool.and_eq_true] at hok
        exact hok.1
      · cases hsc
    · cases hsc
  have hv : scTxt xs = ⟨(joinL xs).toArray⟩ := by unfold scTxt; rw [if_pos hsc]
  rw [hv]
  have hn8 : n ≤ 8 := by rw [← hr.1]; exact hall.1
  have HLEN := Lib.hid hr.1
  have HALL := Lib.hid hall.2.2
  have hjs : ∀ k, (joinL (xs.take k)).length ≤ 1000 := fun k => by
    have h1 := joinL_len (xs.take k)
    have h2 := tot_le xs k
    have h3 := tot_names xs hall.2.2
    have h4 : (xs.take k).length ≤ xs.length := by rw [List.length_take]; omega
    have := hall.1
    omega
  have HJ := Lib.hid hjs
  clear hall hv hsc hjs
  go_enter Tryz.func92, Tryz.ntmps92
  go_wp2_with fail
  go_loopw [3, 4] (fun s i wr => ∃ k : Nat, k ≤ n ∧ i = .int .i64 k ∧ s = .string ⟨(joinL (xs.take k)).toArray⟩ ∧ Own E wr (Hp.ro S :: L)) (fun _ i _ => n - (intOf i).toNat)
  case atStart => exact ⟨0, by omega, rfl, rfl, h⟩
  case round =>
    obtain ⟨k, hk, rfl, rfl, hw⟩ := hrel
    clear h
    by_cases hlt : k < n
    · obtain ⟨x, b, off, hx, rfl, hc⟩ := hr.get1 hlt
      have hcx := hw.rd (hc _ rfl)
      have hsn := joinL_snoc xs k x hx
      have hj := HJ.out k
      have hx16 := nm_size (List.all_eq_true.1 HALL.out x (List.mem_of_getElem? hx))
      have i1 : (k : Int) < n := by omega
      have i5 : wrap64 ((k : Int) + 1) = ((k + 1 : Nat) : Int) := by unfold wrap64; omega
      have q0 : (⟨(joinL (xs.take k)).toArray⟩ : ByteArray).size ≤ 1000 := by rw [fl_size]; exact hj
      cases k with
      | zero =>
        have hcx : wr.cell? ⟨b, off, none⟩ = some (.string x) := hcx
        rw [if_pos rfl] at hsn
        have HS := Lib.hid (show ((⟨(joinL (xs.take 0)).toArray⟩ : ByteArray) ++ x) = ⟨(joinL (xs.take (0 + 1))).toArray⟩ by
          rw [hsn]
          refine bytes_ext _ _ ?_
          simp [joinL])
        have j1 : (0 : Int) < n := by omega
        generalize (⟨(joinL (xs.take 0)).toArray⟩ : ByteArray) = J at *
        have q1 : ¬ 9223372036854775807 < J.size + x.size := by omega
        clear hr hx hc hsn hj q0 hx16 hk hlt i1
        have H := Lib.hid hw
        clear hw
        go_wp2_with fail
        go_roundw
        case rel => exact ⟨1, by omega, by first | rfl | go_num, congrArg Value.string HS.out, H.out⟩
        case measure => simp [intOf]; omega
      | succ k =>
        rw [if_neg (by omega)] at hsn
        have HS := Lib.hid (show ((⟨(joinL (xs.take (k + 1))).toArray⟩ : ByteArray) ++ ⟨#[32]⟩ ++ x) = ⟨(joinL (xs.take (k + 1 + 1))).toArray⟩ by
          rw [hsn]
          refine bytes_ext _ _ ?_
          simp)
        generalize (⟨(joinL (xs.take (k + 1))).toArray⟩ : ByteArray) = J at *
        have j1 : (0 : Int) < ((k + 1 : Nat) : Int) := by omega
        have q1 : ¬ 9223372036854775807 < J.size + 1 := by omega
        have q3 : (J ++ ⟨#[32]⟩ : ByteArray).size = J.size + 1 := by rw [ByteArray.size_append]; rfl
        have q2 : ¬ 9223372036854775807 < (J ++ ⟨#[32]⟩ : ByteArray).size + x.size := by omega
        have HK := Lib.hid hlt
        clear hr hx hc hsn hj hx16 hk hlt
        have H := Lib.hid hw
        clear hw
        go_wp2_with fail
        go_roundw
        case rel => exact ⟨k + 2, by have := HK.out; omega, by first | rfl | exact congrArg (Value.int .i64) i5 | (rw [← i5]; simp), congrArg Value.string HS.out, H.out⟩
        case measure =>
          have e8 := HK.out
          first
            | (rw [i5]; simp only [intOf]; omega)
            | (simp [intOf]; omega)
    · obtain rfl : k = n := by omega
      have e9 : xs.take k = xs := List.take_of_length_le (by rw [HLEN.out]; omega)
      rw [e9]
      have i1 : ¬ (k : Int) < (k : Int) := by omega
      have H := Lib.hid hw
      clear hw
      go_wp2_with fail
      go_ret
      exact ⟨rfl, H.out⟩
end
end Go.Proofs.YtabibfabieghpaaGreatDoor
