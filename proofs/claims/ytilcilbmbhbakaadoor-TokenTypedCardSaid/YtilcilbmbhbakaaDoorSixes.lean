/- codec.place, codec.sixes. -/
import Derived.Test.YtilcilbmbhbakaaDoorStr
import Derived.Test.YtilcilbmbhbakaaDoorLetters
namespace Go.Proofs.YtilcilbmbhbakaaDoor
open Go.RowKit
/-- Which of some signs a byte is. -/
def pl (s : List UInt8) (c : UInt8) : Option Nat := s.findIdx? (· == c)
def plI (s : List UInt8) (c : UInt8) : Int := match pl s c with | some k => k | none => -1
theorem pl_some {s : List UInt8} {c : UInt8} {k : Nat} (hk : k < s.length) (he : s[k] = c) (hb : ∀ i, (h : i < k) → s[i] ≠ c) : pl s c = some k := by
  unfold pl
  rw [List.findIdx?_eq_some_iff_getElem]
  exact ⟨hk, by simpa using he, fun j hj => by simpa using hb j hj⟩
theorem pl_none {s : List UInt8} {c : UInt8} (hb : ∀ i, (h : i < s.length) → s[i] ≠ c) : pl s c = none := by
  unfold pl
  rw [List.findIdx?_eq_none_iff]
  intro x hx
  obtain ⟨i, hi, rfl⟩ := List.mem_iff_getElem.1 hx
  simpa using hb i hi
set_option maxHeartbeats 1000000 in
theorem place_any (s : ByteArray) (c : UInt8) (vc : Int) (hvc : vc = (c.toNat : Int)) (hs : s.size ≤ 1000000) (w : World) :
    Calls Tryd.prog 71 #[.string s, .int .u8 vc] w fun e w' => e = .returned (.int .i64 (plI s.data.toList c)) ∧ w = w' := by
  subst hvc
  have hsl : s.data.toList.length = s.size := rfl
  have HS := Lib.hid hsl
  clear hsl
  go_enter Tryd.func71, Tryd.ntmps71
  go_wp2_with fail
  go_loopw [8] (fun i wr => ∃ k : Nat, k ≤ s.size ∧ i = .int .i64 k ∧ (∀ j, (h : j < k) → (hl : j < s.data.toList.length) → s.data.toList[j] ≠ c) ∧ wr = w) (fun i _ => s.size - (intOf i).toNat)
  case atStart => exact ⟨0, by omega, rfl, fun j h => absurd h (by omega), rfl⟩
  case round =>
    obtain ⟨k, hk, rfl, hb, rfl⟩ := hrel
    by_cases hlt : k < s.size
    · have hkl : k < s.data.toList.length := hlt
      have hix := byte_index s (k : Int) k rfl hlt
      have hg : s.data.toList.getD k 0 = s.data.toList[k] := by rw [List.getD_eq_getElem?_getD, List.getElem?_eq_getElem hkl]; rfl
      rw [hg] at hix
      have HB := Lib.hid hb
      clear hb hg
      by_cases he : s.data.toList[k] = c
      · have hp : plI s.data.toList c = k := by unfold plI; rw [pl_some hkl he (fun i hi => HB.out i hi (by omega))]
        have HP := Lib.hid hp
        rw [he] at hix
        clear hp he hkl
        go_wp2_with fail
        go_ret
        exact ⟨ret_i64 (by rw [HP.out]), rfl⟩
      · have hne : ¬ ((s.data.toList[k]).toNat : Int) = (c.toNat : Int) := fun h => he (UInt8.toNat_inj.1 (by omega))
        have HE := Lib.hid (show ∀ hl : k < s.data.toList.length, s.data.toList[k]'hl ≠ c from fun _ => he)
        clear he
        generalize s.data.toList[k] = y at hix hne
        clear hkl
        go_wp2_with fail
        go_roundw
        case rel => exact ⟨k + 1, by omega, by go_num, fun j hj hl => by
          rcases Nat.lt_succ_iff_lt_or_eq.1 hj with h | h
          · exact HB.out j h hl
          · subst h; exact HE.out hl, trivial⟩
        case measure => simp [intOf]; omega
    · have hp : plI s.data.toList c = -1 := by unfold plI; rw [pl_none (fun i hi => hb i (by rw [HS.out] at hi; omega) hi)]
      have HP := Lib.hid hp
      clear hp hb
      go_wp2_with fail
      go_ret
      exact ⟨ret_i64 HP.out.symm, rfl⟩
end Go.Proofs.YtilcilbmbhbakaaDoor
