/- hash.Sum, hash.padded, hash.MAC. -/
import Derived.Test.YtilcilbmbhbakaaDoorSum
namespace Go.Proofs.YtilcilbmbhbakaaDoor
open Go.RowKit
def joined (xs : List ByteArray) : List UInt8 := xs.flatMap fun s => s.data.toList
theorem joined_snoc (xs : List ByteArray) (k : Nat) (x : ByteArray) (h : xs[k]? = some x) : joined (xs.take (k + 1)) = joined (xs.take k) ++ x.data.toList := by
  unfold joined
  rw [List.take_add_one, h]
  simp
theorem joined_le (xs : List ByteArray) (k : Nat) : (joined (xs.take k)).length ≤ (joined xs).length := by
  have h := congrArg joined (List.take_append_drop k xs)
  have h2 : joined (xs.take k ++ xs.drop k) = joined (xs.take k) ++ joined (xs.drop k) := by unfold joined; rw [List.flatMap_append]
  rw [h2] at h
  have := congrArg List.length h
  rw [List.length_append] at this
  omega
set_option maxHeartbeats 1000000 in
theorem hsum_any {E : World} {S : Ph} {L : List Hp} (A : Option Addr) (n c : Nat) (xs : List ByteArray) (w : World) (hn : n ≤ maxLen) (hr : Rds S 1 enStr A n xs) (hl : (joined xs).length ≤ 1152921504606846975) (h : Own E w (Hp.ro S :: L)) :
    Calls Tryd.prog 17 #[.slice A n c] w fun e w' => e = .returned (.string ⟨(Sha.sum (joined xs)).toArray⟩) ∧ Own E w' (Hp.ro S :: L) := by
  unfold maxLen at hn
  have HL := Lib.hid hl
  clear hl
  go_enter Tryd.func17, Tryd.ntmps17
  go_wp2_with fail
  refine (new_any _ h).mono ?_
  rintro e w1 ⟨b, rfl, h1⟩
  go_wp2_with fail
  go_loopw [9] (fun i wr => ∃ k : Nat, k ≤ n ∧ i = .int .i64 k ∧ Own E wr (Hp.hasher b (joined (xs.take k)) :: Hp.ro S :: L)) (fun i _ => n - (intOf i).toNat)
  case atStart => exact ⟨0, by omega, rfl, h1⟩
  case round =>
    obtain ⟨k, hk, rfl, hw⟩ := hrel
    clear h1 h
    by_cases hlt : k < n
    · obtain ⟨x, g, off, hx, rfl, hc⟩ := hr.get1 hlt
      have c1 := hw.f1.rd (hc _ rfl)
      have ek := joined_snoc xs k x hx
      have hle := joined_le xs (k + 1)
      have hb : (joined (xs.take k)).length + x.size ≤ 9223372036854775807 := by
        rw [ek, List.length_append] at hle
        have e1 : x.data.toList.length = x.size := rfl
        have := HL.out
        omega
      have EK := Lib.hid ek
      have HW := Lib.hid hw
      have HB := Lib.hid hb
      clear ek hle hb hw hc hx hr
      go_wp2_with fail
      refine (write_any b _ x _ HB.out HW.out).mono ?_
      rintro e w2 ⟨rfl, h2⟩
      rw [← EK.out] at h2
      have H2 := Lib.hid h2
      clear h2 HW
      go_wp2_with fail
      go_roundw
      case rel => exact ⟨k + 1, by omega, by go_num, H2.out⟩
      case measure => simp [intOf]; omega
    · obtain rfl : k = n := by omega
      have e0 : xs.take k = xs := List.take_of_length_le (by have := hr.1; omega)
      rw [e0] at hw
      clear hlt e0 hr
      go_wp2_with fail
      refine (sum_any b _ _ HL.out hw).mono ?_
      rintro e w2 ⟨rfl, h2⟩
      go_wp2_with fail
      go_ret
      exact ⟨rfl, h2.drop⟩

theorem u8x (a b : UInt8) : bits .xor .u8 (a.toNat : Int) (b.toNat : Int) = ((a ^^^ b).toNat : Int) := by
  rw [u8_xor_nat _ _ a.toNat_lt b.toNat_lt, UInt8.toNat_xor]
def crossed (K : List UInt8) (x : UInt8) (k : Nat) : List UInt8 := (K.take k).map (· ^^^ x) ++ K.drop k
theorem crossed_len (K : List UInt8) (x : UInt8) (k : Nat) : (crossed K x k).length = K.length := by
  simp [crossed]; omega
theorem crossed_get (K : List UInt8) (x : UInt8) (k : Nat) (h : k < K.length) : ((crossed K x k).map V8).toArray[k]? = some (V8 K[k]) := by
  unfold crossed
  rw [List.drop_eq_getElem_cons h, List.map_append, List.map_cons]
  exact get_mid _ _ _ _ (by simp; omega)
theorem crossed_set (K : List UInt8) (x : UInt8) (k : Nat) (h : k < K.length) : ((crossed K x k).map V8).toArray.setIfInBounds k (V8 (K[k] ^^^ x)) = ((crossed K x (k + 1)).map V8).toArray := by
  unfold crossed
  rw [List.drop_eq_getElem_cons h, List.map_append, List.map_cons, set_mid _ _ _ _ _ (by simp; omega), List.take_add_one, List.getElem?_eq_getElem h]
  have e : (K.take k ++ [K[k]]).map (· ^^^ x) ++ K.drop (k + 1) = (K.take k).map (· ^^^ x) ++ (K[k] ^^^ x) :: K.drop (k + 1) := by
    rw [List.map_append, List.append_assoc]; rfl
  show _ = (((K.take k ++ [K[k]]).map (· ^^^ x) ++ K.drop (k + 1)).map V8).toArray
  rw [e, List.map_append, List.map_cons]
theorem crossed_all (K : List UInt8) (x : UInt8) (k : Nat) (h : K.length ≤ k) : crossed K x k = K.map (· ^^^ x) := by
  unfold crossed
  rw [List.take_of_length_le h, List.drop_eq_nil_of_le h, List.append_nil]
theorem Rds.of_blk {b : Nat} {t : TypeId} {cs : Array Value} {fr : Nat × Nat} (xs : List ByteArray) (hc : cs = (xs.map Value.string).toArray) : Rds (Ph.one b (.cells cs t fr)) 1 enStr (some ⟨b, 0, none⟩) xs.length xs :=
  ⟨rfl, fun _ => rfl, fun k hk => ⟨b, 0, rfl, fun j v hv => by
    obtain rfl : j = 0 := by
      have := (List.getElem?_eq_some_iff.1 hv).1
      simp at this; omega
    have hv' : v = .string xs[k] := by simpa using hv.symm
    subst hv'
    simp [Ph.cell, Ph.one, hc, hk]⟩⟩
end Go.Proofs.YtilcilbmbhbakaaDoor
