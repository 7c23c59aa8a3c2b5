/- slices.BinarySearch of texts that rise. -/
import Derived.Test.YtbclmmneiphcaaaDoorRises
namespace Go.Proofs.YtbclmmneiphcaaaDoor
open Go.RowKit
/-- How many texts at the front are below a key. -/
def plN (xs : List ByteArray) (key : ByteArray) : Nat := (xs.takeWhile (slt · key)).length
theorem takeWhile_all {α : Type} {p : α → Bool} : ∀ {l : List α} {i : Nat} {x : α}, i < (l.takeWhile p).length → l[i]? = some x → p x = true
  | [], _, _, h, _ => by simp at h
  | a :: l, i, x, h, hx => by
    by_cases hp : p a = true
    · rw [List.takeWhile_cons_of_pos hp] at h
      cases i with
      | zero => simp at hx; subst hx; exact hp
      | succ i => exact takeWhile_all (by simpa using h) (by simpa using hx)
    · rw [List.takeWhile_cons_of_neg hp] at h
      simp at h
theorem takeWhile_next {α : Type} {p : α → Bool} : ∀ {l : List α} {x : α}, l[(l.takeWhile p).length]? = some x → p x = false
  | [], _, h => by simp at h
  | a :: l, x, h => by
    by_cases hp : p a = true
    · rw [List.takeWhile_cons_of_pos hp] at h
      exact takeWhile_next (l := l) (by simpa using h)
    · rw [List.takeWhile_cons_of_neg hp] at h
      simp at h
      subst h
      simpa using hp
theorem plN_le (xs : List ByteArray) (key : ByteArray) : plN xs key ≤ xs.length := (List.takeWhile_prefix (slt · key)).length_le
theorem plN_lt {xs : List ByteArray} {key x : ByteArray} {i : Nat} (h : i < plN xs key) (hx : xs[i]? = some x) : slt x key = true := takeWhile_all (p := (slt · key)) h hx
theorem plN_at {xs : List ByteArray} {key x : ByteArray} (hx : xs[plN xs key]? = some x) : slt x key = false := takeWhile_next (p := (slt · key)) hx
theorem plN_ge {xs : List ByteArray} {key x : ByteArray} (hr : risesB xs = true) {i : Nat} (h : plN xs key ≤ i) (hx : xs[i]? = some x) : slt x key = false := by
  by_cases e : plN xs key = i
  · subst e; exact plN_at hx
  · have hl : plN xs key < xs.length := by have := (List.getElem?_eq_some_iff.1 hx).1; omega
    have h1 := plN_at (List.getElem?_eq_getElem hl)
    have h2 := rises_lt hr (i - plN xs key - 1) (plN xs key) _ x (List.getElem?_eq_getElem hl) (by rw [show plN xs key + (i - plN xs key - 1) + 1 = i by omega]; exact hx)
    cases h3 : slt x key with
    | false => rfl
    | true => rw [slt_trans h2 h3] at h1; cases h1
theorem cnan_any (x : ByteArray) (w : World) : Calls Tryd.prog 91 #[.string x] w fun e w' => e = .returned (.bool false) ∧ w = w' := by
  go_enter Tryd.func91, Tryd.ntmps91
  go_wp2_with fail
  go_ret
  exact ⟨rfl, rfl⟩
theorem snan_any (x : ByteArray) (w : World) : Calls Tryd.prog 69 #[.string x] w fun e w' => e = .returned (.bool false) ∧ w = w' := by
  go_enter Tryd.func69, Tryd.ntmps69
  go_wp2_with fail
  go_ret
  exact ⟨rfl, rfl⟩
theorem less_any (x y : ByteArray) (w : World) : Calls Tryd.prog 68 #[.string x, .string y] w fun e w' => e = .returned (.bool (slt x y)) ∧ w = w' := by
  go_enter Tryd.func68, Tryd.ntmps68
  go_wp2_with fail
  refine (cnan_any x _).mono ?_
  rintro e w1 ⟨rfl, rfl⟩
  go_wp2_with fail
  go_ret
  exact ⟨ret_bool (slt_walk x y), rfl⟩
/-- Is the key at that place? -/
def isAt (xs : List ByteArray) (i : Nat) (key : ByteArray) : Bool := match xs[i]? with | some x => !slt x key && !slt key x | none => false
theorem isAt_some {xs : List ByteArray} {i : Nat} {x key : ByteArray} (h : xs[i]? = some x) : isAt xs i key = true ↔ x = key := by
  unfold isAt
  rw [h]
  rcases slt_tri x key with ⟨h1, -, h3, -⟩ | ⟨h1, h2, h3, -⟩ | ⟨h1, h2, h3, -⟩
  · simp [h1, h3]
  · simp [h3, slt_irrefl]
  · simp [h2, h3]
theorem isAt_none {xs : List ByteArray} {i : Nat} {key : ByteArray} (h : xs[i]? = none) : isAt xs i key = false := by unfold isAt; rw [h]
theorem ret_ib {n : Int} {a b : Bool} (h : a = b) : Ending.returned (.tuple #[.int .i64 n, .bool a]) = .returned (.tuple #[.int .i64 n, .bool b]) := by rw [h]
section
variable {E : World} {S : Ph} {L : List Hp}
set_option maxHeartbeats 1000000 in
theorem bs_any (A : Option Addr) (n c : Nat) (xs : List ByteArray) (key : ByteArray) (w : World) (hn : n ≤ 1152921504606846976) (hr : Rds S 1 enStr A n xs) (hs : risesB xs = true) (h : Own E w (Hp.ro S :: L)) :
    Calls Tryd.prog 39 #[.slice A n c, .string key] w fun e w' => e = .returned (.tuple #[.int .i64 (plN xs key : Nat), .bool (isAt xs (plN xs key) key)]) ∧ Own E w' (Hp.ro S :: L) := by
  have hle : plN xs key ≤ n := by rw [← hr.1]; exact plN_le xs key
  have hlo : ∀ i x, xs[i]? = some x → slt x key = true → i < plN xs key := fun i x hx h1 => by
    rcases Nat.lt_or_ge i (plN xs key) with h2 | h2
    · exact h2
    · rw [plN_ge hs h2 hx] at h1; cases h1
  have hhi : ∀ i x, xs[i]? = some x → slt x key = false → plN xs key ≤ i := fun i x hx h1 => by
    rcases Nat.lt_or_ge i (plN xs key) with h2 | h2
    · rw [plN_lt h2 hx] at h1; cases h1
    · exact h2
  obtain ⟨p, hp⟩ : ∃ p, p = plN xs key := ⟨_, rfl⟩
  rw [← hp] at hle hlo hhi ⊢
  have HLO := Lib.hid hlo
  have HHI := Lib.hid hhi
  clear hp hlo hhi hs
  go_enter Tryd.func39, Tryd.ntmps39
  go_wp2_with fail
  go_loopw [7, 8] (fun i j wr => ∃ a b : Nat, a ≤ p ∧ p ≤ b ∧ b ≤ n ∧ i = .int .i64 a ∧ j = .int .i64 b ∧ Own E wr (Hp.ro S :: L)) (fun i j _ => (intOf j).toNat - (intOf i).toNat)
  case atStart => exact ⟨0, n, by omega, by omega, by omega, rfl, rfl, h⟩
  case round =>
    obtain ⟨a, b, ha, hb, hbn, rfl, rfl, hw⟩ := hrel
    clear h
    have HW := Lib.hid hw
    by_cases hlt : a < b
    · obtain ⟨x, g, off, hx, rfl, hc⟩ := hr.get1 (show (a + b) / 2 < n by omega)
      have c1 := hw.rd (hc _ rfl)
      have HX := Lib.hid hx
      clear hx hc hw
      have j1 : IntKind.i64.wrap ((a : Int) + b) = ((a + b : Nat) : Int) := IntWalk.i64_in _ (by omega)
      obtain ⟨m, hm⟩ : ∃ m, m = (a + b) / 2 := ⟨_, rfl⟩
      have hmi : ((a : Int) + b) / 2 = (m : Int) := by omega
      have hmb : a ≤ m ∧ m < b := by omega
      have hmw : IntKind.i64.wrap (m : Int) = (m : Int) := IntWalk.i64_in _ (by omega)
      rw [← hm] at c1 HX
      have j2 : (0 : Int) ≤ (m : Int) := by omega
      have j3 : (m : Int) < n := by omega
      clear hm
      go_wp2_with fail
      refine (less_any x key _).mono ?_
      rintro e w1 ⟨rfl, rfl⟩
      cases hx : slt x key with
      | true =>
        have hmp := HLO.out m x HX.out hx
        go_wp2_with fail
        go_roundw
        case rel => exact ⟨m + 1, b, by omega, by omega, by omega, by go_num, rfl, HW.out⟩
        case measure => simp [intOf]; omega
      | false =>
        have hmp := HHI.out m x HX.out hx
        go_wp2_with fail
        go_roundw
        case rel => exact ⟨a, m, by omega, by omega, by omega, rfl, rfl, HW.out⟩
        case measure => simp [intOf]; omega
    · obtain rfl : a = p := by omega
      obtain rfl : b = a := by omega
      clear hlt hw
      by_cases hbn2 : b < n
      · obtain ⟨x, g, off, hx, rfl, hc⟩ := hr.get1 hbn2
        have c1 := HW.out.rd (hc _ rfl)
        have j1 : (0 : Int) ≤ (b : Int) := by omega
        have j2 : (b : Int) < n := by omega
        have HX := Lib.hid hx
        clear hc hx
        by_cases he : x = key
        · subst he
          go_wp2_with fail
          go_ret2
          exact ⟨ret_ib ((isAt_some HX.out).2 rfl).symm, HW.out⟩
        · have h1 : (x.toList == key.toList) = false := by
            rw [ByteArray.toList_eq, ByteArray.toList_eq, beq_eq_false_iff_ne]
            exact fun e => he (str_eq_of e)
          have h2 : isAt xs b key = false := by
            cases e : isAt xs b key with
            | false => rfl
            | true => exact absurd ((isAt_some HX.out).1 e) he
          have H2 := Lib.hid h2
          clear he h2
          go_wp2_with fail
          refine (snan_any x _).mono ?_
          rintro e w1 ⟨rfl, rfl⟩
          go_wp2_with fail
          go_ret2
          exact ⟨ret_ib H2.out.symm, HW.out⟩
      · have e0 : xs[b]? = none := List.getElem?_eq_none (by have := hr.1; omega)
        have j2 : ¬ (b : Int) < n := by omega
        have E0 := Lib.hid e0
        clear e0
        go_wp2_with fail
        go_ret2
        exact ⟨ret_ib (isAt_none E0.out).symm, HW.out⟩
end
end Go.Proofs.YtbclmmneiphcaaaDoor
