/- scope.Print, scope.Right of any list; record.scoped. -/
import Derived.Test.YtabibfabieghpaaGreatDoorJoin
import Derived.Test.YtabibfabieghpaaGreatDoorKg
import Derived.Test.YtabibfabieghpaaGreatDoorOrd
namespace Go.Proofs.YtabibfabieghpaaGreatDoor
open Go.RowKit
/-- Names that rise. -/
def scOk (xs : List ByteArray) : Bool := xs.all nameB && risesB xs
def scErr (xs : List ByteArray) : Int := if scOk xs then (if xs.length ≤ 8 ∧ (joinL xs).length ≤ 60 then 0 else 61) else 60
def scTxt (xs : List ByteArray) : ByteArray := if scErr xs = 0 then ⟨(joinL xs).toArray⟩ else ⟨#[]⟩
theorem joinL_len (xs : List ByteArray) : (joinL xs).length ≤ xs.length - 1 + tot xs := by
  cases xs with
  | nil => simp [joinL]
  | cons x r =>
    have := flatJ_len r
    show (x.data.toList ++ flatJ r).length ≤ _
    rw [List.length_append, this]
    show x.size + (r.length + tot r) ≤ r.length + 1 - 1 + (x.size + tot r)
    omega
theorem nm_size {s : ByteArray} (h : nameB s = true) : s.size ≤ 16 := by
  unfold nameB at h
  simp only [Bool.and_eq_true, decide_eq_true_eq] at h
  exact h.2
theorem tot_names : ∀ xs : List ByteArray, xs.all nameB = true → tot xs ≤ 16 * xs.length
  | [], _ => by simp [tot]
  | x :: r, h => by
    rw [List.all_cons, Bool.and_eq_true] at h
    have h1 := nm_size h.1
    have h2 := tot_names r h.2
    show x.size + tot r ≤ 16 * (r.length + 1)
    omega
theorem names_all {xs : List ByteArray} {k : Nat} (hk : k = xs.length) (h : ∀ i a, i < k → xs[i]? = some a → nameB a = true) : xs.all nameB = true := by
  rw [List.all_eq_true]
  intro x hx
  obtain ⟨i, hi, rfl⟩ := List.getElem_of_mem hx
  exact h i _ (by omega) (List.getElem?_eq_getElem hi)
theorem names_not {xs : List ByteArray} {k : Nat} {a : ByteArray} (hk : xs[k]? = some a) (h : nameB a = false) : scErr xs = 60 := by
  have : xs.all nameB = false := by
    cases e : xs.all nameB with
    | false => rfl
    | true =>
      have := List.all_eq_true.1 e a (List.mem_of_getElem? hk)
      rw [h] at this
      cases this
  unfold scErr scOk
  rw [this]
  rfl
theorem rise_not {xs : List ByteArray} {k : Nat} {a b : ByteArray} (ha : xs[k]? = some a) (hb : xs[k + 1]? = some b) (h : slt a b = false) : scErr xs = 60 := by
  unfold scErr scOk
  rw [rises_not ha hb h, Bool.and_false]
  rfl
theorem scTxt_60 {xs : List ByteArray} (h : scErr xs = 60) : scTxt xs = ⟨#[]⟩ := by
  unfold scTxt
  rw [h]
  rfl
theorem scTxt_61 {xs : List ByteArray} (h : scErr xs = 61) : scTxt xs = ⟨#[]⟩ := by
  unfold scTxt
  rw [h]
  rfl
theorem run_geq_str (T : TypeId) (a b : ByteArray) (w : World) : (binOp .geq T (.string a) (.string b)).run Tryz.prog w = .ok (.bool (!slt a b)) w := by
  simp [binOp, Op.stringOp, slt_walk, go_sem]
theorem run_lss_str (T : TypeId) (a b : ByteArray) (w : World) : (binOp .lss T (.string a) (.string b)).run Tryz.prog w = .ok (.bool (slt a b)) w := by
  simp [binOp, Op.stringOp, slt_walk, go_sem]
section
variable {E : World} {S : Ph} {L : List Hp}
set_option maxRecDepth 20000 in
set_option maxHeartbeats 2000000 in
theorem print_any (A : Option Addr) (n c : Nat) (xs : List ByteArray) (w : World) (hr : Rds S 1 enStr A n xs) (hnc : n ≤ c) (hn43 : n ≤ 8796093022208) (h : Own E w (Hp.ro S :: L)) :
    Calls Tryz.prog 124 #[.slice A n c] w fun e w' => e = .returned (.tuple #[.string (scTxt xs), .int .i64 (scErr xs)]) ∧ Own E w' (Hp.ro S :: L) := by
  have HN43 := Lib.hid hn43
  have HLEN := Lib.hid hr.1
  clear hn43
  go_enter Tryz.func124, Tryz.ntmps124
  go_wp2_with fail
  go_loopw [9] (fun i wr => ∃ k : Nat, k ≤ n ∧ i = .int .i64 k ∧ (∀ i a, i < k → xs[i]? = some a → nameB a = true) ∧ (∀ i a b, i + 1 < k → xs[i]? = some a → xs[i + 1]? = some b → slt a b = true) ∧ Own E wr (Hp.ro S :: L)) (fun i _ => n - (intOf i).toNat)
  case atStart => exact ⟨0, by omega, rfl, fun _ _ h => absurd h (by omega), fun _ _ _ h => absurd h (by omega), h⟩
  case round =>
    obtain ⟨k, hk, rfl, hnm, hri, hw⟩ := hrel
    clear h
    by_cases hlt : k < n
    · obtain ⟨x, b, off, hx, rfl, hc⟩ := hr.get1 hlt
      have hcx := hw.rd (hc _ rfl)
      have HNM := Lib.hid hnm
      have HRI := Lib.hid hri
      clear hnm hri
      cases k with
      | zero =>
        have hcx : wr.cell? ⟨b, off, none⟩ = some (.string x) := hcx
        have HN := fun h => named_any (E := E) (L := Hp.ro S :: L) x wr h
        have HX := Lib.hid hx
        have i1 : (0 : Int) < n := by omega
        clear hr hx hc hk hlt
        cases e : nameB x with
        | false =>
          have HE := Lib.hid e
          rw [e] at HN
          clear e
          go_wp2_with (refine (HN hw).mono ?_; clear HN hw; rintro e wr2 ⟨rfl, hw⟩)
          go_ret2
          have e6 := names_not HX.out HE.out
          rw [e6, scTxt_60 e6]
          exact ⟨rfl, hw⟩
        | true =>
          have HE := Lib.hid e
          rw [e] at HN
          clear e
          go_wp2_with (refine (HN hw).mono ?_; clear HN hw; rintro e wr2 ⟨rfl, hw⟩)
          go_roundw
          case rel =>
            refine ⟨1, by omega, by first | rfl | go_num, fun i a hi ha => ?_, fun _ _ _ h => absurd h (by omega), hw⟩
            obtain rfl : i = 0 := by omega
            rw [HX.out] at ha
            injection ha with ha
            rw [← ha]; exact HE.out
          case measure => simp [intOf]; omega
      | succ k =>
        obtain ⟨y, b', off', hy, e, hc'⟩ := hr.get1 (k := k) (by omega)
        injection e with e
        injection e with e1 e2
        subst e1 e2
        have HCY := Lib.hid (hc' _ rfl)
        have HN := fun h => named_any (E := E) (L := Hp.ro S :: L) x wr h
        have i1 : (((k + 1 : Nat) : Int)) < n := by omega
        have i2 : wrap64 (k : Int) = (k : Int) := by have := HN43.out; unfold wrap64; omega
        have i4 : (k : Int) < n := by omega
        have i3 : (0 : Int) < ((k + 1 : Nat) : Int) := by omega
        have i5 := Lib.hid (show wrap64 ((k : Int) + 1 + 1) = ((k + 2 : Nat) : Int) by have := HN43.out; unfold wrap64; omega)
        have HX := Lib.hid hx
        have HY := Lib.hid hy
        have HK2 := Lib.hid hlt
        clear hr hx hy hc hc' hk hlt
        cases e : nameB x with
        | false =>
          have HE := Lib.hid e
          rw [e] at HN
          clear e
          go_wp2_with (refine (HN hw).mono ?_; clear HN hw; rintro e wr2 ⟨rfl, hw⟩; have hcy := hw.rd HCY.out)
          go_ret2
          have e6 := names_not HX.out HE.out
          rw [e6, scTxt_60 e6]
          exact ⟨rfl, hw⟩
        | true =>
          have HE := Lib.hid e
          rw [e] at HN
          clear e
          have hl := fun w => run_geq_str 9 y x w
          cases e2 : slt y x with
          | true =>
            have HE2 := Lib.hid e2
            simp only [e2, Bool.not_true] at hl
            clear e2
            go_wp2_with (refine (HN hw).mono ?_; clear HN hw; rintro e wr2 ⟨rfl, hw⟩; have hcy := hw.rd HCY.out)
            go_roundw
            case rel =>
              refine ⟨k + 2, by have := HK2.out; omega, ?_, fun i a hi ha => ?_, rises_step HRI.out HY.out HX.out HE2.out, hw⟩
              · first | rfl | exact congrArg (Value.int .i64) i5.out | (rw [← i5.out]; simp)
              by_cases hi2 : i < k + 1
              · exact HNM.out i a hi2 ha
              · obtain rfl : i = k + 1 := by omega
                rw [HX.out] at ha
                injection ha with ha
                rw [← ha]; exact HE.out
            case measure =>
              have e7 := i5.out
              have e8 := HK2.out
              first
                | (rw [e7]; simp only [intOf]; omega)
                | (simp [intOf]; omega)
          | false =>
            have HE2 := Lib.hid e2
            simp only [e2, Bool.not_false] at hl
            clear e2
            go_wp2_with (refine (HN hw).mono ?_; clear HN hw; rintro e wr2 ⟨rfl, hw⟩; have hcy := hw.rd HCY.out)
            go_ret2
            have e6 := rise_not HY.out HX.out HE2.out
            rw [e6, scTxt_60 e6]
            exact ⟨rfl, hw⟩
    · obtain rfl : k = n := by omega
      have hall := names_all HLEN.out.symm hnm
      have hris : risesB xs = true := (risesB_iff xs).2 fun i a b ha hb => hri i a b (by rw [← HLEN.out]; exact (List.getElem?_eq_some_iff.1 hb).1) ha hb
      have hok : scOk xs = true := by unfold scOk; rw [hall, hris]; rfl
      have ht := tot_names xs hall
      have hJ := join_any (E := E) (L := L) A k c xs wr hr hnc (by have := HN43.out; have := HLEN.out; omega) hw
      have he : scErr xs = if xs.length ≤ 8 ∧ (joinL xs).length ≤ 60 then 0 else 61 := by unfold scErr; rw [if_pos hok]
      have hjl : (⟨(joinL xs).toArray⟩ : ByteArray).size = (joinL xs).length := fl_size _
      rw [HLEN.out] at he
      have HJL := Lib.hid hjl
      have HE := Lib.hid he
      have HT := Lib.hid (show scErr xs = 0 → scTxt xs = ⟨(joinL xs).toArray⟩ from fun h => by unfold scTxt; rw [if_pos h])
      clear hall hris hok ht he hjl hnm hri hw hr
      generalize (⟨(joinL xs).toArray⟩ : ByteArray) = J at *
      go_wp2_with (refine hJ.mono ?_; clear hJ; rintro e w3 ⟨rfl, h⟩; have H := Lib.hid h; clear h)
      all_goals go_ret2
      all_goals (have h1 := HE.out; have h2 := HJL.out; have h3 := HT.out)
      all_goals first
        | (rw [if_pos (by omega)] at h1; exact ⟨by rw [h3 h1, h1]; rfl, H.out⟩)
        | (rw [if_neg (by omega)] at h1; exact ⟨by rw [scTxt_61 h1, h1]; rfl, H.out⟩)
theorem right_any (A : Option Addr) (n c : Nat) (xs : List ByteArray) (w : World) (hr : Rds S 1 enStr A n xs) (hnc : n ≤ c) (hn43 : n ≤ 8796093022208) (h : Own E w (Hp.ro S :: L)) :
    Calls Tryz.prog 122 #[.slice A n c] w fun e w' => e = .returned (.bool (decide (scErr xs = 0))) ∧ Own E w' (Hp.ro S :: L) := by
  go_enter Tryz.func122, Tryz.ntmps122
  go_wp2_with (refine (print_any A n c xs _ hr hnc hn43 h).mono ?_; clear h; rintro e w2 ⟨rfl, h⟩)
  go_ret
  exact ⟨rfl, h⟩
theorem scoped_any (A : Option Addr) (n c : Nat) (xs : List ByteArray) (w : World) (hr : Rds S 1 enStr A n xs) (hnc : n ≤ c) (hn43 : n ≤ 8796093022208) (h : Own E w (Hp.ro S :: L)) :
    Calls Tryz.prog 82 #[.slice A n c] w fun e w' => e = .returned (.tuple #[.string (scTxt xs), .bool (decide (scErr xs = 0))]) ∧ Own E w' (Hp.ro S :: L) := by
  go_enter Tryz.func82, Tryz.ntmps82
  go_wp2_with (refine (print_any A n c xs _ hr hnc hn43 h).mono ?_; clear h; rintro e w2 ⟨rfl, h⟩)
  go_ret2
  exact ⟨rfl, h⟩
end
end Go.Proofs.YtabibfabieghpaaGreatDoor
