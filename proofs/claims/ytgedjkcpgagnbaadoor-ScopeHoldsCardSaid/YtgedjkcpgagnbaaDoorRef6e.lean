/- The reference's Within. -/
import Derived.Test.YtgedjkcpgagnbaaDoorRef6d
namespace Go.Proofs.YtgedjkcpgagnbaaDoor
open Go.RowKit
section
variable {E : World} {S : Ph} {L : List Hp}
set_option maxRecDepth 20000 in
set_option maxHeartbeats 4000000 in
theorem xwithin_any (A B : Option Addr) (n c m d : Nat) (xs ys : List ByteArray) (w : World) (hra : Rds S 1 enStr A n xs) (hrb : Rds S 1 enStr B m ys) (hsa : ∀ x ∈ xs, x.size ≤ 1000000000000000000) (hsb : ∀ x ∈ ys, x.size ≤ 1000000000000000000) (hn : n ≤ 8796093022208) (hm : m ≤ 8796093022208) (h : Own E w (Hp.ro S :: L)) :
    Calls Tryd.prog 38 #[.slice A n c, .slice B m d] w fun e w' => e = .returned (.bool (withinV xs ys)) ∧ Own E w' (Hp.ro S :: L) := by
  have KA := Lib.hid (fun w h => xright_any (E := E) (L := L) A n c xs w hra hsa hn h)
  have KB := Lib.hid (fun w h => xright_any (E := E) (L := L) B m d ys w hrb hsb hm h)
  have H := Lib.hid h
  have e0 : withinV xs ys = (decide (scErr xs = 0) && decide (scErr ys = 0) && xs.all fun x => hasB x ys) := rfl
  by_cases h1 : scErr xs = 0
  · by_cases h2 : scErr ys = 0
    · rw [decide_eq_true h1] at KA e0
      rw [decide_eq_true h2] at KB e0
      rw [Bool.true_and, Bool.true_and] at e0
      have la := (right8 h1).1
      have HLA := Lib.hid hra.1
      have HN8 := Lib.hid (show n ≤ 8 by rw [← hra.1]; exact la)
      have HM := Lib.hid hm
      have E0 := Lib.hid e0
      clear h h1 h2 hsa hsb hn hm la e0
      go_enter Tryd.func38, Tryd.ntmps38
      go_wp2_with (first
        | (with_reducible refine (KA.out _ H.out).mono ?_; clear KA H; rintro e w2 ⟨rfl, h⟩; have H2 := Lib.hid h; clear h)
        | (with_reducible refine (KB.out _ H2.out).mono ?_; clear KB H2; rintro e w3 ⟨rfl, h⟩; have H3 := Lib.hid h; clear h))
      go_loopw [7] (fun i wr => ∃ (k : Nat), k ≤ n ∧ i = .int .i64 k ∧ (xs.take k).all (fun x => hasB x ys) = true ∧ Own E wr (Hp.ro S :: L)) (fun i _ => n - (intOf i).toNat)
      case atStart => exact ⟨0, by omega, rfl, rfl, H3.out⟩
      case round =>
        obtain ⟨k, hk, rfl, hall, hw⟩ := hrel
        clear H3
        by_cases hlt : k < n
        · obtain ⟨x, b, off, hx, rfl, hcc⟩ := hra.get1 hlt
          have hcx := hw.rd (hcc _ rfl)
          have i1 : (k : Int) < n := by omega
          have i5 : wrap64 ((k : Int) + 1) = ((k + 1 : Nat) : Int) := by have := HN8.out; unfold wrap64; omega
          have HK := Lib.hid hlt
          have KH := Lib.hid (fun w h => xhas_any (E := E) (L := L) B m d ys x w hrb HM.out h)
          have H := Lib.hid hw
          have HX := Lib.hid hx
          cases hb : hasB x ys with
          | true =>
            have HR := Lib.hid (show (xs.take (k + 1)).all (fun x => hasB x ys) = true by rw [List.take_add_one, hx, List.all_append, hall]; simp [hb])
            rw [hb] at KH
            clear hx hcc hk hlt hw hall hb
            go_wp2_with (with_reducible refine (KH.out _ H.out).mono ?_; clear KH H; rintro e w4 ⟨rfl, h⟩; have H5 := Lib.hid h; clear h)
            go_roundw
            case rel => exact ⟨k + 1, by have := HK.out; omega, by rw [i5], HR.out, H5.out⟩
            case measure =>
              have := HK.out
              rw [i5]
              simp only [intOf]
              omega
          | false =>
            have HR := Lib.hid (show (xs.all fun x => hasB x ys) = false by
              cases e : xs.all fun x => hasB x ys with
              | false => rfl
              | true => have := List.all_eq_true.1 e x (List.mem_of_getElem? hx); rw [hb] at this; cases this)
            rw [hb] at KH
            clear hx hcc hk hlt hw hall hb
            go_wp2_with (with_reducible refine (KH.out _ H.out).mono ?_; clear KH H; rintro e w4 ⟨rfl, h⟩; have H5 := Lib.hid h; clear h)
            go_ret
            exact ⟨by rw [E0.out, HR.out]; rfl, H5.out⟩
        · obtain rfl : k = n := by omega
          have e9 : xs.take k = xs := List.take_of_length_le (by rw [HLA.out]; omega)
          rw [e9] at hall
          have HO := Lib.hid hall
          have i1 : ¬ (k : Int) < (k : Int) := by omega
          have H := Lib.hid hw
          clear hw e9 hk hlt hra hrb hall
          go_wp2_with fail
          go_ret
          exact ⟨by rw [E0.out, HO.out]; rfl, H.out⟩
    · rw [decide_eq_true h1] at KA e0
      rw [decide_eq_false h2] at KB e0
      rw [Bool.true_and, Bool.false_and] at e0
      have E0 := Lib.hid e0
      clear h h1 h2 hsa hsb hn hm e0 hra hrb
      go_enter Tryd.func38, Tryd.ntmps38
      go_wp2_with (first
        | (with_reducible refine (KA.out _ H.out).mono ?_; clear KA H; rintro e w2 ⟨rfl, h⟩; have H2 := Lib.hid h; clear h)
        | (with_reducible refine (KB.out _ H2.out).mono ?_; clear KB H2; rintro e w3 ⟨rfl, h⟩; have H3 := Lib.hid h; clear h))
      go_ret
      exact ⟨by rw [E0.out]; rfl, H3.out⟩
  · rw [decide_eq_false h1] at KA e0
    rw [Bool.false_and, Bool.false_and] at e0
    have E0 := Lib.hid e0
    clear h h1 hsa hsb hn hm e0 hra hrb
    go_enter Tryd.func38, Tryd.ntmps38
    go_wp2_with (first
      | (with_reducible refine (KA.out _ H.out).mono ?_; clear KA H; rintro e w2 ⟨rfl, h⟩; have H2 := Lib.hid h; clear h)
      | (with_reducible refine (KB.out _ H2.out).mono ?_; clear KB H2; rintro e w3 ⟨rfl, h⟩; have H3 := Lib.hid h; clear h))
    go_ret
    exact ⟨by rw [E0.out]; rfl, H3.out⟩
end
end Go.Proofs.YtgedjkcpgagnbaaDoor
