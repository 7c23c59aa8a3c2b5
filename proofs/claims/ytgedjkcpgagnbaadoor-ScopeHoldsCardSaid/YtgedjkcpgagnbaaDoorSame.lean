/- The law's same: two lists of texts compared. -/
import Derived.Test.YtgedjkcpgagnbaaDoorScFour
import Derived.Test.YtgedjkcpgagnbaaDoorText2
namespace Go.Proofs.YtgedjkcpgagnbaaDoor
open Go.RowKit
theorem beq_str (a b : ByteArray) : (a.toList == b.toList) = decide (a = b) := beq_str6 a b
/-- A slice of texts that reads as a list wherever these parts lie. -/
def Seen (E : World) (L : List Hp) (A : Option Addr) (n : Nat) (xs : List ByteArray) : Prop := ∀ w, Own E w L → Rds (Ph.of w) 1 enStr A n xs
theorem Seen.len {E w : World} {L : List Hp} {A : Option Addr} {n : Nat} {xs : List ByteArray} (h : Seen E L A n xs) (hw : Own E w L) : xs.length = n := (h w hw).1
theorem Seen.cell {E : World} {L : List Hp} {A : Option Addr} {n : Nat} {xs : List ByteArray} (h : Seen E L A n xs) {k : Nat} {x : ByteArray} (hx : xs[k]? = some x) {w0 : World} (h0 : Own E w0 L) :
    ∃ b off, A = some ⟨b, off, none⟩ ∧ ∀ w, Own E w L → w.cell? ⟨b, off + k, none⟩ = some (.string x) := by
  have hk : k < n := by rw [← (h w0 h0).1]; exact (List.getElem?_eq_some_iff.1 hx).1
  obtain ⟨y, b, off, hy, e, -⟩ := (h w0 h0).get1 hk
  refine ⟨b, off, e, fun w hw => ?_⟩
  obtain ⟨y2, b2, off2, hy2, e2, hc2⟩ := (h w hw).get1 hk
  rw [e] at e2
  injection e2 with e2
  injection e2 with e3 e4
  subst e3 e4
  rw [hx] at hy2
  injection hy2 with hy2
  subst hy2
  exact (Own.start w).rd (hc2 _ rfl)
section
variable {E : World} {L : List Hp}
set_option maxRecDepth 20000 in
set_option maxHeartbeats 4000000 in
theorem same_any (A B : Option Addr) (n c m d : Nat) (xs ys : List ByteArray) (w : World) (hA : Seen E L A n xs) (hB : Seen E L B m ys) (hn : n ≤ 140737488355328) (h : Own E w L) :
    Calls Tryd.prog 12 #[.slice A n c, .slice B m d] w fun e w' => e = .returned (.bool (decide (xs = ys))) ∧ Own E w' L := by
  have lA := hA.len h
  have lB := hB.len h
  by_cases hnm : n = m
  · subst hnm
    have HN := Lib.hid hn
    have HA := Lib.hid hA
    have HB := Lib.hid hB
    have HL := Lib.hid (And.intro lA lB)
    clear hn hA hB lA lB
    go_enter Tryd.func12, Tryd.ntmps12
    go_wp2_with fail
    go_loopw [5] (fun i wr => ∃ k : Nat, k ≤ n ∧ i = .int .i64 k ∧ (∀ i, i < k → xs[i]? = ys[i]?) ∧ Own E wr L) (fun i _ => n - (intOf i).toNat)
    case atStart => exact ⟨0, by omega, rfl, fun _ h => absurd h (by omega), h⟩
    case round =>
      obtain ⟨k, hk, rfl, hp, hw⟩ := hrel
      clear h
      by_cases hlt : k < n
      · cases hx : xs[k]? with
        | none =>
          rw [List.getElem?_eq_none_iff, HL.out.1] at hx
          omega
        | some x =>
        cases hy : ys[k]? with
        | none =>
          rw [List.getElem?_eq_none_iff, HL.out.2] at hy
          omega
        | some y =>
        obtain ⟨b, off, rfl, hc⟩ := HA.out.cell hx hw
        obtain ⟨b2, off2, rfl, hc2⟩ := HB.out.cell hy hw
        have HC := Lib.hid (fun (w' : World) (h : Own E w' L) => And.intro (hc w' h) (hc2 w' h))
        have HX := Lib.hid hx
        have HY := Lib.hid hy
        have HP := Lib.hid hp
        have HK := Lib.hid hlt
        have i1 : (k : Int) < n := by omega
        have i2 : (0 : Int) ≤ k := by omega
        have i5 : wrap64 ((k : Int) + 1) = ((k + 1 : Nat) : Int) := by have := HN.out; unfold wrap64; omega
        clear hx hy hc hc2 hp hk hlt
        by_cases he : x = y
        · have e5 : (x.toList == y.toList) = true := by rw [he]; exact beq_self_eq_true _
          go_wp2_with fail
          have h := hw.drew
          clear hw
          refine wp_region_text [3, 7] (fun w' => w'.cell? ⟨b, off + k, none⟩ = some (.string x) ∧ w'.cell? ⟨b2, off2 + k, none⟩ = some (.string y)) (by kernel_rfl) ?_ (fun hS => ?_)
          · exact HC.out _ h
          refine wpAnyG_pure (i := 0) (oi := ⟨some 17, _, _, _, _, _⟩) (v := ?_) rfl (by kernel_rfl) (by kernel_rfl) (by kernel_rfl) (by rfl) (fun _ _ _ h => h) (by rfl) ?_ ?_
          rotate_left
          · intro w
            go_simp
            first | done | with_reducible rfl
          try simp only [Act.put, List.setIfInBounds_toArray, List.set_cons_zero, List.set_cons_succ]
          refine wpAnyG_pure (i := 1) (oi := ⟨some 18, _, _, _, _, _⟩) (v := ?_) rfl (by kernel_rfl) (by kernel_rfl) (by kernel_rfl) (by rfl) (fun _ _ _ h => h) (by rfl) ?_ ?_
          rotate_left
          · intro w
            go_simp
            first | done | with_reducible rfl
          try simp only [Act.put, List.setIfInBounds_toArray, List.set_cons_zero, List.set_cons_succ]
          refine wpAnyG_pure (i := 2) (oi := ⟨some 19, _, _, _, _, _⟩) (v := (.pointer (some ⟨b, off + k, none⟩))) rfl (by kernel_rfl) (by kernel_rfl) (by kernel_rfl) (by rfl) (fun _ _ _ h => h) (by rfl) ?_ ?_
          · intro w
            go_simp; first | done | omega
          try simp only [Act.put, List.setIfInBounds_toArray, List.set_cons_zero, List.set_cons_succ]
          refine wpAnyG_load (i := 3) (oi := ⟨some 20, _, _, _, _, _⟩) (v := ?_) rfl (by kernel_rfl) (by kernel_rfl) (by kernel_rfl) (by rfl) (fun _ _ _ h => h) (by rfl) ?_ (by assumption) ?_
          rotate_left
          · intro w hS
            try dsimp only at hS
            go_simp
            first | done | with_reducible rfl
          try simp only [Act.put, List.setIfInBounds_toArray, List.set_cons_zero, List.set_cons_succ]
          refine wpAnyG_pure (i := 4) (oi := ⟨some 21, _, _, _, _, _⟩) (v := ?_) rfl (by kernel_rfl) (by kernel_rfl) (by kernel_rfl) (by rfl) (fun _ _ _ h => h) (by rfl) ?_ ?_
          rotate_left
          · intro w
            go_simp
            first | done | with_reducible rfl
          try simp only [Act.put, List.setIfInBounds_toArray, List.set_cons_zero, List.set_cons_succ]
          refine wpAnyG_pure (i := 5) (oi := ⟨some 22, _, _, _, _, _⟩) (v := ?_) rfl (by kernel_rfl) (by kernel_rfl) (by kernel_rfl) (by rfl) (fun _ _ _ h => h) (by rfl) ?_ ?_
          rotate_left
          · intro w
            go_simp
            first | done | with_reducible rfl
          try simp only [Act.put, List.setIfInBounds_toArray, List.set_cons_zero, List.set_cons_succ]
          refine wpAnyG_pure (i := 6) (oi := ⟨some 23, _, _, _, _, _⟩) (v := (.pointer (some ⟨b2, off2 + k, none⟩))) rfl (by kernel_rfl) (by kernel_rfl) (by kernel_rfl) (by rfl) (fun _ _ _ h => h) (by rfl) ?_ ?_
          · intro w
            go_simp; first | done | omega
          try simp only [Act.put, List.setIfInBounds_toArray, List.set_cons_zero, List.set_cons_succ]
          refine wpAnyG_load (i := 7) (oi := ⟨some 24, _, _, _, _, _⟩) (v := ?_) rfl (by kernel_rfl) (by kernel_rfl) (by kernel_rfl) (by rfl) (fun _ _ _ h => h) (by rfl) ?_ (by assumption) ?_
          rotate_left
          · intro w hS
            try dsimp only at hS
            go_simp
            first | done | with_reducible rfl
          try simp only [Act.put, List.setIfInBounds_toArray, List.set_cons_zero, List.set_cons_succ]
          refine wpAnyG_pure (i := 8) (oi := ⟨some 25, _, _, _, _, _⟩) (v := (.bool false)) rfl (by kernel_rfl) (by kernel_rfl) (by kernel_rfl) (by rfl) (fun _ _ _ h => h) (by rfl) ?_ ?_
          · intro w
            go_simp; first | done | exact e5 | simp [e5]
          try simp only [Act.put, List.setIfInBounds_toArray, List.set_cons_zero, List.set_cons_succ]
          refine wpAnyG_done (by kernel_rfl) ?_ _
          refine NoPanic.normal ?_
          have HF := Lib.hid h
          clear h
          go_wp2_with fail
          go_roundw
          case rel =>
            refine ⟨k + 1, by have := HK.out; omega, by rw [i5], fun i hi => ?_, HF.out⟩
            by_cases hi2 : i < k
            · exact HP.out i hi2
            · obtain rfl : i = k := by omega
              rw [HX.out, HY.out, he]
          case measure =>
            have := HK.out
            rw [i5]
            simp only [intOf]
            omega
        · have e5 : (x.toList == y.toList) = false := by
            rw [beq_str]
            exact decide_eq_false he
          go_wp2_with fail
          have h := hw.drew
          clear hw
          refine wp_region_text [3, 7] (fun w' => w'.cell? ⟨b, off + k, none⟩ = some (.string x) ∧ w'.cell? ⟨b2, off2 + k, none⟩ = some (.string y)) (by kernel_rfl) ?_ (fun hS => ?_)
          · exact HC.out _ h
          refine wpAnyG_pure (i := 0) (oi := ⟨some 17, _, _, _, _, _⟩) (v := ?_) rfl (by kernel_rfl) (by kernel_rfl) (by kernel_rfl) (by rfl) (fun _ _ _ h => h) (by rfl) ?_ ?_
          rotate_left
          · intro w
            go_simp
            first | done | with_reducible rfl
          try simp only [Act.put, List.setIfInBounds_toArray, List.set_cons_zero, List.set_cons_succ]
          refine wpAnyG_pure (i := 1) (oi := ⟨some 18, _, _, _, _, _⟩) (v := ?_) rfl (by kernel_rfl) (by kernel_rfl) (by kernel_rfl) (by rfl) (fun _ _ _ h => h) (by rfl) ?_ ?_
          rotate_left
          · intro w
            go_simp
            first | done | with_reducible rfl
          try simp only [Act.put, List.setIfInBounds_toArray, List.set_cons_zero, List.set_cons_succ]
          refine wpAnyG_pure (i := 2) (oi := ⟨some 19, _, _, _, _, _⟩) (v := (.pointer (some ⟨b, off + k, none⟩))) rfl (by kernel_rfl) (by kernel_rfl) (by kernel_rfl) (by rfl) (fun _ _ _ h => h) (by rfl) ?_ ?_
          · intro w
            go_simp; first | done | omega
          try simp only [Act.put, List.setIfInBounds_toArray, List.set_cons_zero, List.set_cons_succ]
          refine wpAnyG_load (i := 3) (oi := ⟨some 20, _, _, _, _, _⟩) (v := ?_) rfl (by kernel_rfl) (by kernel_rfl) (by kernel_rfl) (by rfl) (fun _ _ _ h => h) (by rfl) ?_ (by assumption) ?_
          rotate_left
          · intro w hS
            try dsimp only at hS
            go_simp
            first | done | with_reducible rfl
          try simp only [Act.put, List.setIfInBounds_toArray, List.set_cons_zero, List.set_cons_succ]
          refine wpAnyG_pure (i := 4) (oi := ⟨some 21, _, _, _, _, _⟩) (v := ?_) rfl (by kernel_rfl) (by kernel_rfl) (by kernel_rfl) (by rfl) (fun _ _ _ h => h) (by rfl) ?_ ?_
          rotate_left
          · intro w
            go_simp
            first | done | with_reducible rfl
          try simp only [Act.put, List.setIfInBounds_toArray, List.set_cons_zero, List.set_cons_succ]
          refine wpAnyG_pure (i := 5) (oi := ⟨some 22, _, _, _, _, _⟩) (v := ?_) rfl (by kernel_rfl) (by kernel_rfl) (by kernel_rfl) (by rfl) (fun _ _ _ h => h) (by rfl) ?_ ?_
          rotate_left
          · intro w
            go_simp
            first | done | with_reducible rfl
          try simp only [Act.put, List.setIfInBounds_toArray, List.set_cons_zero, List.set_cons_succ]
          refine wpAnyG_pure (i := 6) (oi := ⟨some 23, _, _, _, _, _⟩) (v := (.pointer (some ⟨b2, off2 + k, none⟩))) rfl (by kernel_rfl) (by kernel_rfl) (by kernel_rfl) (by rfl) (fun _ _ _ h => h) (by rfl) ?_ ?_
          · intro w
            go_simp; first | done | omega
          try simp only [Act.put, List.setIfInBounds_toArray, List.set_cons_zero, List.set_cons_succ]
          refine wpAnyG_load (i := 7) (oi := ⟨some 24, _, _, _, _, _⟩) (v := ?_) rfl (by kernel_rfl) (by kernel_rfl) (by kernel_rfl) (by rfl) (fun _ _ _ h => h) (by rfl) ?_ (by assumption) ?_
          rotate_left
          · intro w hS
            try dsimp only at hS
            go_simp
            first | done | with_reducible rfl
          try simp only [Act.put, List.setIfInBounds_toArray, List.set_cons_zero, List.set_cons_succ]
          refine wpAnyG_pure (i := 8) (oi := ⟨some 25, _, _, _, _, _⟩) (v := (.bool true)) rfl (by kernel_rfl) (by kernel_rfl) (by kernel_rfl) (by rfl) (fun _ _ _ h => h) (by rfl) ?_ ?_
          · intro w
            go_simp; first | done | exact e5 | simp [e5]
          try simp only [Act.put, List.setIfInBounds_toArray, List.set_cons_zero, List.set_cons_succ]
          refine wpAnyG_done (by kernel_rfl) ?_ _
          refine NoPanic.normal ?_
          go_wp2_with fail
          go_ret
          have hne : ¬ xs = ys := fun e => he (by
            have h1 := HX.out
            rw [e, HY.out] at h1
            injection h1 with h1
            exact h1.symm)
          exact ⟨by rw [decide_eq_false hne]; rfl, h⟩
      · obtain rfl : k = n := by omega
        have hxy : xs = ys := List.ext_getElem? fun i => by
          by_cases hi : i < k
          · exact hp i hi
          · rw [List.getElem?_eq_none (by rw [HL.out.1]; omega), List.getElem?_eq_none (by rw [HL.out.2]; omega)]
        have H := Lib.hid hw
        have HE := Lib.hid hxy
        clear hw hxy hp
        go_wp2_with fail
        go_ret
        exact ⟨by rw [decide_eq_true HE.out]; rfl, H.out⟩
  · have hne : ¬ xs = ys := fun e => hnm (by rw [← lA, ← lB, e])
    have z : ((n : Int) != (m : Int)) = true := by simpa using (fun e => hnm (by omega) : ¬ (n : Int) = (m : Int))
    have HE := Lib.hid hne
    have H := Lib.hid h
    clear h hA hB hne lA lB
    go_enter Tryd.func12, Tryd.ntmps12
    go_wp2_with fail
    go_ret
    exact ⟨by rw [decide_eq_false HE.out]; rfl, H.out⟩
end
end Go.Proofs.YtgedjkcpgagnbaaDoor
