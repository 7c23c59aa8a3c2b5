/- node.isKey, mayBe, unlike, Size, formed, wrong. -/
import Derived.Test.YtbclmmneiphcaaaDoorNd
namespace Go.Proofs.YtbclmmneiphcaaaDoor
open Go.RowKit
section
theorem iskey_any (s : ByteArray) (w : World) : Calls Tryd.prog 64 #[.string s] w fun e w' => e = .returned (.bool (isKeyB s)) ∧ w = w' := by
  by_cases h1 : 0 < s.size
  · have h1i : (0 : Int) < s.size := by omega
    by_cases h2 : s.size ≤ 36
    · have h2i : (s.size : Int) ≤ 36 := by omega
      have e0 : isKeyB s = true := by simp [isKeyB]; omega
      rw [e0]
      go_enter Tryd.func64, Tryd.ntmps64
      go_wp2_with fail
      go_ret
      exact ⟨rfl, rfl⟩
    · have h2i : ¬ (s.size : Int) ≤ 36 := by omega
      have e0 : isKeyB s = false := by simp [isKeyB]; omega
      rw [e0]
      go_enter Tryd.func64, Tryd.ntmps64
      go_wp2_with fail
      go_ret
      exact ⟨rfl, rfl⟩
  · have h1i : ¬ (0 : Int) < s.size := by omega
    have e0 : isKeyB s = false := by simp [isKeyB]; omega
    rw [e0]
    go_enter Tryd.func64, Tryd.ntmps64
    go_wp2_with fail
    go_ret
    exact ⟨rfl, rfl⟩
theorem nokey_any (s : ByteArray) (w : World) : Calls Tryd.prog 90 #[.string s] w fun e w' => e = .returned (.bool (!isKeyB s)) ∧ w = w' := by
  go_enter Tryd.func90, Tryd.ntmps90
  go_wp2_with fail
  refine (iskey_any s _).mono ?_
  rintro e w1 ⟨rfl, rfl⟩
  go_wp2_with fail
  go_ret
  exact ⟨rfl, rfl⟩
theorem long_any (s : ByteArray) (w : World) : Calls Tryd.prog 88 #[.string s] w fun e w' => e = .returned (.bool (decide (200 < s.size))) ∧ w = w' := by
  by_cases h1 : 200 < s.size
  · have h1i : (200 : Int) < s.size := by omega
    have e0 : decide (200 < s.size) = true := by simp [h1]
    rw [e0]
    go_enter Tryd.func88, Tryd.ntmps88
    go_wp2_with fail
    go_ret
    exact ⟨rfl, rfl⟩
  · have h1i : ¬ (200 : Int) < s.size := by omega
    have e0 : decide (200 < s.size) = false := by simp [h1]
    rw [e0]
    go_enter Tryd.func88, Tryd.ntmps88
    go_wp2_with fail
    go_ret
    exact ⟨rfl, rfl⟩
variable {E : World} {S : Ph} {L : List Hp}
set_option maxHeartbeats 1000000 in
theorem indexf_any (g : Nat) (p : ByteArray → Bool) (eg : ∀ args w, (callFunc g args).run Tryd.prog w = .ok (.enter g args) w)
    (hp : ∀ (x : ByteArray) (w : World), Calls Tryd.prog g #[.string x] w fun e w' => e = .returned (.bool (p x)) ∧ w = w')
    (A : Option Addr) (n c : Nat) (xs : List ByteArray) (w : World) (hn : n ≤ maxLen) (hr : Rds S 1 enStr A n xs) (h : Own E w (Hp.ro S :: L)) :
    Calls Tryd.prog 94 #[.slice A n c, .func (.func g) #[] #[]] w fun e w' => ((xs.any p = true ∧ ∃ k : Nat, e = .returned (.int .i64 k)) ∨ (xs.any p = false ∧ e = .returned (.int .i64 (-1)))) ∧ Own E w' (Hp.ro S :: L) := by
  unfold maxLen at hn
  go_enter Tryd.func94, Tryd.ntmps94
  go_wp2_with fail
  go_loopw [8] (fun i wr => ∃ k : Nat, k ≤ n ∧ i = .int .i64 k ∧ (xs.take k).any p = false ∧ Own E wr (Hp.ro S :: L)) (fun i _ => n - (intOf i).toNat)
  case atStart => exact ⟨0, by omega, rfl, rfl, h⟩
  case round =>
    obtain ⟨k, hk, rfl, hp0, hw⟩ := hrel
    clear h
    have HP := Lib.hid hp0
    clear hp0
    by_cases hlt : k < n
    · obtain ⟨x, b, off, hx, rfl, hc⟩ := hr.get1 hlt
      have c1 := hw.rd (hc _ rfl)
      have hcall := hp x
      have HX := Lib.hid hx
      clear hc hx
      cases hq : p x with
      | true =>
        have e0 : xs.any p = true := List.any_eq_true.2 ⟨x, List.mem_of_getElem? HX.out, hq⟩
        have E0 := Lib.hid e0
        rw [hq] at hcall
        clear e0 hq
        go_wp2_with fail
        refine (hcall _).mono ?_
        rintro e w' ⟨rfl, rfl⟩
        go_wp2_with fail
        go_ret
        exact ⟨.inl ⟨E0.out, k, rfl⟩, hw⟩
      | false =>
        have e0 : (xs.take (k + 1)).any p = false := by rw [List.take_add_one, HX.out, List.any_append, HP.out]; simp [hq]
        have E0 := Lib.hid e0
        rw [hq] at hcall
        clear e0 hq
        go_wp2_with fail
        refine (hcall _).mono ?_
        rintro e w' ⟨rfl, rfl⟩
        go_wp2_with fail
        go_roundw
        case rel => exact ⟨k + 1, by omega, by go_num, E0.out, hw⟩
        case measure => simp [intOf]; omega
    · have e0 : xs.any p = false := by
        have h1 := HP.out
        rw [List.take_of_length_le (by have := hr.1; omega)] at h1
        exact h1
      have E0 := Lib.hid e0
      clear e0
      go_wp2_with fail
      go_ret
      exact ⟨.inr ⟨E0.out, rfl⟩, hw⟩
theorem containsf_any (g : Nat) (p : ByteArray → Bool) (eg : ∀ args w, (callFunc g args).run Tryd.prog w = .ok (.enter g args) w)
    (hp : ∀ (x : ByteArray) (w : World), Calls Tryd.prog g #[.string x] w fun e w' => e = .returned (.bool (p x)) ∧ w = w')
    (A : Option Addr) (n c : Nat) (xs : List ByteArray) (w : World) (hn : n ≤ maxLen) (hr : Rds S 1 enStr A n xs) (h : Own E w (Hp.ro S :: L)) :
    Calls Tryd.prog 89 #[.slice A n c, .func (.func g) #[] #[]] w fun e w' => e = .returned (.bool (xs.any p)) ∧ Own E w' (Hp.ro S :: L) := by
  have hcall := indexf_any g p eg hp A n c xs w hn hr h
  clear hp h
  generalize xs.any p = r at *
  cases r with
  | true =>
    go_enter Tryd.func89, Tryd.ntmps89
    go_wp2_with fail
    refine hcall.mono ?_
    rintro e w1 ⟨⟨-, k, rfl⟩ | ⟨h1, -⟩, hw⟩
    · have j0 : (0 : Int) ≤ (k : Int) := by omega
      go_wp2_with fail
      go_ret
      exact ⟨rfl, hw⟩
    · cases h1
  | false =>
    go_enter Tryd.func89, Tryd.ntmps89
    go_wp2_with fail
    refine hcall.mono ?_
    rintro e w1 ⟨⟨h1, -⟩ | ⟨-, rfl⟩, hw⟩
    · cases h1
    · go_wp2_with fail
      go_ret
      exact ⟨rfl, hw⟩
theorem enters_body {P : Program} {f : FuncId} {fn : Func} {c : Code} (hf : P.funcs[f]? = some fn) (hname : (fn.name == "runtime.NumGoroutine") = false) (hb : fn.body = some c) : ∀ (args : Array Value) (w : World), (callFunc f args).run P w = .ok (.enter f args) w := fun args w => by
  have h1 : fn.name ≠ "runtime.NumGoroutine" := by simpa using hname
  simp [callFunc, hf, h1, hb, mark]
theorem any_not {α : Type} (p : α → Bool) : ∀ l : List α, (l.any fun x => !p x) = !l.all p
  | [] => rfl
  | a :: l => by simp [any_not p l]
theorem maybe_any (A : Option Addr) (n c : Nat) (xs : List ByteArray) (w : World) (hn : n ≤ maxLen) (hr : Rds S 1 enStr A n xs) (h : Own E w (Hp.ro S :: L)) :
    Calls Tryd.prog 63 #[.slice A n c] w fun e w' => e = .returned (.bool (mayB xs)) ∧ Own E w' (Hp.ro S :: L) := by
  have eg : ∀ args w, (callFunc 90 args).run Tryd.prog w = .ok (.enter 90 args) w := enters_body Tryd.func90 (by kernel_rfl) rfl
  have hcall := containsf_any 90 (fun x => !isKeyB x) eg nokey_any A n c xs w hn hr h
  rw [any_not] at hcall
  have HR : ∀ w, Own E w (Hp.ro S :: L) → Calls Tryd.prog 38 #[.slice A n c] w fun e w' => e = .returned (.bool (risesB xs)) ∧ Own E w' (Hp.ro S :: L) := fun w => rises_any A n c xs w hn hr
  unfold mayB
  clear h eg
  cases hk : xs.all isKeyB with
  | true =>
    rw [hk] at hcall
    clear hk
    generalize risesB xs = r at *
    go_enter Tryd.func63, Tryd.ntmps63
    go_wp2_with fail
    refine hcall.mono ?_
    rintro e w1 ⟨rfl, hw⟩
    go_wp2_with fail
    refine (HR _ hw).mono ?_
    rintro e w2 ⟨rfl, hw2⟩
    go_wp2_with fail
    go_ret
    exact ⟨rfl, hw2⟩
  | false =>
    rw [hk] at hcall
    clear hk HR
    go_enter Tryd.func63, Tryd.ntmps63
    go_wp2_with fail
    refine hcall.mono ?_
    rintro e w1 ⟨rfl, hw⟩
    go_wp2_with fail
    go_ret
    exact ⟨rfl, hw⟩
end
end Go.Proofs.YtbclmmneiphcaaaDoor
