/- node.formed, node.wrong. -/
import Derived.Test.YtbclmmneiphcaaaDoorRight
namespace Go.Proofs.YtbclmmneiphcaaaDoor
open Go.RowKit
theorem long_all (vs : List ByteArray) : (vs.all fun s => decide (s.size ≤ 200)) = !(vs.any fun x => decide (200 < x.size)) := by
  induction vs with
  | nil => rfl
  | cons a l ih =>
    have e : decide (a.size ≤ 200) = !decide (200 < a.size) := by by_cases h : 200 < a.size <;> simp [h] <;> omega
    rw [List.all_cons, List.any_cons, ih, Bool.not_or, e]
section
variable {E : World} {S : Ph} {L : List Hp}
set_option maxRecDepth 100000 in
set_option maxHeartbeats 2000000 in
theorem formed_any (v : Nv) (n : Nd) (least : Nat) (w : World) (hb : n.bulk ≤ 1125899906842624) (hi : NdIn S v n) (h : Own E w (Hp.ro S :: L)) :
    Calls Tryd.prog 62 #[v.val n, .int .i64 least] w fun e w' => e = .returned (.bool (n.formed least)) ∧ Own E w' (Hp.ro S :: L) := by
  obtain ⟨leaf, ks, vs, ls⟩ := n
  obtain ⟨a1, c1, a2, c2, a3, c3⟩ := v
  obtain ⟨r1, r2, r3, -, -, -, m1, m2, m3⟩ := hi
  have hb2 : sumSz ks + sumSz vs + ks.length + vs.length + ls.length ≤ 1125899906842624 := hb
  have hbk : ks.length ≤ 1125899906842624 ∧ vs.length ≤ 1125899906842624 ∧ ls.length ≤ 1125899906842624 := by omega
  clear hb hb2
  dsimp only [Nv.val] at r1 r2 r3 ⊢
  cases leaf with
  | true =>
    have e0 : Nd.formed ⟨true, ks, vs, ls⟩ least = (decide (least ≤ ks.length ∧ vs.length = ks.length ∧ ls.length = 0) && !(vs.any fun x => decide (200 < x.size))) := by rw [← long_all]; rfl
    rw [e0]
    clear e0 r1 r3
    generalize ks.length = nk at *
    generalize vs.length = nv at *
    generalize ls.length = nl at *
    obtain ⟨hbk1, hbk2, hbk3⟩ := hbk
    have eg : ∀ args w, (callFunc 88 args).run Tryd.prog w = .ok (.enter 88 args) w := enters_body Tryd.func88 (by kernel_rfl) rfl
    have hcall := containsf_any (L := Hp.blk w.heap.size NT #[.bool true, .slice a1 nk c1, .slice a2 nv c2, .slice a3 nl c3] :: L) 88 (fun x => decide (200 < x.size)) eg long_any a2 nv c2 vs (w.alloc (.cells #[.bool true, .slice a1 nk c1, .slice a2 nv c2, .slice a3 nl c3] NT)) (by unfold maxLen; omega) r2 (h.alloc _).f1
    have h1 := (h.alloc (.cells #[.bool true, .slice a1 nk c1, .slice a2 nv c2, .slice a3 nl c3] NT)).drop
    clear eg r2
    generalize (vs.any fun x => decide (200 < x.size)) = r at *
    by_cases p1 : least ≤ nk
    · by_cases p2 : nv = nk
      · by_cases p3 : nl = 0
        · have e1 : (decide (least ≤ nk ∧ nv = nk ∧ nl = 0) && !r) = !r := by simp [p1, p2, p3]
          rw [e1]
          clear e1
          subst p2 p3
          go_enter Tryd.func62, Tryd.ntmps62
          go_wp2_with fail
          refine hcall.mono ?_
          rintro e w1 ⟨rfl, hw⟩
          cases r
          all_goals
            go_wp2_with fail
            go_ret
            exact ⟨rfl, hw.f1.drop⟩
        · have e1 : (decide (least ≤ nk ∧ nv = nk ∧ nl = 0) && !r) = false := by simp [p3]
          rw [e1]
          have p3i : ¬ (nl : Int) = 0 := by omega
          clear e1 hcall
          subst p2
          go_enter Tryd.func62, Tryd.ntmps62
          go_wp2_with fail
          go_ret
          exact ⟨rfl, h1⟩
      · have e1 : (decide (least ≤ nk ∧ nv = nk ∧ nl = 0) && !r) = false := by simp [p2]
        rw [e1]
        have p2i : ¬ (nv : Int) = nk := by omega
        clear e1 hcall
        go_enter Tryd.func62, Tryd.ntmps62
        go_wp2_with fail
        go_ret
        exact ⟨rfl, h1⟩
    · have e1 : (decide (least ≤ nk ∧ nv = nk ∧ nl = 0) && !r) = false := by simp [p1]
      rw [e1]
      have p1i : ¬ (least : Int) ≤ nk := by omega
      clear e1 hcall
      go_enter Tryd.func62, Tryd.ntmps62
      go_wp2_with fail
      go_ret
      exact ⟨rfl, h1⟩
  | false =>
    have e0 : Nd.formed ⟨false, ks, vs, ls⟩ least = (decide (1 ≤ ks.length ∧ ls.length = ks.length + 1 ∧ vs.length = 0) && kidsB ls) := rfl
    rw [e0]
    clear e0 r1 r2
    generalize ks.length = nk at *
    generalize vs.length = nv at *
    generalize ls.length = nl at *
    obtain ⟨hbk1, hbk2, hbk3⟩ := hbk
    have hcall := unlike_any (L := Hp.blk w.heap.size NT #[.bool false, .slice a1 nk c1, .slice a2 nv c2, .slice a3 nl c3] :: L) a3 nl c3 ls (w.alloc (.cells #[.bool false, .slice a1 nk c1, .slice a2 nv c2, .slice a3 nl c3] NT)) hbk3 r3 (h.alloc _).f1
    have h1 := (h.alloc (.cells #[.bool false, .slice a1 nk c1, .slice a2 nv c2, .slice a3 nl c3] NT)).drop
    clear r3
    generalize kidsB ls = r at *
    by_cases p1 : 1 ≤ nk
    · have p1i : (1 : Int) ≤ nk := by omega
      by_cases p2 : nl = nk + 1
      · subst p2
        have p2w : IntKind.i64.wrap ((nk : Int) + 1) = (nk : Int) + 1 := IntWalk.i64_in _ (by omega)
        by_cases p3 : nv = 0
        · have e1 : (decide (1 ≤ nk ∧ nk + 1 = nk + 1 ∧ nv = 0) && r) = r := by simp [p1, p3]
          rw [e1]
          clear e1
          subst p3
          go_enter Tryd.func62, Tryd.ntmps62
          go_wp2_with fail
          refine hcall.mono ?_
          rintro e w1 ⟨rfl, hw⟩
          cases r
          all_goals
            go_wp2_with fail
            go_ret
            exact ⟨rfl, hw.f1.drop⟩
        · have e1 : (decide (1 ≤ nk ∧ nk + 1 = nk + 1 ∧ nv = 0) && r) = false := by simp [p3]
          rw [e1]
          have p3i : ¬ (nv : Int) = 0 := by omega
          clear e1 hcall
          go_enter Tryd.func62, Tryd.ntmps62
          go_wp2_with fail
          go_ret
          exact ⟨rfl, h1⟩
      · have e1 : (decide (1 ≤ nk ∧ nl = nk + 1 ∧ nv = 0) && r) = false := by simp [p2]
        rw [e1]
        have p2i : ¬ (nl : Int) = (nk : Int) + 1 := by omega
        have p2w : IntKind.i64.wrap ((nk : Int) + 1) = (nk : Int) + 1 := IntWalk.i64_in _ (by omega)
        clear e1 hcall
        go_enter Tryd.func62, Tryd.ntmps62
        go_wp2_with fail
        go_ret
        exact ⟨rfl, h1⟩
    · have e1 : (decide (1 ≤ nk ∧ nl = nk + 1 ∧ nv = 0) && r) = false := by simp [p1]
      rw [e1]
      have p1i : ¬ (1 : Int) ≤ nk := by omega
      clear e1 hcall
      go_enter Tryd.func62, Tryd.ntmps62
      go_wp2_with fail
      go_ret
      exact ⟨rfl, h1⟩
set_option maxHeartbeats 2000000 in
theorem wrong_any (v : Nv) (n : Nd) (w : World) (hb : n.bulk ≤ 1125899906842624) (hi : NdIn S v n) (h : Own E w (Hp.ro S :: L)) :
    Calls Tryd.prog 48 #[v.val n] w fun e w' => e = .returned (.int .i64 n.wrong) ∧ Own E w' (Hp.ro S :: L) := by
  have h1 := h.alloc (.cells #[.bool n.leaf, .slice v.a1 n.ks.length v.c1, .slice v.a2 n.vs.length v.c2, .slice v.a3 n.ls.length v.c3] NT)
  have hf := fun (B : Hp) w (hw : Own E w (Hp.ro S :: B :: L)) => formed_any v n 1 w hb hi hw
  have hm := fun (B : Hp) w (hw : Own E w (Hp.ro S :: B :: L)) => maybe_any v.a1 n.ks.length v.c1 n.ks w (Nat.le_trans hi.h1 hi.m1) hi.r1 hw
  have hs := fun (B : Hp) w (hw : Own E w (Hp.ro S :: B :: L)) => size_any v n w hb hi hw
  have hsz : n.size ≤ 5 * 1125899906842624 := Nat.le_trans n.size_le (by omega)
  have e0 : n.wrong = if n.formed 1 then if mayB n.ks then if 480 < n.size then 102 else 0 else 101 else 100 := rfl
  rw [e0]
  clear hi hb h e0
  dsimp only [Nv.val] at hf hs ⊢
  generalize n.formed 1 = r1 at *
  generalize mayB n.ks = r2 at *
  generalize n.size = sz at *
  generalize n.ks.length = nk at *
  generalize n.vs.length = nv at *
  generalize n.ls.length = nl at *
  generalize n.leaf = leaf at *
  generalize v.a1 = a1 at *
  generalize v.a2 = a2 at *
  generalize v.a3 = a3 at *
  generalize v.c1 = c1 at *
  generalize v.c2 = c2 at *
  generalize v.c3 = c3 at *
  have H1 := Lib.hid h1
  have HF := Lib.hid hf
  have HM := Lib.hid hm
  have HS := Lib.hid hs
  clear h1 hf hm hs
  go_enter Tryd.func48, Tryd.ntmps48
  go_wp2_with fail
  refine (HF.out _ _ H1.out.f1).mono ?_
  rintro e w1 ⟨rfl, hw⟩
  have f0 := hw.f1.cell 0
  have f1 := hw.f1.cell 1
  have f2 := hw.f1.cell 2
  have f3 := hw.f1.cell 3
  cases r1 with
  | false =>
    go_wp2_with fail
    go_ret
    exact ⟨rfl, hw.f1.drop⟩
  | true =>
    have HW := Lib.hid hw
    clear hw
    go_wp2_with fail
    refine (HM.out _ _ HW.out).mono ?_
    rintro e w2 ⟨rfl, hw⟩
    clear f0 f1 f2 f3 HW
    have f0 := hw.f1.cell 0
    have f1 := hw.f1.cell 1
    have f2 := hw.f1.cell 2
    have f3 := hw.f1.cell 3
    cases r2 with
    | false =>
      go_wp2_with fail
      go_ret
      exact ⟨rfl, hw.f1.drop⟩
    | true =>
      have HW := Lib.hid hw
      clear hw
      go_wp2_with fail
      refine (HS.out _ _ HW.out).mono ?_
      rintro e w3 ⟨rfl, hw⟩
      clear f0 f1 f2 f3 HW
      by_cases hq : 480 < sz
      · have hqi : (480 : Int) < sz := by omega
        go_wp2_with fail
        go_ret
        refine ⟨ret_i64 ?_, hw.f1.drop⟩
        simp
      · have hqi : ¬ (480 : Int) < sz := by omega
        go_wp2_with fail
        go_ret
        refine ⟨ret_i64 ?_, hw.f1.drop⟩
        simp
end
end Go.Proofs.YtbclmmneiphcaaaDoor
