/- latchkeylaw10.spare, whole. -/
import Derived.Test.YtbclmmneiphcaaaDoorLent2
namespace Go.Proofs.YtbclmmneiphcaaaDoor
open Go.RowKit
section
variable {E : World} {S : Ph} {L : List Hp}
set_option maxRecDepth 100000 in
set_option maxHeartbeats 4000000 in
theorem spare_any (gk gv gl : Nat) (n : Nd) (w : World) (hb : n.bulk ≤ 4294967290) (hp : SpareIn S gk gv gl n) (h : Own E w (Hp.ro S :: L)) :
    Calls Tryd.prog 41 #[.slice (some ⟨gk, 0, none⟩) n.ks.length (n.ks.length + 4), .slice (some ⟨gv, 0, none⟩) n.vs.length (n.vs.length + 4), .slice (some ⟨gl, 0, none⟩) n.ls.length (n.ls.length + 4)] w fun e w' => e = .returned (.bool true) ∧ Own E w' (Hp.ro S :: L) := by
  obtain ⟨p1, p2, p3⟩ := hp
  obtain ⟨l1, l2, l3⟩ : n.ks.length ≤ 4294967290 ∧ n.vs.length ≤ 4294967290 ∧ n.ls.length ≤ 4294967290 := by unfold Nd.bulk at hb; omega
  generalize n.ks.length = nk at *
  generalize n.vs.length = nv at *
  generalize n.ls.length = nl at *
  have a1 : IntKind.i64.wrap ((nk : Int) + 4) = (nk : Int) + 4 := IntWalk.i64_in _ (by omega)
  have a2 : IntKind.i64.wrap ((nv : Int) + 4) = (nv : Int) + 4 := IntWalk.i64_in _ (by omega)
  have a3 : IntKind.i64.wrap ((nl : Int) + 4) = (nl : Int) + 4 := IntWalk.i64_in _ (by omega)
  have b1 : ((nk : Int) + 4).toNat = nk + 4 := by omega
  have b2 : ((nv : Int) + 4).toNat = nv + 4 := by omega
  have b3 : ((nl : Int) + 4).toNat = nl + 4 := by omega
  have c1 : nk + 4 - nk = 4 := by omega
  have c2 : nv + 4 - nv = 4 := by omega
  have c3 : nl + 4 - nl = 4 := by omega
  have d1 : (nk : Int) ≤ (nk : Int) + 4 := by omega
  have d2 : (nv : Int) ≤ (nv : Int) + 4 := by omega
  have d3 : (nl : Int) ≤ (nl : Int) + 4 := by omega
  have e1 : ¬ nk + 4 = nk := by omega
  have e2 : ¬ nv + 4 = nv := by omega
  have e3 : ¬ nl + 4 = nl := by omega
  have P1 := Lib.hid p1
  have P2 := Lib.hid p2
  have P3 := Lib.hid p3
  clear p1 p2 p3 hb
  go_enter Tryd.func41, Tryd.ntmps41
  go_wp2_with fail
  go_loopw [10] (fun i wr => ∃ k : Nat, k ≤ 4 ∧ i = .int .i64 k ∧ Own E wr (Hp.ro S :: L)) (fun i _ => 4 - (intOf i).toNat)
  case atStart => exact ⟨0, by omega, rfl, h⟩
  case round =>
    obtain ⟨k, hk, rfl, hw⟩ := hrel
    clear h
    have HW := Lib.hid hw
    by_cases hlt : k < 4
    · have hlti : (k : Int) < 4 := by omega
      have q1 := hw.rd (P1.out k hlt)
      have q2 := hw.rd (P2.out k hlt)
      have q3 := hw.rd (P3.out k hlt)
      clear hw
      go_wp2_with fail
      go_roundw
      case rel => exact ⟨k + 1, by omega, by go_num, HW.out⟩
      case measure => simp [intOf]; omega
    · obtain rfl : k = 4 := by omega
      clear hw
      go_wp2_with fail
      go_ret
      exact ⟨rfl, HW.out⟩
set_option maxRecDepth 100000 in
set_option maxHeartbeats 4000000 in
theorem whole_any (gk gv gl : Nat) (u : Nv) (n : Nd) (w : World) (hb : n.bulk ≤ 4294967290) (hi : NdIn S (lentV gk gv gl n) n) (hp : SpareIn S gk gv gl n) (hj : NdIn S u n) (h : Own E w (Hp.ro S :: L)) :
    Calls Tryd.prog 14 #[(lentV gk gv gl n).val n, u.val n] w fun e w' => e = .returned (.bool true) ∧ Own E w' (Hp.ro S :: L) := by
  have k1 := fun w M hw => nodes_same (E := E) (L := M) (lentV gk gv gl n) u n w (by omega) hi hj hw
  have k2 := fun w M hw => spare_any (E := E) (L := M) gk gv gl n w hb hp hw
  obtain ⟨b1, d1, b2, d2, b3, d3⟩ := u
  obtain ⟨leaf, ks, vs, ls⟩ := n
  dsimp only [Nv.val, lentV] at *
  have h1 : Own E _ (Hp.blk (w.heap.size + 1) NT #[.bool leaf, .slice b1 ks.length d1, .slice b2 vs.length d2, .slice b3 ls.length d3] :: Hp.blk w.heap.size NT #[.bool leaf, .slice (some ⟨gk, 0, none⟩) ks.length (ks.length + 4), .slice (some ⟨gv, 0, none⟩) vs.length (vs.length + 4), .slice (some ⟨gl, 0, none⟩) ls.length (ls.length + 4)] :: Hp.ro S :: L) := h.alloc2 _ _
  generalize ks.length = nk at *
  generalize vs.length = nv at *
  generalize ls.length = nl at *
  obtain ⟨g, hg⟩ : ∃ g, g = w.heap.size := ⟨_, rfl⟩
  rw [← hg] at h1
  have H1 := Lib.hid h1
  have K1 := Lib.hid k1
  have K2 := Lib.hid k2
  clear h h1 k1 k2 hi hp hj hb
  go_enter Tryd.func14, Tryd.ntmps14
  go_wp2_with fail
  rw [← hg]
  clear hg
  with_reducible refine (K1.out _ _ H1.out.f2).mono ?_
  rintro e w1 ⟨rfl, h⟩
  have q1 := h.f2.cell 1
  have q2 := h.f2.cell 2
  have q3 := h.f2.cell 3
  have H := Lib.hid h
  clear h H1
  go_wp2_with fail
  with_reducible refine (K2.out _ _ H.out).mono ?_
  rintro e w2 ⟨rfl, h⟩
  have H2 := Lib.hid h
  clear h H q1 q2 q3
  go_wp2_with fail
  go_ret
  exact ⟨rfl, H2.out.f2.drop.f1.drop⟩
end
end Go.Proofs.YtbclmmneiphcaaaDoor
