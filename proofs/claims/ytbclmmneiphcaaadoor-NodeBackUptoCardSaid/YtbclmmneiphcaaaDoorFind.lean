/- node.Find. -/
import Derived.Test.YtbclmmneiphcaaaDoorSame
import Derived.Test.YtbclmmneiphcaaaDoorSearch
namespace Go.Proofs.YtbclmmneiphcaaaDoor
open Go.RowKit
/-- Find: the place, and is it the key's? -/
def Nd.find (n : Nd) (key : ByteArray) : Nat × Bool :=
  if risesB n.ks then if n.leaf then (plN n.ks key, isAt n.ks (plN n.ks key) key) else (plN n.ks key + (if isAt n.ks (plN n.ks key) key then 1 else 0), false) else (0, false)
section
variable {E : World} {S : Ph} {L : List Hp}
set_option maxRecDepth 100000 in
set_option maxHeartbeats 2000000 in
theorem find_any (v : Nv) (n : Nd) (key : ByteArray) (w : World) (hb : n.bulk ≤ 1125899906842624) (hi : NdIn S v n) (h : Own E w (Hp.ro S :: L)) :
    Calls Tryd.prog 12 #[v.val n, .string key] w fun e w' => e = .returned (.tuple #[.int .i64 (n.find key).1, .bool (n.find key).2]) ∧ Own E w' (Hp.ro S :: L) := by
  obtain ⟨a1, c1, a2, c2, a3, c3⟩ := v
  obtain ⟨leaf, ks, vs, ls⟩ := n
  obtain ⟨l1, l2, l3⟩ := Nd.lens hb
  obtain ⟨r1, -, -, -, -, -, -, -, -⟩ := hi
  dsimp only [Nv.val] at *
  have h1 : Own E _ (Hp.blk w.heap.size NT #[.bool leaf, .slice a1 ks.length c1, .slice a2 vs.length c2, .slice a3 ls.length c3] :: Hp.ro S :: L) := h.alloc _
  have k1 := fun w M hw => rises_any (E := E) (L := M) a1 ks.length c1 ks w (by unfold maxLen; omega) r1 hw
  have k2 := fun hs w M hw => bs_any (E := E) (L := M) a1 ks.length c1 ks key w (by omega) r1 hs hw
  have hpl : plN ks key ≤ ks.length := plN_le ks key
  have hf : Nd.find ⟨leaf, ks, vs, ls⟩ key = if risesB ks then if leaf then (plN ks key, isAt ks (plN ks key) key) else (plN ks key + (if isAt ks (plN ks key) key then 1 else 0), false) else (0, false) := rfl
  rw [hf]
  generalize risesB ks = rb at *
  generalize isAt ks (plN ks key) key = ia at *
  generalize plN ks key = p at *
  generalize ks.length = nk at *
  generalize vs.length = nv at *
  generalize ls.length = nl at *
  have j1 : IntKind.i64.wrap ((p : Int) + 1) = ((p + 1 : Nat) : Int) := IntWalk.i64_in _ (by omega)
  obtain ⟨g, hg⟩ : ∃ g, g = w.heap.size := ⟨_, rfl⟩
  rw [← hg] at h1
  have H1 := Lib.hid h1
  have K1 := Lib.hid k1
  have K2 := Lib.hid k2
  clear h h1 k1 k2 l1 l2 l3 r1 hb hf hpl
  cases rb with
  | false =>
    go_enter Tryd.func12, Tryd.ntmps12
    go_wp2_with fail
    rw [← hg]
    clear hg
    refine (K1.out _ _ H1.out.f1).mono ?_
    rintro e w1 ⟨rfl, h1⟩
    go_wp2_with fail
    go_ret2
    exact ⟨rfl, h1.f1.drop⟩
  | true =>
    cases leaf <;> cases ia
    all_goals
      go_enter Tryd.func12, Tryd.ntmps12
      go_wp2_with fail
      rw [← hg]
      clear hg
      refine (K1.out _ _ H1.out.f1).mono ?_
      rintro e w1 ⟨rfl, h1⟩
      have q1 := h1.f1.cell 1
      have H2 := Lib.hid h1
      clear h1
      go_wp2_with fail
      refine (K2.out (by first | rfl | trivial) _ _ H2.out).mono ?_
      rintro e w2 ⟨rfl, h1⟩
      have q0 := h1.f1.cell 0
      have H3 := Lib.hid h1
      clear h1 q1
      go_wp2_with fail
      go_ret2
      exact ⟨rfl, H3.out.f1.drop⟩
end
end Go.Proofs.YtbclmmneiphcaaaDoor
