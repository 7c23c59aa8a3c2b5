/- An argument that is a node. -/
import Derived.Test.YtbclmmneiphcaaaDoorNest
import Derived.Test.YtbclmmneiphcaaaDoorAwake10
namespace Go.Proofs.YtbclmmneiphcaaaDoor
open Go.ChangeShapes Go.WideShapes Go.ChangeAt Go.RowKit Go.Deep
/-- No list and no text of it is greater than memory. -/
structure NdSm (n : Nd) : Prop where
  k : ∀ s ∈ n.ks, s.size ≤ reachBytes
  v : ∀ s ∈ n.vs, s.size ≤ reachBytes
  nk : n.ks.length ≤ reachBytes
  nv : n.vs.length ≤ reachBytes
  nl : n.ls.length ≤ reachBytes
set_option maxRecDepth 100000 in
theorem arg_node {H : Type} {enc : TypeId × Value → H} {W : World} {base : Nat} {v : Value} {d : DataW H} {p : List MemPlace} (hv : Value.okWide Tryd.prog W .any base NT v)
    (h : DataW.Trod enc Tryd.prog W 0 (fun _ => true) true NT v d p) (hB : (d.weights Tryd.prog NT).all (· ≤ reachBytes) = true) : ∃ (q : Nv) (n : Nd), v = q.val n ∧ NdIn (Ph.of W) q n ∧ NdSm n := by
  obtain ⟨cs, rfl⟩ : ∃ cs, v = .agg cs := by
    simp only [Value.okWide, Tryd.underlying25] at hv
    obtain ⟨cs, h1, _⟩ := hv
    exact ⟨cs, h1⟩
  obtain ⟨l⟩ := cs
  obtain ⟨fuel, hf⟩ := h
  obtain ⟨m, ys, h1, h2, h3, hfl⟩ := el_struct Tryd.underlying25 (by kernel_rfl) (by kernel_rfl) fuel l (d, p) hf
  dsimp only at h3
  subst h3
  unfold DataW.weights at hB
  simp only [Tryd.underlying25] at hB
  match l, h1, ys, h2 with
  | [c0, c1, c2, c3], _, [y0, y1, y2, y3], _ =>
    obtain ⟨b, e0, -⟩ := el_bool (by kernel_rfl) _ _ _ (hfl 0 _ c0 y0 rfl rfl rfl)
    obtain ⟨A1, n1, k1, xs1, e1, a1, a2, a3, -, a5, a6⟩ := el_slice (en := enStr) (dat := fun z => DataW.lit (.string z.data.toList)) (Wf := fun z => z.size ≤ maxLen) (t := LST) (e := ST) (size := 1) (by kernel_rfl) (by kernel_rfl) (by decide) (fun _ => rfl) (el_str (by kernel_rfl)) _ _ _ (hfl 1 _ c1 y1 rfl rfl rfl)
    obtain ⟨A2, n2, k2, xs2, e2, b1, b2, b3, -, b5, b6⟩ := el_slice (en := enStr) (dat := fun z => DataW.lit (.string z.data.toList)) (Wf := fun z => z.size ≤ maxLen) (t := LST) (e := ST) (size := 1) (by kernel_rfl) (by kernel_rfl) (by decide) (fun _ => rfl) (el_str (by kernel_rfl)) _ _ _ (hfl 2 _ c2 y2 rfl rfl rfl)
    obtain ⟨A3, n3, k3, xs3, e3, c1', c2', c3', -, c5, c6⟩ := el_slice (en := en64) (dat := fun z => DataW.lit (.int .i64 z)) (Wf := fun _ => True) (t := LIT) (e := IT) (size := 1) (by kernel_rfl) (by kernel_rfl) (by decide) (fun _ => rfl)
      (fun n cs y hh => by
        obtain ⟨q, a1, a2, a3⟩ := el_int (k := .i64) (by kernel_rfl) n cs y hh
        exact ⟨q, a1, a2, trivial⟩) _ _ _ (hfl 3 _ c3 y3 rfl rfl rfl)
    injection e0 with e0
    injection e1 with e1
    injection e2 with e2
    injection e3 with e3
    subst e0 e1 e2 e3
    have w1 := a5 reachBytes (weightsEach_get hB 1 rfl rfl)
    have w2 := b5 reachBytes (weightsEach_get hB 2 rfl rfl)
    have w3 := c5 reachBytes (weightsEach_get hB 3 rfl rfl)
    have z1 : Tryd.prog.bytesOf ST = 16 := by kernel_rfl
    have z3 : Tryd.prog.bytesOf IT = 8 := by kernel_rfl
    rw [z1] at w1 w2
    rw [z3] at w3
    have i1 := a3.1
    have i2 := b3.1
    have i3 := c3'.1
    refine ⟨⟨A1, k1, A2, k2, A3, k3⟩, ⟨b, xs1, xs2, xs3⟩, ?_, ⟨by rw [i1]; exact a3, by rw [i2]; exact b3, by rw [i3]; exact c3', by rw [i1]; exact a1, by rw [i2]; exact b1, by rw [i3]; exact c1', a2, b2, c2'⟩, ⟨fun s hs => string_size (w1.2 s hs), fun s hs => string_size (w2.2 s hs), by show xs1.length ≤ _; omega, by show xs2.length ≤ _; omega, by show xs3.length ≤ _; omega⟩⟩
    show Value.agg #[.bool b, .slice A1 n1 k1, .slice A2 n2 k2, .slice A3 n3 k3] = Value.agg #[.bool b, .slice A1 xs1.length k1, .slice A2 xs2.length k2, .slice A3 xs3.length k3]
    rw [i1, i2, i3]
end Go.Proofs.YtbclmmneiphcaaaDoor
