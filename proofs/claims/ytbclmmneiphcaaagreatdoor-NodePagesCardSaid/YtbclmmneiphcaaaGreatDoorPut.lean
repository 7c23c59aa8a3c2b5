/- latchkeylaw10.Book.put (printed by gen_put.py). -/
import Derived.Test.YtbclmmneiphcaaaGreatDoorXForm
import Derived.Test.YtbclmmneiphcaaaGreatDoorJoin2
import Derived.Test.YtbclmmneiphcaaaGreatDoorApart1
namespace Go.Proofs.YtbclmmneiphcaaaGreatDoor
open Go.RowKit
/-- The book's lists are few, and none is longer than the bound. -/
structure BkOk (B : Bk) (k : Nat) : Prop where
  t : B.t.length ≤ k
  n : B.n.length ≤ k
  xt : ∀ r ∈ B.t, r.xs.length ≤ 4294967296
  xn : ∀ r ∈ B.n, r.xs.length ≤ 4294967296
theorem BkOk.nil (k : Nat) : BkOk Bk.nil k := ⟨Nat.zero_le _, Nat.zero_le _, fun _ h => (nomatch h), fun _ h => (nomatch h)⟩
theorem BkOk.addN {B : Bk} {k : Nat} (h : BkOk B k) (q c : Nv) {n : Nd} (hb : n.bulk ≤ 4294967290) : BkOk (B.addN q c n) (k + 2) := by
  obtain ⟨h1, h2, h3, h4⟩ := h
  unfold Nd.bulk at hb
  refine ⟨?_, ?_, ?_, ?_⟩
  · simp only [Bk.addN, List.length_append, List.length_cons, List.length_nil]; omega
  · simp only [Bk.addN, List.length_append, List.length_cons, List.length_nil]; omega
  · intro r hr
    simp only [Bk.addN, List.mem_append, List.mem_singleton] at hr
    rcases hr with (hr | rfl) | rfl
    · exact h3 r hr
    · show n.ks.length ≤ _; omega
    · show n.vs.length ≤ _; omega
  · intro r hr
    simp only [Bk.addN, List.mem_append, List.mem_singleton] at hr
    rcases hr with hr | rfl
    · exact h4 r hr
    · show n.ls.length ≤ _; omega
theorem Own.alloc4 {E w : World} {L : List Hp} (h : Own E w L) (o o2 o3 o4 : Obj) : Own E ((((w.alloc o).alloc o2).alloc o3).alloc o4) (Hp.obj (w.heap.size + 3) o4 :: Hp.obj (w.heap.size + 2) o3 :: Hp.obj (w.heap.size + 1) o2 :: Hp.obj w.heap.size o :: L) := by
  have h2 := (h.alloc3 o o2 o3).alloc o4
  rwa [alloc_size, alloc_size, alloc_size] at h2
theorem node_cells {E w : World} {g : Nat} {t : TypeId} {x0 x1 x2 x3 : Value} (h : ∃ L, Own E w (Hp.blk g t #[x0, x1, x2, x3] :: L)) : w.cell? ⟨g, 0, none⟩ = some x0 ∧ w.cell? ⟨g, 1, none⟩ = some x1 ∧ w.cell? ⟨g, 2, none⟩ = some x2 ∧ w.cell? ⟨g, 3, none⟩ = some x3 := by
  obtain ⟨_, h⟩ := h
  exact ⟨h.cell 0, h.cell 1, h.cell 2, h.cell 3⟩
section
variable {E : World} {S : Ph} {L : List Hp}
theorem nodes_own (q u : Nv) (n : Nd) (w : World) (hb : n.bulk ≤ 1125899906842624) (h : Own E w (Hp.node (q.val n) n :: Hp.node (u.val n) n :: Hp.ro S :: L)) :
    Calls Tryz.prog 25 #[q.val n, u.val n] w fun e w' => e = .returned (.bool true) ∧ Own E w' (Hp.node (q.val n) n :: Hp.node (u.val n) n :: Hp.ro S :: L) := by
  have h : Own E w (Hp.node (u.val n) n :: Hp.ro S :: Hp.node (q.val n) n :: L) := h.ac (by simp only [Hp.all] <;> ac_rfl)
  obtain ⟨a, ha, da, h⟩ := h.lend
  obtain ⟨a2, ha2, da2, h⟩ := h.f1.lend
  obtain ⟨u', hu, hin⟩ := node_in ha
  obtain rfl := Nv.val_inj hu
  obtain ⟨q', hq, hin2⟩ := node_in ha2
  obtain rfl := Nv.val_inj hq
  refine (nodes_same q u n w hb (hin2.sub Ph.join_l) ((hin.sub Ph.join_l).sub (Ph.join_r da2)) h).mono ?_
  rintro e w' ⟨rfl, h⟩
  have h := Own.give ha da (Own.give ha2 da2 h).f1
  exact ⟨rfl, h.ac (by simp only [Hp.all] <;> ac_rfl)⟩
end
end Go.Proofs.YtbclmmneiphcaaaGreatDoor
