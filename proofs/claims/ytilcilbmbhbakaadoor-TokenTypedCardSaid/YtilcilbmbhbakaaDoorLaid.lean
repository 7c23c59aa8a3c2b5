/- What the four listed variables give a walk (three sentinels and errors.errorType), and a world that meets the condition. -/
import Derived.Test.YtilcilbmbhbakaaDoorLaidLaw
import Derived.Stop.LaidErr
import Derived.Stop.LaidTwo
namespace Go.Proofs.YtilcilbmbhbakaaDoor
open Go.ChangeShapes Go.WideShapes Go.ChangeAt Go.RowKit
theorem as_own : ownKnob Tryd.prog.godebug = none := by kernel_rfl
abbrev EPT : TypeId := 128
abbrev EST : TypeId := 148
/-- What the cell of errors.errorType holds. -/
abbrev errT : Value := .iface 90 (.agg #[.pointer (some ⟨4, 39, none⟩)])
/-- The listed variables. -/
abbrev laidE : List (String × DataW Unit) := [("errors.errorType", Rows.laid_errors_errorType), ("latchkey/token.errKind", Rows.laid_latchkey_token_errKind), ("latchkey/token.errForm", Rows.laid_latchkey_token_errForm), ("latchkey/token.errCheck", Rows.laid_latchkey_token_errCheck)]
abbrev sentE : List (String × DataW Unit) := [("latchkey/token.errKind", Rows.laid_latchkey_token_errKind), ("latchkey/token.errForm", Rows.laid_latchkey_token_errForm), ("latchkey/token.errCheck", Rows.laid_latchkey_token_errCheck)]
theorem g_kind : Tryd.prog.globalNamed "latchkey/token.errKind" = some 0 := by kernel_rfl
theorem g_form : Tryd.prog.globalNamed "latchkey/token.errForm" = some 1 := by kernel_rfl
theorem g_check : Tryd.prog.globalNamed "latchkey/token.errCheck" = some 2 := by kernel_rfl
theorem g_type (g : Nat) (hg : g = 0 ∨ g = 1 ∨ g = 2) : (Tryd.prog.globals[g]?).map (·.type) = some 39 := by rcases hg with rfl | rfl | rfl <;> kernel_rfl
theorem e_cells : Tryd.prog.cellsOf EST = 1 := by kernel_rfl
theorem s_cells : Tryd.prog.cellsOf 9 = 1 := by kernel_rfl
theorem e_star : "*" ++ "errors.errorString" = "*errors.errorString" := by decide
theorem e_row (u : TypeId) (h : Tryd.prog.typeName? 3 u = some "*errors.errorString") : u = EPT :=
  typeName_ptr_named (nm := "errors.errorString") (by rw [e_star]; kernel_rfl) (by kernel_rfl) (by decide) u (by rw [e_star]; exact h)
/-- Without the second of a list. -/
theorem laid_skip {P : Program} {x y : String × DataW Unit} {r : List (String × DataW Unit)} {w : World} (h : laidMet P (x :: y :: r) w) : laidMet P (x :: r) w := by
  obtain ⟨ps, hv, hnd, hrows⟩ := h
  obtain ⟨n, d⟩ := x
  obtain ⟨n', d'⟩ := y
  obtain ⟨g, t, cs, fuel, p, q, e1, e2, e3, e4, ⟨g', t', cs', fuel', p', q', _, _, _, _, hq, rfl⟩, rfl⟩ := hv
  refine ⟨_ ++ q', ⟨g, t, cs, fuel, p, q', e1, e2, e3, e4, hq, rfl⟩, List.Nodup.sublist (List.Sublist.append_left (List.sublist_append_right _ _) _) hnd, fun b off hm => hrows b off ?_⟩
  rcases List.mem_append.1 hm with hm | hm
  · exact List.mem_append_left _ hm
  · exact List.mem_append_right _ (List.mem_append_right _ hm)
abbrev sentV (a : Addr) : Value := .iface EPT (.pointer (some a))
theorem sentinels {W : World} (h0 : laidMetH Tryd.prog laidE W) : ∃ a0 a1 a2 : Addr, (W.cell? ⟨0, 0, none⟩ = some (sentV a0) ∧ W.cell? ⟨1, 0, none⟩ = some (sentV a1) ∧ W.cell? ⟨2, 0, none⟩ = some (sentV a2)) ∧ (a0 ≠ a1 ∧ a0 ≠ a2 ∧ a1 ≠ a2) ∧
    (∃ c t, W.heap[a0.block]? = some (.cells c t (0, 0))) ∧ (∃ c t, W.heap[a1.block]? = some (.cells c t (0, 0))) ∧ (∃ c t, W.heap[a2.block]? = some (.cells c t (0, 0))) := by
  have h' : laidMet Tryd.prog sentE W ∧ handlesMet Tryd.prog [("errors.errorType", Rows.laid_errors_errorType)] W := h0
  have h := h'.1
  obtain ⟨a0, a1, s0, s1, c0, c1, t0, t1, hv0, hv1, -, -, -, -, -, -, n01, hb0, hb1⟩ := laid_sentinels2 h g_kind (g_type 0 (.inl rfl)) g_form (g_type 1 (.inr (.inl rfl))) Tryd.underlying39 e_row Tryd.underlying128 Tryd.underlying148 rfl rfl Tryd.underlying9 e_cells s_cells
  obtain ⟨b1, a2, _, _, _, c2, _, t2, hw1, hv2, -, -, -, -, -, -, n12, -, hb2⟩ := laid_sentinels2 h.tail g_form (g_type 1 (.inr (.inl rfl))) g_check (g_type 2 (.inr (.inr rfl))) Tryd.underlying39 e_row Tryd.underlying128 Tryd.underlying148 rfl rfl Tryd.underlying9 e_cells s_cells
  obtain ⟨b0, b2, _, _, _, _, _, _, hu0, hu2, -, -, -, -, -, -, n02, -, -⟩ := laid_sentinels2 (laid_skip h) g_kind (g_type 0 (.inl rfl)) g_check (g_type 2 (.inr (.inr rfl))) Tryd.underlying39 e_row Tryd.underlying128 Tryd.underlying148 rfl rfl Tryd.underlying9 e_cells s_cells
  have q0 : W.cell? ⟨0, 0, none⟩ = some (sentV a0) := by simpa using World.var?_cell g_kind hv0 0
  have q1 : W.cell? ⟨1, 0, none⟩ = some (sentV a1) := by simpa using World.var?_cell g_form hv1 0
  have q2 : W.cell? ⟨2, 0, none⟩ = some (sentV a2) := by simpa using World.var?_cell g_check hv2 0
  have r1 : W.cell? ⟨1, 0, none⟩ = some (sentV b1) := by simpa using World.var?_cell g_form hw1 0
  have r0 : W.cell? ⟨0, 0, none⟩ = some (sentV b0) := by simpa using World.var?_cell g_kind hu0 0
  have r2 : W.cell? ⟨2, 0, none⟩ = some (sentV b2) := by simpa using World.var?_cell g_check hu2 0
  have e1 := Option.some.inj (q1.symm.trans r1)
  have e0 := Option.some.inj (q0.symm.trans r0)
  have e2 := Option.some.inj (q2.symm.trans r2)
  simp only [sentV, Value.iface.injEq, Value.pointer.injEq, Option.some.injEq, true_and] at e0 e1 e2
  subst e0 e1 e2
  exact ⟨a0, a1, a2, ⟨q0, q1, q2⟩, ⟨n01, n02, n12⟩, ⟨c0, t0, hb0⟩, ⟨c1, t1, hb1⟩, ⟨c2, t2, hb2⟩⟩
abbrev kindS : ByteArray := ⟨#[111, 102, 32, 116, 104, 101, 32, 111, 116, 104, 101, 114, 32, 107, 105, 110, 100]⟩
abbrev formS : ByteArray := ⟨#[110, 111, 32, 116, 111, 107, 101, 110]⟩
abbrev checkS : ByteArray := ⟨#[109, 105, 115, 116, 121, 112, 101, 100]⟩
noncomputable def low : Nat := (World.holding Tryd.prog default ⟨#[], #[], []⟩).heap.size
/-- A world that meets the condition. -/
noncomputable def laidWorld (os : Os) : World :=
  let w0 := World.holding Tryd.prog os ⟨#[.cells #[.string kindS] EST, .cells #[.string formS] EST, .cells #[.string checkS] EST], #[], []⟩
  { w0 with heap := (((w0.heap.modify 0 fun
      | .cells _ t frozen => .cells #[.iface EPT (.pointer (some ⟨low, 0, none⟩))] t frozen
      | o => o).modify 1 fun
      | .cells _ t frozen => .cells #[.iface EPT (.pointer (some ⟨low + 1, 0, none⟩))] t frozen
      | o => o).modify 2 fun
      | .cells _ t frozen => .cells #[.iface EPT (.pointer (some ⟨low + 2, 0, none⟩))] t frozen
      | o => o).modify 3 fun
      | .cells _ t frozen => .cells #[errT] t frozen
      | o => o }
theorem laidWorld_met (os : Os) (args : Array Value) : laidMetH Tryd.prog laidE ((laidWorld os).forCall (fun _ _ => 0) ⟨#[], args, []⟩).memory :=
  laidMetH_of_parts (laidMet_of_run (ps := [.cell 0 0, .cell low 0, .cell 1 0, .cell (low + 1) 0, .cell 2 0, .cell (low + 2) 0]) 8 (by kernel_rfl) (by kernel_rfl) (by kernel_rfl)) (by kernel_rfl)
/-- In a frame: what the sentinels' variables hold, and that they differ. -/
def Sent (E : World) (L : List Hp) (a0 a1 a2 : Addr) : Prop :=
  (a0 ≠ a1 ∧ a0 ≠ a2 ∧ a1 ≠ a2) ∧ ∀ w, Own E w L → (w.cell? ⟨0, 0, none⟩ = some (sentV a0) ∧ w.cell? ⟨1, 0, none⟩ = some (sentV a1) ∧ w.cell? ⟨2, 0, none⟩ = some (sentV a2)) ∧
    (∃ c t, w.heap[a0.block]? = some (.cells c t (0, 0))) ∧ (∃ c t, w.heap[a1.block]? = some (.cells c t (0, 0))) ∧ (∃ c t, w.heap[a2.block]? = some (.cells c t (0, 0)))
theorem Sent.cons {E : World} {L : List Hp} {A : Hp} {a0 a1 a2 : Addr} (h : Sent E L a0 a1 a2) : Sent E (A :: L) a0 a1 a2 := ⟨h.1, fun _ hw => h.2 _ hw.drop⟩
theorem Sent.start {W : World} (h : laidMetH Tryd.prog laidE W) : ∃ a0 a1 a2, Sent W [Hp.ro (Ph.of W)] a0 a1 a2 := by
  obtain ⟨a0, a1, a2, ⟨q0, q1, q2⟩, hne, ⟨c0, t0, hb0⟩, ⟨c1, t1, hb1⟩, ⟨c2, t2, hb2⟩⟩ := sentinels h
  exact ⟨a0, a1, a2, hne, fun w hw => ⟨⟨hw.old q0, hw.old q1, hw.old q2⟩, ⟨c0, t0, hw.sub _ _ hb0⟩, ⟨c1, t1, hw.sub _ _ hb1⟩, ⟨c2, t2, hw.sub _ _ hb2⟩⟩⟩
end Go.Proofs.YtilcilbmbhbakaaDoor
