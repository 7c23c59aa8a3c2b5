/- A law whose row lists errors.errorType: what the condition gives a walk, a world that meets it, and the row's contract. -/
import Derived.ProofKit
import Derived.ChangeSame
import Derived.ChangeVars
import Derived.LaidLaws
import Derived.LaidHandle
import Derived.Stop.Joined
import Derived.SevenTiedAt
import Derived.Test.YtabibfabieghpaaGreatDoorRows
import Derived.Test.YtabibfabieghpaaGreatDoorLaw
namespace Go.Proofs.YtabibfabieghpaaGreatDoor
open Go.ChangeShapes Go.WideShapes Go.ChangeAt Go.RowKit

theorem as_own : ownKnob Tryz.prog.godebug = none := by kernel_rfl
theorem as_et : Tryz.prog.globalNamed "errors.errorType" = some 1 := by kernel_rfl
theorem as_rt : (Tryz.prog.cutTypes.find? (·.1 == "internal/reflectlite.rtype")).map (·.2) = some 227 := by kernel_rfl
theorem as_row : ((List.range Tryz.prog.types.size).filter fun t => Tryz.prog.rowNamed t [101, 114, 114, 111, 114]) = [174] := by kernel_rfl
theorem as_handle : typeHandle Tryz.prog 174 = .pointer (some ⟨4, 174, none⟩) := by kernel_rfl
/-- What the cell of errors.errorType holds. -/
abbrev errT : Value := .iface 227 (.agg #[.pointer (some ⟨4, 174, none⟩)])
/-- The listed variables. -/
abbrev laidE : List (String × DataW Unit) := [("errors.errorType", Rows.laid_errors_errorType)]

/-- What the condition gives a walk: the variable's one cell. -/
theorem handle_of_laid {W : World} (h : laidMetH Tryz.prog laidE W) : W.cell? ⟨1, 0, none⟩ = some errT := by
  have h' : laidMet Tryz.prog [] W ∧ handlesMet Tryz.prog laidE W := h
  obtain ⟨name, u, ty, e1, e2, e3, e4, e5⟩ := h'.2 _ (List.mem_singleton.2 rfl)
  have en : name = [101, 114, 114, 111, 114] := (Option.some.inj e1).symm
  subst en
  obtain rfl := Option.some.inj (as_rt.symm.trans e2)
  have hm : ty ∈ (List.range Tryz.prog.types.size).filter fun t => Tryz.prog.rowNamed t [101, 114, 114, 111, 114] := List.mem_filter.2 ⟨List.mem_range.2 e3, e4⟩
  rw [as_row] at hm
  obtain rfl := List.mem_singleton.1 hm
  rw [as_handle] at e5
  simpa using World.var?_cell as_et e5 0

/-- A world that meets the condition: the settled one, the variable's cell laid. -/
noncomputable def laidWorld (os : Os) : World :=
  let w0 := World.holding Tryz.prog os ⟨#[], #[], []⟩
  { w0 with heap := w0.heap.modify 1 fun
      | .cells _ t frozen => .cells #[errT] t frozen
      | o => o }
theorem laidWorld_met (os : Os) (args : Array Value) : laidMetH Tryz.prog laidE ((laidWorld os).forCall (fun _ _ => 0) ⟨#[], args, []⟩).memory :=
  laidMetH_of_parts (laidMet_nil _ _) (by kernel_rfl)

theorem no_standin {P : Program} {ts : Array TypeId} (h : (ts.toList.all fun t => !P.wantsStandIn t) = true) (j : Nat) (t : TypeId) (ht : ts[j]? = some t) : P.wantsStandIn t = false := by
  have := List.all_eq_true.1 h t (by simpa using Array.mem_of_getElem? ht)
  simpa using this
section
variable {H : Type} {enc : TypeId × Value → H}
/-- A law that answers true and leaves what was there as it was, where the listed variables hold what they do. -/
theorem law_laid {C : Checked} {lay : List (String × DataW Unit)} {os : Os} {f : FuncId} {fn : Func} {s : ChangeSpec}
    (own : ownKnob C.prog.godebug = none) (started : os.Started) (noInit : C.prog.inits.idxOf? f = none) (hfn : C.prog.funcs[f]? = some fn)
    (witness : ∃ (w : World) (tape : Tape) (i : Input), w.os = os ∧ (w.forCall tape i).Shaped C.prog ∧ i.vars = [] ∧ Input.okWide C.prog (w.forCall tape i) .any w.heap.size f i ∧
      ((s.pre enc C.prog fn [] false (w.forCall tape i).memory i.args ∧ laidMetH C.prog lay (w.forCall tape i).memory) ∧ sizedMet enc C.prog fn (OpenSpec.ofChange s) false (w.forCall tape i).memory i.args) ∧ Assume.holds {} C.prog (lone (Frame.enter C.prog f i.args .normal) [] (w.forCall tape i)))
    (hl : laidOutB C.prog = true) (hvars : s.vars = []) (hrd0 : (fn.params.toList.all fun t => C.prog.readableRec t && decide (t < C.prog.types.size)) = true)
    {tb : TypeId} (hres : fn.resultTypes = #[tb]) (hub : C.prog.underlying tb = some .bool)
    (hspec : ∀ ds : List (DataW H), ds.length = fn.params.toList.length → s.fn H ds = { results := [.lit (.bool true)], args := ds, vars := [] })
    (contract : ∀ (W : World) (base : Nat) (args : Array Value) (ds : List (DataW H)) (before : List MemPlace),
      (∀ (j : Nat) t v, fn.params[j]? = some t → args[j]? = some v → Value.okWide C.prog W .any base t v) →
      DataW.TrodAll enc C.prog W 0 (fun _ => true) true fn.params.toList args.toList ds before → laidMetH C.prog lay W →
      (DataW.weightsEach C.prog fn.params.toList ds).all (· ≤ reachBytes) = true →
      Calls C.prog f args W fun e W' => e = .returned (.bool true) ∧ Below W.heap.size W W') :
    ReturnsInHanded {} C os f .any (fun w args => (s.pre enc C.prog fn [] false w args ∧ laidMetH C.prog lay w) ∧ sizedMet enc C.prog fn (OpenSpec.ofChange s) false w args) (s.post enc C.prog fn false true false false) := by
  have hrd : ∀ t ∈ fn.params.toList, C.prog.readableRec t = true ∧ t < C.prog.types.size := fun t ht => by
    have := List.all_eq_true.1 hrd0 t ht
    simpa using this
  refine returnsInHanded_of_change_and (X := fun w _ => laidMetH C.prog lay w) (fun _ _ _ hh h => h.of_heap hh) own started noInit hfn witness ?_
  intro W base args ds gs before hval hW _ hsz hL _
  have hW' := hW
  obtain ⟨p, q, hA, hV, rfl, hz, _⟩ := hW
  rw [hvars] at hV
  have hgs : gs = [] ∧ q = [] := by
    cases gs with
    | nil => exact ⟨rfl, hV⟩
    | cons _ _ => cases hV
  obtain ⟨rfl, rfl⟩ := hgs
  have hvt : s.plain.varTypes C.prog = [] := by simp [ChangeSpec.plain, DataSpec.varTypes, hvars]
  rw [hvt, List.append_nil, List.append_nil] at hsz
  have hlt : ∀ x ∈ p, x.block < W.heap.size := fun x hx => hW'.lt x (by simpa using hx)
  refine (contract W base args ds p hval hA hL hsz).mono ?_
  rintro e W' ⟨rfl, hb⟩
  refine ⟨_, rfl, ds, [], p ++ [], [], p, [], hW', ?_, ?_, ?_, hb.frame _, fun h => by cases h⟩
  · rw [List.append_nil, hspec ds (trodAll_length _ _ _ _ hA), hres]
    exact trodAll_mk1 (shut_bool hub true)
  · rw [List.append_nil, hspec ds (trodAll_length _ _ _ _ hA)]
    exact trodAll_below hl hb _ _ _ _ hrd hA hlt
  · rw [List.append_nil, hspec ds (trodAll_length _ _ _ _ hA), hvars]
    rfl
end
end Go.Proofs.YtabibfabieghpaaGreatDoor
