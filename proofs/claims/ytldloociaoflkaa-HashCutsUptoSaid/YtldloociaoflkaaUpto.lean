/- From a law's contract to its row, where what comes in is of bounded bulk. -/
import Derived.Test.YtldloociaoflkaaLaw
import Derived.Test.YtldloociaoflkaaRows
import Derived.Deep.CondSized
namespace Go.Proofs.Ytldloociaoflkaa
open Go.ChangeShapes Go.WideShapes Go.ChangeAt Go.RowKit
section
variable {H : Type} {enc : TypeId × Value → H}
theorem law_lifted_upto {C : Checked} {os : Os} {f : FuncId} {fn : Func} {S : OpenSpec} {sp : ChangeSpec} {k : (H : Type) → List (DataW H) → Bool} (hk : S.cond = some k) {F : Stop.Interp} (hat : S.at F = sp) (hSv : S.vars = []) (hvt : S.bare.plain.varTypes C.prog = [])
    (own : ownKnob C.prog.godebug = none) (started : os.Started) (noInit : C.prog.inits.idxOf? f = none) (hfn : C.prog.funcs[f]? = some fn)
    (witness : ∃ (w : World) (tape : Tape) (i : Input), w.os = os ∧ (w.forCall tape i).Shaped C.prog ∧ i.vars = [] ∧ Input.okWide C.prog (w.forCall tape i) .any w.heap.size f i ∧
      S.pre6 enc C.prog fn [] false (w.forCall tape i).memory i.args ∧ Assume.holds {} C.prog (lone (Frame.enter C.prog f i.args .normal) [] (w.forCall tape i)))
    (hl : laidOutB C.prog = true) (hvars : sp.vars = []) (hrd0 : (fn.params.toList.all fun t => C.prog.readableRec t && decide (t < C.prog.types.size)) = true)
    {tb : TypeId} (hres : fn.resultTypes = #[tb]) (hub : C.prog.underlying tb = some .bool)
    (hspec : ∀ ds : List (DataW H), ds.length = fn.params.toList.length → sp.fn H ds = { results := [.lit (.bool true)], args := ds, vars := [] })
    (contract : ∀ (W : World) (base : Nat) (args : Array Value) (ds : List (DataW H)) (before : List MemPlace),
      (∀ (j : Nat) t v, fn.params[j]? = some t → args[j]? = some v → Value.okWide C.prog W .any base t v) →
      DataW.TrodAll enc C.prog W 0 (fun _ => true) true fn.params.toList args.toList ds before → k H ds = true →
      (DataW.weightsEach C.prog fn.params.toList ds).all (· ≤ reachBytes) = true →
      Calls C.prog f args W fun e W' => e = .returned (.bool true) ∧ Below W.heap.size W W') :
    ReturnsInHanded {} C os f .any (S.pre6 enc C.prog fn [] false) ((S.at F).post enc C.prog fn false true false false) := by
  have hrd : ∀ t ∈ fn.params.toList, C.prog.readableRec t = true ∧ t < C.prog.types.size := fun t ht => by
    have := List.all_eq_true.1 hrd0 t ht
    simpa using this
  refine returnsInHanded_of_cond_sized hk own started noInit hfn witness ?_
  intro W base args ds gs before hval hW _ hkk hsz _
  have hW' := hW
  obtain ⟨p, q, hA, hV, rfl, hz, hnd⟩ := hW
  rw [hSv] at hV
  have hgs : gs = [] ∧ q = [] := by
    cases gs with
    | nil => exact ⟨rfl, hV⟩
    | cons _ _ => cases hV
  obtain ⟨rfl, rfl⟩ := hgs
  rw [hvt, List.append_nil, List.append_nil] at hsz
  rw [List.append_nil] at hkk
  have hlt : ∀ x ∈ p, x.block < W.heap.size := fun x hx => hW'.lt x (by simpa using hx)
  refine (contract W base args ds p hval hA hkk hsz).mono ?_
  rintro e W' ⟨rfl, hb⟩
  rw [hat]
  have hW2 : DataW.Whole enc C.prog fn.params.toList sp.vars false W args.toList ds [] (p ++ []) := by
    rw [hSv] at hW'
    rw [hvars]
    exact hW'
  refine ⟨_, rfl, ds, [], p ++ [], [], p, [], hW2, ?_, ?_, ?_, hb.frame _, fun h => by cases h⟩
  · rw [List.append_nil, hspec ds (trodAll_length _ _ _ _ hA), hres]
    exact trodAll_mk1 (shut_bool hub true)
  · rw [List.append_nil, hspec ds (trodAll_length _ _ _ _ hA)]
    exact trodAll_below hl hb _ _ _ _ hrd hA hlt
  · rw [List.append_nil, hspec ds (trodAll_length _ _ _ _ hA), hvars]
    rfl
/-- What the bound gives. -/
theorem bulk_one_le (d : DataW H) : 1 ≤ Rows.uptoBulk d := by
  cases d with
  | lit l => cases l <;> simp [Rows.uptoBulk]
  | nil => simp [Rows.uptoBulk]
  | ptr d => simp [Rows.uptoBulk]
  | slice elems spare => simp [Rows.uptoBulk]
  | agg parts => simp [Rows.uptoBulk]
  | iface n d => simp [Rows.uptoBulk]
  | map es => simp [Rows.uptoBulk]
  | held r => simp [Rows.uptoBulk]
theorem bulk_len (ds : List (DataW H)) : ds.length ≤ Rows.uptoBulkAll ds := by
  induction ds with
  | nil => simp
  | cons d r ih =>
    have := bulk_one_le d
    simp only [Rows.uptoBulkAll, List.length_cons]
    omega
theorem bulk_of (ds : List (DataW H)) (hk : Rows.uptoSmall H ds = true) : Rows.uptoBulkAll ds ≤ 1048576 := of_decide_eq_true hk
theorem bulk_string (s : ByteArray) : Rows.uptoBulk (DataW.lit (.string s.data.toList) : DataW H) = s.size + 1 := by
  simp only [Rows.uptoBulk]
  have e : s.data.toList.length = s.size := by rw [Array.length_toList]; rfl
  omega
theorem bulk_slice {α : Type} {dat : α → DataW H} {d : DataW H} {xs : List α} (h : d = .nil ∧ xs = [] ∨ ∃ more, d = .slice (xs.map dat) more) : xs.length + 1 ≤ Rows.uptoBulk d + (if xs.length = 0 then 1 else 0) ∧ (xs.map fun x => Rows.uptoBulk (dat x)).sum ≤ Rows.uptoBulk d ∧ xs.length ≤ Rows.uptoBulk d := by
  have hs : ∀ l : List α, Rows.uptoBulkAll (l.map dat) = (l.map fun x => Rows.uptoBulk (dat x)).sum := fun l => by
    induction l with
    | nil => simp [Rows.uptoBulkAll]
    | cons x l ih => simp [Rows.uptoBulkAll, ih]
  rcases h with ⟨rfl, rfl⟩ | ⟨more, rfl⟩
  · simp
  · have h1 := bulk_len (xs.map dat)
    rw [List.length_map] at h1
    simp only [Rows.uptoBulk, ← hs]
    refine ⟨?_, by omega, by omega⟩
    split <;> omega
end
end Go.Proofs.Ytldloociaoflkaa
