/- Laws of this seat that list errors.errorType and the tables of unicode/utf8, and reach MaxLen: the row's contract with the world's shape (as common/XLaidShape); what the listed variables give; a world that meets the condition. A slice within what came in (an element's field): as a list, like arg_slice. RecordClients answers true for any two of them. No condition but the card's own. -/
import Derived.ProofKit
import Derived.ChangeSame
import Derived.ChangeVars
import Derived.LaidLaws
import Derived.LaidHandle
import Derived.Stop.Joined
import Derived.SevenTiedAt
import Derived.Deep.DeepLaidRun
import Derived.Shelf.Vars
import Derived.Test.YtabibfabieghpaaGreatDoorRows
import Derived.Test.YtabibfabieghpaaGreatDoorLaw
import Derived.Test.YtabibfabieghpaaGreatDoorPkB2
import Derived.Test.YtabibfabieghpaaGreatDoorTie
import Derived.Test.YtabibfabieghpaaGreatDoorCards
import Derived.Test.YtabibfabieghpaaGreatDoorPkK2
namespace Go.Proofs.YtabibfabieghpaaGreatDoor
open Go.ChangeShapes Go.WideShapes Go.ChangeAt Go.RowKit
section
variable {H : Type} {enc : TypeId × Value → H}
/-- As the kit's returnsInHanded_of_change_and, with the world's shape. -/
theorem returns_shaped {a : Assume} {C : Checked} {os : Os} {f : FuncId} {fn : Func} {s : ChangeSpec} {conds : List PathCond} {apart fresh handsOn again : Bool} {X : World → Array Value → Prop}
    (hX : ∀ (w w' : World) (args : Array Value), w.heap = w'.heap → X w args → X w' args)
    (own : ownKnob C.prog.godebug = none) (started : os.Started) (noInit : C.prog.inits.idxOf? f = none) (hfn : C.prog.funcs[f]? = some fn)
    (witness : ∃ (w : World) (tape : Tape) (i : Input), w.os = os ∧ (w.forCall tape i).Shaped C.prog ∧ i.vars = [] ∧ Input.okWide C.prog (w.forCall tape i) .any w.heap.size f i ∧
      ((s.pre enc C.prog fn conds apart (w.forCall tape i).memory i.args ∧ X (w.forCall tape i).memory i.args) ∧ sizedMet enc C.prog fn (OpenSpec.ofChange s) apart (w.forCall tape i).memory i.args) ∧ a.holds C.prog (lone (Frame.enter C.prog f i.args .normal) [] (w.forCall tape i)))
    (contract : ∀ (W : World) (base0 : Nat) (args : Array Value) (ds gs : List (DataW H)) (before : List MemPlace), W.ShapedOpen C.prog →
      (∀ (j : Nat) t v, fn.params[j]? = some t → args[j]? = some v → Value.okWide C.prog W .any base0 t v) →
      DataW.Whole enc C.prog fn.params.toList s.vars apart W args.toList ds gs before →
      (DataW.weightsEach C.prog (fn.params.toList ++ s.plain.varTypes C.prog) (ds ++ gs)).all (· ≤ reachBytes) = true → X W args →
      Calls C.prog f args W fun e W' => ∃ v, e = .returned v ∧ s.post enc C.prog fn apart fresh handsOn again W args v W') :
    ReturnsInHanded a C os f .any (fun w args => (s.pre enc C.prog fn conds apart w args ∧ X w args) ∧ sizedMet enc C.prog fn (OpenSpec.ofChange s) apart w args) (s.post enc C.prog fn apart fresh handsOn again) := by
  refine returnsInHanded_of_calls own started noInit witness ?_
  intro w tape i _ hsh _ hok hpre _
  obtain ⟨_, _, _, fn', hfn', _, _, _, _, hval⟩ := hok
  have e : fn' = fn := Option.some.inj (hfn'.symm.trans hfn)
  subst e
  obtain ⟨⟨⟨ds, gs, before, hw, _⟩, hx⟩, hz⟩ := hpre
  have hw' := DataW.Whole.of_heap (w' := w.forCall tape i) (by rfl) hw
  refine (contract (w.forCall tape i) w.heap.size i.args ds gs before hsh hval hw' (hz.weights hw) (hX _ _ _ (by rfl) hx)).mono fun e W' ⟨v, he, hp⟩ => ?_
  subst he
  exact ChangeSpec.post_blind hp
/-- A law that answers true and leaves what was there as it was, where the listed variables hold what they do. -/
theorem law_shaped {C : Checked} {lay : List (String × DataW Unit)} {os : Os} {f : FuncId} {fn : Func} {s : ChangeSpec}
    (own : ownKnob C.prog.godebug = none) (started : os.Started) (noInit : C.prog.inits.idxOf? f = none) (hfn : C.prog.funcs[f]? = some fn)
    (witness : ∃ (w : World) (tape : Tape) (i : Input), w.os = os ∧ (w.forCall tape i).Shaped C.prog ∧ i.vars = [] ∧ Input.okWide C.prog (w.forCall tape i) .any w.heap.size f i ∧
      ((s.pre enc C.prog fn [] false (w.forCall tape i).memory i.args ∧ laidMetH C.prog lay (w.forCall tape i).memory) ∧ sizedMet enc C.prog fn (OpenSpec.ofChange s) false (w.forCall tape i).memory i.args) ∧ Assume.holds {} C.prog (lone (Frame.enter C.prog f i.args .normal) [] (w.forCall tape i)))
    (hl : laidOutB C.prog = true) (hvars : s.vars = []) (hrd0 : (fn.params.toList.all fun t => C.prog.readableRec t && decide (t < C.prog.types.size)) = true)
    {tb : TypeId} (hres : fn.resultTypes = #[tb]) (hub : C.prog.underlying tb = some .bool)
    (hspec : ∀ ds : List (DataW H), ds.length = fn.params.toList.length → s.fn H ds = { results := [.lit (.bool true)], args := ds, vars := [] })
    (contract : ∀ (W : World) (base : Nat) (args : Array Value) (ds : List (DataW H)) (before : List MemPlace), W.ShapedOpen C.prog →
      (∀ (j : Nat) t v, fn.params[j]? = some t → args[j]? = some v → Value.okWide C.prog W .any base t v) →
      DataW.TrodAll enc C.prog W 0 (fun _ => true) true fn.params.toList args.toList ds before → laidMetH C.prog lay W →
      (DataW.weightsEach C.prog fn.params.toList ds).all (· ≤ reachBytes) = true →
      Calls C.prog f args W fun e W' => e = .returned (.bool true) ∧ Below W.heap.size W W') :
    ReturnsInHanded {} C os f .any (fun w args => (s.pre enc C.prog fn [] false w args ∧ laidMetH C.prog lay w) ∧ sizedMet enc C.prog fn (OpenSpec.ofChange s) false w args) (s.post enc C.prog fn false true false false) := by
  have hrd : ∀ t ∈ fn.params.toList, C.prog.readableRec t = true ∧ t < C.prog.types.size := fun t ht => by
    have := List.all_eq_true.1 hrd0 t ht
    simpa using this
  refine returns_shaped (X := fun w _ => laidMetH C.prog lay w) (fun _ _ _ hh h => h.of_heap hh) own started noInit hfn witness ?_
  intro W base args ds gs before hsh hval hW hsz hL
  have hW' := hW
  obtain ⟨p, q, hA, hV, rfl, hz, _⟩ := hW
  rw [hvars] at hV
  have hgs : gs = [] ∧ q = [] := by
    cases gs with
    | nil => exact ⟨rfl, hV⟩
    | cons _ _ => cases hV
  obtain ⟨rfl, rfl⟩ := hgs
  have hvt : s.plain.varTypes C.prog = [] := by simp [ChangeSpec.plain, DataSpec.varTypes, hvars]
  rw [hvt, List.append_nil, List.append_nil] at hsz
  have hlt : ∀ x ∈ p, x.block < W.heap.size := fun x hx => hW'.lt x (by simpa using hx)
  refine (contract W base args ds p hsh hval hA hL hsz).mono ?_
  rintro e W' ⟨rfl, hb⟩
  refine ⟨_, rfl, ds, [], p ++ [], [], p, [], hW', ?_, ?_, ?_, hb.frame _, fun h => by cases h⟩
  · rw [List.append_nil, hspec ds (trodAll_length _ _ _ _ hA), hres]
    exact trodAll_mk1 (shut_bool hub true)
  · rw [List.append_nil, hspec ds (trodAll_length _ _ _ _ hA)]
    exact trodAll_below hl hb _ _ _ _ hrd hA hlt
  · rw [List.append_nil, hspec ds (trodAll_length _ _ _ _ hA), hvars]
    rfl
end
/-- The listed variables. -/
abbrev laidF : List (String × DataW Unit) := [("unicode/utf8.acceptRanges", Rows.laid_unicode_utf8_acceptRanges), ("errors.errorType", Rows.laid_errors_errorType), ("unicode/utf8.first", Rows.laid_unicode_utf8_first)]
theorem laid_sub {W : World} (h : laidMetH Tryz.prog laidF W) : laidMetH Tryz.prog laidE W := by
  have h' : laidMet Tryz.prog [("unicode/utf8.acceptRanges", Rows.laid_unicode_utf8_acceptRanges), ("unicode/utf8.first", Rows.laid_unicode_utf8_first)] W ∧ handlesMet Tryz.prog laidE W := h
  exact ⟨laidMet_nil _ _, h'.2⟩
def firstCells : Array Value := (Go.Pinned.utf8FirstZ.map fun (n : Nat) => Value.int .u8 n).toArray
def acceptCells : Array Value := #[.int .u8 128, .int .u8 191, .int .u8 160, .int .u8 191, .int .u8 128, .int .u8 159, .int .u8 144, .int .u8 191, .int .u8 128, .int .u8 143] ++ Array.replicate 22 (.int .u8 0)
/-- A world that meets the condition. -/
noncomputable def laidWorldF (os : Os) : World :=
  let w0 := World.holding Tryz.prog os ⟨#[], #[], []⟩
  { w0 with heap := ((w0.heap.modify 2 fun
      | .cells _ t frozen => .cells firstCells t frozen
      | o => o).modify 3 fun
      | .cells _ t frozen => .cells acceptCells t frozen
      | o => o).modify 1 fun
      | .cells _ t frozen => .cells #[errT] t frozen
      | o => o }
theorem laidWorldF_met (os : Os) (args : Array Value) : laidMetH Tryz.prog laidF ((laidWorldF os).forCall (fun _ _ => 0) ⟨#[], args, []⟩).memory :=
  laidMetH_of_parts (laidMet_of_run3 8 (by kernel_rfl) (by kernel_rfl) (by kernel_rfl)) (by kernel_rfl)
theorem max_shaped (W : World) (h : W.ShapedOpen Tryz.prog) : ∃ m : Int, W.cell? ⟨0, 0, none⟩ = some (.int .i64 m) := by
  exact Go.Proofs.cell_of_shapedOpen_int (zero := #[.int .i64 0]) (t := 3) h (of_decide_eq_true (by kernel_rfl)) (by kernel_rfl) rfl (by kernel_rfl) (by kernel_rfl) Tryz.underlying3
theorem Max0.start {W : World} (h : W.ShapedOpen Tryz.prog) : Max0 W [Hp.ro (Ph.of W)] := by
  obtain ⟨m, hm⟩ := max_shaped W h
  exact ⟨m, fun _ hw => hw.old hm⟩
end Go.Proofs.YtabibfabieghpaaGreatDoor
namespace Go.Proofs.YtabibfabieghpaaGreatDoor
open Go.ChangeShapes Go.WideShapes Go.ChangeAt Go.RowKit Go.Deep
section
variable {H : Type} {enc : TypeId × Value → H} {P : Program} {w : World} {sp : Nat → Bool} {held : Bool}
theorem el_slice {α : Type} {en : α → List Value} {dat : α → DataW H} {Wf : α → Prop} {t e : TypeId} {size : Nat}
    (ht : P.underlying t = some (.slice e)) (hC : P.cellsOf e = size) (h0 : 0 < size) (hen : ∀ x, (en x).length = size)
    (hel : ∀ n cs y, DataW.trod enc P w 0 sp held n e cs = some y → ∃ x : α, cs = en x ∧ y.1 = dat x ∧ Wf x)
    (n0 : Nat) (cs : List Value) (y : DataW H × List MemPlace) (h : DataW.trod enc P w 0 sp held n0 t cs = some y) :
    ∃ (A : Option Addr) (n c : Nat) (xs : List α), cs = [.slice A n c] ∧ n ≤ c ∧ c ≤ maxLen ∧ Rds (Ph.of w) size en A n xs ∧ (∀ x ∈ xs, Wf x) ∧
      (∀ B, (y.1.weights P t).all (· ≤ B) = true → n * P.bytesOf e ≤ B ∧ ∀ x ∈ xs, ((dat x).weights P e).all (· ≤ B) = true) ∧ (y.1 = .nil ∧ xs = [] ∨ ∃ more, y.1 = .slice (xs.map dat) more) := by
  obtain ⟨d, p⟩ := y
  rcases open_slice ht h with ⟨rfl, hx⟩ | ⟨a, len, cap, m, n, D, Pl, rfl, _, hl, hm, hmm, hx, hi⟩
  · simp only [Prod.mk.injEq] at hx
    exact ⟨none, 0, 0, [], rfl, Nat.le_refl _, Nat.zero_le _, Rds.nil hen, fun _ hx => (by cases hx), fun B _ => ⟨by simp, fun _ hx => (by cases hx)⟩, .inl ⟨hx.1, rfl⟩⟩
  · simp only [Prod.mk.injEq] at hx
    have hlm : len ≤ m := by rw [hmm]; split <;> omega
    obtain ⟨xs, hxl, hxs⟩ := exists_list (Q := fun i (x : α) => (∃ cs', w.cells? 0 (a.add (i * size)) size = some cs' ∧ cs' = en x) ∧ D i = dat x ∧ Wf x) len (fun i hi' => by
      obtain ⟨cs', hc, htr⟩ := hi i (by omega)
      obtain ⟨x, h1, h2, h3⟩ := hel _ _ _ htr
      rw [hC] at hc
      exact ⟨x, ⟨cs', hc, h1⟩, h2, h3⟩)
    have hdat : (List.range len).map D = xs.map dat := by
      refine List.ext_getElem (by simp [hxl]) (fun i h1 h2 => ?_)
      simp at h1 h2
      simp [(hxs i h2).2.1]
    refine ⟨some a, len, cap, xs, rfl, hl, hm, ⟨hxl, hen, fun k hk => ?_⟩, fun x hx => ?_, fun B hB => ?_, .inr ⟨_, by rw [hx.1, hdat]⟩⟩
    · obtain ⟨⟨cs', hc, rfl⟩, _, _⟩ := hxs k hk
      obtain ⟨_, _, hat⟩ := World.cells?_some hc
      have hsp : a.spot = none := by
        obtain ⟨⟨cs0, hc0, rfl⟩, _, _⟩ := hxs 0 (by omega)
        obtain ⟨_, _, hat0⟩ := World.cells?_some hc0
        have h1 := hat0 0 h0
        have h2 : (en xs[0])[0]? = some ((en xs[0])[0]'(by rw [hen]; exact h0)) := List.getElem?_eq_getElem _
        rw [h2] at h1
        exact spot_of_cell (a := a) (by simpa [Addr.add] using h1)
      obtain ⟨b, off, spot⟩ := a
      have hsp' : spot = none := hsp
      subst hsp'
      refine ⟨b, off, rfl, fun j u hu => ?_⟩
      have hj : j < size := by rw [← hen xs[k]]; exact (List.getElem?_eq_some_iff.1 hu).1
      have h1 := hat j hj
      rw [hu] at h1
      rw [Ph.of_cell]
      have ea : ((⟨b, off, none⟩ : Addr).add (k * size)).add j = ⟨b, off + k * size + j, none⟩ := by
        unfold Addr.add
        by_cases e1 : k * size = 0 <;> by_cases e2 : j = 0 <;> simp [e1, e2]
      rw [← ea]
      exact h1
    · obtain ⟨i, hi', rfl⟩ := List.getElem_of_mem hx
      exact (hxs i hi').2.2
    · rw [hx.1, hdat] at hB
      unfold DataW.weights at hB
      simp only [ht, List.all_cons, List.all_append, Bool.and_eq_true, decide_eq_true_eq] at hB
      refine ⟨?_, fun x hxm => weightsAll_mem hB.2.1 (List.mem_map_of_mem hxm)⟩
      refine Nat.le_trans (Nat.mul_le_mul_right _ ?_) hB.1
      simp [hxl]
theorem Rds.map {α β : Type} {S : Ph} {size : Nat} {en : β → List Value} {f : α → β} {A : Option Addr} {n : Nat} {xs : List α} (hen : ∀ y, (en y).length = size) (h : Rds S size (fun x => en (f x)) A n xs) : Rds S size en A n (xs.map f) :=
  ⟨by rw [List.length_map]; exact h.1, hen, fun k hk => by
    obtain ⟨b, off, hA, hc⟩ := h.2.2 k (by simpa using hk)
    exact ⟨b, off, hA, fun j v hv => hc j v (by simpa using hv)⟩⟩
end
end Go.Proofs.YtabibfabieghpaaGreatDoor
namespace Go.Proofs.YtabibfabieghpaaGreatDoor
open Go.ChangeShapes Go.WideShapes Go.ChangeAt Go.RowKit
open Go.ChangeMaps (open_string)

section Parts
variable {H : Type} {enc : TypeId × Value → H} {w : World} {sp : Nat → Bool} {held : Bool}
theorem one_int {n : Nat} {c : Value} {y : DataW H × List MemPlace} (h : DataW.trod enc Tryz.prog w 0 sp held n 3 [c] = some y) : ∃ b : Int, c = .int .i64 b := by
  obtain ⟨b, e, -⟩ := el_int (k := .i64) (by kernel_rfl) _ _ _ h
  injection e with e
  exact ⟨b, e⟩
theorem one_strw {n : Nat} {c : Value} {y : DataW H × List MemPlace} (h : DataW.trod enc Tryz.prog w 0 sp held n 9 [c] = some y) : ∃ b : ByteArray, c = .string b ∧ y.1 = .lit (.string b.data.toList) := by
  obtain ⟨b, e, e2, -⟩ := el_str (by kernel_rfl) _ _ _ h
  injection e with e
  exact ⟨b, e, e2⟩
theorem one_bool {n : Nat} {c : Value} {y : DataW H × List MemPlace} (h : DataW.trod enc Tryz.prog w 0 sp held n 4 [c] = some y) : ∃ b : Bool, c = .bool b := by
  obtain ⟨b, e, -⟩ := el_bool (by kernel_rfl) _ _ _ h
  injection e with e
  exact ⟨b, e⟩
end Parts
set_option maxRecDepth 100000 in
theorem arg_fam {H : Type} {enc : TypeId × Value → H} {W : World} {base : Nat} {v : Value} {d : DataW H} {p : List MemPlace} (hv : Value.okWide Tryz.prog W .any base CLT v)
    (h : DataW.Trod enc Tryz.prog W 0 (fun _ => true) true CLT v d p) (hB : (d.weights Tryz.prog CLT).all (· ≤ reachBytes) = true) : ∃ (x : ClientV) (A : Option Addr) (c : Nat), v = .agg (x.C A c).toArray ∧ x.In (Ph.of W) A c := by
  obtain ⟨cs, rfl⟩ : ∃ cs, v = .agg cs := by
    simp only [Value.okWide, Tryz.underlying77] at hv
    obtain ⟨cs, h1, _⟩ := hv
    exact ⟨cs, h1⟩
  obtain ⟨l⟩ := cs
  obtain ⟨fuel, hf⟩ := h
  obtain ⟨m, ys, h1, h2, h3, hfl⟩ := el_struct Tryz.underlying77 (by kernel_rfl) (by kernel_rfl) fuel l (d, p) hf
  dsimp only at h3
  subst h3
  unfold DataW.weights at hB
  simp only [Tryz.underlying77] at hB
  match l, h1, ys, h2 with
  | [c0, c1, c2, c3, c4, c5, c6, c7, c8, c9, c10], _, [y0, y1, y2, y3, y4, y5, y6, y7, y8, y9, y10], _ =>
    obtain ⟨b0, rfl, q0⟩ := one_strw (hfl 0 _ c0 y0 rfl rfl rfl)
    have s0 : b0.size ≤ reachBytes := by
      have hh : (y0.1.weights Tryz.prog 9).all (· ≤ reachBytes) = true := weightsEach_get hB 0 rfl rfl
      rw [q0] at hh
      exact string_size hh
    obtain ⟨b1, rfl⟩ := one_bool (hfl 1 _ c1 y1 rfl rfl rfl)
    obtain ⟨b2, rfl⟩ := one_bool (hfl 2 _ c2 y2 rfl rfl rfl)
    obtain ⟨b3, rfl, -⟩ := one_strw (hfl 3 _ c3 y3 rfl rfl rfl)
    obtain ⟨b4, rfl, -⟩ := one_strw (hfl 4 _ c4 y4 rfl rfl rfl)
    obtain ⟨b5, rfl⟩ := one_int (hfl 5 _ c5 y5 rfl rfl rfl)
    obtain ⟨A3, n3, k3, xs3, e3, f1, f2, f3, -, f5, -⟩ := el_slice (en := enStr) (dat := fun z => DataW.lit (.string z.data.toList)) (Wf := fun _ => True) (t := LST) (e := 9) (size := 1) (by kernel_rfl) (by kernel_rfl) (by decide) (fun _ => rfl)
      (fun n cs y hh => by
        obtain ⟨q, a1, a2, a3⟩ := el_str (by kernel_rfl) n cs y hh
        exact ⟨q, a1, a2, trivial⟩) _ _ _ (hfl 6 _ c6 y6 rfl rfl rfl)
    injection e3 with e3
    subst e3
    obtain ⟨b7, rfl⟩ := one_int (hfl 7 _ c7 y7 rfl rfl rfl)
    obtain ⟨b8, rfl⟩ := one_int (hfl 8 _ c8 y8 rfl rfl rfl)
    obtain ⟨b9, rfl⟩ := one_int (hfl 9 _ c9 y9 rfl rfl rfl)
    obtain ⟨b10, rfl⟩ := one_int (hfl 10 _ c10 y10 rfl rfl rfl)
    have w3 := f5 reachBytes (weightsEach_get hB 6 rfl rfl)
    have z3 : Tryz.prog.bytesOf 9 = 16 := by kernel_rfl
    rw [z3] at w3
    obtain rfl : xs3.length = n3 := f3.1
    have hr : reachBytes ≤ 1000000000000000000 := by unfold reachBytes; omega
    refine ⟨⟨b0, b1, b2, b3, b4, b5, xs3, b7, b8, b9, b10⟩, A3, k3, rfl, f3, ?_, fun x hx => Nat.le_trans (string_size (w3.2 x hx)) hr, Nat.le_trans s0 hr⟩
    have w4 := w3.1
    show xs3.length ≤ 8796093022208
    unfold reachBytes at w4
    omega

set_option maxRecDepth 100000 in
theorem clients_lifted (os : Os) (started : os.Started) (H : Type) (enc : TypeId × Value → H) :
    ReturnsInHanded {} Tryz.checked os 6 .any (fun w args => (Rows.recordClientsSpec.pre enc Tryz.prog Tryz.f6 [] false w args ∧ laidMetH Tryz.prog laidF w) ∧ sizedMet enc Tryz.prog Tryz.f6 (OpenSpec.ofChange Rows.recordClientsSpec) false w args) (Rows.recordClientsSpec.post enc Tryz.prog Tryz.f6 false true false false) := by
  refine law_shaped (C := Tryz.checked) (lay := laidF) (by kernel_rfl) started (by kernel_rfl) Tryz.func6
    (ChangeSpec.witness_at (enc := enc) (C := Tryz.checked) (os := os) (X := fun w _ => laidMetH Tryz.prog laidF w) false (laidWorldF os) #[.agg #[.string ByteArray.empty, .bool false, .bool false, .string ByteArray.empty, .string ByteArray.empty, .int .i64 0, .slice none 0 0, .int .i64 0, .int .i64 0, .int .i64 0, .int .i64 0], .agg #[.string ByteArray.empty, .bool false, .bool false, .string ByteArray.empty, .string ByteArray.empty, .int .i64 0, .slice none 0 0, .int .i64 0, .int .i64 0, .int .i64 0, .int .i64 0]] 8 rfl (by kernel_rfl) (by kernel_rfl) (by kernel_rfl) (by kernel_rfl) (by kernel_rfl) (laidWorldF_met os _))
    (by kernel_rfl) rfl (by kernel_rfl) (tb := 4) rfl (by kernel_rfl) (fun ds hd => by match ds, hd with | [d0, d1], _ => rfl) ?_
  intro W base args ds before hsh hval0 hA0 hL hsz0
  have hval : ∀ (j : Nat) t v, Tryz.f6.params[j]? = some t → args[j]? = some v → Value.okWide Tryz.prog W .any base t v := hval0
  have hA : DataW.TrodAll enc Tryz.prog W 0 (fun _ => true) true Tryz.f6.params.toList args.toList ds before := hA0
  have hsz : (DataW.weightsEach Tryz.prog Tryz.f6.params.toList ds).all (· ≤ reachBytes) = true := hsz0
  clear hval0 hA0 hsz0
  rw [Tryz.params6] at hA hval hsz
  obtain ⟨v0, v1, d0, d1, p0, p1, rfl, rfl, rfl, h0, h1⟩ := trodAll_two hA
  obtain ⟨x, A0, k0, rfl, hx⟩ := arg_fam (hval 0 _ v0 rfl rfl) h0 (weightsEach_get hsz 0 rfl rfl)
  obtain ⟨y, A1, k1, rfl, hy⟩ := arg_fam (hval 1 _ v1 rfl rfl) h1 (weightsEach_get hsz 1 rfl rfl)
  refine (clients_any x y A0 A1 k0 k1 W hx hy (Laid0.start (laid_sub hL)) (Max0.start hsh) (Own.start W)).mono ?_
  rintro e W' ⟨rfl, hw⟩
  exact ⟨rfl, hw.below⟩

theorem clients_row : Rows.RecordClientsSaid :=
  OpenClaim.holds_of_wide 6 Tryz.f6 rfl rfl rfl rfl rfl rfl rfl ⟨rfl, rfl, rfl, rfl, rfl⟩ rfl rfl rfl rfl rfl (by kernel_rfl) Tryz.func6 (by kernel_rfl)
    (of_decide_eq_true (by kernel_rfl)) (by unfold Func.isWrapper; rw [if_neg (of_decide_eq_false (by kernel_rfl))]; exact ⟨rfl, rfl⟩)
    (fun os started H enc _ => clients_lifted os started H enc)

theorem clients_holds : Rows.RecordClientsCardSaid :=
  Claim7.holds_tied_plain_at .later [] [.data, .handle, .pinned] true Rows.recordClientsCard.stood.harness true
    clients_row (fun _ h => by cases h) (by kernel_rfl) (fun _ h => by cases h) recordClients_row_tie rfl ⟨rfl, rfl⟩ (by kernel_rfl) rfl
    (fun f fn hf hfn => by
      obtain rfl : f = 6 := Option.some.inj ((show Tryz.prog.funcNamed "latchkey/latchkeylaw14.RecordClients" = some 6 by kernel_rfl).symm.trans hf) |>.symm
      obtain rfl : fn = Tryz.f6 := (Option.some.inj (Tryz.func6.symm.trans hfn)).symm
      exact ⟨by kernel_rfl, no_standin (by kernel_rfl)⟩)
    (by kernel_rfl)

end Go.Proofs.YtabibfabieghpaaGreatDoor
