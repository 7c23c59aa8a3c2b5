/- From a law's contract to its row: one theorem for every law of plain data. -/
import Derived.ProofKit
import Derived.SizedLaws
import Derived.JoinedOf
import Derived.Deep.Slices
import Derived.Deep.Fields
import Derived.Test.YtabibfabieghpaaGreatDoorSl
namespace Go.Proofs.YtabibfabieghpaaGreatDoor
open Go.ChangeShapes Go.WideShapes Go.ChangeAt Go.RowKit

section
variable {H : Type} {enc : TypeId × Value → H} {P : Program}
theorem trodAll_below (hl : laidOutB P = true) {W W' : World} (hb : Below W.heap.size W W') :
    ∀ (ts : List TypeId) (vs : List Value) (ds : List (DataW H)) (ps : List MemPlace), (∀ t ∈ ts, P.readableRec t = true ∧ t < P.types.size) →
      DataW.TrodAll enc P W 0 (fun _ => true) true ts vs ds ps → (∀ x ∈ ps, x.block < W.heap.size) →
      DataW.TrodAll enc P W' 0 (fun b => decide (b < W.heap.size)) true ts vs ds ps
  | [], [], [], _, _, h, _ => h
  | t :: ts, v :: vs, d :: ds, ps, hr, h, hlt => by
    obtain ⟨p, q, h1, h2, rfl⟩ := h
    obtain ⟨hr1, hr2⟩ := hr t (by simp)
    exact ⟨p, q, Below.trod hl hr1 hr2 h1 hb (fun x hx => hlt x (by simp [hx])), trodAll_below hl hb ts vs ds q (fun t ht => hr t (by simp [ht])) h2 (fun x hx => hlt x (by simp [hx])), rfl⟩
  | [], _ :: _, _, _, _, h, _ => by cases h
  | [], [], _ :: _, _, _, h, _ => by cases h
  | _ :: _, [], _, _, _, h, _ => by cases h
  | _ :: _, _ :: _, [], _, _, h, _ => by cases h
theorem trodAll_length {w : World} {base : Nat} {sp : Nat → Bool} {held : Bool} : ∀ (ts : List TypeId) (vs : List Value) (ds : List (DataW H)) (ps : List MemPlace),
      DataW.TrodAll enc P w base sp held ts vs ds ps → ds.length = ts.length
  | [], [], [], _, _ => rfl
  | _ :: ts, _ :: vs, _ :: ds, _, h => by
    obtain ⟨p, q, _, h2, _⟩ := h
    simp [trodAll_length ts vs ds q h2]
  | [], _ :: _, _, _, h => by cases h
  | [], [], _ :: _, _, h => by cases h
  | _ :: _, [], _, _, h => by cases h
  | _ :: _, _ :: _, [], _, h => by cases h

/-- A law that answers true and leaves what was there as it was: its row's contract. -/
theorem law_lifted {C : Checked} {os : Os} {f : FuncId} {fn : Func} {s : ChangeSpec}
    (own : ownKnob C.prog.godebug = none) (started : os.Started) (noInit : C.prog.inits.idxOf? f = none) (hfn : C.prog.funcs[f]? = some fn)
    (witness : ∃ (w : World) (tape : Tape) (i : Input), w.os = os ∧ (w.forCall tape i).Shaped C.prog ∧ i.vars = [] ∧ Input.okWide C.prog (w.forCall tape i) .any w.heap.size f i ∧
      s.pre6 enc C.prog fn [] false (w.forCall tape i).memory i.args ∧ Assume.holds {} C.prog (lone (Frame.enter C.prog f i.args .normal) [] (w.forCall tape i)))
    (hl : laidOutB C.prog = true) (hvars : s.vars = []) (hrd0 : (fn.params.toList.all fun t => C.prog.readableRec t && decide (t < C.prog.types.size)) = true)
    {tb : TypeId} (hres : fn.resultTypes = #[tb]) (hub : C.prog.underlying tb = some .bool)
    (hspec : ∀ ds : List (DataW H), ds.length = fn.params.toList.length → s.fn H ds = { results := [.lit (.bool true)], args := ds, vars := [] })
    (contract : ∀ (W : World) (base : Nat) (args : Array Value) (ds : List (DataW H)) (before : List MemPlace),
      (∀ (j : Nat) t v, fn.params[j]? = some t → args[j]? = some v → Value.okWide C.prog W .any base t v) →
      DataW.TrodAll enc C.prog W 0 (fun _ => true) true fn.params.toList args.toList ds before → W.noneFrozen before →
      (DataW.weightsEach C.prog fn.params.toList ds).all (· ≤ reachBytes) = true →
      Calls C.prog f args W fun e W' => e = .returned (.bool true) ∧ Below W.heap.size W W') :
    ReturnsInHanded {} C os f .any (s.pre6 enc C.prog fn [] false) (s.post enc C.prog fn false true false false) := by
  have hrd : ∀ t ∈ fn.params.toList, C.prog.readableRec t = true ∧ t < C.prog.types.size := fun t ht => by
    have := List.all_eq_true.1 hrd0 t ht
    simpa using this
  refine returnsInHanded_of_change_sized own started noInit hfn witness ?_
  intro W base args ds gs before hval hW _ hsz _
  have hW' := hW
  obtain ⟨p, q, hA, hV, rfl, hz, _⟩ := hW
  rw [hvars] at hV
  have hgs : gs = [] ∧ q = [] := by
    cases gs with
    | nil => exact ⟨rfl, hV⟩
    | cons _ _ => cases hV
  obtain ⟨rfl, rfl⟩ := hgs
  have hvt : s.plain.varTypes C.prog = [] := by simp [ChangeSpec.plain, DataSpec.varTypes, hvars]
  rw [hvt, List.append_nil, List.append_nil] at hsz
  have hlt : ∀ x ∈ p, x.block < W.heap.size := fun x hx => hW'.lt x (by simpa using hx)
  refine (contract W base args ds p hval hA (by simpa using hz) hsz).mono ?_
  rintro e W' ⟨rfl, hb⟩
  refine ⟨_, rfl, ds, [], p ++ [], [], p, [], hW', ?_, ?_, ?_, hb.frame _, fun h => by cases h⟩
  · rw [List.append_nil, hspec ds (trodAll_length _ _ _ _ hA), hres]
    exact trodAll_mk1 (shut_bool hub true)
  · rw [List.append_nil, hspec ds (trodAll_length _ _ _ _ hA)]
    exact trodAll_below hl hb _ _ _ _ hrd hA hlt
  · rw [List.append_nil, hspec ds (trodAll_length _ _ _ _ hA), hvars]
    rfl
end

/- ARGUMENTS -/
section
open Go.Deep
variable {H : Type} {enc : TypeId × Value → H} {P : Program} {w : World} {sp : Nat → Bool} {held : Bool}
theorem weightsAll_mem {e : TypeId} {B : Nat} : ∀ {ds : List (DataW H)}, (DataW.weightsAll P e ds).all (· ≤ B) = true → ∀ {d : DataW H}, d ∈ ds → (d.weights P e).all (· ≤ B) = true
  | [], _, d, hd => by cases hd
  | x :: ds, h, d, hd => by
    unfold DataW.weightsAll at h
    rw [List.all_append, Bool.and_eq_true] at h
    rcases List.mem_cons.1 hd with rfl | hd
    · exact h.1
    · exact weightsAll_mem h.2 hd
theorem weightsEach_get {B : Nat} : ∀ {ts : List TypeId} {ds : List (DataW H)}, (DataW.weightsEach P ts ds).all (· ≤ B) = true → ∀ (j : Nat) {t : TypeId} {d : DataW H}, ts[j]? = some t → ds[j]? = some d → (d.weights P t).all (· ≤ B) = true
  | [], _, _, j, t, d, ht, _ => by simp at ht
  | _ :: _, [], _, j, t, d, _, hd => by simp at hd
  | t0 :: ts, d0 :: ds, h, 0, t, d, ht, hd => by
    unfold DataW.weightsEach at h
    rw [List.all_append, Bool.and_eq_true] at h
    simp at ht hd
    subst ht hd
    exact h.1
  | t0 :: ts, d0 :: ds, h, j + 1, t, d, ht, hd => by
    unfold DataW.weightsEach at h
    rw [List.all_append, Bool.and_eq_true] at h
    exact weightsEach_get h.2 j (by simpa using ht) (by simpa using hd)
theorem spot_of_cell {a : Addr} {u : Value} (h : w.cell? a = some u) : a.spot = none := by
  unfold World.cell? at h
  split at h
  · split at h
    · cases h
    · rename_i hs; simpa using hs
  · cases h
/-- A slice that came in: as a list of whatever its elements are read as. -/
theorem arg_slice {α : Type} {en : α → List Value} {dat : α → DataW H} {Wf : α → Prop} {r : Reach} {b0 : Nat} {t e : TypeId} {size : Nat} {v : Value} {d : DataW H} {p : List MemPlace}
    (ht : P.underlying t = some (.slice e)) (hC : P.cellsOf e = size) (h0 : 0 < size) (hen : ∀ x, (en x).length = size)
    (hel : ∀ n cs y, DataW.trod enc P w 0 sp held n e cs = some y → ∃ x : α, cs = en x ∧ y.1 = dat x ∧ Wf x)
    (hv : Value.okWide P w r b0 t v) (h : DataW.Trod enc P w 0 sp held t v d p) :
    ∃ (A : Option Addr) (n c : Nat) (xs : List α), v = .slice A n c ∧ n ≤ c ∧ c ≤ maxLen ∧ Rds (Ph.of w) size en A n xs ∧ (∀ x ∈ xs, Wf x) ∧
      (∀ B, (d.weights P t).all (· ≤ B) = true → n * P.bytesOf e ≤ B ∧ ∀ x ∈ xs, ((dat x).weights P e).all (· ≤ B) = true) ∧ (d = .nil ∧ xs = [] ∨ ∃ more, d = .slice (xs.map dat) more) := by
  obtain ⟨a0, len, cap, rfl⟩ := okWide_slice ht hv
  obtain ⟨fuel, hf⟩ := h
  rcases open_slice ht hf with ⟨hcs, hx⟩ | ⟨a, len', cap', m, n, D, Pl, hcs, _, hl, hm, hmm, hx, hi⟩
  · simp only [Value.cells] at hcs
    injection hcs with hcs
    injection hcs with h1 h2 h3
    subst h1 h2 h3
    simp only [Prod.mk.injEq] at hx
    exact ⟨none, 0, 0, [], rfl, Nat.le_refl _, Nat.zero_le _, Rds.nil hen, fun _ hx => (by cases hx), fun B _ => ⟨by simp, fun _ hx => (by cases hx)⟩, .inl ⟨hx.1, rfl⟩⟩
  · simp only [Value.cells] at hcs
    injection hcs with hcs
    injection hcs with h1 h2 h3
    subst h1 h2 h3
    simp only [Prod.mk.injEq] at hx
    have hlm : len ≤ m := by rw [hmm]; split <;> omega
    obtain ⟨xs, hxl, hxs⟩ := exists_list (Q := fun i (x : α) => (∃ cs', w.cells? 0 (a.add (i * size)) size = some cs' ∧ cs' = en x) ∧ D i = dat x ∧ Wf x) len (fun i hi' => by
      obtain ⟨cs', hc, htr⟩ := hi i (by omega)
      obtain ⟨x, h1, h2, h3⟩ := hel _ _ _ htr
      rw [hC] at hc
      exact ⟨x, ⟨cs', hc, h1⟩, h2, h3⟩)
    have hdat : (List.range len).map D = xs.map dat := by
      refine List.ext_getElem (by simp [hxl]) (fun i h1 h2 => ?_)
      simp at h1 h2
      simp [(hxs i h2).2.1]
    refine ⟨some a, len, cap, xs, rfl, hl, hm, ⟨hxl, hen, fun k hk => ?_⟩, fun x hx => ?_, fun B hB => ?_, .inr ⟨_, by rw [hx.1, hdat]⟩⟩
    · obtain ⟨⟨cs', hc, rfl⟩, _, _⟩ := hxs k hk
      obtain ⟨_, _, hat⟩ := World.cells?_some hc
      have hsp : a.spot = none := by
        obtain ⟨⟨cs0, hc0, rfl⟩, _, _⟩ := hxs 0 (by omega)
        obtain ⟨_, _, hat0⟩ := World.cells?_some hc0
        have h1 := hat0 0 h0
        have h2 : (en xs[0])[0]? = some ((en xs[0])[0]'(by rw [hen]; exact h0)) := List.getElem?_eq_getElem _
        rw [h2] at h1
        exact spot_of_cell (a := a) (by simpa [Addr.add] using h1)
      obtain ⟨b, off, spot⟩ := a
      have hsp' : spot = none := hsp
      subst hsp'
      refine ⟨b, off, rfl, fun j u hu => ?_⟩
      have hj : j < size := by rw [← hen xs[k]]; exact (List.getElem?_eq_some_iff.1 hu).1
      have h1 := hat j hj
      rw [hu] at h1
      rw [Ph.of_cell]
      have ea : ((⟨b, off, none⟩ : Addr).add (k * size)).add j = ⟨b, off + k * size + j, none⟩ := by
        unfold Addr.add
        by_cases e1 : k * size = 0 <;> by_cases e2 : j = 0 <;> simp [e1, e2]
      rw [← ea]
      exact h1
    · obtain ⟨i, hi', rfl⟩ := List.getElem_of_mem hx
      exact (hxs i hi').2.2
    · rw [hx.1, hdat] at hB
      unfold DataW.weights at hB
      simp only [ht, List.all_cons, List.all_append, Bool.and_eq_true, decide_eq_true_eq] at hB
      refine ⟨?_, fun x hxm => weightsAll_mem hB.2.1 (List.mem_map_of_mem hxm)⟩
      refine Nat.le_trans (Nat.mul_le_mul_right _ ?_) hB.1
      simp [hxl]

theorem el_int {k : IntKind} {t : TypeId} (ht : P.underlying t = some (.int k)) (n : Nat) (cs : List Value) (y : DataW H × List MemPlace) (h : DataW.trod enc P w 0 sp held n t cs = some y) :
    ∃ z : Int, cs = [.int k z] ∧ y.1 = .lit (.int k z) ∧ (Lit.int k z).wf = true := by
  obtain ⟨z, h1, rfl, h3⟩ := DataW.trod_int ht h
  exact ⟨z, h1, rfl, h3⟩
theorem el_str {t : TypeId} (ht : P.underlying t = some .string) (n : Nat) (cs : List Value) (y : DataW H × List MemPlace) (h : DataW.trod enc P w 0 sp held n t cs = some y) :
    ∃ z : ByteArray, cs = [.string z] ∧ y.1 = .lit (.string z.data.toList) ∧ z.size ≤ maxLen := by
  obtain ⟨z, h1, rfl, h3⟩ := DataW.trod_string ht h
  exact ⟨z, h1, rfl, h3⟩
theorem el_bool {t : TypeId} (ht : P.underlying t = some .bool) (n : Nat) (cs : List Value) (y : DataW H × List MemPlace) (h : DataW.trod enc P w 0 sp held n t cs = some y) :
    ∃ z : Bool, cs = [.bool z] ∧ y.1 = .lit (.bool z) := by
  obtain ⟨z, h1, rfl⟩ := DataW.trod_bool ht h
  exact ⟨z, h1, rfl⟩
/-- A struct of one-cell fields: its cells and the readings of its fields. -/
theorem el_struct {t : TypeId} {fs : Array Field} (ht : P.underlying t = some (.struct fs)) (hone : oneCellFields P fs = true) (hC : P.cellsOf t = fs.size) (n : Nat) (cs : List Value) (y : DataW H × List MemPlace)
    (h : DataW.trod enc P w 0 sp held n t cs = some y) :
    ∃ (m : Nat) (ys : List (DataW H × List MemPlace)), cs.length = fs.size ∧ ys.length = fs.size ∧ y.1 = .agg (ys.map (·.1)) ∧
      ∀ (j : Nat) (f : Field) (v : Value) (u : DataW H × List MemPlace), fs[j]? = some f → cs[j]? = some v → ys[j]? = some u → DataW.trod enc P w 0 sp held m f.type [v] = some u := by
  obtain ⟨ys, m, _, hy, hlen, hyl, hf⟩ := DataW.trod_struct ht h
  refine ⟨m, ys, by rw [hlen, hC], hyl, by rw [hy], fun j f v u hj hv hu => ?_⟩
  obtain ⟨ho, hk⟩ := hone_of hone j f hj
  have h1 := hf j f hj
  rw [ho, hk] at h1
  have hjl : j < cs.length := (List.getElem?_eq_some_iff.1 hv).1
  have hone' : (cs.drop j).take 1 = [v] := by
    rw [List.drop_eq_getElem_cons hjl, (List.getElem?_eq_some_iff.1 hv).2]
    rfl
  rw [hone', hu] at h1
  exact h1
theorem wf_i64' {z : Int} (h : (Lit.int .i64 z).wf = true) : -9223372036854775808 ≤ z ∧ z ≤ 9223372036854775807 := by
  simp [Lit.wf, IntKind.min, IntKind.max, IntKind.signed, IntKind.bits] at h
  omega
theorem wf_u8' {z : Int} (h : (Lit.int .u8 z).wf = true) : 0 ≤ z ∧ z ≤ 255 := by
  simp [Lit.wf, IntKind.min, IntKind.max, IntKind.signed, IntKind.bits] at h
  omega
theorem string_size {t : TypeId} {s : ByteArray} {B : Nat} (h : ((DataW.lit (.string s.data.toList) : DataW H).weights P t).all (· ≤ B) = true) : s.size ≤ B := by
  unfold DataW.weights at h
  simp only [List.all_cons, List.all_nil, Bool.and_true, decide_eq_true_eq] at h
  exact h
end

end Go.Proofs.YtabibfabieghpaaGreatDoor
