/- errors.As at the target of told (a *codec.refusal): turned from the worked proof ToyasAs; then what told answers, over owned memory. What told answers of a refusal, over owned memory; the laid variable's cell in a frame. Conversions between strings and slices of bytes; append of a string. No program in sight. Texts and bytes: short names, and laws that most seats need. codec.Writer: NewWriter, Raw, Num, Text, Done. codec.Writer.Num, where the number fits. codec.length, Writer.Text, where the text fits. codec.Reader: NewReader, take, number, Num, Text, Done, where nothing is wrong. -/
import Derived.Test.YtabibfabieghpaaGreatDoorPkz0
import Derived.LaidEql
import Derived.Stop.Asserts
import Derived.RowKitTokens
import Derived.Test.YtabibfabieghpaaGreatDoorPkOps
import Derived.Lib.ConvBytes
import Derived.Laws.BytesArg
import Derived.Lib.AppendStr
import Derived.Laws.MakeOwn
import Derived.Laws.OwnMore
import Derived.Test.YtabibfabieghpaaGreatDoorRows
import Derived.Laws.BitsAllLaws
import Derived.Laws.BitsLemmas
namespace Go.Proofs.YtabibfabieghpaaGreatDoor
open Go.RowKit Go.Extern.Stop Go.Stop Go.Extern

theorem rf_valueOfPP (t : Addr) (w : World) : (ReflectliteValue.unpack (.iface 192 (.pointer (some t)))).run Tryz.prog w
    = .ok (.agg #[.pointer (some ⟨4, 192, none⟩), .pointer (some ⟨w.heap.size, 0, none⟩), .int .u64 150]) (w.alloc (.cells #[.pointer (some t)] 192)) := by kernel_rfl
theorem rf_typePP (a : Addr) (w : World) : (ReflectliteValue.methodAny (ReflectliteValue.valueError "reflectlite.Value.Type" 0) (fun t _ _ _ => ReflectliteType.toType t) #[.agg #[.pointer (some ⟨4, 192, none⟩), .pointer (some a), .int .u64 150]]).run Tryz.prog w
    = .ok (.iface 227 (.agg #[.pointer (some ⟨4, 192, none⟩)])) w := by kernel_rfl
theorem rf_methodKind (h : Value) (w : World) : (Go.method 395 227 (.agg #[h]) "Kind").run Tryz.prog w = .ok (215, h) w := by kernel_rfl
theorem rf_kindPP (w : World) : ((ReflectliteType.abiMethod fun t => (fun a : Nat => Value.int IntKind.u8 (a : Int)) <$> Rtype.kind t) #[.pointer (some ⟨4, 192, none⟩)]).run Tryz.prog w = .ok (.int .u8 22) w := by kernel_rfl
theorem rf_kindP (w : World) : ((ReflectliteType.abiMethod fun t => (fun a : Nat => Value.int IntKind.u8 (a : Int)) <$> Rtype.kind t) #[.pointer (some ⟨4, 190, none⟩)]).run Tryz.prog w = .ok (.int .u8 22) w := by kernel_rfl

theorem rlm (z : Sem Value) (f : TypeId → Addr → Nat → Nat → Sem Value) (v : Value) :
    ReflectliteValue.method z f #[v] = (do match ← ReflectliteValue.parts v with | none => z | some (t, a, fl) => f t a fl (fl % 32)) := rfl
theorem rf_partsPP (a : Addr) (w : World) : (ReflectliteValue.parts (.agg #[.pointer (some ⟨4, 192, none⟩), .pointer (some a), .int .u64 150])).run Tryz.prog w = .ok (some (192, a, 150)) w := by kernel_rfl
theorem rf_isNilPP (a p : Addr) (W : World) (ha : W.cell? a = some (.pointer (some p))) :
    (ReflectliteValue.method (ReflectliteValue.valueError "reflectlite.Value.IsNil" 0) ReflectliteValue.isNil #[.agg #[.pointer (some ⟨4, 192, none⟩), .pointer (some a), .int .u64 150]]).run Tryz.prog W = .ok (.bool false) W := by
  rw [rlm]
  simp only [Sem.run_bind, rf_partsPP, Result.andThen]
  simp [ReflectliteValue.isNil, loadVar, isAgg, underlying, Tryz.underlying192, ha, Result.andThen]

theorem rf_methodElem (h : Value) (w : World) : (Go.method 395 227 (.agg #[h]) "Elem").run Tryz.prog w = .ok (228, .agg #[h]) w := by kernel_rfl
theorem rf_methodImplements (h : Value) (w : World) : (Go.method 395 227 (.agg #[h]) "Implements").run Tryz.prog w = .ok (229, .agg #[h]) w := by kernel_rfl
theorem rf_methodAssignableTo (h : Value) (w : World) : (Go.method 395 227 (.agg #[h]) "AssignableTo").run Tryz.prog w = .ok (226, .agg #[h]) w := by kernel_rfl
theorem rf_elemPP (w : World) : (ReflectliteType.method ReflectliteType.elem #[.agg #[.pointer (some ⟨4, 192, none⟩)]]).run Tryz.prog w = .ok (.iface 227 (.agg #[.pointer (some ⟨4, 190, none⟩)])) w := by kernel_rfl
theorem rf_implementsP (w : World) : (ReflectliteType.relation "Implements" ReflectliteType.implements_ #[.agg #[.pointer (some ⟨4, 190, none⟩)], .iface 227 (.agg #[.pointer (some ⟨4, 174, none⟩)])]).run Tryz.prog w = .ok (.bool true) w := by kernel_rfl
theorem rf_typeOfP (v : Value) (w : World) : (ReflectliteType.typeOf #[.iface 190 v]).run Tryz.prog w = .ok (.iface 227 (.agg #[.pointer (some ⟨4, 190, none⟩)])) w := by kernel_rfl
theorem rf_assignableP (w : World) : (ReflectliteType.relation "AssignableTo" ReflectliteType.assignableTo #[.agg #[.pointer (some ⟨4, 190, none⟩)], .iface 227 (.agg #[.pointer (some ⟨4, 190, none⟩)])]).run Tryz.prog w = .ok (.bool true) w := by kernel_rfl
theorem rf_valueOfP (e : Addr) (w : World) : (ReflectliteValue.unpack (.iface 190 (.pointer (some e)))).run Tryz.prog w
    = .ok (.agg #[.pointer (some ⟨4, 190, none⟩), .pointer (some ⟨w.heap.size, 0, none⟩), .int .u64 150]) (w.alloc (.cells #[.pointer (some e)] 190)) := by kernel_rfl

theorem rf_elemOfPP (w : World) : (Rtype.elem? 192).run Tryz.prog w = .ok (some 190) w := by kernel_rfl
theorem rf_mkP (p : Addr) (w : World) : (ReflectliteValue.mk 190 p ReflectliteValue.flagAddr).run Tryz.prog w = .ok (.agg #[.pointer (some ⟨4, 190, none⟩), .pointer (some p), .int .u64 406]) w := by kernel_rfl
theorem rf_elemVPP (a p : Addr) (W : World) (ha : W.cell? a = some (.pointer (some p))) :
    (ReflectliteValue.method (ReflectliteValue.valueError "reflectlite.Value.Elem" 0) ReflectliteValue.elem #[.agg #[.pointer (some ⟨4, 192, none⟩), .pointer (some a), .int .u64 150]]).run Tryz.prog W
      = .ok (.agg #[.pointer (some ⟨4, 190, none⟩), .pointer (some p), .int .u64 406]) W := by
  rw [rlm]
  simp only [Sem.run_bind, rf_partsPP, Result.andThen]
  simp [ReflectliteValue.elem, loadVar, isAgg, underlying, Tryz.underlying192, ha, Result.andThen, rf_elemOfPP, rf_mkP]
theorem rls (v x : Value) : ReflectliteValue.set #[v, x] = (do
    let (some (dst, a, fl), some (src, b, _)) := (← ReflectliteValue.parts v, ← ReflectliteValue.parts x)
      | unsupported (.noEntry "extern/(internal/reflectlite.Value).Set.zeroValue")
    if fl / ReflectliteValue.flagAddr % 2 == 0 then unsupported (.noEntry "extern/(internal/reflectlite.Value).Set.unaddressable")
    let val ← loadVar src b
    if ← Rtype.directlyAssignable dst src then storeVar dst a val
    else if ← Rtype.implements dst src then
      if (← Rtype.kind src) == 20 then
        match val with
        | .nilIface => unsupported (.noEntry "extern/reflectlite: a nil value of one interface type handed on as a value of another")
        | _ => storeVar dst a val
      else storeVar dst a (.iface src val)
    else panicString ("reflectlite.Set: value of type " ++ (← Rtype.spelt src) ++ " is not assignable to type " ++ (← Rtype.spelt dst))
    pure (.tuple #[])) := rfl
theorem rf_partsPa (a : Addr) (w : World) : (ReflectliteValue.parts (.agg #[.pointer (some ⟨4, 190, none⟩), .pointer (some a), .int .u64 406])).run Tryz.prog w = .ok (some (190, a, 406)) w := by kernel_rfl
theorem rf_partsP (a : Addr) (w : World) : (ReflectliteValue.parts (.agg #[.pointer (some ⟨4, 190, none⟩), .pointer (some a), .int .u64 150])).run Tryz.prog w = .ok (some (190, a, 150)) w := by kernel_rfl
theorem rf_directP (w : World) : (Rtype.directlyAssignable 190 190).run Tryz.prog w = .ok true w := by kernel_rfl
theorem rf_setP (ta b e : Addr) (old : Value) (W : World) (hb : W.cell? b = some (.pointer (some e))) (ht : W.cell? ta = some old) (hf : W.frozen? ta = false) :
    (ReflectliteValue.set #[.agg #[.pointer (some ⟨4, 190, none⟩), .pointer (some ta), .int .u64 406], .agg #[.pointer (some ⟨4, 190, none⟩), .pointer (some b), .int .u64 150]]).run Tryz.prog W
      = .ok (.tuple #[]) (W.setCell ta (.pointer (some e))) := by
  rw [rls]
  simp only [Sem.run_bind, rf_partsPa, rf_partsP, Result.andThen]
  simp [ReflectliteValue.flagAddr, loadVar, isAgg, underlying, Tryz.underlying190, hb, Result.andThen, rf_directP, storeVar, Value.cells, storeCells, Addr.add]
  rw [run_store Tryz.prog W ta _ _ (by rfl)]
  simp [ht, hf]

set_option maxRecDepth 100000 in
set_option maxHeartbeats 4000000 in
theorem as_hit (e t : Addr) (old : Value) (w : World) (hg : w.cell? ⟨1, 0, none⟩ = some (.iface 227 (.agg #[.pointer (some ⟨4, 174, none⟩)]))) (ht0 : w.cell? t = some old) (hf0 : w.frozen? t = false) :
    Calls Tryz.prog 145 #[.iface 190 (.pointer (some e)), .iface 192 (.pointer (some t))] w fun ev w' => ev = .returned (.bool true) ∧ w' = ((((w.alloc (.cells #[.pointer (some t)] 192)).alloc (.cells #[.pointer (some ⟨4, 192, none⟩), .pointer (some ⟨w.heap.size, 0, none⟩), .int .u64 150] 209)).alloc (.cells #[.pointer (some ⟨4, 192, none⟩), .pointer (some ⟨w.heap.size, 0, none⟩), .int .u64 150] 209)).alloc (.cells #[.pointer (some e)] 190)).setCell t (.pointer (some e)) := by
  have h6 := @run_callFunc_extern Tryz.prog 158 _ (fun args => ReflectliteValue.unpack (args.getD 0 (.tuple #[]))) Tryz.func158 (by kernel_rfl) (by kernel_rfl) (by kernel_rfl) (by kernel_rfl)
  have h7 := @run_callFunc_extern Tryz.prog 159 _ (ReflectliteValue.methodAny (ReflectliteValue.valueError "reflectlite.Value.Type" 0) (fun t _ _ _ => ReflectliteType.toType t)) Tryz.func159 (by kernel_rfl) (by kernel_rfl) (by kernel_rfl) (by kernel_rfl)
  have h8 := @run_callFunc_extern Tryz.prog 160 _ (ReflectliteValue.method (ReflectliteValue.valueError "reflectlite.Value.IsNil" 0) ReflectliteValue.isNil) Tryz.func160 (by kernel_rfl) (by kernel_rfl) (by kernel_rfl) (by kernel_rfl)
  have h27 := @run_callFunc_extern Tryz.prog 215 _ (ReflectliteType.abiMethod fun t => do pure (.int .u8 (← Rtype.kind t))) Tryz.func215 (by kernel_rfl) (by kernel_rfl) (by kernel_rfl) (by kernel_rfl)
  have h37 := @run_callFunc_extern Tryz.prog 228 _ (ReflectliteType.method ReflectliteType.elem) Tryz.func228 (by kernel_rfl) (by kernel_rfl) (by kernel_rfl) (by kernel_rfl)
  have h38 := @run_callFunc_extern Tryz.prog 229 _ (ReflectliteType.relation "Implements" ReflectliteType.implements_) Tryz.func229 (by kernel_rfl) (by kernel_rfl) (by kernel_rfl) (by kernel_rfl)
  have h10 := @run_callFunc_extern Tryz.prog 172 _ ReflectliteType.typeOf Tryz.func172 (by kernel_rfl) (by kernel_rfl) (by kernel_rfl) (by kernel_rfl)
  have h35 := @run_callFunc_extern Tryz.prog 226 _ (ReflectliteType.relation "AssignableTo" ReflectliteType.assignableTo) Tryz.func226 (by kernel_rfl) (by kernel_rfl) (by kernel_rfl) (by kernel_rfl)
  have h11 := @run_callFunc_extern Tryz.prog 173 _ (ReflectliteValue.method (ReflectliteValue.valueError "reflectlite.Value.Elem" 0) ReflectliteValue.elem) Tryz.func173 (by kernel_rfl) (by kernel_rfl) (by kernel_rfl) (by kernel_rfl)
  have h12 := @run_callFunc_extern Tryz.prog 174 _ ReflectliteValue.set Tryz.func174 (by kernel_rfl) (by kernel_rfl) (by kernel_rfl) (by kernel_rfl)
  have tO := rf_typeOfP
  have mA := rf_methodAssignableTo
  have a25 := rf_assignableP
  have v25 := rf_valueOfP
  have f6 := rf_valueOfPP
  have f7 := rf_typePP
  have mK := rf_methodKind
  have mE := rf_methodElem
  have mI := rf_methodImplements
  have k27 := rf_kindPP
  have k25 := rf_kindP
  have e27 := rf_elemPP
  have i25 := rf_implementsP
  have n8 := rf_isNilPP ⟨w.heap.size, 0, none⟩ t ((w.alloc (.cells #[.pointer (some t)] 192)).alloc (.cells #[.pointer (some ⟨4, 192, none⟩), .pointer (some ⟨w.heap.size, 0, none⟩), .int .u64 150] 209)) (by simp)
  have hlt : 1 < w.heap.size := World.block_lt_of_cell? w _ hg
  have hg2 : ((w.alloc (.cells #[.pointer (some t)] 192)).alloc (.cells #[.pointer (some ⟨4, 192, none⟩), .pointer (some ⟨w.heap.size, 0, none⟩), .int .u64 150] 209)).cell? ⟨1, 0, none⟩ = some (.iface 227 (.agg #[.pointer (some ⟨4, 174, none⟩)])) := by
    rw [World.cell?_alloc_lt _ _ ⟨1, 0, none⟩ (Nat.lt_of_lt_of_le hlt (by simp)), World.cell?_alloc_lt _ _ ⟨1, 0, none⟩ hlt]; exact hg
  have htl : t.block < w.heap.size := by
    rcases Nat.lt_or_ge t.block w.heap.size with h | h
    · exact h
    · simp [World.cell?, Array.getElem?_eq_none h] at ht0
  have el := rf_elemVPP ⟨w.heap.size, 0, none⟩ t (((w.alloc (.cells #[.pointer (some t)] 192)).alloc (.cells #[.pointer (some ⟨4, 192, none⟩), .pointer (some ⟨w.heap.size, 0, none⟩), .int .u64 150] 209)).alloc (.cells #[.pointer (some ⟨4, 192, none⟩), .pointer (some ⟨w.heap.size, 0, none⟩), .int .u64 150] 209)) (by rw [World.cell?_alloc_lt _ _ ⟨w.heap.size, 0, none⟩ (by simp; omega)]; simp)
  have st := rf_setP t ⟨w.heap.size + 1 + 1 + 1, 0, none⟩ e old ((((w.alloc (.cells #[.pointer (some t)] 192)).alloc (.cells #[.pointer (some ⟨4, 192, none⟩), .pointer (some ⟨w.heap.size, 0, none⟩), .int .u64 150] 209)).alloc (.cells #[.pointer (some ⟨4, 192, none⟩), .pointer (some ⟨w.heap.size, 0, none⟩), .int .u64 150] 209)).alloc (.cells #[.pointer (some e)] 190))
    (by rw [World.cell?_alloc_at _ _ _ _ (by simp)]; rfl)
    (by rw [World.cell?_alloc_lt _ _ t (by simp; omega), World.cell?_alloc_lt _ _ t (by simp; omega), World.cell?_alloc_lt _ _ t (by simp; omega), World.cell?_alloc_lt _ _ t htl]; exact ht0)
    (by rw [World.frozen?_alloc_old _ _ t (by simp; omega), World.frozen?_alloc_old _ _ t (by simp; omega), World.frozen?_alloc_old _ _ t (by simp; omega), World.frozen?_alloc_old _ _ t (Nat.ne_of_lt htl)]; exact hf0)
  go_enter Tryz.func145, Tryz.ntmps145
  go_wp2
  refine wp_loop_rounds 1 ?_
  rw [rounds_succ]
  go_wp2
  go_ret
  exact ⟨rfl, rfl⟩
end Go.Proofs.YtabibfabieghpaaGreatDoor
namespace Go.Proofs.YtabibfabieghpaaGreatDoor
open Go.RowKit
/-- The laid variable's cell reads as it was laid. -/
def Laid0 (E : World) (L : List Hp) : Prop := ∀ w, Own E w L → w.cell? ⟨1, 0, none⟩ = some errT
theorem Laid0.cons {E : World} {L : List Hp} {A : Hp} (h : Laid0 E L) : Laid0 E (A :: L) := fun _ hw => h _ hw.drop
theorem Laid0.start {W : World} (h : laidMetH Tryz.prog laidE W) : Laid0 W [Hp.ro (Ph.of W)] := fun _ hw => hw.old (handle_of_laid h)
abbrev REF : TypeId := 194
abbrev PREF : TypeId := 190
/-- What a Writer or a Reader keeps of what is wrong. -/
abbrev refV (r : Nat) : Value := .iface PREF (.pointer (some ⟨r, 0, none⟩))
section
variable {E : World} {L : List Hp}
set_option maxRecDepth 20000 in
set_option maxHeartbeats 2000000 in
theorem told_any (r : Nat) (e : Int) (w : World) (hG : Laid0 E L) (h : Own E w (Hp.blk r REF #[.int .i64 e] :: L)) :
    Calls Tryz.prog 130 #[refV r] w fun ev w' => ev = .returned (.int .i64 e) ∧ Own E w' (Hp.blk r REF #[.int .i64 e] :: L) := by
  have h1 : Own E (w.alloc (.cells #[.pointer none] PREF)) (Hp.blk w.heap.size PREF #[.pointer none] :: Hp.blk r REF #[.int .i64 e] :: L) := h.alloc _
  have hg := hG _ h1.drop.drop
  have ht := h1.cell 0
  have hf := h1.frozen 0
  obtain ⟨t, et⟩ : ∃ t, t = w.heap.size := ⟨_, rfl⟩
  rw [← et] at h1 ht hf
  have hrun := as_hit ⟨r, 0, none⟩ ⟨t, 0, none⟩ (.pointer none) _ hg ht hf
  have h2 := ((((h1.alloc (.cells #[.pointer (some ⟨t, 0, none⟩)] 192)).drop.alloc (.cells #[.pointer (some ⟨4, 192, none⟩), .pointer (some ⟨(w.alloc (.cells #[.pointer none] PREF)).heap.size, 0, none⟩), .int .u64 150] 209)).drop.alloc (.cells #[.pointer (some ⟨4, 192, none⟩), .pointer (some ⟨(w.alloc (.cells #[.pointer none] PREF)).heap.size, 0, none⟩), .int .u64 150] 209)).drop.alloc (.cells #[.pointer (some ⟨r, 0, none⟩)] PREF)).drop.set 0 (.pointer (some ⟨r, 0, none⟩))
  clear hg ht hf h1
  go_enter Tryz.func130, Tryz.ntmps130
  go_wp2_with fail
  rw [← et]
  refine hrun.mono ?_
  rintro e2 w2 ⟨rfl, hw2⟩
  rw [← hw2] at h2
  clear hw2 hrun et
  have c0 := h2.cell 0
  have d0 := h2.drop.cell 0
  have H2 := Lib.hid h2
  clear h2 h
  go_wp2_with fail
  go_ret
  exact ⟨rfl, H2.out.drop⟩
end
end Go.Proofs.YtabibfabieghpaaGreatDoor
namespace Go.Proofs.YtabibfabieghpaaGreatDoor
open Go.RowKit Go.Lib
abbrev V8' (x : UInt8) : Value := .int .u8 x.toNat
section
variable {P : Program} {E w w' : World} {L : List Hp}
theorem Own.rowRdC {e : TypeId} {size : Nat} {A : Option Addr} {n c : Nat} {xs : List Value} (h : Own E w (Hp.row e size (.slice A n c) n xs :: L)) : RdC w A xs := fun hne => by
  obtain ⟨v, xs', rfl⟩ : ∃ v xs', xs = v :: xs' := by
    cases xs with
    | nil => exact absurd rfl hne
    | cons v xs' => exact ⟨v, xs', rfl⟩
  obtain ⟨g, hA, _, _⟩ := h.rowCells 0 v rfl
  refine ⟨_, hA, fun j u hu => ?_⟩
  obtain ⟨g', hA', hc, _⟩ := h.rowCells j u hu
  rw [hA] at hA'
  injection hA' with hA'
  injection hA' with hA'
  subst hA'
  rw [add_eq, Nat.zero_add]; exact hc
/-- string(b). -/
theorem sl_to_string {src dst e : TypeId} (hs : P.underlying src = some (.slice e)) (he : P.underlying e = some (.int .u8)) (hd : P.underlying dst = some .string) (A : Option Addr) (l : List UInt8) (n c : Nat) (hn : l.length = n)
    (hr : RdC w A (l.map V8')) : (convert src dst (.slice A n c)).run P w = .ok (.string ⟨l.toArray⟩) w := by
  cases A with
  | none =>
    have : l = [] := by
      cases l with
      | nil => rfl
      | cons x l =>
        obtain ⟨ad, h, _⟩ := hr (by simp)
        cases h
    subst this
    rw [run_convert_bytes_nil w src e hs he n c dst hd]
    rfl
  | some ad =>
    have hl : (loadCells ad n).run P w = .ok ((l.map fun b => (b.toNat : Int)).map (Value.int .u8)).toArray w := by
      have e1 : (l.map fun b => (b.toNat : Int)).map (Value.int .u8) = l.map V8' := by rw [List.map_map]; rfl
      rw [e1]
      have := run_loadCells_list (P := P) w ad (l.map V8') (fun j v hj => by
        obtain ⟨ad', e2, hc⟩ := hr (by intro e; rw [e] at hj; simp at hj)
        injection e2 with e2
        subst e2
        exact hc j v hj)
      rw [List.length_map, hn] at this
      exact this
    rw [run_convert_bytes_string w src dst e _ n c hs he hd, run_bytesToString w ad n c _ hl, foldl_push_bytes]
    congr 2
    have e3 : (l.map fun b => (b.toNat : Int)).map (fun n => UInt8.ofNat n.toNat) = l := by
      rw [List.map_map]
      conv => rhs; rw [← List.map_id l]
      refine List.map_congr_left fun b _ => ?_
      simp
    rw [e3]
    show (⟨#[] ++ l.toArray⟩ : ByteArray) = _
    simp
/-- []byte(s). -/
theorem sl_to_bytes {src dst e : TypeId} (hs : P.underlying src = some .string) (hd : P.underlying dst = some (.slice e)) (he : P.underlying e = some (.int .u8)) (s : ByteArray) (hm : s.size ≤ maxLen) (h : Own E w L) :
    ∃ cap w', (convert src dst (.string s)).run P w = .ok (.slice (some ⟨w.heap.size, 0, none⟩) s.size cap) w' ∧
      Own E w' (Hp.row e 1 (.slice (some ⟨w.heap.size, 0, none⟩) s.size cap) s.size (s.data.toList.map V8') :: L) := by
  refine ⟨_, _, Lib.run_convert_string_bytes (P := P) w src dst e s hs hd he, ?_⟩
  have hsz : s.data.size = s.size := rfl
  have hge : s.size ≤ grownCap w s.size 0 e := grownCap_ge w s.size 0 e
  have hle : grownCap w s.size 0 e ≤ maxLen := grownCap_le_maxLen w s.size 0 e hm
  have hcs : (Lib.bytesCells w e s).size = grownCap w s.size 0 e := by
    unfold Lib.bytesCells
    simp only [Array.size_append, Array.size_map, Array.size_replicate, hsz]
    omega
  have h1 : Own E (Lib.bytesWorld w e s) (Hp.obj w.heap.size (.cells (Lib.bytesCells w e s) e ((Lib.bytesCells w e s).size, (Lib.bytesCells w e s).size + 1)) :: L) := by
    have h0 := h.drew.alloc (.cells (Lib.bytesCells w e s) e)
    refine h0.turn rfl rfl rfl (Lib.bytesWorld_at_new w e s) fun k hk hne => ?_
    have hk' : k < w.heap.size + 1 := by
      have e : (w.drew.alloc (.cells (Lib.bytesCells w e s) e)).heap.size = w.heap.size + 1 := Array.size_push _
      omega
    have hne' : k ≠ w.heap.size := hne
    rw [Lib.bytesWorld_at_old w e s k (by omega)]
    exact (heap_alloc_old w.drew (.cells (Lib.bytesCells w e s) e) (show k < w.heap.size by omega)).symm
  have h2 := (Own.mkMk (.inr (Nat.le_refl _)) h1).mtoRow 1 s.size _ hge hle (by rw [hcs]; omega)
  have e2 : (Lib.bytesCells w e s).toList.take (s.size * 1) = s.data.toList.map V8' := by
    unfold Lib.bytesCells
    rw [Nat.mul_one, Array.toList_append, Array.toList_map, List.take_append_of_le_length (by simp [hsz]), List.take_of_length_le (by simp [hsz])]
  rw [e2] at h2
  exact h2
/-- append(v, s...), v owned, s a string. -/
theorem sl_append_string {t u ty e : TypeId} (ht : P.underlying t = some (.slice e)) (hu : P.underlying u = some .string) (hinfo : (P.info? e).map (fun i => (i.zero, i.size, i.bytes)) = some (some (.int .u8 0), 1, 1))
    {v : Value} {n : Nat} {xs : List Value} (h : Own E w (Hp.row e 1 v n xs :: L)) (s : ByteArray) (h63 : n + s.size ≤ 140737488355328) :
    ∃ v' w', (Builtin.append_ #[t, u] ty #[v, .string s]).run P w = .ok v' w' ∧ Own E w' (Hp.row e 1 v' (n + s.size) (xs ++ s.data.toList.map V8') :: L) ∧ (v' = .slice none 0 0 ↔ v = .slice none 0 0 ∧ s.size = 0) := by
  obtain ⟨i, hi, hzz⟩ := Option.map_eq_some_iff.1 hinfo
  simp only [Prod.mk.injEq] at hzz
  obtain ⟨hz, hsize, hby⟩ := hzz
  obtain ⟨hxl, hform⟩ := h.rowForm
  have hcells : strCells s = s.data.toList.map V8' := rfl
  have hlen : (xs ++ s.data.toList.map V8').length = (n + s.size) * 1 := by rw [List.length_append, hxl, ← hcells, strCells_length]; omega
  have hgrown : ∀ old, old < n + s.size → Own E w L → Own E (w.drew.alloc (.cells (xs.toArray ++ (strCells s).toArray ++ Builtin.zeroCells (Value.int .u8 0).cells (grownCap w (n + s.size) old e - (n + s.size))) e))
      (Hp.row e 1 (.slice (some ⟨w.heap.size, 0, none⟩) (n + s.size) (grownCap w (n + s.size) old e)) (n + s.size) (xs ++ s.data.toList.map V8') :: L) := fun old hlt ho => by
    have hge := grownCap_ge w (n + s.size) old e
    have hcm := grownCap_le_maxLen w (n + s.size) old e (by unfold maxLen; omega)
    refine ((ho.drew.alloc _).toRow 1 (n + s.size) _ hge hcm ?_).imp ?_
    · have hz1 : (Value.int IntKind.u8 0).cells.size = 1 := rfl
      simp only [Array.size_append, List.size_toArray, size_zeroCells, hz1, hxl, strCells_length]
      omega
    · intro x hx
      have e7 : (xs.toArray ++ (strCells s).toArray ++ Builtin.zeroCells (Value.int .u8 0).cells (grownCap w (n + s.size) old e - (n + s.size))).toList.take ((n + s.size) * 1) = xs ++ s.data.toList.map V8' := by
        rw [← hlen, Array.toList_append]
        have e8 : (xs.toArray ++ (strCells s).toArray).toList = xs ++ s.data.toList.map V8' := by simp [hcells]
        rw [e8]
        exact List.take_left
      rw [e7] at hx
      exact hx
  rcases hform with ⟨rfl, rfl, rfl, ho⟩ | ⟨g, cap, cur, rfl, hnc, hcm, hcs, htake, ho⟩
  · by_cases hm : s.size = 0
    · have hn : strCells s = [] := List.eq_nil_of_length_eq_zero (by rw [strCells_length]; exact hm)
      refine ⟨.slice none 0 0, w, ?_, ?_, by simp [hm]⟩
      · have hf := run_firstCells_string (P := P) w 1 s
        rw [hm] at hf
        simp [Builtin.append_, run_underlying ht, run_underlying hu, sizeOf, typeInfo, hi, hsize, Builtin.lenOf, hm, hf]
      · rw [← hcells, hn, hm]; exact h
    · have hr := run_append_nil_string (P := P) w t u ty e i (.int .u8 0) ht hu hi hz s (by omega) (by omega) (by rw [hby]; omega)
      have e1 : (s.data.map fun b => Value.int .u8 b.toNat) = (strCells s).toArray := by
        apply Array.ext'
        simp [strCells]
      rw [e1] at hr
      have hg := hgrown 0 (by omega) ho
      simp only [Nat.zero_add, List.nil_append, Array.empty_append] at hg ⊢
      exact ⟨_, _, hr, hg, by simp [hm]⟩
  · by_cases hroom : n + s.size ≤ cap
    · have hfit : n * 1 + (strCells s).length ≤ cur.size := by rw [strCells_length]; omega
      have hf := run_firstCells_string (P := P) w 1 s
      have hst := run_storeCells_cells (P := P) g (n * 1) (strCells s) 0 w (fun j hj => by rw [ho.mcell, Array.getElem?_eq_getElem (by omega)]; rfl) (fun j hj => ho.mfrozen _ (by omega)) (strCells_oneCell s)
      simp only [Nat.add_zero] at hst
      have hrun : (Builtin.append_ #[t, u] ty #[.slice (some ⟨g, 0, none⟩) n cap, .string s]).run P w = .ok (.slice (some ⟨g, 0, none⟩) (n + s.size) cap) (w.setCells g (n * 1) (strCells s)) := by
        simp only [Nat.mul_one] at hst
        simp [Builtin.append_, run_underlying ht, run_underlying hu, sizeOf, typeInfo, hi, hsize, Builtin.lenOf, hroom, hf, Addr.add_lit, hst]
      refine ⟨_, _, hrun, ?_, by simp⟩
      have h7 := (ho.msetCells (strCells s) (n * 1)).mtoRow 1 (n + s.size) cap hroom hcm (by rw [putArr_size]; exact hcs)
      have e7 : (putArr cur (n * 1) (strCells s)).toList.take ((n + s.size) * 1) = xs ++ s.data.toList.map V8' := by
        have e8 := putArr_splice cur.toList (strCells s) (n * 1) (by simpa using hfit)
        have e9 : cur.toList.toArray = cur := by simp
        rw [e9] at e8
        rw [e8, ← hlen]
        unfold splice
        rw [htake, ← List.append_assoc]
        exact List.take_left
      rw [e7] at h7
      exact h7
    · have holds : ∀ j u, xs[j]? = some u → w.cell? ((⟨g, 0, none⟩ : Addr).add j) = some u := fun j u hu => by
        obtain ⟨g', hA, hc, _⟩ := h.rowCells j u hu
        injection hA with hA
        injection hA with hA
        subst hA
        rw [add_eq, Nat.zero_add]; exact hc
      have hr := run_append_grow_string (P := P) w t u ty e i (.int .u8 0) ht hu hi hz ⟨g, 0, none⟩ n cap xs (by rw [hsize]; exact hxl) holds s (by omega) (by omega) (by rw [hby]; exact growslice_fits (by omega) (by omega))
      exact ⟨_, _, hr, hgrown cap (by omega) ho.drop, by simp⟩
variable {ops : Array Oper} {rest : List Oper} {o : Oper} {a : Act} {K : Act → World → Prop} {Q : Exit → Act → World → Prop} {r : Value}
theorem wp_make_run {T : TypeId} {vl vc : Value} {x y : Operand} (hrun : (Instr.makeSlice T vl vc).run P w = .ok r w') (ho : o.op = .makeSlice T x y) (hx : a.eval x = vl) (hy : a.eval y = vc) (h : K (a.put o.dst r) w') : o.wp P a w K Q := by
  unfold Oper.wp execOp
  simp only [ho, hx, hy, Sem.run_bind, Sem.run_pure, Result.andThen_ok, hrun]
  exact h
theorem wpList_make_run {T : TypeId} {vl vc : Value} {x y : Operand} (hrun : (Instr.makeSlice T vl vc).run P w = .ok r w') (hgd : o.guard = none) (ho : o.op = .makeSlice T x y) (hx : a.eval x = vl) (hy : a.eval y = vc)
    (h : wpList P ops Q rest (a.put o.dst r) w') : wpList P ops Q (o :: rest) a w :=
  wpList_plain hgd fun _ hK => wp_make_run hrun ho hx hy (hK _ _ h)
theorem wp_conv_run {S T : TypeId} {vx : Value} {x : Operand} (hrun : (convert S T vx).run P w = .ok r w') (ho : o.op = .convert S T x) (hx : a.eval x = vx) (h : K (a.put o.dst r) w') : o.wp P a w K Q := by
  unfold Oper.wp execOp
  simp only [ho, hx, Sem.run_bind, Sem.run_pure, Result.andThen_ok, hrun]
  exact h
theorem wpList_conv_run {S T : TypeId} {vx : Value} {x : Operand} (hrun : (convert S T vx).run P w = .ok r w') (hgd : o.guard = none) (ho : o.op = .convert S T x) (hx : a.eval x = vx)
    (h : wpList P ops Q rest (a.put o.dst r) w') : wpList P ops Q (o :: rest) a w :=
  wpList_plain hgd fun _ hK => wp_conv_run hrun ho hx (hK _ _ h)
/-- make([]T, n, c), T of one cell. -/
theorem sl_make {T e : TypeId} {z : Value} {bytes : Nat} (hT : P.underlying T = some (.slice e)) (hinfo : (P.info? e).map (fun i => (i.zero, i.size, i.bytes)) = some (some z, 1, bytes)) (hz : z.cells = #[z]) (kl kc : IntKind) (n c : Nat) (hnc : n ≤ c)
    (hb : bytes * c ≤ 281474976710656) (hm : c ≤ maxLen) (h : Own E w L) :
    ∃ w', (Instr.makeSlice T (.int kl n) (.int kc c)).run P w = .ok (.slice (some ⟨w.heap.size, 0, none⟩) n c) w' ∧ w' = w.alloc (.cells (List.replicate c z).toArray e) ∧
      Own E w' (Hp.row e 1 (.slice (some ⟨w.heap.size, 0, none⟩) n c) n (List.replicate n z) :: L) ∧ Own E w' (Hp.blk w.heap.size e (List.replicate c z).toArray :: L) := by
  obtain ⟨i, hi, hzz⟩ := Option.map_eq_some_iff.1 hinfo
  simp only [Prod.mk.injEq] at hzz
  obtain ⟨hz0, hsize, hby⟩ := hzz
  unfold maxLen at hm
  have hb' : (i.bytes : Int) * (c : Int) ≤ 281474976710656 := by
    rw [hby]
    have h9 : ((bytes * c : Nat) : Int) ≤ 281474976710656 := by omega
    rwa [Int.natCast_mul] at h9
  have hr := run_make (P := P) w T e i z hT hi hz0 kl kc n c (by omega) (by omega) hb' (by omega)
  simp only [Int.toNat_natCast, hz, hsize, Nat.mul_one] at hr
  have e1 : madeCells #[z] c = (List.replicate c z).toArray := by rw [← toList_madeCells_one]
  rw [e1] at hr
  have hb2 := h.alloc (.cells (List.replicate c z).toArray e)
  refine ⟨_, hr, rfl, ?_, hb2⟩
  have h2 := Own.toRow (e := e) (cur := (List.replicate c z).toArray) hb2 1 n c hnc (by unfold maxLen; omega) (by simp)
  have e2 : (List.replicate c z).toArray.toList.take (n * 1) = List.replicate n z := by simp [List.take_replicate, Nat.min_eq_left hnc]
  rw [e2] at h2
  exact h2

/-- append(v, x, y ..): the new elements lie in a block of their own. -/
theorem sl_append_new {t ty e : TypeId} {z : Value} {size bytes : Nat} (ht : P.underlying t = some (.slice e)) (hinfo : (P.info? e).map (fun i => (i.zero, i.size, i.bytes)) = some (some z, size, bytes))
    (hzs : z.cells.size = size) (hsz : 0 < size) {v : Value} {n : Nat} {xs : List Value} (h : Own E w (Hp.row e size v n xs :: L)) (news : Array Value) (m : Nat) (hl : news.size = m * size)
    (h1 : ∀ u ∈ news.toList, u.oneCell' = true) (h63 : n + m ≤ maxLen) (hbytes : (n + m) * bytes ≤ 140737488355328) :
    ∃ v' w', (Builtin.append_ #[t, t] ty #[v, .slice (some ⟨w.heap.size, 0, none⟩) m m]).run P (w.alloc (.cells news e)) = .ok v' w' ∧ Own E w' (Hp.row e size v' (n + m) (xs ++ news.toList) :: L) ∧ (v' = .slice none 0 0 ↔ v = .slice none 0 0 ∧ m = 0) := by
  have h2 := h.alloc (.cells news e)
  have hr : RdC (w.alloc (.cells news e)) (some ⟨w.heap.size, 0, none⟩) news.toList := RdC.of_block h2.at_ _ (fun j u hu => by simpa using hu)
  obtain ⟨v', w', hrun, h3, h4⟩ := sl_append (P := P) (ty := ty) ht hinfo hzs hsz h2.f1 (some ⟨w.heap.size, 0, none⟩) m m news.toList (by simpa using hl) hr h1 h63 hbytes
  exact ⟨v', w', hrun, h3.f1.drop, h4⟩
theorem Own.rowSlice {e : TypeId} {size : Nat} {v : Value} {n : Nat} {xs : List Value} (h : Own E w (Hp.row e size v n xs :: L)) : ∃ A c, v = .slice A n c := by
  obtain ⟨_, hf⟩ := h.rowForm
  rcases hf with ⟨h1, h2, _⟩ | ⟨g, cap, cur, h1, _⟩
  · subst h2; exact ⟨_, _, h1⟩
  · exact ⟨_, _, h1⟩
/-- string(b), b owned. -/
theorem Own.rowString {src dst e : TypeId} (hs : P.underlying src = some (.slice e)) (he : P.underlying e = some (.int .u8)) (hd : P.underlying dst = some .string) {v : Value} {n : Nat} {l : List UInt8} (h : Own E w (Hp.row e 1 v n (l.map V8') :: L)) :
    (convert src dst v).run P w = .ok (.string ⟨l.toArray⟩) w := by
  obtain ⟨A, c, rfl⟩ := h.rowSlice
  have hl : l.length = n := by have := h.rowForm.1; simpa using this
  exact sl_to_string hs he hd A l n c hl h.rowRdC
end
end Go.Proofs.YtabibfabieghpaaGreatDoor
namespace Go.Proofs.YtabibfabieghpaaGreatDoor
open Go.RowKit
abbrev BT : TypeId := 148
abbrev ST : TypeId := 9
abbrev U8 : TypeId := 5
theorem u8_info : (Tryz.prog.info? U8).map (fun i => (i.zero, i.size, i.bytes)) = some (some (.int .u8 0), 1, 1) := by kernel_rfl
/-- The operation that a walk's arm waits for, by its slot: fails fast. -/
theorem at_slot {P : Program} {ops : Array Oper} {Q : Exit → Act → World → Prop} {rest : List Oper} {a : Act} {w : World} {k : Option Tmp} {x1 x2 x3 x4 x5} (h : wpList P ops Q ((⟨k, x1, x2, x3, x4, x5⟩ : Oper) :: rest) a w) : wpList P ops Q ((⟨k, x1, x2, x3, x4, x5⟩ : Oper) :: rest) a w := h
theorem byte_index (s : ByteArray) (i : Int) (n : Nat) (h : i = (n : Int)) (hn : n < s.size) (W : World) : (Instr.index ST (.string s) (.int .i64 i)).run Tryz.prog W = .ok (.int .u8 (s.data.toList.getD n 0).toNat) W := by
  subst h
  rw [run_index_string (P := Tryz.prog) W _ s .i64 _ (by kernel_rfl), dif_pos ⟨by omega, by omega⟩]
  have hl : n < s.data.toList.length := hn
  have hg : s[((n : Int)).toNat]'(by simpa using hn) = s.data.toList.getD n 0 := by
    rw [List.getD_eq_getElem?_getD, List.getElem?_eq_getElem hl]
    rfl
  rw [hg]
theorem bytes_ext (a : ByteArray) (l : List UInt8) (h : a.data.toList = l) : a = ⟨l.toArray⟩ := by subst h; rfl
theorem app_data (a b : ByteArray) : (a ++ b).data.toList = a.data.toList ++ b.data.toList := by rw [ByteArray.data_append, Array.toList_append]
theorem ret_bool {a b : Bool} (h : a = b) : Ending.returned (.bool a) = .returned (.bool b) := by rw [h]
theorem ofInt_i64 (a : Nat) (ha : a < 9223372036854775808) : (BitVec.ofInt 64 (a : Int)).toNat = a := by
  rw [BitVec.ofInt_natCast, BitVec.toNat_ofNat]; exact Nat.mod_eq_of_lt (by omega)
theorem i64_and_nat (a b : Nat) (ha : a < 9223372036854775808) (hb : b < 9223372036854775808) : bits .and .i64 (a : Int) (b : Int) = ((a &&& b : Nat) : Int) := by
  have hx : a &&& b < 2 ^ 63 := Nat.and_lt_two_pow _ (by omega)
  show IntKind.i64.wrap ((BitVec.ofInt 64 (a : Int) &&& BitVec.ofInt 64 (b : Int)).toNat : Int) = _
  rw [BitVec.toNat_and, ofInt_i64 a ha, ofInt_i64 b hb, IntKind.wrap_i64]
  omega
theorem i64_or_nat (a b : Nat) (ha : a < 9223372036854775808) (hb : b < 9223372036854775808) : bits .or .i64 (a : Int) (b : Int) = ((a ||| b : Nat) : Int) := by
  have hx : a ||| b < 2 ^ 63 := Nat.or_lt_two_pow (by omega) (by omega)
  show IntKind.i64.wrap ((BitVec.ofInt 64 (a : Int) ||| BitVec.ofInt 64 (b : Int)).toNat : Int) = _
  rw [BitVec.toNat_or, ofInt_i64 a ha, ofInt_i64 b hb, IntKind.wrap_i64]
  omega
theorem add_u8 {E wr : World} {M : List Hp} {v : Value} {n : Nat} {l : List UInt8} (V : Int) (x : UInt8) (hV : V = (x.toNat : Int)) (hn : n + 1 ≤ 140737488355328) (h : Own E wr (Hp.row U8 1 v n (l.map V8') :: M)) :
    ∃ v' w', (Builtin.append_ #[BT, BT] BT #[v, .slice (some ⟨wr.heap.size, 0, none⟩) 1 1]).run Tryz.prog (wr.alloc (.cells #[.int .u8 V] U8)) = .ok v' w' ∧ Own E w' (Hp.row U8 1 v' (n + 1) ((l ++ [x]).map V8') :: M) := by
  subst hV
  obtain ⟨v', w', h1, h2, _⟩ := sl_append_new (P := Tryz.prog) (ty := BT) (t := BT) (by kernel_rfl) u8_info rfl (by omega) h #[.int .u8 x.toNat] 1 rfl (by intro u hu; rw [List.mem_singleton.1 hu]; rfl) (by unfold maxLen; omega) (by omega)
  exact ⟨v', w', h1, by rw [List.map_append]; exact h2⟩
end Go.Proofs.YtabibfabieghpaaGreatDoor
namespace Go.Proofs.YtabibfabieghpaaGreatDoor
open Go.RowKit
abbrev WT : TypeId := 176
/-- A Writer at block b: what is wrong with it (a value of type error), and what it has laid down. -/
def Hp.writer (b : Nat) (W : Value) (l : List UInt8) : Hp := Hp.ex fun v => Hp.all [Hp.blk b WT #[v, W], Hp.row U8 1 v l.length (l.map V8')]
section
variable {E w : World} {L : List Hp} {b : Nat} {W : Value} {l : List UInt8}
theorem Own.ofWriter (h : Own E w (Hp.writer b W l :: L)) : ∃ v, Own E w (Hp.blk b WT #[v, W] :: Hp.row U8 1 v l.length (l.map V8') :: L) := by
  obtain ⟨v, hv⟩ := Own.ex.1 h
  exact ⟨v, Own.star.1 hv⟩
theorem Own.toWriter {v : Value} (h : Own E w (Hp.blk b WT #[v, W] :: Hp.row U8 1 v l.length (l.map V8') :: L)) : Own E w (Hp.writer b W l :: L) :=
  Own.ex.2 ⟨v, Own.star.2 h⟩
end
section
variable {E : World} {L : List Hp}
theorem newwriter_any (w : World) (h : Own E w L) :
    Calls Tryz.prog 112 #[] w fun e w' => ∃ b, e = .returned (.pointer (some ⟨b, 0, none⟩)) ∧ Own E w' (Hp.writer b .nilIface [] :: L) := by
  go_enter Tryz.func112, Tryz.ntmps112
  go_wp2_with fail
  go_ret
  exact ⟨_, rfl, Own.toWriter ((h.nilRow U8 1).alloc (.cells #[.slice none 0 0, Value.nilIface] WT))⟩
theorem raw_any (b : Nat) (W : Value) (l : List UInt8) (s : ByteArray) (w : World) (hs : l.length + s.size ≤ 140737488355328) (h : Own E w (Hp.writer b W l :: L)) :
    Calls Tryz.prog 113 #[.pointer (some ⟨b, 0, none⟩), .string s] w fun e w' => e = .returned (.tuple #[]) ∧ Own E w' (Hp.writer b W (l ++ s.data.toList) :: L) := by
  obtain ⟨v, h1⟩ := h.ofWriter
  have c0 : w.cell? ⟨b, 0, none⟩ = some v := h1.cell 0
  obtain ⟨v', w5, hap, h2, -⟩ := sl_append_string (P := Tryz.prog) (t := BT) (u := ST) (ty := BT) (e := U8) (by kernel_rfl) (by kernel_rfl) u8_info h1.f1 s hs
  obtain ⟨A', c', rfl⟩ := h2.rowSlice
  have d0 : w5.cell? ⟨b, 0, none⟩ = some v := h2.f1.cell 0
  have f0 := h2.f1.frozen 0
  have h3 : Own E (w5.setCell ⟨b, 0, none⟩ (.slice A' (l.length + s.size) c')) (Hp.blk b WT #[.slice A' (l.length + s.size) c', W] :: Hp.row U8 1 (.slice A' (l.length + s.size) c') (l.length + s.size) (l.map V8' ++ s.data.toList.map V8') :: L) := h2.f1.set 0 _
  have h4 : Own E (w5.setCell ⟨b, 0, none⟩ (.slice A' (l.length + s.size) c')) (Hp.writer b W (l ++ s.data.toList) :: L) := by
    refine Own.toWriter (v := .slice A' (l.length + s.size) c') ?_
    rw [List.length_append, List.map_append]
    exact h3
  have H4 := Lib.hid h4
  clear h h1 h2 h3 h4
  go_enter Tryz.func113, Tryz.ntmps113
  go_wp2_with (with_reducible refine at_slot (k := some 10) ?_; refine wpList_append_run (o := ⟨some 10, _, _, _, _, _⟩) hap rfl rfl rfl rfl ?_; clear hap)
  go_end0
  exact ⟨rfl, H4.out⟩
theorem wdone_any (b : Nat) (l : List UInt8) (w : World) (h : Own E w (Hp.writer b .nilIface l :: L)) :
    Calls Tryz.prog 114 #[.pointer (some ⟨b, 0, none⟩)] w fun e w' => e = .returned (.tuple #[.string ⟨l.toArray⟩, .int .i64 0]) ∧ Own E w' (Hp.writer b .nilIface l :: L) := by
  obtain ⟨v, h1⟩ := h.ofWriter
  have c0 : w.cell? ⟨b, 0, none⟩ = some v := h1.cell 0
  have c1 : w.cell? ⟨b, 1, none⟩ = some .nilIface := h1.cell 1
  have hst := h1.f1.rowString (P := Tryz.prog) (src := BT) (dst := ST) (e := U8) (by kernel_rfl) (by kernel_rfl) (by kernel_rfl)
  have H := Lib.hid h
  clear h h1
  go_enter Tryz.func114, Tryz.ntmps114
  go_wp2_with (with_reducible refine at_slot (k := some 18) ?_; refine wpList_conv_run (o := ⟨some 18, _, _, _, _, _⟩) hst rfl rfl rfl ?_; clear hst)
  go_ret2
  exact ⟨rfl, H.out⟩
end
end Go.Proofs.YtabibfabieghpaaGreatDoor
namespace Go.Proofs.YtabibfabieghpaaGreatDoor
open Go.RowKit
/-- A number by so many bytes, the highest first. -/
def byN : Nat → Nat → List UInt8
  | 0, _ => []
  | k + 1, n => UInt8.ofNat (n / 256 ^ k) :: byN k n
theorem byN_len (k n : Nat) : (byN k n).length = k := by
  induction k with
  | zero => rfl
  | succ k ih => simp [byN, ih]
section
variable {E : World} {L : List Hp}
set_option maxRecDepth 20000 in
set_option maxHeartbeats 2000000 in
theorem wnum_any (b : Nat) (W : Value) (l : List UInt8) (size n : Nat) (w : World) (h1s : 1 ≤ size) (h8s : size ≤ 8) (hn : n < 256 ^ size) (hn2 : n < 9223372036854775808) (hl : l.length + 8 ≤ 140737488355328) (h : Own E w (Hp.writer b W l :: L)) :
    Calls Tryz.prog 120 #[.pointer (some ⟨b, 0, none⟩), .int .i64 size, .int .i64 n] w fun e w' => e = .returned (.tuple #[]) ∧ Own E w' (Hp.writer b W (l ++ byN size n) :: L) := by
  have s1 : ¬ (size : Int) < 1 := by omega
  have s2 : ¬ (8 : Int) < size := by omega
  have n0 : ¬ (n : Int) < 0 := by omega
  have HN2 := Lib.hid hn2
  have HL := Lib.hid hl
  have H := Lib.hid h
  have hpow : (256 : Nat) ^ size = 2 ^ (8 * size) := by rw [show (256 : Nat) = 2 ^ 8 by rfl, ← Nat.pow_mul]
  have hdiv : n / 2 ^ (8 * size) = 0 := Nat.div_eq_of_lt (by rw [← hpow]; exact hn)
  have HD := Lib.hid hdiv
  clear hn hn2 hl h hpow hdiv
  have hdi : (n : Int) / 2 ^ (8 * size) = 0 := by
    have e1 : (n : Int) / 2 ^ (8 * size) = ((n / 2 ^ (8 * size) : Nat) : Int) := by rw [Int.natCast_ediv, Int.natCast_pow]; rfl
    rw [e1, HD.out]; rfl
  by_cases h8 : size < 8
  · have s3 : (size : Int) < 8 := by omega
    go_enter Tryz.func120, Tryz.ntmps120
    go_wp2_with fail
    go_loopw [6] (fun i wr => ∃ (k : Nat) (o : List UInt8), k ≤ size ∧ i = .int .i64 ((k : Int) - 1) ∧ o ++ byN k n = byN size n ∧ Own E wr (Hp.writer b W (l ++ o) :: L)) (fun i _ => (intOf i + 1).toNat)
    case atStart => exact ⟨size, [], by omega, rfl, rfl, by rw [List.append_nil]; exact H.out⟩
    case round =>
      obtain ⟨k, o, hk, rfl, ho, hw⟩ := hrel
      by_cases hk0 : 0 < k
      · obtain ⟨p, rfl⟩ : ∃ p, k = p + 1 := ⟨k - 1, by omega⟩
        have hpi : ((p + 1 : Nat) : Int) - 1 = (p : Int) := by omega
        rw [hpi]
        obtain ⟨v, h1⟩ := hw.ofWriter
        obtain ⟨A, c, rfl⟩ := h1.f1.rowSlice
        obtain ⟨m, hm⟩ : ∃ m, m = (l ++ o).length := ⟨_, rfl⟩
        have hmb : m + 1 ≤ 140737488355328 := by
          have e := congrArg List.length ho
          rw [List.length_append, byN_len, byN_len] at e
          have := HL.out
          rw [hm, List.length_append]; omega
        rw [← hm] at h1
        obtain ⟨y, hy⟩ : ∃ y, y = UInt8.ofNat (n / 256 ^ p) := ⟨_, rfl⟩
        have hpow : (256 : Nat) ^ p = 2 ^ (8 * p) := by rw [show (256 : Nat) = 2 ^ 8 by rfl, ← Nat.pow_mul]
        have hV : (n : Int) / 2 ^ (8 * p) % 256 = (y.toNat : Int) := by
          have e1 : (n : Int) / 2 ^ (8 * p) = ((n / 2 ^ (8 * p) : Nat) : Int) := by rw [Int.natCast_ediv, Int.natCast_pow]; rfl
          have e2 : y.toNat = n / 2 ^ (8 * p) % 2 ^ 8 := by rw [hy, hpow]; exact UInt8.toNat_ofNat'
          rw [e1, e2]
          omega
        have ho2 : (o ++ [y]) ++ byN p n = byN size n := by
          rw [← ho, hy]
          simp [byN]
        have c0 : wr.cell? ⟨b, 0, none⟩ = some (.slice A m c) := h1.cell 0
        obtain ⟨v', w5, hap, h2⟩ := add_u8 (y.toNat : Int) y rfl hmb h1.f1.drew
        have hap2 : (Builtin.append_ #[BT, BT] BT #[.slice A m c, .slice (some ⟨wr.heap.size, 0, none⟩) 1 1]).run Tryz.prog (wr.alloc (.cells #[.int .u8 (y.toNat : Int)] U8)).drew = .ok v' w5 := hap
        obtain ⟨A', c', rfl⟩ := h2.rowSlice
        have cA : (wr.alloc (.cells #[.int .u8 (y.toNat : Int)] U8)).drew.cell? ⟨b, 0, none⟩ = some (.slice A m c) := (h1.alloc (.cells #[.int .u8 (y.toNat : Int)] U8)).f1.cell 0
        have d0 : w5.cell? ⟨b, 0, none⟩ = some (.slice A m c) := h2.f1.cell 0
        have f0 := h2.f1.frozen 0
        have h3 : Own E (w5.setCell ⟨b, 0, none⟩ (.slice A' (m + 1) c')) (Hp.writer b W (l ++ (o ++ [y])) :: L) := by
          refine Own.toWriter (v := .slice A' (m + 1) c') ?_
          have e : (l ++ (o ++ [y])).length = m + 1 := by rw [← List.append_assoc, List.length_append, ← hm]; rfl
          rw [e, ← List.append_assoc]
          exact h2.f1.set 0 _
        have H3 := Lib.hid h3
        have HO2 := Lib.hid ho2
        have p8 : (p : Int) ≤ 7 := by omega
        have hwr : IntKind.u8.wrap ((n : Int) / 2 ^ (8 * p)) = (y.toNat : Int) := by rw [IntKind.wrap_u8]; exact hV
        have ht8 : (8 * (p : Int)).toNat = 8 * p := by omega
        have hw8 : IntKind.i64.wrap (8 * (p : Int)) = 8 * (p : Int) := IntWalk.i64_in _ (by omega)
        have p0 : (0 : Int) ≤ p := by omega
        clear hap h1 h2 h3 ho ho2 hw hV hy hpow hpi hm
        go_wp2_with fail
        refine wp_region_text [4] (fun w' => w'.cell? ⟨b, 0, none⟩ = some (.slice A m c)) (by kernel_rfl) ?_ (fun hS => ?_)
        · exact c0
        refine gp 0 (some 13) ?_
        refine gp 1 (some 14) ?_
        refine gp 2 (some 15) ?_
        refine gp 3 (some 16) ?_
        refine gl 4 (some 17) ?_
        refine gp 5 (some 18) ?_
        refine gp 6 (some 19) ?_
        refine gp 7 (some 20) ?_
        refine gp 8 (some 21) ?_
        refine gp 9 (some 22) ?_
        refine gk 10 (some 23) (fun K hK => ?_)
        rw [if_pos (by rfl)]
        go_simp
        refine hK.out _ _ ?_ (fun hS => ?_)
        · exact cA
        clear hK K
        try simp only [Act.put, List.setIfInBounds_toArray, List.set_cons_zero, List.set_cons_succ]
        refine gk 11 (some 24) (fun K hK => ?_)
        rw [if_pos (by rfl)]
        refine wp_append_run hap2 rfl rfl rfl ?_
        refine hK.out _ _ ?_ (fun hS => ?_)
        · exact d0
        clear hK K
        try simp only [Act.put, List.setIfInBounds_toArray, List.set_cons_zero, List.set_cons_succ]
        refine gp 12 (some 25) ?_
        refine gp 13 (some 26) ?_
        refine wpAnyG_break (i := 14) (oi := ⟨none, _, _, _, _, _⟩) (by kernel_rfl) rfl (by kernel_rfl) (fun K hK => ?_)
        rw [if_pos (by rfl)]
        go_simp
        refine hK.out _ _ ?_
        clear hK K
        try simp only [Act.put]
        refine wpAnyG_done (by kernel_rfl) ?_ _
        refine NoPanic.normal ?_
        clear hw8 hwr ht8
        go_wp2_with fail
        go_roundw
        case rel => exact ⟨p, o ++ [y], by omega, by go_num, HO2.out, H3.out⟩
        case measure => simp [intOf]; try omega
      · obtain rfl : k = 0 := by omega
        have hoe : o = byN size n := by rw [← ho]; simp [byN]
        subst hoe
        have HW := Lib.hid hw
        clear hw ho
        go_wp2_with fail
        go_end0
        exact ⟨rfl, HW.out⟩
  · have s3 : ¬ (size : Int) < 8 := by omega
    clear hdi
    go_enter Tryz.func120, Tryz.ntmps120
    go_wp2_with fail
    go_loopw [6] (fun i wr => ∃ (k : Nat) (o : List UInt8), k ≤ size ∧ i = .int .i64 ((k : Int) - 1) ∧ o ++ byN k n = byN size n ∧ Own E wr (Hp.writer b W (l ++ o) :: L)) (fun i _ => (intOf i + 1).toNat)
    case atStart => exact ⟨size, [], by omega, rfl, rfl, by rw [List.append_nil]; exact H.out⟩
    case round =>
      obtain ⟨k, o, hk, rfl, ho, hw⟩ := hrel
      by_cases hk0 : 0 < k
      · obtain ⟨p, rfl⟩ : ∃ p, k = p + 1 := ⟨k - 1, by omega⟩
        have hpi : ((p + 1 : Nat) : Int) - 1 = (p : Int) := by omega
        rw [hpi]
        obtain ⟨v, h1⟩ := hw.ofWriter
        obtain ⟨A, c, rfl⟩ := h1.f1.rowSlice
        obtain ⟨m, hm⟩ : ∃ m, m = (l ++ o).length := ⟨_, rfl⟩
        have hmb : m + 1 ≤ 140737488355328 := by
          have e := congrArg List.length ho
          rw [List.length_append, byN_len, byN_len] at e
          have := HL.out
          rw [hm, List.length_append]; omega
        rw [← hm] at h1
        obtain ⟨y, hy⟩ : ∃ y, y = UInt8.ofNat (n / 256 ^ p) := ⟨_, rfl⟩
        have hpow : (256 : Nat) ^ p = 2 ^ (8 * p) := by rw [show (256 : Nat) = 2 ^ 8 by rfl, ← Nat.pow_mul]
        have hV : (n : Int) / 2 ^ (8 * p) % 256 = (y.toNat : Int) := by
          have e1 : (n : Int) / 2 ^ (8 * p) = ((n / 2 ^ (8 * p) : Nat) : Int) := by rw [Int.natCast_ediv, Int.natCast_pow]; rfl
          have e2 : y.toNat = n / 2 ^ (8 * p) % 2 ^ 8 := by rw [hy, hpow]; exact UInt8.toNat_ofNat'
          rw [e1, e2]
          omega
        have ho2 : (o ++ [y]) ++ byN p n = byN size n := by
          rw [← ho, hy]
          simp [byN]
        have c0 : wr.cell? ⟨b, 0, none⟩ = some (.slice A m c) := h1.cell 0
        obtain ⟨v', w5, hap, h2⟩ := add_u8 (y.toNat : Int) y rfl hmb h1.f1.drew
        have hap2 : (Builtin.append_ #[BT, BT] BT #[.slice A m c, .slice (some ⟨wr.heap.size, 0, none⟩) 1 1]).run Tryz.prog (wr.alloc (.cells #[.int .u8 (y.toNat : Int)] U8)).drew = .ok v' w5 := hap
        obtain ⟨A', c', rfl⟩ := h2.rowSlice
        have cA : (wr.alloc (.cells #[.int .u8 (y.toNat : Int)] U8)).drew.cell? ⟨b, 0, none⟩ = some (.slice A m c) := (h1.alloc (.cells #[.int .u8 (y.toNat : Int)] U8)).f1.cell 0
        have d0 : w5.cell? ⟨b, 0, none⟩ = some (.slice A m c) := h2.f1.cell 0
        have f0 := h2.f1.frozen 0
        have h3 : Own E (w5.setCell ⟨b, 0, none⟩ (.slice A' (m + 1) c')) (Hp.writer b W (l ++ (o ++ [y])) :: L) := by
          refine Own.toWriter (v := .slice A' (m + 1) c') ?_
          have e : (l ++ (o ++ [y])).length = m + 1 := by rw [← List.append_assoc, List.length_append, ← hm]; rfl
          rw [e, ← List.append_assoc]
          exact h2.f1.set 0 _
        have H3 := Lib.hid h3
        have HO2 := Lib.hid ho2
        have p8 : (p : Int) ≤ 7 := by omega
        have hwr : IntKind.u8.wrap ((n : Int) / 2 ^ (8 * p)) = (y.toNat : Int) := by rw [IntKind.wrap_u8]; exact hV
        have ht8 : (8 * (p : Int)).toNat = 8 * p := by omega
        have hw8 : IntKind.i64.wrap (8 * (p : Int)) = 8 * (p : Int) := IntWalk.i64_in _ (by omega)
        have p0 : (0 : Int) ≤ p := by omega
        clear hap h1 h2 h3 ho ho2 hw hV hy hpow hpi hm
        go_wp2_with fail
        refine wp_region_text [4] (fun w' => w'.cell? ⟨b, 0, none⟩ = some (.slice A m c)) (by kernel_rfl) ?_ (fun hS => ?_)
        · exact c0
        refine gp 0 (some 13) ?_
        refine gp 1 (some 14) ?_
        refine gp 2 (some 15) ?_
        refine gp 3 (some 16) ?_
        refine gl 4 (some 17) ?_
        refine gp 5 (some 18) ?_
        refine gp 6 (some 19) ?_
        refine gp 7 (some 20) ?_
        refine gp 8 (some 21) ?_
        refine gp 9 (some 22) ?_
        refine gk 10 (some 23) (fun K hK => ?_)
        rw [if_pos (by rfl)]
        go_simp
        refine hK.out _ _ ?_ (fun hS => ?_)
        · exact cA
        clear hK K
        try simp only [Act.put, List.setIfInBounds_toArray, List.set_cons_zero, List.set_cons_succ]
        refine gk 11 (some 24) (fun K hK => ?_)
        rw [if_pos (by rfl)]
        refine wp_append_run hap2 rfl rfl rfl ?_
        refine hK.out _ _ ?_ (fun hS => ?_)
        · exact d0
        clear hK K
        try simp only [Act.put, List.setIfInBounds_toArray, List.set_cons_zero, List.set_cons_succ]
        refine gp 12 (some 25) ?_
        refine gp 13 (some 26) ?_
        refine wpAnyG_break (i := 14) (oi := ⟨none, _, _, _, _, _⟩) (by kernel_rfl) rfl (by kernel_rfl) (fun K hK => ?_)
        rw [if_pos (by rfl)]
        go_simp
        refine hK.out _ _ ?_
        clear hK K
        try simp only [Act.put]
        refine wpAnyG_done (by kernel_rfl) ?_ _
        refine NoPanic.normal ?_
        clear hw8 hwr ht8
        go_wp2_with fail
        go_roundw
        case rel => exact ⟨p, o ++ [y], by omega, by go_num, HO2.out, H3.out⟩
        case measure => simp [intOf]; try omega
      · obtain rfl : k = 0 := by omega
        have hoe : o = byN size n := by rw [← ho]; simp [byN]
        subst hoe
        have HW := Lib.hid hw
        clear hw ho
        go_wp2_with fail
        go_end0
        exact ⟨rfl, HW.out⟩
end
end Go.Proofs.YtabibfabieghpaaGreatDoor
namespace Go.Proofs.YtabibfabieghpaaGreatDoor
open Go.RowKit
def ahead (most : Nat) : Nat := if 255 < most then 2 else 1
theorem length_any (most : Nat) (w : World) :
    Calls Tryz.prog 146 #[.int .i64 most] w fun e w' => e = .returned (.int .i64 (ahead most : Nat)) ∧ w = w' := by
  by_cases h : 255 < most
  · have hi : (255 : Int) < most := by omega
    have e : ahead most = 2 := if_pos h
    rw [e]
    go_enter Tryz.func146, Tryz.ntmps146
    go_wp2_with fail
    go_ret
    exact ⟨rfl, rfl⟩
  · have hi : ¬ (255 : Int) < most := by omega
    have e : ahead most = 1 := if_neg h
    rw [e]
    go_enter Tryz.func146, Tryz.ntmps146
    go_wp2_with fail
    go_ret
    exact ⟨rfl, rfl⟩
section
variable {E : World} {L : List Hp}
theorem wtext_any (b : Nat) (W : Value) (l : List UInt8) (most : Nat) (s : ByteArray) (w : World) (hm : most ≤ 65535) (hs : s.size ≤ most) (hl : l.length + 70000 ≤ 140737488355328) (h : Own E w (Hp.writer b W l :: L)) :
    Calls Tryz.prog 132 #[.pointer (some ⟨b, 0, none⟩), .int .i64 most, .string s] w fun e w' => e = .returned (.tuple #[]) ∧ Own E w' (Hp.writer b W (l ++ byN (ahead most) s.size ++ s.data.toList) :: L) := by
  have m0 : ¬ (most : Int) < 0 := by omega
  have m1 : ¬ (65535 : Int) < most := by omega
  have m2 : ¬ (most : Int) < s.size := by omega
  have ha : 1 ≤ ahead most ∧ ahead most ≤ 8 ∧ s.size < 256 ^ ahead most := by
    unfold ahead
    split
    · exact ⟨by omega, by omega, by show s.size < 65536; omega⟩
    · exact ⟨by omega, by omega, by show s.size < 256; omega⟩
  have hll : (l ++ byN (ahead most) s.size).length + s.size ≤ 140737488355328 := by rw [List.length_append, byN_len]; omega
  have HLl := Lib.hid hll
  have HA := Lib.hid ha
  have hl8 : l.length + 8 ≤ 140737488355328 := by omega
  have HL8 := Lib.hid hl8
  clear hll ha hl hl8
  go_enter Tryz.func132, Tryz.ntmps132
  go_wp2_with fail
  refine (length_any most _).mono ?_
  rintro e w1 ⟨rfl, rfl⟩
  go_wp2_with fail
  refine (wnum_any b W l (ahead most) s.size _ HA.out.1 HA.out.2.1 HA.out.2.2 (by omega) HL8.out h).mono ?_
  rintro e w2 ⟨rfl, h2⟩
  go_wp2_with fail
  refine (raw_any b W (l ++ byN (ahead most) s.size) s _ HLl.out h2).mono ?_
  rintro e w3 ⟨rfl, h3⟩
  go_wp2_with fail
  go_end0
  exact ⟨rfl, h3⟩
end
end Go.Proofs.YtabibfabieghpaaGreatDoor
namespace Go.Proofs.YtabibfabieghpaaGreatDoor
open Go.RowKit
abbrev RT : TypeId := 180
def Hp.reader (b : Nat) (W : Value) (s : ByteArray) : Hp := Hp.blk b RT #[.string s, W]
/-- What bytes say, the highest first. -/
def numL (l : List UInt8) : Nat := l.foldl (fun n c => n * 256 + c.toNat) 0
theorem numL_snoc (l : List UInt8) (c : UInt8) : numL (l ++ [c]) = numL l * 256 + c.toNat := by unfold numL; rw [List.foldl_append]; rfl
theorem numL_le (l : List UInt8) (k : Nat) : numL (l.take k) ≤ numL l := by
  have h : ∀ (m : List UInt8) (n : Nat), n ≤ m.foldl (fun n c => n * 256 + c.toNat) n := by
    intro m
    induction m with
    | nil => intro n; exact Nat.le_refl _
    | cons c m ih => intro n; exact Nat.le_trans (by omega) (ih (n * 256 + c.toNat))
  have e : numL l = (l.drop k).foldl (fun n c => n * 256 + c.toNat) (numL (l.take k)) := by
    unfold numL
    rw [← List.foldl_append, List.take_append_drop]
  rw [e]
  exact h _ _
theorem byte_or (h c : Nat) (hc : c < 256) (hh : h * 256 < 9223372036854775808) : bits .or .i64 ((h : Int) * 256) (c : Int) = ((h * 256 + c : Nat) : Int) := by
  rw [show (h : Int) * 256 = ((h * 256 : Nat) : Int) by omega]
  rw [i64_or_nat _ _ hh (by omega)]
  have := Nat.shiftLeft_add_eq_or_of_lt (b := c) (i := 8) (by omega) h
  rw [Nat.shiftLeft_eq] at this
  rw [← this]
section
variable {E : World} {L : List Hp}
theorem newreader_any (s : ByteArray) (w : World) (h : Own E w L) :
    Calls Tryz.prog 118 #[.string s] w fun e w' => ∃ b, e = .returned (.pointer (some ⟨b, 0, none⟩)) ∧ Own E w' (Hp.reader b .nilIface s :: L) := by
  go_enter Tryz.func118, Tryz.ntmps118
  go_wp2_with fail
  go_ret
  exact ⟨_, rfl, h.alloc (.cells #[.string s, Value.nilIface] RT)⟩
set_option maxRecDepth 20000 in
theorem number_any (s : ByteArray) (w : World) (hs : s.size ≤ 1000000) (hn : numL s.data.toList < 9223372036854775808) (h : Own E w L) :
    Calls Tryz.prog 137 #[.string s] w fun e w' => e = .returned (.int .i64 (numL s.data.toList : Nat)) ∧ Own E w' L := by
  obtain ⟨cap, w1, hcv, h1⟩ := sl_to_bytes (P := Tryz.prog) (src := ST) (dst := BT) (e := U8) (by kernel_rfl) (by kernel_rfl) (by kernel_rfl) s (by unfold maxLen; omega) h
  generalize w.heap.size = g at *
  have hsl : s.data.toList.length = s.size := rfl
  have HS := Lib.hid hsl
  have HN := Lib.hid hn
  have H1 := Lib.hid h1
  clear h1 h hsl hn
  go_enter Tryz.func137, Tryz.ntmps137
  go_wp2_with (with_reducible refine at_slot (k := some 7) ?_; refine wpList_conv_run (o := ⟨some 7, _, _, _, _, _⟩) hcv rfl rfl rfl ?_; clear hcv)
  go_loopw [3, 9] (fun a i wr => ∃ k : Nat, k ≤ s.size ∧ i = .int .i64 k ∧ a = .int .i64 (numL (s.data.toList.take k) : Nat) ∧ Own E wr (Hp.row U8 1 (.slice (some ⟨g, 0, none⟩) s.size cap) s.size (s.data.toList.map V8') :: L)) (fun _ i _ => s.size - (intOf i).toNat)
  case atStart => exact ⟨0, by omega, rfl, rfl, H1.out⟩
  case round =>
    obtain ⟨k, hk, rfl, rfl, hw⟩ := hrel
    clear H1
    by_cases hlt : k < s.size
    · have hlk : k < s.data.toList.length := hlt
      obtain ⟨g', hg, c1, _⟩ := hw.rowCells k (V8' s.data.toList[k]) (by rw [List.getElem?_map, List.getElem?_eq_getElem hlk]; rfl)
      injection hg with hg
      injection hg with hg
      subst hg
      have hst : numL (s.data.toList.take (k + 1)) = numL (s.data.toList.take k) * 256 + (s.data.toList[k]).toNat := by
        rw [← numL_snoc, List.take_add_one, List.getElem?_eq_getElem hlk]; rfl
      have hle := numL_le s.data.toList (k + 1)
      have hb := HN.out
      have HSt := Lib.hid hst
      have HW := Lib.hid hw
      rw [hst] at hle
      have hN : numL (s.data.toList.take k) ≤ 36028797018963967 := by omega
      have hcl := (s.data.toList[k]).toNat_lt
      have hor := byte_or (numL (s.data.toList.take k)) (s.data.toList[k]).toNat (by omega) (by omega)
      clear hst hw hle hb
      generalize s.data.toList[k] = c at *
      generalize numL (s.data.toList.take k) = N at *
      clear hlk
      have i1 : (0 : Int) ≤ (k : Int) := by omega
      have i2 : (k : Int) < s.size := by omega
      go_wp2_with fail
      go_roundw
      case rel => exact ⟨k + 1, by omega, by go_num, by rw [HSt.out]; go_num, HW.out⟩
      case measure => simp [intOf]; omega
    · obtain rfl : k = s.size := by omega
      rw [List.take_of_length_le (by rw [HS.out]; omega)]
      have HW := Lib.hid hw.drop
      clear hw
      go_wp2_with fail
      go_ret
      exact ⟨rfl, HW.out⟩
end
end Go.Proofs.YtabibfabieghpaaGreatDoor
