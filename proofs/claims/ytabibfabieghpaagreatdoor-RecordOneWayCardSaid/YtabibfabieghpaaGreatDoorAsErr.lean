/- errors.As at the target of told (a *codec.refusal): turned from the worked proof ToyasAs; then what told answers, over owned memory. -/
import Derived.Test.YtabibfabieghpaaGreatDoorLaid
import Derived.LaidEql
import Derived.Stop.Asserts
import Derived.RowKitTokens
namespace Go.Proofs.YtabibfabieghpaaGreatDoor
open Go.RowKit Go.Extern.Stop Go.Stop Go.Extern

theorem rf_valueOfPP (t : Addr) (w : World) : (ReflectliteValue.unpack (.iface 192 (.pointer (some t)))).run Tryz.prog w
    = .ok (.agg #[.pointer (some ⟨4, 192, none⟩), .pointer (some ⟨w.heap.size, 0, none⟩), .int .u64 150]) (w.alloc (.cells #[.pointer (some t)] 192)) := by kernel_rfl
theorem rf_typePP (a : Addr) (w : World) : (ReflectliteValue.methodAny (ReflectliteValue.valueError "reflectlite.Value.Type" 0) (fun t _ _ _ => ReflectliteType.toType t) #[.agg #[.pointer (some ⟨4, 192, none⟩), .pointer (some a), .int .u64 150]]).run Tryz.prog w
    = .ok (.iface 227 (.agg #[.pointer (some ⟨4, 192, none⟩)])) w := by kernel_rfl
theorem rf_methodKind (h : Value) (w : World) : (Go.method 395 227 (.agg #[h]) "Kind").run Tryz.prog w = .ok (215, h) w := by kernel_rfl
theorem rf_kindPP (w : World) : ((ReflectliteType.abiMethod fun t => (fun a : Nat => Value.int IntKind.u8 (a : Int)) <$> Rtype.kind t) #[.pointer (some ⟨4, 192, none⟩)]).run Tryz.prog w = .ok (.int .u8 22) w := by kernel_rfl
theorem rf_kindP (w : World) : ((ReflectliteType.abiMethod fun t => (fun a : Nat => Value.int IntKind.u8 (a : Int)) <$> Rtype.kind t) #[.pointer (some ⟨4, 190, none⟩)]).run Tryz.prog w = .ok (.int .u8 22) w := by kernel_rfl

theorem rlm (z : Sem Value) (f : TypeId → Addr → Nat → Nat → Sem Value) (v : Value) :
    ReflectliteValue.method z f #[v] = (do match ← ReflectliteValue.parts v with | none => z | some (t, a, fl) => f t a fl (fl % 32)) := rfl
theorem rf_partsPP (a : Addr) (w : World) : (ReflectliteValue.parts (.agg #[.pointer (some ⟨4, 192, none⟩), .pointer (some a), .int .u64 150])).run Tryz.prog w = .ok (some (192, a, 150)) w := by kernel_rfl
theorem rf_isNilPP (a p : Addr) (W : World) (ha : W.cell? a = some (.pointer (some p))) :
    (ReflectliteValue.method (ReflectliteValue.valueError "reflectlite.Value.IsNil" 0) ReflectliteValue.isNil #[.agg #[.pointer (some ⟨4, 192, none⟩), .pointer (some a), .int .u64 150]]).run Tryz.prog W = .ok (.bool false) W := by
  rw [rlm]
  simp only [Sem.run_bind, rf_partsPP, Result.andThen]
  simp [ReflectliteValue.isNil, loadVar, isAgg, underlying, Tryz.underlying192, ha, Result.andThen]

theorem rf_methodElem (h : Value) (w : World) : (Go.method 395 227 (.agg #[h]) "Elem").run Tryz.prog w = .ok (228, .agg #[h]) w := by kernel_rfl
theorem rf_methodImplements (h : Value) (w : World) : (Go.method 395 227 (.agg #[h]) "Implements").run Tryz.prog w = .ok (229, .agg #[h]) w := by kernel_rfl
theorem rf_methodAssignableTo (h : Value) (w : World) : (Go.method 395 227 (.agg #[h]) "AssignableTo").run Tryz.prog w = .ok (226, .agg #[h]) w := by kernel_rfl
theorem rf_elemPP (w : World) : (ReflectliteType.method ReflectliteType.elem #[.agg #[.pointer (some ⟨4, 192, none⟩)]]).run Tryz.prog w = .ok (.iface 227 (.agg #[.pointer (some ⟨4, 190, none⟩)])) w := by kernel_rfl
theorem rf_implementsP (w : World) : (ReflectliteType.relation "Implements" ReflectliteType.implements_ #[.agg #[.pointer (some ⟨4, 190, none⟩)], .iface 227 (.agg #[.pointer (some ⟨4, 174, none⟩)])]).run Tryz.prog w = .ok (.bool true) w := by kernel_rfl
theorem rf_typeOfP (v : Value) (w : World) : (ReflectliteType.typeOf #[.iface 190 v]).run Tryz.prog w = .ok (.iface 227 (.agg #[.pointer (some ⟨4, 190, none⟩)])) w := by kernel_rfl
theorem rf_assignableP (w : World) : (ReflectliteType.relation "AssignableTo" ReflectliteType.assignableTo #[.agg #[.pointer (some ⟨4, 190, none⟩)], .iface 227 (.agg #[.pointer (some ⟨4, 190, none⟩)])]).run Tryz.prog w = .ok (.bool true) w := by kernel_rfl
theorem rf_valueOfP (e : Addr) (w : World) : (ReflectliteValue.unpack (.iface 190 (.pointer (some e)))).run Tryz.prog w
    = .ok (.agg #[.pointer (some ⟨4, 190, none⟩), .pointer (some ⟨w.heap.size, 0, none⟩), .int .u64 150]) (w.alloc (.cells #[.pointer (some e)] 190)) := by kernel_rfl

theorem rf_elemOfPP (w : World) : (Rtype.elem? 192).run Tryz.prog w = .ok (some 190) w := by kernel_rfl
theorem rf_mkP (p : Addr) (w : World) : (ReflectliteValue.mk 190 p ReflectliteValue.flagAddr).run Tryz.prog w = .ok (.agg #[.pointer (some ⟨4, 190, none⟩), .pointer (some p), .int .u64 406]) w := by kernel_rfl
theorem rf_elemVPP (a p : Addr) (W : World) (ha : W.cell? a = some (.pointer (some p))) :
    (ReflectliteValue.method (ReflectliteValue.valueError "reflectlite.Value.Elem" 0) ReflectliteValue.elem #[.agg #[.pointer (some ⟨4, 192, none⟩), .pointer (some a), .int .u64 150]]).run Tryz.prog W
      = .ok (.agg #[.pointer (some ⟨4, 190, none⟩), .pointer (some p), .int .u64 406]) W := by
  rw [rlm]
  simp only [Sem.run_bind, rf_partsPP, Result.andThen]
  simp [ReflectliteValue.elem, loadVar, isAgg, underlying, Tryz.underlying192, ha, Result.andThen, rf_elemOfPP, rf_mkP]
theorem rls (v x : Value) : ReflectliteValue.set #[v, x] = (do
    let (some (dst, a, fl), some (src, b, _)) := (← ReflectliteValue.parts v, ← ReflectliteValue.parts x)
      | unsupported (.noEntry "extern/(internal/reflectlite.Value).Set.zeroValue")
    if fl / ReflectliteValue.flagAddr % 2 == 0 then unsupported (.noEntry "extern/(internal/reflectlite.Value).Set.unaddressable")
    let val ← loadVar src b
    if ← Rtype.directlyAssignable dst src then storeVar dst a val
    else if ← Rtype.implements dst src then
      if (← Rtype.kind src) == 20 then
        match val with
        | .nilIface => unsupported (.noEntry "extern/reflectlite: a nil value of one interface type handed on as a value of another")
        | _ => storeVar dst a val
      else storeVar dst a (.iface src val)
    else panicString ("reflectlite.Set: value of type " ++ (← Rtype.spelt src) ++ " is not assignable to type " ++ (← Rtype.spelt dst))
    pure (.tuple #[])) := rfl
theorem rf_partsPa (a : Addr) (w : World) : (ReflectliteValue.parts (.agg #[.pointer (some ⟨4, 190, none⟩), .pointer (some a), .int .u64 406])).run Tryz.prog w = .ok (some (190, a, 406)) w := by kernel_rfl
theorem rf_partsP (a : Addr) (w : World) : (ReflectliteValue.parts (.agg #[.pointer (some ⟨4, 190, none⟩), .pointer (some a), .int .u64 150])).run Tryz.prog w = .ok (some (190, a, 150)) w := by kernel_rfl
theorem rf_directP (w : World) : (Rtype.directlyAssignable 190 190).run Tryz.prog w = .ok true w := by kernel_rfl
theorem rf_sizeP (w : World) : (sizeOf 190).run Tryz.prog w = .ok 1 w := by kernel_rfl
theorem rf_setP (ta b e : Addr) (old : Value) (W : World) (hb : W.cell? b = some (.pointer (some e))) (ht : W.cell? ta = some old) (hf : W.frozen? ta = false) :
    (ReflectliteValue.set #[.agg #[.pointer (some ⟨4, 190, none⟩), .pointer (some ta), .int .u64 406], .agg #[.pointer (some ⟨4, 190, none⟩), .pointer (some b), .int .u64 150]]).run Tryz.prog W
      = .ok (.tuple #[]) (W.setCell ta (.pointer (some e))) := by
  rw [rls]
  simp only [Sem.run_bind, rf_partsPa, rf_partsP, Result.andThen]
  simp [ReflectliteValue.flagAddr, loadVar, isAgg, underlying, Tryz.underlying190, hb, Result.andThen, rf_directP, storeVar, Value.cells, storeCells, Addr.add]
  rw [run_store Tryz.prog W ta _ _ (by rfl)]
  simp [ht, hf]

set_option maxRecDepth 100000 in
set_option maxHeartbeats 4000000 in
theorem as_hit (e t : Addr) (old : Value) (w : World) (hg : w.cell? ⟨1, 0, none⟩ = some (.iface 227 (.agg #[.pointer (some ⟨4, 174, none⟩)]))) (ht0 : w.cell? t = some old) (hf0 : w.frozen? t = false) :
    Calls Tryz.prog 145 #[.iface 190 (.pointer (some e)), .iface 192 (.pointer (some t))] w fun ev w' => ev = .returned (.bool true) ∧ w' = ((((w.alloc (.cells #[.pointer (some t)] 192)).alloc (.cells #[.pointer (some ⟨4, 192, none⟩), .pointer (some ⟨w.heap.size, 0, none⟩), .int .u64 150] 209)).alloc (.cells #[.pointer (some ⟨4, 192, none⟩), .pointer (some ⟨w.heap.size, 0, none⟩), .int .u64 150] 209)).alloc (.cells #[.pointer (some e)] 190)).setCell t (.pointer (some e)) := by
  have h6 := @run_callFunc_extern Tryz.prog 158 _ (fun args => ReflectliteValue.unpack (args.getD 0 (.tuple #[]))) Tryz.func158 (by kernel_rfl) (by kernel_rfl) (by kernel_rfl) (by kernel_rfl)
  have h7 := @run_callFunc_extern Tryz.prog 159 _ (ReflectliteValue.methodAny (ReflectliteValue.valueError "reflectlite.Value.Type" 0) (fun t _ _ _ => ReflectliteType.toType t)) Tryz.func159 (by kernel_rfl) (by kernel_rfl) (by kernel_rfl) (by kernel_rfl)
  have h8 := @run_callFunc_extern Tryz.prog 160 _ (ReflectliteValue.method (ReflectliteValue.valueError "reflectlite.Value.IsNil" 0) ReflectliteValue.isNil) Tryz.func160 (by kernel_rfl) (by kernel_rfl) (by kernel_rfl) (by kernel_rfl)
  have h27 := @run_callFunc_extern Tryz.prog 215 _ (ReflectliteType.abiMethod fun t => do pure (.int .u8 (← Rtype.kind t))) Tryz.func215 (by kernel_rfl) (by kernel_rfl) (by kernel_rfl) (by kernel_rfl)
  have h37 := @run_callFunc_extern Tryz.prog 228 _ (ReflectliteType.method ReflectliteType.elem) Tryz.func228 (by kernel_rfl) (by kernel_rfl) (by kernel_rfl) (by kernel_rfl)
  have h38 := @run_callFunc_extern Tryz.prog 229 _ (ReflectliteType.relation "Implements" ReflectliteType.implements_) Tryz.func229 (by kernel_rfl) (by kernel_rfl) (by kernel_rfl) (by kernel_rfl)
  have h10 := @run_callFunc_extern Tryz.prog 172 _ ReflectliteType.typeOf Tryz.func172 (by kernel_rfl) (by kernel_rfl) (by kernel_rfl) (by kernel_rfl)
  have h35 := @run_callFunc_extern Tryz.prog 226 _ (ReflectliteType.relation "AssignableTo" ReflectliteType.assignableTo) Tryz.func226 (by kernel_rfl) (by kernel_rfl) (by kernel_rfl) (by kernel_rfl)
  have h11 := @run_callFunc_extern Tryz.prog 173 _ (ReflectliteValue.method (ReflectliteValue.valueError "reflectlite.Value.Elem" 0) ReflectliteValue.elem) Tryz.func173 (by kernel_rfl) (by kernel_rfl) (by kernel_rfl) (by kernel_rfl)
  have h12 := @run_callFunc_extern Tryz.prog 174 _ ReflectliteValue.set Tryz.func174 (by kernel_rfl) (by kernel_rfl) (by kernel_rfl) (by kernel_rfl)
  have tO := rf_typeOfP
  have mA := rf_methodAssignableTo
  have a25 := rf_assignableP
  have v25 := rf_valueOfP
  have f6 := rf_valueOfPP
  have f7 := rf_typePP
  have mK := rf_methodKind
  have mE := rf_methodElem
  have mI := rf_methodImplements
  have k27 := rf_kindPP
  have k25 := rf_kindP
  have e27 := rf_elemPP
  have i25 := rf_implementsP
  have n8 := rf_isNilPP ⟨w.heap.size, 0, none⟩ t ((w.alloc (.cells #[.pointer (some t)] 192)).alloc (.cells #[.pointer (some ⟨4, 192, none⟩), .pointer (some ⟨w.heap.size, 0, none⟩), .int .u64 150] 209)) (by simp)
  have hlt : 1 < w.heap.size := World.block_lt_of_cell? w _ hg
  have hg2 : ((w.alloc (.cells #[.pointer (some t)] 192)).alloc (.cells #[.pointer (some ⟨4, 192, none⟩), .pointer (some ⟨w.heap.size, 0, none⟩), .int .u64 150] 209)).cell? ⟨1, 0, none⟩ = some (.iface 227 (.agg #[.pointer (some ⟨4, 174, none⟩)])) := by
    rw [World.cell?_alloc_lt _ _ ⟨1, 0, none⟩ (Nat.lt_of_lt_of_le hlt (by simp)), World.cell?_alloc_lt _ _ ⟨1, 0, none⟩ hlt]; exact hg
  have htl : t.block < w.heap.size := by
    rcases Nat.lt_or_ge t.block w.heap.size with h | h
    · exact h
    · simp [World.cell?, Array.getElem?_eq_none h] at ht0
  have el := rf_elemVPP ⟨w.heap.size, 0, none⟩ t (((w.alloc (.cells #[.pointer (some t)] 192)).alloc (.cells #[.pointer (some ⟨4, 192, none⟩), .pointer (some ⟨w.heap.size, 0, none⟩), .int .u64 150] 209)).alloc (.cells #[.pointer (some ⟨4, 192, none⟩), .pointer (some ⟨w.heap.size, 0, none⟩), .int .u64 150] 209)) (by rw [World.cell?_alloc_lt _ _ ⟨w.heap.size, 0, none⟩ (by simp; omega)]; simp)
  have st := rf_setP t ⟨w.heap.size + 1 + 1 + 1, 0, none⟩ e old ((((w.alloc (.cells #[.pointer (some t)] 192)).alloc (.cells #[.pointer (some ⟨4, 192, none⟩), .pointer (some ⟨w.heap.size, 0, none⟩), .int .u64 150] 209)).alloc (.cells #[.pointer (some ⟨4, 192, none⟩), .pointer (some ⟨w.heap.size, 0, none⟩), .int .u64 150] 209)).alloc (.cells #[.pointer (some e)] 190))
    (by rw [World.cell?_alloc_at _ _ _ _ (by simp)]; rfl)
    (by rw [World.cell?_alloc_lt _ _ t (by simp; omega), World.cell?_alloc_lt _ _ t (by simp; omega), World.cell?_alloc_lt _ _ t (by simp; omega), World.cell?_alloc_lt _ _ t htl]; exact ht0)
    (by rw [World.frozen?_alloc_old _ _ t (by simp; omega), World.frozen?_alloc_old _ _ t (by simp; omega), World.frozen?_alloc_old _ _ t (by simp; omega), World.frozen?_alloc_old _ _ t (Nat.ne_of_lt htl)]; exact hf0)
  go_enter Tryz.func145, Tryz.ntmps145
  go_wp2
  refine wp_loop_rounds 1 ?_
  rw [rounds_succ]
  go_wp2
  go_ret
  exact ⟨rfl, rfl⟩
end Go.Proofs.YtabibfabieghpaaGreatDoor
