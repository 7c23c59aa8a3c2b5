/- errors.Is of a *token.fault and a sentinel: turned from the worked proof SentryIs. -/
import Derived.Test.YtilcilbmbhbakaaDoorRows
import Derived.WalkKit
import Derived.LaidEql
import Derived.Stop.Asserts
import Derived.RowKitTokens
namespace Go.Proofs.YtilcilbmbhbakaaDoor
open Go.RowKit Go.Extern.Stop Go.Stop Go.Extern
theorem ei_isTypeOf (v : Value) (w : World) : (Extern.ReflectliteType.typeOf #[.iface 128 v]).run Tryd.prog w = .ok (.iface 90 (.agg #[.pointer (some ⟨4, 128, none⟩)])) w := by kernel_rfl
noncomputable def ei_cmp : Array Value → Sem Value := Extern.ReflectliteType.method fun t => do Extern.Rtype.noPackHeld "Comparable" t; pure (.bool (← typeInfo t).comparable)
theorem ei_isComparable (w : World) : (ei_cmp #[.agg #[.pointer (some ⟨4, 128, none⟩)]]).run Tryd.prog w = .ok (.bool true) w := by kernel_rfl
theorem ei_isMethodComparable (v : Value) (w : World) : (Go.method 260 90 v "Comparable").run Tryd.prog w = .ok (103, v) w := by kernel_rfl
theorem ei_isComp : (Tryd.prog.info? 128).map (·.comparable) = some true := by kernel_rfl
theorem ei_isSize : (Tryd.prog.info? 148).map (·.size) = some 1 := by kernel_rfl

theorem ei_noIsE (v : Value) (xT : TypeId) (w : World) : (Instr.typeAssert (.iface 128 v) xT 92 true).run Tryd.prog w = .ok (.tuple #[.nilIface, .bool false]) w := run_typeAssert_lacksB Tryd.underlying92 (by kernel_rfl) (by kernel_rfl) v xT w
theorem ei_noUnwrapE (v : Value) (xT : TypeId) (w : World) : (Instr.typeAssert (.iface 128 v) xT 95 true).run Tryd.prog w = .ok (.tuple #[.nilIface, .bool false]) w := run_typeAssert_lacksB Tryd.underlying95 (by kernel_rfl) (by kernel_rfl) v xT w
theorem ei_noUnwrapsE (v : Value) (xT : TypeId) (w : World) : (Instr.typeAssert (.iface 128 v) xT 97 true).run Tryd.prog w = .ok (.tuple #[.nilIface, .bool false]) w := run_typeAssert_lacksB Tryd.underlying97 (by kernel_rfl) (by kernel_rfl) v xT w
theorem ei_noIsW (v : Value) (xT : TypeId) (w : World) : (Instr.typeAssert (.iface 54 v) xT 92 true).run Tryd.prog w = .ok (.tuple #[.nilIface, .bool false]) w := run_typeAssert_lacksB Tryd.underlying92 (by kernel_rfl) (by kernel_rfl) v xT w
theorem ei_hasUnwrapW (v : Value) (xT : TypeId) (w : World) : (Instr.typeAssert (.iface 54 v) xT 95 true).run Tryd.prog w = .ok (.tuple #[.iface 54 v, .bool true]) w := run_typeAssert_hasB Tryd.underlying95 (by kernel_rfl) v xT w
theorem ei_methodUnwrap (v : Value) (w : World) : (Go.method 260 54 v "Unwrap").run Tryd.prog w = .ok (99, v) w := by kernel_rfl

theorem is_nil (b : Addr) (w : World) :
    Calls Tryd.prog 20 #[.nilIface, .iface 128 (.pointer (some b))] w fun e w' => e = .returned (.bool false) ∧ w' = w := by
  have hn := run_eql_iface_nil_left (P := Tryd.prog) w 128 (.pointer (some b)) Tryd.underlying39
  go_enter Tryd.func20, Tryd.ntmps20
  go_wp2
  go_ret
  exact ⟨rfl, rfl⟩

theorem is_wrap_same (pb po : Nat) (b : Addr) (w : World) (h1 : w.cell? ⟨pb, po + 1, none⟩ = some (.iface 128 (.pointer (some b)))) :
    Calls Tryd.prog 20 #[.iface 54 (.pointer (some ⟨pb, po, none⟩)), .iface 128 (.pointer (some b))] w fun e w' => e = .returned (.bool true) ∧ w' = w := by
  obtain ⟨i, hi, hcmp⟩ := Option.map_eq_some_iff.1 ei_isComp
  obtain ⟨j, hj, hjs⟩ := Option.map_eq_some_iff.1 ei_isSize
  have h8 := @run_callFunc_extern Tryd.prog 40 _ Extern.ReflectliteType.typeOf Tryd.func40 (by kernel_rfl) (by kernel_rfl) (by kernel_rfl) (by kernel_rfl)
  have h32 := @run_callFunc_extern Tryd.prog 103 _ ei_cmp Tryd.func103 (by kernel_rfl) (by kernel_rfl) (by kernel_rfl) (by kernel_rfl)
  have tT := ei_isTypeOf
  have cT := ei_isComparable
  have mR := ei_isMethodComparable
  have nE := ei_noIsE
  have uE := ei_noUnwrapE
  have vE := ei_noUnwrapsE
  have nW := ei_noIsW
  have uW := ei_hasUnwrapW
  have mU := ei_methodUnwrap
  have heq := run_eql_iface_ptr_same (P := Tryd.prog) w b Tryd.underlying39 Tryd.underlying128 hi hcmp hj
  have hty := run_eql_iface_types (P := Tryd.prog) 54 128 (.pointer (some ⟨pb, po, none⟩)) (.pointer (some b)) Tryd.underlying39 (by decide) w
  go_enter Tryd.func20, Tryd.ntmps20
  go_wp2
  refine wp_loop_rounds 2 ?_
  rw [rounds_succ]
  go_wp2
  rw [rounds_succ]
  go_wp2
  go_ret
  exact ⟨rfl, rfl⟩

theorem is_wrap_other (pb po : Nat) (b a : Addr) (ca cb : Array Value) (ta tb : TypeId) (w : World) (h1 : w.cell? ⟨pb, po + 1, none⟩ = some (.iface 128 (.pointer (some a)))) (hne : a ≠ b) (ha : w.heap[a.block]? = some (.cells ca ta (0, 0))) (hb : w.heap[b.block]? = some (.cells cb tb (0, 0))) :
    Calls Tryd.prog 20 #[.iface 54 (.pointer (some ⟨pb, po, none⟩)), .iface 128 (.pointer (some b))] w fun e w' => e = .returned (.bool false) ∧ w' = w := by
  obtain ⟨i, hi, hcmp⟩ := Option.map_eq_some_iff.1 ei_isComp
  obtain ⟨j, hj, hjs⟩ := Option.map_eq_some_iff.1 ei_isSize
  have h8 := @run_callFunc_extern Tryd.prog 40 _ Extern.ReflectliteType.typeOf Tryd.func40 (by kernel_rfl) (by kernel_rfl) (by kernel_rfl) (by kernel_rfl)
  have h32 := @run_callFunc_extern Tryd.prog 103 _ ei_cmp Tryd.func103 (by kernel_rfl) (by kernel_rfl) (by kernel_rfl) (by kernel_rfl)
  have tT := ei_isTypeOf
  have cT := ei_isComparable
  have mR := ei_isMethodComparable
  have nE := ei_noIsE
  have uE := ei_noUnwrapE
  have vE := ei_noUnwrapsE
  have nW := ei_noIsW
  have uW := ei_hasUnwrapW
  have mU := ei_methodUnwrap
  have heq := run_eql_iface_ptr_other (P := Tryd.prog) w Tryd.underlying39 Tryd.underlying128 hi hcmp hj (by rw [hjs]; decide) hne ha hb
  have hty := run_eql_iface_types (P := Tryd.prog) 54 128 (.pointer (some ⟨pb, po, none⟩)) (.pointer (some b)) Tryd.underlying39 (by decide) w
  go_enter Tryd.func20, Tryd.ntmps20
  go_wp2
  refine wp_loop_rounds 2 ?_
  rw [rounds_succ]
  go_wp2
  rw [rounds_succ]
  go_wp2
  go_ret
  exact ⟨rfl, rfl⟩

end Go.Proofs.YtilcilbmbhbakaaDoor
