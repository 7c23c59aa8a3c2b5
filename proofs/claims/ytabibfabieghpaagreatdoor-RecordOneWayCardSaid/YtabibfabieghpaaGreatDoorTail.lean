/- Parts of slices, in one law each: x[i:], x[:i], x[i:m]; no cases on what the slice is. No program in sight. -/
import Derived.Test.YtabibfabieghpaaGreatDoorLst
import Derived.Test.YtabibfabieghpaaGreatDoorText2
namespace Go.Proofs.YtabibfabieghpaaGreatDoor
open Go.RowKit
/-- Where x[i:] lies. -/
def tailAt (A : Option Addr) (c i size : Nat) : Option Addr := if c = i then A else A.map (·.add (i * size))
section
variable {P : Program} {w : World} {o : Oper} {a : Act} {t elem : TypeId} {x y z : Operand} {A : Option Addr} {n c i m size : Nat}
theorem run_sliceBound_in (y i : Nat) (code : BoundsCode) (h : i ≤ y) : (Instr.sliceBound (.int .i64 (i : Nat)) y code).run P w = .ok i w := by
  have h2 : (0 : Int) ≤ (i : Int) ∧ (i : Int) ≤ (y : Int) := by omega
  simp [Instr.sliceBound, asIntOf, h, go_sem]
theorem run_slice_both (hu : P.underlying t = some (.slice elem)) (hs : (P.info? elem).map (·.size) = some size) (h1 : i ≤ m) (h2 : m ≤ c) :
    (Instr.sliceAt t (.slice A n c) (some (.int .i64 (i : Nat))) (some (.int .i64 (m : Nat))) none).run P w = .ok (.slice (tailAt A c i size) (m - i) (c - i)) w := by
  cases hq : P.info? elem with
  | none => rw [hq] at hs; cases hs
  | some f =>
    rw [hq] at hs
    injection hs with hs
    subst hs
    simp [Instr.sliceAt, Instr.slice, Instr.sliceBounds, run_underlying hu, sizeOf, typeInfo, hq, run_sliceBound_in _ _ _ h2, tailAt, go_sem]
    intro h; exfalso; omega
theorem run_slice_low (hu : P.underlying t = some (.slice elem)) (hs : (P.info? elem).map (·.size) = some size) (h1 : i ≤ n) :
    (Instr.sliceAt t (.slice A n c) (some (.int .i64 (i : Nat))) none none).run P w = .ok (.slice (tailAt A c i size) (n - i) (c - i)) w := by
  cases hq : P.info? elem with
  | none => rw [hq] at hs; cases hs
  | some f =>
    rw [hq] at hs
    injection hs with hs
    subst hs
    simp [Instr.sliceAt, Instr.slice, Instr.sliceBounds, run_underlying hu, sizeOf, typeInfo, hq, run_sliceBound_in _ _ _ h1, tailAt, go_sem]
theorem run_slice_high (hu : P.underlying t = some (.slice elem)) (hs : (P.info? elem).map (·.size) = some size) (h2 : m ≤ c) :
    (Instr.sliceAt t (.slice A n c) none (some (.int .i64 (m : Nat))) none).run P w = .ok (.slice A m c) w := by
  cases hq : P.info? elem with
  | none => rw [hq] at hs; cases hs
  | some f =>
    rw [hq] at hs
    injection hs with hs
    subst hs
    cases A <;> simp [Instr.sliceAt, Instr.slice, Instr.sliceBounds, run_underlying hu, sizeOf, typeInfo, hq, run_sliceBound_in _ _ _ h2, Addr.add, go_sem]
/-- The operations. -/
theorem exec_slice (hu : P.underlying t = some (.slice elem)) (hs : (P.info? elem).map (·.size) = some size) (ho : o.op = .slice t x (some y) (some z) none)
    (hx : a.eval x = .slice A n c) (hy : a.eval y = .int .i64 (i : Nat)) (hz : a.eval z = .int .i64 (m : Nat)) (h1 : i ≤ m) (h2 : m ≤ c) :
    (execOp a.eval o).run P w = .ok (.value (.slice (tailAt A c i size) (m - i) (c - i))) w := by
  unfold execOp
  simp only [ho, Option.map_some, Option.map_none, hx, hy, hz, Sem.run_bind, run_slice_both hu hs h1 h2, Result.andThen_ok, Sem.run_pure]
theorem exec_slice_low (hu : P.underlying t = some (.slice elem)) (hs : (P.info? elem).map (·.size) = some size) (ho : o.op = .slice t x (some y) none none)
    (hx : a.eval x = .slice A n c) (hy : a.eval y = .int .i64 (i : Nat)) (h1 : i ≤ n) :
    (execOp a.eval o).run P w = .ok (.value (.slice (tailAt A c i size) (n - i) (c - i))) w := by
  unfold execOp
  simp only [ho, Option.map_some, Option.map_none, hx, hy, Sem.run_bind, run_slice_low hu hs h1, Result.andThen_ok, Sem.run_pure]
theorem exec_slice_high (hu : P.underlying t = some (.slice elem)) (hs : (P.info? elem).map (·.size) = some size) (ho : o.op = .slice t x none (some z) none)
    (hx : a.eval x = .slice A n c) (hz : a.eval z = .int .i64 (m : Nat)) (h2 : m ≤ c) :
    (execOp a.eval o).run P w = .ok (.value (.slice A m c)) w := by
  unfold execOp
  simp only [ho, Option.map_some, Option.map_none, hx, hz, Sem.run_bind, run_slice_high hu hs h2, Result.andThen_ok, Sem.run_pure]
end
/-- What x[i:] reads as. -/
theorem Rds.tail {α : Type} {S : Ph} {size : Nat} {en : α → List Value} {A : Option Addr} {n c : Nat} {xs : List α} (h : Rds S size en A n xs) (hc : n ≤ c) (i : Nat) (hi : i ≤ n) :
    Rds S size en (tailAt A c i size) (n - i) (xs.drop i) := by
  have hl := h.1
  refine ⟨by rw [List.length_drop, hl], h.2.1, fun k hk => ?_⟩
  rw [List.length_drop] at hk
  obtain ⟨b, off, hA, hc2⟩ := h.2.2 (i + k) (by omega)
  subst hA
  have hne : ¬ c = i := by omega
  refine ⟨b, off + i * size, by unfold tailAt; rw [if_neg hne]; exact congrArg some (add_eq b off _), fun j v hv => ?_⟩
  rw [List.getElem_drop] at hv
  have := hc2 j v hv
  rw [Nat.add_mul] at this
  rw [show off + i * size + k * size + j = off + (i * size + k * size) + j by omega]
  exact this
end Go.Proofs.YtabibfabieghpaaGreatDoor
