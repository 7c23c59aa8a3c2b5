/- Arguments that are arrays of bytes. -/
import Derived.Test.YtnbpbonpcbemdaaLaw
import Derived.OpenShut
namespace Go.Proofs.Ytnbpbonpcbemdaa
open Go.ChangeShapes Go.WideShapes Go.ChangeAt Go.RowKit Go.Deep
section
variable {H : Type} {enc : TypeId × Value → H} {P : Program} {w : World} {sp : Nat → Bool} {held : Bool}
theorem arg_bytes {r : Reach} {b0 : Nat} {t e : TypeId} {n : Nat} {v : Value} {d : DataW H} {p : List MemPlace} (ht : P.underlying t = some (.array n e)) (he : P.underlying e = some (.int .u8)) (hce : P.cellsOf e = 1) (hct : P.cellsOf t = n)
    (hv : Value.okWide P w r b0 t v) (h : DataW.Trod enc P w 0 sp held t v d p) : ∃ T : List UInt8, T.length = n ∧ v = .agg (T.map fun b => Value.int .u8 (b.toNat : Int)).toArray := by
  have hv' : ∃ cs, v = .agg cs ∧ cs.size = P.cellsOf t := by
    simp only [Value.okWide, ht] at hv
    obtain ⟨cs, h1, h2, _⟩ := hv
    exact ⟨cs, h1, h2⟩
  obtain ⟨cs, rfl, hcs⟩ := hv'
  obtain ⟨fuel, hf⟩ := h
  obtain ⟨xs, m, _, _, hl, hxl, hel⟩ := DataW.trod_array ht hf
  have hcl : cs.toList.length = n := by rw [← hct, ← hcs]; simp
  have key : ∀ i (hi : i < n), ∃ b : UInt8, cs.toList[i]'(by omega) = .int .u8 (b.toNat : Int) := fun i hi => by
    have h1 := hel i hi
    rw [hce, Nat.mul_one] at h1
    have h2 : xs[i]? = some xs[i] := List.getElem?_eq_getElem (by omega)
    have h3 : (cs.toList.drop i).take 1 = [cs.toList[i]'(by omega)] := by
      rw [List.drop_eq_getElem_cons (by omega)]; rfl
    have h4 : (Value.agg cs).cells.toList = cs.toList := rfl
    rw [h4, h3, h2] at h1
    obtain ⟨z, hz, _, hw⟩ := DataW.trod_int he h1
    have hb := wf_u8' hw
    refine ⟨UInt8.ofNat z.toNat, ?_⟩
    have hz' : cs.toList[i]'(by omega) = .int .u8 z := by simpa using hz
    rw [hz']
    congr 1
    simp
    omega
  obtain ⟨T, hT, hx⟩ := exists_list (Q := fun i (b : UInt8) => ∀ hi : i < n, cs.toList[i]'(by omega) = .int .u8 (b.toNat : Int)) n (fun i hi => by
    obtain ⟨b, hb⟩ := key i hi
    exact ⟨b, fun _ => hb⟩)
  refine ⟨T, hT, ?_⟩
  congr 1
  apply Array.ext'
  refine List.ext_getElem (by simp [hcl, hT]) fun i h1 h2 => ?_
  have := hx i (by omega) (by omega)
  simpa using this
end
end Go.Proofs.Ytnbpbonpcbemdaa
