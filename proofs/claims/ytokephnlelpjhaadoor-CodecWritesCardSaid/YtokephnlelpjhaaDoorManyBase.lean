/- What the six kinds of many share: a list that is filled, bounds of whole kinds. -/
import Derived.Test.YtokephnlelpjhaaDoorNums
import Derived.Test.YtokephnlelpjhaaDoorXWr
import Derived.Test.YtokephnlelpjhaaDoorScript
namespace Go.Proofs.YtokephnlelpjhaaDoor
open Go.RowKit
def fillC (f : Int → Value) (z0 : Value) (ys : List Int) (j : Nat) : List Value := (ys.take j).map f ++ List.replicate (ys.length - j) z0
theorem fill_zero (f : Int → Value) (z0 : Value) (ys : List Int) : fillC f z0 ys 0 = List.replicate ys.length z0 := rfl
theorem fill_all (f : Int → Value) (z0 : Value) (ys : List Int) : fillC f z0 ys ys.length = ys.map f := by
  unfold fillC
  rw [List.take_length, Nat.sub_self, List.replicate_zero, List.append_nil]
theorem fill_form (f : Int → Value) (z0 : Value) (ys : List Int) (j : Nat) (hj : j < ys.length) : fillC f z0 ys j = (ys.take j).map f ++ z0 :: List.replicate (ys.length - (j + 1)) z0 := by
  unfold fillC
  rw [show ys.length - j = (ys.length - (j + 1)) + 1 by omega, List.replicate_succ]
theorem fill_len (f : Int → Value) (ys : List Int) (j : Nat) (hj : j < ys.length) : ((ys.take j).map f).length = j := by
  rw [List.length_map, List.length_take]
  exact Nat.min_eq_left (by omega)
theorem fill_get (f : Int → Value) (z0 : Value) (ys : List Int) (j : Nat) (hj : j < ys.length) : (fillC f z0 ys j).toArray[j]? = some z0 := by
  rw [fill_form f z0 ys j hj]
  exact get_mid _ _ _ _ (fill_len f ys j hj)
theorem fill_set (f : Int → Value) (z0 : Value) (ys : List Int) (j : Nat) (y : Int) (hy : ys[j]? = some y) : (fillC f z0 ys j).toArray.setIfInBounds j (f y) = (fillC f z0 ys (j + 1)).toArray := by
  have hj := (List.getElem?_eq_some_iff.1 hy).1
  rw [fill_form f z0 ys j hj, set_mid _ _ _ _ _ (fill_len f ys j hj)]
  unfold fillC
  rw [List.take_add_one, hy, List.map_append, List.append_assoc]
  rfl
theorem rng_i32 (n : Int) : -9223372036854775808 ≤ IntKind.i32.wrap n ∧ IntKind.i32.wrap n ≤ 9223372036854775807 := by rw [IntKind.wrap_i32]; omega
theorem rng_u8 (n : Int) : -9223372036854775808 ≤ IntKind.u8.wrap n ∧ IntKind.u8.wrap n ≤ 9223372036854775807 := by rw [IntKind.wrap_u8]; omega
theorem rng_u16 (n : Int) : -9223372036854775808 ≤ IntKind.u16.wrap n ∧ IntKind.u16.wrap n ≤ 9223372036854775807 := by
  have e : IntKind.u16.wrap n = n % 65536 := by simp [IntKind.wrap, IntKind.bits, IntKind.signed]
  rw [e]; omega
theorem rng_u32 (n : Int) : -9223372036854775808 ≤ IntKind.u32.wrap n ∧ IntKind.u32.wrap n ≤ 9223372036854775807 := by rw [IntKind.wrap_u32]; omega
theorem flat_ints (zs : List Int) : zs.flatMap enI = zs.map (Value.int .i64) := by
  induction zs with
  | nil => rfl
  | cons z l ih => rw [List.flatMap_cons, ih]; rfl
theorem ints_one (zs : List Int) : ∀ v ∈ zs.map (Value.int .i64), v.oneCell' = true := by
  intro v hv
  obtain ⟨z, _, rfl⟩ := List.mem_map.1 hv
  rfl
end Go.Proofs.YtokephnlelpjhaaDoor
