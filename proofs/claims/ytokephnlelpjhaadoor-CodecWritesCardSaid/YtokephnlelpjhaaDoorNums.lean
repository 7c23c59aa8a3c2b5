/- codec.Numbers of six whole kinds: what Num does of each in turn. Printed by gen_nums.py. -/
import Derived.Test.YtokephnlelpjhaaDoorWr
namespace Go.Proofs.YtokephnlelpjhaaDoor
open Go.RowKit
/-- Num of each number in turn. -/
def wMany (st : List UInt8 × Int) (size : Int) (zs : List Int) : List UInt8 × Int := zs.foldl (fun s z => wNum s.1 s.2 size z) st
theorem wMany_snoc (st : List UInt8 × Int) (size : Int) (zs : List Int) (k : Nat) (z : Int) (h : zs[k]? = some z) : wMany st size (zs.take (k + 1)) = wNum (wMany st size (zs.take k)).1 (wMany st size (zs.take k)).2 size z := by
  unfold wMany
  rw [List.take_add_one, h, List.foldl_append]
  rfl
theorem wNum_len (l : List UInt8) (e size n : Int) : (wNum l e size n).1.length ≤ l.length + 8 := by
  unfold wNum
  by_cases h1 : size < 1 ∨ 8 < size
  · rw [if_pos h1]; exact Nat.le_add_right _ _
  rw [if_neg h1]
  by_cases h2 : n < 0 ∨ 256 ^ size.toNat ≤ n.toNat
  · rw [if_pos h2]; exact Nat.le_add_right _ _
  rw [if_neg h2]
  show (l ++ byN size.toNat n.toNat).length ≤ _
  rw [List.length_append, byN_len]
  omega
theorem wMany_len (size : Int) : ∀ (zs : List Int) (st : List UInt8 × Int), (wMany st size zs).1.length ≤ st.1.length + 8 * zs.length
  | [], st => Nat.le_add_right _ _
  | z :: zs, st => by
    have h := wMany_len size zs (wNum st.1 st.2 size z)
    have h2 := wNum_len st.1 st.2 size z
    show (wMany (wNum st.1 st.2 size z) size zs).1.length ≤ _
    rw [List.length_cons]
    omega
theorem wMany_take_len (size : Int) (zs : List Int) (k : Nat) (st : List UInt8 × Int) : (wMany st size (zs.take k)).1.length ≤ st.1.length + 8 * zs.length := by
  have h := wMany_len size (zs.take k) st
  rw [List.length_take] at h
  omega
section
variable {E : World} {L : List Hp}
set_option maxRecDepth 20000 in
theorem numbers_int (b : Nat) (l : List UInt8) (e size : Int) (g n c : Nat) (cs : Array Value) (zs : List Int) (w : World) (hzl : zs.length = n) (hcs : ∀ (j : Nat) (z : Int), zs[j]? = some z → cs[j]? = some (Value.int .i64 z)) (hzr : ∀ z ∈ zs, -9223372036854775808 ≤ z ∧ z ≤ 9223372036854775807) (hn : n ≤ 2147483647)
    (hl : l.length + 8 * n + 8 ≤ 140737488355328) (h : Own E w (Hp.wtr b l e :: Hp.blk g 3 cs :: L)) :
    Calls Tryd.prog 58 #[.pointer (some ⟨b, 0, none⟩), .int .i64 size, .slice (some ⟨g, 0, none⟩) n c] w fun ev w' => ev = .returned (.tuple #[]) ∧ Own E w' (Hp.wtr b (wMany (l, e) size zs).1 (wMany (l, e) size zs).2 :: Hp.blk g 3 cs :: L) := by
  have HL := Lib.hid hl
  have H := Lib.hid h
  clear hl h
  go_enter Tryd.func58, Tryd.ntmps58
  go_wp2_with fail
  go_loopw [10] (fun i wr => ∃ k : Nat, k ≤ n ∧ i = .int .i64 k ∧ Own E wr (Hp.wtr b (wMany (l, e) size (zs.take k)).1 (wMany (l, e) size (zs.take k)).2 :: Hp.blk g 3 cs :: L)) (fun i _ => n - (intOf i).toNat)
  case atStart => exact ⟨0, by omega, rfl, H.out⟩
  case round =>
    obtain ⟨k, hk, rfl, hw⟩ := hrel
    clear H
    by_cases hlt : k < n
    · obtain ⟨z, hz⟩ : ∃ z, zs[k]? = some z := ⟨_, List.getElem?_eq_getElem (by omega)⟩
      have hzb := hzr z (List.mem_of_getElem? hz)
      have c0 : wr.cell? ⟨g, k, none⟩ = some (.int .i64 z) := (hw.f1.cell k).trans (hcs k z hz)
      have hst := wMany_snoc (l, e) size zs k z hz
      have hsl := wMany_take_len size zs k (l, e)
      obtain ⟨l1, e1, he1⟩ : ∃ l1 e1, wMany (l, e) size (zs.take k) = (l1, e1) := ⟨_, _, rfl⟩
      obtain ⟨l2, e2, he2⟩ : ∃ l2 e2, wMany (l, e) size (zs.take (k + 1)) = (l2, e2) := ⟨_, _, rfl⟩
      rw [he1] at hw hst hsl
      rw [he2] at hst
      have HW := Lib.hid hw
      have HST := Lib.hid hst
      have HE2 := Lib.hid he2
      have HSL : Hid (l1.length + 8 ≤ 140737488355328) := Lib.hid (by have := HL.out; dsimp only at hsl; omega)
      have i0 : (0 : Int) ≤ k := by omega
      have i1 : (k : Int) < n := by omega
      clear hw hst hsl he1 he2 hz
      go_wp2_with fail
      refine (wnum_all b l1 e1 size z l2 e2 _ HST.out.symm hzb.2 HSL.out HW.out).mono ?_
      rintro ev w2 ⟨rfl, h2⟩
      have H2 := Lib.hid h2
      clear h2
      go_wp2_with fail
      go_roundw
      case rel => exact ⟨k + 1, by omega, by go_num, by rw [HE2.out]; exact H2.out⟩
      case measure => simp [intOf]; omega
    · obtain rfl : k = n := by omega
      rw [List.take_of_length_le (by omega)] at hw
      have HW := Lib.hid hw
      clear hw hcs hzr
      go_wp2_with fail
      go_end0
      exact ⟨rfl, HW.out⟩
set_option maxRecDepth 20000 in
theorem numbers_int32 (b : Nat) (l : List UInt8) (e size : Int) (g n c : Nat) (cs : Array Value) (zs : List Int) (w : World) (hzl : zs.length = n) (hcs : ∀ (j : Nat) (z : Int), zs[j]? = some z → cs[j]? = some (Value.int .i32 z)) (hzr : ∀ z ∈ zs, -9223372036854775808 ≤ z ∧ z ≤ 9223372036854775807) (hn : n ≤ 2147483647)
    (hl : l.length + 8 * n + 8 ≤ 140737488355328) (h : Own E w (Hp.wtr b l e :: Hp.blk g 21 cs :: L)) :
    Calls Tryd.prog 59 #[.pointer (some ⟨b, 0, none⟩), .int .i64 size, .slice (some ⟨g, 0, none⟩) n c] w fun ev w' => ev = .returned (.tuple #[]) ∧ Own E w' (Hp.wtr b (wMany (l, e) size zs).1 (wMany (l, e) size zs).2 :: Hp.blk g 21 cs :: L) := by
  have HL := Lib.hid hl
  have H := Lib.hid h
  clear hl h
  go_enter Tryd.func59, Tryd.ntmps59
  go_wp2_with fail
  go_loopw [10] (fun i wr => ∃ k : Nat, k ≤ n ∧ i = .int .i64 k ∧ Own E wr (Hp.wtr b (wMany (l, e) size (zs.take k)).1 (wMany (l, e) size (zs.take k)).2 :: Hp.blk g 21 cs :: L)) (fun i _ => n - (intOf i).toNat)
  case atStart => exact ⟨0, by omega, rfl, H.out⟩
  case round =>
    obtain ⟨k, hk, rfl, hw⟩ := hrel
    clear H
    by_cases hlt : k < n
    · obtain ⟨z, hz⟩ : ∃ z, zs[k]? = some z := ⟨_, List.getElem?_eq_getElem (by omega)⟩
      have hzb := hzr z (List.mem_of_getElem? hz)
      have c0 : wr.cell? ⟨g, k, none⟩ = some (.int .i32 z) := (hw.f1.cell k).trans (hcs k z hz)
      have hst := wMany_snoc (l, e) size zs k z hz
      have hsl := wMany_take_len size zs k (l, e)
      obtain ⟨l1, e1, he1⟩ : ∃ l1 e1, wMany (l, e) size (zs.take k) = (l1, e1) := ⟨_, _, rfl⟩
      obtain ⟨l2, e2, he2⟩ : ∃ l2 e2, wMany (l, e) size (zs.take (k + 1)) = (l2, e2) := ⟨_, _, rfl⟩
      rw [he1] at hw hst hsl
      rw [he2] at hst
      have HW := Lib.hid hw
      have HST := Lib.hid hst
      have HE2 := Lib.hid he2
      have HSL : Hid (l1.length + 8 ≤ 140737488355328) := Lib.hid (by have := HL.out; dsimp only at hsl; omega)
      have hyw : IntKind.i64.wrap z = z := IntWalk.i64_in z hzb
      have i0 : (0 : Int) ≤ k := by omega
      have i1 : (k : Int) < n := by omega
      clear hw hst hsl he1 he2 hz
      go_wp2_with fail
      refine (wnum_all b l1 e1 size z l2 e2 _ HST.out.symm hzb.2 HSL.out HW.out).mono ?_
      rintro ev w2 ⟨rfl, h2⟩
      have H2 := Lib.hid h2
      clear h2
      go_wp2_with fail
      go_roundw
      case rel => exact ⟨k + 1, by omega, by go_num, by rw [HE2.out]; exact H2.out⟩
      case measure => simp [intOf]; omega
    · obtain rfl : k = n := by omega
      rw [List.take_of_length_le (by omega)] at hw
      have HW := Lib.hid hw
      clear hw hcs hzr
      go_wp2_with fail
      go_end0
      exact ⟨rfl, HW.out⟩
set_option maxRecDepth 20000 in
theorem numbers_int64 (b : Nat) (l : List UInt8) (e size : Int) (g n c : Nat) (cs : Array Value) (zs : List Int) (w : World) (hzl : zs.length = n) (hcs : ∀ (j : Nat) (z : Int), zs[j]? = some z → cs[j]? = some (Value.int .i64 z)) (hzr : ∀ z ∈ zs, -9223372036854775808 ≤ z ∧ z ≤ 9223372036854775807) (hn : n ≤ 2147483647)
    (hl : l.length + 8 * n + 8 ≤ 140737488355328) (h : Own E w (Hp.wtr b l e :: Hp.blk g 2 cs :: L)) :
    Calls Tryd.prog 60 #[.pointer (some ⟨b, 0, none⟩), .int .i64 size, .slice (some ⟨g, 0, none⟩) n c] w fun ev w' => ev = .returned (.tuple #[]) ∧ Own E w' (Hp.wtr b (wMany (l, e) size zs).1 (wMany (l, e) size zs).2 :: Hp.blk g 2 cs :: L) := by
  have HL := Lib.hid hl
  have H := Lib.hid h
  clear hl h
  go_enter Tryd.func60, Tryd.ntmps60
  go_wp2_with fail
  go_loopw [10] (fun i wr => ∃ k : Nat, k ≤ n ∧ i = .int .i64 k ∧ Own E wr (Hp.wtr b (wMany (l, e) size (zs.take k)).1 (wMany (l, e) size (zs.take k)).2 :: Hp.blk g 2 cs :: L)) (fun i _ => n - (intOf i).toNat)
  case atStart => exact ⟨0, by omega, rfl, H.out⟩
  case round =>
    obtain ⟨k, hk, rfl, hw⟩ := hrel
    clear H
    by_cases hlt : k < n
    · obtain ⟨z, hz⟩ : ∃ z, zs[k]? = some z := ⟨_, List.getElem?_eq_getElem (by omega)⟩
      have hzb := hzr z (List.mem_of_getElem? hz)
      have c0 : wr.cell? ⟨g, k, none⟩ = some (.int .i64 z) := (hw.f1.cell k).trans (hcs k z hz)
      have hst := wMany_snoc (l, e) size zs k z hz
      have hsl := wMany_take_len size zs k (l, e)
      obtain ⟨l1, e1, he1⟩ : ∃ l1 e1, wMany (l, e) size (zs.take k) = (l1, e1) := ⟨_, _, rfl⟩
      obtain ⟨l2, e2, he2⟩ : ∃ l2 e2, wMany (l, e) size (zs.take (k + 1)) = (l2, e2) := ⟨_, _, rfl⟩
      rw [he1] at hw hst hsl
      rw [he2] at hst
      have HW := Lib.hid hw
      have HST := Lib.hid hst
      have HE2 := Lib.hid he2
      have HSL : Hid (l1.length + 8 ≤ 140737488355328) := Lib.hid (by have := HL.out; dsimp only at hsl; omega)
      have hyw : IntKind.i64.wrap z = z := IntWalk.i64_in z hzb
      have i0 : (0 : Int) ≤ k := by omega
      have i1 : (k : Int) < n := by omega
      clear hw hst hsl he1 he2 hz
      go_wp2_with fail
      refine (wnum_all b l1 e1 size z l2 e2 _ HST.out.symm hzb.2 HSL.out HW.out).mono ?_
      rintro ev w2 ⟨rfl, h2⟩
      have H2 := Lib.hid h2
      clear h2
      go_wp2_with fail
      go_roundw
      case rel => exact ⟨k + 1, by omega, by go_num, by rw [HE2.out]; exact H2.out⟩
      case measure => simp [intOf]; omega
    · obtain rfl : k = n := by omega
      rw [List.take_of_length_le (by omega)] at hw
      have HW := Lib.hid hw
      clear hw hcs hzr
      go_wp2_with fail
      go_end0
      exact ⟨rfl, HW.out⟩
set_option maxRecDepth 20000 in
theorem numbers_uint8 (b : Nat) (l : List UInt8) (e size : Int) (g n c : Nat) (cs : Array Value) (zs : List Int) (w : World) (hzl : zs.length = n) (hcs : ∀ (j : Nat) (z : Int), zs[j]? = some z → cs[j]? = some (Value.int .u8 z)) (hzr : ∀ z ∈ zs, -9223372036854775808 ≤ z ∧ z ≤ 9223372036854775807) (hn : n ≤ 2147483647)
    (hl : l.length + 8 * n + 8 ≤ 140737488355328) (h : Own E w (Hp.wtr b l e :: Hp.blk g 5 cs :: L)) :
    Calls Tryd.prog 61 #[.pointer (some ⟨b, 0, none⟩), .int .i64 size, .slice (some ⟨g, 0, none⟩) n c] w fun ev w' => ev = .returned (.tuple #[]) ∧ Own E w' (Hp.wtr b (wMany (l, e) size zs).1 (wMany (l, e) size zs).2 :: Hp.blk g 5 cs :: L) := by
  have HL := Lib.hid hl
  have H := Lib.hid h
  clear hl h
  go_enter Tryd.func61, Tryd.ntmps61
  go_wp2_with fail
  go_loopw [10] (fun i wr => ∃ k : Nat, k ≤ n ∧ i = .int .i64 k ∧ Own E wr (Hp.wtr b (wMany (l, e) size (zs.take k)).1 (wMany (l, e) size (zs.take k)).2 :: Hp.blk g 5 cs :: L)) (fun i _ => n - (intOf i).toNat)
  case atStart => exact ⟨0, by omega, rfl, H.out⟩
  case round =>
    obtain ⟨k, hk, rfl, hw⟩ := hrel
    clear H
    by_cases hlt : k < n
    · obtain ⟨z, hz⟩ : ∃ z, zs[k]? = some z := ⟨_, List.getElem?_eq_getElem (by omega)⟩
      have hzb := hzr z (List.mem_of_getElem? hz)
      have c0 : wr.cell? ⟨g, k, none⟩ = some (.int .u8 z) := (hw.f1.cell k).trans (hcs k z hz)
      have hst := wMany_snoc (l, e) size zs k z hz
      have hsl := wMany_take_len size zs k (l, e)
      obtain ⟨l1, e1, he1⟩ : ∃ l1 e1, wMany (l, e) size (zs.take k) = (l1, e1) := ⟨_, _, rfl⟩
      obtain ⟨l2, e2, he2⟩ : ∃ l2 e2, wMany (l, e) size (zs.take (k + 1)) = (l2, e2) := ⟨_, _, rfl⟩
      rw [he1] at hw hst hsl
      rw [he2] at hst
      have HW := Lib.hid hw
      have HST := Lib.hid hst
      have HE2 := Lib.hid he2
      have HSL : Hid (l1.length + 8 ≤ 140737488355328) := Lib.hid (by have := HL.out; dsimp only at hsl; omega)
      have hyw : IntKind.i64.wrap z = z := IntWalk.i64_in z hzb
      have i0 : (0 : Int) ≤ k := by omega
      have i1 : (k : Int) < n := by omega
      clear hw hst hsl he1 he2 hz
      go_wp2_with fail
      refine (wnum_all b l1 e1 size z l2 e2 _ HST.out.symm hzb.2 HSL.out HW.out).mono ?_
      rintro ev w2 ⟨rfl, h2⟩
      have H2 := Lib.hid h2
      clear h2
      go_wp2_with fail
      go_roundw
      case rel => exact ⟨k + 1, by omega, by go_num, by rw [HE2.out]; exact H2.out⟩
      case measure => simp [intOf]; omega
    · obtain rfl : k = n := by omega
      rw [List.take_of_length_le (by omega)] at hw
      have HW := Lib.hid hw
      clear hw hcs hzr
      go_wp2_with fail
      go_end0
      exact ⟨rfl, HW.out⟩
set_option maxRecDepth 20000 in
theorem numbers_uint16 (b : Nat) (l : List UInt8) (e size : Int) (g n c : Nat) (cs : Array Value) (zs : List Int) (w : World) (hzl : zs.length = n) (hcs : ∀ (j : Nat) (z : Int), zs[j]? = some z → cs[j]? = some (Value.int .u16 z)) (hzr : ∀ z ∈ zs, -9223372036854775808 ≤ z ∧ z ≤ 9223372036854775807) (hn : n ≤ 2147483647)
    (hl : l.length + 8 * n + 8 ≤ 140737488355328) (h : Own E w (Hp.wtr b l e :: Hp.blk g 85 cs :: L)) :
    Calls Tryd.prog 62 #[.pointer (some ⟨b, 0, none⟩), .int .i64 size, .slice (some ⟨g, 0, none⟩) n c] w fun ev w' => ev = .returned (.tuple #[]) ∧ Own E w' (Hp.wtr b (wMany (l, e) size zs).1 (wMany (l, e) size zs).2 :: Hp.blk g 85 cs :: L) := by
  have HL := Lib.hid hl
  have H := Lib.hid h
  clear hl h
  go_enter Tryd.func62, Tryd.ntmps62
  go_wp2_with fail
  go_loopw [10] (fun i wr => ∃ k : Nat, k ≤ n ∧ i = .int .i64 k ∧ Own E wr (Hp.wtr b (wMany (l, e) size (zs.take k)).1 (wMany (l, e) size (zs.take k)).2 :: Hp.blk g 85 cs :: L)) (fun i _ => n - (intOf i).toNat)
  case atStart => exact ⟨0, by omega, rfl, H.out⟩
  case round =>
    obtain ⟨k, hk, rfl, hw⟩ := hrel
    clear H
    by_cases hlt : k < n
    · obtain ⟨z, hz⟩ : ∃ z, zs[k]? = some z := ⟨_, List.getElem?_eq_getElem (by omega)⟩
      have hzb := hzr z (List.mem_of_getElem? hz)
      have c0 : wr.cell? ⟨g, k, none⟩ = some (.int .u16 z) := (hw.f1.cell k).trans (hcs k z hz)
      have hst := wMany_snoc (l, e) size zs k z hz
      have hsl := wMany_take_len size zs k (l, e)
      obtain ⟨l1, e1, he1⟩ : ∃ l1 e1, wMany (l, e) size (zs.take k) = (l1, e1) := ⟨_, _, rfl⟩
      obtain ⟨l2, e2, he2⟩ : ∃ l2 e2, wMany (l, e) size (zs.take (k + 1)) = (l2, e2) := ⟨_, _, rfl⟩
      rw [he1] at hw hst hsl
      rw [he2] at hst
      have HW := Lib.hid hw
      have HST := Lib.hid hst
      have HE2 := Lib.hid he2
      have HSL : Hid (l1.length + 8 ≤ 140737488355328) := Lib.hid (by have := HL.out; dsimp only at hsl; omega)
      have hyw : IntKind.i64.wrap z = z := IntWalk.i64_in z hzb
      have i0 : (0 : Int) ≤ k := by omega
      have i1 : (k : Int) < n := by omega
      clear hw hst hsl he1 he2 hz
      go_wp2_with fail
      refine (wnum_all b l1 e1 size z l2 e2 _ HST.out.symm hzb.2 HSL.out HW.out).mono ?_
      rintro ev w2 ⟨rfl, h2⟩
      have H2 := Lib.hid h2
      clear h2
      go_wp2_with fail
      go_roundw
      case rel => exact ⟨k + 1, by omega, by go_num, by rw [HE2.out]; exact H2.out⟩
      case measure => simp [intOf]; omega
    · obtain rfl : k = n := by omega
      rw [List.take_of_length_le (by omega)] at hw
      have HW := Lib.hid hw
      clear hw hcs hzr
      go_wp2_with fail
      go_end0
      exact ⟨rfl, HW.out⟩
set_option maxRecDepth 20000 in
theorem numbers_uint32 (b : Nat) (l : List UInt8) (e size : Int) (g n c : Nat) (cs : Array Value) (zs : List Int) (w : World) (hzl : zs.length = n) (hcs : ∀ (j : Nat) (z : Int), zs[j]? = some z → cs[j]? = some (Value.int .u32 z)) (hzr : ∀ z ∈ zs, -9223372036854775808 ≤ z ∧ z ≤ 9223372036854775807) (hn : n ≤ 2147483647)
    (hl : l.length + 8 * n + 8 ≤ 140737488355328) (h : Own E w (Hp.wtr b l e :: Hp.blk g 88 cs :: L)) :
    Calls Tryd.prog 63 #[.pointer (some ⟨b, 0, none⟩), .int .i64 size, .slice (some ⟨g, 0, none⟩) n c] w fun ev w' => ev = .returned (.tuple #[]) ∧ Own E w' (Hp.wtr b (wMany (l, e) size zs).1 (wMany (l, e) size zs).2 :: Hp.blk g 88 cs :: L) := by
  have HL := Lib.hid hl
  have H := Lib.hid h
  clear hl h
  go_enter Tryd.func63, Tryd.ntmps63
  go_wp2_with fail
  go_loopw [10] (fun i wr => ∃ k : Nat, k ≤ n ∧ i = .int .i64 k ∧ Own E wr (Hp.wtr b (wMany (l, e) size (zs.take k)).1 (wMany (l, e) size (zs.take k)).2 :: Hp.blk g 88 cs :: L)) (fun i _ => n - (intOf i).toNat)
  case atStart => exact ⟨0, by omega, rfl, H.out⟩
  case round =>
    obtain ⟨k, hk, rfl, hw⟩ := hrel
    clear H
    by_cases hlt : k < n
    · obtain ⟨z, hz⟩ : ∃ z, zs[k]? = some z := ⟨_, List.getElem?_eq_getElem (by omega)⟩
      have hzb := hzr z (List.mem_of_getElem? hz)
      have c0 : wr.cell? ⟨g, k, none⟩ = some (.int .u32 z) := (hw.f1.cell k).trans (hcs k z hz)
      have hst := wMany_snoc (l, e) size zs k z hz
      have hsl := wMany_take_len size zs k (l, e)
      obtain ⟨l1, e1, he1⟩ : ∃ l1 e1, wMany (l, e) size (zs.take k) = (l1, e1) := ⟨_, _, rfl⟩
      obtain ⟨l2, e2, he2⟩ : ∃ l2 e2, wMany (l, e) size (zs.take (k + 1)) = (l2, e2) := ⟨_, _, rfl⟩
      rw [he1] at hw hst hsl
      rw [he2] at hst
      have HW := Lib.hid hw
      have HST := Lib.hid hst
      have HE2 := Lib.hid he2
      have HSL : Hid (l1.length + 8 ≤ 140737488355328) := Lib.hid (by have := HL.out; dsimp only at hsl; omega)
      have hyw : IntKind.i64.wrap z = z := IntWalk.i64_in z hzb
      have i0 : (0 : Int) ≤ k := by omega
      have i1 : (k : Int) < n := by omega
      clear hw hst hsl he1 he2 hz
      go_wp2_with fail
      refine (wnum_all b l1 e1 size z l2 e2 _ HST.out.symm hzb.2 HSL.out HW.out).mono ?_
      rintro ev w2 ⟨rfl, h2⟩
      have H2 := Lib.hid h2
      clear h2
      go_wp2_with fail
      go_roundw
      case rel => exact ⟨k + 1, by omega, by go_num, by rw [HE2.out]; exact H2.out⟩
      case measure => simp [intOf]; omega
    · obtain rfl : k = n := by omega
      rw [List.take_of_length_le (by omega)] at hw
      have HW := Lib.hid hw
      clear hw hcs hzr
      go_wp2_with fail
      go_end0
      exact ⟨rfl, HW.out⟩
end
end Go.Proofs.YtokephnlelpjhaaDoor
