/- Texts and bytes: short names, and laws that most seats need. -/
import Derived.Test.YtabibfabieghpaaGreatDoorRows
import Derived.Test.YtabibfabieghpaaGreatDoorBytes
import Derived.Test.YtabibfabieghpaaGreatDoorText
import Derived.Laws.BitsAllLaws
import Derived.Laws.BitsLemmas
namespace Go.Proofs.YtabibfabieghpaaGreatDoor
open Go.RowKit
abbrev BT : TypeId := 148
abbrev ST : TypeId := 9
abbrev U8 : TypeId := 5
theorem u8_info : (Tryz.prog.info? U8).map (fun i => (i.zero, i.size, i.bytes)) = some (some (.int .u8 0), 1, 1) := by kernel_rfl
/-- The operation that a walk's arm waits for, by its slot: fails fast. -/
theorem at_slot {P : Program} {ops : Array Oper} {Q : Exit → Act → World → Prop} {rest : List Oper} {a : Act} {w : World} {k : Option Tmp} {x1 x2 x3 x4 x5} (h : wpList P ops Q ((⟨k, x1, x2, x3, x4, x5⟩ : Oper) :: rest) a w) : wpList P ops Q ((⟨k, x1, x2, x3, x4, x5⟩ : Oper) :: rest) a w := h
theorem byte_index (s : ByteArray) (i : Int) (n : Nat) (h : i = (n : Int)) (hn : n < s.size) (W : World) : (Instr.index ST (.string s) (.int .i64 i)).run Tryz.prog W = .ok (.int .u8 (s.data.toList.getD n 0).toNat) W := by
  subst h
  rw [run_index_string (P := Tryz.prog) W _ s .i64 _ (by kernel_rfl), dif_pos ⟨by omega, by omega⟩]
  have hl : n < s.data.toList.length := hn
  have hg : s[((n : Int)).toNat]'(by simpa using hn) = s.data.toList.getD n 0 := by
    rw [List.getD_eq_getElem?_getD, List.getElem?_eq_getElem hl]
    rfl
  rw [hg]
theorem bytes_ext (a : ByteArray) (l : List UInt8) (h : a.data.toList = l) : a = ⟨l.toArray⟩ := by subst h; rfl
theorem str_ext {a : ByteArray} {l : List UInt8} (h : a.data.toList = l) : Ending.returned (.string a) = .returned (.string ⟨l.toArray⟩) := by rw [bytes_ext a l h]
theorem app_data (a b : ByteArray) : (a ++ b).data.toList = a.data.toList ++ b.data.toList := by rw [ByteArray.data_append, Array.toList_append]
theorem ret_i64 {a b : Int} (h : a = b) : Ending.returned (.int .i64 a) = .returned (.int .i64 b) := by rw [h]
theorem ret_bool {a b : Bool} (h : a = b) : Ending.returned (.bool a) = .returned (.bool b) := by rw [h]
theorem ofInt_i64 (a : Nat) (ha : a < 9223372036854775808) : (BitVec.ofInt 64 (a : Int)).toNat = a := by
  rw [BitVec.ofInt_natCast, BitVec.toNat_ofNat]; exact Nat.mod_eq_of_lt (by omega)
theorem i64_and_nat (a b : Nat) (ha : a < 9223372036854775808) (hb : b < 9223372036854775808) : bits .and .i64 (a : Int) (b : Int) = ((a &&& b : Nat) : Int) := by
  have hx : a &&& b < 2 ^ 63 := Nat.and_lt_two_pow _ (by omega)
  show IntKind.i64.wrap ((BitVec.ofInt 64 (a : Int) &&& BitVec.ofInt 64 (b : Int)).toNat : Int) = _
  rw [BitVec.toNat_and, ofInt_i64 a ha, ofInt_i64 b hb, IntKind.wrap_i64]
  omega
theorem i64_or_nat (a b : Nat) (ha : a < 9223372036854775808) (hb : b < 9223372036854775808) : bits .or .i64 (a : Int) (b : Int) = ((a ||| b : Nat) : Int) := by
  have hx : a ||| b < 2 ^ 63 := Nat.or_lt_two_pow (by omega) (by omega)
  show IntKind.i64.wrap ((BitVec.ofInt 64 (a : Int) ||| BitVec.ofInt 64 (b : Int)).toNat : Int) = _
  rw [BitVec.toNat_or, ofInt_i64 a ha, ofInt_i64 b hb, IntKind.wrap_i64]
  omega
theorem add_u8 {E wr : World} {M : List Hp} {v : Value} {n : Nat} {l : List UInt8} (V : Int) (x : UInt8) (hV : V = (x.toNat : Int)) (hn : n + 1 ≤ 140737488355328) (h : Own E wr (Hp.row U8 1 v n (l.map V8') :: M)) :
    ∃ v' w', (Builtin.append_ #[BT, BT] BT #[v, .slice (some ⟨wr.heap.size, 0, none⟩) 1 1]).run Tryz.prog (wr.alloc (.cells #[.int .u8 V] U8)) = .ok v' w' ∧ Own E w' (Hp.row U8 1 v' (n + 1) ((l ++ [x]).map V8') :: M) := by
  subst hV
  obtain ⟨v', w', h1, h2, _⟩ := sl_append_new (P := Tryz.prog) (ty := BT) (t := BT) (by kernel_rfl) u8_info rfl (by omega) h #[.int .u8 x.toNat] 1 rfl (by intro u hu; rw [List.mem_singleton.1 hu]; rfl) (by unfold maxLen; omega) (by omega)
  exact ⟨v', w', h1, by rw [List.map_append]; exact h2⟩
end Go.Proofs.YtabibfabieghpaaGreatDoor
