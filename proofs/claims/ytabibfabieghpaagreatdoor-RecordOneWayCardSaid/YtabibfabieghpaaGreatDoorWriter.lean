/- codec.Writer: NewWriter, Raw, Num, Text, Done. -/
import Derived.Test.YtabibfabieghpaaGreatDoorStr
namespace Go.Proofs.YtabibfabieghpaaGreatDoor
open Go.RowKit
abbrev WT : TypeId := 176
/-- A Writer at block b: what is wrong with it (a value of type error), and what it has laid down. -/
def Hp.writer (b : Nat) (W : Value) (l : List UInt8) : Hp := Hp.ex fun v => Hp.all [Hp.blk b WT #[v, W], Hp.row U8 1 v l.length (l.map V8')]
section
variable {E w : World} {L : List Hp} {b : Nat} {W : Value} {l : List UInt8}
theorem Own.ofWriter (h : Own E w (Hp.writer b W l :: L)) : ∃ v, Own E w (Hp.blk b WT #[v, W] :: Hp.row U8 1 v l.length (l.map V8') :: L) := by
  obtain ⟨v, hv⟩ := Own.ex.1 h
  exact ⟨v, Own.star.1 hv⟩
theorem Own.toWriter {v : Value} (h : Own E w (Hp.blk b WT #[v, W] :: Hp.row U8 1 v l.length (l.map V8') :: L)) : Own E w (Hp.writer b W l :: L) :=
  Own.ex.2 ⟨v, Own.star.2 h⟩
end
section
variable {E : World} {L : List Hp}
theorem newwriter_any (w : World) (h : Own E w L) :
    Calls Tryz.prog 112 #[] w fun e w' => ∃ b, e = .returned (.pointer (some ⟨b, 0, none⟩)) ∧ Own E w' (Hp.writer b .nilIface [] :: L) := by
  go_enter Tryz.func112, Tryz.ntmps112
  go_wp2_with fail
  go_ret
  exact ⟨_, rfl, Own.toWriter ((h.nilRow U8 1).alloc (.cells #[.slice none 0 0, Value.nilIface] WT))⟩
theorem raw_any (b : Nat) (W : Value) (l : List UInt8) (s : ByteArray) (w : World) (hs : l.length + s.size ≤ 140737488355328) (h : Own E w (Hp.writer b W l :: L)) :
    Calls Tryz.prog 113 #[.pointer (some ⟨b, 0, none⟩), .string s] w fun e w' => e = .returned (.tuple #[]) ∧ Own E w' (Hp.writer b W (l ++ s.data.toList) :: L) := by
  obtain ⟨v, h1⟩ := h.ofWriter
  have c0 : w.cell? ⟨b, 0, none⟩ = some v := h1.cell 0
  obtain ⟨v', w5, hap, h2, -⟩ := sl_append_string (P := Tryz.prog) (t := BT) (u := ST) (ty := BT) (e := U8) (by kernel_rfl) (by kernel_rfl) u8_info h1.f1 s hs
  obtain ⟨A', c', rfl⟩ := h2.rowSlice
  have d0 : w5.cell? ⟨b, 0, none⟩ = some v := h2.f1.cell 0
  have f0 := h2.f1.frozen 0
  have h3 : Own E (w5.setCell ⟨b, 0, none⟩ (.slice A' (l.length + s.size) c')) (Hp.blk b WT #[.slice A' (l.length + s.size) c', W] :: Hp.row U8 1 (.slice A' (l.length + s.size) c') (l.length + s.size) (l.map V8' ++ s.data.toList.map V8') :: L) := h2.f1.set 0 _
  have h4 : Own E (w5.setCell ⟨b, 0, none⟩ (.slice A' (l.length + s.size) c')) (Hp.writer b W (l ++ s.data.toList) :: L) := by
    refine Own.toWriter (v := .slice A' (l.length + s.size) c') ?_
    rw [List.length_append, List.map_append]
    exact h3
  have H4 := Lib.hid h4
  clear h h1 h2 h3 h4
  go_enter Tryz.func113, Tryz.ntmps113
  go_wp2_with (with_reducible refine at_slot (k := some 10) ?_; refine wpList_append_run (o := ⟨some 10, _, _, _, _, _⟩) hap rfl rfl rfl rfl ?_; clear hap)
  go_end0
  exact ⟨rfl, H4.out⟩
theorem wdone_any (b : Nat) (l : List UInt8) (w : World) (h : Own E w (Hp.writer b .nilIface l :: L)) :
    Calls Tryz.prog 114 #[.pointer (some ⟨b, 0, none⟩)] w fun e w' => e = .returned (.tuple #[.string ⟨l.toArray⟩, .int .i64 0]) ∧ Own E w' (Hp.writer b .nilIface l :: L) := by
  obtain ⟨v, h1⟩ := h.ofWriter
  have c0 : w.cell? ⟨b, 0, none⟩ = some v := h1.cell 0
  have c1 : w.cell? ⟨b, 1, none⟩ = some .nilIface := h1.cell 1
  have hst := h1.f1.rowString (P := Tryz.prog) (src := BT) (dst := ST) (e := U8) (by kernel_rfl) (by kernel_rfl) (by kernel_rfl)
  have H := Lib.hid h
  clear h h1
  go_enter Tryz.func114, Tryz.ntmps114
  go_wp2_with (with_reducible refine at_slot (k := some 18) ?_; refine wpList_conv_run (o := ⟨some 18, _, _, _, _, _⟩) hst rfl rfl rfl ?_; clear hst)
  go_ret2
  exact ⟨rfl, H.out⟩
end
end Go.Proofs.YtabibfabieghpaaGreatDoor
