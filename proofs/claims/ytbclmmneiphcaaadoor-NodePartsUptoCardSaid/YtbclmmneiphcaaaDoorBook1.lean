/- latchkeylaw10.copied, over, mark. -/
import Derived.Test.YtbclmmneiphcaaaDoorReps
namespace Go.Proofs.YtbclmmneiphcaaaDoor
open Go.RowKit
/-- A list that is written over by another one, as far as that goes. -/
def ovr {α : Type} (a b : List α) : List α := b.take a.length ++ a.drop b.length
theorem ovr_len {α : Type} (a b : List α) : (ovr a b).length = a.length := by
  unfold ovr
  rw [List.length_append, List.length_take, List.length_drop]; omega
def Nd.over (n o : Nd) : Nd := ⟨n.leaf, ovr n.ks o.ks, ovr n.vs o.vs, ovr n.ls o.ls⟩
theorem RdC.take {w : World} {A : Option Addr} {l : List Value} (h : RdC w A l) (k : Nat) : RdC w A (l.take k) := fun hne => by
  obtain ⟨ad, e, hc⟩ := h (by rintro rfl; exact hne (by simp))
  refine ⟨ad, e, fun j u hu => hc j u ?_⟩
  rw [List.getElem?_take] at hu
  split at hu
  · exact hu
  · cases hu
theorem splice_over {α : Type} (f : α → Value) (a b : List α) (R : List Value) : splice (a.map f ++ R) 0 ((b.take a.length).map f) = (ovr a b).map f ++ R := by
  unfold splice ovr
  have e1 : 0 + ((b.take a.length).map f).length ≤ (a.map f).length := by simp; omega
  rw [List.drop_append_of_le_length e1]
  have e2 : (a.map f).drop (0 + ((b.take a.length).map f).length) = (a.drop b.length).map f := by
    rw [← List.map_drop]
    congr 1
    by_cases hle : a.length ≤ b.length
    · rw [List.drop_eq_nil_of_le hle, List.drop_eq_nil_of_le]
      simp; omega
    · congr 1
      simp; omega
  rw [e2]
  simp
/-- mark: of the n-th list. -/
def markS (i : Nat) : ByteArray := ⟨#[109, 97, 114, 107, UInt8.ofNat i, UInt8.ofNat (i / 256)]⟩
section
variable {E : World} {S : Ph} {L : List Hp}
set_option maxRecDepth 100000 in
set_option maxHeartbeats 4000000 in
theorem mark_any (i : Nat) (w : World) (h : Own E w L) :
    Calls Tryd.prog 46 #[.int .i64 i] w fun e w' => e = .returned (.string (markS i)) ∧ Own E w' L := by
  have h2 := h.alloc (.cells #[.int .u8 (UInt8.ofNat i).toNat, .int .u8 (UInt8.ofNat (i / 256)).toNat] U8)
  have hrd : RdC (w.alloc (.cells #[.int .u8 (UInt8.ofNat i).toNat, .int .u8 (UInt8.ofNat (i / 256)).toNat] U8)) (some ⟨w.heap.size, 0, none⟩) ([UInt8.ofNat i, UInt8.ofNat (i / 256)].map V8') := RdC.of_block h2.at_ _ (fun j u hu => by simpa [V8'] using hu)
  have hcv := sl_to_string (P := Tryd.prog) (src := BT) (dst := ST) (e := U8) (by kernel_rfl) (by kernel_rfl) (by kernel_rfl) (some ⟨w.heap.size, 0, none⟩) [UInt8.ofNat i, UInt8.ofNat (i / 256)] 2 2 rfl hrd
  have e1 : IntKind.u8.wrap (i : Int) = ((UInt8.ofNat i).toNat : Int) := by
    rw [UInt8.toNat_ofNat']; simp [IntKind.wrap, IntKind.signed, IntKind.bits]
  have e2 : IntKind.u8.wrap ((i : Int) / 256) = ((UInt8.ofNat (i / 256)).toNat : Int) := by
    rw [UInt8.toNat_ofNat', show (i : Int) / 256 = ((i / 256 : Nat) : Int) by omega]; simp [IntKind.wrap, IntKind.signed, IntKind.bits]
  have e3 : (⟨#[109, 97, 114, 107]⟩ : ByteArray) ++ (⟨[UInt8.ofNat i, UInt8.ofNat (i / 256)].toArray⟩ : ByteArray) = markS i := by
    apply ByteArray.ext
    rw [ByteArray.data_append]; rfl
  have H2 := Lib.hid h2.drop
  have E3 := Lib.hid e3
  clear h h2 hrd e3
  go_enter Tryd.func46, Tryd.ntmps46
  go_wp2_with (with_reducible refine at_slot (k := some 9) ?_; refine wpList_conv_run (o := ⟨some 9, _, _, _, _, _⟩) hcv rfl rfl rfl ?_; clear hcv)
  go_ret
  exact ⟨congrArg (fun s => Ending.returned (.string s)) E3.out, H2.out⟩
set_option maxRecDepth 100000 in
set_option maxHeartbeats 4000000 in
theorem copied_any (v : Nv) (n : Nd) (w : World) (hb : n.bulk ≤ 4294967290) (hi : NdIn S v n) (h : Own E w (Hp.ro S :: L)) :
    Calls Tryd.prog 19 #[v.val n] w fun e w' => ∃ nv, e = .returned nv ∧ Own E w' (Hp.node nv n :: Hp.ro S :: L) := by
  obtain ⟨a1, c1, a2, c2, a3, c3⟩ := v
  obtain ⟨leaf, ks, vs, ls⟩ := n
  obtain ⟨l1, l2, l3⟩ : ks.length ≤ 4294967290 ∧ vs.length ≤ 4294967290 ∧ ls.length ≤ 4294967290 := by
    have : sumSz ks + sumSz vs + ks.length + vs.length + ls.length ≤ 4294967290 := hb
    omega
  obtain ⟨r1, r2, r3, -, -, -, -, -, -⟩ := hi
  dsimp only [Nv.val] at *
  have h1 : Own E _ (Hp.blk (w.heap.size + 1) NT #[.bool false, .slice none 0 0, .slice none 0 0, .slice none 0 0] :: Hp.blk w.heap.size NT #[.bool leaf, .slice a1 ks.length c1, .slice a2 vs.length c2, .slice a3 ls.length c3] :: Hp.ro S :: L) := h.alloc2 _ _
  obtain ⟨nt, hnt, hnr⟩ := nt_u
  obtain ⟨g, hg⟩ : ∃ g, g = w.heap.size := ⟨_, rfl⟩
  rw [← hg] at h1
  have H1 := Lib.hid h1
  clear h h1 hb
  go_enter Tryd.func19, Tryd.ntmps19
  go_upto_region 1 with fail
  rw [← hg]
  clear hg
  have h := H1.out
  generalize World.alloc _ _ = wa at h ⊢
  clear H1
  first | have h := (h : Own _ _ (Hp.blk g NT _ :: _)) | have h := (h.f1 : Own _ _ (Hp.blk g NT _ :: _)) | have h := (h.f2 : Own _ _ (Hp.blk g NT _ :: _)) | have h := (h.f3 : Own _ _ (Hp.blk g NT _ :: _)) | have h := (h.f4 : Own _ _ (Hp.blk g NT _ :: _)) | have h := (h.f5 : Own _ _ (Hp.blk g NT _ :: _)) | have h := (h.f6 : Own _ _ (Hp.blk g NT _ :: _)) | have h := (h.f7 : Own _ _ (Hp.blk g NT _ :: _)) | have h := (h.f8 : Own _ _ (Hp.blk g NT _ :: _)) | have h := (h.f9 : Own _ _ (Hp.blk g NT _ :: _)) | have h := (h.f10 : Own _ _ (Hp.blk g NT _ :: _)) | have h := (h.f11 : Own _ _ (Hp.blk g NT _ :: _)) | have h := (h.f12 : Own _ _ (Hp.blk g NT _ :: _)) | have h := (h.f13 : Own _ _ (Hp.blk g NT _ :: _)) | have h := (h.f14 : Own _ _ (Hp.blk g NT _ :: _)) | have h := (h.f15 : Own _ _ (Hp.blk g NT _ :: _))
  have e1 := h.cell 1
  first | have h := (h : Own _ _ (Hp.ro S :: _)) | have h := (h.f1 : Own _ _ (Hp.ro S :: _)) | have h := (h.f2 : Own _ _ (Hp.ro S :: _)) | have h := (h.f3 : Own _ _ (Hp.ro S :: _)) | have h := (h.f4 : Own _ _ (Hp.ro S :: _)) | have h := (h.f5 : Own _ _ (Hp.ro S :: _)) | have h := (h.f6 : Own _ _ (Hp.ro S :: _)) | have h := (h.f7 : Own _ _ (Hp.ro S :: _)) | have h := (h.f8 : Own _ _ (Hp.ro S :: _)) | have h := (h.f9 : Own _ _ (Hp.ro S :: _)) | have h := (h.f10 : Own _ _ (Hp.ro S :: _)) | have h := (h.f11 : Own _ _ (Hp.ro S :: _)) | have h := (h.f12 : Own _ _ (Hp.ro S :: _)) | have h := (h.f13 : Own _ _ (Hp.ro S :: _)) | have h := (h.f14 : Own _ _ (Hp.ro S :: _)) | have h := (h.f15 : Own _ _ (Hp.ro S :: _))
  have hrd := Rds.rdC r1 h
  obtain ⟨v6, wi, hap1, h⟩ := lst_append (P := Tryd.prog) (t := LST) (ty := LST) lst_u st_info (by rfl) (h.emptyLst ST none) a1 ks.length c1 (ks.map VS) (List.length_map _) hrd (VS_one _) (by unfold maxLen; simp; omega) (by simp; omega)
  rw [List.nil_append] at h
  obtain ⟨A28, c28, rfl, -⟩ := h.lstSlice
  rw [List.length_map] at h hap1
  first | have h := (h : Own _ _ (Hp.blk g NT _ :: _)) | have h := (h.f1 : Own _ _ (Hp.blk g NT _ :: _)) | have h := (h.f2 : Own _ _ (Hp.blk g NT _ :: _)) | have h := (h.f3 : Own _ _ (Hp.blk g NT _ :: _)) | have h := (h.f4 : Own _ _ (Hp.blk g NT _ :: _)) | have h := (h.f5 : Own _ _ (Hp.blk g NT _ :: _)) | have h := (h.f6 : Own _ _ (Hp.blk g NT _ :: _)) | have h := (h.f7 : Own _ _ (Hp.blk g NT _ :: _)) | have h := (h.f8 : Own _ _ (Hp.blk g NT _ :: _)) | have h := (h.f9 : Own _ _ (Hp.blk g NT _ :: _)) | have h := (h.f10 : Own _ _ (Hp.blk g NT _ :: _)) | have h := (h.f11 : Own _ _ (Hp.blk g NT _ :: _)) | have h := (h.f12 : Own _ _ (Hp.blk g NT _ :: _)) | have h := (h.f13 : Own _ _ (Hp.blk g NT _ :: _)) | have h := (h.f14 : Own _ _ (Hp.blk g NT _ :: _)) | have h := (h.f15 : Own _ _ (Hp.blk g NT _ :: _))
  have x1 := h.cell 1
  have y1 := h.frozen 1
  have h := h.set 1 (.slice A28 ks.length c28)
  clear hrd
  first | have h := (h : Own _ _ (Hp.blk g NT _ :: _)) | have h := (h.f1 : Own _ _ (Hp.blk g NT _ :: _)) | have h := (h.f2 : Own _ _ (Hp.blk g NT _ :: _)) | have h := (h.f3 : Own _ _ (Hp.blk g NT _ :: _)) | have h := (h.f4 : Own _ _ (Hp.blk g NT _ :: _)) | have h := (h.f5 : Own _ _ (Hp.blk g NT _ :: _)) | have h := (h.f6 : Own _ _ (Hp.blk g NT _ :: _)) | have h := (h.f7 : Own _ _ (Hp.blk g NT _ :: _)) | have h := (h.f8 : Own _ _ (Hp.blk g NT _ :: _)) | have h := (h.f9 : Own _ _ (Hp.blk g NT _ :: _)) | have h := (h.f10 : Own _ _ (Hp.blk g NT _ :: _)) | have h := (h.f11 : Own _ _ (Hp.blk g NT _ :: _)) | have h := (h.f12 : Own _ _ (Hp.blk g NT _ :: _)) | have h := (h.f13 : Own _ _ (Hp.blk g NT _ :: _)) | have h := (h.f14 : Own _ _ (Hp.blk g NT _ :: _)) | have h := (h.f15 : Own _ _ (Hp.blk g NT _ :: _))
  have e2 := h.cell 2
  first | have h := (h : Own _ _ (Hp.ro S :: _)) | have h := (h.f1 : Own _ _ (Hp.ro S :: _)) | have h := (h.f2 : Own _ _ (Hp.ro S :: _)) | have h := (h.f3 : Own _ _ (Hp.ro S :: _)) | have h := (h.f4 : Own _ _ (Hp.ro S :: _)) | have h := (h.f5 : Own _ _ (Hp.ro S :: _)) | have h := (h.f6 : Own _ _ (Hp.ro S :: _)) | have h := (h.f7 : Own _ _ (Hp.ro S :: _)) | have h := (h.f8 : Own _ _ (Hp.ro S :: _)) | have h := (h.f9 : Own _ _ (Hp.ro S :: _)) | have h := (h.f10 : Own _ _ (Hp.ro S :: _)) | have h := (h.f11 : Own _ _ (Hp.ro S :: _)) | have h := (h.f12 : Own _ _ (Hp.ro S :: _)) | have h := (h.f13 : Own _ _ (Hp.ro S :: _)) | have h := (h.f14 : Own _ _ (Hp.ro S :: _)) | have h := (h.f15 : Own _ _ (Hp.ro S :: _))
  have hrd := Rds.rdC r2 h
  obtain ⟨v6, wj, hap2, h⟩ := lst_append (P := Tryd.prog) (t := LST) (ty := LST) lst_u st_info (by rfl) (h.emptyLst ST none) a2 vs.length c2 (vs.map VS) (List.length_map _) hrd (VS_one _) (by unfold maxLen; simp; omega) (by simp; omega)
  rw [List.nil_append] at h
  obtain ⟨A29, c29, rfl, -⟩ := h.lstSlice
  rw [List.length_map] at h hap2
  first | have h := (h : Own _ _ (Hp.blk g NT _ :: _)) | have h := (h.f1 : Own _ _ (Hp.blk g NT _ :: _)) | have h := (h.f2 : Own _ _ (Hp.blk g NT _ :: _)) | have h := (h.f3 : Own _ _ (Hp.blk g NT _ :: _)) | have h := (h.f4 : Own _ _ (Hp.blk g NT _ :: _)) | have h := (h.f5 : Own _ _ (Hp.blk g NT _ :: _)) | have h := (h.f6 : Own _ _ (Hp.blk g NT _ :: _)) | have h := (h.f7 : Own _ _ (Hp.blk g NT _ :: _)) | have h := (h.f8 : Own _ _ (Hp.blk g NT _ :: _)) | have h := (h.f9 : Own _ _ (Hp.blk g NT _ :: _)) | have h := (h.f10 : Own _ _ (Hp.blk g NT _ :: _)) | have h := (h.f11 : Own _ _ (Hp.blk g NT _ :: _)) | have h := (h.f12 : Own _ _ (Hp.blk g NT _ :: _)) | have h := (h.f13 : Own _ _ (Hp.blk g NT _ :: _)) | have h := (h.f14 : Own _ _ (Hp.blk g NT _ :: _)) | have h := (h.f15 : Own _ _ (Hp.blk g NT _ :: _))
  have x2 := h.cell 2
  have y2 := h.frozen 2
  have h := h.set 2 (.slice A29 vs.length c29)
  clear hrd
  first | have h := (h : Own _ _ (Hp.blk g NT _ :: _)) | have h := (h.f1 : Own _ _ (Hp.blk g NT _ :: _)) | have h := (h.f2 : Own _ _ (Hp.blk g NT _ :: _)) | have h := (h.f3 : Own _ _ (Hp.blk g NT _ :: _)) | have h := (h.f4 : Own _ _ (Hp.blk g NT _ :: _)) | have h := (h.f5 : Own _ _ (Hp.blk g NT _ :: _)) | have h := (h.f6 : Own _ _ (Hp.blk g NT _ :: _)) | have h := (h.f7 : Own _ _ (Hp.blk g NT _ :: _)) | have h := (h.f8 : Own _ _ (Hp.blk g NT _ :: _)) | have h := (h.f9 : Own _ _ (Hp.blk g NT _ :: _)) | have h := (h.f10 : Own _ _ (Hp.blk g NT _ :: _)) | have h := (h.f11 : Own _ _ (Hp.blk g NT _ :: _)) | have h := (h.f12 : Own _ _ (Hp.blk g NT _ :: _)) | have h := (h.f13 : Own _ _ (Hp.blk g NT _ :: _)) | have h := (h.f14 : Own _ _ (Hp.blk g NT _ :: _)) | have h := (h.f15 : Own _ _ (Hp.blk g NT _ :: _))
  have e3 := h.cell 3
  first | have h := (h : Own _ _ (Hp.ro S :: _)) | have h := (h.f1 : Own _ _ (Hp.ro S :: _)) | have h := (h.f2 : Own _ _ (Hp.ro S :: _)) | have h := (h.f3 : Own _ _ (Hp.ro S :: _)) | have h := (h.f4 : Own _ _ (Hp.ro S :: _)) | have h := (h.f5 : Own _ _ (Hp.ro S :: _)) | have h := (h.f6 : Own _ _ (Hp.ro S :: _)) | have h := (h.f7 : Own _ _ (Hp.ro S :: _)) | have h := (h.f8 : Own _ _ (Hp.ro S :: _)) | have h := (h.f9 : Own _ _ (Hp.ro S :: _)) | have h := (h.f10 : Own _ _ (Hp.ro S :: _)) | have h := (h.f11 : Own _ _ (Hp.ro S :: _)) | have h := (h.f12 : Own _ _ (Hp.ro S :: _)) | have h := (h.f13 : Own _ _ (Hp.ro S :: _)) | have h := (h.f14 : Own _ _ (Hp.ro S :: _)) | have h := (h.f15 : Own _ _ (Hp.ro S :: _))
  have hrd := Rds.rdC r3 h
  obtain ⟨v6, wk, hap3, h⟩ := lst_append (P := Tryd.prog) (t := LIT) (ty := LIT) lit_u it_info (by rfl) (h.emptyLst IT none) a3 ls.length c3 (ls.map VI) (List.length_map _) hrd (VI_one _) (by unfold maxLen; simp; omega) (by simp; omega)
  rw [List.nil_append] at h
  obtain ⟨A30, c30, rfl, -⟩ := h.lstSlice
  rw [List.length_map] at h hap3
  first | have h := (h : Own _ _ (Hp.blk g NT _ :: _)) | have h := (h.f1 : Own _ _ (Hp.blk g NT _ :: _)) | have h := (h.f2 : Own _ _ (Hp.blk g NT _ :: _)) | have h := (h.f3 : Own _ _ (Hp.blk g NT _ :: _)) | have h := (h.f4 : Own _ _ (Hp.blk g NT _ :: _)) | have h := (h.f5 : Own _ _ (Hp.blk g NT _ :: _)) | have h := (h.f6 : Own _ _ (Hp.blk g NT _ :: _)) | have h := (h.f7 : Own _ _ (Hp.blk g NT _ :: _)) | have h := (h.f8 : Own _ _ (Hp.blk g NT _ :: _)) | have h := (h.f9 : Own _ _ (Hp.blk g NT _ :: _)) | have h := (h.f10 : Own _ _ (Hp.blk g NT _ :: _)) | have h := (h.f11 : Own _ _ (Hp.blk g NT _ :: _)) | have h := (h.f12 : Own _ _ (Hp.blk g NT _ :: _)) | have h := (h.f13 : Own _ _ (Hp.blk g NT _ :: _)) | have h := (h.f14 : Own _ _ (Hp.blk g NT _ :: _)) | have h := (h.f15 : Own _ _ (Hp.blk g NT _ :: _))
  have x3 := h.cell 3
  have y3 := h.frozen 3
  have h := h.set 3 (.slice A30 ls.length c30)
  clear hrd
  have z0 := h.cell 0
  have z1 := h.cell 1
  have z2 := h.cell 2
  have z3 := h.cell 3
  first | have h := (h : Own _ _ (Hp.blk (g + 1) NT _ :: _)) | have h := (h.f1 : Own _ _ (Hp.blk (g + 1) NT _ :: _)) | have h := (h.f2 : Own _ _ (Hp.blk (g + 1) NT _ :: _)) | have h := (h.f3 : Own _ _ (Hp.blk (g + 1) NT _ :: _)) | have h := (h.f4 : Own _ _ (Hp.blk (g + 1) NT _ :: _)) | have h := (h.f5 : Own _ _ (Hp.blk (g + 1) NT _ :: _)) | have h := (h.f6 : Own _ _ (Hp.blk (g + 1) NT _ :: _)) | have h := (h.f7 : Own _ _ (Hp.blk (g + 1) NT _ :: _)) | have h := (h.f8 : Own _ _ (Hp.blk (g + 1) NT _ :: _)) | have h := (h.f9 : Own _ _ (Hp.blk (g + 1) NT _ :: _)) | have h := (h.f10 : Own _ _ (Hp.blk (g + 1) NT _ :: _)) | have h := (h.f11 : Own _ _ (Hp.blk (g + 1) NT _ :: _)) | have h := (h.f12 : Own _ _ (Hp.blk (g + 1) NT _ :: _)) | have h := (h.f13 : Own _ _ (Hp.blk (g + 1) NT _ :: _)) | have h := (h.f14 : Own _ _ (Hp.blk (g + 1) NT _ :: _)) | have h := (h.f15 : Own _ _ (Hp.blk (g + 1) NT _ :: _))
  have H := Lib.hid h
  clear h
  go_wp2_with (first | (with_reducible refine at_slot (k := some 9) ?_; refine wpList_append_run (o := ⟨some 9, _, _, _, _, _⟩) hap1 rfl rfl rfl rfl ?_; clear hap1) | (with_reducible refine at_slot (k := some 14) ?_; refine wpList_append_run (o := ⟨some 14, _, _, _, _, _⟩) hap2 rfl rfl rfl rfl ?_; clear hap2) | (with_reducible refine at_slot (k := some 19) ?_; refine wpList_append_run (o := ⟨some 19, _, _, _, _, _⟩) hap3 rfl rfl rfl rfl ?_; clear hap3) | (with_reducible refine at_slot (k := none) ?_; refine wpList_store_whole (o := ⟨none, _, _, _, _, _⟩) (cs := [.bool false, .slice none 0 0, .slice none 0 0, .slice none 0 0]) (vs := [.bool leaf, .slice A28 ks.length c28, .slice A29 vs.length c29, .slice A30 ls.length c30]) H.out rfl (ND_all1 _ _ _ _ rfl rfl rfl) (by kernel_rfl) rfl rfl rfl rfl ?_; intro w7 h))
  refine bodyPost_ret (results_arr rfl rfl h hnt hnr (by kernel_rfl)) rfl ?_
  refine ⟨_, rfl, ?_⟩
  have h := h.drop
  first | have h := (h : Own _ _ (Hp.blk g NT _ :: _)) | have h := (h.f1 : Own _ _ (Hp.blk g NT _ :: _)) | have h := (h.f2 : Own _ _ (Hp.blk g NT _ :: _)) | have h := (h.f3 : Own _ _ (Hp.blk g NT _ :: _)) | have h := (h.f4 : Own _ _ (Hp.blk g NT _ :: _)) | have h := (h.f5 : Own _ _ (Hp.blk g NT _ :: _)) | have h := (h.f6 : Own _ _ (Hp.blk g NT _ :: _)) | have h := (h.f7 : Own _ _ (Hp.blk g NT _ :: _)) | have h := (h.f8 : Own _ _ (Hp.blk g NT _ :: _)) | have h := (h.f9 : Own _ _ (Hp.blk g NT _ :: _)) | have h := (h.f10 : Own _ _ (Hp.blk g NT _ :: _)) | have h := (h.f11 : Own _ _ (Hp.blk g NT _ :: _)) | have h := (h.f12 : Own _ _ (Hp.blk g NT _ :: _)) | have h := (h.f13 : Own _ _ (Hp.blk g NT _ :: _)) | have h := (h.f14 : Own _ _ (Hp.blk g NT _ :: _)) | have h := (h.f15 : Own _ _ (Hp.blk g NT _ :: _))
  have h := h.drop
  first | have h := (h : Own _ _ (Hp.ints (.slice A30 ls.length c30) ls :: _)) | have h := (h.f1 : Own _ _ (Hp.ints (.slice A30 ls.length c30) ls :: _)) | have h := (h.f2 : Own _ _ (Hp.ints (.slice A30 ls.length c30) ls :: _)) | have h := (h.f3 : Own _ _ (Hp.ints (.slice A30 ls.length c30) ls :: _)) | have h := (h.f4 : Own _ _ (Hp.ints (.slice A30 ls.length c30) ls :: _)) | have h := (h.f5 : Own _ _ (Hp.ints (.slice A30 ls.length c30) ls :: _)) | have h := (h.f6 : Own _ _ (Hp.ints (.slice A30 ls.length c30) ls :: _)) | have h := (h.f7 : Own _ _ (Hp.ints (.slice A30 ls.length c30) ls :: _)) | have h := (h.f8 : Own _ _ (Hp.ints (.slice A30 ls.length c30) ls :: _)) | have h := (h.f9 : Own _ _ (Hp.ints (.slice A30 ls.length c30) ls :: _)) | have h := (h.f10 : Own _ _ (Hp.ints (.slice A30 ls.length c30) ls :: _)) | have h := (h.f11 : Own _ _ (Hp.ints (.slice A30 ls.length c30) ls :: _)) | have h := (h.f12 : Own _ _ (Hp.ints (.slice A30 ls.length c30) ls :: _)) | have h := (h.f13 : Own _ _ (Hp.ints (.slice A30 ls.length c30) ls :: _)) | have h := (h.f14 : Own _ _ (Hp.ints (.slice A30 ls.length c30) ls :: _)) | have h := (h.f15 : Own _ _ (Hp.ints (.slice A30 ls.length c30) ls :: _))
  first | have h := (h : Own _ _ (Hp.strs (.slice A29 vs.length c29) vs :: _)) | have h := (h.f1 : Own _ _ (Hp.strs (.slice A29 vs.length c29) vs :: _)) | have h := (h.f2 : Own _ _ (Hp.strs (.slice A29 vs.length c29) vs :: _)) | have h := (h.f3 : Own _ _ (Hp.strs (.slice A29 vs.length c29) vs :: _)) | have h := (h.f4 : Own _ _ (Hp.strs (.slice A29 vs.length c29) vs :: _)) | have h := (h.f5 : Own _ _ (Hp.strs (.slice A29 vs.length c29) vs :: _)) | have h := (h.f6 : Own _ _ (Hp.strs (.slice A29 vs.length c29) vs :: _)) | have h := (h.f7 : Own _ _ (Hp.strs (.slice A29 vs.length c29) vs :: _)) | have h := (h.f8 : Own _ _ (Hp.strs (.slice A29 vs.length c29) vs :: _)) | have h := (h.f9 : Own _ _ (Hp.strs (.slice A29 vs.length c29) vs :: _)) | have h := (h.f10 : Own _ _ (Hp.strs (.slice A29 vs.length c29) vs :: _)) | have h := (h.f11 : Own _ _ (Hp.strs (.slice A29 vs.length c29) vs :: _)) | have h := (h.f12 : Own _ _ (Hp.strs (.slice A29 vs.length c29) vs :: _)) | have h := (h.f13 : Own _ _ (Hp.strs (.slice A29 vs.length c29) vs :: _)) | have h := (h.f14 : Own _ _ (Hp.strs (.slice A29 vs.length c29) vs :: _)) | have h := (h.f15 : Own _ _ (Hp.strs (.slice A29 vs.length c29) vs :: _))
  first | have h := (h : Own _ _ (Hp.strs (.slice A28 ks.length c28) ks :: _)) | have h := (h.f1 : Own _ _ (Hp.strs (.slice A28 ks.length c28) ks :: _)) | have h := (h.f2 : Own _ _ (Hp.strs (.slice A28 ks.length c28) ks :: _)) | have h := (h.f3 : Own _ _ (Hp.strs (.slice A28 ks.length c28) ks :: _)) | have h := (h.f4 : Own _ _ (Hp.strs (.slice A28 ks.length c28) ks :: _)) | have h := (h.f5 : Own _ _ (Hp.strs (.slice A28 ks.length c28) ks :: _)) | have h := (h.f6 : Own _ _ (Hp.strs (.slice A28 ks.length c28) ks :: _)) | have h := (h.f7 : Own _ _ (Hp.strs (.slice A28 ks.length c28) ks :: _)) | have h := (h.f8 : Own _ _ (Hp.strs (.slice A28 ks.length c28) ks :: _)) | have h := (h.f9 : Own _ _ (Hp.strs (.slice A28 ks.length c28) ks :: _)) | have h := (h.f10 : Own _ _ (Hp.strs (.slice A28 ks.length c28) ks :: _)) | have h := (h.f11 : Own _ _ (Hp.strs (.slice A28 ks.length c28) ks :: _)) | have h := (h.f12 : Own _ _ (Hp.strs (.slice A28 ks.length c28) ks :: _)) | have h := (h.f13 : Own _ _ (Hp.strs (.slice A28 ks.length c28) ks :: _)) | have h := (h.f14 : Own _ _ (Hp.strs (.slice A28 ks.length c28) ks :: _)) | have h := (h.f15 : Own _ _ (Hp.strs (.slice A28 ks.length c28) ks :: _))
  exact Own.toNode (n := ⟨leaf, ks, vs, ls⟩) h
set_option maxRecDepth 100000 in
set_option maxHeartbeats 4000000 in
theorem over_any (gk gv gl : Nat) (n : Nd) (u : Nv) (o : Nd) (w : World) (hb : n.bulk ≤ 4294967290) (hb2 : o.bulk ≤ 4294967290) (hi : NdIn S u o) (h : Own E w (Hp.three gk gv gl n :: Hp.ro S :: L)) :
    Calls Tryd.prog 18 #[(lentV gk gv gl n).val n, u.val o] w fun e w' => e = .returned (.tuple #[]) ∧ Own E w' (Hp.three gk gv gl (n.over o) :: Hp.ro S :: L) := by
  obtain ⟨b1, d1, b2, d2, b3, d3⟩ := u
  obtain ⟨leaf, ks, vs, ls⟩ := n
  obtain ⟨leaf2, ks2, vs2, ls2⟩ := o
  obtain ⟨l1, l2, l3⟩ : ks.length ≤ 4294967290 ∧ vs.length ≤ 4294967290 ∧ ls.length ≤ 4294967290 := by
    have : sumSz ks + sumSz vs + ks.length + vs.length + ls.length ≤ 4294967290 := hb
    omega
  obtain ⟨m1, m2, m3⟩ : ks2.length ≤ 4294967290 ∧ vs2.length ≤ 4294967290 ∧ ls2.length ≤ 4294967290 := by
    have : sumSz ks2 + sumSz vs2 + ks2.length + vs2.length + ls2.length ≤ 4294967290 := hb2
    omega
  obtain ⟨r1, r2, r3, -, -, -, -, -, -⟩ := hi
  dsimp only [Nv.val, Hp.three, lentV, Nd.over] at *
  have h := Own.star.1 h
  have h1 : Own E _ (Hp.blk (w.heap.size + 1) NT #[.bool leaf2, .slice b1 ks2.length d1, .slice b2 vs2.length d2, .slice b3 ls2.length d3] :: Hp.blk w.heap.size NT #[.bool leaf, .slice (some ⟨gk, 0, none⟩) ks.length (ks.length + 4), .slice (some ⟨gv, 0, none⟩) vs.length (vs.length + 4), .slice (some ⟨gl, 0, none⟩) ls.length (ls.length + 4)] :: Hp.blk gk ST (lentS ks).toArray :: Hp.blk gv ST (lentS vs).toArray :: Hp.blk gl IT (lentI ls).toArray :: Hp.ro S :: L) := h.alloc2 _ _
  obtain ⟨g, hg⟩ : ∃ g, g = w.heap.size := ⟨_, rfl⟩
  rw [← hg] at h1
  have H1 := Lib.hid h1
  clear h h1 hb hb2
  go_enter Tryd.func18, Tryd.ntmps18
  go_upto_region 1 with fail
  rw [← hg]
  clear hg
  have h := H1.out
  generalize World.alloc _ _ = wa at h ⊢
  clear H1
  first | have h := (h : Own _ _ (Hp.blk g NT _ :: _)) | have h := (h.f1 : Own _ _ (Hp.blk g NT _ :: _)) | have h := (h.f2 : Own _ _ (Hp.blk g NT _ :: _)) | have h := (h.f3 : Own _ _ (Hp.blk g NT _ :: _)) | have h := (h.f4 : Own _ _ (Hp.blk g NT _ :: _)) | have h := (h.f5 : Own _ _ (Hp.blk g NT _ :: _)) | have h := (h.f6 : Own _ _ (Hp.blk g NT _ :: _)) | have h := (h.f7 : Own _ _ (Hp.blk g NT _ :: _)) | have h := (h.f8 : Own _ _ (Hp.blk g NT _ :: _)) | have h := (h.f9 : Own _ _ (Hp.blk g NT _ :: _)) | have h := (h.f10 : Own _ _ (Hp.blk g NT _ :: _)) | have h := (h.f11 : Own _ _ (Hp.blk g NT _ :: _)) | have h := (h.f12 : Own _ _ (Hp.blk g NT _ :: _)) | have h := (h.f13 : Own _ _ (Hp.blk g NT _ :: _)) | have h := (h.f14 : Own _ _ (Hp.blk g NT _ :: _)) | have h := (h.f15 : Own _ _ (Hp.blk g NT _ :: _))
  have e1 := h.cell 1
  first | have h := (h : Own _ _ (Hp.blk (g + 1) NT _ :: _)) | have h := (h.f1 : Own _ _ (Hp.blk (g + 1) NT _ :: _)) | have h := (h.f2 : Own _ _ (Hp.blk (g + 1) NT _ :: _)) | have h := (h.f3 : Own _ _ (Hp.blk (g + 1) NT _ :: _)) | have h := (h.f4 : Own _ _ (Hp.blk (g + 1) NT _ :: _)) | have h := (h.f5 : Own _ _ (Hp.blk (g + 1) NT _ :: _)) | have h := (h.f6 : Own _ _ (Hp.blk (g + 1) NT _ :: _)) | have h := (h.f7 : Own _ _ (Hp.blk (g + 1) NT _ :: _)) | have h := (h.f8 : Own _ _ (Hp.blk (g + 1) NT _ :: _)) | have h := (h.f9 : Own _ _ (Hp.blk (g + 1) NT _ :: _)) | have h := (h.f10 : Own _ _ (Hp.blk (g + 1) NT _ :: _)) | have h := (h.f11 : Own _ _ (Hp.blk (g + 1) NT _ :: _)) | have h := (h.f12 : Own _ _ (Hp.blk (g + 1) NT _ :: _)) | have h := (h.f13 : Own _ _ (Hp.blk (g + 1) NT _ :: _)) | have h := (h.f14 : Own _ _ (Hp.blk (g + 1) NT _ :: _)) | have h := (h.f15 : Own _ _ (Hp.blk (g + 1) NT _ :: _))
  have f1 := h.cell 1
  first | have h := (h : Own _ _ (Hp.ro S :: _)) | have h := (h.f1 : Own _ _ (Hp.ro S :: _)) | have h := (h.f2 : Own _ _ (Hp.ro S :: _)) | have h := (h.f3 : Own _ _ (Hp.ro S :: _)) | have h := (h.f4 : Own _ _ (Hp.ro S :: _)) | have h := (h.f5 : Own _ _ (Hp.ro S :: _)) | have h := (h.f6 : Own _ _ (Hp.ro S :: _)) | have h := (h.f7 : Own _ _ (Hp.ro S :: _)) | have h := (h.f8 : Own _ _ (Hp.ro S :: _)) | have h := (h.f9 : Own _ _ (Hp.ro S :: _)) | have h := (h.f10 : Own _ _ (Hp.ro S :: _)) | have h := (h.f11 : Own _ _ (Hp.ro S :: _)) | have h := (h.f12 : Own _ _ (Hp.ro S :: _)) | have h := (h.f13 : Own _ _ (Hp.ro S :: _)) | have h := (h.f14 : Own _ _ (Hp.ro S :: _)) | have h := (h.f15 : Own _ _ (Hp.ro S :: _))
  have hrd := (Rds.rdC r1 h).take ks.length
  rw [← List.map_take] at hrd
  first | have h := (h : Own _ _ (Hp.blk gk ST _ :: _)) | have h := (h.f1 : Own _ _ (Hp.blk gk ST _ :: _)) | have h := (h.f2 : Own _ _ (Hp.blk gk ST _ :: _)) | have h := (h.f3 : Own _ _ (Hp.blk gk ST _ :: _)) | have h := (h.f4 : Own _ _ (Hp.blk gk ST _ :: _)) | have h := (h.f5 : Own _ _ (Hp.blk gk ST _ :: _)) | have h := (h.f6 : Own _ _ (Hp.blk gk ST _ :: _)) | have h := (h.f7 : Own _ _ (Hp.blk gk ST _ :: _)) | have h := (h.f8 : Own _ _ (Hp.blk gk ST _ :: _)) | have h := (h.f9 : Own _ _ (Hp.blk gk ST _ :: _)) | have h := (h.f10 : Own _ _ (Hp.blk gk ST _ :: _)) | have h := (h.f11 : Own _ _ (Hp.blk gk ST _ :: _)) | have h := (h.f12 : Own _ _ (Hp.blk gk ST _ :: _)) | have h := (h.f13 : Own _ _ (Hp.blk gk ST _ :: _)) | have h := (h.f14 : Own _ _ (Hp.blk gk ST _ :: _)) | have h := (h.f15 : Own _ _ (Hp.blk gk ST _ :: _))
  obtain ⟨wi, hcp1, h⟩ := sl_copy (P := Tryd.prog) (dT := LST) (sT := LST) (ty := IT) (elem := ST) lst_u (by kernel_rfl) (off := 0) h (some ⟨gk, 0, none⟩) b1 ks.length (ks.length + 4) ks2.length d1 ((ks2.take ks.length).map VS) (by rw [List.length_map, List.length_take]; exact Nat.min_comm _ _) (fun _ => rfl) hrd (by simp; omega) (VS_one _)
  have e0 : splice (ks.map VS ++ List.replicate 4 (VS tSpare)) 0 ((ks2.take ks.length).map VS) = lentS (ovr ks ks2) := splice_over VS ks ks2 _
  rw [e0] at h
  clear hrd e0
  first | have h := (h : Own _ _ (Hp.blk g NT _ :: _)) | have h := (h.f1 : Own _ _ (Hp.blk g NT _ :: _)) | have h := (h.f2 : Own _ _ (Hp.blk g NT _ :: _)) | have h := (h.f3 : Own _ _ (Hp.blk g NT _ :: _)) | have h := (h.f4 : Own _ _ (Hp.blk g NT _ :: _)) | have h := (h.f5 : Own _ _ (Hp.blk g NT _ :: _)) | have h := (h.f6 : Own _ _ (Hp.blk g NT _ :: _)) | have h := (h.f7 : Own _ _ (Hp.blk g NT _ :: _)) | have h := (h.f8 : Own _ _ (Hp.blk g NT _ :: _)) | have h := (h.f9 : Own _ _ (Hp.blk g NT _ :: _)) | have h := (h.f10 : Own _ _ (Hp.blk g NT _ :: _)) | have h := (h.f11 : Own _ _ (Hp.blk g NT _ :: _)) | have h := (h.f12 : Own _ _ (Hp.blk g NT _ :: _)) | have h := (h.f13 : Own _ _ (Hp.blk g NT _ :: _)) | have h := (h.f14 : Own _ _ (Hp.blk g NT _ :: _)) | have h := (h.f15 : Own _ _ (Hp.blk g NT _ :: _))
  have e2 := h.cell 2
  first | have h := (h : Own _ _ (Hp.blk (g + 1) NT _ :: _)) | have h := (h.f1 : Own _ _ (Hp.blk (g + 1) NT _ :: _)) | have h := (h.f2 : Own _ _ (Hp.blk (g + 1) NT _ :: _)) | have h := (h.f3 : Own _ _ (Hp.blk (g + 1) NT _ :: _)) | have h := (h.f4 : Own _ _ (Hp.blk (g + 1) NT _ :: _)) | have h := (h.f5 : Own _ _ (Hp.blk (g + 1) NT _ :: _)) | have h := (h.f6 : Own _ _ (Hp.blk (g + 1) NT _ :: _)) | have h := (h.f7 : Own _ _ (Hp.blk (g + 1) NT _ :: _)) | have h := (h.f8 : Own _ _ (Hp.blk (g + 1) NT _ :: _)) | have h := (h.f9 : Own _ _ (Hp.blk (g + 1) NT _ :: _)) | have h := (h.f10 : Own _ _ (Hp.blk (g + 1) NT _ :: _)) | have h := (h.f11 : Own _ _ (Hp.blk (g + 1) NT _ :: _)) | have h := (h.f12 : Own _ _ (Hp.blk (g + 1) NT _ :: _)) | have h := (h.f13 : Own _ _ (Hp.blk (g + 1) NT _ :: _)) | have h := (h.f14 : Own _ _ (Hp.blk (g + 1) NT _ :: _)) | have h := (h.f15 : Own _ _ (Hp.blk (g + 1) NT _ :: _))
  have f2 := h.cell 2
  first | have h := (h : Own _ _ (Hp.ro S :: _)) | have h := (h.f1 : Own _ _ (Hp.ro S :: _)) | have h := (h.f2 : Own _ _ (Hp.ro S :: _)) | have h := (h.f3 : Own _ _ (Hp.ro S :: _)) | have h := (h.f4 : Own _ _ (Hp.ro S :: _)) | have h := (h.f5 : Own _ _ (Hp.ro S :: _)) | have h := (h.f6 : Own _ _ (Hp.ro S :: _)) | have h := (h.f7 : Own _ _ (Hp.ro S :: _)) | have h := (h.f8 : Own _ _ (Hp.ro S :: _)) | have h := (h.f9 : Own _ _ (Hp.ro S :: _)) | have h := (h.f10 : Own _ _ (Hp.ro S :: _)) | have h := (h.f11 : Own _ _ (Hp.ro S :: _)) | have h := (h.f12 : Own _ _ (Hp.ro S :: _)) | have h := (h.f13 : Own _ _ (Hp.ro S :: _)) | have h := (h.f14 : Own _ _ (Hp.ro S :: _)) | have h := (h.f15 : Own _ _ (Hp.ro S :: _))
  have hrd := (Rds.rdC r2 h).take vs.length
  rw [← List.map_take] at hrd
  first | have h := (h : Own _ _ (Hp.blk gv ST _ :: _)) | have h := (h.f1 : Own _ _ (Hp.blk gv ST _ :: _)) | have h := (h.f2 : Own _ _ (Hp.blk gv ST _ :: _)) | have h := (h.f3 : Own _ _ (Hp.blk gv ST _ :: _)) | have h := (h.f4 : Own _ _ (Hp.blk gv ST _ :: _)) | have h := (h.f5 : Own _ _ (Hp.blk gv ST _ :: _)) | have h := (h.f6 : Own _ _ (Hp.blk gv ST _ :: _)) | have h := (h.f7 : Own _ _ (Hp.blk gv ST _ :: _)) | have h := (h.f8 : Own _ _ (Hp.blk gv ST _ :: _)) | have h := (h.f9 : Own _ _ (Hp.blk gv ST _ :: _)) | have h := (h.f10 : Own _ _ (Hp.blk gv ST _ :: _)) | have h := (h.f11 : Own _ _ (Hp.blk gv ST _ :: _)) | have h := (h.f12 : Own _ _ (Hp.blk gv ST _ :: _)) | have h := (h.f13 : Own _ _ (Hp.blk gv ST _ :: _)) | have h := (h.f14 : Own _ _ (Hp.blk gv ST _ :: _)) | have h := (h.f15 : Own _ _ (Hp.blk gv ST _ :: _))
  obtain ⟨wj, hcp2, h⟩ := sl_copy (P := Tryd.prog) (dT := LST) (sT := LST) (ty := IT) (elem := ST) lst_u (by kernel_rfl) (off := 0) h (some ⟨gv, 0, none⟩) b2 vs.length (vs.length + 4) vs2.length d2 ((vs2.take vs.length).map VS) (by rw [List.length_map, List.length_take]; exact Nat.min_comm _ _) (fun _ => rfl) hrd (by simp; omega) (VS_one _)
  have e0 : splice (vs.map VS ++ List.replicate 4 (VS tSpare)) 0 ((vs2.take vs.length).map VS) = lentS (ovr vs vs2) := splice_over VS vs vs2 _
  rw [e0] at h
  clear hrd e0
  first | have h := (h : Own _ _ (Hp.blk g NT _ :: _)) | have h := (h.f1 : Own _ _ (Hp.blk g NT _ :: _)) | have h := (h.f2 : Own _ _ (Hp.blk g NT _ :: _)) | have h := (h.f3 : Own _ _ (Hp.blk g NT _ :: _)) | have h := (h.f4 : Own _ _ (Hp.blk g NT _ :: _)) | have h := (h.f5 : Own _ _ (Hp.blk g NT _ :: _)) | have h := (h.f6 : Own _ _ (Hp.blk g NT _ :: _)) | have h := (h.f7 : Own _ _ (Hp.blk g NT _ :: _)) | have h := (h.f8 : Own _ _ (Hp.blk g NT _ :: _)) | have h := (h.f9 : Own _ _ (Hp.blk g NT _ :: _)) | have h := (h.f10 : Own _ _ (Hp.blk g NT _ :: _)) | have h := (h.f11 : Own _ _ (Hp.blk g NT _ :: _)) | have h := (h.f12 : Own _ _ (Hp.blk g NT _ :: _)) | have h := (h.f13 : Own _ _ (Hp.blk g NT _ :: _)) | have h := (h.f14 : Own _ _ (Hp.blk g NT _ :: _)) | have h := (h.f15 : Own _ _ (Hp.blk g NT _ :: _))
  have e3 := h.cell 3
  first | have h := (h : Own _ _ (Hp.blk (g + 1) NT _ :: _)) | have h := (h.f1 : Own _ _ (Hp.blk (g + 1) NT _ :: _)) | have h := (h.f2 : Own _ _ (Hp.blk (g + 1) NT _ :: _)) | have h := (h.f3 : Own _ _ (Hp.blk (g + 1) NT _ :: _)) | have h := (h.f4 : Own _ _ (Hp.blk (g + 1) NT _ :: _)) | have h := (h.f5 : Own _ _ (Hp.blk (g + 1) NT _ :: _)) | have h := (h.f6 : Own _ _ (Hp.blk (g + 1) NT _ :: _)) | have h := (h.f7 : Own _ _ (Hp.blk (g + 1) NT _ :: _)) | have h := (h.f8 : Own _ _ (Hp.blk (g + 1) NT _ :: _)) | have h := (h.f9 : Own _ _ (Hp.blk (g + 1) NT _ :: _)) | have h := (h.f10 : Own _ _ (Hp.blk (g + 1) NT _ :: _)) | have h := (h.f11 : Own _ _ (Hp.blk (g + 1) NT _ :: _)) | have h := (h.f12 : Own _ _ (Hp.blk (g + 1) NT _ :: _)) | have h := (h.f13 : Own _ _ (Hp.blk (g + 1) NT _ :: _)) | have h := (h.f14 : Own _ _ (Hp.blk (g + 1) NT _ :: _)) | have h := (h.f15 : Own _ _ (Hp.blk (g + 1) NT _ :: _))
  have f3 := h.cell 3
  first | have h := (h : Own _ _ (Hp.ro S :: _)) | have h := (h.f1 : Own _ _ (Hp.ro S :: _)) | have h := (h.f2 : Own _ _ (Hp.ro S :: _)) | have h := (h.f3 : Own _ _ (Hp.ro S :: _)) | have h := (h.f4 : Own _ _ (Hp.ro S :: _)) | have h := (h.f5 : Own _ _ (Hp.ro S :: _)) | have h := (h.f6 : Own _ _ (Hp.ro S :: _)) | have h := (h.f7 : Own _ _ (Hp.ro S :: _)) | have h := (h.f8 : Own _ _ (Hp.ro S :: _)) | have h := (h.f9 : Own _ _ (Hp.ro S :: _)) | have h := (h.f10 : Own _ _ (Hp.ro S :: _)) | have h := (h.f11 : Own _ _ (Hp.ro S :: _)) | have h := (h.f12 : Own _ _ (Hp.ro S :: _)) | have h := (h.f13 : Own _ _ (Hp.ro S :: _)) | have h := (h.f14 : Own _ _ (Hp.ro S :: _)) | have h := (h.f15 : Own _ _ (Hp.ro S :: _))
  have hrd := (Rds.rdC r3 h).take ls.length
  rw [← List.map_take] at hrd
  first | have h := (h : Own _ _ (Hp.blk gl IT _ :: _)) | have h := (h.f1 : Own _ _ (Hp.blk gl IT _ :: _)) | have h := (h.f2 : Own _ _ (Hp.blk gl IT _ :: _)) | have h := (h.f3 : Own _ _ (Hp.blk gl IT _ :: _)) | have h := (h.f4 : Own _ _ (Hp.blk gl IT _ :: _)) | have h := (h.f5 : Own _ _ (Hp.blk gl IT _ :: _)) | have h := (h.f6 : Own _ _ (Hp.blk gl IT _ :: _)) | have h := (h.f7 : Own _ _ (Hp.blk gl IT _ :: _)) | have h := (h.f8 : Own _ _ (Hp.blk gl IT _ :: _)) | have h := (h.f9 : Own _ _ (Hp.blk gl IT _ :: _)) | have h := (h.f10 : Own _ _ (Hp.blk gl IT _ :: _)) | have h := (h.f11 : Own _ _ (Hp.blk gl IT _ :: _)) | have h := (h.f12 : Own _ _ (Hp.blk gl IT _ :: _)) | have h := (h.f13 : Own _ _ (Hp.blk gl IT _ :: _)) | have h := (h.f14 : Own _ _ (Hp.blk gl IT _ :: _)) | have h := (h.f15 : Own _ _ (Hp.blk gl IT _ :: _))
  obtain ⟨wk, hcp3, h⟩ := sl_copy (P := Tryd.prog) (dT := LIT) (sT := LIT) (ty := IT) (elem := IT) lit_u (by kernel_rfl) (off := 0) h (some ⟨gl, 0, none⟩) b3 ls.length (ls.length + 4) ls2.length d3 ((ls2.take ls.length).map VI) (by rw [List.length_map, List.length_take]; exact Nat.min_comm _ _) (fun _ => rfl) hrd (by simp; omega) (VI_one _)
  have e0 : splice (ls.map VI ++ List.replicate 4 (VI (-77))) 0 ((ls2.take ls.length).map VI) = lentI (ovr ls ls2) := splice_over VI ls ls2 _
  rw [e0] at h
  clear hrd e0
  have H := Lib.hid h
  clear h r1 r2 r3
  go_wp2_with (first | (with_reducible refine at_slot (k := some 8) ?_; refine wpList_copy_run (o := ⟨some 8, _, _, _, _, _⟩) hcp1 rfl rfl rfl rfl ?_; clear hcp1) | (with_reducible refine at_slot (k := some 13) ?_; refine wpList_copy_run (o := ⟨some 13, _, _, _, _, _⟩) hcp2 rfl rfl rfl rfl ?_; clear hcp2) | (with_reducible refine at_slot (k := some 18) ?_; refine wpList_copy_run (o := ⟨some 18, _, _, _, _, _⟩) hcp3 rfl rfl rfl rfl ?_; clear hcp3))
  go_end0
  refine ⟨rfl, ?_⟩
  have h := H.out
  first | have h := (h : Own _ _ (Hp.blk g NT _ :: _)) | have h := (h.f1 : Own _ _ (Hp.blk g NT _ :: _)) | have h := (h.f2 : Own _ _ (Hp.blk g NT _ :: _)) | have h := (h.f3 : Own _ _ (Hp.blk g NT _ :: _)) | have h := (h.f4 : Own _ _ (Hp.blk g NT _ :: _)) | have h := (h.f5 : Own _ _ (Hp.blk g NT _ :: _)) | have h := (h.f6 : Own _ _ (Hp.blk g NT _ :: _)) | have h := (h.f7 : Own _ _ (Hp.blk g NT _ :: _)) | have h := (h.f8 : Own _ _ (Hp.blk g NT _ :: _)) | have h := (h.f9 : Own _ _ (Hp.blk g NT _ :: _)) | have h := (h.f10 : Own _ _ (Hp.blk g NT _ :: _)) | have h := (h.f11 : Own _ _ (Hp.blk g NT _ :: _)) | have h := (h.f12 : Own _ _ (Hp.blk g NT _ :: _)) | have h := (h.f13 : Own _ _ (Hp.blk g NT _ :: _)) | have h := (h.f14 : Own _ _ (Hp.blk g NT _ :: _)) | have h := (h.f15 : Own _ _ (Hp.blk g NT _ :: _))
  have h := h.drop
  first | have h := (h : Own _ _ (Hp.blk (g + 1) NT _ :: _)) | have h := (h.f1 : Own _ _ (Hp.blk (g + 1) NT _ :: _)) | have h := (h.f2 : Own _ _ (Hp.blk (g + 1) NT _ :: _)) | have h := (h.f3 : Own _ _ (Hp.blk (g + 1) NT _ :: _)) | have h := (h.f4 : Own _ _ (Hp.blk (g + 1) NT _ :: _)) | have h := (h.f5 : Own _ _ (Hp.blk (g + 1) NT _ :: _)) | have h := (h.f6 : Own _ _ (Hp.blk (g + 1) NT _ :: _)) | have h := (h.f7 : Own _ _ (Hp.blk (g + 1) NT _ :: _)) | have h := (h.f8 : Own _ _ (Hp.blk (g + 1) NT _ :: _)) | have h := (h.f9 : Own _ _ (Hp.blk (g + 1) NT _ :: _)) | have h := (h.f10 : Own _ _ (Hp.blk (g + 1) NT _ :: _)) | have h := (h.f11 : Own _ _ (Hp.blk (g + 1) NT _ :: _)) | have h := (h.f12 : Own _ _ (Hp.blk (g + 1) NT _ :: _)) | have h := (h.f13 : Own _ _ (Hp.blk (g + 1) NT _ :: _)) | have h := (h.f14 : Own _ _ (Hp.blk (g + 1) NT _ :: _)) | have h := (h.f15 : Own _ _ (Hp.blk (g + 1) NT _ :: _))
  have h := h.drop
  exact Own.star.2 (h.ac (M := [Hp.blk gk ST (lentS (ovr ks ks2)).toArray, Hp.blk gv ST (lentS (ovr vs vs2)).toArray, Hp.blk gl IT (lentI (ovr ls ls2)).toArray] ++ Hp.ro S :: L) (by simp only [Hp.all, List.cons_append, List.nil_append] <;> ac_rfl))
end
end Go.Proofs.YtbclmmneiphcaaaDoor
