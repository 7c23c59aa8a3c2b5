/- hash.schedule. -/
import Derived.Test.YtilcilbmbhbakaaDoorSha
import Derived.Test.YtilcilbmbhbakaaDoorOps
import Derived.Deep.RegionHeld3
import Derived.Deep.DeepCutAuto
import Derived.Deep.DrawnRows
namespace Go.Proofs.YtilcilbmbhbakaaDoor
open Go.RowKit
attribute [local go_sem] vb_xor vb_and vb_or vb_of8 vb_add vb_not vb_shl8 vb_shr3 vb_shr10
attribute [local go_sem ↓] Go.wp_at_zero Go.wp_at_succ
abbrev A64 : TypeId := 104
abbrev B64 : TypeId := 80
def part (b : List UInt8) (t j : Nat) : Array Value := ((Sha.wds b t).map V32 ++ V32 (Sha.wd ((b.drop (4 * t)).take j)) :: (List.replicate (63 - t) (0 : BitVec 32)).map V32).toArray
theorem part_zero (b : List UInt8) (t : Nat) (ht : t < 64) : Sha.cells (Sha.pad64 (Sha.wds b t)) = part b t 0 := by
  unfold Sha.cells Sha.pad64 part
  have e : 64 - (Sha.wds b t).length = (63 - t) + 1 := by rw [Sha.wds_length]; omega
  rw [e, List.replicate_succ]
  simp [Sha.wd]
theorem part_four (b : List UInt8) (t : Nat) : part b t 4 = Sha.cells (Sha.pad64 (Sha.wds b (t + 1))) := by
  unfold Sha.cells Sha.pad64 part
  have e : 64 - (Sha.wds b (t + 1)).length = 63 - t := by rw [Sha.wds_length]; omega
  rw [e, Sha.wds_succ]
  simp
theorem part_set (b : List UInt8) (t j : Nat) (c : UInt8) (hc : b[4 * t + j]? = some c) :
    (part b t j).setIfInBounds t (V32 (Sha.wd ((b.drop (4 * t)).take j) <<< 8 ||| c.toBitVec.setWidth 32)) = part b t (j + 1) := by
  unfold part
  rw [set_mid _ _ _ _ _ (by simp [Sha.wds_length])]
  have : (b.drop (4 * t)).take (j + 1) = (b.drop (4 * t)).take j ++ [c] := by
    rw [List.take_add_one, List.getElem?_drop, hc]; rfl
  rw [this, Sha.wd_snoc]
theorem part_get (b : List UInt8) (t j : Nat) : (part b t j)[t]? = some (V32 (Sha.wd ((b.drop (4 * t)).take j))) := get_mid _ _ _ _ (by simp [Sha.wds_length])
theorem bytes_get (b : List UInt8) (i : Nat) (h : i < b.length) : (Sha.bytes b)[i]? = some (V8 b[i]) := by simp [Sha.bytes, h]

theorem V32_one (l : List (BitVec 32)) : ∀ v ∈ l.map V32, v.oneCell' = true := by
  intro v hv
  obtain ⟨z, _, rfl⟩ := List.mem_map.1 hv
  rfl
theorem V8_one (l : List UInt8) : ∀ v ∈ l.map V8, v.oneCell' = true := by
  intro v hv
  obtain ⟨z, _, rfl⟩ := List.mem_map.1 hv
  rfl
theorem sliceAt_bytes (g t : Nat) (ht : t < 16) (w : World) : (Instr.sliceAt B64 (.pointer (some ⟨g, 0, none⟩)) (some (.int .i64 (4 * (t : Int)))) (some (.int .i64 (4 * (t : Int) + 4))) none).run Tryd.prog w = .ok (.slice (some ⟨g, 4 * t, none⟩) 4 (64 - 4 * t)) w := by
  have hlen : (Tryd.prog).arrayLen B64 = 64 := by kernel_rfl
  have hel : (Tryd.prog).elem B64 = U8 := by kernel_rfl
  have hu : (Tryd.prog).underlying B64 = some (.array ((Tryd.prog).arrayLen B64) ((Tryd.prog).elem B64)) := by rw [hlen, hel]; kernel_rfl
  rw [run_sliceAt_array_lh w B64 ⟨g, 0, none⟩ hu .i64 .i64 _ _ (by omega) (by omega) (by rw [hlen]; omega), hel, hlen]
  have hs : (sizeOf U8).run Tryd.prog w = .ok 1 w := by kernel_rfl
  rw [hs]
  have e1 : (4 * (t : Int)).toNat = 4 * t := by omega
  have e2 : (4 * (t : Int) + 4).toNat = 4 * t + 4 := by omega
  simp only [Result.andThen_ok, slicedAt, e1, e2]
  rw [if_neg (by omega), add_eq]
  have e3 : 4 * t + 4 - 4 * t = 4 := by omega
  simp [e3]
theorem sched_start {E w : World} {L : List Hp} {bs : Array Value} (h : Own E w L) (b : List UInt8) (z : Array Value) (hz : z = Sha.cells (List.replicate 64 0)) :
    Own E (((w.alloc (.cells bs B64)).alloc (.cells z A64)).alloc (.cells z A64)) (Hp.blk (w.heap.size + 1 + 1) A64 (Sha.cells (Sha.pad64 (Sha.wds b 0))) :: Hp.blk (w.heap.size + 1) A64 (Sha.cells (List.replicate 64 0)) :: Hp.blk w.heap.size B64 bs :: L) := by
  subst hz
  have h1 := ((h.alloc (.cells bs B64)).alloc (.cells (Sha.cells (List.replicate 64 0)) A64)).alloc (.cells (Sha.cells (List.replicate 64 0)) A64)
  simpa [Hp.blk, Sha.pad64, Sha.wds] using h1

theorem ext_len (b : List UInt8) (t : Nat) : (Sha.ext (Sha.wds b 16) t).length = t + 16 := by rw [Sha.ext_length, Sha.wds_length]; omega
theorem extw_get {E w : World} {L : List Hp} {g : Nat} (b : List UInt8) (t j : Nat) (hj : j < 16) (h : Own E w (Hp.blk g A64 (Sha.cells (Sha.pad64 (Sha.ext (Sha.wds b 16) t))) :: L)) :
    w.cell? ⟨g, t + j, none⟩ = some (V32 ((Sha.ext (Sha.wds b 16) t).getD (t + j) 0)) := by
  rw [h.cell]
  have hl : t + j < (Sha.ext (Sha.wds b 16) t).length := by rw [ext_len]; omega
  simp [Sha.cells, Sha.pad64, List.getElem?_append_left, hl]
theorem extw_at {E w : World} {L : List Hp} {g : Nat} (b : List UInt8) (t : Nat) (ht : t < 48) (h : Own E w (Hp.blk g A64 (Sha.cells (Sha.pad64 (Sha.ext (Sha.wds b 16) t))) :: L)) :
    w.cell? ⟨g, t + 16, none⟩ = some (V32 0) := by
  rw [h.cell]
  have hl := ext_len b t
  have e : 64 - (Sha.ext (Sha.wds b 16) t).length = (47 - t) + 1 := by rw [hl]; omega
  simp only [Sha.cells, Sha.pad64, e, List.replicate_succ, List.map_append, List.map_cons]
  exact get_mid _ _ _ _ (by simp [hl])
theorem extw_set {E w : World} {L : List Hp} {g : Nat} (b : List UInt8) (t : Nat) (ht : t < 48) (h : Own E w (Hp.blk g A64 (Sha.cells (Sha.pad64 (Sha.ext (Sha.wds b 16) t))) :: L)) :
    Own E (w.setCell ⟨g, t + 16, none⟩ (V32 ((Sha.ext (Sha.wds b 16) t).getD (t + 0) 0 + Sha.sig0 ((Sha.ext (Sha.wds b 16) t).getD (t + 1) 0) + (Sha.ext (Sha.wds b 16) t).getD (t + 9) 0 + Sha.sig1 ((Sha.ext (Sha.wds b 16) t).getD (t + 14) 0))))
      (Hp.blk g A64 (Sha.cells (Sha.pad64 (Sha.ext (Sha.wds b 16) (t + 1)))) :: L) := by
  have h1 := h.set (t + 16) (V32 (Sha.next (Sha.ext (Sha.wds b 16) t)))
  have hl := ext_len b t
  have e : 64 - (Sha.ext (Sha.wds b 16) t).length = (47 - t) + 1 := by rw [hl]; omega
  have e2 : (Sha.cells (Sha.pad64 (Sha.ext (Sha.wds b 16) t))).setIfInBounds (t + 16) (V32 (Sha.next (Sha.ext (Sha.wds b 16) t))) = Sha.cells (Sha.pad64 (Sha.ext (Sha.wds b 16) (t + 1))) := by
    have e3 : 64 - (Sha.ext (Sha.wds b 16) (t + 1)).length = 47 - t := by rw [ext_len]; omega
    simp only [Sha.cells, Sha.pad64, e, e3, List.replicate_succ, List.map_append, List.map_cons]
    rw [set_mid _ _ _ _ _ (by simp [hl])]
    simp [Sha.ext]
  rw [e2] at h1
  have e4 : Sha.next (Sha.ext (Sha.wds b 16) t) = (Sha.ext (Sha.wds b 16) t).getD (t + 0) 0 + Sha.sig0 ((Sha.ext (Sha.wds b 16) t).getD (t + 1) 0) + (Sha.ext (Sha.wds b 16) t).getD (t + 9) 0 + Sha.sig1 ((Sha.ext (Sha.wds b 16) t).getD (t + 14) 0) := by
    unfold Sha.next
    rw [hl]
    have a1 : t + 16 - 16 = t + 0 := by omega
    have a2 : t + 16 - 15 = t + 1 := by omega
    have a3 : t + 16 - 7 = t + 9 := by omega
    have a4 : t + 16 - 2 = t + 14 := by omega
    rw [a1, a2, a3, a4]
  rw [e4] at h1
  exact h1

set_option maxHeartbeats 1000000 in
theorem sched_any {E : World} {L : List Hp} (b : List UInt8) (hb : b.length = 64) (w : World) (h : Own E w L) :
    Calls Tryd.prog 68 #[.agg (Sha.bytes b)] w fun e w' => e = .returned (.agg (Sha.cells (Sha.sched b))) ∧ Own E w' L := by
  obtain ⟨bs, hbs⟩ : ∃ bs, bs = Sha.bytes b := ⟨_, rfl⟩
  rw [← hbs]
  have HB := Lib.hid hb
  have H := Lib.hid hbs
  clear hbs hb
  go_enter Tryd.func68, Tryd.ntmps68
  go_wp2_with fail
  go_loopw [12] (fun i wr => ∃ t : Nat, t ≤ 16 ∧ i = .int .i64 t ∧ Own E wr (Hp.blk (w.heap.size + 1 + 1) A64 (Sha.cells (Sha.pad64 (Sha.wds b t))) :: Hp.blk (w.heap.size + 1) A64 (Sha.cells (List.replicate 64 0)) :: Hp.blk w.heap.size B64 bs :: L)) (fun i _ => 16 - (intOf i).toNat)
  case atStart => exact ⟨0, by omega, rfl, sched_start h b _ (by kernel_rfl)⟩
  case round =>
    obtain ⟨t, ht, rfl, hw⟩ := hrel
    clear h
    by_cases hlt : t < 16
    · have e1 : (0 : Int) ≤ 4 * (t : Int) := by omega
      have e2 : (4 * (t : Int)) + 4 ≤ 64 := by omega
      rw [part_zero b t (by omega)] at hw
      have hsl := fun W => sliceAt_bytes w.heap.size t hlt W
      go_wp2_with fail
      clear hsl
      go_loopw [22] (fun i wr => ∃ j : Nat, j ≤ 4 ∧ i = .int .i64 j ∧ Own E wr (Hp.blk (w.heap.size + 1 + 1) A64 (part b t j) :: Hp.blk (w.heap.size + 1) A64 (Sha.cells (List.replicate 64 0)) :: Hp.blk w.heap.size B64 bs :: L)) (fun i _ => 4 - (intOf i).toNat)
      case atStart => exact ⟨0, by omega, rfl, hw⟩
      case round =>
        obtain ⟨j, hj, rfl, hv⟩ := hrel
        clear hw
        by_cases hlt2 : j < 4
        · have hc : b[4 * t + j]? = some (b[4 * t + j]'(by rw [HB.out]; omega)) := List.getElem?_eq_getElem _
          have c1 := hv.f2.cell (4 * t + j)
          rw [H.out, bytes_get b _ (by rw [HB.out]; omega)] at c1
          have c2 := hv.cell t
          rw [part_get] at c2
          have f2 := hv.frozen t
          have hs := Lib.hid (hv.set t (V32 (Sha.wd ((b.drop (4 * t)).take j) <<< 8 ||| (b[4 * t + j]'(by rw [HB.out]; omega)).toBitVec.setWidth 32)))
          have HP := Lib.hid (part_set b t j _ hc)
          clear hv hc
          generalize Sha.wd ((b.drop (4 * t)).take j) = x at *
          generalize (b[4 * t + j]'(by rw [HB.out]; omega)) = c at *
          go_wp2_with fail
          go_roundw
          case rel => exact ⟨j + 1, by omega, by go_num, by rw [← HP.out]; exact hs.out⟩
          case measure => simp [intOf]; omega
        · obtain rfl : j = 4 := by omega
          rw [part_four] at hv
          have HV := Lib.hid hv
          clear hv
          go_wp2_with fail
          go_roundw
          case rel => exact ⟨t + 1, by omega, by go_num, HV.out⟩
          case measure => simp [intOf]; omega
    · obtain rfl : t = 16 := by omega
      go_wp2_with fail
      go_loopw [7] (fun i wr => ∃ k : Nat, 16 ≤ k ∧ k ≤ 64 ∧ i = .int .i64 k ∧ Own E wr (Hp.blk (w.heap.size + 1 + 1) A64 (Sha.cells (Sha.pad64 (Sha.ext (Sha.wds b 16) (k - 16)))) :: Hp.blk (w.heap.size + 1) A64 (Sha.cells (List.replicate 64 0)) :: Hp.blk w.heap.size B64 bs :: L)) (fun i _ => 64 - (intOf i).toNat)
      case atStart => exact ⟨16, by omega, by omega, rfl, hw⟩
      case round =>
        obtain ⟨k, hk1, hk2, rfl, hv⟩ := hrel
        clear hw
        by_cases hlt2 : k < 64
        · have c1 := extw_get b (k - 16) 1 (by omega) hv
          have c2 := extw_get b (k - 16) 14 (by omega) hv
          have c3 := extw_get b (k - 16) 0 (by omega) hv
          have c4 := extw_get b (k - 16) 9 (by omega) hv
          have c5 := extw_at b (k - 16) (by omega) hv
          have f5 := hv.frozen (k - 16 + 16)
          have HS := extw_set b (k - 16) (by omega) hv
          have a1 : k - 16 + 1 = k - 15 := by omega
          have a2 : k - 16 + 14 = k - 2 := by omega
          have a3 : k - 16 + 0 = k - 16 := by omega
          have a4 : k - 16 + 9 = k - 7 := by omega
          have a5 : k - 16 + 16 = k := by omega
          have a6 : k - 16 + 1 = k + 1 - 16 := by omega
          rw [a5] at f5 c5
          rw [a2] at c2
          rw [a3] at c3
          rw [a4] at c4
          rw [a1] at c1
          rw [a5, a2, a3, a4, a1] at HS
          clear hv a1 a2 a3 a4 a5 a6
          generalize (Sha.ext (Sha.wds b 16) (k - 16)).getD (k - 15) 0 = x1 at *
          generalize (Sha.ext (Sha.wds b 16) (k - 16)).getD (k - 2) 0 = x2 at *
          generalize (Sha.ext (Sha.wds b 16) (k - 16)).getD (k - 16) 0 = x3 at *
          generalize (Sha.ext (Sha.wds b 16) (k - 16)).getD (k - 7) 0 = x4 at *
          have HS2 := Lib.hid HS
          clear HS
          have i1 : (0 : Int) ≤ (k : Int) - 15 := by omega
          have i9 : (15 : Int) ≤ (k : Int) := by omega
          have i10 : (2 : Int) ≤ (k : Int) := by omega
          have i2 : (k : Int) - 15 < 64 := by omega
          have i3 : (0 : Int) ≤ (k : Int) - 2 := by omega
          have i4 : (k : Int) - 2 < 64 := by omega
          have i5 : ((k : Int) - 15).toNat = k - 15 := by omega
          have i6 : ((k : Int) - 2).toNat = k - 2 := by omega
          have i7 : IntKind.i64.wrap ((k : Int) - 15) = (k : Int) - 15 := IntWalk.i64_in _ (by omega)
          have i8 : IntKind.i64.wrap ((k : Int) - 2) = (k : Int) - 2 := IntWalk.i64_in _ (by omega)
          go_wp2_with fail
          go_region_held3 (fun w' => w'.cell? ⟨w.heap.size + 1 + 1, k - 15, none⟩ = some (V32 x1) ∧ w'.cell? ⟨w.heap.size + 1 + 1, k - 2, none⟩ = some (V32 x2)) (go_keep) (fail)
          clear i1 i2 i3 i4 i5 i6 i7 i8 i9 i10
          go_wp2_with fail
          refine (Turn.at7 x1 _).mono ?_
          rintro e w1 ⟨rfl, rfl⟩
          go_wp2_with fail
          refine (Turn.at18 x1 _).mono ?_
          rintro e w1 ⟨rfl, rfl⟩
          go_wp2_with fail
          refine (Turn.at17 x2 _).mono ?_
          rintro e w1 ⟨rfl, rfl⟩
          go_wp2_with fail
          refine (Turn.at19 x2 _).mono ?_
          rintro e w1 ⟨rfl, rfl⟩
          go_wp2_with fail
          have i1 : (0 : Int) ≤ (k : Int) - 16 := by omega
          have i2 : (k : Int) - 16 < 64 := by omega
          have i3 : (0 : Int) ≤ (k : Int) - 7 := by omega
          have i4 : (k : Int) - 7 < 64 := by omega
          have i5 : ((k : Int) - 16).toNat = k - 16 := by omega
          have i6 : ((k : Int) - 7).toNat = k - 7 := by omega
          have i7 : IntKind.i64.wrap ((k : Int) - 16) = (k : Int) - 16 := IntWalk.i64_in _ (by omega)
          have i8 : IntKind.i64.wrap ((k : Int) - 7) = (k : Int) - 7 := IntWalk.i64_in _ (by omega)
          have i9 : (16 : Int) ≤ (k : Int) := by omega
          have i10 : (7 : Int) ≤ (k : Int) := by omega
          have i11 : (k : Int) < 64 := by omega
          have i12 : (0 : Int) ≤ (k : Int) := by omega
          have n1 : (⟨w.heap.size + 1 + 1, k - 16, none⟩ : Addr) ≠ ⟨w.heap.size + 1 + 1, k, none⟩ := by intro e; injection e; omega
          have n2 : (⟨w.heap.size + 1 + 1, k - 7, none⟩ : Addr) ≠ ⟨w.heap.size + 1 + 1, k, none⟩ := by intro e; injection e; omega
          have k3 : ∀ u, (wr.setCell ⟨w.heap.size + 1 + 1, k, none⟩ u).cell? ⟨w.heap.size + 1 + 1, k - 16, none⟩ = some (V32 x3) := fun u => (World.cell?_setCell_other wr _ _ u n1.symm).trans c3
          have k4 : ∀ u, (wr.setCell ⟨w.heap.size + 1 + 1, k, none⟩ u).cell? ⟨w.heap.size + 1 + 1, k - 7, none⟩ = some (V32 x4) := fun u => (World.cell?_setCell_other wr _ _ u n2.symm).trans c4
          go_region_held3 (fun w' => w'.cell? ⟨w.heap.size + 1 + 1, k - 16, none⟩ = some (V32 x3) ∧ w'.cell? ⟨w.heap.size + 1 + 1, k - 7, none⟩ = some (V32 x4)) (first | go_keep | (simp only [World.cell?_drew]; exact ⟨k3 _, k4 _⟩)) (fail)
          clear i1 i2 i3 i4 i5 i6 i7 i8 i9 i10 i11 i12 n1 n2 k3 k4
          go_wp2_with fail
          go_roundw
          case rel => (repeat apply Exists.intro); exact ⟨⟨k + 1, by omega, by omega, by go_num, by rw [show k + 1 - 16 = k - 15 by omega]; exact HS2.out⟩, rfl⟩
          case measure => simp [intOf]; omega
        · obtain rfl : k = 64 := by omega
          clear hlt hlt2
          have hv2 : Own E wr (Hp.blk (w.heap.size + 1 + 1) A64 ((Sha.sched b).map V32).toArray :: Hp.blk (w.heap.size + 1) A64 ((List.replicate 64 (0 : BitVec 32)).map V32).toArray :: Hp.blk w.heap.size B64 bs :: L) := by
            have e : Sha.pad64 (Sha.ext (Sha.wds b 16) (64 - 16)) = Sha.sched b := by
              unfold Sha.pad64
              have : 64 - (Sha.ext (Sha.wds b 16) (64 - 16)).length = 0 := by rw [ext_len]
              rw [this]; simp [Sha.sched]
            rw [e] at hv
            exact hv
          have HV := Lib.hid hv2
          clear hv hv2 HB H
          have hi : (Tryd.prog.info? A64).map (·.size) = some ((Sha.sched b).map V32).length := by rw [List.length_map, Sha.sched_length]; kernel_rfl
          have hfit : 0 + ((Sha.sched b).map V32).length ≤ ((List.replicate 64 (0 : BitVec 32)).map V32).toArray.size := by simp [Sha.sched_length]
          go_upto_region 18 with (fail)
          refine wp_region_list ?_
          refine wpList_load_arr HV.out 0 ((Sha.sched b).map V32) (fun j u hu => by simpa using hu) Tryd.underlying104 rfl hi rfl rfl rfl ?_
          refine wpList_store_arr HV.out.f1 0 ((Sha.sched b).map V32) hfit (V32_one _) hi rfl rfl rfl rfl ?_
          intro w9 h9
          rw [putArr_zero _ _ (by simp [Sha.sched_length])] at h9
          have H9 := Lib.hid h9
          clear h9
          go_wp2_with fail
          exact bodyPost_ret (results_arr Tryd.results68 rfl H9.out Tryd.underlying104 rfl hi) rfl ⟨rfl, H9.out.drop.drop.drop⟩
end Go.Proofs.YtilcilbmbhbakaaDoor
