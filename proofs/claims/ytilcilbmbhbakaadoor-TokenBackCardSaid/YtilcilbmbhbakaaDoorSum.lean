/- The hasher: Len, Copy, Sum. -/
import Derived.Test.YtilcilbmbhbakaaDoorHasher
import Derived.Test.YtilcilbmbhbakaaDoorBytes
import Derived.Deep.OwnRows
namespace Go.Proofs.YtilcilbmbhbakaaDoor
open Go.RowKit
def zcells : List Value := (List.replicate 72 (.int .u32 0)).take 8 ++ (List.replicate 64 (.int .u8 0) ++ [.int .i64 0])
theorem run_allocH (w : World) : (Instr.alloc HT true (.tuple #[])).run Tryd.prog w = .ok (.pointer (some ⟨w.heap.size, 0, none⟩)) (w.alloc (.cells zcells.toArray HT)) := by kernel_rfl
theorem hc_one (s : Sha.S8) (r : List UInt8) (n : Nat) : ∀ v ∈ hcells s r n, v.oneCell' = true := by
  intro v hv
  unfold hcells at hv
  rcases List.mem_append.1 hv with h | h
  · exact V32_one _ v h
  · rcases List.mem_append.1 h with h | h
    · exact V8_one _ v h
    · obtain rfl : v = .int .i64 n := by simpa using h
      rfl
theorem sizeH (s : Sha.S8) (r : List UInt8) (n : Nat) (h : r.length = 64) : (Tryd.prog.info? HT).map (·.size) = some (hcells s r n).length := by rw [hc_len _ _ _ h]; kernel_rfl
theorem len_fill (z : Nat) : ((List.replicate (1 + z + 8) (Value.int .u8 0)).toArray.setIfInBounds 0 (.int .u8 128)).toList.take ((1 + z) * 1) = ((128 : UInt8) :: List.replicate z 0).map V8' := by
  have e : 1 + z + 8 = (z + 8) + 1 := by omega
  rw [e, List.replicate_succ, Nat.mul_one, Nat.add_comm 1 z]
  simp [List.take_replicate]
theorem index_S (s : Sha.S8) (k : Nat) (hk : k < 8) (w : World) : (Instr.index S8T (.agg (SV s).toArray) (.int .i64 k)).run Tryd.prog w = .ok (V32 (s.list.getD k 0)) w := by
  rcases (by omega : k = 0 ∨ k = 1 ∨ k = 2 ∨ k = 3 ∨ k = 4 ∨ k = 5 ∨ k = 6 ∨ k = 7) with rfl | rfl | rfl | rfl | rfl | rfl | rfl | rfl <;> kernel_rfl
theorem tn_byte (x : BitVec 32) (s : Nat) (A : Int) (hA : A = ((2 ^ s : Nat) : Int)) : tn x / A % 256 = ((UInt8.ofBitVec ((x >>> s).setWidth 8)).toNat : Int) := by
  rw [vb_shr x s A hA]
  unfold tn
  simp
theorem tn_byte0 (x : BitVec 32) : tn x % 256 = ((UInt8.ofBitVec (x.setWidth 8)).toNat : Int) := by
  unfold tn
  simp
theorem add_word {E wr : World} {M : List Hp} {v : Value} {n : Nat} {l : List UInt8} (x : BitVec 32) (hn : n + 4 ≤ 1000000) (h : Own E wr (Hp.row U8 1 v n (l.map V8') :: M)) :
    ∃ v' w', (Builtin.append_ #[BT, BT] BT #[v, .slice (some ⟨wr.heap.size, 0, none⟩) 4 4]).run Tryd.prog (wr.alloc (.cells #[.int .u8 (tn x / 16777216 % 256), .int .u8 (tn x / 65536 % 256), .int .u8 (tn x / 256 % 256), .int .u8 (tn x % 256)] U8)) = .ok v' w' ∧
      Own E w' (Hp.row U8 1 v' (n + 4) ((l ++ Sha.four x).map V8') :: M) := by
  rw [tn_byte x 24 16777216 rfl, tn_byte x 16 65536 rfl, tn_byte x 8 256 rfl, tn_byte0]
  obtain ⟨v', w', h1, h2, _⟩ := sl_append_new (P := Tryd.prog) (ty := BT) (t := BT) (by kernel_rfl) u8_info rfl (by omega) h ((Sha.four x).map V8').toArray 4 rfl (by simpa using V8'_one (Sha.four x)) (by unfold maxLen; omega) (by omega)
  exact ⟨v', w', h1, by simpa using h2⟩
theorem byte_at (m : Nat) (hm : m ≤ 1152921504606846975) (s : Nat) (A : Int) (hA : A = ((2 ^ s : Nat) : Int)) : IntKind.u64.wrap (IntKind.u64.wrap m * 8) / A % 256 = ((UInt8.ofNat (8 * m / 2 ^ s)).toNat : Int) := by
  have e1 : IntKind.u64.wrap m = m := by rw [IntKind.wrap_u64]; omega
  have e2 : IntKind.u64.wrap (m * 8) = ((8 * m : Nat) : Int) := by rw [IntKind.wrap_u64]; omega
  rw [e1, e2, hA, ← Int.natCast_ediv]
  simp
theorem byte_at0 (m : Nat) (hm : m ≤ 1152921504606846975) : IntKind.u64.wrap (IntKind.u64.wrap m * 8) % 256 = ((UInt8.ofNat (8 * m / 2 ^ 0)).toNat : Int) := by
  have := byte_at m hm 0 1 rfl
  rw [Int.ediv_one] at this
  exact this
theorem add_byte {E wr : World} {M : List Hp} {v : Value} {n : Nat} {l : List UInt8} (V : Int) (x : UInt8) (hV : V = (x.toNat : Int)) (hn : n + 1 ≤ 1000000) (h : Own E wr (Hp.row U8 1 v n (l.map V8') :: M)) :
    ∃ v' w', (Builtin.append_ #[BT, BT] BT #[v, .slice (some ⟨wr.heap.size, 0, none⟩) 1 1]).run Tryd.prog (wr.alloc (.cells #[.int .u8 V] U8)) = .ok v' w' ∧ Own E w' (Hp.row U8 1 v' (n + 1) ((l ++ [x]).map V8') :: M) := by
  subst hV
  obtain ⟨v', w', h1, h2, _⟩ := sl_append_new (P := Tryd.prog) (ty := BT) (t := BT) (by kernel_rfl) u8_info rfl (by omega) h #[V8' x] 1 rfl (by intro u hu; rw [List.mem_singleton.1 hu]; rfl) (by unfold maxLen; omega) (by omega)
  exact ⟨v', w', h1, by simpa using h2⟩
theorem eight_take (N : Nat) : (Sha.eight N).take 1 = (Sha.eight N).take 0 ++ [UInt8.ofNat (N / 2 ^ 56)] ∧ (Sha.eight N).take 2 = (Sha.eight N).take 1 ++ [UInt8.ofNat (N / 2 ^ 48)] ∧
    (Sha.eight N).take 3 = (Sha.eight N).take 2 ++ [UInt8.ofNat (N / 2 ^ 40)] ∧ (Sha.eight N).take 4 = (Sha.eight N).take 3 ++ [UInt8.ofNat (N / 2 ^ 32)] ∧
    (Sha.eight N).take 5 = (Sha.eight N).take 4 ++ [UInt8.ofNat (N / 2 ^ 24)] ∧ (Sha.eight N).take 6 = (Sha.eight N).take 5 ++ [UInt8.ofNat (N / 2 ^ 16)] ∧
    (Sha.eight N).take 7 = (Sha.eight N).take 6 ++ [UInt8.ofNat (N / 2 ^ 8)] ∧ (Sha.eight N).take 8 = (Sha.eight N).take 7 ++ [UInt8.ofNat (N / 2 ^ 0)] := ⟨rfl, rfl, rfl, rfl, rfl, rfl, rfl, rfl⟩
set_option maxRecDepth 100000 in
set_option maxHeartbeats 1000000 in
theorem sum_any {E : World} {L : List Hp} (b : Nat) (t : List UInt8) (w : World) (hm : t.length ≤ 1152921504606846975) (h : Own E w (Hp.hasher b t :: L)) :
    Calls Tryd.prog 33 #[.pointer (some ⟨b, 0, none⟩)] w fun e w' => e = .returned (.string ⟨(Sha.sum t).toArray⟩) ∧ Own E w' (Hp.hasher b t :: L) := by
  obtain ⟨r, hr, hb⟩ := h.ofHasher
  obtain ⟨m, hml⟩ : ∃ m, m = t.length := ⟨_, rfl⟩
  have HR := Lib.hid hr
  have HM := Lib.hid hml
  clear hr h
  rw [← hml] at hb hm
  clear hml
  have h1 := hb.alloc (.cells zcells.toArray HT)
  go_enter Tryd.func33, Tryd.ntmps33
  go_upto_region 1 with (fail)
  refine wp_region_list ?_
  refine wpList_yield (v := .pointer (some ⟨b, 0, none⟩)) (w' := w) (by rfl) rfl ?_
  refine wpList_yield (v := .pointer (some ⟨b, 0, none⟩)) (w' := w) (by rfl) rfl ?_
  refine wpList_load_arr hb 0 (hcells (Sha.st t) r m) (fun j u hu => by simpa using hu) (ty := HT) Tryd.underlying82 rfl (sizeH _ _ _ HR.out.1) rfl rfl rfl ?_
  refine wpList_yield (v := .pointer (some ⟨w.heap.size, 0, none⟩)) (w' := w.alloc (.cells zcells.toArray HT)) (by kernel_rfl) rfl ?_
  refine wpList_store_whole (cs := zcells) (vs := hcells (Sha.st t) r m) h1 (by rw [hc_len _ _ _ HR.out.1]; rfl) (hc_one _ _ _) (sizeH _ _ _ HR.out.1) rfl rfl rfl rfl ?_
  intro w2 h2
  clear h1 hb
  generalize w.heap.size = c at *
  have cn := h2.f1.cell 72
  rw [hc_n _ _ _ HR.out.1] at cn
  obtain ⟨z, hz⟩ : ∃ z, z = 63 - (m + 8) % 64 := ⟨_, rfl⟩
  have hz64 : z ≤ 63 := by omega
  obtain ⟨w3, hmk, -, -, h4⟩ := sl_make (P := Tryd.prog) (T := BT) (e := U8) (z := .int .u8 0) (bytes := 1) (by kernel_rfl) u8_info rfl .i64 .i64 (1 + z) (1 + z + 8) (by omega) (by omega) (by unfold maxLen; omega) h2
  have e1 : ((1 + z : Nat) : Int) = 1 + (63 - ((m : Int) + 8) % 64) := by omega
  have e2 : ((1 + z + 8 : Nat) : Int) = 1 + (63 - ((m : Int) + 8) % 64) + 8 := by omega
  rw [e1, e2] at hmk
  have HZ := Lib.hid hz
  clear e1 e2 hz
  generalize w2.heap.size = g at *
  have c0 := h4.cell 0
  have f0 := h4.frozen 0
  have c0' : w3.cell? ⟨g, 0, none⟩ = some (.int .u8 0) := by rw [c0]; simp
  have h5 := (h4.set 0 (.int .u8 128)).toRow 1 (1 + z) (1 + z + 8) (by omega) (by unfold maxLen; omega) (by simp)
  rw [len_fill z] at h5
  have H5 := Lib.hid h5
  clear h5 c0 h4 h2
  go_wp2_with (refine wpList_make_run (o := ⟨some 25, _, _, _, _, _⟩) hmk rfl rfl rfl rfl ?_; clear hmk)
  clear cn f0 c0'
  go_loopw [5, 6] (fun v i wr => ∃ j : Nat, j ≤ 8 ∧ i = .int .i64 (56 - 8 * (j : Int)) ∧ Own E wr (Hp.row U8 1 v (1 + z + j) (((128 : UInt8) :: List.replicate z 0 ++ (Sha.eight (8 * m)).take j).map V8') :: Hp.blk c HT (hcells (Sha.st t) r m).toArray :: Hp.blk b HT (hcells (Sha.st t) r m).toArray :: L)) (fun _ i _ => (8 + intOf i).toNat)
  case atStart => exact ⟨0, by omega, rfl, by simpa using H5.out⟩
  case round =>
    obtain ⟨j, hj, rfl, hw⟩ := hrel
    clear H5
    by_cases hlt : j < 8
    · have cn := hw.f2.cell 72
      rw [hc_n _ _ _ HR.out.1] at cn
      have Hm := Lib.hid hm
      clear hm
      have ET := Lib.hid (eight_take (8 * m))
      rcases (by omega : j = 0 ∨ j = 1 ∨ j = 2 ∨ j = 3 ∨ j = 4 ∨ j = 5 ∨ j = 6 ∨ j = 7) with rfl | rfl | rfl | rfl | rfl | rfl | rfl | rfl
      · obtain ⟨v', w', hap, hown⟩ := add_byte (IntKind.u64.wrap (IntKind.u64.wrap m * 8) / 72057594037927936 % 256) (UInt8.ofNat (8 * m / 2 ^ 56)) (byte_at m Hm.out 56 72057594037927936 rfl) (by omega) hw
        rw [List.append_assoc, ← ET.out.1] at hown
        have HO := Lib.hid hown
        clear hown hw hj hlt
        have e0 : (56 - 8 * ((0 : Nat) : Int)) = 56 := rfl
        rw [e0]
        clear e0
        go_wp2_with (refine wpList_append_run (o := ⟨some 43, _, _, _, _, _⟩) hap rfl rfl rfl rfl ?_; clear hap)
        go_roundw
        case rel => exact ⟨1, by omega, rfl, HO.out⟩
        case measure => simp [intOf]
      · obtain ⟨v', w', hap, hown⟩ := add_byte (IntKind.u64.wrap (IntKind.u64.wrap m * 8) / 281474976710656 % 256) (UInt8.ofNat (8 * m / 2 ^ 48)) (byte_at m Hm.out 48 281474976710656 rfl) (by omega) hw
        rw [List.append_assoc, ← ET.out.2.1] at hown
        have HO := Lib.hid hown
        clear hown hw hj hlt
        have e0 : (56 - 8 * ((1 : Nat) : Int)) = 48 := rfl
        rw [e0]
        clear e0
        go_wp2_with (refine wpList_append_run (o := ⟨some 43, _, _, _, _, _⟩) hap rfl rfl rfl rfl ?_; clear hap)
        go_roundw
        case rel => exact ⟨2, by omega, rfl, HO.out⟩
        case measure => simp [intOf]
      · obtain ⟨v', w', hap, hown⟩ := add_byte (IntKind.u64.wrap (IntKind.u64.wrap m * 8) / 1099511627776 % 256) (UInt8.ofNat (8 * m / 2 ^ 40)) (byte_at m Hm.out 40 1099511627776 rfl) (by omega) hw
        rw [List.append_assoc, ← ET.out.2.2.1] at hown
        have HO := Lib.hid hown
        clear hown hw hj hlt
        have e0 : (56 - 8 * ((2 : Nat) : Int)) = 40 := rfl
        rw [e0]
        clear e0
        go_wp2_with (refine wpList_append_run (o := ⟨some 43, _, _, _, _, _⟩) hap rfl rfl rfl rfl ?_; clear hap)
        go_roundw
        case rel => exact ⟨3, by omega, rfl, HO.out⟩
        case measure => simp [intOf]
      · obtain ⟨v', w', hap, hown⟩ := add_byte (IntKind.u64.wrap (IntKind.u64.wrap m * 8) / 4294967296 % 256) (UInt8.ofNat (8 * m / 2 ^ 32)) (byte_at m Hm.out 32 4294967296 rfl) (by omega) hw
        rw [List.append_assoc, ← ET.out.2.2.2.1] at hown
        have HO := Lib.hid hown
        clear hown hw hj hlt
        have e0 : (56 - 8 * ((3 : Nat) : Int)) = 32 := rfl
        rw [e0]
        clear e0
        go_wp2_with (refine wpList_append_run (o := ⟨some 43, _, _, _, _, _⟩) hap rfl rfl rfl rfl ?_; clear hap)
        go_roundw
        case rel => exact ⟨4, by omega, rfl, HO.out⟩
        case measure => simp [intOf]
      · obtain ⟨v', w', hap, hown⟩ := add_byte (IntKind.u64.wrap (IntKind.u64.wrap m * 8) / 16777216 % 256) (UInt8.ofNat (8 * m / 2 ^ 24)) (byte_at m Hm.out 24 16777216 rfl) (by omega) hw
        rw [List.append_assoc, ← ET.out.2.2.2.2.1] at hown
        have HO := Lib.hid hown
        clear hown hw hj hlt
        have e0 : (56 - 8 * ((4 : Nat) : Int)) = 24 := rfl
        rw [e0]
        clear e0
        go_wp2_with (refine wpList_append_run (o := ⟨some 43, _, _, _, _, _⟩) hap rfl rfl rfl rfl ?_; clear hap)
        go_roundw
        case rel => exact ⟨5, by omega, rfl, HO.out⟩
        case measure => simp [intOf]
      · obtain ⟨v', w', hap, hown⟩ := add_byte (IntKind.u64.wrap (IntKind.u64.wrap m * 8) / 65536 % 256) (UInt8.ofNat (8 * m / 2 ^ 16)) (byte_at m Hm.out 16 65536 rfl) (by omega) hw
        rw [List.append_assoc, ← ET.out.2.2.2.2.2.1] at hown
        have HO := Lib.hid hown
        clear hown hw hj hlt
        have e0 : (56 - 8 * ((5 : Nat) : Int)) = 16 := rfl
        rw [e0]
        clear e0
        go_wp2_with (refine wpList_append_run (o := ⟨some 43, _, _, _, _, _⟩) hap rfl rfl rfl rfl ?_; clear hap)
        go_roundw
        case rel => exact ⟨6, by omega, rfl, HO.out⟩
        case measure => simp [intOf]
      · obtain ⟨v', w', hap, hown⟩ := add_byte (IntKind.u64.wrap (IntKind.u64.wrap m * 8) / 256 % 256) (UInt8.ofNat (8 * m / 2 ^ 8)) (byte_at m Hm.out 8 256 rfl) (by omega) hw
        rw [List.append_assoc, ← ET.out.2.2.2.2.2.2.1] at hown
        have HO := Lib.hid hown
        clear hown hw hj hlt
        have e0 : (56 - 8 * ((6 : Nat) : Int)) = 8 := rfl
        rw [e0]
        clear e0
        go_wp2_with (refine wpList_append_run (o := ⟨some 43, _, _, _, _, _⟩) hap rfl rfl rfl rfl ?_; clear hap)
        go_roundw
        case rel => exact ⟨7, by omega, rfl, HO.out⟩
        case measure => simp [intOf]
      · obtain ⟨v', w', hap, hown⟩ := add_byte (IntKind.u64.wrap (IntKind.u64.wrap m * 8) % 256) (UInt8.ofNat (8 * m / 2 ^ 0)) (byte_at0 m Hm.out) (by omega) hw
        rw [List.append_assoc, ← ET.out.2.2.2.2.2.2.2] at hown
        have HO := Lib.hid hown
        clear hown hw hj hlt
        have e0 : (56 - 8 * ((7 : Nat) : Int)) = 0 := rfl
        rw [e0]
        clear e0
        go_wp2_with (refine wpList_append_run (o := ⟨some 43, _, _, _, _, _⟩) hap rfl rfl rfl rfl ?_; clear hap)
        go_roundw
        case rel => exact ⟨8, by omega, rfl, HO.out⟩
        case measure => simp [intOf]
    · obtain rfl : j = 8 := by omega
      clear hlt
      have hst := hw.rowString (P := Tryd.prog) (src := BT) (dst := 9) (e := U8) (by kernel_rfl) (by kernel_rfl) (by kernel_rfl)
      have ef : (128 : UInt8) :: List.replicate z 0 ++ (Sha.eight (8 * m)).take 8 = Sha.fill m := by
        unfold Sha.fill; rw [← HZ.out]; rfl
      rw [ef] at hst
      have hfl : (Sha.fill m).length ≤ 100 := by simp [Sha.fill, Sha.eight]; omega
      rw [HM.out] at hw
      have h6 := Lib.hid ((Own.toHasher (b := c) HR.out hw.f1).f2.drop)
      have H6 : Hid (Own E wr (Hp.hasher c t :: Hp.hasher b t :: L)) := by
        have h7 := Own.toHasher (b := c) HR.out hw.drop
        exact Lib.hid ((Own.toHasher (b := b) HR.out h7.f1).f1)
      clear h6 hw ef hj
      go_wp2_with (refine wpList_conv_run (o := ⟨some 45, _, _, _, _, _⟩) hst rfl rfl rfl ?_; clear hst)
      have hcl : t.length + (⟨(Sha.fill m).toArray⟩ : ByteArray).size ≤ 9223372036854775807 := by
        have e1 : (⟨(Sha.fill m).toArray⟩ : ByteArray).size = (Sha.fill m).length := rfl
        rw [HM.out] at hm
        rw [e1]; omega
      refine (write_any c t _ _ hcl H6.out).mono ?_
      rintro e w4 ⟨rfl, h8⟩
      clear H6 hcl hfl
      obtain ⟨u, hu⟩ : ∃ u, u = t ++ Sha.fill m := ⟨_, rfl⟩
      have e8 : t ++ (⟨(Sha.fill m).toArray⟩ : ByteArray).data.toList = u := by rw [hu]
      rw [e8] at h8
      have HU := Lib.hid hu
      clear hu e8
      obtain ⟨r2, hr2, h9⟩ := h8.ofHasher
      obtain ⟨w5, hmk0, -, h10, -⟩ := sl_make (P := Tryd.prog) (T := BT) (e := U8) (z := .int .u8 0) (bytes := 1) (by kernel_rfl) u8_info rfl .i64 .i64 0 32 (by omega) (by omega) (by unfold maxLen; omega) h9
      have hmk : (Instr.makeSlice BT (.int .i64 0) (.int .i64 32)).run Tryd.prog w4 = .ok (.slice (some ⟨w4.heap.size, 0, none⟩) 0 32) w5 := hmk0
      clear hmk0
      have HR2 := Lib.hid hr2
      clear hr2 h9 h8
      obtain ⟨S, hS⟩ : ∃ S, S = Sha.st u := ⟨_, rfl⟩
      rw [← hS] at h10
      have HS := Lib.hid hS
      clear hS
      have H10 := Lib.hid h10
      clear h10
      go_wp2_with (first | (refine wpList_make_run (o := ⟨some 47, _, _, _, _, _⟩) hmk rfl rfl rfl rfl ?_; clear hmk) | (refine wpList_load_arr (o := ⟨some 49, _, _, _, _, _⟩) H10.out.f1 0 (SV S) (hc_state S r2 u.length) (d0 := .array 8 U32) (by kernel_rfl) rfl (size8 S.list rfl) rfl rfl rfl ?_))
      have h11 : Own E w5 (Hp.row U8 1 (.slice (some ⟨w4.heap.size, 0, none⟩) 0 32) (4 * 0) (((S.list.take 0).flatMap Sha.four).map V8') :: Hp.blk c HT (hcells S r2 u.length).toArray :: Hp.hasher b t :: L) := H10.out
      have H11 := Lib.hid h11
      clear h11 H10 HR HR2
      go_loopw [7, 50] (fun v i wr => ∃ k : Nat, k ≤ 8 ∧ i = .int .i64 k ∧ Own E wr (Hp.row U8 1 v (4 * k) (((S.list.take k).flatMap Sha.four).map V8') :: Hp.blk c HT (hcells S r2 u.length).toArray :: Hp.hasher b t :: L)) (fun _ i _ => 8 - (intOf i).toNat)
      case atStart => exact ⟨0, by omega, rfl, H11.out⟩
      case round =>
        obtain ⟨k, hk, rfl, hv⟩ := hrel
        clear H11
        by_cases hlt : k < 8
        · have hix := fun W => index_S S k hlt W
          have ek : S.list.take (k + 1) = S.list.take k ++ [S.list.getD k 0] := by
            have : k < S.list.length := S8_lt S hlt
            rw [List.take_add_one, List.getElem?_eq_getElem this]; simp [List.getD, this]
          obtain ⟨v', w', hap, hown⟩ := add_word (S.list.getD k 0) (by omega) hv
          have HO : Hid (Own E w' (Hp.row U8 1 v' (4 * (k + 1)) (((S.list.take (k + 1)).flatMap Sha.four).map V8') :: Hp.blk c HT (hcells S r2 u.length).toArray :: Hp.hasher b t :: L)) := by
            rw [ek, List.flatMap_append, Nat.mul_add]
            simpa using Lib.hid hown
          clear hown hv ek
          generalize S.list.getD k 0 = x at *
          have i1 : (0 : Int) ≤ (k : Int) := by omega
          have i2 : (k : Int) < 8 := by omega
          go_wp2_with (refine wpList_append_run (o := ⟨some 66, _, _, _, _, _⟩) hap rfl rfl rfl rfl ?_; clear hap)
          go_roundw
          case rel => exact ⟨k + 1, by omega, by go_num, HO.out⟩
          case measure => simp [intOf]; omega
        · obtain rfl : k = 8 := by omega
          have hst := hv.rowString (P := Tryd.prog) (src := BT) (dst := 9) (e := U8) (by kernel_rfl) (by kernel_rfl) (by kernel_rfl)
          have eo : (S.list.take 8).flatMap Sha.four = Sha.sum t := by
            unfold Sha.sum
            rw [← HM.out, ← HU.out, ← HS.out]
            rfl
          rw [eo] at hst
          have HV := Lib.hid hv.drop.drop
          clear hv eo hlt
          go_wp2_with (refine wpList_conv_run (o := ⟨some 69, _, _, _, _, _⟩) hst rfl rfl rfl ?_; clear hst)
          go_ret
          exact ⟨rfl, HV.out⟩
end Go.Proofs.YtilcilbmbhbakaaDoor
