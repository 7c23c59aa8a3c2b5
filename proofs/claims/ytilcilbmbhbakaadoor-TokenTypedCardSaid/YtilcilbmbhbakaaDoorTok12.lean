/- TokenTyped: true of any kind, ID, secret, place and byte. -/
import Derived.Test.YtilcilbmbhbakaaDoorTok11
namespace Go.Proofs.YtilcilbmbhbakaaDoor
open Go.RowKit
abbrev TT : TypeId := 32
theorem st_info : (Tryd.prog.info? ST).map (fun i => (i.zero, i.size, i.bytes)) = some (some (.string ⟨#[]⟩), 1, 16) := by kernel_rfl
/-- One byte another one; two neighbours changed about. -/
def mistyped (T : ByteArray) (j : Nat) (b : UInt8) : ByteArray := T.extract 0 j ++ ⟨#[b]⟩ ++ T.extract (j + 1) T.size
def turned (T : ByteArray) (j : Nat) : ByteArray := T.extract 0 j ++ T.extract (j + 1) (j + 2) ++ T.extract j (j + 1) ++ T.extract (j + 2) T.size
theorem extract_list (T : ByteArray) (a b : Nat) : (T.extract a b).data.toList = (T.data.toList.take b).drop a := by
  show (T.extract a b).data.toList = _
  rw [ByteArray.data_extract]
  simp [List.drop_take]
theorem mistyped_list (T : ByteArray) (j : Nat) (b : UInt8) : (mistyped T j b).data.toList = T.data.toList.take j ++ b :: T.data.toList.drop (j + 1) := by
  have e : T.size = T.data.toList.length := rfl
  unfold mistyped
  rw [app_data, app_data, extract_list, extract_list, e, List.take_length, List.drop_zero, List.append_assoc]
  rfl
theorem turned_list (T : ByteArray) (j : Nat) (hj : j + 1 < T.size) : ∃ x y, (turned T j).data.toList = T.data.toList.take j ++ x :: y :: T.data.toList.drop (j + 2) := by
  have e : T.size = T.data.toList.length := rfl
  have one : ∀ k, k < T.data.toList.length → ∃ x, (T.data.toList.take (k + 1)).drop k = [x] := fun k hk => by
    refine ⟨T.data.toList[k], ?_⟩
    rw [List.drop_take, Nat.add_sub_cancel_left, List.drop_eq_getElem_cons hk]
    rfl
  obtain ⟨x, hx⟩ := one (j + 1) (by omega)
  obtain ⟨y, hy⟩ := one j (by omega)
  refine ⟨x, y, ?_⟩
  unfold turned
  rw [app_data, app_data, app_data, extract_list, extract_list, extract_list, extract_list, e, List.take_length, List.drop_zero, hx, hy]
  simp
theorem mistyped_near (T : ByteArray) (j : Nat) (b : UInt8) (hj : j < T.size) (i : Nat) (h1 : i ≠ j) : (mistyped T j b).data.toList[i]? = T.data.toList[i]? := by
  have e : T.size = T.data.toList.length := rfl
  have ht : (T.data.toList.take j).length = j := by rw [List.length_take]; omega
  rw [mistyped_list]
  by_cases hi : i < j
  · rw [List.getElem?_append_left (by omega), List.getElem?_take, if_pos hi]
  · obtain ⟨d, rfl⟩ : ∃ d, i = j + 1 + d := ⟨i - j - 1, by omega⟩
    rw [List.getElem?_append_right (by omega), ht, show j + 1 + d - j = d + 1 by omega, List.getElem?_cons_succ, List.getElem?_drop]
theorem turned_near (T : ByteArray) (j : Nat) (hj : j + 1 < T.size) (i : Nat) (h1 : i ≠ j) (h2 : i ≠ j + 1) : (turned T j).data.toList[i]? = T.data.toList[i]? := by
  have e : T.size = T.data.toList.length := rfl
  have ht : (T.data.toList.take j).length = j := by rw [List.length_take]; omega
  obtain ⟨x, y, hl⟩ := turned_list T j hj
  rw [hl]
  by_cases hi : i < j
  · rw [List.getElem?_append_left (by omega), List.getElem?_take, if_pos hi]
  · obtain ⟨d, rfl⟩ : ∃ d, i = j + 2 + d := ⟨i - j - 2, by omega⟩
    rw [List.getElem?_append_right (by omega), ht, show j + 2 + d - j = d + 1 + 1 by omega, List.getElem?_cons_succ, List.getElem?_cons_succ, List.getElem?_drop]
/-- pick: a number below n. -/
def pickN (c : Int) (n : Nat) : Nat := ((if c < 0 then -(c + 1) else c) % (n : Int)).toNat
theorem pickN_lt (c : Int) (n : Nat) (h : 0 < n) : pickN c n < n := by
  unfold pickN
  have := Int.emod_lt_of_pos (if c < 0 then -(c + 1) else c) (show (0 : Int) < n by omega)
  have := Int.emod_nonneg (if c < 0 then -(c + 1) else c) (show (n : Int) ≠ 0 by omega)
  omega
theorem pickN_eq (c : Int) (n : Nat) (h : 0 < n) : ((pickN c n : Nat) : Int) = (if c < 0 then -(c + 1) else c) % (n : Int) := by
  unfold pickN
  have := Int.emod_nonneg (if c < 0 then -(c + 1) else c) (show (n : Int) ≠ 0 by omega)
  omega
theorem pick_any (c : Int) (n : Nat) (w : World) (hc : -9223372036854775808 ≤ c ∧ c ≤ 9223372036854775807) (hn : 0 < n) (hn2 : n ≤ 9223372036854775807) :
    Calls Tryd.prog 11 #[.int .i64 c, .int .i64 n] w fun e w' => e = .returned (.int .i64 (pickN c n : Nat)) ∧ w = w' := by
  have h0 : ((n : Int) == 0) = false := by rw [beq_eq_false_iff_ne]; omega
  have hp := pickN_eq c n hn
  have hlt := pickN_lt c n hn
  obtain ⟨m, hm⟩ : ∃ m, m = pickN c n := ⟨_, rfl⟩
  rw [← hm] at hp hlt ⊢
  clear hm
  by_cases h : c < 0
  · rw [if_pos h] at hp
    have h1 : 0 ≤ -(c + 1) := by omega
    have HM := Lib.hid hp
    clear hp
    go_enter Tryd.func11, Tryd.ntmps11
    go_wp2
    go_ret
    exact ⟨ret_i64 (by rw [← Int.neg_tmod, Int.tmod_eq_emod_of_nonneg h1, HM.out]), rfl⟩
  · rw [if_neg h] at hp
    have HM := Lib.hid hp
    clear hp
    go_enter Tryd.func11, Tryd.ntmps11
    go_wp2
    go_ret
    exact ⟨ret_i64 HM.out.symm, rfl⟩
def sizedV (s : ByteArray) : ByteArray := if 24 < s.size then s.extract 0 24 else s ++ ⟨(List.replicate (24 - s.size) (0 : UInt8)).toArray⟩
theorem sizedV_size (s : ByteArray) : (sizedV s).size = 24 := by
  unfold sizedV
  by_cases h : 24 < s.size
  · rw [if_pos h, ByteArray.size_extract]; omega
  · have hl : (⟨(List.replicate (24 - s.size) (0 : UInt8)).toArray⟩ : ByteArray).size = 24 - s.size := by rw [mk_size, List.length_replicate]
    rw [if_neg h, ByteArray.size_append, hl]
    omega
section
variable {E : World} {L : List Hp}
set_option maxRecDepth 20000 in
theorem sized_any (s : ByteArray) (w : World) (h : Own E w L) :
    Calls Tryd.prog 12 #[.string s] w fun e w' => e = .returned (.string (sizedV s)) ∧ Own E w' L := by
  by_cases hc : 24 < s.size
  · have e0 : sizedV s = s.extract 0 24 := if_pos hc
    rw [e0]
    have i1 : (24 : Int) < s.size := by omega
    have i2 : (24 : Int) ≤ s.size := by omega
    go_enter Tryd.func12, Tryd.ntmps12
    go_wp2_with fail
    go_ret
    exact ⟨rfl, h⟩
  · obtain ⟨k, hk⟩ : ∃ k, k = 24 - s.size := ⟨_, rfl⟩
    have e0 : sizedV s = s ++ ⟨(List.replicate k (0 : UInt8)).toArray⟩ := by unfold sizedV; rw [if_neg hc, hk]
    rw [e0]
    obtain ⟨w1, hmk, -, h1, -⟩ := sl_make (P := Tryd.prog) (T := BT) (e := U8) (z := .int .u8 0) (bytes := 1) (by kernel_rfl) u8_info rfl .i64 .i64 k k (by omega) (by omega) (by unfold maxLen; omega) h
    have h1' : Own E w1 (Hp.row U8 1 (.slice (some ⟨w.heap.size, 0, none⟩) k k) k ((List.replicate k (0 : UInt8)).map V8') :: L) := by
      rw [List.map_replicate]
      exact h1
    have hst := h1'.rowString (P := Tryd.prog) (src := BT) (dst := ST) (e := U8) (by kernel_rfl) (by kernel_rfl) (by kernel_rfl)
    have H1 := Lib.hid h1'.drop
    have i1 : ¬ (24 : Int) < s.size := by omega
    have i3 : (24 : Int) - s.size = (k : Int) := by omega
    obtain ⟨Z, hZ⟩ : ∃ Z : ByteArray, Z = ⟨(List.replicate k (0 : UInt8)).toArray⟩ := ⟨_, rfl⟩
    have hzs : Z.size = k := by rw [hZ, mk_size, List.length_replicate]
    rw [← hZ] at hst ⊢
    have hcc : ¬ 9223372036854775807 < s.size + Z.size := by omega
    clear h h1 h1' hZ e0 hk
    go_enter Tryd.func12, Tryd.ntmps12
    go_wp2_with (first | (with_reducible refine at_slot (k := some 12) ?_; refine wpList_make_run (o := ⟨some 12, _, _, _, _, _⟩) hmk rfl rfl rfl rfl ?_; clear hmk) | (with_reducible refine at_slot (k := some 13) ?_; refine wpList_conv_run (o := ⟨some 13, _, _, _, _, _⟩) hst rfl rfl rfl ?_; clear hst))
    go_ret
    exact ⟨rfl, H1.out⟩
set_option maxRecDepth 100000 in
set_option maxHeartbeats 4000000 in
theorem typed_any (kind id at_ by_ : Int) (secret : ByteArray) (a0 a1 a2 : Addr) (w : World) (hk : -9223372036854775808 ≤ kind ∧ kind ≤ 9223372036854775807) (hi : -9223372036854775808 ≤ id ∧ id ≤ 9223372036854775807) (hc : -9223372036854775808 ≤ at_ ∧ at_ ≤ 9223372036854775807)
    (hb : 0 ≤ by_ ∧ by_ ≤ 255) (hG : Sent E L a0 a1 a2) (h : Own E w L) :
    Calls Tryd.prog 4 #[.int .i64 kind, .int .i64 id, .string secret, .int .i64 at_, .int .u8 by_] w fun e w' => e = .returned (.bool true) ∧ Own E w' L := by
  by_cases hcb : 2147483647 < secret.size
  · have hci : (2147483647 : Int) < secret.size := by omega
    go_enter Tryd.func4, Tryd.ntmps4
    go_wp2_with fail
    go_ret
    exact ⟨rfl, h⟩
  have hci : ¬ (2147483647 : Int) < secret.size := by omega
  obtain ⟨b, rfl⟩ : ∃ b : UInt8, by_ = b.toNat := ⟨UInt8.ofNat by_.toNat, by simp; omega⟩
  clear hb hcb
  go_enter Tryd.func4, Tryd.ntmps4
  go_wp2_with fail
  refine (awake_any a0 a1 a2 _ hG h).mono ?_
  rintro e w2 ⟨rfl, h2⟩
  clear h
  go_wp2_with fail
  refine (pick_any kind 2 _ hk (by omega) (by omega)).mono ?_
  rintro e w3 ⟨rfl, rfl⟩
  obtain ⟨q, hq⟩ : ∃ q, q = pickN kind 2 := ⟨_, rfl⟩
  have hq2 : q < 2 := by rw [hq]; exact pickN_lt _ _ (by omega)
  rw [← hq]
  clear hq
  have hkw : IntKind.i64.wrap (1 + (q : Int)) = 1 + (q : Int) := IntWalk.i64_in _ (by omega)
  go_wp2_with fail
  refine (pick_any id 4611686018427387904 _ hi (by omega) (by omega)).mono ?_
  rintro e w3 ⟨rfl, rfl⟩
  obtain ⟨r, hr⟩ : ∃ r, r = pickN id 4611686018427387904 := ⟨_, rfl⟩
  have hr2 : r < 4611686018427387904 := by rw [hr]; exact pickN_lt _ _ (by omega)
  rw [← hr]
  clear hr
  have hnw : IntKind.i64.wrap (1 + (r : Int)) = 1 + (r : Int) := IntWalk.i64_in _ (by omega)
  go_wp2_with fail
  refine (sized_any secret _ h2).mono ?_
  rintro e w4 ⟨rfl, h4⟩
  clear h2 hkw hnw hci
  obtain ⟨K, hK⟩ : ∃ K : Int, K = 1 + (q : Int) := ⟨_, rfl⟩
  have hK12 : K = 1 ∨ K = 2 := by omega
  obtain ⟨M, hM⟩ : ∃ M : Nat, M = 1 + r := ⟨_, rfl⟩
  have hM1 : 1 ≤ M := by omega
  have hM2 : M ≤ 4611686018427387904 := by omega
  rw [← hK, show 1 + (r : Int) = (M : Int) by omega]
  obtain ⟨zz, hzz⟩ : ∃ zz, zz = sizedV secret := ⟨_, rfl⟩
  have hzs : zz.size = 24 := by rw [hzz]; exact sizedV_size _
  rw [← hzz]
  obtain ⟨T, hT⟩ : ∃ T, T = tokenT K M zz := ⟨_, rfl⟩
  have hTs : T.size = 52 := by rw [hT]; exact tokenT_size K M zz hK12 hzs
  have hTsi : (T.size : Int) = 52 := by omega
  have HMint : Hid (mintV K M zz = (T, 0)) := Lib.hid (by rw [hT]; exact mintV_ok K M zz hK12 hM1 hM2 hzs)
  have HN : Hid (∀ (l : Int) (s : ByteArray) (x : Int) (v : ByteArray) (j : Nat), (l = 1 ∨ l = 2) → (∀ i, i ≠ j → i ≠ j + 1 → s.data.toList[i]? = T.data.toList[i]?) → parseV l s = (x, v, 0) → s = T) :=
    Lib.hid (by rw [hT]; exact fun l s x v j hl hh hp => parse_near K l M zz s x v hK12 hl hzs j hh hp)
  clear hzz hT hK hM hK12 hq2 hr2 hM1 hM2 hzs
  go_wp2_with fail
  refine (mint_any K M zz T 0 _ HMint.out h4).mono ?_
  rintro e w5 ⟨rfl, h5⟩
  clear h4 HMint
  go_wp2_with fail
  refine (pick_any at_ 52 _ hc (by omega) (by omega)).mono ?_
  rintro e w6 ⟨rfl, rfl⟩
  obtain ⟨j, hj⟩ : ∃ j, j = pickN at_ 52 := ⟨_, rfl⟩
  have hj52 : j < 52 := by rw [hj]; exact pickN_lt _ _ (by omega)
  rw [← hj]
  clear hj
  have j0 : (0 : Int) ≤ j := by omega
  have j1 : (j : Int) ≤ 52 := by omega
  have j2 : (0 : Int) ≤ (j : Int) + 1 := by omega
  have j3 : (j : Int) + 1 ≤ 52 := by omega
  have j4 : IntKind.i64.wrap ((j : Int) + 1) = (j : Int) + 1 := IntWalk.i64_in _ (by omega)
  have j5 : ((j : Int) + 1).toNat = j + 1 := by omega
  have h6 : Own E (w5.drew.alloc (.cells #[.int .u8 b.toNat] U8)) (Hp.blk w5.heap.size U8 #[.int .u8 b.toNat] :: L) := h5.drew.alloc _
  have h7 : Own E (w5.drew.alloc (.cells #[.int .u8 b.toNat] U8)) (Hp.row U8 1 (.slice (some ⟨w5.heap.size, 0, none⟩) 1 1) 1 ([b].map V8') :: L) := h6.toRow 1 1 1 (by omega) (by unfold maxLen; omega) rfl
  have hcv := h7.rowString (P := Tryd.prog) (src := BT) (dst := ST) (e := U8) (by kernel_rfl) (by kernel_rfl) (by kernel_rfl)
  have H7 := Lib.hid h7.drop
  obtain ⟨B, hB⟩ : ∃ B : ByteArray, B = ⟨#[b]⟩ := ⟨_, rfl⟩
  have hBs : B.size = 1 := by rw [hB]; rfl
  have hcv2 : (convert BT ST (.slice (some ⟨w5.heap.size, 0, none⟩) 1 1)).run Tryd.prog (w5.drew.alloc (.cells #[.int .u8 b.toNat] U8)) = .ok (.string B) (w5.drew.alloc (.cells #[.int .u8 b.toNat] U8)) := by rw [hB]; exact hcv
  have HB := Lib.hid hB
  clear hcv hB h6 h7 h5
  go_wp2_with fail
  refine wp_region_text [] (fun _ => True) (by kernel_rfl) ?_ (fun hS => ?_)
  · trivial
  refine wpAnyG_pure (i := 0) (oi := ⟨some 53, _, _, _, _, _⟩) (v := ?_) rfl (by kernel_rfl) (by kernel_rfl) (by kernel_rfl) (by rfl) (fun _ _ _ h => h) (by rfl) ?_ ?_
  rotate_left
  · intro w
    go_simp
    first | done | with_reducible rfl
  try simp only [Act.put, List.setIfInBounds_toArray, List.set_cons_zero, List.set_cons_succ]
  refine wpAnyG_pure (i := 1) (oi := ⟨some 54, _, _, _, _, _⟩) (v := ?_) rfl (by kernel_rfl) (by kernel_rfl) (by kernel_rfl) (by rfl) (fun _ _ _ h => h) (by rfl) ?_ ?_
  rotate_left
  · intro w
    go_simp
    first | done | with_reducible rfl
  try simp only [Act.put, List.setIfInBounds_toArray, List.set_cons_zero, List.set_cons_succ]
  refine wpAnyG_pure (i := 2) (oi := ⟨some 55, _, _, _, _, _⟩) (v := ?_) rfl (by kernel_rfl) (by kernel_rfl) (by kernel_rfl) (by rfl) (fun _ _ _ h => h) (by rfl) ?_ ?_
  rotate_left
  · intro w
    go_simp
    first | done | with_reducible rfl
  try simp only [Act.put, List.setIfInBounds_toArray, List.set_cons_zero, List.set_cons_succ]
  refine wpAnyG_pure (i := 3) (oi := ⟨some 56, _, _, _, _, _⟩) (v := ?_) rfl (by kernel_rfl) (by kernel_rfl) (by kernel_rfl) (by rfl) (fun _ _ _ h => h) (by rfl) ?_ ?_
  rotate_left
  · intro w
    go_simp
    first | done | with_reducible rfl
  try simp only [Act.put, List.setIfInBounds_toArray, List.set_cons_zero, List.set_cons_succ]
  refine wpAnyG_pure (i := 7) (oi := ⟨some 60, _, _, _, _, _⟩) (v := ?_) rfl (by kernel_rfl) (by kernel_rfl) (by kernel_rfl) (by rfl) (fun _ _ _ h => h) (by rfl) ?_ ?_
  rotate_left
  · intro w
    go_simp
    first | done | with_reducible rfl
  try simp only [Act.put, List.setIfInBounds_toArray, List.set_cons_zero, List.set_cons_succ]
  refine wpAnyG_pure (i := 8) (oi := ⟨some 61, _, _, _, _, _⟩) (v := ?_) rfl (by kernel_rfl) (by kernel_rfl) (by kernel_rfl) (by rfl) (fun _ _ _ h => h) (by rfl) ?_ ?_
  rotate_left
  · intro w
    go_simp
    first | done | with_reducible rfl
  try simp only [Act.put, List.setIfInBounds_toArray, List.set_cons_zero, List.set_cons_succ]
  refine wpAnyG_pure (i := 9) (oi := ⟨some 62, _, _, _, _, _⟩) (v := ?_) rfl (by kernel_rfl) (by kernel_rfl) (by kernel_rfl) (by rfl) (fun _ _ _ h => h) (by rfl) ?_ ?_
  rotate_left
  · intro w
    go_simp
    first | done | with_reducible rfl
  try simp only [Act.put, List.setIfInBounds_toArray, List.set_cons_zero, List.set_cons_succ]
  refine wpAnyG_pure (i := 10) (oi := ⟨some 63, _, _, _, _, _⟩) (v := ?_) rfl (by kernel_rfl) (by kernel_rfl) (by kernel_rfl) (by rfl) (fun _ _ _ h => h) (by rfl) ?_ ?_
  rotate_left
  · intro w
    go_simp
    first | done | with_reducible rfl
  try simp only [Act.put, List.setIfInBounds_toArray, List.set_cons_zero, List.set_cons_succ]
  refine wpAnyG_keep (i := 4) (oi := ⟨some 57, _, _, _, _, _⟩) (by kernel_rfl) rfl (fun K hK => ?_)
  rw [if_pos (by rfl)]
  go_simp
  refine hK.out _ _ ?_ (fun hS => ?_)
  · trivial
  clear hK K
  try simp only [Act.put, List.setIfInBounds_toArray, List.set_cons_zero, List.set_cons_succ]
  refine wpAnyG_break (i := 5) (oi := ⟨some 58, _, _, _, _, _⟩) (by kernel_rfl) rfl (by kernel_rfl) (fun K hK => ?_)
  rw [if_pos (by rfl)]
  refine wp_conv_run hcv2 rfl rfl ?_
  refine hK.out _ _ ?_
  clear hK K
  try simp only [Act.put, List.setIfInBounds_toArray, List.set_cons_zero, List.set_cons_succ]
  refine wpAnyG_pure (i := 6) (oi := ⟨some 59, _, _, _, _, _⟩) (v := ?_) rfl (by kernel_rfl) (by kernel_rfl) (by kernel_rfl) (by rfl) (fun _ _ _ h => h) (by rfl) ?_ ?_
  rotate_left
  · intro w
    go_simp; rw [if_neg (by omega)]
  try simp only [Act.put, List.setIfInBounds_toArray, List.set_cons_zero, List.set_cons_succ]
  refine wpAnyG_pure (i := 11) (oi := ⟨some 64, _, _, _, _, _⟩) (v := ?_) rfl (by kernel_rfl) (by kernel_rfl) (by kernel_rfl) (by rfl) (fun _ _ _ h => h) (by rfl) ?_ ?_
  rotate_left
  · intro w
    go_simp; rw [if_neg (by omega)]
  try simp only [Act.put, List.setIfInBounds_toArray, List.set_cons_zero, List.set_cons_succ]
  refine wpAnyG_pure (i := 12) (oi := ⟨some 15, _, _, _, _, _⟩) (v := ?_) rfl (by kernel_rfl) (by kernel_rfl) (by kernel_rfl) (by rfl) (fun _ _ _ h => h) (by rfl) ?_ ?_
  rotate_left
  · intro w
    go_simp
    first | done | with_reducible rfl
  try simp only [Act.put, List.setIfInBounds_toArray, List.set_cons_zero, List.set_cons_succ]
  refine wpAnyG_done (by kernel_rfl) ?_ _
  refine NoPanic.normal ?_
  clear hcv2
  obtain ⟨X, hX⟩ : ∃ X, X = T.extract 0 j ++ B ++ T.extract (j + 1) 52 := ⟨_, rfl⟩
  have hXm : X = mistyped T j b := by rw [hX, HB.out]; unfold mistyped; rw [hTs]
  rw [← hX]
  have H8 := H7.out
  generalize w5.drew.alloc (.cells #[.int .u8 b.toNat] U8) = W1 at *
  have h9 : Own E (W1.alloc (.cells #[.string X] ST)) (Hp.blk W1.heap.size ST #[.string X] :: L) := H8.alloc _
  have h10 : Own E (W1.alloc (.cells #[.string X] ST)) (Hp.row ST 1 (.slice (some ⟨W1.heap.size, 0, none⟩) 1 1) 1 ([X].flatMap enStr) :: L) := h9.toRow 1 1 1 (by omega) (by unfold maxLen; omega) rfl
  have HXm := Lib.hid hXm
  have near1 : ∀ i, i ≠ j → i ≠ j + 1 → X.data.toList[i]? = T.data.toList[i]? := fun i h1 _ => by rw [hXm]; exact mistyped_near T j b (by omega) i h1
  have N1 := Lib.hid near1
  clear hX hXm H7 H8 HB hBs h9 near1
  by_cases h51 : j < 51
  · have j6 : (j : Int) < 51 := by omega
    obtain ⟨Y, hY⟩ : ∃ Y, Y = T.extract 0 j ++ T.extract (j + 1) (j + 2) ++ T.extract j (j + 1) ++ T.extract (j + 2) 52 := ⟨_, rfl⟩
    have hYm : Y = turned T j := by rw [hY]; unfold turned; rw [hTs]
    have near2 : ∀ i, i ≠ j → i ≠ j + 1 → Y.data.toList[i]? = T.data.toList[i]? := fun i h1 h2 => by rw [hYm]; exact turned_near T j (by omega) i h1 h2
    have N2 := Lib.hid near2
    have j7 : IntKind.i64.wrap ((j : Int) + 2) = (j : Int) + 2 := IntWalk.i64_in _ (by omega)
    have j8 : (j : Int) + 2 ≤ 52 := by omega
    have j9 : (0 : Int) ≤ (j : Int) + 2 := by omega
    have j10 : ((j : Int) + 2).toNat = j + 2 := by omega
    have j11 : (j : Int) + 1 ≤ (j : Int) + 2 := by omega
    have j12 : (j : Int) ≤ (j : Int) + 1 := by omega
    obtain ⟨v', w8, hap, h11, -⟩ := sl_append_new (P := Tryd.prog) (t := TT) (ty := TT) (by kernel_rfl) st_info rfl (by omega) h10.drew #[.string Y] 1 rfl (by simp; rfl) (by unfold maxLen; omega) (by omega)
    have e8 : (W1.alloc (.cells #[.string X] ST)).drew.heap.size = W1.heap.size + 1 := Array.size_push _
    rw [e8] at hap
    clear near2 hYm e8
    have HY := Lib.hid hY
    clear hY
    have H11 := Lib.hid h11
    clear h10 h11
    go_wp2_with fail
    refine wp_region_text [] (fun _ => True) (by kernel_rfl) ?_ (fun hS => ?_)
    · trivial
    refine wpAnyG_pure (i := 0) (oi := ⟨some 69, _, _, _, _, _⟩) (v := ?_) rfl (by kernel_rfl) (by kernel_rfl) (by kernel_rfl) (by rfl) (fun _ _ _ h => h) (by rfl) ?_ ?_
    rotate_left
    · intro w
      go_simp
      first | done | with_reducible rfl
    try simp only [Act.put, List.setIfInBounds_toArray, List.set_cons_zero, List.set_cons_succ]
    refine wpAnyG_pure (i := 1) (oi := ⟨some 70, _, _, _, _, _⟩) (v := ?_) rfl (by kernel_rfl) (by kernel_rfl) (by kernel_rfl) (by rfl) (fun _ _ _ h => h) (by rfl) ?_ ?_
    rotate_left
    · intro w
      go_simp
      first | done | with_reducible rfl
    try simp only [Act.put, List.setIfInBounds_toArray, List.set_cons_zero, List.set_cons_succ]
    refine wpAnyG_pure (i := 2) (oi := ⟨some 71, _, _, _, _, _⟩) (v := ?_) rfl (by kernel_rfl) (by kernel_rfl) (by kernel_rfl) (by rfl) (fun _ _ _ h => h) (by rfl) ?_ ?_
    rotate_left
    · intro w
      go_simp
      first | done | with_reducible rfl
    try simp only [Act.put, List.setIfInBounds_toArray, List.set_cons_zero, List.set_cons_succ]
    refine wpAnyG_pure (i := 3) (oi := ⟨some 72, _, _, _, _, _⟩) (v := ?_) rfl (by kernel_rfl) (by kernel_rfl) (by kernel_rfl) (by rfl) (fun _ _ _ h => h) (by rfl) ?_ ?_
    rotate_left
    · intro w
      go_simp
      first | done | with_reducible rfl
    try simp only [Act.put, List.setIfInBounds_toArray, List.set_cons_zero, List.set_cons_succ]
    refine wpAnyG_pure (i := 4) (oi := ⟨some 73, _, _, _, _, _⟩) (v := ?_) rfl (by kernel_rfl) (by kernel_rfl) (by kernel_rfl) (by rfl) (fun _ _ _ h => h) (by rfl) ?_ ?_
    rotate_left
    · intro w
      go_simp
      first | done | with_reducible rfl
    try simp only [Act.put, List.setIfInBounds_toArray, List.set_cons_zero, List.set_cons_succ]
    refine wpAnyG_pure (i := 5) (oi := ⟨some 74, _, _, _, _, _⟩) (v := ?_) rfl (by kernel_rfl) (by kernel_rfl) (by kernel_rfl) (by rfl) (fun _ _ _ h => h) (by rfl) ?_ ?_
    rotate_left
    · intro w
      go_simp
      first | done | with_reducible rfl
    try simp only [Act.put, List.setIfInBounds_toArray, List.set_cons_zero, List.set_cons_succ]
    refine wpAnyG_pure (i := 6) (oi := ⟨some 75, _, _, _, _, _⟩) (v := ?_) rfl (by kernel_rfl) (by kernel_rfl) (by kernel_rfl) (by rfl) (fun _ _ _ h => h) (by rfl) ?_ ?_
    rotate_left
    · intro w
      go_simp
      first | done | with_reducible rfl
    try simp only [Act.put, List.setIfInBounds_toArray, List.set_cons_zero, List.set_cons_succ]
    refine wpAnyG_pure (i := 7) (oi := ⟨some 76, _, _, _, _, _⟩) (v := ?_) rfl (by kernel_rfl) (by kernel_rfl) (by kernel_rfl) (by rfl) (fun _ _ _ h => h) (by rfl) ?_ ?_
    rotate_left
    · intro w
      go_simp
      first | done | with_reducible rfl
    try simp only [Act.put, List.setIfInBounds_toArray, List.set_cons_zero, List.set_cons_succ]
    refine wpAnyG_pure (i := 8) (oi := ⟨some 77, _, _, _, _, _⟩) (v := ?_) rfl (by kernel_rfl) (by kernel_rfl) (by kernel_rfl) (by rfl) (fun _ _ _ h => h) (by rfl) ?_ ?_
    rotate_left
    · intro w
      go_simp
      first | done | with_reducible rfl
    try simp only [Act.put, List.setIfInBounds_toArray, List.set_cons_zero, List.set_cons_succ]
    refine wpAnyG_pure (i := 9) (oi := ⟨some 78, _, _, _, _, _⟩) (v := ?_) rfl (by kernel_rfl) (by kernel_rfl) (by kernel_rfl) (by rfl) (fun _ _ _ h => h) (by rfl) ?_ ?_
    rotate_left
    · intro w
      go_simp
      first | done | with_reducible rfl
    try simp only [Act.put, List.setIfInBounds_toArray, List.set_cons_zero, List.set_cons_succ]
    refine wpAnyG_pure (i := 10) (oi := ⟨some 79, _, _, _, _, _⟩) (v := ?_) rfl (by kernel_rfl) (by kernel_rfl) (by kernel_rfl) (by rfl) (fun _ _ _ h => h) (by rfl) ?_ ?_
    rotate_left
    · intro w
      go_simp; rw [if_neg (by omega)]
    try simp only [Act.put, List.setIfInBounds_toArray, List.set_cons_zero, List.set_cons_succ]
    refine wpAnyG_pure (i := 11) (oi := ⟨some 80, _, _, _, _, _⟩) (v := ?_) rfl (by kernel_rfl) (by kernel_rfl) (by kernel_rfl) (by rfl) (fun _ _ _ h => h) (by rfl) ?_ ?_
    rotate_left
    · intro w
      go_simp
      first | done | with_reducible rfl
    try simp only [Act.put, List.setIfInBounds_toArray, List.set_cons_zero, List.set_cons_succ]
    refine wpAnyG_pure (i := 12) (oi := ⟨some 81, _, _, _, _, _⟩) (v := ?_) rfl (by kernel_rfl) (by kernel_rfl) (by kernel_rfl) (by rfl) (fun _ _ _ h => h) (by rfl) ?_ ?_
    rotate_left
    · intro w
      go_simp
      first | done | with_reducible rfl
    try simp only [Act.put, List.setIfInBounds_toArray, List.set_cons_zero, List.set_cons_succ]
    refine wpAnyG_pure (i := 13) (oi := ⟨some 82, _, _, _, _, _⟩) (v := ?_) rfl (by kernel_rfl) (by kernel_rfl) (by kernel_rfl) (by rfl) (fun _ _ _ h => h) (by rfl) ?_ ?_
    rotate_left
    · intro w
      go_simp
      first | done | with_reducible rfl
    try simp only [Act.put, List.setIfInBounds_toArray, List.set_cons_zero, List.set_cons_succ]
    refine wpAnyG_pure (i := 14) (oi := ⟨some 83, _, _, _, _, _⟩) (v := ?_) rfl (by kernel_rfl) (by kernel_rfl) (by kernel_rfl) (by rfl) (fun _ _ _ h => h) (by rfl) ?_ ?_
    rotate_left
    · intro w
      go_simp
      first | done | with_reducible rfl
    try simp only [Act.put, List.setIfInBounds_toArray, List.set_cons_zero, List.set_cons_succ]
    refine wpAnyG_pure (i := 15) (oi := ⟨some 84, _, _, _, _, _⟩) (v := ?_) rfl (by kernel_rfl) (by kernel_rfl) (by kernel_rfl) (by rfl) (fun _ _ _ h => h) (by rfl) ?_ ?_
    rotate_left
    · intro w
      go_simp
      first | done | with_reducible rfl
    try simp only [Act.put, List.setIfInBounds_toArray, List.set_cons_zero, List.set_cons_succ]
    refine wpAnyG_pure (i := 16) (oi := ⟨some 85, _, _, _, _, _⟩) (v := ?_) rfl (by kernel_rfl) (by kernel_rfl) (by kernel_rfl) (by rfl) (fun _ _ _ h => h) (by rfl) ?_ ?_
    rotate_left
    · intro w
      go_simp; rw [if_neg (by omega)]
    try simp only [Act.put, List.setIfInBounds_toArray, List.set_cons_zero, List.set_cons_succ]
    refine wpAnyG_pure (i := 17) (oi := ⟨some 86, _, _, _, _, _⟩) (v := ?_) rfl (by kernel_rfl) (by kernel_rfl) (by kernel_rfl) (by rfl) (fun _ _ _ h => h) (by rfl) ?_ ?_
    rotate_left
    · intro w
      go_simp
      first | done | with_reducible rfl
    try simp only [Act.put, List.setIfInBounds_toArray, List.set_cons_zero, List.set_cons_succ]
    refine wpAnyG_pure (i := 18) (oi := ⟨some 87, _, _, _, _, _⟩) (v := ?_) rfl (by kernel_rfl) (by kernel_rfl) (by kernel_rfl) (by rfl) (fun _ _ _ h => h) (by rfl) ?_ ?_
    rotate_left
    · intro w
      go_simp
      first | done | with_reducible rfl
    try simp only [Act.put, List.setIfInBounds_toArray, List.set_cons_zero, List.set_cons_succ]
    refine wpAnyG_pure (i := 19) (oi := ⟨some 88, _, _, _, _, _⟩) (v := ?_) rfl (by kernel_rfl) (by kernel_rfl) (by kernel_rfl) (by rfl) (fun _ _ _ h => h) (by rfl) ?_ ?_
    rotate_left
    · intro w
      go_simp
      first | done | with_reducible rfl
    try simp only [Act.put, List.setIfInBounds_toArray, List.set_cons_zero, List.set_cons_succ]
    refine wpAnyG_pure (i := 20) (oi := ⟨some 89, _, _, _, _, _⟩) (v := ?_) rfl (by kernel_rfl) (by kernel_rfl) (by kernel_rfl) (by rfl) (fun _ _ _ h => h) (by rfl) ?_ ?_
    rotate_left
    · intro w
      go_simp
      first | done | with_reducible rfl
    try simp only [Act.put, List.setIfInBounds_toArray, List.set_cons_zero, List.set_cons_succ]
    refine wpAnyG_pure (i := 21) (oi := ⟨some 90, _, _, _, _, _⟩) (v := ?_) rfl (by kernel_rfl) (by kernel_rfl) (by kernel_rfl) (by rfl) (fun _ _ _ h => h) (by rfl) ?_ ?_
    rotate_left
    · intro w
      go_simp; rw [if_neg (by omega)]
    try simp only [Act.put, List.setIfInBounds_toArray, List.set_cons_zero, List.set_cons_succ]
    refine wpAnyG_keep (i := 22) (oi := ⟨some 91, _, _, _, _, _⟩) (by kernel_rfl) rfl (fun K hK => ?_)
    rw [if_pos (by rfl)]
    go_simp
    rw [← HY.out]
    refine hK.out _ _ ?_ (fun hS => ?_)
    · trivial
    clear hK K
    try simp only [Act.put, List.setIfInBounds_toArray, List.set_cons_zero, List.set_cons_succ]
    refine wpAnyG_keep (i := 23) (oi := ⟨some 92, _, _, _, _, _⟩) (by kernel_rfl) rfl (fun K hK => ?_)
    rw [if_pos (by rfl)]
    refine wp_append_run hap rfl rfl rfl ?_
    refine hK.out _ _ ?_ (fun hS => ?_)
    · trivial
    clear hK K
    try simp only [Act.put, List.setIfInBounds_toArray, List.set_cons_zero, List.set_cons_succ]
    refine wpAnyG_pure (i := 24) (oi := ⟨some 16, _, _, _, _, _⟩) (v := ?_) rfl (by kernel_rfl) (by kernel_rfl) (by kernel_rfl) (by rfl) (fun _ _ _ h => h) (by rfl) ?_ ?_
    rotate_left
    · intro w
      go_simp
      first | done | with_reducible rfl
    try simp only [Act.put, List.setIfInBounds_toArray, List.set_cons_zero, List.set_cons_succ]
    refine wpAnyG_done (by kernel_rfl) ?_ _
    refine NoPanic.normal ?_
    obtain ⟨A, c, rfl⟩ := H11.out.rowSlice
    go_wp2_with fail
    -- @LOOP [X, Y] @@ 2 @@ c @@ fun x hx => by rcases List.mem_cons.1 hx with rfl | hx; exact N1.out; rcases List.mem_cons.1 hx with rfl | hx; exact N2.out; cases hx @@ H11.out
    have hNL : ∀ x ∈ [X, Y], ∀ i, i ≠ j → i ≠ j + 1 → x.data.toList[i]? = T.data.toList[i]? := fun x hx => by rcases List.mem_cons.1 hx with rfl | hx; exact N1.out; rcases List.mem_cons.1 hx with rfl | hx; exact N2.out; cases hx
    have HNL := Lib.hid hNL
    have HR : Hid (Own E _ (Hp.row ST 1 (.slice A 2 c) 2 ([X, Y].map Value.string) :: L)) := Lib.hid H11.out
    obtain ⟨l, hl⟩ : ∃ l : List ByteArray, l = [X, Y] := ⟨_, rfl⟩
    have hll : l.length = 2 := by rw [hl]; rfl
    rw [← hl] at HNL HR
    clear hl hNL
    go_loopw [17] (fun i wr => ∃ k : Nat, k ≤ 2 ∧ i = .int .i64 k ∧ Own E wr (Hp.row ST 1 (.slice A 2 c) 2 (l.map Value.string) :: L)) (fun i _ => 2 - (intOf i).toNat)
    case atStart => exact ⟨0, by omega, rfl, HR.out⟩
    case round =>
      obtain ⟨k, hkn, rfl, hw⟩ := hrel
      clear HR
      by_cases hlt : k < 2
      · have hlk : k < l.length := by omega
        obtain ⟨x, hx⟩ : ∃ x, x = l[k] := ⟨_, rfl⟩
        have hxm : x ∈ l := by rw [hx]; exact List.getElem_mem hlk
        obtain ⟨g, rfl, k1, -⟩ := hw.rowCells k (.string x) (by rw [List.getElem?_map, List.getElem?_eq_getElem hlk, hx]; rfl)
        have HRC : ∀ w', Own E w' (Hp.row ST 1 (.slice (some ⟨g, 0, none⟩) 2 c) 2 (l.map Value.string) :: L) → w'.cell? ⟨g, k, none⟩ = some (.string x) := fun w' hw' => by
          obtain ⟨g', e1, k2, -⟩ := hw'.rowCells k (.string x) (by rw [List.getElem?_map, List.getElem?_eq_getElem hlk, hx]; rfl)
          injection e1 with e1
          injection e1 with e1
          subst e1
          exact k2
        have HRC' := Lib.hid HRC
        clear HRC
        obtain ⟨x1, v1, c1, hp1⟩ : ∃ a b c, parseV 1 x = (a, b, c) := ⟨_, _, _, rfl⟩
        obtain ⟨x2, v2, c2, hp2⟩ : ∃ a b c, parseV 2 x = (a, b, c) := ⟨_, _, _, rfl⟩
        have hor : (x.toList == T.toList) = true ∧ (x.toList != T.toList) = false ∨ (x.toList == T.toList) = false ∧ (x.toList != T.toList) = true ∧ (c1 == 0) = false ∧ (c2 == 0) = false := by
          by_cases e : x = T
          · left
            rw [e]
            simp
          · right
            have hne : ¬ x.data.toList = T.data.toList := fun e2 => e (ByteArray.ext (Array.toList_inj.1 e2))
            have e3 := str_ne hne
            refine ⟨e3, by simp [bne, e3], ?_, ?_⟩
            · rw [beq_eq_false_iff_ne]
              rintro rfl
              exact e (HN.out 1 x x1 v1 j (.inl rfl) (HNL.out x hxm) hp1)
            · rw [beq_eq_false_iff_ne]
              rintro rfl
              exact e (HN.out 2 x x2 v2 j (.inr rfl) (HNL.out x hxm) hp2)
        have HP1 := Lib.hid hp1
        have HP2 := Lib.hid hp2
        have HW := Lib.hid hw
        have hG2 : Sent E (Hp.row ST 1 (.slice (some ⟨g, 0, none⟩) 2 c) 2 (l.map Value.string) :: L) a0 a1 a2 := hG.cons
        clear hp1 hp2 hx hxm hlk hw
        have i1 : (0 : Int) ≤ (k : Int) := by omega
        have i2 : (k : Int) < 2 := by omega
        go_wp2_with fail
        refine (parse_any 1 x a0 a1 a2 x1 v1 c1 _ HP1.out (by omega) hG2 HW.out).mono ?_
        rintro e w9 ⟨rfl, hw9⟩
        have k2 := HRC'.out _ hw9
        clear k1 HW
        go_wp2_with fail
        refine (parse_any 2 x a0 a1 a2 x2 v2 c2 _ HP2.out (by omega) hG2 hw9).mono ?_
        rintro e w10 ⟨rfl, hw10⟩
        have k3 := HRC'.out _ hw10
        have HW10 := Lib.hid hw10
        clear k2 hw9 hw10
        rcases hor with ⟨q1, q2⟩ | ⟨q1, q2, q3, q4⟩
        · go_wp2_with fail
          go_roundw
          case rel => first | exact ⟨k + 1, by omega, by go_num, HW10.out⟩ | ((repeat apply Exists.intro); exact ⟨⟨k + 1, by omega, by go_num, HW10.out⟩, rfl⟩)
          case measure => simp [intOf]; omega
        · go_wp2_with fail
          go_roundw
          case rel => first | exact ⟨k + 1, by omega, by go_num, HW10.out⟩ | ((repeat apply Exists.intro); exact ⟨⟨k + 1, by omega, by go_num, HW10.out⟩, rfl⟩)
          case measure => simp [intOf]; omega
      · have i2 : ¬ (k : Int) < 2 := by omega
        have HW := Lib.hid hw.drop
        clear hw
        go_wp2_with fail
        go_ret
        exact ⟨rfl, HW.out⟩
    -- @LOOPEND
  · have j6 : ¬ (j : Int) < 51 := by omega
    have H10 := Lib.hid h10
    clear h10
    go_wp2_with fail
    generalize (some (⟨W1.heap.size, 0, none⟩ : Addr)) = A at *
    -- @LOOP [X] @@ 1 @@ 1 @@ fun x hx => by rcases List.mem_cons.1 hx with rfl | hx; exact N1.out; cases hx @@ H10.out
    have hNL : ∀ x ∈ [X], ∀ i, i ≠ j → i ≠ j + 1 → x.data.toList[i]? = T.data.toList[i]? := fun x hx => by rcases List.mem_cons.1 hx with rfl | hx; exact N1.out; cases hx
    have HNL := Lib.hid hNL
    have HR : Hid (Own E _ (Hp.row ST 1 (.slice A 1 1) 1 ([X].map Value.string) :: L)) := Lib.hid H10.out
    obtain ⟨l, hl⟩ : ∃ l : List ByteArray, l = [X] := ⟨_, rfl⟩
    have hll : l.length = 1 := by rw [hl]; rfl
    rw [← hl] at HNL HR
    clear hl hNL
    go_loopw [17] (fun i wr => ∃ k : Nat, k ≤ 1 ∧ i = .int .i64 k ∧ Own E wr (Hp.row ST 1 (.slice A 1 1) 1 (l.map Value.string) :: L)) (fun i _ => 1 - (intOf i).toNat)
    case atStart => exact ⟨0, by omega, rfl, HR.out⟩
    case round =>
      obtain ⟨k, hkn, rfl, hw⟩ := hrel
      clear HR
      by_cases hlt : k < 1
      · have hlk : k < l.length := by omega
        obtain ⟨x, hx⟩ : ∃ x, x = l[k] := ⟨_, rfl⟩
        have hxm : x ∈ l := by rw [hx]; exact List.getElem_mem hlk
        obtain ⟨g, rfl, k1, -⟩ := hw.rowCells k (.string x) (by rw [List.getElem?_map, List.getElem?_eq_getElem hlk, hx]; rfl)
        have HRC : ∀ w', Own E w' (Hp.row ST 1 (.slice (some ⟨g, 0, none⟩) 1 1) 1 (l.map Value.string) :: L) → w'.cell? ⟨g, k, none⟩ = some (.string x) := fun w' hw' => by
          obtain ⟨g', e1, k2, -⟩ := hw'.rowCells k (.string x) (by rw [List.getElem?_map, List.getElem?_eq_getElem hlk, hx]; rfl)
          injection e1 with e1
          injection e1 with e1
          subst e1
          exact k2
        have HRC' := Lib.hid HRC
        clear HRC
        obtain ⟨x1, v1, c1, hp1⟩ : ∃ a b c, parseV 1 x = (a, b, c) := ⟨_, _, _, rfl⟩
        obtain ⟨x2, v2, c2, hp2⟩ : ∃ a b c, parseV 2 x = (a, b, c) := ⟨_, _, _, rfl⟩
        have hor : (x.toList == T.toList) = true ∧ (x.toList != T.toList) = false ∨ (x.toList == T.toList) = false ∧ (x.toList != T.toList) = true ∧ (c1 == 0) = false ∧ (c2 == 0) = false := by
          by_cases e : x = T
          · left
            rw [e]
            simp
          · right
            have hne : ¬ x.data.toList = T.data.toList := fun e2 => e (ByteArray.ext (Array.toList_inj.1 e2))
            have e3 := str_ne hne
            refine ⟨e3, by simp [bne, e3], ?_, ?_⟩
            · rw [beq_eq_false_iff_ne]
              rintro rfl
              exact e (HN.out 1 x x1 v1 j (.inl rfl) (HNL.out x hxm) hp1)
            · rw [beq_eq_false_iff_ne]
              rintro rfl
              exact e (HN.out 2 x x2 v2 j (.inr rfl) (HNL.out x hxm) hp2)
        have HP1 := Lib.hid hp1
        have HP2 := Lib.hid hp2
        have HW := Lib.hid hw
        have hG2 : Sent E (Hp.row ST 1 (.slice (some ⟨g, 0, none⟩) 1 1) 1 (l.map Value.string) :: L) a0 a1 a2 := hG.cons
        clear hp1 hp2 hx hxm hlk hw
        have i1 : (0 : Int) ≤ (k : Int) := by omega
        have i2 : (k : Int) < 1 := by omega
        go_wp2_with fail
        refine (parse_any 1 x a0 a1 a2 x1 v1 c1 _ HP1.out (by omega) hG2 HW.out).mono ?_
        rintro e w9 ⟨rfl, hw9⟩
        have k2 := HRC'.out _ hw9
        clear k1 HW
        go_wp2_with fail
        refine (parse_any 2 x a0 a1 a2 x2 v2 c2 _ HP2.out (by omega) hG2 hw9).mono ?_
        rintro e w10 ⟨rfl, hw10⟩
        have k3 := HRC'.out _ hw10
        have HW10 := Lib.hid hw10
        clear k2 hw9 hw10
        rcases hor with ⟨q1, q2⟩ | ⟨q1, q2, q3, q4⟩
        · go_wp2_with fail
          go_roundw
          case rel => first | exact ⟨k + 1, by omega, by go_num, HW10.out⟩ | ((repeat apply Exists.intro); exact ⟨⟨k + 1, by omega, by go_num, HW10.out⟩, rfl⟩)
          case measure => simp [intOf]; omega
        · go_wp2_with fail
          go_roundw
          case rel => first | exact ⟨k + 1, by omega, by go_num, HW10.out⟩ | ((repeat apply Exists.intro); exact ⟨⟨k + 1, by omega, by go_num, HW10.out⟩, rfl⟩)
          case measure => simp [intOf]; omega
      · have i2 : ¬ (k : Int) < 1 := by omega
        have HW := Lib.hid hw.drop
        clear hw
        go_wp2_with fail
        go_ret
        exact ⟨rfl, HW.out⟩
    -- @LOOPEND
end
end Go.Proofs.YtilcilbmbhbakaaDoor
