/- latchkeylaw10.weighs, nodeWeighs. latchkeylaw10.lentTexts, lentInts, lent, spare, whole: lists in their owner's memory, four things behind them. latchkeylaw10.lent, spare, whole. latchkeylaw10.spare, whole. -/
import Derived.Test.YtbclmmneiphcaaaDoorArgNd
import Derived.Test.YtbclmmneiphcaaaDoorBetLaw
import Derived.Test.YtbclmmneiphcaaaDoorRegion
namespace Go.Proofs.YtbclmmneiphcaaaDoor
open Go.RowKit
section
variable {E : World} {S : Ph} {L : List Hp}
set_option maxRecDepth 100000 in
set_option maxHeartbeats 2000000 in
theorem weighs_any (A : Option Addr) (n c : Nat) (xs : List ByteArray) (w : World) (hn : n ≤ 1000000000000000000) (hsm : ∀ s ∈ xs, s.size ≤ 1000000000000000000) (hr : Rds S 1 enStr A n xs) (h : Own E w (Hp.ro S :: L)) :
    Calls Tryd.prog 34 #[.slice A n c] w fun e w' => (∃ z : Nat, z ≤ 4294967294 ∧ (z ≤ 2147483647 → n + sumSz xs ≤ z) ∧ e = .returned (.int .i64 z)) ∧ Own E w' (Hp.ro S :: L) := by
  have HSM := Lib.hid hsm
  have HN := Lib.hid hn
  clear hsm
  go_enter Tryd.func34, Tryd.ntmps34
  go_wp2_with fail
  refine (addsup_any 0 n _ (by omega) hn).mono ?_
  rintro e w1 ⟨rfl, z0, hz0, hz1, rfl⟩
  have HZ1 := Lib.hid hz1
  clear hz1
  go_wp2_with fail
  go_loopw [3, 4] (fun a i wr => ∃ k z : Nat, k ≤ n ∧ i = .int .i64 k ∧ a = .int .i64 z ∧ z ≤ 4294967294 ∧ (z ≤ 2147483647 → n + sumSz (xs.take k) ≤ z) ∧ Own E wr (Hp.ro S :: L)) (fun _ i _ => n - (intOf i).toNat)
  case atStart => exact ⟨0, z0, by omega, rfl, rfl, hz0, fun hz => by have := HZ1.out hz; simp [sumSz]; omega, h⟩
  case round =>
    obtain ⟨k, z, hk, rfl, rfl, hz, hz2, hw⟩ := hrel
    clear h
    have HZ2 := Lib.hid hz2
    clear hz2
    by_cases hlt : k < n
    · by_cases hb : z ≤ 2147483647
      · have hbi : (z : Int) ≤ 2147483647 := by omega
        obtain ⟨x, b, off, hx, rfl, hc⟩ := hr.get1 hlt
        have c1 := hw.rd (hc _ rfl)
        have hxs := HSM.out x (List.mem_of_getElem? hx)
        have HXS := Lib.hid hxs
        have HX := Lib.hid hx
        clear hc hx hxs
        go_wp2_with fail
        refine (addsup_any z x.size _ (by omega) HXS.out).mono ?_
        rintro e w2 ⟨rfl, y, hy0, hy1, rfl⟩
        have HY := Lib.hid hy1
        clear hy1
        go_wp2_with fail
        go_roundw
        case rel => exact ⟨k + 1, y, by omega, by go_num, rfl, hy0, fun hy => by have h1 := HY.out hy; have h2 := HZ2.out (by omega); rw [sumSz_take xs k x HX.out]; omega, hw⟩
        case measure => simp [intOf]; omega
      · have hbi : ¬ (z : Int) ≤ 2147483647 := by omega
        have HW := Lib.hid hw
        clear hw
        go_wp2_with fail
        go_ret
        exact ⟨⟨z, hz, fun h => absurd h hb, rfl⟩, HW.out⟩
    · have hall : xs.take k = xs := List.take_of_length_le (by have := hr.1; omega)
      rw [hall] at HZ2
      have HW := Lib.hid hw
      clear hw hall
      go_wp2_with fail
      go_ret
      exact ⟨⟨z, hz, HZ2.out, rfl⟩, HW.out⟩
set_option maxRecDepth 100000 in
set_option maxHeartbeats 2000000 in
theorem nodeweighs_any (v : Nv) (n : Nd) (w : World) (hs : NdSm n) (hi : NdIn S v n) (h : Own E w (Hp.ro S :: L)) :
    Calls Tryd.prog 9 #[v.val n] w fun e w' => (∃ z : Nat, z ≤ 4294967294 ∧ (z ≤ 2147483647 → n.bulk ≤ z) ∧ e = .returned (.int .i64 z)) ∧ Own E w' (Hp.ro S :: L) := by
  obtain ⟨a1, c1, a2, c2, a3, c3⟩ := v
  obtain ⟨leaf, ks, vs, ls⟩ := n
  obtain ⟨s1, s2, s3, s4, s5⟩ := hs
  obtain ⟨r1, r2, r3, -, -, -, -, -, -⟩ := hi
  have hrb : reachBytes = 140737488351232 := rfl
  rw [hrb] at s1 s2 s3 s4 s5
  dsimp only [Nv.val] at *
  have k1 := fun w M hw => weighs_any (E := E) (L := M) a1 ks.length c1 ks w (by omega) (fun s hs => Nat.le_trans (s1 s hs) (by omega)) r1 hw
  have k2 := fun w M hw => weighs_any (E := E) (L := M) a2 vs.length c2 vs w (by omega) (fun s hs => Nat.le_trans (s2 s hs) (by omega)) r2 hw
  have hbk : Nd.bulk ⟨leaf, ks, vs, ls⟩ = sumSz ks + sumSz vs + ks.length + vs.length + ls.length := rfl
  rw [hbk]
  generalize sumSz ks = sk at *
  generalize sumSz vs = sv at *
  generalize ks.length = nk at *
  generalize vs.length = nv at *
  generalize ls.length = nl at *
  have h1 : Own E _ (Hp.blk w.heap.size NT #[.bool leaf, .slice a1 nk c1, .slice a2 nv c2, .slice a3 nl c3] :: Hp.ro S :: L) := h.alloc _
  obtain ⟨g, hg⟩ : ∃ g, g = w.heap.size := ⟨_, rfl⟩
  rw [← hg] at h1
  have hcell : ∀ w', (∃ L', Own E w' (Hp.blk g NT #[.bool leaf, .slice a1 nk c1, .slice a2 nv c2, .slice a3 nl c3] :: L')) → w'.cell? ⟨g, 1, none⟩ = some (.slice a1 nk c1) ∧ w'.cell? ⟨g, 2, none⟩ = some (.slice a2 nv c2) ∧ w'.cell? ⟨g, 3, none⟩ = some (.slice a3 nl c3) := fun w' hw => by
    obtain ⟨_, hw⟩ := hw
    exact ⟨hw.cell 1, hw.cell 2, hw.cell 3⟩
  have H1 := Lib.hid h1
  have HC := Lib.hid hcell
  have K1 := Lib.hid k1
  have K2 := Lib.hid k2
  have S5 := Lib.hid s5
  clear h h1 hcell k1 k2 s1 s2 s3 s4 s5 r1 r2 r3 hbk hrb
  go_enter Tryd.func9, Tryd.ntmps9
  go_wp2_with fail
  rw [← hg]
  clear hg
  have h : Own E _ (Hp.blk g NT #[.bool leaf, .slice a1 nk c1, .slice a2 nv c2, .slice a3 nl c3] :: Hp.ro S :: L) := H1.out.drew
  refine wp_region_text [1, 4, 8] (fun w' => w'.cell? ⟨g, 1, none⟩ = some (.slice a1 nk c1) ∧ w'.cell? ⟨g, 2, none⟩ = some (.slice a2 nv c2) ∧ w'.cell? ⟨g, 3, none⟩ = some (.slice a3 nl c3)) (by kernel_rfl) ?_ (fun hS => ?_)
  · exact HC.out _ ⟨_, h⟩
  refine wpAnyG_pure (i := 0) (oi := ⟨some 3, _, _, _, _, _⟩) (v := ?_) rfl (by kernel_rfl) (by kernel_rfl) (by kernel_rfl) (by rfl) (fun _ _ _ h => h) (by rfl) ?_ ?_
  rotate_left
  · intro w
    go_simp
    first | done | with_reducible rfl
  try simp only [Act.put, List.setIfInBounds_toArray, List.set_cons_zero, List.set_cons_succ]
  refine wpAnyG_load (i := 1) (oi := ⟨some 4, _, _, _, _, _⟩) (v := ?_) rfl (by kernel_rfl) (by kernel_rfl) (by kernel_rfl) (by rfl) (fun _ _ _ h => h) (by rfl) ?_ (by assumption) ?_
  rotate_left
  · intro w hS
    try dsimp only at hS
    go_simp
    first | done | with_reducible rfl
  try simp only [Act.put, List.setIfInBounds_toArray, List.set_cons_zero, List.set_cons_succ]
  refine wpAnyG_pure (i := 3) (oi := ⟨some 6, _, _, _, _, _⟩) (v := ?_) rfl (by kernel_rfl) (by kernel_rfl) (by kernel_rfl) (by rfl) (fun _ _ _ h => h) (by rfl) ?_ ?_
  rotate_left
  · intro w
    go_simp
    first | done | with_reducible rfl
  try simp only [Act.put, List.setIfInBounds_toArray, List.set_cons_zero, List.set_cons_succ]
  refine wpAnyG_load (i := 4) (oi := ⟨some 7, _, _, _, _, _⟩) (v := ?_) rfl (by kernel_rfl) (by kernel_rfl) (by kernel_rfl) (by rfl) (fun _ _ _ h => h) (by rfl) ?_ (by assumption) ?_
  rotate_left
  · intro w hS
    try dsimp only at hS
    go_simp
    first | done | with_reducible rfl
  try simp only [Act.put, List.setIfInBounds_toArray, List.set_cons_zero, List.set_cons_succ]
  refine wpAnyG_pure (i := 7) (oi := ⟨some 10, _, _, _, _, _⟩) (v := ?_) rfl (by kernel_rfl) (by kernel_rfl) (by kernel_rfl) (by rfl) (fun _ _ _ h => h) (by rfl) ?_ ?_
  rotate_left
  · intro w
    go_simp
    first | done | with_reducible rfl
  try simp only [Act.put, List.setIfInBounds_toArray, List.set_cons_zero, List.set_cons_succ]
  refine wpAnyG_load (i := 8) (oi := ⟨some 11, _, _, _, _, _⟩) (v := ?_) rfl (by kernel_rfl) (by kernel_rfl) (by kernel_rfl) (by rfl) (fun _ _ _ h => h) (by rfl) ?_ (by assumption) ?_
  rotate_left
  · intro w hS
    try dsimp only at hS
    go_simp
    first | done | with_reducible rfl
  try simp only [Act.put, List.setIfInBounds_toArray, List.set_cons_zero, List.set_cons_succ]
  refine wpAnyG_pure (i := 9) (oi := ⟨some 12, _, _, _, _, _⟩) (v := ?_) rfl (by kernel_rfl) (by kernel_rfl) (by kernel_rfl) (by rfl) (fun _ _ _ h => h) (by rfl) ?_ ?_
  rotate_left
  · intro w
    go_simp
    first | done | with_reducible rfl
  try simp only [Act.put, List.setIfInBounds_toArray, List.set_cons_zero, List.set_cons_succ]
  refine wpAnyG_keep (i := 2) (oi := ⟨some 5, _, _, _, _, _⟩) (by kernel_rfl) rfl (fun K hK => ?_)
  rw [if_pos (by rfl)]
  go_simp
  first | have h := (h : Own _ _ (Hp.ro S :: _)) | have h := (h.f1 : Own _ _ (Hp.ro S :: _)) | have h := (h.f2 : Own _ _ (Hp.ro S :: _)) | have h := (h.f3 : Own _ _ (Hp.ro S :: _)) | have h := (h.f4 : Own _ _ (Hp.ro S :: _)) | have h := (h.f5 : Own _ _ (Hp.ro S :: _)) | have h := (h.f6 : Own _ _ (Hp.ro S :: _)) | have h := (h.f7 : Own _ _ (Hp.ro S :: _)) | have h := (h.f8 : Own _ _ (Hp.ro S :: _)) | have h := (h.f9 : Own _ _ (Hp.ro S :: _)) | have h := (h.f10 : Own _ _ (Hp.ro S :: _)) | have h := (h.f11 : Own _ _ (Hp.ro S :: _)) | have h := (h.f12 : Own _ _ (Hp.ro S :: _)) | have h := (h.f13 : Own _ _ (Hp.ro S :: _)) | have h := (h.f14 : Own _ _ (Hp.ro S :: _)) | have h := (h.f15 : Own _ _ (Hp.ro S :: _))
  refine (K1.out _ _ h).mono ?_
  rintro e w5 ⟨⟨z1, hz1, hy1, rfl⟩, h⟩
  refine hK.out _ _ ?_ (fun hS => ?_)
  · exact HC.out _ (by first | exact ⟨_, h⟩ | exact ⟨_, h.f1⟩ | exact ⟨_, h.f2⟩ | exact ⟨_, h.f3⟩ | exact ⟨_, h.f4⟩ | exact ⟨_, h.f5⟩ | exact ⟨_, h.f6⟩ | exact ⟨_, h.f7⟩ | exact ⟨_, h.f8⟩ | exact ⟨_, h.f9⟩ | exact ⟨_, h.f10⟩ | exact ⟨_, h.f11⟩ | exact ⟨_, h.f12⟩ | exact ⟨_, h.f13⟩ | exact ⟨_, h.f14⟩ | exact ⟨_, h.f15⟩)
  clear hK K
  try simp only [Act.put, List.setIfInBounds_toArray, List.set_cons_zero, List.set_cons_succ]
  refine wpAnyG_keep (i := 5) (oi := ⟨some 8, _, _, _, _, _⟩) (by kernel_rfl) rfl (fun K hK => ?_)
  rw [if_pos (by rfl)]
  go_simp
  refine (K2.out _ _ h).mono ?_
  rintro e w6 ⟨⟨z2, hz2, hy2, rfl⟩, h⟩
  refine hK.out _ _ ?_ (fun hS => ?_)
  · exact HC.out _ (by first | exact ⟨_, h⟩ | exact ⟨_, h.f1⟩ | exact ⟨_, h.f2⟩ | exact ⟨_, h.f3⟩ | exact ⟨_, h.f4⟩ | exact ⟨_, h.f5⟩ | exact ⟨_, h.f6⟩ | exact ⟨_, h.f7⟩ | exact ⟨_, h.f8⟩ | exact ⟨_, h.f9⟩ | exact ⟨_, h.f10⟩ | exact ⟨_, h.f11⟩ | exact ⟨_, h.f12⟩ | exact ⟨_, h.f13⟩ | exact ⟨_, h.f14⟩ | exact ⟨_, h.f15⟩)
  clear hK K
  try simp only [Act.put, List.setIfInBounds_toArray, List.set_cons_zero, List.set_cons_succ]
  refine wpAnyG_keep (i := 6) (oi := ⟨some 9, _, _, _, _, _⟩) (by kernel_rfl) rfl (fun K hK => ?_)
  rw [if_pos (by rfl)]
  go_simp
  refine (addsup_any z1 z2 _ (by omega) (by omega)).mono ?_
  rintro e w7 ⟨rfl, z3, hz3, hy3, rfl⟩
  refine hK.out _ _ ?_ (fun hS => ?_)
  · exact HC.out _ (by first | exact ⟨_, h⟩ | exact ⟨_, h.f1⟩ | exact ⟨_, h.f2⟩ | exact ⟨_, h.f3⟩ | exact ⟨_, h.f4⟩ | exact ⟨_, h.f5⟩ | exact ⟨_, h.f6⟩ | exact ⟨_, h.f7⟩ | exact ⟨_, h.f8⟩ | exact ⟨_, h.f9⟩ | exact ⟨_, h.f10⟩ | exact ⟨_, h.f11⟩ | exact ⟨_, h.f12⟩ | exact ⟨_, h.f13⟩ | exact ⟨_, h.f14⟩ | exact ⟨_, h.f15⟩)
  clear hK K
  try simp only [Act.put, List.setIfInBounds_toArray, List.set_cons_zero, List.set_cons_succ]
  refine wpAnyG_keep (i := 10) (oi := ⟨some 13, _, _, _, _, _⟩) (by kernel_rfl) rfl (fun K hK => ?_)
  rw [if_pos (by rfl)]
  go_simp
  refine (addsup_any z3 nl _ (by omega) (by have := S5.out; omega)).mono ?_
  rintro e w8 ⟨rfl, z4, hz4, hy4, rfl⟩
  refine hK.out _ _ ?_ (fun hS => ?_)
  · exact HC.out _ (by first | exact ⟨_, h⟩ | exact ⟨_, h.f1⟩ | exact ⟨_, h.f2⟩ | exact ⟨_, h.f3⟩ | exact ⟨_, h.f4⟩ | exact ⟨_, h.f5⟩ | exact ⟨_, h.f6⟩ | exact ⟨_, h.f7⟩ | exact ⟨_, h.f8⟩ | exact ⟨_, h.f9⟩ | exact ⟨_, h.f10⟩ | exact ⟨_, h.f11⟩ | exact ⟨_, h.f12⟩ | exact ⟨_, h.f13⟩ | exact ⟨_, h.f14⟩ | exact ⟨_, h.f15⟩)
  clear hK K
  try simp only [Act.put, List.setIfInBounds_toArray, List.set_cons_zero, List.set_cons_succ]
  refine wpAnyG_pure (i := 11) (oi := ⟨some 2, _, _, _, _, _⟩) (v := ?_) rfl (by kernel_rfl) (by kernel_rfl) (by kernel_rfl) (by rfl) (fun _ _ _ h => h) (by rfl) ?_ ?_
  rotate_left
  · intro w
    go_simp
    first | done | with_reducible rfl
  try simp only [Act.put, List.setIfInBounds_toArray, List.set_cons_zero, List.set_cons_succ]
  refine wpAnyG_done (by kernel_rfl) ?_ _
  refine NoPanic.normal ?_
  go_wp2_with fail
  go_ret
  exact ⟨⟨z4, hz4, fun hz => by have e4 := hy4 hz; have e3 := hy3 (by omega); have e2 := hy2 (by omega); have e1 := hy1 (by omega); omega, rfl⟩, h.f1.drop⟩
end
end Go.Proofs.YtbclmmneiphcaaaDoor
namespace Go.Proofs.YtbclmmneiphcaaaDoor
open Go.RowKit
abbrev tSpare : ByteArray := ⟨#[115, 112, 97, 114, 101]⟩
abbrev lentS (xs : List ByteArray) : List Value := xs.map VS ++ List.replicate 4 (VS tSpare)
abbrev lentI (xs : List Int) : List Value := xs.map VI ++ List.replicate 4 (VI (-77))
section
variable {E : World} {S : Ph} {L : List Hp}
set_option maxRecDepth 100000 in
set_option maxHeartbeats 2000000 in
theorem lent_texts (A : Option Addr) (n c : Nat) (l : List ByteArray) (w : World) (hn : n ≤ 4294967296) (hr : Rds S 1 enStr A n l) (h : Own E w (Hp.ro S :: L)) :
    Calls Tryd.prog 36 #[.slice A n c] w fun e w' => ∃ g : Nat, e = .returned (.slice (some ⟨g, 0, none⟩) (n + 4) (n + 4)) ∧ Own E w' (Hp.blk g ST (lentS l).toArray :: Hp.ro S :: L) := by
  obtain ⟨w1, hmk, rfl, -, h1⟩ := sl_make (P := Tryd.prog) (T := LST) (e := ST) (z := VS ⟨#[]⟩) lst_u st_info rfl .i64 .i64 (n + 4) (n + 4) (Nat.le_refl _) (by omega) (by unfold maxLen; omega) h
  obtain ⟨g, hg⟩ : ∃ g, g = w.heap.size := ⟨_, rfl⟩
  rw [← hg] at hmk h1
  have hl := hr.1
  have hrd : RdC (w.alloc (.cells (List.replicate (n + 4) (VS ⟨#[]⟩)).toArray ST)) A (l.map VS) := hr.rdC h1.f1
  obtain ⟨w2, hcp, h2⟩ := sl_copy (P := Tryd.prog) (dT := LST) (sT := LST) (ty := IT) (elem := ST) lst_u (by kernel_rfl) (off := 0) h1 (some ⟨g, 0, none⟩) A (n + 4) (n + 4) n c (l.map VS) (by rw [List.length_map, hl]; exact (Nat.min_eq_left (by omega)).symm) (fun _ => rfl) hrd (by simp; omega) (VS_one l)
  have e0 : splice (List.replicate (n + 4) (VS ⟨#[]⟩)) 0 (l.map VS) = l.map VS ++ List.replicate 0 (VS tSpare) ++ List.replicate 4 (VS ⟨#[]⟩) := by
    unfold splice
    simp [List.drop_replicate, hl]
  rw [e0] at h2
  rw [List.length_map, hl] at hcp
  have hmk' : (Instr.makeSlice LST (.int .i64 ((n : Int) + 4)) (.int .i64 ((n : Int) + 4))).run Tryd.prog w = .ok (.slice (some ⟨g, 0, none⟩) (n + 4) (n + 4)) (w.alloc (.cells (List.replicate (n + 4) (VS ⟨#[]⟩)).toArray ST)) := hmk
  have H2 := Lib.hid h2
  clear h h1 h2 hrd hmk e0 hg
  generalize w.alloc (.cells (List.replicate (n + 4) (VS ⟨#[]⟩)).toArray ST) = wa at *
  have j0 : IntKind.i64.wrap ((n : Int) + 4) = (n : Int) + 4 := IntWalk.i64_in _ (by omega)
  go_enter Tryd.func36, Tryd.ntmps36
  go_wp2_with (first | (with_reducible refine at_slot (k := some 8) ?_; refine wpList_make_run (o := ⟨some 8, _, _, _, _, _⟩) hmk' rfl rfl rfl rfl ?_; clear hmk') | (with_reducible refine at_slot (k := some 11) ?_; refine wpList_copy_run (o := ⟨some 11, _, _, _, _, _⟩) hcp rfl rfl rfl rfl ?_; clear hcp))
  go_loopw [4] (fun i wr => ∃ k : Nat, k ≤ 4 ∧ i = .int .i64 ((n : Int) + k) ∧ Own E wr (Hp.blk g ST (l.map VS ++ List.replicate k (VS tSpare) ++ List.replicate (4 - k) (VS ⟨#[]⟩)).toArray :: Hp.ro S :: L)) (fun i _ => n + 4 - (intOf i).toNat)
  case atStart => exact ⟨0, by omega, by simp, H2.out⟩
  case round =>
    obtain ⟨k, hk, rfl, hw⟩ := hrel
    clear H2
    have hlt3 : (k : Int) ≤ 4 := by omega
    by_cases hlt : k < 4
    · have hlti : (n : Int) + k < (n : Int) + 4 := by omega
      have hlti2 : (n : Int) + k < ((n + 4 : Nat) : Int) := by omega
      have hz0 : (0 : Int) ≤ (n : Int) + k := by omega
      have hz1 : ((n : Int) + k).toNat = n + k := by omega
      have hc1 := hw.cell (n + k)
      have hf1 := hw.frozen (n + k)
      have hs1 := hw.set (n + k) (VS tSpare)
      have e1 : 4 - k = (4 - (k + 1)) + 1 := by omega
      rw [e1, List.replicate_succ] at hs1 hc1
      have hlen : (l.map VS ++ List.replicate k (VS tSpare)).length = n + k := by simp [hl]
      rw [set_mid _ _ _ _ _ hlen] at hs1
      rw [get_mid _ _ _ _ hlen] at hc1
      have e2 : l.map VS ++ List.replicate k (VS tSpare) ++ (VS tSpare) :: List.replicate (4 - (k + 1)) (VS ⟨#[]⟩) = l.map VS ++ List.replicate (k + 1) (VS tSpare) ++ List.replicate (4 - (k + 1)) (VS ⟨#[]⟩) := by
        rw [List.replicate_succ']; simp
      rw [e2] at hs1
      have HS := Lib.hid hs1
      clear hw hs1 e1 e2 hlen
      go_wp2_with fail
      go_roundw
      case rel => exact ⟨k + 1, by omega, by go_num, HS.out⟩
      case measure => simp [intOf]; omega
    · obtain rfl : k = 4 := by omega
      have hlti : ¬ (n : Int) + 4 < ((n + 4 : Nat) : Int) := by omega
      have HW := Lib.hid hw
      clear hw
      go_wp2_with fail
      go_ret
      exact ⟨g, rfl, HW.out.blkEq' (by simp [lentS])⟩
set_option maxRecDepth 100000 in
set_option maxHeartbeats 2000000 in
theorem lent_ints (A : Option Addr) (n c : Nat) (l : List Int) (w : World) (hn : n ≤ 4294967296) (hr : Rds S 1 en64 A n l) (h : Own E w (Hp.ro S :: L)) :
    Calls Tryd.prog 37 #[.slice A n c] w fun e w' => ∃ g : Nat, e = .returned (.slice (some ⟨g, 0, none⟩) (n + 4) (n + 4)) ∧ Own E w' (Hp.blk g IT (lentI l).toArray :: Hp.ro S :: L) := by
  obtain ⟨w1, hmk, rfl, -, h1⟩ := sl_make (P := Tryd.prog) (T := LIT) (e := IT) (z := VI 0) lit_u it_info rfl .i64 .i64 (n + 4) (n + 4) (Nat.le_refl _) (by omega) (by unfold maxLen; omega) h
  obtain ⟨g, hg⟩ : ∃ g, g = w.heap.size := ⟨_, rfl⟩
  rw [← hg] at hmk h1
  have hl := hr.1
  have hrd : RdC (w.alloc (.cells (List.replicate (n + 4) (VI 0)).toArray IT)) A (l.map VI) := hr.rdC h1.f1
  obtain ⟨w2, hcp, h2⟩ := sl_copy (P := Tryd.prog) (dT := LIT) (sT := LIT) (ty := IT) (elem := IT) lit_u (by kernel_rfl) (off := 0) h1 (some ⟨g, 0, none⟩) A (n + 4) (n + 4) n c (l.map VI) (by rw [List.length_map, hl]; exact (Nat.min_eq_left (by omega)).symm) (fun _ => rfl) hrd (by simp; omega) (VI_one l)
  have e0 : splice (List.replicate (n + 4) (VI 0)) 0 (l.map VI) = l.map VI ++ List.replicate 0 (VI (-77)) ++ List.replicate 4 (VI 0) := by
    unfold splice
    simp [List.drop_replicate, hl]
  rw [e0] at h2
  rw [List.length_map, hl] at hcp
  have hmk' : (Instr.makeSlice LIT (.int .i64 ((n : Int) + 4)) (.int .i64 ((n : Int) + 4))).run Tryd.prog w = .ok (.slice (some ⟨g, 0, none⟩) (n + 4) (n + 4)) (w.alloc (.cells (List.replicate (n + 4) (VI 0)).toArray IT)) := hmk
  have H2 := Lib.hid h2
  clear h h1 h2 hrd hmk e0 hg
  generalize w.alloc (.cells (List.replicate (n + 4) (VI 0)).toArray IT) = wa at *
  have j0 : IntKind.i64.wrap ((n : Int) + 4) = (n : Int) + 4 := IntWalk.i64_in _ (by omega)
  go_enter Tryd.func37, Tryd.ntmps37
  go_wp2_with (first | (with_reducible refine at_slot (k := some 8) ?_; refine wpList_make_run (o := ⟨some 8, _, _, _, _, _⟩) hmk' rfl rfl rfl rfl ?_; clear hmk') | (with_reducible refine at_slot (k := some 11) ?_; refine wpList_copy_run (o := ⟨some 11, _, _, _, _, _⟩) hcp rfl rfl rfl rfl ?_; clear hcp))
  go_loopw [4] (fun i wr => ∃ k : Nat, k ≤ 4 ∧ i = .int .i64 ((n : Int) + k) ∧ Own E wr (Hp.blk g IT (l.map VI ++ List.replicate k (VI (-77)) ++ List.replicate (4 - k) (VI 0)).toArray :: Hp.ro S :: L)) (fun i _ => n + 4 - (intOf i).toNat)
  case atStart => exact ⟨0, by omega, by simp, H2.out⟩
  case round =>
    obtain ⟨k, hk, rfl, hw⟩ := hrel
    clear H2
    have hlt3 : (k : Int) ≤ 4 := by omega
    by_cases hlt : k < 4
    · have hlti : (n : Int) + k < (n : Int) + 4 := by omega
      have hlti2 : (n : Int) + k < ((n + 4 : Nat) : Int) := by omega
      have hz0 : (0 : Int) ≤ (n : Int) + k := by omega
      have hz1 : ((n : Int) + k).toNat = n + k := by omega
      have hc1 := hw.cell (n + k)
      have hf1 := hw.frozen (n + k)
      have hs1 := hw.set (n + k) (VI (-77))
      have e1 : 4 - k = (4 - (k + 1)) + 1 := by omega
      rw [e1, List.replicate_succ] at hs1 hc1
      have hlen : (l.map VI ++ List.replicate k (VI (-77))).length = n + k := by simp [hl]
      rw [set_mid _ _ _ _ _ hlen] at hs1
      rw [get_mid _ _ _ _ hlen] at hc1
      have e2 : l.map VI ++ List.replicate k (VI (-77)) ++ (VI (-77)) :: List.replicate (4 - (k + 1)) (VI 0) = l.map VI ++ List.replicate (k + 1) (VI (-77)) ++ List.replicate (4 - (k + 1)) (VI 0) := by
        rw [List.replicate_succ']; simp
      rw [e2] at hs1
      have HS := Lib.hid hs1
      clear hw hs1 e1 e2 hlen
      go_wp2_with fail
      go_roundw
      case rel => exact ⟨k + 1, by omega, by go_num, HS.out⟩
      case measure => simp [intOf]; omega
    · obtain rfl : k = 4 := by omega
      have hlti : ¬ (n : Int) + 4 < ((n + 4 : Nat) : Int) := by omega
      have HW := Lib.hid hw
      clear hw
      go_wp2_with fail
      go_ret
      exact ⟨g, rfl, HW.out.blkEq' (by simp [lentI])⟩
end
end Go.Proofs.YtbclmmneiphcaaaDoor
namespace Go.Proofs.YtbclmmneiphcaaaDoor
open Go.RowKit
/-- Three blocks that hold a node's lists, four things behind each. -/
abbrev Hp.three (gk gv gl : Nat) (n : Nd) : Hp := Hp.all [Hp.blk gk ST (lentS n.ks).toArray, Hp.blk gv ST (lentS n.vs).toArray, Hp.blk gl IT (lentI n.ls).toArray]
abbrev lentV (gk gv gl : Nat) (n : Nd) : Nv := ⟨some ⟨gk, 0, none⟩, n.ks.length + 4, some ⟨gv, 0, none⟩, n.vs.length + 4, some ⟨gl, 0, none⟩, n.ls.length + 4⟩
/-- What stands behind the lists is as it was. -/
structure SpareIn (S : Ph) (gk gv gl : Nat) (n : Nd) : Prop where
  k : ∀ j, j < 4 → S.cell ⟨gk, n.ks.length + j, none⟩ = some (VS tSpare)
  v : ∀ j, j < 4 → S.cell ⟨gv, n.vs.length + j, none⟩ = some (VS tSpare)
  l : ∀ j, j < 4 → S.cell ⟨gl, n.ls.length + j, none⟩ = some (VI (-77))
theorem SpareIn.sub {S T : Ph} {gk gv gl : Nat} {n : Nd} (h : SpareIn S gk gv gl n) (hs : ∀ k o, S k = some o → T k = some o) : SpareIn T gk gv gl n :=
  ⟨fun j hj => Ph.cell_sub hs (h.k j hj), fun j hj => Ph.cell_sub hs (h.v j hj), fun j hj => Ph.cell_sub hs (h.l j hj)⟩
theorem one_cell (g : Nat) (t : TypeId) (cs : List Value) (i : Nat) : (Ph.one g (.cells cs.toArray t (0, 0))).cell ⟨g, i, none⟩ = cs[i]? := by
  simp [Ph.cell, Ph.one]
theorem one_rds {α : Type} {f : α → Value} (g : Nat) (t : TypeId) (l : List α) (rest : List Value) : Rds (Ph.one g (.cells (l.map f ++ rest).toArray t (0, 0))) 1 (fun x => [f x]) (some ⟨g, 0, none⟩) l.length l :=
  ⟨rfl, fun _ => rfl, fun k hk => ⟨g, 0, rfl, fun j v hv => by
    have hj : j = 0 := by
      have := (List.getElem?_eq_some_iff.1 hv).1
      simpa using this
    subst hj
    have hv' : v = f l[k] := by simpa using hv.symm
    subst hv'
    rw [one_cell, List.getElem?_append_left (by simp; omega)]
    simp [hk]⟩⟩
theorem one_spare (g : Nat) (t : TypeId) (l : List Value) (x : Value) (j : Nat) (hj : j < 4) : (Ph.one g (.cells (l ++ List.replicate 4 x).toArray t (0, 0))).cell ⟨g, l.length + j, none⟩ = some x := by
  rw [one_cell, List.getElem?_append_right (by omega)]
  rw [List.getElem?_replicate, if_pos (by omega)]
theorem three_in {a : Ph} {gk gv gl : Nat} {n : Nd} (hb : n.bulk ≤ 4294967296) (h : Hp.three gk gv gl n a) : NdIn a (lentV gk gv gl n) n ∧ SpareIn a gk gv gl n := by
  obtain ⟨a1, r1, d1, rfl, h1, a2, r2, d2, rfl, h2, a3, r3, d3, rfl, h3, h4⟩ := h
  have e4 : r3 = Ph.emp := h4
  subst e4
  have e1 : a1 = _ := h1
  have e2 : a2 = _ := h2
  have e3 : a3 = _ := h3
  rw [Ph.join_emp] at d2 ⊢
  have hd1 : Ph.apart a1 (Ph.join a2 a3) := by rw [Ph.join_emp] at d1; exact d1
  have s1 : ∀ k o, a1 k = some o → Ph.join a1 (Ph.join a2 a3) k = some o := fun k o hk => Ph.join_some hk
  have s2 : ∀ k o, a2 k = some o → Ph.join a1 (Ph.join a2 a3) k = some o := fun k o hk => by
    rw [Ph.join_comm hd1]; exact Ph.join_some (Ph.join_some hk)
  have s3 : ∀ k o, a3 k = some o → Ph.join a1 (Ph.join a2 a3) k = some o := fun k o hk => by
    rw [Ph.join_comm hd1]
    refine Ph.join_some ?_
    rw [Ph.join_comm d2]; exact Ph.join_some hk
  have hl : n.ks.length ≤ 4294967296 ∧ n.vs.length ≤ 4294967296 ∧ n.ls.length ≤ 4294967296 := by unfold Nd.bulk at hb; omega
  refine ⟨⟨?_, ?_, ?_, by show n.ks.length ≤ n.ks.length + 4; omega, by show n.vs.length ≤ n.vs.length + 4; omega, by show n.ls.length ≤ n.ls.length + 4; omega, by show n.ks.length + 4 ≤ maxLen; unfold maxLen; omega, by show n.vs.length + 4 ≤ maxLen; unfold maxLen; omega, by show n.ls.length + 4 ≤ maxLen; unfold maxLen; omega⟩, ⟨?_, ?_, ?_⟩⟩
  · refine Rds.sub ?_ s1
    rw [e1]; exact one_rds gk ST n.ks _
  · refine Rds.sub ?_ s2
    rw [e2]; exact one_rds gv ST n.vs _
  · refine Rds.sub ?_ s3
    rw [e3]; exact one_rds gl IT n.ls _
  · intro j hj
    refine Ph.cell_sub s1 ?_
    rw [e1]
    have := one_spare gk ST (n.ks.map VS) (VS tSpare) j hj
    rw [List.length_map] at this
    exact this
  · intro j hj
    refine Ph.cell_sub s2 ?_
    rw [e2]
    have := one_spare gv ST (n.vs.map VS) (VS tSpare) j hj
    rw [List.length_map] at this
    exact this
  · intro j hj
    refine Ph.cell_sub s3 ?_
    rw [e3]
    have := one_spare gl IT (n.ls.map VI) (VI (-77)) j hj
    rw [List.length_map] at this
    exact this
section
variable {E : World} {S : Ph} {L : List Hp}
set_option maxRecDepth 100000 in
set_option maxHeartbeats 4000000 in
theorem lent_any (v : Nv) (n : Nd) (w : World) (hb : n.bulk ≤ 4294967290) (hi : NdIn S v n) (h : Own E w (Hp.ro S :: L)) :
    Calls Tryd.prog 11 #[v.val n] w fun e w' => ∃ gk gv gl : Nat, e = .returned ((lentV gk gv gl n).val n) ∧ Own E w' (Hp.three gk gv gl n :: Hp.ro S :: L) := by
  obtain ⟨a1, c1, a2, c2, a3, c3⟩ := v
  obtain ⟨leaf, ks, vs, ls⟩ := n
  obtain ⟨l1, l2, l3⟩ : ks.length ≤ 4294967290 ∧ vs.length ≤ 4294967290 ∧ ls.length ≤ 4294967290 := by
    have : sumSz ks + sumSz vs + ks.length + vs.length + ls.length ≤ 4294967290 := hb
    omega
  obtain ⟨r1, r2, r3, -, -, -, -, -, -⟩ := hi
  dsimp only [Nv.val, Hp.three, lentV] at *
  have h1 : Own E _ (Hp.blk (w.heap.size + 1) NT #[.bool false, .slice none 0 0, .slice none 0 0, .slice none 0 0] :: Hp.blk w.heap.size NT #[.bool leaf, .slice a1 ks.length c1, .slice a2 vs.length c2, .slice a3 ls.length c3] :: Hp.ro S :: L) := h.alloc2 _ _
  have k1 := fun w M hw => lent_texts (E := E) (L := M) a1 ks.length c1 ks w (by omega) r1 hw
  have k2 := fun w M hw => lent_texts (E := E) (L := M) a2 vs.length c2 vs w (by omega) r2 hw
  have k3 := fun w M hw => lent_ints (E := E) (L := M) a3 ls.length c3 ls w (by omega) r3 hw
  generalize hks : ks.length = nk at *
  generalize hvs : vs.length = nv at *
  generalize hls : ls.length = nl at *
  have i1 : (nk : Int) ≤ ((nk + 4 : Nat) : Int) := by omega
  have i2 : (nv : Int) ≤ ((nv + 4 : Nat) : Int) := by omega
  have i3 : (nl : Int) ≤ ((nl + 4 : Nat) : Int) := by omega
  obtain ⟨nt, hnt, hnr⟩ := nt_u
  obtain ⟨g, hg⟩ : ∃ g, g = w.heap.size := ⟨_, rfl⟩
  rw [← hg] at h1
  have H1 := Lib.hid h1
  have K1 := Lib.hid k1
  have K2 := Lib.hid k2
  have K3 := Lib.hid k3
  clear h h1 k1 k2 k3 r1 r2 r3 hb hks hvs hls
  go_enter Tryd.func11, Tryd.ntmps11
  go_wp2_with fail
  rw [← hg]
  clear hg
  have h := H1.out
  generalize World.alloc _ _ = wa at h ⊢
  clear H1
  have hcell1 : ∀ w', (∃ L', Own E w' (Hp.blk g NT #[.bool leaf, .slice a1 nk c1, .slice a2 nv c2, .slice a3 nl c3] :: L')) → w'.cell? ⟨g, 1, none⟩ = some (.slice a1 nk c1) := fun w' hw => by
    obtain ⟨_, hw⟩ := hw
    exact hw.cell 1
  have HC1 := Lib.hid hcell1
  clear hcell1
  have h := h.drew
  refine wp_region_text [1, 4] (fun w' => w'.cell? ⟨g, 1, none⟩ = some (.slice a1 nk c1)) (by kernel_rfl) ?_ (fun hS => ?_)
  · exact HC1.out _ (by first | exact ⟨_, h⟩ | exact ⟨_, h.f1⟩ | exact ⟨_, h.f2⟩ | exact ⟨_, h.f3⟩ | exact ⟨_, h.f4⟩ | exact ⟨_, h.f5⟩ | exact ⟨_, h.f6⟩ | exact ⟨_, h.f7⟩ | exact ⟨_, h.f8⟩ | exact ⟨_, h.f9⟩ | exact ⟨_, h.f10⟩ | exact ⟨_, h.f11⟩ | exact ⟨_, h.f12⟩ | exact ⟨_, h.f13⟩ | exact ⟨_, h.f14⟩ | exact ⟨_, h.f15⟩)
  refine wpAnyG_pure (i := 0) (oi := ⟨some 3, _, _, _, _, _⟩) (v := ?_) rfl (by kernel_rfl) (by kernel_rfl) (by kernel_rfl) (by rfl) (fun _ _ _ h => h) (by rfl) ?_ ?_
  rotate_left
  · intro w
    go_simp
    first | done | with_reducible rfl
  try simp only [Act.put, List.setIfInBounds_toArray, List.set_cons_zero, List.set_cons_succ]
  refine wpAnyG_load (i := 1) (oi := ⟨some 4, _, _, _, _, _⟩) (v := ?_) rfl (by kernel_rfl) (by kernel_rfl) (by kernel_rfl) (by rfl) (fun _ _ _ h => h) (by rfl) ?_ (by assumption) ?_
  rotate_left
  · intro w hS
    try dsimp only at hS
    go_simp
    first | done | with_reducible rfl
  try simp only [Act.put, List.setIfInBounds_toArray, List.set_cons_zero, List.set_cons_succ]
  refine wpAnyG_pure (i := 3) (oi := ⟨some 6, _, _, _, _, _⟩) (v := ?_) rfl (by kernel_rfl) (by kernel_rfl) (by kernel_rfl) (by rfl) (fun _ _ _ h => h) (by rfl) ?_ ?_
  rotate_left
  · intro w
    go_simp
    first | done | with_reducible rfl
  try simp only [Act.put, List.setIfInBounds_toArray, List.set_cons_zero, List.set_cons_succ]
  refine wpAnyG_load (i := 4) (oi := ⟨some 7, _, _, _, _, _⟩) (v := ?_) rfl (by kernel_rfl) (by kernel_rfl) (by kernel_rfl) (by rfl) (fun _ _ _ h => h) (by rfl) ?_ (by assumption) ?_
  rotate_left
  · intro w hS
    try dsimp only at hS
    go_simp
    first | done | with_reducible rfl
  try simp only [Act.put, List.setIfInBounds_toArray, List.set_cons_zero, List.set_cons_succ]
  refine wpAnyG_pure (i := 5) (oi := ⟨some 8, _, _, _, _, _⟩) (v := ?_) rfl (by kernel_rfl) (by kernel_rfl) (by kernel_rfl) (by rfl) (fun _ _ _ h => h) (by rfl) ?_ ?_
  rotate_left
  · intro w
    go_simp
    first | done | with_reducible rfl
  try simp only [Act.put, List.setIfInBounds_toArray, List.set_cons_zero, List.set_cons_succ]
  refine wpAnyG_keep (i := 2) (oi := ⟨some 5, _, _, _, _, _⟩) (by kernel_rfl) rfl (fun K hK => ?_)
  rw [if_pos (by rfl)]
  go_simp
  first | have h := (h : Own _ _ (Hp.ro S :: _)) | have h := (h.f1 : Own _ _ (Hp.ro S :: _)) | have h := (h.f2 : Own _ _ (Hp.ro S :: _)) | have h := (h.f3 : Own _ _ (Hp.ro S :: _)) | have h := (h.f4 : Own _ _ (Hp.ro S :: _)) | have h := (h.f5 : Own _ _ (Hp.ro S :: _)) | have h := (h.f6 : Own _ _ (Hp.ro S :: _)) | have h := (h.f7 : Own _ _ (Hp.ro S :: _)) | have h := (h.f8 : Own _ _ (Hp.ro S :: _)) | have h := (h.f9 : Own _ _ (Hp.ro S :: _)) | have h := (h.f10 : Own _ _ (Hp.ro S :: _)) | have h := (h.f11 : Own _ _ (Hp.ro S :: _)) | have h := (h.f12 : Own _ _ (Hp.ro S :: _)) | have h := (h.f13 : Own _ _ (Hp.ro S :: _)) | have h := (h.f14 : Own _ _ (Hp.ro S :: _)) | have h := (h.f15 : Own _ _ (Hp.ro S :: _))
  refine (K1.out _ _ h).mono ?_
  rintro e w5 ⟨gk, rfl, h⟩
  refine hK.out _ _ ?_ (fun hS => ?_)
  · exact HC1.out _ (by first | exact ⟨_, h⟩ | exact ⟨_, h.f1⟩ | exact ⟨_, h.f2⟩ | exact ⟨_, h.f3⟩ | exact ⟨_, h.f4⟩ | exact ⟨_, h.f5⟩ | exact ⟨_, h.f6⟩ | exact ⟨_, h.f7⟩ | exact ⟨_, h.f8⟩ | exact ⟨_, h.f9⟩ | exact ⟨_, h.f10⟩ | exact ⟨_, h.f11⟩ | exact ⟨_, h.f12⟩ | exact ⟨_, h.f13⟩ | exact ⟨_, h.f14⟩ | exact ⟨_, h.f15⟩)
  clear hK K
  try simp only [Act.put, List.setIfInBounds_toArray, List.set_cons_zero, List.set_cons_succ]
  refine wpAnyG_pure (i := 6) (oi := ⟨some 9, _, _, _, _, _⟩) (v := (.slice (some ⟨gk, 0, none⟩) nk (nk + 4))) rfl (by kernel_rfl) (by kernel_rfl) (by kernel_rfl) (by rfl) (fun _ _ _ h => h) (by rfl) ?_ ?_
  · intro w
    go_simp; intro hb; omega
  try simp only [Act.put, List.setIfInBounds_toArray, List.set_cons_zero, List.set_cons_succ]
  refine wpAnyG_pure (i := 7) (oi := ⟨some 10, _, _, _, _, _⟩) (v := ?_) rfl (by kernel_rfl) (by kernel_rfl) (by kernel_rfl) (by rfl) (fun _ _ _ h => h) (by rfl) ?_ ?_
  rotate_left
  · intro w
    go_simp
    first | done | with_reducible rfl
  try simp only [Act.put, List.setIfInBounds_toArray, List.set_cons_zero, List.set_cons_succ]
  refine wpAnyG_break (i := 8) (oi := ⟨none, _, _, _, _, _⟩) (by kernel_rfl) rfl (by kernel_rfl) (fun K hK => ?_)
  rw [if_pos (by rfl)]
  first | have h := (h : Own _ _ (Hp.blk g NT _ :: _)) | have h := (h.f1 : Own _ _ (Hp.blk g NT _ :: _)) | have h := (h.f2 : Own _ _ (Hp.blk g NT _ :: _)) | have h := (h.f3 : Own _ _ (Hp.blk g NT _ :: _)) | have h := (h.f4 : Own _ _ (Hp.blk g NT _ :: _)) | have h := (h.f5 : Own _ _ (Hp.blk g NT _ :: _)) | have h := (h.f6 : Own _ _ (Hp.blk g NT _ :: _)) | have h := (h.f7 : Own _ _ (Hp.blk g NT _ :: _)) | have h := (h.f8 : Own _ _ (Hp.blk g NT _ :: _)) | have h := (h.f9 : Own _ _ (Hp.blk g NT _ :: _)) | have h := (h.f10 : Own _ _ (Hp.blk g NT _ :: _)) | have h := (h.f11 : Own _ _ (Hp.blk g NT _ :: _)) | have h := (h.f12 : Own _ _ (Hp.blk g NT _ :: _)) | have h := (h.f13 : Own _ _ (Hp.blk g NT _ :: _)) | have h := (h.f14 : Own _ _ (Hp.blk g NT _ :: _)) | have h := (h.f15 : Own _ _ (Hp.blk g NT _ :: _))
  have f5 := h.cell 1
  have f6 := h.frozen 1
  have h := h.set 1 (.slice (some ⟨gk, 0, none⟩) nk (nk + 4))
  go_simp
  refine hK.out _ _ ?_
  clear hK K
  try simp only [Act.put]
  refine wpAnyG_done (by kernel_rfl) ?_ _
  refine NoPanic.normal ?_
  have h : Own E _ (Hp.blk g NT #[.bool leaf, .slice (some ⟨gk, 0, none⟩) nk (nk + 4), .slice a2 nv c2, .slice a3 nl c3] :: _) := h
  generalize World.setCell _ _ _ = wb at h ⊢
  go_wp2_with fail
  have hcell2 : ∀ w', (∃ L', Own E w' (Hp.blk g NT #[.bool leaf, .slice (some ⟨gk, 0, none⟩) nk (nk + 4), .slice a2 nv c2, .slice a3 nl c3] :: L')) → w'.cell? ⟨g, 2, none⟩ = some (.slice a2 nv c2) := fun w' hw => by
    obtain ⟨_, hw⟩ := hw
    exact hw.cell 2
  have HC2 := Lib.hid hcell2
  clear hcell2
  have h := h.drew
  refine wp_region_text [1, 4] (fun w' => w'.cell? ⟨g, 2, none⟩ = some (.slice a2 nv c2)) (by kernel_rfl) ?_ (fun hS => ?_)
  · exact HC2.out _ (by first | exact ⟨_, h⟩ | exact ⟨_, h.f1⟩ | exact ⟨_, h.f2⟩ | exact ⟨_, h.f3⟩ | exact ⟨_, h.f4⟩ | exact ⟨_, h.f5⟩ | exact ⟨_, h.f6⟩ | exact ⟨_, h.f7⟩ | exact ⟨_, h.f8⟩ | exact ⟨_, h.f9⟩ | exact ⟨_, h.f10⟩ | exact ⟨_, h.f11⟩ | exact ⟨_, h.f12⟩ | exact ⟨_, h.f13⟩ | exact ⟨_, h.f14⟩ | exact ⟨_, h.f15⟩)
  refine wpAnyG_pure (i := 0) (oi := ⟨some 11, _, _, _, _, _⟩) (v := ?_) rfl (by kernel_rfl) (by kernel_rfl) (by kernel_rfl) (by rfl) (fun _ _ _ h => h) (by rfl) ?_ ?_
  rotate_left
  · intro w
    go_simp
    first | done | with_reducible rfl
  try simp only [Act.put, List.setIfInBounds_toArray, List.set_cons_zero, List.set_cons_succ]
  refine wpAnyG_load (i := 1) (oi := ⟨some 12, _, _, _, _, _⟩) (v := ?_) rfl (by kernel_rfl) (by kernel_rfl) (by kernel_rfl) (by rfl) (fun _ _ _ h => h) (by rfl) ?_ (by assumption) ?_
  rotate_left
  · intro w hS
    try dsimp only at hS
    go_simp
    first | done | with_reducible rfl
  try simp only [Act.put, List.setIfInBounds_toArray, List.set_cons_zero, List.set_cons_succ]
  refine wpAnyG_pure (i := 3) (oi := ⟨some 14, _, _, _, _, _⟩) (v := ?_) rfl (by kernel_rfl) (by kernel_rfl) (by kernel_rfl) (by rfl) (fun _ _ _ h => h) (by rfl) ?_ ?_
  rotate_left
  · intro w
    go_simp
    first | done | with_reducible rfl
  try simp only [Act.put, List.setIfInBounds_toArray, List.set_cons_zero, List.set_cons_succ]
  refine wpAnyG_load (i := 4) (oi := ⟨some 15, _, _, _, _, _⟩) (v := ?_) rfl (by kernel_rfl) (by kernel_rfl) (by kernel_rfl) (by rfl) (fun _ _ _ h => h) (by rfl) ?_ (by assumption) ?_
  rotate_left
  · intro w hS
    try dsimp only at hS
    go_simp
    first | done | with_reducible rfl
  try simp only [Act.put, List.setIfInBounds_toArray, List.set_cons_zero, List.set_cons_succ]
  refine wpAnyG_pure (i := 5) (oi := ⟨some 16, _, _, _, _, _⟩) (v := ?_) rfl (by kernel_rfl) (by kernel_rfl) (by kernel_rfl) (by rfl) (fun _ _ _ h => h) (by rfl) ?_ ?_
  rotate_left
  · intro w
    go_simp
    first | done | with_reducible rfl
  try simp only [Act.put, List.setIfInBounds_toArray, List.set_cons_zero, List.set_cons_succ]
  refine wpAnyG_keep (i := 2) (oi := ⟨some 13, _, _, _, _, _⟩) (by kernel_rfl) rfl (fun K hK => ?_)
  rw [if_pos (by rfl)]
  go_simp
  first | have h := (h : Own _ _ (Hp.ro S :: _)) | have h := (h.f1 : Own _ _ (Hp.ro S :: _)) | have h := (h.f2 : Own _ _ (Hp.ro S :: _)) | have h := (h.f3 : Own _ _ (Hp.ro S :: _)) | have h := (h.f4 : Own _ _ (Hp.ro S :: _)) | have h := (h.f5 : Own _ _ (Hp.ro S :: _)) | have h := (h.f6 : Own _ _ (Hp.ro S :: _)) | have h := (h.f7 : Own _ _ (Hp.ro S :: _)) | have h := (h.f8 : Own _ _ (Hp.ro S :: _)) | have h := (h.f9 : Own _ _ (Hp.ro S :: _)) | have h := (h.f10 : Own _ _ (Hp.ro S :: _)) | have h := (h.f11 : Own _ _ (Hp.ro S :: _)) | have h := (h.f12 : Own _ _ (Hp.ro S :: _)) | have h := (h.f13 : Own _ _ (Hp.ro S :: _)) | have h := (h.f14 : Own _ _ (Hp.ro S :: _)) | have h := (h.f15 : Own _ _ (Hp.ro S :: _))
  refine (K2.out _ _ h).mono ?_
  rintro e w5 ⟨gv, rfl, h⟩
  refine hK.out _ _ ?_ (fun hS => ?_)
  · exact HC2.out _ (by first | exact ⟨_, h⟩ | exact ⟨_, h.f1⟩ | exact ⟨_, h.f2⟩ | exact ⟨_, h.f3⟩ | exact ⟨_, h.f4⟩ | exact ⟨_, h.f5⟩ | exact ⟨_, h.f6⟩ | exact ⟨_, h.f7⟩ | exact ⟨_, h.f8⟩ | exact ⟨_, h.f9⟩ | exact ⟨_, h.f10⟩ | exact ⟨_, h.f11⟩ | exact ⟨_, h.f12⟩ | exact ⟨_, h.f13⟩ | exact ⟨_, h.f14⟩ | exact ⟨_, h.f15⟩)
  clear hK K
  try simp only [Act.put, List.setIfInBounds_toArray, List.set_cons_zero, List.set_cons_succ]
  refine wpAnyG_pure (i := 6) (oi := ⟨some 17, _, _, _, _, _⟩) (v := (.slice (some ⟨gv, 0, none⟩) nv (nv + 4))) rfl (by kernel_rfl) (by kernel_rfl) (by kernel_rfl) (by rfl) (fun _ _ _ h => h) (by rfl) ?_ ?_
  · intro w
    go_simp; intro hb; omega
  try simp only [Act.put, List.setIfInBounds_toArray, List.set_cons_zero, List.set_cons_succ]
  refine wpAnyG_pure (i := 7) (oi := ⟨some 18, _, _, _, _, _⟩) (v := ?_) rfl (by kernel_rfl) (by kernel_rfl) (by kernel_rfl) (by rfl) (fun _ _ _ h => h) (by rfl) ?_ ?_
  rotate_left
  · intro w
    go_simp
    first | done | with_reducible rfl
  try simp only [Act.put, List.setIfInBounds_toArray, List.set_cons_zero, List.set_cons_succ]
  refine wpAnyG_break (i := 8) (oi := ⟨none, _, _, _, _, _⟩) (by kernel_rfl) rfl (by kernel_rfl) (fun K hK => ?_)
  rw [if_pos (by rfl)]
  first | have h := (h : Own _ _ (Hp.blk g NT _ :: _)) | have h := (h.f1 : Own _ _ (Hp.blk g NT _ :: _)) | have h := (h.f2 : Own _ _ (Hp.blk g NT _ :: _)) | have h := (h.f3 : Own _ _ (Hp.blk g NT _ :: _)) | have h := (h.f4 : Own _ _ (Hp.blk g NT _ :: _)) | have h := (h.f5 : Own _ _ (Hp.blk g NT _ :: _)) | have h := (h.f6 : Own _ _ (Hp.blk g NT _ :: _)) | have h := (h.f7 : Own _ _ (Hp.blk g NT _ :: _)) | have h := (h.f8 : Own _ _ (Hp.blk g NT _ :: _)) | have h := (h.f9 : Own _ _ (Hp.blk g NT _ :: _)) | have h := (h.f10 : Own _ _ (Hp.blk g NT _ :: _)) | have h := (h.f11 : Own _ _ (Hp.blk g NT _ :: _)) | have h := (h.f12 : Own _ _ (Hp.blk g NT _ :: _)) | have h := (h.f13 : Own _ _ (Hp.blk g NT _ :: _)) | have h := (h.f14 : Own _ _ (Hp.blk g NT _ :: _)) | have h := (h.f15 : Own _ _ (Hp.blk g NT _ :: _))
  have f5 := h.cell 2
  have f6 := h.frozen 2
  have h := h.set 2 (.slice (some ⟨gv, 0, none⟩) nv (nv + 4))
  go_simp
  refine hK.out _ _ ?_
  clear hK K
  try simp only [Act.put]
  refine wpAnyG_done (by kernel_rfl) ?_ _
  refine NoPanic.normal ?_
  have h : Own E _ (Hp.blk g NT #[.bool leaf, .slice (some ⟨gk, 0, none⟩) nk (nk + 4), .slice (some ⟨gv, 0, none⟩) nv (nv + 4), .slice a3 nl c3] :: _) := h
  generalize World.setCell _ _ _ = wc at h ⊢
  go_wp2_with fail
  have hcell3 : ∀ w', (∃ L', Own E w' (Hp.blk g NT #[.bool leaf, .slice (some ⟨gk, 0, none⟩) nk (nk + 4), .slice (some ⟨gv, 0, none⟩) nv (nv + 4), .slice a3 nl c3] :: L')) → w'.cell? ⟨g, 3, none⟩ = some (.slice a3 nl c3) := fun w' hw => by
    obtain ⟨_, hw⟩ := hw
    exact hw.cell 3
  have HC3 := Lib.hid hcell3
  clear hcell3
  have h := h.drew
  refine wp_region_text [1, 4] (fun w' => w'.cell? ⟨g, 3, none⟩ = some (.slice a3 nl c3)) (by kernel_rfl) ?_ (fun hS => ?_)
  · exact HC3.out _ (by first | exact ⟨_, h⟩ | exact ⟨_, h.f1⟩ | exact ⟨_, h.f2⟩ | exact ⟨_, h.f3⟩ | exact ⟨_, h.f4⟩ | exact ⟨_, h.f5⟩ | exact ⟨_, h.f6⟩ | exact ⟨_, h.f7⟩ | exact ⟨_, h.f8⟩ | exact ⟨_, h.f9⟩ | exact ⟨_, h.f10⟩ | exact ⟨_, h.f11⟩ | exact ⟨_, h.f12⟩ | exact ⟨_, h.f13⟩ | exact ⟨_, h.f14⟩ | exact ⟨_, h.f15⟩)
  refine wpAnyG_pure (i := 0) (oi := ⟨some 19, _, _, _, _, _⟩) (v := ?_) rfl (by kernel_rfl) (by kernel_rfl) (by kernel_rfl) (by rfl) (fun _ _ _ h => h) (by rfl) ?_ ?_
  rotate_left
  · intro w
    go_simp
    first | done | with_reducible rfl
  try simp only [Act.put, List.setIfInBounds_toArray, List.set_cons_zero, List.set_cons_succ]
  refine wpAnyG_load (i := 1) (oi := ⟨some 20, _, _, _, _, _⟩) (v := ?_) rfl (by kernel_rfl) (by kernel_rfl) (by kernel_rfl) (by rfl) (fun _ _ _ h => h) (by rfl) ?_ (by assumption) ?_
  rotate_left
  · intro w hS
    try dsimp only at hS
    go_simp
    first | done | with_reducible rfl
  try simp only [Act.put, List.setIfInBounds_toArray, List.set_cons_zero, List.set_cons_succ]
  refine wpAnyG_pure (i := 3) (oi := ⟨some 22, _, _, _, _, _⟩) (v := ?_) rfl (by kernel_rfl) (by kernel_rfl) (by kernel_rfl) (by rfl) (fun _ _ _ h => h) (by rfl) ?_ ?_
  rotate_left
  · intro w
    go_simp
    first | done | with_reducible rfl
  try simp only [Act.put, List.setIfInBounds_toArray, List.set_cons_zero, List.set_cons_succ]
  refine wpAnyG_load (i := 4) (oi := ⟨some 23, _, _, _, _, _⟩) (v := ?_) rfl (by kernel_rfl) (by kernel_rfl) (by kernel_rfl) (by rfl) (fun _ _ _ h => h) (by rfl) ?_ (by assumption) ?_
  rotate_left
  · intro w hS
    try dsimp only at hS
    go_simp
    first | done | with_reducible rfl
  try simp only [Act.put, List.setIfInBounds_toArray, List.set_cons_zero, List.set_cons_succ]
  refine wpAnyG_pure (i := 5) (oi := ⟨some 24, _, _, _, _, _⟩) (v := ?_) rfl (by kernel_rfl) (by kernel_rfl) (by kernel_rfl) (by rfl) (fun _ _ _ h => h) (by rfl) ?_ ?_
  rotate_left
  · intro w
    go_simp
    first | done | with_reducible rfl
  try simp only [Act.put, List.setIfInBounds_toArray, List.set_cons_zero, List.set_cons_succ]
  refine wpAnyG_keep (i := 2) (oi := ⟨some 21, _, _, _, _, _⟩) (by kernel_rfl) rfl (fun K hK => ?_)
  rw [if_pos (by rfl)]
  go_simp
  first | have h := (h : Own _ _ (Hp.ro S :: _)) | have h := (h.f1 : Own _ _ (Hp.ro S :: _)) | have h := (h.f2 : Own _ _ (Hp.ro S :: _)) | have h := (h.f3 : Own _ _ (Hp.ro S :: _)) | have h := (h.f4 : Own _ _ (Hp.ro S :: _)) | have h := (h.f5 : Own _ _ (Hp.ro S :: _)) | have h := (h.f6 : Own _ _ (Hp.ro S :: _)) | have h := (h.f7 : Own _ _ (Hp.ro S :: _)) | have h := (h.f8 : Own _ _ (Hp.ro S :: _)) | have h := (h.f9 : Own _ _ (Hp.ro S :: _)) | have h := (h.f10 : Own _ _ (Hp.ro S :: _)) | have h := (h.f11 : Own _ _ (Hp.ro S :: _)) | have h := (h.f12 : Own _ _ (Hp.ro S :: _)) | have h := (h.f13 : Own _ _ (Hp.ro S :: _)) | have h := (h.f14 : Own _ _ (Hp.ro S :: _)) | have h := (h.f15 : Own _ _ (Hp.ro S :: _))
  refine (K3.out _ _ h).mono ?_
  rintro e w5 ⟨gl, rfl, h⟩
  refine hK.out _ _ ?_ (fun hS => ?_)
  · exact HC3.out _ (by first | exact ⟨_, h⟩ | exact ⟨_, h.f1⟩ | exact ⟨_, h.f2⟩ | exact ⟨_, h.f3⟩ | exact ⟨_, h.f4⟩ | exact ⟨_, h.f5⟩ | exact ⟨_, h.f6⟩ | exact ⟨_, h.f7⟩ | exact ⟨_, h.f8⟩ | exact ⟨_, h.f9⟩ | exact ⟨_, h.f10⟩ | exact ⟨_, h.f11⟩ | exact ⟨_, h.f12⟩ | exact ⟨_, h.f13⟩ | exact ⟨_, h.f14⟩ | exact ⟨_, h.f15⟩)
  clear hK K
  try simp only [Act.put, List.setIfInBounds_toArray, List.set_cons_zero, List.set_cons_succ]
  refine wpAnyG_pure (i := 6) (oi := ⟨some 25, _, _, _, _, _⟩) (v := (.slice (some ⟨gl, 0, none⟩) nl (nl + 4))) rfl (by kernel_rfl) (by kernel_rfl) (by kernel_rfl) (by rfl) (fun _ _ _ h => h) (by rfl) ?_ ?_
  · intro w
    go_simp; intro hb; omega
  try simp only [Act.put, List.setIfInBounds_toArray, List.set_cons_zero, List.set_cons_succ]
  refine wpAnyG_pure (i := 7) (oi := ⟨some 26, _, _, _, _, _⟩) (v := ?_) rfl (by kernel_rfl) (by kernel_rfl) (by kernel_rfl) (by rfl) (fun _ _ _ h => h) (by rfl) ?_ ?_
  rotate_left
  · intro w
    go_simp
    first | done | with_reducible rfl
  try simp only [Act.put, List.setIfInBounds_toArray, List.set_cons_zero, List.set_cons_succ]
  refine wpAnyG_break (i := 8) (oi := ⟨none, _, _, _, _, _⟩) (by kernel_rfl) rfl (by kernel_rfl) (fun K hK => ?_)
  rw [if_pos (by rfl)]
  first | have h := (h : Own _ _ (Hp.blk g NT _ :: _)) | have h := (h.f1 : Own _ _ (Hp.blk g NT _ :: _)) | have h := (h.f2 : Own _ _ (Hp.blk g NT _ :: _)) | have h := (h.f3 : Own _ _ (Hp.blk g NT _ :: _)) | have h := (h.f4 : Own _ _ (Hp.blk g NT _ :: _)) | have h := (h.f5 : Own _ _ (Hp.blk g NT _ :: _)) | have h := (h.f6 : Own _ _ (Hp.blk g NT _ :: _)) | have h := (h.f7 : Own _ _ (Hp.blk g NT _ :: _)) | have h := (h.f8 : Own _ _ (Hp.blk g NT _ :: _)) | have h := (h.f9 : Own _ _ (Hp.blk g NT _ :: _)) | have h := (h.f10 : Own _ _ (Hp.blk g NT _ :: _)) | have h := (h.f11 : Own _ _ (Hp.blk g NT _ :: _)) | have h := (h.f12 : Own _ _ (Hp.blk g NT _ :: _)) | have h := (h.f13 : Own _ _ (Hp.blk g NT _ :: _)) | have h := (h.f14 : Own _ _ (Hp.blk g NT _ :: _)) | have h := (h.f15 : Own _ _ (Hp.blk g NT _ :: _))
  have f5 := h.cell 3
  have f6 := h.frozen 3
  have h := h.set 3 (.slice (some ⟨gl, 0, none⟩) nl (nl + 4))
  go_simp
  refine hK.out _ _ ?_
  clear hK K
  try simp only [Act.put]
  refine wpAnyG_done (by kernel_rfl) ?_ _
  refine NoPanic.normal ?_
  have h : Own E _ (Hp.blk g NT #[.bool leaf, .slice (some ⟨gk, 0, none⟩) nk (nk + 4), .slice (some ⟨gv, 0, none⟩) nv (nv + 4), .slice (some ⟨gl, 0, none⟩) nl (nl + 4)] :: _) := h
  generalize World.setCell _ _ _ = wd at h ⊢
  have q0 := h.cell 0
  have q1 := h.cell 1
  have q2 := h.cell 2
  have q3 := h.cell 3
  first | have h := (h : Own _ _ (Hp.blk (g + 1) NT _ :: _)) | have h := (h.f1 : Own _ _ (Hp.blk (g + 1) NT _ :: _)) | have h := (h.f2 : Own _ _ (Hp.blk (g + 1) NT _ :: _)) | have h := (h.f3 : Own _ _ (Hp.blk (g + 1) NT _ :: _)) | have h := (h.f4 : Own _ _ (Hp.blk (g + 1) NT _ :: _)) | have h := (h.f5 : Own _ _ (Hp.blk (g + 1) NT _ :: _)) | have h := (h.f6 : Own _ _ (Hp.blk (g + 1) NT _ :: _)) | have h := (h.f7 : Own _ _ (Hp.blk (g + 1) NT _ :: _)) | have h := (h.f8 : Own _ _ (Hp.blk (g + 1) NT _ :: _)) | have h := (h.f9 : Own _ _ (Hp.blk (g + 1) NT _ :: _)) | have h := (h.f10 : Own _ _ (Hp.blk (g + 1) NT _ :: _)) | have h := (h.f11 : Own _ _ (Hp.blk (g + 1) NT _ :: _)) | have h := (h.f12 : Own _ _ (Hp.blk (g + 1) NT _ :: _)) | have h := (h.f13 : Own _ _ (Hp.blk (g + 1) NT _ :: _)) | have h := (h.f14 : Own _ _ (Hp.blk (g + 1) NT _ :: _)) | have h := (h.f15 : Own _ _ (Hp.blk (g + 1) NT _ :: _))
  have H := Lib.hid h
  clear h
  go_wp2_with (with_reducible refine at_slot (k := none) ?_; refine wpList_store_whole (o := ⟨none, _, _, _, _, _⟩) (cs := [.bool false, .slice none 0 0, .slice none 0 0, .slice none 0 0]) (vs := [.bool leaf, .slice (some ⟨gk, 0, none⟩) nk (nk + 4), .slice (some ⟨gv, 0, none⟩) nv (nv + 4), .slice (some ⟨gl, 0, none⟩) nl (nl + 4)]) H.out rfl (ND_all1 _ _ _ _ rfl rfl rfl) (by kernel_rfl) rfl rfl rfl rfl ?_; intro w7 h)
  refine bodyPost_ret (results_arr rfl rfl h hnt hnr (by kernel_rfl)) rfl ?_
  refine ⟨gk, gv, gl, rfl, ?_⟩
  have h := h.drop
  first | have h := (h : Own _ _ (Hp.blk g NT _ :: _)) | have h := (h.f1 : Own _ _ (Hp.blk g NT _ :: _)) | have h := (h.f2 : Own _ _ (Hp.blk g NT _ :: _)) | have h := (h.f3 : Own _ _ (Hp.blk g NT _ :: _)) | have h := (h.f4 : Own _ _ (Hp.blk g NT _ :: _)) | have h := (h.f5 : Own _ _ (Hp.blk g NT _ :: _)) | have h := (h.f6 : Own _ _ (Hp.blk g NT _ :: _)) | have h := (h.f7 : Own _ _ (Hp.blk g NT _ :: _)) | have h := (h.f8 : Own _ _ (Hp.blk g NT _ :: _)) | have h := (h.f9 : Own _ _ (Hp.blk g NT _ :: _)) | have h := (h.f10 : Own _ _ (Hp.blk g NT _ :: _)) | have h := (h.f11 : Own _ _ (Hp.blk g NT _ :: _)) | have h := (h.f12 : Own _ _ (Hp.blk g NT _ :: _)) | have h := (h.f13 : Own _ _ (Hp.blk g NT _ :: _)) | have h := (h.f14 : Own _ _ (Hp.blk g NT _ :: _)) | have h := (h.f15 : Own _ _ (Hp.blk g NT _ :: _))
  have h := h.drop
  exact Own.star.2 (h.ac (M := [Hp.blk gk ST (lentS ks).toArray, Hp.blk gv ST (lentS vs).toArray, Hp.blk gl IT (lentI ls).toArray] ++ Hp.ro S :: L) (by simp only [Hp.all, List.cons_append, List.nil_append] <;> ac_rfl))
end
end Go.Proofs.YtbclmmneiphcaaaDoor
namespace Go.Proofs.YtbclmmneiphcaaaDoor
open Go.RowKit
section
variable {E : World} {S : Ph} {L : List Hp}
set_option maxRecDepth 100000 in
set_option maxHeartbeats 4000000 in
theorem spare_any (gk gv gl : Nat) (n : Nd) (w : World) (hb : n.bulk ≤ 4294967290) (hp : SpareIn S gk gv gl n) (h : Own E w (Hp.ro S :: L)) :
    Calls Tryd.prog 41 #[.slice (some ⟨gk, 0, none⟩) n.ks.length (n.ks.length + 4), .slice (some ⟨gv, 0, none⟩) n.vs.length (n.vs.length + 4), .slice (some ⟨gl, 0, none⟩) n.ls.length (n.ls.length + 4)] w fun e w' => e = .returned (.bool true) ∧ Own E w' (Hp.ro S :: L) := by
  obtain ⟨p1, p2, p3⟩ := hp
  obtain ⟨l1, l2, l3⟩ : n.ks.length ≤ 4294967290 ∧ n.vs.length ≤ 4294967290 ∧ n.ls.length ≤ 4294967290 := by unfold Nd.bulk at hb; omega
  generalize n.ks.length = nk at *
  generalize n.vs.length = nv at *
  generalize n.ls.length = nl at *
  have a1 : IntKind.i64.wrap ((nk : Int) + 4) = (nk : Int) + 4 := IntWalk.i64_in _ (by omega)
  have a2 : IntKind.i64.wrap ((nv : Int) + 4) = (nv : Int) + 4 := IntWalk.i64_in _ (by omega)
  have a3 : IntKind.i64.wrap ((nl : Int) + 4) = (nl : Int) + 4 := IntWalk.i64_in _ (by omega)
  have b1 : ((nk : Int) + 4).toNat = nk + 4 := by omega
  have b2 : ((nv : Int) + 4).toNat = nv + 4 := by omega
  have b3 : ((nl : Int) + 4).toNat = nl + 4 := by omega
  have c1 : nk + 4 - nk = 4 := by omega
  have c2 : nv + 4 - nv = 4 := by omega
  have c3 : nl + 4 - nl = 4 := by omega
  have d1 : (nk : Int) ≤ (nk : Int) + 4 := by omega
  have d2 : (nv : Int) ≤ (nv : Int) + 4 := by omega
  have d3 : (nl : Int) ≤ (nl : Int) + 4 := by omega
  have e1 : ¬ nk + 4 = nk := by omega
  have e2 : ¬ nv + 4 = nv := by omega
  have e3 : ¬ nl + 4 = nl := by omega
  have P1 := Lib.hid p1
  have P2 := Lib.hid p2
  have P3 := Lib.hid p3
  clear p1 p2 p3 hb
  go_enter Tryd.func41, Tryd.ntmps41
  go_wp2_with fail
  go_loopw [10] (fun i wr => ∃ k : Nat, k ≤ 4 ∧ i = .int .i64 k ∧ Own E wr (Hp.ro S :: L)) (fun i _ => 4 - (intOf i).toNat)
  case atStart => exact ⟨0, by omega, rfl, h⟩
  case round =>
    obtain ⟨k, hk, rfl, hw⟩ := hrel
    clear h
    have HW := Lib.hid hw
    by_cases hlt : k < 4
    · have hlti : (k : Int) < 4 := by omega
      have q1 := hw.rd (P1.out k hlt)
      have q2 := hw.rd (P2.out k hlt)
      have q3 := hw.rd (P3.out k hlt)
      clear hw
      go_wp2_with fail
      go_roundw
      case rel => exact ⟨k + 1, by omega, by go_num, HW.out⟩
      case measure => simp [intOf]; omega
    · obtain rfl : k = 4 := by omega
      clear hw
      go_wp2_with fail
      go_ret
      exact ⟨rfl, HW.out⟩
set_option maxRecDepth 100000 in
set_option maxHeartbeats 4000000 in
theorem whole_any (gk gv gl : Nat) (u : Nv) (n : Nd) (w : World) (hb : n.bulk ≤ 4294967290) (hi : NdIn S (lentV gk gv gl n) n) (hp : SpareIn S gk gv gl n) (hj : NdIn S u n) (h : Own E w (Hp.ro S :: L)) :
    Calls Tryd.prog 14 #[(lentV gk gv gl n).val n, u.val n] w fun e w' => e = .returned (.bool true) ∧ Own E w' (Hp.ro S :: L) := by
  have k1 := fun w M hw => nodes_same (E := E) (L := M) (lentV gk gv gl n) u n w (by omega) hi hj hw
  have k2 := fun w M hw => spare_any (E := E) (L := M) gk gv gl n w hb hp hw
  obtain ⟨b1, d1, b2, d2, b3, d3⟩ := u
  obtain ⟨leaf, ks, vs, ls⟩ := n
  dsimp only [Nv.val, lentV] at *
  have h1 : Own E _ (Hp.blk (w.heap.size + 1) NT #[.bool leaf, .slice b1 ks.length d1, .slice b2 vs.length d2, .slice b3 ls.length d3] :: Hp.blk w.heap.size NT #[.bool leaf, .slice (some ⟨gk, 0, none⟩) ks.length (ks.length + 4), .slice (some ⟨gv, 0, none⟩) vs.length (vs.length + 4), .slice (some ⟨gl, 0, none⟩) ls.length (ls.length + 4)] :: Hp.ro S :: L) := h.alloc2 _ _
  generalize ks.length = nk at *
  generalize vs.length = nv at *
  generalize ls.length = nl at *
  obtain ⟨g, hg⟩ : ∃ g, g = w.heap.size := ⟨_, rfl⟩
  rw [← hg] at h1
  have H1 := Lib.hid h1
  have K1 := Lib.hid k1
  have K2 := Lib.hid k2
  clear h h1 k1 k2 hi hp hj hb
  go_enter Tryd.func14, Tryd.ntmps14
  go_wp2_with fail
  rw [← hg]
  clear hg
  with_reducible refine (K1.out _ _ H1.out.f2).mono ?_
  rintro e w1 ⟨rfl, h⟩
  have q1 := h.f2.cell 1
  have q2 := h.f2.cell 2
  have q3 := h.f2.cell 3
  have H := Lib.hid h
  clear h H1
  go_wp2_with fail
  with_reducible refine (K2.out _ _ H.out).mono ?_
  rintro e w2 ⟨rfl, h⟩
  have H2 := Lib.hid h
  clear h H q1 q2 q3
  go_wp2_with fail
  go_ret
  exact ⟨rfl, H2.out.f2.drop.f1.drop⟩
end
end Go.Proofs.YtbclmmneiphcaaaDoor
