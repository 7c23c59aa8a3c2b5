/- latchkeylaw10.weighs, nodeWeighs. -/
import Derived.Test.YtbclmmneiphcaaaDoorArgNd
import Derived.Test.YtbclmmneiphcaaaDoorBetLaw
namespace Go.Proofs.YtbclmmneiphcaaaDoor
open Go.RowKit
section
variable {E : World} {S : Ph} {L : List Hp}
set_option maxRecDepth 100000 in
set_option maxHeartbeats 2000000 in
theorem weighs_any (A : Option Addr) (n c : Nat) (xs : List ByteArray) (w : World) (hn : n ≤ 1000000000000000000) (hsm : ∀ s ∈ xs, s.size ≤ 1000000000000000000) (hr : Rds S 1 enStr A n xs) (h : Own E w (Hp.ro S :: L)) :
    Calls Tryd.prog 34 #[.slice A n c] w fun e w' => (∃ z : Nat, z ≤ 4294967294 ∧ (z ≤ 2147483647 → n + sumSz xs ≤ z) ∧ e = .returned (.int .i64 z)) ∧ Own E w' (Hp.ro S :: L) := by
  have HSM := Lib.hid hsm
  have HN := Lib.hid hn
  clear hsm
  go_enter Tryd.func34, Tryd.ntmps34
  go_wp2_with fail
  refine (addsup_any 0 n _ (by omega) hn).mono ?_
  rintro e w1 ⟨rfl, z0, hz0, hz1, rfl⟩
  have HZ1 := Lib.hid hz1
  clear hz1
  go_wp2_with fail
  go_loopw [3, 4] (fun a i wr => ∃ k z : Nat, k ≤ n ∧ i = .int .i64 k ∧ a = .int .i64 z ∧ z ≤ 4294967294 ∧ (z ≤ 2147483647 → n + sumSz (xs.take k) ≤ z) ∧ Own E wr (Hp.ro S :: L)) (fun _ i _ => n - (intOf i).toNat)
  case atStart => exact ⟨0, z0, by omega, rfl, rfl, hz0, fun hz => by have := HZ1.out hz; simp [sumSz]; omega, h⟩
  case round =>
    obtain ⟨k, z, hk, rfl, rfl, hz, hz2, hw⟩ := hrel
    clear h
    have HZ2 := Lib.hid hz2
    clear hz2
    by_cases hlt : k < n
    · by_cases hb : z ≤ 2147483647
      · have hbi : (z : Int) ≤ 2147483647 := by omega
        obtain ⟨x, b, off, hx, rfl, hc⟩ := hr.get1 hlt
        have c1 := hw.rd (hc _ rfl)
        have hxs := HSM.out x (List.mem_of_getElem? hx)
        have HXS := Lib.hid hxs
        have HX := Lib.hid hx
        clear hc hx hxs
        go_wp2_with fail
        refine (addsup_any z x.size _ (by omega) HXS.out).mono ?_
        rintro e w2 ⟨rfl, y, hy0, hy1, rfl⟩
        have HY := Lib.hid hy1
        clear hy1
        go_wp2_with fail
        go_roundw
        case rel => exact ⟨k + 1, y, by omega, by go_num, rfl, hy0, fun hy => by have h1 := HY.out hy; have h2 := HZ2.out (by omega); rw [sumSz_take xs k x HX.out]; omega, hw⟩
        case measure => simp [intOf]; omega
      · have hbi : ¬ (z : Int) ≤ 2147483647 := by omega
        have HW := Lib.hid hw
        clear hw
        go_wp2_with fail
        go_ret
        exact ⟨⟨z, hz, fun h => absurd h hb, rfl⟩, HW.out⟩
    · have hall : xs.take k = xs := List.take_of_length_le (by have := hr.1; omega)
      rw [hall] at HZ2
      have HW := Lib.hid hw
      clear hw hall
      go_wp2_with fail
      go_ret
      exact ⟨⟨z, hz, HZ2.out, rfl⟩, HW.out⟩
set_option maxRecDepth 100000 in
set_option maxHeartbeats 2000000 in
theorem nodeweighs_any (v : Nv) (n : Nd) (w : World) (hs : NdSm n) (hi : NdIn S v n) (h : Own E w (Hp.ro S :: L)) :
    Calls Tryd.prog 9 #[v.val n] w fun e w' => (∃ z : Nat, z ≤ 4294967294 ∧ (z ≤ 2147483647 → n.bulk ≤ z) ∧ e = .returned (.int .i64 z)) ∧ Own E w' (Hp.ro S :: L) := by
  obtain ⟨a1, c1, a2, c2, a3, c3⟩ := v
  obtain ⟨leaf, ks, vs, ls⟩ := n
  obtain ⟨s1, s2, s3, s4, s5⟩ := hs
  obtain ⟨r1, r2, r3, -, -, -, -, -, -⟩ := hi
  have hrb : reachBytes = 140737488351232 := rfl
  rw [hrb] at s1 s2 s3 s4 s5
  dsimp only [Nv.val] at *
  have k1 := fun w M hw => weighs_any (E := E) (L := M) a1 ks.length c1 ks w (by omega) (fun s hs => Nat.le_trans (s1 s hs) (by omega)) r1 hw
  have k2 := fun w M hw => weighs_any (E := E) (L := M) a2 vs.length c2 vs w (by omega) (fun s hs => Nat.le_trans (s2 s hs) (by omega)) r2 hw
  have hbk : Nd.bulk ⟨leaf, ks, vs, ls⟩ = sumSz ks + sumSz vs + ks.length + vs.length + ls.length := rfl
  rw [hbk]
  generalize sumSz ks = sk at *
  generalize sumSz vs = sv at *
  generalize ks.length = nk at *
  generalize vs.length = nv at *
  generalize ls.length = nl at *
  have h1 : Own E _ (Hp.blk w.heap.size NT #[.bool leaf, .slice a1 nk c1, .slice a2 nv c2, .slice a3 nl c3] :: Hp.ro S :: L) := h.alloc _
  obtain ⟨g, hg⟩ : ∃ g, g = w.heap.size := ⟨_, rfl⟩
  rw [← hg] at h1
  have hcell : ∀ w', (∃ L', Own E w' (Hp.blk g NT #[.bool leaf, .slice a1 nk c1, .slice a2 nv c2, .slice a3 nl c3] :: L')) → w'.cell? ⟨g, 1, none⟩ = some (.slice a1 nk c1) ∧ w'.cell? ⟨g, 2, none⟩ = some (.slice a2 nv c2) ∧ w'.cell? ⟨g, 3, none⟩ = some (.slice a3 nl c3) := fun w' hw => by
    obtain ⟨_, hw⟩ := hw
    exact ⟨hw.cell 1, hw.cell 2, hw.cell 3⟩
  have H1 := Lib.hid h1
  have HC := Lib.hid hcell
  have K1 := Lib.hid k1
  have K2 := Lib.hid k2
  have S5 := Lib.hid s5
  clear h h1 hcell k1 k2 s1 s2 s3 s4 s5 r1 r2 r3 hbk hrb
  go_enter Tryd.func9, Tryd.ntmps9
  go_wp2_with fail
  rw [← hg]
  clear hg
  have h : Own E _ (Hp.blk g NT #[.bool leaf, .slice a1 nk c1, .slice a2 nv c2, .slice a3 nl c3] :: Hp.ro S :: L) := H1.out.drew
  refine wp_region_text [1, 4, 8] (fun w' => w'.cell? ⟨g, 1, none⟩ = some (.slice a1 nk c1) ∧ w'.cell? ⟨g, 2, none⟩ = some (.slice a2 nv c2) ∧ w'.cell? ⟨g, 3, none⟩ = some (.slice a3 nl c3)) (by kernel_rfl) ?_ (fun hS => ?_)
  · exact HC.out _ ⟨_, h⟩
  refine wpAnyG_pure (i := 0) (oi := ⟨some 3, _, _, _, _, _⟩) (v := ?_) rfl (by kernel_rfl) (by kernel_rfl) (by kernel_rfl) (by rfl) (fun _ _ _ h => h) (by rfl) ?_ ?_
  rotate_left
  · intro w
    go_simp
    first | done | with_reducible rfl
  try simp only [Act.put, List.setIfInBounds_toArray, List.set_cons_zero, List.set_cons_succ]
  refine wpAnyG_load (i := 1) (oi := ⟨some 4, _, _, _, _, _⟩) (v := ?_) rfl (by kernel_rfl) (by kernel_rfl) (by kernel_rfl) (by rfl) (fun _ _ _ h => h) (by rfl) ?_ (by assumption) ?_
  rotate_left
  · intro w hS
    try dsimp only at hS
    go_simp
    first | done | with_reducible rfl
  try simp only [Act.put, List.setIfInBounds_toArray, List.set_cons_zero, List.set_cons_succ]
  refine wpAnyG_pure (i := 3) (oi := ⟨some 6, _, _, _, _, _⟩) (v := ?_) rfl (by kernel_rfl) (by kernel_rfl) (by kernel_rfl) (by rfl) (fun _ _ _ h => h) (by rfl) ?_ ?_
  rotate_left
  · intro w
    go_simp
    first | done | with_reducible rfl
  try simp only [Act.put, List.setIfInBounds_toArray, List.set_cons_zero, List.set_cons_succ]
  refine wpAnyG_load (i := 4) (oi := ⟨some 7, _, _, _, _, _⟩) (v := ?_) rfl (by kernel_rfl) (by kernel_rfl) (by kernel_rfl) (by rfl) (fun _ _ _ h => h) (by rfl) ?_ (by assumption) ?_
  rotate_left
  · intro w hS
    try dsimp only at hS
    go_simp
    first | done | with_reducible rfl
  try simp only [Act.put, List.setIfInBounds_toArray, List.set_cons_zero, List.set_cons_succ]
  refine wpAnyG_pure (i := 7) (oi := ⟨some 10, _, _, _, _, _⟩) (v := ?_) rfl (by kernel_rfl) (by kernel_rfl) (by kernel_rfl) (by rfl) (fun _ _ _ h => h) (by rfl) ?_ ?_
  rotate_left
  · intro w
    go_simp
    first | done | with_reducible rfl
  try simp only [Act.put, List.setIfInBounds_toArray, List.set_cons_zero, List.set_cons_succ]
  refine wpAnyG_load (i := 8) (oi := ⟨some 11, _, _, _, _, _⟩) (v := ?_) rfl (by kernel_rfl) (by kernel_rfl) (by kernel_rfl) (by rfl) (fun _ _ _ h => h) (by rfl) ?_ (by assumption) ?_
  rotate_left
  · intro w hS
    try dsimp only at hS
    go_simp
    first | done | with_reducible rfl
  try simp only [Act.put, List.setIfInBounds_toArray, List.set_cons_zero, List.set_cons_succ]
  refine wpAnyG_pure (i := 9) (oi := ⟨some 12, _, _, _, _, _⟩) (v := ?_) rfl (by kernel_rfl) (by kernel_rfl) (by kernel_rfl) (by rfl) (fun _ _ _ h => h) (by rfl) ?_ ?_
  rotate_left
  · intro w
    go_simp
    first | done | with_reducible rfl
  try simp only [Act.put, List.setIfInBounds_toArray, List.set_cons_zero, List.set_cons_succ]
  refine wpAnyG_keep (i := 2) (oi := ⟨some 5, _, _, _, _, _⟩) (by kernel_rfl) rfl (fun K hK => ?_)
  rw [if_pos (by rfl)]
  go_simp
  first | have h := (h : Own _ _ (Hp.ro S :: _)) | have h := (h.f1 : Own _ _ (Hp.ro S :: _)) | have h := (h.f2 : Own _ _ (Hp.ro S :: _)) | have h := (h.f3 : Own _ _ (Hp.ro S :: _)) | have h := (h.f4 : Own _ _ (Hp.ro S :: _)) | have h := (h.f5 : Own _ _ (Hp.ro S :: _)) | have h := (h.f6 : Own _ _ (Hp.ro S :: _)) | have h := (h.f7 : Own _ _ (Hp.ro S :: _))
  refine (K1.out _ _ h).mono ?_
  rintro e w5 ⟨⟨z1, hz1, hy1, rfl⟩, h⟩
  refine hK.out _ _ ?_ (fun hS => ?_)
  · exact HC.out _ (by first | exact ⟨_, h⟩ | exact ⟨_, h.f1⟩ | exact ⟨_, h.f2⟩ | exact ⟨_, h.f3⟩ | exact ⟨_, h.f4⟩ | exact ⟨_, h.f5⟩ | exact ⟨_, h.f6⟩ | exact ⟨_, h.f7⟩)
  clear hK K
  try simp only [Act.put, List.setIfInBounds_toArray, List.set_cons_zero, List.set_cons_succ]
  refine wpAnyG_keep (i := 5) (oi := ⟨some 8, _, _, _, _, _⟩) (by kernel_rfl) rfl (fun K hK => ?_)
  rw [if_pos (by rfl)]
  go_simp
  refine (K2.out _ _ h).mono ?_
  rintro e w6 ⟨⟨z2, hz2, hy2, rfl⟩, h⟩
  refine hK.out _ _ ?_ (fun hS => ?_)
  · exact HC.out _ (by first | exact ⟨_, h⟩ | exact ⟨_, h.f1⟩ | exact ⟨_, h.f2⟩ | exact ⟨_, h.f3⟩ | exact ⟨_, h.f4⟩ | exact ⟨_, h.f5⟩ | exact ⟨_, h.f6⟩ | exact ⟨_, h.f7⟩)
  clear hK K
  try simp only [Act.put, List.setIfInBounds_toArray, List.set_cons_zero, List.set_cons_succ]
  refine wpAnyG_keep (i := 6) (oi := ⟨some 9, _, _, _, _, _⟩) (by kernel_rfl) rfl (fun K hK => ?_)
  rw [if_pos (by rfl)]
  go_simp
  refine (addsup_any z1 z2 _ (by omega) (by omega)).mono ?_
  rintro e w7 ⟨rfl, z3, hz3, hy3, rfl⟩
  refine hK.out _ _ ?_ (fun hS => ?_)
  · exact HC.out _ (by first | exact ⟨_, h⟩ | exact ⟨_, h.f1⟩ | exact ⟨_, h.f2⟩ | exact ⟨_, h.f3⟩ | exact ⟨_, h.f4⟩ | exact ⟨_, h.f5⟩ | exact ⟨_, h.f6⟩ | exact ⟨_, h.f7⟩)
  clear hK K
  try simp only [Act.put, List.setIfInBounds_toArray, List.set_cons_zero, List.set_cons_succ]
  refine wpAnyG_keep (i := 10) (oi := ⟨some 13, _, _, _, _, _⟩) (by kernel_rfl) rfl (fun K hK => ?_)
  rw [if_pos (by rfl)]
  go_simp
  refine (addsup_any z3 nl _ (by omega) (by have := S5.out; omega)).mono ?_
  rintro e w8 ⟨rfl, z4, hz4, hy4, rfl⟩
  refine hK.out _ _ ?_ (fun hS => ?_)
  · exact HC.out _ (by first | exact ⟨_, h⟩ | exact ⟨_, h.f1⟩ | exact ⟨_, h.f2⟩ | exact ⟨_, h.f3⟩ | exact ⟨_, h.f4⟩ | exact ⟨_, h.f5⟩ | exact ⟨_, h.f6⟩ | exact ⟨_, h.f7⟩)
  clear hK K
  try simp only [Act.put, List.setIfInBounds_toArray, List.set_cons_zero, List.set_cons_succ]
  refine wpAnyG_pure (i := 11) (oi := ⟨some 2, _, _, _, _, _⟩) (v := ?_) rfl (by kernel_rfl) (by kernel_rfl) (by kernel_rfl) (by rfl) (fun _ _ _ h => h) (by rfl) ?_ ?_
  rotate_left
  · intro w
    go_simp
    first | done | with_reducible rfl
  try simp only [Act.put, List.setIfInBounds_toArray, List.set_cons_zero, List.set_cons_succ]
  refine wpAnyG_done (by kernel_rfl) ?_ _
  refine NoPanic.normal ?_
  go_wp2_with fail
  go_ret
  exact ⟨⟨z4, hz4, fun hz => by have e4 := hy4 hz; have e3 := hy3 (by omega); have e2 := hy2 (by omega); have e1 := hy1 (by omega); omega, rfl⟩, h.f1.drop⟩
end
end Go.Proofs.YtbclmmneiphcaaaDoor
