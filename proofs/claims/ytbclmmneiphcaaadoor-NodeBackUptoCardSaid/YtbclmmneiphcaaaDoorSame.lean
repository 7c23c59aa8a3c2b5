/- latchkeylaw10.texts, ints, nodes, pages, of what is the same. -/
import Derived.Test.YtbclmmneiphcaaaDoorParse
namespace Go.Proofs.YtbclmmneiphcaaaDoor
open Go.RowKit
section
variable {E : World} {S : Ph} {L : List Hp}
set_option maxRecDepth 100000 in
set_option maxHeartbeats 1000000 in
theorem texts_same (A B : Option Addr) (n c d : Nat) (xs : List ByteArray) (w : World) (hn : n ≤ 1125899906842624) (hr : Rds S 1 enStr A n xs) (hs : Rds S 1 enStr B n xs) (h : Own E w (Hp.ro S :: L)) :
    Calls Tryd.prog 44 #[.slice A n c, .slice B n d] w fun e w' => e = .returned (.bool true) ∧ Own E w' (Hp.ro S :: L) := by
  go_enter Tryd.func44, Tryd.ntmps44
  go_wp2_with fail
  go_loopw [5] (fun i wr => ∃ k : Nat, k ≤ n ∧ i = .int .i64 k ∧ Own E wr (Hp.ro S :: L)) (fun i _ => n - (intOf i).toNat)
  case atStart => exact ⟨0, by omega, rfl, h⟩
  case round =>
    obtain ⟨k, hk, rfl, hw⟩ := hrel
    clear h
    by_cases hlt : k < n
    · obtain ⟨x, b, off, hx, rfl, hc⟩ := hr.get1 hlt
      obtain ⟨y, b2, off2, hy, rfl, hd⟩ := hs.get1 hlt
      rw [hx] at hy
      injection hy with hy
      subst hy
      have d1 := hw.drew.rd (hc _ rfl)
      have d2 := hw.drew.rd (hd _ rfl)
      have HW := Lib.hid hw.drew
      clear hc hd hx hw
      have j0 : (0 : Int) ≤ (k : Int) := by omega
      have j1 : (k : Int) < (n : Int) := by omega
      go_wp2_with fail
      refine wp_region_text [3, 7] (fun w' => w'.cell? ⟨b, off + k, none⟩ = some (.string x) ∧ w'.cell? ⟨b2, off2 + k, none⟩ = some (.string x)) (by kernel_rfl) ?_ (fun hS => ?_)
      · exact ⟨d1, d2⟩
      refine wpAnyG_pure (i := 0) (oi := ⟨some 17, _, _, _, _, _⟩) (v := ?_) rfl (by kernel_rfl) (by kernel_rfl) (by kernel_rfl) (by rfl) (fun _ _ _ h => h) (by rfl) ?_ ?_
      rotate_left
      · intro w
        go_simp
        first | done | with_reducible rfl
      try simp only [Act.put, List.setIfInBounds_toArray, List.set_cons_zero, List.set_cons_succ]
      refine wpAnyG_pure (i := 1) (oi := ⟨some 18, _, _, _, _, _⟩) (v := ?_) rfl (by kernel_rfl) (by kernel_rfl) (by kernel_rfl) (by rfl) (fun _ _ _ h => h) (by rfl) ?_ ?_
      rotate_left
      · intro w
        go_simp
        first | done | with_reducible rfl
      try simp only [Act.put, List.setIfInBounds_toArray, List.set_cons_zero, List.set_cons_succ]
      refine wpAnyG_pure (i := 2) (oi := ⟨some 19, _, _, _, _, _⟩) (v := ?_) rfl (by kernel_rfl) (by kernel_rfl) (by kernel_rfl) (by rfl) (fun _ _ _ h => h) (by rfl) ?_ ?_
      rotate_left
      · intro w
        go_simp
        first | done | with_reducible rfl
      try simp only [Act.put, List.setIfInBounds_toArray, List.set_cons_zero, List.set_cons_succ]
      refine wpAnyG_load (i := 3) (oi := ⟨some 20, _, _, _, _, _⟩) (v := ?_) rfl (by kernel_rfl) (by kernel_rfl) (by kernel_rfl) (by rfl) (fun _ _ _ h => h) (by rfl) ?_ (by assumption) ?_
      rotate_left
      · intro w hS
        try dsimp only at hS
        go_simp
        first | done | with_reducible rfl
      try simp only [Act.put, List.setIfInBounds_toArray, List.set_cons_zero, List.set_cons_succ]
      refine wpAnyG_pure (i := 4) (oi := ⟨some 21, _, _, _, _, _⟩) (v := ?_) rfl (by kernel_rfl) (by kernel_rfl) (by kernel_rfl) (by rfl) (fun _ _ _ h => h) (by rfl) ?_ ?_
      rotate_left
      · intro w
        go_simp
        first | done | with_reducible rfl
      try simp only [Act.put, List.setIfInBounds_toArray, List.set_cons_zero, List.set_cons_succ]
      refine wpAnyG_pure (i := 5) (oi := ⟨some 22, _, _, _, _, _⟩) (v := ?_) rfl (by kernel_rfl) (by kernel_rfl) (by kernel_rfl) (by rfl) (fun _ _ _ h => h) (by rfl) ?_ ?_
      rotate_left
      · intro w
        go_simp
        first | done | with_reducible rfl
      try simp only [Act.put, List.setIfInBounds_toArray, List.set_cons_zero, List.set_cons_succ]
      refine wpAnyG_pure (i := 6) (oi := ⟨some 23, _, _, _, _, _⟩) (v := ?_) rfl (by kernel_rfl) (by kernel_rfl) (by kernel_rfl) (by rfl) (fun _ _ _ h => h) (by rfl) ?_ ?_
      rotate_left
      · intro w
        go_simp
        first | done | with_reducible rfl
      try simp only [Act.put, List.setIfInBounds_toArray, List.set_cons_zero, List.set_cons_succ]
      refine wpAnyG_load (i := 7) (oi := ⟨some 24, _, _, _, _, _⟩) (v := ?_) rfl (by kernel_rfl) (by kernel_rfl) (by kernel_rfl) (by rfl) (fun _ _ _ h => h) (by rfl) ?_ (by assumption) ?_
      rotate_left
      · intro w hS
        try dsimp only at hS
        go_simp
        first | done | with_reducible rfl
      try simp only [Act.put, List.setIfInBounds_toArray, List.set_cons_zero, List.set_cons_succ]
      refine wpAnyG_pure (i := 8) (oi := ⟨some 25, _, _, _, _, _⟩) (v := ?_) rfl (by kernel_rfl) (by kernel_rfl) (by kernel_rfl) (by rfl) (fun _ _ _ h => h) (by rfl) ?_ ?_
      rotate_left
      · intro w
        go_simp
        first | done | with_reducible rfl
      try simp only [Act.put, List.setIfInBounds_toArray, List.set_cons_zero, List.set_cons_succ]
      refine wpAnyG_done (by kernel_rfl) ?_ _
      refine NoPanic.normal ?_
      go_wp2_with fail
      go_roundw
      case rel => exact ⟨k + 1, by omega, by go_num, HW.out⟩
      case measure => simp [intOf]; omega
    · have HW := Lib.hid hw
      clear hw
      go_wp2_with fail
      go_ret
      exact ⟨rfl, HW.out⟩
set_option maxRecDepth 100000 in
set_option maxHeartbeats 1000000 in
theorem ints_same (A B : Option Addr) (n c d : Nat) (xs : List Int) (w : World) (hn : n ≤ 1125899906842624) (hr : Rds S 1 en64 A n xs) (hs : Rds S 1 en64 B n xs) (h : Own E w (Hp.ro S :: L)) :
    Calls Tryd.prog 45 #[.slice A n c, .slice B n d] w fun e w' => e = .returned (.bool true) ∧ Own E w' (Hp.ro S :: L) := by
  go_enter Tryd.func45, Tryd.ntmps45
  go_wp2_with fail
  go_loopw [5] (fun i wr => ∃ k : Nat, k ≤ n ∧ i = .int .i64 k ∧ Own E wr (Hp.ro S :: L)) (fun i _ => n - (intOf i).toNat)
  case atStart => exact ⟨0, by omega, rfl, h⟩
  case round =>
    obtain ⟨k, hk, rfl, hw⟩ := hrel
    clear h
    by_cases hlt : k < n
    · obtain ⟨x, b, off, hx, rfl, hc⟩ := hr.get1 hlt
      obtain ⟨y, b2, off2, hy, rfl, hd⟩ := hs.get1 hlt
      rw [hx] at hy
      injection hy with hy
      subst hy
      have d1 := hw.drew.rd (hc _ rfl)
      have d2 := hw.drew.rd (hd _ rfl)
      have HW := Lib.hid hw.drew
      clear hc hd hx hw
      have j0 : (0 : Int) ≤ (k : Int) := by omega
      have j1 : (k : Int) < (n : Int) := by omega
      go_wp2_with fail
      refine wp_region_text [3, 7] (fun w' => w'.cell? ⟨b, off + k, none⟩ = some (.int .i64 x) ∧ w'.cell? ⟨b2, off2 + k, none⟩ = some (.int .i64 x)) (by kernel_rfl) ?_ (fun hS => ?_)
      · exact ⟨d1, d2⟩
      refine wpAnyG_pure (i := 0) (oi := ⟨some 17, _, _, _, _, _⟩) (v := ?_) rfl (by kernel_rfl) (by kernel_rfl) (by kernel_rfl) (by rfl) (fun _ _ _ h => h) (by rfl) ?_ ?_
      rotate_left
      · intro w
        go_simp
        first | done | with_reducible rfl
      try simp only [Act.put, List.setIfInBounds_toArray, List.set_cons_zero, List.set_cons_succ]
      refine wpAnyG_pure (i := 1) (oi := ⟨some 18, _, _, _, _, _⟩) (v := ?_) rfl (by kernel_rfl) (by kernel_rfl) (by kernel_rfl) (by rfl) (fun _ _ _ h => h) (by rfl) ?_ ?_
      rotate_left
      · intro w
        go_simp
        first | done | with_reducible rfl
      try simp only [Act.put, List.setIfInBounds_toArray, List.set_cons_zero, List.set_cons_succ]
      refine wpAnyG_pure (i := 2) (oi := ⟨some 19, _, _, _, _, _⟩) (v := ?_) rfl (by kernel_rfl) (by kernel_rfl) (by kernel_rfl) (by rfl) (fun _ _ _ h => h) (by rfl) ?_ ?_
      rotate_left
      · intro w
        go_simp
        first | done | with_reducible rfl
      try simp only [Act.put, List.setIfInBounds_toArray, List.set_cons_zero, List.set_cons_succ]
      refine wpAnyG_load (i := 3) (oi := ⟨some 20, _, _, _, _, _⟩) (v := ?_) rfl (by kernel_rfl) (by kernel_rfl) (by kernel_rfl) (by rfl) (fun _ _ _ h => h) (by rfl) ?_ (by assumption) ?_
      rotate_left
      · intro w hS
        try dsimp only at hS
        go_simp
        first | done | with_reducible rfl
      try simp only [Act.put, List.setIfInBounds_toArray, List.set_cons_zero, List.set_cons_succ]
      refine wpAnyG_pure (i := 4) (oi := ⟨some 21, _, _, _, _, _⟩) (v := ?_) rfl (by kernel_rfl) (by kernel_rfl) (by kernel_rfl) (by rfl) (fun _ _ _ h => h) (by rfl) ?_ ?_
      rotate_left
      · intro w
        go_simp
        first | done | with_reducible rfl
      try simp only [Act.put, List.setIfInBounds_toArray, List.set_cons_zero, List.set_cons_succ]
      refine wpAnyG_pure (i := 5) (oi := ⟨some 22, _, _, _, _, _⟩) (v := ?_) rfl (by kernel_rfl) (by kernel_rfl) (by kernel_rfl) (by rfl) (fun _ _ _ h => h) (by rfl) ?_ ?_
      rotate_left
      · intro w
        go_simp
        first | done | with_reducible rfl
      try simp only [Act.put, List.setIfInBounds_toArray, List.set_cons_zero, List.set_cons_succ]
      refine wpAnyG_pure (i := 6) (oi := ⟨some 23, _, _, _, _, _⟩) (v := ?_) rfl (by kernel_rfl) (by kernel_rfl) (by kernel_rfl) (by rfl) (fun _ _ _ h => h) (by rfl) ?_ ?_
      rotate_left
      · intro w
        go_simp
        first | done | with_reducible rfl
      try simp only [Act.put, List.setIfInBounds_toArray, List.set_cons_zero, List.set_cons_succ]
      refine wpAnyG_load (i := 7) (oi := ⟨some 24, _, _, _, _, _⟩) (v := ?_) rfl (by kernel_rfl) (by kernel_rfl) (by kernel_rfl) (by rfl) (fun _ _ _ h => h) (by rfl) ?_ (by assumption) ?_
      rotate_left
      · intro w hS
        try dsimp only at hS
        go_simp
        first | done | with_reducible rfl
      try simp only [Act.put, List.setIfInBounds_toArray, List.set_cons_zero, List.set_cons_succ]
      refine wpAnyG_pure (i := 8) (oi := ⟨some 25, _, _, _, _, _⟩) (v := ?_) rfl (by kernel_rfl) (by kernel_rfl) (by kernel_rfl) (by rfl) (fun _ _ _ h => h) (by rfl) ?_ ?_
      rotate_left
      · intro w
        go_simp
        first | done | with_reducible rfl
      try simp only [Act.put, List.setIfInBounds_toArray, List.set_cons_zero, List.set_cons_succ]
      refine wpAnyG_done (by kernel_rfl) ?_ _
      refine NoPanic.normal ?_
      go_wp2_with fail
      go_roundw
      case rel => exact ⟨k + 1, by omega, by go_num, HW.out⟩
      case measure => simp [intOf]; omega
    · have HW := Lib.hid hw
      clear hw
      go_wp2_with fail
      go_ret
      exact ⟨rfl, HW.out⟩
theorem Own.alloc2 {w : World} {L : List Hp} (h : Own E w L) (o o2 : Obj) : Own E ((w.alloc o).alloc o2) (Hp.obj (w.heap.size + 1) o2 :: Hp.obj w.heap.size o :: L) := by
  have h2 := (h.alloc o).alloc o2
  rwa [alloc_size] at h2
theorem Nd.lens {n : Nd} (h : n.bulk ≤ 1125899906842624) : n.ks.length ≤ 1125899906842624 ∧ n.vs.length ≤ 1125899906842624 ∧ n.ls.length ≤ 1125899906842624 := by
  unfold Nd.bulk at h; omega
set_option maxRecDepth 100000 in
set_option maxHeartbeats 2000000 in
theorem nodes_same (v u : Nv) (n : Nd) (w : World) (hb : n.bulk ≤ 1125899906842624) (hi : NdIn S v n) (hj : NdIn S u n) (h : Own E w (Hp.ro S :: L)) :
    Calls Tryd.prog 26 #[v.val n, u.val n] w fun e w' => e = .returned (.bool true) ∧ Own E w' (Hp.ro S :: L) := by
  obtain ⟨a1, c1, a2, c2, a3, c3⟩ := v
  obtain ⟨b1, d1, b2, d2, b3, d3⟩ := u
  obtain ⟨leaf, ks, vs, ls⟩ := n
  obtain ⟨l1, l2, l3⟩ := Nd.lens hb
  obtain ⟨r1, r2, r3, -, -, -, -, -, -⟩ := hi
  obtain ⟨s1, s2, s3, -, -, -, -, -, -⟩ := hj
  dsimp only [Nv.val] at *
  have h1 : Own E _ (Hp.blk (w.heap.size + 1) NT #[.bool leaf, .slice b1 ks.length d1, .slice b2 vs.length d2, .slice b3 ls.length d3] :: Hp.blk w.heap.size NT #[.bool leaf, .slice a1 ks.length c1, .slice a2 vs.length c2, .slice a3 ls.length c3] :: Hp.ro S :: L) := h.alloc2 _ _
  have hcell : ∀ w' g, (∃ L', Own E w' (Hp.ro S :: Hp.blk (g + 1) NT #[.bool leaf, .slice b1 ks.length d1, .slice b2 vs.length d2, .slice b3 ls.length d3] :: Hp.blk g NT #[.bool leaf, .slice a1 ks.length c1, .slice a2 vs.length c2, .slice a3 ls.length c3] :: L')) → w'.cell? ⟨g, 0, none⟩ = some (.bool leaf) ∧ w'.cell? ⟨g, 2, none⟩ = some (.slice a2 vs.length c2) ∧ w'.cell? ⟨g, 3, none⟩ = some (.slice a3 ls.length c3) ∧ w'.cell? ⟨g + 1, 0, none⟩ = some (.bool leaf) ∧ w'.cell? ⟨g + 1, 2, none⟩ = some (.slice b2 vs.length d2) ∧ w'.cell? ⟨g + 1, 3, none⟩ = some (.slice b3 ls.length d3) := fun w' g hw => by
    obtain ⟨_, hw⟩ := hw
    exact ⟨hw.f2.cell 0, hw.f2.cell 2, hw.f2.cell 3, hw.f1.cell 0, hw.f1.cell 2, hw.f1.cell 3⟩
  have k1 := fun w M hw => texts_same (E := E) (L := M) a1 b1 ks.length c1 d1 ks w l1 r1 s1 hw
  have k2 := fun w M hw => texts_same (E := E) (L := M) a2 b2 vs.length c2 d2 vs w l2 r2 s2 hw
  have k3 := fun w M hw => ints_same (E := E) (L := M) a3 b3 ls.length c3 d3 ls w l3 r3 s3 hw
  generalize ks.length = nk at *
  generalize vs.length = nv at *
  generalize ls.length = nl at *
  obtain ⟨g, hg⟩ : ∃ g, g = w.heap.size := ⟨_, rfl⟩
  rw [← hg] at h1
  have H1 := Lib.hid h1
  have HC := Lib.hid hcell
  have K1 := Lib.hid k1
  have K2 := Lib.hid k2
  have K3 := Lib.hid k3
  clear h h1 hcell k1 k2 k3 l1 l2 l3 r1 r2 r3 s1 s2 s3 hb
  go_enter Tryd.func26, Tryd.ntmps26
  go_wp2_with fail
  rw [← hg]
  clear hg
  refine (K1.out _ _ H1.out.f2).mono ?_
  rintro e w1 ⟨rfl, h1⟩
  obtain ⟨q0, q2, q3, p0, p2, p3⟩ := HC.out _ _ ⟨_, h1⟩
  have H2 := Lib.hid h1
  clear h1 H1
  go_wp2_with fail
  refine (K2.out _ _ H2.out).mono ?_
  rintro e w2 ⟨rfl, h1⟩
  clear q0 q2 q3 p0 p2 p3
  obtain ⟨q0, q2, q3, p0, p2, p3⟩ := HC.out _ _ ⟨_, h1⟩
  have H1 := Lib.hid h1
  clear h1 H2
  go_wp2_with fail
  refine (K3.out _ _ H1.out).mono ?_
  rintro e w3 ⟨rfl, h1⟩
  clear q0 q2 q3 p0 p2 p3
  obtain ⟨q0, q2, q3, p0, p2, p3⟩ := HC.out _ _ ⟨_, h1⟩
  have H2 := Lib.hid h1
  clear h1 H1 q2 q3 p2 p3
  cases leaf
  all_goals
    go_wp2_with fail
    go_ret
    exact ⟨rfl, H2.out.f2.drop.f1.drop⟩
set_option maxRecDepth 100000 in
set_option maxHeartbeats 2000000 in
theorem pages_same (A B : Option Addr) (c d : Nat) (p : Pg) (w : World) (hb : p.links.length ≤ 1125899906842624) (hi : Rds S 1 en64 A p.links.length p.links) (hj : Rds S 1 en64 B p.links.length p.links) (h : Own E w (Hp.ro S :: L)) :
    Calls Tryd.prog 27 #[p.val A c, p.val B d] w fun e w' => e = .returned (.bool true) ∧ Own E w' (Hp.ro S :: L) := by
  obtain ⟨kd, nm, br, ls, bd⟩ := p
  dsimp only [Pg.val] at *
  have h1 : Own E _ (Hp.blk (w.heap.size + 1) PT #[VI kd, VI nm, VI br, .slice B ls.length d, .string bd] :: Hp.blk w.heap.size PT #[VI kd, VI nm, VI br, .slice A ls.length c, .string bd] :: Hp.ro S :: L) := h.alloc2 _ _
  have k3 := fun w M hw => ints_same (E := E) (L := M) A B ls.length c d ls w hb hi hj hw
  generalize ls.length = nl at *
  obtain ⟨g, hg⟩ : ∃ g, g = w.heap.size := ⟨_, rfl⟩
  rw [← hg] at h1
  have H1 := Lib.hid h1
  have K3 := Lib.hid k3
  clear h h1 k3 hi hj hb
  go_enter Tryd.func27, Tryd.ntmps27
  go_wp2_with fail
  rw [← hg]
  clear hg
  refine (K3.out _ _ H1.out.f2).mono ?_
  rintro e w1 ⟨rfl, h1⟩
  have q0 : w1.cell? ⟨g, 0, none⟩ = some (VI kd) := h1.f2.cell 0
  have q1 : w1.cell? ⟨g, 1, none⟩ = some (VI nm) := h1.f2.cell 1
  have q2 : w1.cell? ⟨g, 2, none⟩ = some (VI br) := h1.f2.cell 2
  have q4 : w1.cell? ⟨g, 4, none⟩ = some (.string bd) := h1.f2.cell 4
  have p0 : w1.cell? ⟨g + 1, 0, none⟩ = some (VI kd) := h1.f1.cell 0
  have p1 : w1.cell? ⟨g + 1, 1, none⟩ = some (VI nm) := h1.f1.cell 1
  have p2 : w1.cell? ⟨g + 1, 2, none⟩ = some (VI br) := h1.f1.cell 2
  have p4 : w1.cell? ⟨g + 1, 4, none⟩ = some (.string bd) := h1.f1.cell 4
  have H2 := Lib.hid h1
  clear h1 H1
  go_wp2_with fail
  go_ret
  exact ⟨rfl, H2.out.f2.drop.f1.drop⟩
end
end Go.Proofs.YtbclmmneiphcaaaDoor
