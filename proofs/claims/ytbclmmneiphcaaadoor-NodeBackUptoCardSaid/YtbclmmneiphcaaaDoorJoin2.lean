/- node.Join (printed by gen_join.py). -/
import Derived.Test.YtbclmmneiphcaaaDoorJoin
namespace Go.Proofs.YtbclmmneiphcaaaDoor
open Go.RowKit
theorem Own.alloc3 {E w : World} {L : List Hp} (h : Own E w L) (o o2 o3 : Obj) : Own E (((w.alloc o).alloc o2).alloc o3) (Hp.obj (w.heap.size + 2) o3 :: Hp.obj (w.heap.size + 1) o2 :: Hp.obj w.heap.size o :: L) := by
  have h2 := (h.alloc2 o o2).alloc o3
  rwa [alloc_size, alloc_size] at h2
theorem put_bulk (a : Nd) (key : ByteArray) (b : Nd) : (a.put key b).bulk ≤ a.bulk + b.bulk + key.size + 1 := by
  unfold Nd.put Nd.bulk
  split
  · simp only [sumSz_app, List.length_append, List.length_nil]; omega
  · have e : sumSz [key] = key.size := by simp [sumSz]
    simp only [sumSz_app, List.length_append, List.length_nil, List.length_cons, e, sumSz_nil]; omega
section
variable {E : World} {S : Ph} {L : List Hp}
set_option maxRecDepth 100000 in
set_option maxHeartbeats 8000000 in
theorem join_any (v u : Nv) (a : Nd) (key : ByteArray) (b : Nd) (w : World) (hk : key.size ≤ 4294967296) (hb : a.bulk ≤ 2147483700) (hb2 : b.bulk ≤ 2147483700) (hi : NdIn S v a) (hj : NdIn S u b) (h : Own E w (Hp.ro S :: L)) :
    Calls Tryd.prog 33 #[v.val a, .string key, u.val b] w fun e w' => ∃ nv, e = .returned (.tuple #[nv, .int .i64 (joinE a key b)]) ∧ Own E w' (Hp.node nv (a.join key b) :: Hp.ro S :: L) := by
  have hbb : (a.put key b).bulk ≤ 1125899906842624 := by have := put_bulk a key b; omega
  have hf1 := fun w M hw => formed_any (E := E) (S := S) (L := M) v a 0 w (by omega) hi hw
  have hf2 := fun w M hw => formed_any (E := E) (S := S) (L := M) u b 0 w (by omega) hj hw
  have hs1 := fun w M hw => size_any (E := E) (S := S) (L := M) v a w (by omega) hi hw
  have hs2 := fun w M hw => size_any (E := E) (S := S) (L := M) u b w (by omega) hj hw
  have hm1 := fun w M hw => maybe_any (E := E) (S := S) (L := M) v.a1 a.ks.length v.c1 a.ks w (Nat.le_trans hi.h1 hi.m1) hi.r1 hw
  have hm2 := fun w M hw => maybe_any (E := E) (S := S) (L := M) u.a1 b.ks.length u.c1 b.ks w (Nat.le_trans hj.h1 hj.m1) hj.r1 hw
  have hap := fun w M hw => apart_any (E := E) (S := S) (L := M) v u a key b w (by omega) (by omega) hi hj hw
  obtain ⟨l1, l2, l3⟩ : a.ks.length ≤ 2147483700 ∧ a.vs.length ≤ 2147483700 ∧ a.ls.length ≤ 2147483700 := by unfold Nd.bulk at hb; omega
  obtain ⟨m1, m2, m3⟩ : b.ks.length ≤ 2147483700 ∧ b.vs.length ≤ 2147483700 ∧ b.ls.length ≤ 2147483700 := by unfold Nd.bulk at hb2; omega
  have hpe : joinE a key b = if ¬ (a.formed 0 = true ∧ b.formed 0 = true ∧ a.size ≤ 480 ∧ b.size ≤ 480) then 100
    else if ¬ (mayB a.ks = true ∧ mayB b.ks = true ∧ isKeyB key = true) then 101
    else if ¬ (a.leaf = b.leaf ∧ apartB a key b = true) then 103
    else if kidsB (a.put key b).ls = false then 103
    else if 718 < (a.put key b).size then 102 else 0 := rfl
  have hpn : a.join key b = if joinE a key b = 0 then a.put key b else Nd.nil := rfl
  have hpt : a.put key b = if a.leaf then ⟨true, a.ks ++ b.ks, a.vs ++ b.vs, []⟩ else ⟨false, a.ks ++ [key] ++ b.ks, [], a.ls ++ b.ls⟩ := rfl
  generalize a.join key b = pn at *
  generalize joinE a key b = pe at *
  generalize a.put key b = pt at *
  generalize hkd : kidsB pt.ls = kd at *
  generalize hpz : pt.size = pz at *
  generalize a.formed 0 = fa at *
  generalize b.formed 0 = fb at *
  generalize a.size = sa at *
  generalize b.size = sb at *
  generalize mayB a.ks = ma at *
  generalize mayB b.ks = mb at *
  generalize apartB a key b = ap at *
  generalize hik : isKeyB key = ik at *
  obtain ⟨a1, c1, a2, c2, a3, c3⟩ := v
  obtain ⟨b1, d1, b2, d2, b3, d3⟩ := u
  obtain ⟨leaf, ks, vs, ls⟩ := a
  obtain ⟨leaf2, ks2, vs2, ls2⟩ := b
  obtain ⟨r1, r2, r3, -, -, -, -, -, -⟩ := hi
  obtain ⟨s1, s2, s3, -, -, -, -, -, -⟩ := hj
  dsimp only [Nv.val] at *
  have h1 : Own E _ (Hp.blk (w.heap.size + 2) NT #[.bool false, .slice none 0 0, .slice none 0 0, .slice none 0 0] :: Hp.blk (w.heap.size + 1) NT #[.bool leaf2, .slice b1 ks2.length d1, .slice b2 vs2.length d2, .slice b3 ls2.length d3] :: Hp.blk w.heap.size NT #[.bool leaf, .slice a1 ks.length c1, .slice a2 vs.length c2, .slice a3 ls.length c3] :: Hp.ro S :: L) := h.alloc3 _ _ _
  have hcell : ∀ w', Own E w' (Hp.ro S :: Hp.blk (w.heap.size + 2) NT #[.bool false, .slice none 0 0, .slice none 0 0, .slice none 0 0] :: Hp.blk (w.heap.size + 1) NT #[.bool leaf2, .slice b1 ks2.length d1, .slice b2 vs2.length d2, .slice b3 ls2.length d3] :: Hp.blk w.heap.size NT #[.bool leaf, .slice a1 ks.length c1, .slice a2 vs.length c2, .slice a3 ls.length c3] :: L) → w'.cell? ⟨w.heap.size, 0, none⟩ = some (.bool leaf) ∧ w'.cell? ⟨w.heap.size, 1, none⟩ = some (.slice a1 ks.length c1) ∧ w'.cell? ⟨w.heap.size, 2, none⟩ = some (.slice a2 vs.length c2) ∧ w'.cell? ⟨w.heap.size, 3, none⟩ = some (.slice a3 ls.length c3) ∧ w'.cell? ⟨w.heap.size + 1, 0, none⟩ = some (.bool leaf2) ∧ w'.cell? ⟨w.heap.size + 1, 1, none⟩ = some (.slice b1 ks2.length d1) ∧ w'.cell? ⟨w.heap.size + 1, 2, none⟩ = some (.slice b2 vs2.length d2) ∧ w'.cell? ⟨w.heap.size + 1, 3, none⟩ = some (.slice b3 ls2.length d3) := fun w' hw =>
    ⟨hw.f3.cell 0, hw.f3.cell 1, hw.f3.cell 2, hw.f3.cell 3, hw.f2.cell 0, hw.f2.cell 1, hw.f2.cell 2, hw.f2.cell 3⟩
  obtain ⟨nt, hnt, hnr⟩ := nt_u
  obtain ⟨g, hg⟩ : ∃ g, g = w.heap.size := ⟨_, rfl⟩
  rw [← hg] at h1 hcell
  have HC := Lib.hid hcell
  have HFA := Lib.hid hf1
  have HFB := Lib.hid hf2
  have HSA := Lib.hid hs1
  have HSB := Lib.hid hs2
  have HMA := Lib.hid hm1
  have HMB := Lib.hid hm2
  have HAP := Lib.hid hap
  have HPE := Lib.hid hpe
  have HPN := Lib.hid hpn
  have HIK := Lib.hid hik
  have h := h1.f3
  clear h1 hcell hf1 hf2 hs1 hs2 hm1 hm2 hap hpe hpn hik hb hb2
  obtain ⟨p0, p1, p2, p3, q0, q1, q2, q3⟩ := HC.out _ h
  have H := Lib.hid h
  clear h p0 p1 p2 p3 q0 q1 q2 q3
  have p0 := trivial
  have p1 := trivial
  have p2 := trivial
  have p3 := trivial
  have q0 := trivial
  have q1 := trivial
  have q2 := trivial
  have q3 := trivial
  go_enter Tryd.func33, Tryd.ntmps33
  go_wp2_with fail
  rw [← hg]
  clear hg
  refine (HFA.out _ _ H.out).mono ?_
  rintro e w1 ⟨rfl, h⟩
  cases fa
  · obtain rfl : pe = 100 := by rw [HPE.out]; simp
    obtain rfl : pn = Nd.nil := by rw [HPN.out]; rfl
    have H := Lib.hid h.f1
    clear h
    go_wp2_with (with_reducible refine at_slot (k := none) ?_; refine wpList_store_whole (o := ⟨none, _, _, _, _, _⟩) (cs := [.bool false, .slice none 0 0, .slice none 0 0, .slice none 0 0]) (vs := [.bool false, .slice none 0 0, .slice none 0 0, .slice none 0 0]) H.out rfl (ND_all1 _ _ _ _ rfl rfl rfl) (by kernel_rfl) rfl rfl rfl rfl ?_; intro w7 h)
    refine bodyPost_ret (results_ct rfl rfl h hnt hnr (by kernel_rfl)) rfl ?_
    refine ⟨_, rfl, ?_⟩
    exact (h.drop.f2.drop.f1.drop).nilNode
  · clear p0 p1 p2 p3 q0 q1 q2 q3 H
    obtain ⟨p0, p1, p2, p3, q0, q1, q2, q3⟩ := HC.out _ h
    have H := Lib.hid h
    clear h
    go_wp2_with fail
    refine (HFB.out _ _ H.out).mono ?_
    rintro e w1 ⟨rfl, h⟩
    cases fb
    · obtain rfl : pe = 100 := by rw [HPE.out]; simp
      obtain rfl : pn = Nd.nil := by rw [HPN.out]; rfl
      have H := Lib.hid h.f1
      clear h
      go_wp2_with (with_reducible refine at_slot (k := none) ?_; refine wpList_store_whole (o := ⟨none, _, _, _, _, _⟩) (cs := [.bool false, .slice none 0 0, .slice none 0 0, .slice none 0 0]) (vs := [.bool false, .slice none 0 0, .slice none 0 0, .slice none 0 0]) H.out rfl (ND_all1 _ _ _ _ rfl rfl rfl) (by kernel_rfl) rfl rfl rfl rfl ?_; intro w7 h)
      refine bodyPost_ret (results_ct rfl rfl h hnt hnr (by kernel_rfl)) rfl ?_
      refine ⟨_, rfl, ?_⟩
      exact (h.drop.f2.drop.f1.drop).nilNode
    · clear p0 p1 p2 p3 q0 q1 q2 q3 H
      obtain ⟨p0, p1, p2, p3, q0, q1, q2, q3⟩ := HC.out _ h
      have H := Lib.hid h
      clear h
      go_wp2_with fail
      with_reducible refine (HSA.out _ _ H.out).mono ?_
      rintro e w1 ⟨rfl, h⟩
      by_cases hsa : 480 < sa
      · have hsai : (480 : Int) < sa := by omega
        have hsan : ¬ sa ≤ 480 := by omega
        obtain rfl : pe = 100 := by rw [HPE.out]; simp [hsan]
        obtain rfl : pn = Nd.nil := by rw [HPN.out]; rfl
        have H := Lib.hid h.f1
        clear h
        go_wp2_with (with_reducible refine at_slot (k := none) ?_; refine wpList_store_whole (o := ⟨none, _, _, _, _, _⟩) (cs := [.bool false, .slice none 0 0, .slice none 0 0, .slice none 0 0]) (vs := [.bool false, .slice none 0 0, .slice none 0 0, .slice none 0 0]) H.out rfl (ND_all1 _ _ _ _ rfl rfl rfl) (by kernel_rfl) rfl rfl rfl rfl ?_; intro w7 h)
        refine bodyPost_ret (results_ct rfl rfl h hnt hnr (by kernel_rfl)) rfl ?_
        refine ⟨_, rfl, ?_⟩
        exact (h.drop.f2.drop.f1.drop).nilNode
      · have hsai : ¬ (480 : Int) < sa := by omega
        have hsan : sa ≤ 480 := by omega
        clear p0 p1 p2 p3 q0 q1 q2 q3 H
        obtain ⟨p0, p1, p2, p3, q0, q1, q2, q3⟩ := HC.out _ h
        have H := Lib.hid h
        clear h
        go_wp2_with fail
        with_reducible refine (HSB.out _ _ H.out).mono ?_
        rintro e w1 ⟨rfl, h⟩
        by_cases hsb : 480 < sb
        · have hsbi : (480 : Int) < sb := by omega
          have hsbn : ¬ sb ≤ 480 := by omega
          obtain rfl : pe = 100 := by rw [HPE.out]; simp [hsbn]
          obtain rfl : pn = Nd.nil := by rw [HPN.out]; rfl
          have H := Lib.hid h.f1
          clear h
          go_wp2_with (with_reducible refine at_slot (k := none) ?_; refine wpList_store_whole (o := ⟨none, _, _, _, _, _⟩) (cs := [.bool false, .slice none 0 0, .slice none 0 0, .slice none 0 0]) (vs := [.bool false, .slice none 0 0, .slice none 0 0, .slice none 0 0]) H.out rfl (ND_all1 _ _ _ _ rfl rfl rfl) (by kernel_rfl) rfl rfl rfl rfl ?_; intro w7 h)
          refine bodyPost_ret (results_ct rfl rfl h hnt hnr (by kernel_rfl)) rfl ?_
          refine ⟨_, rfl, ?_⟩
          exact (h.drop.f2.drop.f1.drop).nilNode
        · have hsbi : ¬ (480 : Int) < sb := by omega
          have hsbn : sb ≤ 480 := by omega
          clear p0 p1 p2 p3 q0 q1 q2 q3 H
          obtain ⟨p0, p1, p2, p3, q0, q1, q2, q3⟩ := HC.out _ h
          have H := Lib.hid h
          clear h
          go_wp2_with fail
          with_reducible refine (HMA.out _ _ H.out).mono ?_
          rintro e w1 ⟨rfl, h⟩
          cases ma
          · obtain rfl : pe = 101 := by rw [HPE.out]; simp [hsan, hsbn]
            obtain rfl : pn = Nd.nil := by rw [HPN.out]; rfl
            have H := Lib.hid h.f1
            clear h
            go_wp2_with (with_reducible refine at_slot (k := none) ?_; refine wpList_store_whole (o := ⟨none, _, _, _, _, _⟩) (cs := [.bool false, .slice none 0 0, .slice none 0 0, .slice none 0 0]) (vs := [.bool false, .slice none 0 0, .slice none 0 0, .slice none 0 0]) H.out rfl (ND_all1 _ _ _ _ rfl rfl rfl) (by kernel_rfl) rfl rfl rfl rfl ?_; intro w7 h)
            refine bodyPost_ret (results_ct rfl rfl h hnt hnr (by kernel_rfl)) rfl ?_
            refine ⟨_, rfl, ?_⟩
            exact (h.drop.f2.drop.f1.drop).nilNode
          · clear p0 p1 p2 p3 q0 q1 q2 q3 H
            obtain ⟨p0, p1, p2, p3, q0, q1, q2, q3⟩ := HC.out _ h
            have H := Lib.hid h
            clear h
            go_wp2_with fail
            with_reducible refine (HMB.out _ _ H.out).mono ?_
            rintro e w1 ⟨rfl, h⟩
            cases mb
            · obtain rfl : pe = 101 := by rw [HPE.out]; simp [hsan, hsbn]
              obtain rfl : pn = Nd.nil := by rw [HPN.out]; rfl
              have H := Lib.hid h.f1
              clear h
              go_wp2_with (with_reducible refine at_slot (k := none) ?_; refine wpList_store_whole (o := ⟨none, _, _, _, _, _⟩) (cs := [.bool false, .slice none 0 0, .slice none 0 0, .slice none 0 0]) (vs := [.bool false, .slice none 0 0, .slice none 0 0, .slice none 0 0]) H.out rfl (ND_all1 _ _ _ _ rfl rfl rfl) (by kernel_rfl) rfl rfl rfl rfl ?_; intro w7 h)
              refine bodyPost_ret (results_ct rfl rfl h hnt hnr (by kernel_rfl)) rfl ?_
              refine ⟨_, rfl, ?_⟩
              exact (h.drop.f2.drop.f1.drop).nilNode
            · clear p0 p1 p2 p3 q0 q1 q2 q3 H
              obtain ⟨p0, p1, p2, p3, q0, q1, q2, q3⟩ := HC.out _ h
              have H := Lib.hid h
              clear h
              go_wp2_with fail
              refine (iskey_any key _).mono ?_
              rintro e w1 ⟨rfl, rfl⟩
              have h := H.out
              rw [HIK.out]
              cases ik
              · obtain rfl : pe = 101 := by rw [HPE.out]; simp [hsan, hsbn]
                obtain rfl : pn = Nd.nil := by rw [HPN.out]; rfl
                have H := Lib.hid h.f1
                clear h
                go_wp2_with (with_reducible refine at_slot (k := none) ?_; refine wpList_store_whole (o := ⟨none, _, _, _, _, _⟩) (cs := [.bool false, .slice none 0 0, .slice none 0 0, .slice none 0 0]) (vs := [.bool false, .slice none 0 0, .slice none 0 0, .slice none 0 0]) H.out rfl (ND_all1 _ _ _ _ rfl rfl rfl) (by kernel_rfl) rfl rfl rfl rfl ?_; intro w7 h)
                refine bodyPost_ret (results_ct rfl rfl h hnt hnr (by kernel_rfl)) rfl ?_
                refine ⟨_, rfl, ?_⟩
                exact (h.drop.f2.drop.f1.drop).nilNode
              · clear p0 p1 p2 p3 q0 q1 q2 q3 H
                obtain ⟨p0, p1, p2, p3, q0, q1, q2, q3⟩ := HC.out _ h
                have H := Lib.hid h
                clear h
                cases leaf <;> cases leaf2
                · go_wp2_with fail
                  with_reducible refine (HAP.out _ _ H.out).mono ?_
                  rintro e w1 ⟨rfl, h⟩
                  cases ap
                  · obtain rfl : pe = 103 := by rw [HPE.out]; simp [hsan, hsbn]
                    obtain rfl : pn = Nd.nil := by rw [HPN.out]; rfl
                    have H := Lib.hid h.f1
                    clear h
                    go_wp2_with (with_reducible refine at_slot (k := none) ?_; refine wpList_store_whole (o := ⟨none, _, _, _, _, _⟩) (cs := [.bool false, .slice none 0 0, .slice none 0 0, .slice none 0 0]) (vs := [.bool false, .slice none 0 0, .slice none 0 0, .slice none 0 0]) H.out rfl (ND_all1 _ _ _ _ rfl rfl rfl) (by kernel_rfl) rfl rfl rfl rfl ?_; intro w7 h)
                    refine bodyPost_ret (results_ct rfl rfl h hnt hnr (by kernel_rfl)) rfl ?_
                    refine ⟨_, rfl, ?_⟩
                    exact (h.drop.f2.drop.f1.drop).nilNode
                  · have hpt2 : pt = ⟨false, ks ++ [key] ++ ks2, [], ls ++ ls2⟩ := by simpa using hpt
                    subst hpt2
                    dsimp only at hkd
                    clear hpt
                    clear p0 p1 p2 p3 q0 q1 q2 q3 H
                    have hcell2 : ∀ w', (∃ L', Own E w' (Hp.blk g NT #[.bool false, .slice a1 ks.length c1, .slice a2 vs.length c2, .slice a3 ls.length c3] :: L')) → w'.cell? ⟨g, 0, none⟩ = some (.bool false) ∧ w'.cell? ⟨g, 1, none⟩ = some (.slice a1 ks.length c1) := fun w' hw => by
                      obtain ⟨_, hw⟩ := hw
                      exact ⟨hw.cell 0, hw.cell 1⟩
                    have HC3 := Lib.hid hcell2
                    have H := Lib.hid h
                    clear h hcell2
                    go_wp2_with fail
                    go_cut [8] from 109 (fun x8 w' => ∃ (g8 c8 : Nat) (A8 : Option Addr), x8 = .pointer (some ⟨g8, 0, none⟩) ∧ Own E w' (Hp.blk g8 NT #[.bool false, .slice A8 ks.length c8, .slice none 0 0, .slice none 0 0] :: Hp.strs (.slice A8 ks.length c8) ks :: Hp.ro S :: Hp.blk (g + 2) NT #[.bool false, .slice none 0 0, .slice none 0 0, .slice none 0 0] :: Hp.blk (g + 1) NT #[.bool false, .slice b1 ks2.length d1, .slice b2 vs2.length d2, .slice b3 ls2.length d3] :: Hp.blk g NT #[.bool false, .slice a1 ks.length c1, .slice a2 vs.length c2, .slice a3 ls.length c3] :: L))
                    case first =>
                      have h := H.out.drew
                      refine wp_region_text [1, 3] (fun w' => w'.cell? ⟨g, 0, none⟩ = some (.bool false) ∧ w'.cell? ⟨g, 1, none⟩ = some (.slice a1 ks.length c1)) (by kernel_rfl) ?_ (fun hS => ?_)
                      · exact HC3.out _ (by first | exact ⟨_, h⟩ | exact ⟨_, h.f1⟩ | exact ⟨_, h.f2⟩ | exact ⟨_, h.f3⟩ | exact ⟨_, h.f4⟩ | exact ⟨_, h.f5⟩ | exact ⟨_, h.f6⟩ | exact ⟨_, h.f7⟩ | exact ⟨_, h.f8⟩ | exact ⟨_, h.f9⟩ | exact ⟨_, h.f10⟩ | exact ⟨_, h.f11⟩ | exact ⟨_, h.f12⟩ | exact ⟨_, h.f13⟩ | exact ⟨_, h.f14⟩ | exact ⟨_, h.f15⟩)
                      refine wpAnyG_pure (i := 0) (oi := ⟨some 60, _, _, _, _, _⟩) (v := ?_) rfl (by kernel_rfl) (by kernel_rfl) (by kernel_rfl) (by rfl) (fun _ _ _ h => h) (by rfl) ?_ ?_
                      rotate_left
                      · intro w
                        go_simp
                        first | done | with_reducible rfl
                      try simp only [Act.put, List.setIfInBounds_toArray, List.set_cons_zero, List.set_cons_succ]
                      refine wpAnyG_load (i := 1) (oi := ⟨some 61, _, _, _, _, _⟩) (v := ?_) rfl (by kernel_rfl) (by kernel_rfl) (by kernel_rfl) (by rfl) (fun _ _ _ h => h) (by rfl) ?_ (by assumption) ?_
                      rotate_left
                      · intro w hS
                        try dsimp only at hS
                        go_simp
                        first | done | with_reducible rfl
                      try simp only [Act.put, List.setIfInBounds_toArray, List.set_cons_zero, List.set_cons_succ]
                      refine wpAnyG_pure (i := 2) (oi := ⟨some 62, _, _, _, _, _⟩) (v := ?_) rfl (by kernel_rfl) (by kernel_rfl) (by kernel_rfl) (by rfl) (fun _ _ _ h => h) (by rfl) ?_ ?_
                      rotate_left
                      · intro w
                        go_simp
                        first | done | with_reducible rfl
                      try simp only [Act.put, List.setIfInBounds_toArray, List.set_cons_zero, List.set_cons_succ]
                      refine wpAnyG_load (i := 3) (oi := ⟨some 63, _, _, _, _, _⟩) (v := ?_) rfl (by kernel_rfl) (by kernel_rfl) (by kernel_rfl) (by rfl) (fun _ _ _ h => h) (by rfl) ?_ (by assumption) ?_
                      rotate_left
                      · intro w hS
                        try dsimp only at hS
                        go_simp
                        first | done | with_reducible rfl
                      try simp only [Act.put, List.setIfInBounds_toArray, List.set_cons_zero, List.set_cons_succ]
                      refine wpAnyG_two (i := 4) (oi := ⟨some 64, _, _, _, _, _⟩) (j := 6) (oj := ⟨some 8, _, _, _, _, _⟩) (by kernel_rfl) rfl rfl (fun K hK => ?_) (fun K hK => ?_)
                      · skip
                        rw [if_pos (by rfl)]
                        go_simp
                        first | have h := (h : Own _ _ (Hp.ro S :: _)) | have h := (h.f1 : Own _ _ (Hp.ro S :: _)) | have h := (h.f2 : Own _ _ (Hp.ro S :: _)) | have h := (h.f3 : Own _ _ (Hp.ro S :: _)) | have h := (h.f4 : Own _ _ (Hp.ro S :: _)) | have h := (h.f5 : Own _ _ (Hp.ro S :: _)) | have h := (h.f6 : Own _ _ (Hp.ro S :: _)) | have h := (h.f7 : Own _ _ (Hp.ro S :: _)) | have h := (h.f8 : Own _ _ (Hp.ro S :: _)) | have h := (h.f9 : Own _ _ (Hp.ro S :: _)) | have h := (h.f10 : Own _ _ (Hp.ro S :: _)) | have h := (h.f11 : Own _ _ (Hp.ro S :: _)) | have h := (h.f12 : Own _ _ (Hp.ro S :: _)) | have h := (h.f13 : Own _ _ (Hp.ro S :: _)) | have h := (h.f14 : Own _ _ (Hp.ro S :: _)) | have h := (h.f15 : Own _ _ (Hp.ro S :: _))
                        refine (clone_str a1 ks.length c1 ks _ (by omega) r1 h).mono ?_
                        rintro e w5 ⟨v5, rfl, h⟩
                        obtain ⟨A5, c5, rfl, -⟩ := h.lstSlice
                        rw [List.length_map] at h ⊢
                        refine hK.out _ _ ?_ (fun hS => ?_)
                        · exact HC3.out _ (by first | exact ⟨_, h⟩ | exact ⟨_, h.f1⟩ | exact ⟨_, h.f2⟩ | exact ⟨_, h.f3⟩ | exact ⟨_, h.f4⟩ | exact ⟨_, h.f5⟩ | exact ⟨_, h.f6⟩ | exact ⟨_, h.f7⟩ | exact ⟨_, h.f8⟩ | exact ⟨_, h.f9⟩ | exact ⟨_, h.f10⟩ | exact ⟨_, h.f11⟩ | exact ⟨_, h.f12⟩ | exact ⟨_, h.f13⟩ | exact ⟨_, h.f14⟩ | exact ⟨_, h.f15⟩)
                        clear hK K
                        try simp only [Act.put, List.setIfInBounds_toArray, List.set_cons_zero, List.set_cons_succ]
                        refine wpAnyG_pure (i := 5) (oi := ⟨some 65, _, _, _, _, _⟩) (v := ?_) rfl (by kernel_rfl) (by kernel_rfl) (by kernel_rfl) (by rfl) (fun _ _ _ h => h) (by rfl) ?_ ?_
                        rotate_left
                        · intro w
                          go_simp
                          first | done | with_reducible rfl
                        try simp only [Act.put, List.setIfInBounds_toArray, List.set_cons_zero, List.set_cons_succ]
                        refine wpAnyG_keep (i := 6) (oi := ⟨some 8, _, _, _, _, _⟩) (by kernel_rfl) rfl (fun K hK => ?_)
                        rw [if_pos (by rfl)]
                        refine wp_alloc_own (cs := #[.bool false, .slice none 0 0, .slice none 0 0, .slice none 0 0]) (T := NT) h (by go_simp) (fun g4 w8 h => ?_)
                        refine hK.out _ _ ?_ (fun hS => ?_)
                        · exact HC3.out _ (by first | exact ⟨_, h⟩ | exact ⟨_, h.f1⟩ | exact ⟨_, h.f2⟩ | exact ⟨_, h.f3⟩ | exact ⟨_, h.f4⟩ | exact ⟨_, h.f5⟩ | exact ⟨_, h.f6⟩ | exact ⟨_, h.f7⟩ | exact ⟨_, h.f8⟩ | exact ⟨_, h.f9⟩ | exact ⟨_, h.f10⟩ | exact ⟨_, h.f11⟩ | exact ⟨_, h.f12⟩ | exact ⟨_, h.f13⟩ | exact ⟨_, h.f14⟩ | exact ⟨_, h.f15⟩)
                        clear hK K
                        try simp only [Act.put, List.setIfInBounds_toArray, List.set_cons_zero, List.set_cons_succ]
                        refine wpAnyG_keep (i := 7) (oi := ⟨none, _, _, _, _, _⟩) (by kernel_rfl) rfl (fun K hK => ?_)
                        rw [if_pos (by rfl)]
                        first | have h := (h : Own _ _ (Hp.blk g4 NT _ :: _)) | have h := (h.f1 : Own _ _ (Hp.blk g4 NT _ :: _)) | have h := (h.f2 : Own _ _ (Hp.blk g4 NT _ :: _)) | have h := (h.f3 : Own _ _ (Hp.blk g4 NT _ :: _)) | have h := (h.f4 : Own _ _ (Hp.blk g4 NT _ :: _)) | have h := (h.f5 : Own _ _ (Hp.blk g4 NT _ :: _)) | have h := (h.f6 : Own _ _ (Hp.blk g4 NT _ :: _)) | have h := (h.f7 : Own _ _ (Hp.blk g4 NT _ :: _)) | have h := (h.f8 : Own _ _ (Hp.blk g4 NT _ :: _)) | have h := (h.f9 : Own _ _ (Hp.blk g4 NT _ :: _)) | have h := (h.f10 : Own _ _ (Hp.blk g4 NT _ :: _)) | have h := (h.f11 : Own _ _ (Hp.blk g4 NT _ :: _)) | have h := (h.f12 : Own _ _ (Hp.blk g4 NT _ :: _)) | have h := (h.f13 : Own _ _ (Hp.blk g4 NT _ :: _)) | have h := (h.f14 : Own _ _ (Hp.blk g4 NT _ :: _)) | have h := (h.f15 : Own _ _ (Hp.blk g4 NT _ :: _))
                        refine wp_store_whole (cs := [.bool false, .slice none 0 0, .slice none 0 0, .slice none 0 0]) (vs := [.bool false, .slice A5 ks.length c5, .slice none 0 0, .slice none 0 0]) h rfl (ND_all1 _ _ _ _ rfl rfl rfl) (by kernel_rfl) rfl rfl rfl (fun w9 h => ?_)
                        refine hK.out _ _ ?_ (fun hS => ?_)
                        · exact HC3.out _ (by first | exact ⟨_, h⟩ | exact ⟨_, h.f1⟩ | exact ⟨_, h.f2⟩ | exact ⟨_, h.f3⟩ | exact ⟨_, h.f4⟩ | exact ⟨_, h.f5⟩ | exact ⟨_, h.f6⟩ | exact ⟨_, h.f7⟩ | exact ⟨_, h.f8⟩ | exact ⟨_, h.f9⟩ | exact ⟨_, h.f10⟩ | exact ⟨_, h.f11⟩ | exact ⟨_, h.f12⟩ | exact ⟨_, h.f13⟩ | exact ⟨_, h.f14⟩ | exact ⟨_, h.f15⟩)
                        clear hK K
                        try simp only [Act.put]
                        refine wpAnyG_done (by kernel_rfl) ?_ _
                        refine NoPanic.normal ?_
                        go_wp2_with fail
                        go_meet
                        case rel => exact ⟨g4, c5, A5, rfl, h.ac (by simp only [Hp.all] <;> ac_rfl)⟩
                      · skip
                        rw [if_pos (by rfl)]
                        refine wp_alloc_own (cs := #[.bool false, .slice none 0 0, .slice none 0 0, .slice none 0 0]) (T := NT) h (by go_simp) (fun g4 w8 h => ?_)
                        refine hK.out _ _ ?_ (fun hS => ?_)
                        · exact HC3.out _ (by first | exact ⟨_, h⟩ | exact ⟨_, h.f1⟩ | exact ⟨_, h.f2⟩ | exact ⟨_, h.f3⟩ | exact ⟨_, h.f4⟩ | exact ⟨_, h.f5⟩ | exact ⟨_, h.f6⟩ | exact ⟨_, h.f7⟩ | exact ⟨_, h.f8⟩ | exact ⟨_, h.f9⟩ | exact ⟨_, h.f10⟩ | exact ⟨_, h.f11⟩ | exact ⟨_, h.f12⟩ | exact ⟨_, h.f13⟩ | exact ⟨_, h.f14⟩ | exact ⟨_, h.f15⟩)
                        clear hK K
                        try simp only [Act.put, List.setIfInBounds_toArray, List.set_cons_zero, List.set_cons_succ]
                        refine wpAnyG_keep (i := 4) (oi := ⟨some 64, _, _, _, _, _⟩) (by kernel_rfl) rfl (fun K hK => ?_)
                        rw [if_pos (by rfl)]
                        go_simp
                        first | have h := (h : Own _ _ (Hp.ro S :: _)) | have h := (h.f1 : Own _ _ (Hp.ro S :: _)) | have h := (h.f2 : Own _ _ (Hp.ro S :: _)) | have h := (h.f3 : Own _ _ (Hp.ro S :: _)) | have h := (h.f4 : Own _ _ (Hp.ro S :: _)) | have h := (h.f5 : Own _ _ (Hp.ro S :: _)) | have h := (h.f6 : Own _ _ (Hp.ro S :: _)) | have h := (h.f7 : Own _ _ (Hp.ro S :: _)) | have h := (h.f8 : Own _ _ (Hp.ro S :: _)) | have h := (h.f9 : Own _ _ (Hp.ro S :: _)) | have h := (h.f10 : Own _ _ (Hp.ro S :: _)) | have h := (h.f11 : Own _ _ (Hp.ro S :: _)) | have h := (h.f12 : Own _ _ (Hp.ro S :: _)) | have h := (h.f13 : Own _ _ (Hp.ro S :: _)) | have h := (h.f14 : Own _ _ (Hp.ro S :: _)) | have h := (h.f15 : Own _ _ (Hp.ro S :: _))
                        refine (clone_str a1 ks.length c1 ks _ (by omega) r1 h).mono ?_
                        rintro e w5 ⟨v5, rfl, h⟩
                        obtain ⟨A5, c5, rfl, -⟩ := h.lstSlice
                        rw [List.length_map] at h ⊢
                        refine hK.out _ _ ?_ (fun hS => ?_)
                        · exact HC3.out _ (by first | exact ⟨_, h⟩ | exact ⟨_, h.f1⟩ | exact ⟨_, h.f2⟩ | exact ⟨_, h.f3⟩ | exact ⟨_, h.f4⟩ | exact ⟨_, h.f5⟩ | exact ⟨_, h.f6⟩ | exact ⟨_, h.f7⟩ | exact ⟨_, h.f8⟩ | exact ⟨_, h.f9⟩ | exact ⟨_, h.f10⟩ | exact ⟨_, h.f11⟩ | exact ⟨_, h.f12⟩ | exact ⟨_, h.f13⟩ | exact ⟨_, h.f14⟩ | exact ⟨_, h.f15⟩)
                        clear hK K
                        try simp only [Act.put, List.setIfInBounds_toArray, List.set_cons_zero, List.set_cons_succ]
                        refine wpAnyG_pure (i := 5) (oi := ⟨some 65, _, _, _, _, _⟩) (v := ?_) rfl (by kernel_rfl) (by kernel_rfl) (by kernel_rfl) (by rfl) (fun _ _ _ h => h) (by rfl) ?_ ?_
                        rotate_left
                        · intro w
                          go_simp
                          first | done | with_reducible rfl
                        try simp only [Act.put, List.setIfInBounds_toArray, List.set_cons_zero, List.set_cons_succ]
                        refine wpAnyG_keep (i := 7) (oi := ⟨none, _, _, _, _, _⟩) (by kernel_rfl) rfl (fun K hK => ?_)
                        rw [if_pos (by rfl)]
                        first | have h := (h : Own _ _ (Hp.blk g4 NT _ :: _)) | have h := (h.f1 : Own _ _ (Hp.blk g4 NT _ :: _)) | have h := (h.f2 : Own _ _ (Hp.blk g4 NT _ :: _)) | have h := (h.f3 : Own _ _ (Hp.blk g4 NT _ :: _)) | have h := (h.f4 : Own _ _ (Hp.blk g4 NT _ :: _)) | have h := (h.f5 : Own _ _ (Hp.blk g4 NT _ :: _)) | have h := (h.f6 : Own _ _ (Hp.blk g4 NT _ :: _)) | have h := (h.f7 : Own _ _ (Hp.blk g4 NT _ :: _)) | have h := (h.f8 : Own _ _ (Hp.blk g4 NT _ :: _)) | have h := (h.f9 : Own _ _ (Hp.blk g4 NT _ :: _)) | have h := (h.f10 : Own _ _ (Hp.blk g4 NT _ :: _)) | have h := (h.f11 : Own _ _ (Hp.blk g4 NT _ :: _)) | have h := (h.f12 : Own _ _ (Hp.blk g4 NT _ :: _)) | have h := (h.f13 : Own _ _ (Hp.blk g4 NT _ :: _)) | have h := (h.f14 : Own _ _ (Hp.blk g4 NT _ :: _)) | have h := (h.f15 : Own _ _ (Hp.blk g4 NT _ :: _))
                        refine wp_store_whole (cs := [.bool false, .slice none 0 0, .slice none 0 0, .slice none 0 0]) (vs := [.bool false, .slice A5 ks.length c5, .slice none 0 0, .slice none 0 0]) h rfl (ND_all1 _ _ _ _ rfl rfl rfl) (by kernel_rfl) rfl rfl rfl (fun w9 h => ?_)
                        refine hK.out _ _ ?_ (fun hS => ?_)
                        · exact HC3.out _ (by first | exact ⟨_, h⟩ | exact ⟨_, h.f1⟩ | exact ⟨_, h.f2⟩ | exact ⟨_, h.f3⟩ | exact ⟨_, h.f4⟩ | exact ⟨_, h.f5⟩ | exact ⟨_, h.f6⟩ | exact ⟨_, h.f7⟩ | exact ⟨_, h.f8⟩ | exact ⟨_, h.f9⟩ | exact ⟨_, h.f10⟩ | exact ⟨_, h.f11⟩ | exact ⟨_, h.f12⟩ | exact ⟨_, h.f13⟩ | exact ⟨_, h.f14⟩ | exact ⟨_, h.f15⟩)
                        clear hK K
                        try simp only [Act.put]
                        refine wpAnyG_done (by kernel_rfl) ?_ _
                        refine NoPanic.normal ?_
                        go_wp2_with fail
                        go_meet
                        case rel => exact ⟨g4, c5, A5, rfl, h.ac (by simp only [Hp.all] <;> ac_rfl)⟩
                    obtain ⟨g8, c8, A8, rfl, h⟩ := hcut
                    have hcell2 : ∀ w', (∃ L', Own E w' (Hp.blk (g + 1) NT #[.bool false, .slice b1 ks2.length d1, .slice b2 vs2.length d2, .slice b3 ls2.length d3] :: Hp.blk g NT #[.bool false, .slice a1 ks.length c1, .slice a2 vs.length c2, .slice a3 ls.length c3] :: L')) → w'.cell? ⟨g, 3, none⟩ = some (.slice a3 ls.length c3) ∧ w'.cell? ⟨g + 1, 3, none⟩ = some (.slice b3 ls2.length d3) := fun w' hw => by
                      obtain ⟨_, hw⟩ := hw
                      exact ⟨hw.f1.cell 3, hw.cell 3⟩
                    have q0 : wc.cell? ⟨g, 0, none⟩ = some (.bool false) := h.f5.cell 0
                    have HC4 := Lib.hid hcell2
                    clear hcell2 HC3 H
                    have hcell3 : ∀ w', (∃ L', Own E w' (Hp.blk g NT #[.bool false, .slice a1 ks.length c1, .slice a2 vs.length c2, .slice a3 ls.length c3] :: L')) → w'.cell? ⟨g, 3, none⟩ = some (.slice a3 ls.length c3) := fun w' hw => by
                      obtain ⟨_, hw⟩ := hw
                      exact hw.cell 3
                    have hcell4 : ∀ w', (∃ L', Own E w' (Hp.blk (g + 1) NT #[.bool false, .slice b1 ks2.length d1, .slice b2 vs2.length d2, .slice b3 ls2.length d3] :: L')) → w'.cell? ⟨g + 1, 3, none⟩ = some (.slice b3 ls2.length d3) := fun w' hw => by
                      obtain ⟨_, hw⟩ := hw
                      exact hw.cell 3
                    have hboth : ∀ w' L1, Own E w' (Hp.ro S :: L1) → True := fun _ _ _ => trivial
                    have HC5 := Lib.hid hcell3
                    have HC6 := Lib.hid hcell4
                    clear hcell3 hcell4 hboth HC4
                    have e1 := h.cell 1
                    have f1 := h.frozen 1
                    obtain ⟨v6, wb, hap, h⟩ := lst_append_new (P := Tryd.prog) (t := LST) (ty := LST) lst_u st_info (by rfl) h.f1 #[.string key] 1 rfl (VS_one [key]) (by unfold maxLen; rw [List.length_map]; omega) (by rw [List.length_map]; omega)
                    have e9 : ks.map VS ++ (#[Value.string key] : Array Value).toList = (ks ++ [key]).map VS := by simp
                    rw [e9] at h
                    obtain ⟨A9, c9, rfl, -⟩ := h.lstSlice
                    have e8 : ((ks ++ [key]).map VS).length = ks.length + 1 := by simp
                    rw [e8] at h hap
                    have e2 := h.f1.cell 1
                    have f2 := h.f1.frozen 1
                    have h := h.f1.set 1 (.slice A9 (ks.length + 1) c9)
                    have H := Lib.hid h
                    clear h e9 e8
                    go_wp2_with (with_reducible refine at_slot (k := some 80) ?_; refine wpList_append_run (o := ⟨some 80, _, _, _, _, _⟩) hap rfl rfl rfl rfl ?_; clear hap)
                    have h : Own E _ (Hp.blk g8 NT #[.bool false, .slice A9 (ks.length + 1) c9, .slice none 0 0, .slice none 0 0] :: _) := H.out
                    generalize World.setCell _ _ _ = wz at h ⊢
                    clear q0 e1 f1 e2 f2 H
                    have h := h.drew
                    refine wp_region_text [1, 4] (fun w' => w'.cell? ⟨g, 3, none⟩ = some (.slice a3 ls.length c3) ∧ w'.cell? ⟨g + 1, 3, none⟩ = some (.slice b3 ls2.length d3)) (by kernel_rfl) ?_ (fun hS => ?_)
                    · exact ⟨HC5.out _ (by first | exact ⟨_, h⟩ | exact ⟨_, h.f1⟩ | exact ⟨_, h.f2⟩ | exact ⟨_, h.f3⟩ | exact ⟨_, h.f4⟩ | exact ⟨_, h.f5⟩ | exact ⟨_, h.f6⟩ | exact ⟨_, h.f7⟩ | exact ⟨_, h.f8⟩ | exact ⟨_, h.f9⟩ | exact ⟨_, h.f10⟩ | exact ⟨_, h.f11⟩ | exact ⟨_, h.f12⟩ | exact ⟨_, h.f13⟩ | exact ⟨_, h.f14⟩ | exact ⟨_, h.f15⟩), HC6.out _ (by first | exact ⟨_, h⟩ | exact ⟨_, h.f1⟩ | exact ⟨_, h.f2⟩ | exact ⟨_, h.f3⟩ | exact ⟨_, h.f4⟩ | exact ⟨_, h.f5⟩ | exact ⟨_, h.f6⟩ | exact ⟨_, h.f7⟩ | exact ⟨_, h.f8⟩ | exact ⟨_, h.f9⟩ | exact ⟨_, h.f10⟩ | exact ⟨_, h.f11⟩ | exact ⟨_, h.f12⟩ | exact ⟨_, h.f13⟩ | exact ⟨_, h.f14⟩ | exact ⟨_, h.f15⟩)⟩
                    refine wpAnyG_pure (i := 0) (oi := ⟨some 82, _, _, _, _, _⟩) (v := ?_) rfl (by kernel_rfl) (by kernel_rfl) (by kernel_rfl) (by rfl) (fun _ _ _ h => h) (by rfl) ?_ ?_
                    rotate_left
                    · intro w
                      go_simp
                      first | done | with_reducible rfl
                    try simp only [Act.put, List.setIfInBounds_toArray, List.set_cons_zero, List.set_cons_succ]
                    refine wpAnyG_load (i := 1) (oi := ⟨some 83, _, _, _, _, _⟩) (v := ?_) rfl (by kernel_rfl) (by kernel_rfl) (by kernel_rfl) (by rfl) (fun _ _ _ h => h) (by rfl) ?_ (by assumption) ?_
                    rotate_left
                    · intro w hS
                      try dsimp only at hS
                      go_simp
                      first | done | with_reducible rfl
                    try simp only [Act.put, List.setIfInBounds_toArray, List.set_cons_zero, List.set_cons_succ]
                    refine wpAnyG_pure (i := 3) (oi := ⟨some 85, _, _, _, _, _⟩) (v := ?_) rfl (by kernel_rfl) (by kernel_rfl) (by kernel_rfl) (by rfl) (fun _ _ _ h => h) (by rfl) ?_ ?_
                    rotate_left
                    · intro w
                      go_simp
                      first | done | with_reducible rfl
                    try simp only [Act.put, List.setIfInBounds_toArray, List.set_cons_zero, List.set_cons_succ]
                    refine wpAnyG_load (i := 4) (oi := ⟨some 86, _, _, _, _, _⟩) (v := ?_) rfl (by kernel_rfl) (by kernel_rfl) (by kernel_rfl) (by rfl) (fun _ _ _ h => h) (by rfl) ?_ (by assumption) ?_
                    rotate_left
                    · intro w hS
                      try dsimp only at hS
                      go_simp
                      first | done | with_reducible rfl
                    try simp only [Act.put, List.setIfInBounds_toArray, List.set_cons_zero, List.set_cons_succ]
                    refine wpAnyG_keep (i := 2) (oi := ⟨some 84, _, _, _, _, _⟩) (by kernel_rfl) rfl (fun K hK => ?_)
                    rw [if_pos (by rfl)]
                    go_simp
                    first | have h := (h : Own _ _ (Hp.ro S :: _)) | have h := (h.f1 : Own _ _ (Hp.ro S :: _)) | have h := (h.f2 : Own _ _ (Hp.ro S :: _)) | have h := (h.f3 : Own _ _ (Hp.ro S :: _)) | have h := (h.f4 : Own _ _ (Hp.ro S :: _)) | have h := (h.f5 : Own _ _ (Hp.ro S :: _)) | have h := (h.f6 : Own _ _ (Hp.ro S :: _)) | have h := (h.f7 : Own _ _ (Hp.ro S :: _)) | have h := (h.f8 : Own _ _ (Hp.ro S :: _)) | have h := (h.f9 : Own _ _ (Hp.ro S :: _)) | have h := (h.f10 : Own _ _ (Hp.ro S :: _)) | have h := (h.f11 : Own _ _ (Hp.ro S :: _)) | have h := (h.f12 : Own _ _ (Hp.ro S :: _)) | have h := (h.f13 : Own _ _ (Hp.ro S :: _)) | have h := (h.f14 : Own _ _ (Hp.ro S :: _)) | have h := (h.f15 : Own _ _ (Hp.ro S :: _))
                    refine (clone_int a3 ls.length c3 ls _ (by omega) r3 h).mono ?_
                    rintro e w5 ⟨v5, rfl, h⟩
                    obtain ⟨A5, c5, rfl, -⟩ := h.lstSlice
                    rw [List.length_map] at h ⊢
                    refine hK.out _ _ ?_ (fun hS => ?_)
                    · exact ⟨HC5.out _ (by first | exact ⟨_, h⟩ | exact ⟨_, h.f1⟩ | exact ⟨_, h.f2⟩ | exact ⟨_, h.f3⟩ | exact ⟨_, h.f4⟩ | exact ⟨_, h.f5⟩ | exact ⟨_, h.f6⟩ | exact ⟨_, h.f7⟩ | exact ⟨_, h.f8⟩ | exact ⟨_, h.f9⟩ | exact ⟨_, h.f10⟩ | exact ⟨_, h.f11⟩ | exact ⟨_, h.f12⟩ | exact ⟨_, h.f13⟩ | exact ⟨_, h.f14⟩ | exact ⟨_, h.f15⟩), HC6.out _ (by first | exact ⟨_, h⟩ | exact ⟨_, h.f1⟩ | exact ⟨_, h.f2⟩ | exact ⟨_, h.f3⟩ | exact ⟨_, h.f4⟩ | exact ⟨_, h.f5⟩ | exact ⟨_, h.f6⟩ | exact ⟨_, h.f7⟩ | exact ⟨_, h.f8⟩ | exact ⟨_, h.f9⟩ | exact ⟨_, h.f10⟩ | exact ⟨_, h.f11⟩ | exact ⟨_, h.f12⟩ | exact ⟨_, h.f13⟩ | exact ⟨_, h.f14⟩ | exact ⟨_, h.f15⟩)⟩
                    clear hK K
                    try simp only [Act.put, List.setIfInBounds_toArray, List.set_cons_zero, List.set_cons_succ]
                    refine wpAnyG_keep (i := 5) (oi := ⟨some 87, _, _, _, _, _⟩) (by kernel_rfl) rfl (fun K hK => ?_)
                    rw [if_pos (by rfl)]
                    have hrd : RdC _ b3 (ls2.map VI) := Rds.rdC s3 h.f1
                    obtain ⟨v6, w6, hap, h⟩ := lst_append (P := Tryd.prog) (t := LIT) (ty := LIT) lit_u it_info (by rfl) h b3 ls2.length d3 (ls2.map VI) (by rw [List.length_map]) hrd (VI_one _) (by unfold maxLen; rw [List.length_map]; omega) (by rw [List.length_map]; omega)
                    refine wp_append_run hap rfl rfl rfl ?_
                    obtain ⟨A6, c6, rfl, -⟩ := h.lstSlice
                    rw [← List.map_append, List.length_map, List.length_append] at h ⊢
                    refine hK.out _ _ ?_ (fun hS => ?_)
                    · exact ⟨HC5.out _ (by first | exact ⟨_, h⟩ | exact ⟨_, h.f1⟩ | exact ⟨_, h.f2⟩ | exact ⟨_, h.f3⟩ | exact ⟨_, h.f4⟩ | exact ⟨_, h.f5⟩ | exact ⟨_, h.f6⟩ | exact ⟨_, h.f7⟩ | exact ⟨_, h.f8⟩ | exact ⟨_, h.f9⟩ | exact ⟨_, h.f10⟩ | exact ⟨_, h.f11⟩ | exact ⟨_, h.f12⟩ | exact ⟨_, h.f13⟩ | exact ⟨_, h.f14⟩ | exact ⟨_, h.f15⟩), HC6.out _ (by first | exact ⟨_, h⟩ | exact ⟨_, h.f1⟩ | exact ⟨_, h.f2⟩ | exact ⟨_, h.f3⟩ | exact ⟨_, h.f4⟩ | exact ⟨_, h.f5⟩ | exact ⟨_, h.f6⟩ | exact ⟨_, h.f7⟩ | exact ⟨_, h.f8⟩ | exact ⟨_, h.f9⟩ | exact ⟨_, h.f10⟩ | exact ⟨_, h.f11⟩ | exact ⟨_, h.f12⟩ | exact ⟨_, h.f13⟩ | exact ⟨_, h.f14⟩ | exact ⟨_, h.f15⟩)⟩
                    clear hK K
                    try simp only [Act.put, List.setIfInBounds_toArray, List.set_cons_zero, List.set_cons_succ]
                    refine wpAnyG_keep (i := 6) (oi := ⟨some 88, _, _, _, _, _⟩) (by kernel_rfl) rfl (fun K hK => ?_)
                    rw [if_pos (by rfl)]
                    go_simp
                    refine (clip_int _ _ _ (ls ++ ls2) _ h).mono ?_
                    rintro e w7 ⟨v7, rfl, h⟩
                    obtain ⟨A7, c7, rfl, -⟩ := h.lstSlice
                    rw [List.length_map, List.length_append] at h ⊢
                    refine hK.out _ _ ?_ (fun hS => ?_)
                    · exact ⟨HC5.out _ (by first | exact ⟨_, h⟩ | exact ⟨_, h.f1⟩ | exact ⟨_, h.f2⟩ | exact ⟨_, h.f3⟩ | exact ⟨_, h.f4⟩ | exact ⟨_, h.f5⟩ | exact ⟨_, h.f6⟩ | exact ⟨_, h.f7⟩ | exact ⟨_, h.f8⟩ | exact ⟨_, h.f9⟩ | exact ⟨_, h.f10⟩ | exact ⟨_, h.f11⟩ | exact ⟨_, h.f12⟩ | exact ⟨_, h.f13⟩ | exact ⟨_, h.f14⟩ | exact ⟨_, h.f15⟩), HC6.out _ (by first | exact ⟨_, h⟩ | exact ⟨_, h.f1⟩ | exact ⟨_, h.f2⟩ | exact ⟨_, h.f3⟩ | exact ⟨_, h.f4⟩ | exact ⟨_, h.f5⟩ | exact ⟨_, h.f6⟩ | exact ⟨_, h.f7⟩ | exact ⟨_, h.f8⟩ | exact ⟨_, h.f9⟩ | exact ⟨_, h.f10⟩ | exact ⟨_, h.f11⟩ | exact ⟨_, h.f12⟩ | exact ⟨_, h.f13⟩ | exact ⟨_, h.f14⟩ | exact ⟨_, h.f15⟩)⟩
                    clear hK K
                    try simp only [Act.put, List.setIfInBounds_toArray, List.set_cons_zero, List.set_cons_succ]
                    refine wpAnyG_pure (i := 7) (oi := ⟨some 89, _, _, _, _, _⟩) (v := ?_) rfl (by kernel_rfl) (by kernel_rfl) (by kernel_rfl) (by rfl) (fun _ _ _ h => h) (by rfl) ?_ ?_
                    rotate_left
                    · intro w
                      go_simp
                      first | done | with_reducible rfl
                    try simp only [Act.put, List.setIfInBounds_toArray, List.set_cons_zero, List.set_cons_succ]
                    refine wpAnyG_break (i := 8) (oi := ⟨none, _, _, _, _, _⟩) (by kernel_rfl) rfl (by kernel_rfl) (fun K hK => ?_)
                    rw [if_pos (by rfl)]
                    first | have h := (h : Own _ _ (Hp.blk g8 NT _ :: _)) | have h := (h.f1 : Own _ _ (Hp.blk g8 NT _ :: _)) | have h := (h.f2 : Own _ _ (Hp.blk g8 NT _ :: _)) | have h := (h.f3 : Own _ _ (Hp.blk g8 NT _ :: _)) | have h := (h.f4 : Own _ _ (Hp.blk g8 NT _ :: _)) | have h := (h.f5 : Own _ _ (Hp.blk g8 NT _ :: _)) | have h := (h.f6 : Own _ _ (Hp.blk g8 NT _ :: _)) | have h := (h.f7 : Own _ _ (Hp.blk g8 NT _ :: _)) | have h := (h.f8 : Own _ _ (Hp.blk g8 NT _ :: _)) | have h := (h.f9 : Own _ _ (Hp.blk g8 NT _ :: _)) | have h := (h.f10 : Own _ _ (Hp.blk g8 NT _ :: _)) | have h := (h.f11 : Own _ _ (Hp.blk g8 NT _ :: _)) | have h := (h.f12 : Own _ _ (Hp.blk g8 NT _ :: _)) | have h := (h.f13 : Own _ _ (Hp.blk g8 NT _ :: _)) | have h := (h.f14 : Own _ _ (Hp.blk g8 NT _ :: _)) | have h := (h.f15 : Own _ _ (Hp.blk g8 NT _ :: _))
                    have f5 := h.cell 3
                    have f6 := h.frozen 3
                    have h := h.set 3 (.slice A7 (ls.length + ls2.length) c7)
                    go_simp
                    refine hK.out _ _ ?_
                    clear hK K
                    try simp only [Act.put]
                    refine wpAnyG_done (by kernel_rfl) ?_ _
                    refine NoPanic.normal ?_
                    have h : Own E _ (Hp.blk g8 NT #[.bool false, .slice A9 (ks.length + 1) c9, .slice none 0 0, .slice A7 (ls.length + ls2.length) c7] :: _) := h
                    generalize World.setCell _ _ _ = wa at h ⊢
                    have e1 := h.cell 1
                    first | have h := (h : Own _ _ (Hp.blk (g + 1) NT _ :: _)) | have h := (h.f1 : Own _ _ (Hp.blk (g + 1) NT _ :: _)) | have h := (h.f2 : Own _ _ (Hp.blk (g + 1) NT _ :: _)) | have h := (h.f3 : Own _ _ (Hp.blk (g + 1) NT _ :: _)) | have h := (h.f4 : Own _ _ (Hp.blk (g + 1) NT _ :: _)) | have h := (h.f5 : Own _ _ (Hp.blk (g + 1) NT _ :: _)) | have h := (h.f6 : Own _ _ (Hp.blk (g + 1) NT _ :: _)) | have h := (h.f7 : Own _ _ (Hp.blk (g + 1) NT _ :: _)) | have h := (h.f8 : Own _ _ (Hp.blk (g + 1) NT _ :: _)) | have h := (h.f9 : Own _ _ (Hp.blk (g + 1) NT _ :: _)) | have h := (h.f10 : Own _ _ (Hp.blk (g + 1) NT _ :: _)) | have h := (h.f11 : Own _ _ (Hp.blk (g + 1) NT _ :: _)) | have h := (h.f12 : Own _ _ (Hp.blk (g + 1) NT _ :: _)) | have h := (h.f13 : Own _ _ (Hp.blk (g + 1) NT _ :: _)) | have h := (h.f14 : Own _ _ (Hp.blk (g + 1) NT _ :: _)) | have h := (h.f15 : Own _ _ (Hp.blk (g + 1) NT _ :: _))
                    have q1 : wa.cell? ⟨g + 1, 1, none⟩ = some (.slice b1 ks2.length d1) := h.cell 1
                    first | have h := (h : Own _ _ (Hp.ro S :: _)) | have h := (h.f1 : Own _ _ (Hp.ro S :: _)) | have h := (h.f2 : Own _ _ (Hp.ro S :: _)) | have h := (h.f3 : Own _ _ (Hp.ro S :: _)) | have h := (h.f4 : Own _ _ (Hp.ro S :: _)) | have h := (h.f5 : Own _ _ (Hp.ro S :: _)) | have h := (h.f6 : Own _ _ (Hp.ro S :: _)) | have h := (h.f7 : Own _ _ (Hp.ro S :: _)) | have h := (h.f8 : Own _ _ (Hp.ro S :: _)) | have h := (h.f9 : Own _ _ (Hp.ro S :: _)) | have h := (h.f10 : Own _ _ (Hp.ro S :: _)) | have h := (h.f11 : Own _ _ (Hp.ro S :: _)) | have h := (h.f12 : Own _ _ (Hp.ro S :: _)) | have h := (h.f13 : Own _ _ (Hp.ro S :: _)) | have h := (h.f14 : Own _ _ (Hp.ro S :: _)) | have h := (h.f15 : Own _ _ (Hp.ro S :: _))
                    have hrd : RdC _ b1 (ks2.map VS) := Rds.rdC s1 h
                    first | have h := (h : Own _ _ (Hp.strs (.slice A9 (ks.length + 1) c9) (ks ++ [key]) :: _)) | have h := (h.f1 : Own _ _ (Hp.strs (.slice A9 (ks.length + 1) c9) (ks ++ [key]) :: _)) | have h := (h.f2 : Own _ _ (Hp.strs (.slice A9 (ks.length + 1) c9) (ks ++ [key]) :: _)) | have h := (h.f3 : Own _ _ (Hp.strs (.slice A9 (ks.length + 1) c9) (ks ++ [key]) :: _)) | have h := (h.f4 : Own _ _ (Hp.strs (.slice A9 (ks.length + 1) c9) (ks ++ [key]) :: _)) | have h := (h.f5 : Own _ _ (Hp.strs (.slice A9 (ks.length + 1) c9) (ks ++ [key]) :: _)) | have h := (h.f6 : Own _ _ (Hp.strs (.slice A9 (ks.length + 1) c9) (ks ++ [key]) :: _)) | have h := (h.f7 : Own _ _ (Hp.strs (.slice A9 (ks.length + 1) c9) (ks ++ [key]) :: _)) | have h := (h.f8 : Own _ _ (Hp.strs (.slice A9 (ks.length + 1) c9) (ks ++ [key]) :: _)) | have h := (h.f9 : Own _ _ (Hp.strs (.slice A9 (ks.length + 1) c9) (ks ++ [key]) :: _)) | have h := (h.f10 : Own _ _ (Hp.strs (.slice A9 (ks.length + 1) c9) (ks ++ [key]) :: _)) | have h := (h.f11 : Own _ _ (Hp.strs (.slice A9 (ks.length + 1) c9) (ks ++ [key]) :: _)) | have h := (h.f12 : Own _ _ (Hp.strs (.slice A9 (ks.length + 1) c9) (ks ++ [key]) :: _)) | have h := (h.f13 : Own _ _ (Hp.strs (.slice A9 (ks.length + 1) c9) (ks ++ [key]) :: _)) | have h := (h.f14 : Own _ _ (Hp.strs (.slice A9 (ks.length + 1) c9) (ks ++ [key]) :: _)) | have h := (h.f15 : Own _ _ (Hp.strs (.slice A9 (ks.length + 1) c9) (ks ++ [key]) :: _))
                    obtain ⟨v6, wb, hap, h⟩ := lst_append (P := Tryd.prog) (t := LST) (ty := LST) lst_u st_info (by rfl) h b1 ks2.length d1 (ks2.map VS) (by rw [List.length_map]) hrd (VS_one _) (by unfold maxLen; simp; omega) (by simp; omega)
                    rw [← List.map_append] at h
                    obtain ⟨Ab, cb, rfl, -⟩ := h.lstSlice
                    rw [List.length_map] at h hap
                    simp only [List.length_append, List.length_cons, List.length_nil, Nat.zero_add] at h hap
                    first | have h := (h : Own _ _ (Hp.strs (.slice Ab (ks.length + 1 + ks2.length) cb) ((ks ++ [key]) ++ ks2) :: _)) | have h := (h.f1 : Own _ _ (Hp.strs (.slice Ab (ks.length + 1 + ks2.length) cb) ((ks ++ [key]) ++ ks2) :: _)) | have h := (h.f2 : Own _ _ (Hp.strs (.slice Ab (ks.length + 1 + ks2.length) cb) ((ks ++ [key]) ++ ks2) :: _)) | have h := (h.f3 : Own _ _ (Hp.strs (.slice Ab (ks.length + 1 + ks2.length) cb) ((ks ++ [key]) ++ ks2) :: _)) | have h := (h.f4 : Own _ _ (Hp.strs (.slice Ab (ks.length + 1 + ks2.length) cb) ((ks ++ [key]) ++ ks2) :: _)) | have h := (h.f5 : Own _ _ (Hp.strs (.slice Ab (ks.length + 1 + ks2.length) cb) ((ks ++ [key]) ++ ks2) :: _)) | have h := (h.f6 : Own _ _ (Hp.strs (.slice Ab (ks.length + 1 + ks2.length) cb) ((ks ++ [key]) ++ ks2) :: _)) | have h := (h.f7 : Own _ _ (Hp.strs (.slice Ab (ks.length + 1 + ks2.length) cb) ((ks ++ [key]) ++ ks2) :: _)) | have h := (h.f8 : Own _ _ (Hp.strs (.slice Ab (ks.length + 1 + ks2.length) cb) ((ks ++ [key]) ++ ks2) :: _)) | have h := (h.f9 : Own _ _ (Hp.strs (.slice Ab (ks.length + 1 + ks2.length) cb) ((ks ++ [key]) ++ ks2) :: _)) | have h := (h.f10 : Own _ _ (Hp.strs (.slice Ab (ks.length + 1 + ks2.length) cb) ((ks ++ [key]) ++ ks2) :: _)) | have h := (h.f11 : Own _ _ (Hp.strs (.slice Ab (ks.length + 1 + ks2.length) cb) ((ks ++ [key]) ++ ks2) :: _)) | have h := (h.f12 : Own _ _ (Hp.strs (.slice Ab (ks.length + 1 + ks2.length) cb) ((ks ++ [key]) ++ ks2) :: _)) | have h := (h.f13 : Own _ _ (Hp.strs (.slice Ab (ks.length + 1 + ks2.length) cb) ((ks ++ [key]) ++ ks2) :: _)) | have h := (h.f14 : Own _ _ (Hp.strs (.slice Ab (ks.length + 1 + ks2.length) cb) ((ks ++ [key]) ++ ks2) :: _)) | have h := (h.f15 : Own _ _ (Hp.strs (.slice Ab (ks.length + 1 + ks2.length) cb) ((ks ++ [key]) ++ ks2) :: _))
                    have H := Lib.hid h
                    clear h hrd
                    go_wp2_with (with_reducible refine at_slot (k := some 94) ?_; refine wpList_append_run (o := ⟨some 94, _, _, _, _, _⟩) hap rfl rfl rfl rfl ?_; clear hap)
                    refine (clip_str _ _ _ ((ks ++ [key]) ++ ks2) _ H.out).mono ?_
                    rintro e wc ⟨v7, rfl, h⟩
                    obtain ⟨Ac, cc, rfl, -⟩ := h.lstSlice
                    rw [List.length_map] at h ⊢
                    simp only [List.length_append, List.length_cons, List.length_nil, Nat.zero_add] at h ⊢
                    clear H e1 q1
                    first | have h := (h : Own _ _ (Hp.blk g8 NT _ :: _)) | have h := (h.f1 : Own _ _ (Hp.blk g8 NT _ :: _)) | have h := (h.f2 : Own _ _ (Hp.blk g8 NT _ :: _)) | have h := (h.f3 : Own _ _ (Hp.blk g8 NT _ :: _)) | have h := (h.f4 : Own _ _ (Hp.blk g8 NT _ :: _)) | have h := (h.f5 : Own _ _ (Hp.blk g8 NT _ :: _)) | have h := (h.f6 : Own _ _ (Hp.blk g8 NT _ :: _)) | have h := (h.f7 : Own _ _ (Hp.blk g8 NT _ :: _)) | have h := (h.f8 : Own _ _ (Hp.blk g8 NT _ :: _)) | have h := (h.f9 : Own _ _ (Hp.blk g8 NT _ :: _)) | have h := (h.f10 : Own _ _ (Hp.blk g8 NT _ :: _)) | have h := (h.f11 : Own _ _ (Hp.blk g8 NT _ :: _)) | have h := (h.f12 : Own _ _ (Hp.blk g8 NT _ :: _)) | have h := (h.f13 : Own _ _ (Hp.blk g8 NT _ :: _)) | have h := (h.f14 : Own _ _ (Hp.blk g8 NT _ :: _)) | have h := (h.f15 : Own _ _ (Hp.blk g8 NT _ :: _))
                    have e1 := h.cell 1
                    have f1 := h.frozen 1
                    have h2 := h.set 1 (.slice Ac (ks.length + 1 + ks2.length) cc)
                    have e3 := h2.cell 3
                    have h := h2
                    clear h2
                    have H := Lib.hid h
                    clear h
                    go_wp2_with fail
                    have h : Own E _ (Hp.blk g8 NT #[.bool false, .slice Ac (ks.length + 1 + ks2.length) cc, .slice none 0 0, .slice A7 (ls.length + ls2.length) c7] :: _) := H.out
                    generalize World.setCell _ _ _ = wd at h ⊢
                    clear e1 f1 e3 H
                    first | have h := (h : Own _ _ (Hp.ints (.slice A7 (ls.length + ls2.length) c7) (ls ++ ls2) :: _)) | have h := (h.f1 : Own _ _ (Hp.ints (.slice A7 (ls.length + ls2.length) c7) (ls ++ ls2) :: _)) | have h := (h.f2 : Own _ _ (Hp.ints (.slice A7 (ls.length + ls2.length) c7) (ls ++ ls2) :: _)) | have h := (h.f3 : Own _ _ (Hp.ints (.slice A7 (ls.length + ls2.length) c7) (ls ++ ls2) :: _)) | have h := (h.f4 : Own _ _ (Hp.ints (.slice A7 (ls.length + ls2.length) c7) (ls ++ ls2) :: _)) | have h := (h.f5 : Own _ _ (Hp.ints (.slice A7 (ls.length + ls2.length) c7) (ls ++ ls2) :: _)) | have h := (h.f6 : Own _ _ (Hp.ints (.slice A7 (ls.length + ls2.length) c7) (ls ++ ls2) :: _)) | have h := (h.f7 : Own _ _ (Hp.ints (.slice A7 (ls.length + ls2.length) c7) (ls ++ ls2) :: _)) | have h := (h.f8 : Own _ _ (Hp.ints (.slice A7 (ls.length + ls2.length) c7) (ls ++ ls2) :: _)) | have h := (h.f9 : Own _ _ (Hp.ints (.slice A7 (ls.length + ls2.length) c7) (ls ++ ls2) :: _)) | have h := (h.f10 : Own _ _ (Hp.ints (.slice A7 (ls.length + ls2.length) c7) (ls ++ ls2) :: _)) | have h := (h.f11 : Own _ _ (Hp.ints (.slice A7 (ls.length + ls2.length) c7) (ls ++ ls2) :: _)) | have h := (h.f12 : Own _ _ (Hp.ints (.slice A7 (ls.length + ls2.length) c7) (ls ++ ls2) :: _)) | have h := (h.f13 : Own _ _ (Hp.ints (.slice A7 (ls.length + ls2.length) c7) (ls ++ ls2) :: _)) | have h := (h.f14 : Own _ _ (Hp.ints (.slice A7 (ls.length + ls2.length) c7) (ls ++ ls2) :: _)) | have h := (h.f15 : Own _ _ (Hp.ints (.slice A7 (ls.length + ls2.length) c7) (ls ++ ls2) :: _))
                    have h := h.emptyLst ST none
                    first | have h := (h : Own _ _ (Hp.strs (.slice Ac (ks.length + 1 + ks2.length) cc) ((ks ++ [key]) ++ ks2) :: _)) | have h := (h.f1 : Own _ _ (Hp.strs (.slice Ac (ks.length + 1 + ks2.length) cc) ((ks ++ [key]) ++ ks2) :: _)) | have h := (h.f2 : Own _ _ (Hp.strs (.slice Ac (ks.length + 1 + ks2.length) cc) ((ks ++ [key]) ++ ks2) :: _)) | have h := (h.f3 : Own _ _ (Hp.strs (.slice Ac (ks.length + 1 + ks2.length) cc) ((ks ++ [key]) ++ ks2) :: _)) | have h := (h.f4 : Own _ _ (Hp.strs (.slice Ac (ks.length + 1 + ks2.length) cc) ((ks ++ [key]) ++ ks2) :: _)) | have h := (h.f5 : Own _ _ (Hp.strs (.slice Ac (ks.length + 1 + ks2.length) cc) ((ks ++ [key]) ++ ks2) :: _)) | have h := (h.f6 : Own _ _ (Hp.strs (.slice Ac (ks.length + 1 + ks2.length) cc) ((ks ++ [key]) ++ ks2) :: _)) | have h := (h.f7 : Own _ _ (Hp.strs (.slice Ac (ks.length + 1 + ks2.length) cc) ((ks ++ [key]) ++ ks2) :: _)) | have h := (h.f8 : Own _ _ (Hp.strs (.slice Ac (ks.length + 1 + ks2.length) cc) ((ks ++ [key]) ++ ks2) :: _)) | have h := (h.f9 : Own _ _ (Hp.strs (.slice Ac (ks.length + 1 + ks2.length) cc) ((ks ++ [key]) ++ ks2) :: _)) | have h := (h.f10 : Own _ _ (Hp.strs (.slice Ac (ks.length + 1 + ks2.length) cc) ((ks ++ [key]) ++ ks2) :: _)) | have h := (h.f11 : Own _ _ (Hp.strs (.slice Ac (ks.length + 1 + ks2.length) cc) ((ks ++ [key]) ++ ks2) :: _)) | have h := (h.f12 : Own _ _ (Hp.strs (.slice Ac (ks.length + 1 + ks2.length) cc) ((ks ++ [key]) ++ ks2) :: _)) | have h := (h.f13 : Own _ _ (Hp.strs (.slice Ac (ks.length + 1 + ks2.length) cc) ((ks ++ [key]) ++ ks2) :: _)) | have h := (h.f14 : Own _ _ (Hp.strs (.slice Ac (ks.length + 1 + ks2.length) cc) ((ks ++ [key]) ++ ks2) :: _)) | have h := (h.f15 : Own _ _ (Hp.strs (.slice Ac (ks.length + 1 + ks2.length) cc) ((ks ++ [key]) ++ ks2) :: _))
                    have h : Own E _ (Hp.strs _ _ :: Hp.strs (.slice none 0 0) [] :: Hp.ints _ _ :: _) := h
                    have h := Own.toNode (n := ⟨false, (ks ++ [key]) ++ ks2, [], ls ++ ls2⟩) h
                    first | have h := (h : Own _ _ (Hp.ro S :: _)) | have h := (h.f1 : Own _ _ (Hp.ro S :: _)) | have h := (h.f2 : Own _ _ (Hp.ro S :: _)) | have h := (h.f3 : Own _ _ (Hp.ro S :: _)) | have h := (h.f4 : Own _ _ (Hp.ro S :: _)) | have h := (h.f5 : Own _ _ (Hp.ro S :: _)) | have h := (h.f6 : Own _ _ (Hp.ro S :: _)) | have h := (h.f7 : Own _ _ (Hp.ro S :: _)) | have h := (h.f8 : Own _ _ (Hp.ro S :: _)) | have h := (h.f9 : Own _ _ (Hp.ro S :: _)) | have h := (h.f10 : Own _ _ (Hp.ro S :: _)) | have h := (h.f11 : Own _ _ (Hp.ro S :: _)) | have h := (h.f12 : Own _ _ (Hp.ro S :: _)) | have h := (h.f13 : Own _ _ (Hp.ro S :: _)) | have h := (h.f14 : Own _ _ (Hp.ro S :: _)) | have h := (h.f15 : Own _ _ (Hp.ro S :: _))
                    have h := h.f1
                    obtain ⟨aa, hA, had, h⟩ := h.lend
                    obtain ⟨qq, hq, hin⟩ := node_in hA
                    obtain ⟨qa1, qc1, qa2, qc2, qa3, qc3⟩ := qq
                    simp only [Nv.val, Value.agg.injEq, Array.mk.injEq, List.cons.injEq, Value.slice.injEq, List.length_append, List.length_cons, List.length_nil, Nat.zero_add, and_true, true_and] at hq
                    obtain ⟨⟨rfl, rfl⟩, ⟨rfl, -, rfl⟩, rfl, rfl⟩ := hq
                    have hin2 := hin.sub (T := Ph.join aa S) Ph.join_l
                    have hA := Lib.hid hA
                    have hun := fun w M hw => unlike_any (E := E) (S := Ph.join aa S) (L := M) A7 (ls.length + ls2.length) c7 (ls ++ ls2) w (by omega) (by simpa using hin2.r3) hw
                    have hsz := fun w M hw => size_any (E := E) (S := Ph.join aa S) (L := M) ⟨_, _, _, _, _, _⟩ ⟨false, (ks ++ [key]) ++ ks2, [], ls ++ ls2⟩ w hbb hin2 hw
                    rw [hkd] at hun
                    rw [hpz] at hsz
                    simp only [Nv.val, List.length_append, List.length_cons, List.length_nil, Nat.zero_add] at hsz
                    have HUN := Lib.hid hun
                    have HSZ := Lib.hid hsz
                    clear hun hsz hin hin2
                    have H := Lib.hid h
                    clear h
                    with_reducible refine (HUN.out _ _ H.out).mono ?_
                    rintro e we ⟨rfl, h⟩
                    clear H
                    cases kd
                    · obtain rfl : pe = 103 := by rw [HPE.out]; simp [hsan, hsbn]
                      obtain rfl : pn = Nd.nil := by rw [HPN.out]; rfl
                      first | have h := (h : Own _ _ (Hp.blk (g + 2) NT _ :: _)) | have h := (h.f1 : Own _ _ (Hp.blk (g + 2) NT _ :: _)) | have h := (h.f2 : Own _ _ (Hp.blk (g + 2) NT _ :: _)) | have h := (h.f3 : Own _ _ (Hp.blk (g + 2) NT _ :: _)) | have h := (h.f4 : Own _ _ (Hp.blk (g + 2) NT _ :: _)) | have h := (h.f5 : Own _ _ (Hp.blk (g + 2) NT _ :: _)) | have h := (h.f6 : Own _ _ (Hp.blk (g + 2) NT _ :: _)) | have h := (h.f7 : Own _ _ (Hp.blk (g + 2) NT _ :: _)) | have h := (h.f8 : Own _ _ (Hp.blk (g + 2) NT _ :: _)) | have h := (h.f9 : Own _ _ (Hp.blk (g + 2) NT _ :: _)) | have h := (h.f10 : Own _ _ (Hp.blk (g + 2) NT _ :: _)) | have h := (h.f11 : Own _ _ (Hp.blk (g + 2) NT _ :: _)) | have h := (h.f12 : Own _ _ (Hp.blk (g + 2) NT _ :: _)) | have h := (h.f13 : Own _ _ (Hp.blk (g + 2) NT _ :: _)) | have h := (h.f14 : Own _ _ (Hp.blk (g + 2) NT _ :: _)) | have h := (h.f15 : Own _ _ (Hp.blk (g + 2) NT _ :: _))
                      have H := Lib.hid h
                      clear h
                      go_wp2_with (with_reducible refine at_slot (k := none) ?_; refine wpList_store_whole (o := ⟨none, _, _, _, _, _⟩) (cs := [.bool false, .slice none 0 0, .slice none 0 0, .slice none 0 0]) (vs := [.bool false, .slice none 0 0, .slice none 0 0, .slice none 0 0]) H.out rfl (ND_all1 _ _ _ _ rfl rfl rfl) (by kernel_rfl) rfl rfl rfl rfl ?_; intro w7 h)
                      refine bodyPost_ret (results_ct rfl rfl h hnt hnr (by kernel_rfl)) rfl ?_
                      refine ⟨_, rfl, ?_⟩
                      have h := h.drop
                      first | have h := (h : Own _ _ (Hp.ro (Ph.join aa S) :: _)) | have h := (h.f1 : Own _ _ (Hp.ro (Ph.join aa S) :: _)) | have h := (h.f2 : Own _ _ (Hp.ro (Ph.join aa S) :: _)) | have h := (h.f3 : Own _ _ (Hp.ro (Ph.join aa S) :: _)) | have h := (h.f4 : Own _ _ (Hp.ro (Ph.join aa S) :: _)) | have h := (h.f5 : Own _ _ (Hp.ro (Ph.join aa S) :: _)) | have h := (h.f6 : Own _ _ (Hp.ro (Ph.join aa S) :: _)) | have h := (h.f7 : Own _ _ (Hp.ro (Ph.join aa S) :: _)) | have h := (h.f8 : Own _ _ (Hp.ro (Ph.join aa S) :: _)) | have h := (h.f9 : Own _ _ (Hp.ro (Ph.join aa S) :: _)) | have h := (h.f10 : Own _ _ (Hp.ro (Ph.join aa S) :: _)) | have h := (h.f11 : Own _ _ (Hp.ro (Ph.join aa S) :: _)) | have h := (h.f12 : Own _ _ (Hp.ro (Ph.join aa S) :: _)) | have h := (h.f13 : Own _ _ (Hp.ro (Ph.join aa S) :: _)) | have h := (h.f14 : Own _ _ (Hp.ro (Ph.join aa S) :: _)) | have h := (h.f15 : Own _ _ (Hp.ro (Ph.join aa S) :: _))
                      have h := (h.part had).drop
                      exact (h.f1.drop.f1.drop.f1.drop).nilNode
                    · first | have h := (h : Own _ _ (Hp.blk g8 NT _ :: _)) | have h := (h.f1 : Own _ _ (Hp.blk g8 NT _ :: _)) | have h := (h.f2 : Own _ _ (Hp.blk g8 NT _ :: _)) | have h := (h.f3 : Own _ _ (Hp.blk g8 NT _ :: _)) | have h := (h.f4 : Own _ _ (Hp.blk g8 NT _ :: _)) | have h := (h.f5 : Own _ _ (Hp.blk g8 NT _ :: _)) | have h := (h.f6 : Own _ _ (Hp.blk g8 NT _ :: _)) | have h := (h.f7 : Own _ _ (Hp.blk g8 NT _ :: _)) | have h := (h.f8 : Own _ _ (Hp.blk g8 NT _ :: _)) | have h := (h.f9 : Own _ _ (Hp.blk g8 NT _ :: _)) | have h := (h.f10 : Own _ _ (Hp.blk g8 NT _ :: _)) | have h := (h.f11 : Own _ _ (Hp.blk g8 NT _ :: _)) | have h := (h.f12 : Own _ _ (Hp.blk g8 NT _ :: _)) | have h := (h.f13 : Own _ _ (Hp.blk g8 NT _ :: _)) | have h := (h.f14 : Own _ _ (Hp.blk g8 NT _ :: _)) | have h := (h.f15 : Own _ _ (Hp.blk g8 NT _ :: _))
                      have e0 := h.cell 0
                      have e1 := h.cell 1
                      have e2 := h.cell 2
                      have e3 := h.cell 3
                      first | have h := (h : Own _ _ (Hp.ro (Ph.join aa S) :: _)) | have h := (h.f1 : Own _ _ (Hp.ro (Ph.join aa S) :: _)) | have h := (h.f2 : Own _ _ (Hp.ro (Ph.join aa S) :: _)) | have h := (h.f3 : Own _ _ (Hp.ro (Ph.join aa S) :: _)) | have h := (h.f4 : Own _ _ (Hp.ro (Ph.join aa S) :: _)) | have h := (h.f5 : Own _ _ (Hp.ro (Ph.join aa S) :: _)) | have h := (h.f6 : Own _ _ (Hp.ro (Ph.join aa S) :: _)) | have h := (h.f7 : Own _ _ (Hp.ro (Ph.join aa S) :: _)) | have h := (h.f8 : Own _ _ (Hp.ro (Ph.join aa S) :: _)) | have h := (h.f9 : Own _ _ (Hp.ro (Ph.join aa S) :: _)) | have h := (h.f10 : Own _ _ (Hp.ro (Ph.join aa S) :: _)) | have h := (h.f11 : Own _ _ (Hp.ro (Ph.join aa S) :: _)) | have h := (h.f12 : Own _ _ (Hp.ro (Ph.join aa S) :: _)) | have h := (h.f13 : Own _ _ (Hp.ro (Ph.join aa S) :: _)) | have h := (h.f14 : Own _ _ (Hp.ro (Ph.join aa S) :: _)) | have h := (h.f15 : Own _ _ (Hp.ro (Ph.join aa S) :: _))
                      have H := Lib.hid h
                      clear h
                      go_wp2_with fail
                      with_reducible refine (HSZ.out _ _ H.out).mono ?_
                      rintro e wf ⟨rfl, h⟩
                      clear e0 e1 e2 e3
                      by_cases hz : 718 < pz
                      · have hzi : (718 : Int) < pz := by omega
                        obtain rfl : pe = 102 := by rw [HPE.out]; simp [hsan, hsbn, hz]
                        obtain rfl : pn = Nd.nil := by rw [HPN.out]; rfl
                        first | have h := (h : Own _ _ (Hp.blk (g + 2) NT _ :: _)) | have h := (h.f1 : Own _ _ (Hp.blk (g + 2) NT _ :: _)) | have h := (h.f2 : Own _ _ (Hp.blk (g + 2) NT _ :: _)) | have h := (h.f3 : Own _ _ (Hp.blk (g + 2) NT _ :: _)) | have h := (h.f4 : Own _ _ (Hp.blk (g + 2) NT _ :: _)) | have h := (h.f5 : Own _ _ (Hp.blk (g + 2) NT _ :: _)) | have h := (h.f6 : Own _ _ (Hp.blk (g + 2) NT _ :: _)) | have h := (h.f7 : Own _ _ (Hp.blk (g + 2) NT _ :: _)) | have h := (h.f8 : Own _ _ (Hp.blk (g + 2) NT _ :: _)) | have h := (h.f9 : Own _ _ (Hp.blk (g + 2) NT _ :: _)) | have h := (h.f10 : Own _ _ (Hp.blk (g + 2) NT _ :: _)) | have h := (h.f11 : Own _ _ (Hp.blk (g + 2) NT _ :: _)) | have h := (h.f12 : Own _ _ (Hp.blk (g + 2) NT _ :: _)) | have h := (h.f13 : Own _ _ (Hp.blk (g + 2) NT _ :: _)) | have h := (h.f14 : Own _ _ (Hp.blk (g + 2) NT _ :: _)) | have h := (h.f15 : Own _ _ (Hp.blk (g + 2) NT _ :: _))
                        have H := Lib.hid h
                        clear h
                        go_wp2_with (with_reducible refine at_slot (k := none) ?_; refine wpList_store_whole (o := ⟨none, _, _, _, _, _⟩) (cs := [.bool false, .slice none 0 0, .slice none 0 0, .slice none 0 0]) (vs := [.bool false, .slice none 0 0, .slice none 0 0, .slice none 0 0]) H.out rfl (ND_all1 _ _ _ _ rfl rfl rfl) (by kernel_rfl) rfl rfl rfl rfl ?_; intro w7 h)
                        refine bodyPost_ret (results_ct rfl rfl h hnt hnr (by kernel_rfl)) rfl ?_
                        refine ⟨_, rfl, ?_⟩
                        have h := h.drop
                        first | have h := (h : Own _ _ (Hp.ro (Ph.join aa S) :: _)) | have h := (h.f1 : Own _ _ (Hp.ro (Ph.join aa S) :: _)) | have h := (h.f2 : Own _ _ (Hp.ro (Ph.join aa S) :: _)) | have h := (h.f3 : Own _ _ (Hp.ro (Ph.join aa S) :: _)) | have h := (h.f4 : Own _ _ (Hp.ro (Ph.join aa S) :: _)) | have h := (h.f5 : Own _ _ (Hp.ro (Ph.join aa S) :: _)) | have h := (h.f6 : Own _ _ (Hp.ro (Ph.join aa S) :: _)) | have h := (h.f7 : Own _ _ (Hp.ro (Ph.join aa S) :: _)) | have h := (h.f8 : Own _ _ (Hp.ro (Ph.join aa S) :: _)) | have h := (h.f9 : Own _ _ (Hp.ro (Ph.join aa S) :: _)) | have h := (h.f10 : Own _ _ (Hp.ro (Ph.join aa S) :: _)) | have h := (h.f11 : Own _ _ (Hp.ro (Ph.join aa S) :: _)) | have h := (h.f12 : Own _ _ (Hp.ro (Ph.join aa S) :: _)) | have h := (h.f13 : Own _ _ (Hp.ro (Ph.join aa S) :: _)) | have h := (h.f14 : Own _ _ (Hp.ro (Ph.join aa S) :: _)) | have h := (h.f15 : Own _ _ (Hp.ro (Ph.join aa S) :: _))
                        have h := (h.part had).drop
                        exact (h.f1.drop.f1.drop.f1.drop).nilNode
                      · have hzi : ¬ (718 : Int) < pz := by omega
                        obtain rfl : pe = 0 := by rw [HPE.out]; simp [hsan, hsbn, hz]
                        obtain rfl : pn = ⟨false, (ks ++ [key]) ++ ks2, [], ls ++ ls2⟩ := by rw [HPN.out]; rfl
                        first | have h := (h : Own _ _ (Hp.blk g8 NT _ :: _)) | have h := (h.f1 : Own _ _ (Hp.blk g8 NT _ :: _)) | have h := (h.f2 : Own _ _ (Hp.blk g8 NT _ :: _)) | have h := (h.f3 : Own _ _ (Hp.blk g8 NT _ :: _)) | have h := (h.f4 : Own _ _ (Hp.blk g8 NT _ :: _)) | have h := (h.f5 : Own _ _ (Hp.blk g8 NT _ :: _)) | have h := (h.f6 : Own _ _ (Hp.blk g8 NT _ :: _)) | have h := (h.f7 : Own _ _ (Hp.blk g8 NT _ :: _)) | have h := (h.f8 : Own _ _ (Hp.blk g8 NT _ :: _)) | have h := (h.f9 : Own _ _ (Hp.blk g8 NT _ :: _)) | have h := (h.f10 : Own _ _ (Hp.blk g8 NT _ :: _)) | have h := (h.f11 : Own _ _ (Hp.blk g8 NT _ :: _)) | have h := (h.f12 : Own _ _ (Hp.blk g8 NT _ :: _)) | have h := (h.f13 : Own _ _ (Hp.blk g8 NT _ :: _)) | have h := (h.f14 : Own _ _ (Hp.blk g8 NT _ :: _)) | have h := (h.f15 : Own _ _ (Hp.blk g8 NT _ :: _))
                        have e0 := h.cell 0
                        have e1 := h.cell 1
                        have e2 := h.cell 2
                        have e3 := h.cell 3
                        first | have h := (h : Own _ _ (Hp.blk (g + 2) NT _ :: _)) | have h := (h.f1 : Own _ _ (Hp.blk (g + 2) NT _ :: _)) | have h := (h.f2 : Own _ _ (Hp.blk (g + 2) NT _ :: _)) | have h := (h.f3 : Own _ _ (Hp.blk (g + 2) NT _ :: _)) | have h := (h.f4 : Own _ _ (Hp.blk (g + 2) NT _ :: _)) | have h := (h.f5 : Own _ _ (Hp.blk (g + 2) NT _ :: _)) | have h := (h.f6 : Own _ _ (Hp.blk (g + 2) NT _ :: _)) | have h := (h.f7 : Own _ _ (Hp.blk (g + 2) NT _ :: _)) | have h := (h.f8 : Own _ _ (Hp.blk (g + 2) NT _ :: _)) | have h := (h.f9 : Own _ _ (Hp.blk (g + 2) NT _ :: _)) | have h := (h.f10 : Own _ _ (Hp.blk (g + 2) NT _ :: _)) | have h := (h.f11 : Own _ _ (Hp.blk (g + 2) NT _ :: _)) | have h := (h.f12 : Own _ _ (Hp.blk (g + 2) NT _ :: _)) | have h := (h.f13 : Own _ _ (Hp.blk (g + 2) NT _ :: _)) | have h := (h.f14 : Own _ _ (Hp.blk (g + 2) NT _ :: _)) | have h := (h.f15 : Own _ _ (Hp.blk (g + 2) NT _ :: _))
                        have H := Lib.hid h
                        clear h
                        go_wp2_with (with_reducible refine at_slot (k := none) ?_; refine wpList_store_whole (o := ⟨none, _, _, _, _, _⟩) (cs := [.bool false, .slice none 0 0, .slice none 0 0, .slice none 0 0]) (vs := [.bool false, .slice Ac (ks.length + 1 + ks2.length) cc, .slice none 0 0, .slice A7 (ls.length + ls2.length) c7]) H.out rfl (ND_all1 _ _ _ _ rfl rfl rfl) (by kernel_rfl) rfl rfl rfl rfl ?_; intro w7 h)
                        refine bodyPost_ret (results_ct rfl rfl h hnt hnr (by kernel_rfl)) rfl ?_
                        refine ⟨_, rfl, ?_⟩
                        have h := h.drop
                        first | have h := (h : Own _ _ (Hp.ro (Ph.join aa S) :: _)) | have h := (h.f1 : Own _ _ (Hp.ro (Ph.join aa S) :: _)) | have h := (h.f2 : Own _ _ (Hp.ro (Ph.join aa S) :: _)) | have h := (h.f3 : Own _ _ (Hp.ro (Ph.join aa S) :: _)) | have h := (h.f4 : Own _ _ (Hp.ro (Ph.join aa S) :: _)) | have h := (h.f5 : Own _ _ (Hp.ro (Ph.join aa S) :: _)) | have h := (h.f6 : Own _ _ (Hp.ro (Ph.join aa S) :: _)) | have h := (h.f7 : Own _ _ (Hp.ro (Ph.join aa S) :: _)) | have h := (h.f8 : Own _ _ (Hp.ro (Ph.join aa S) :: _)) | have h := (h.f9 : Own _ _ (Hp.ro (Ph.join aa S) :: _)) | have h := (h.f10 : Own _ _ (Hp.ro (Ph.join aa S) :: _)) | have h := (h.f11 : Own _ _ (Hp.ro (Ph.join aa S) :: _)) | have h := (h.f12 : Own _ _ (Hp.ro (Ph.join aa S) :: _)) | have h := (h.f13 : Own _ _ (Hp.ro (Ph.join aa S) :: _)) | have h := (h.f14 : Own _ _ (Hp.ro (Ph.join aa S) :: _)) | have h := (h.f15 : Own _ _ (Hp.ro (Ph.join aa S) :: _))
                        have h := Own.give hA.out had h
                        exact h.f2.drop.f2.drop.f2.drop
                · obtain rfl : pe = 103 := by rw [HPE.out]; simp [hsan, hsbn]
                  obtain rfl : pn = Nd.nil := by rw [HPN.out]; rfl
                  have H2 := Lib.hid H.out.f1
                  clear H
                  go_wp2_with (with_reducible refine at_slot (k := none) ?_; refine wpList_store_whole (o := ⟨none, _, _, _, _, _⟩) (cs := [.bool false, .slice none 0 0, .slice none 0 0, .slice none 0 0]) (vs := [.bool false, .slice none 0 0, .slice none 0 0, .slice none 0 0]) H2.out rfl (ND_all1 _ _ _ _ rfl rfl rfl) (by kernel_rfl) rfl rfl rfl rfl ?_; intro w7 h)
                  refine bodyPost_ret (results_ct rfl rfl h hnt hnr (by kernel_rfl)) rfl ?_
                  refine ⟨_, rfl, ?_⟩
                  exact (h.drop.f2.drop.f1.drop).nilNode
                · obtain rfl : pe = 103 := by rw [HPE.out]; simp [hsan, hsbn]
                  obtain rfl : pn = Nd.nil := by rw [HPN.out]; rfl
                  have H2 := Lib.hid H.out.f1
                  clear H
                  go_wp2_with (with_reducible refine at_slot (k := none) ?_; refine wpList_store_whole (o := ⟨none, _, _, _, _, _⟩) (cs := [.bool false, .slice none 0 0, .slice none 0 0, .slice none 0 0]) (vs := [.bool false, .slice none 0 0, .slice none 0 0, .slice none 0 0]) H2.out rfl (ND_all1 _ _ _ _ rfl rfl rfl) (by kernel_rfl) rfl rfl rfl rfl ?_; intro w7 h)
                  refine bodyPost_ret (results_ct rfl rfl h hnt hnr (by kernel_rfl)) rfl ?_
                  refine ⟨_, rfl, ?_⟩
                  exact (h.drop.f2.drop.f1.drop).nilNode
                · go_wp2_with fail
                  with_reducible refine (HAP.out _ _ H.out).mono ?_
                  rintro e w1 ⟨rfl, h⟩
                  cases ap
                  · obtain rfl : pe = 103 := by rw [HPE.out]; simp [hsan, hsbn]
                    obtain rfl : pn = Nd.nil := by rw [HPN.out]; rfl
                    have H := Lib.hid h.f1
                    clear h
                    go_wp2_with (with_reducible refine at_slot (k := none) ?_; refine wpList_store_whole (o := ⟨none, _, _, _, _, _⟩) (cs := [.bool false, .slice none 0 0, .slice none 0 0, .slice none 0 0]) (vs := [.bool false, .slice none 0 0, .slice none 0 0, .slice none 0 0]) H.out rfl (ND_all1 _ _ _ _ rfl rfl rfl) (by kernel_rfl) rfl rfl rfl rfl ?_; intro w7 h)
                    refine bodyPost_ret (results_ct rfl rfl h hnt hnr (by kernel_rfl)) rfl ?_
                    refine ⟨_, rfl, ?_⟩
                    exact (h.drop.f2.drop.f1.drop).nilNode
                  · have hpt2 : pt = ⟨true, ks ++ ks2, vs ++ vs2, []⟩ := by simpa using hpt
                    subst hpt2
                    dsimp only at hkd
                    clear hpt
                    clear p0 p1 p2 p3 q0 q1 q2 q3 H
                    have hcell2 : ∀ w', (∃ L', Own E w' (Hp.blk g NT #[.bool true, .slice a1 ks.length c1, .slice a2 vs.length c2, .slice a3 ls.length c3] :: L')) → w'.cell? ⟨g, 0, none⟩ = some (.bool true) ∧ w'.cell? ⟨g, 1, none⟩ = some (.slice a1 ks.length c1) := fun w' hw => by
                      obtain ⟨_, hw⟩ := hw
                      exact ⟨hw.cell 0, hw.cell 1⟩
                    have HC3 := Lib.hid hcell2
                    have H := Lib.hid h
                    clear h hcell2
                    go_wp2_with fail
                    go_cut [8] from 109 (fun x8 w' => ∃ (g8 c8 : Nat) (A8 : Option Addr), x8 = .pointer (some ⟨g8, 0, none⟩) ∧ Own E w' (Hp.blk g8 NT #[.bool true, .slice A8 ks.length c8, .slice none 0 0, .slice none 0 0] :: Hp.strs (.slice A8 ks.length c8) ks :: Hp.ro S :: Hp.blk (g + 2) NT #[.bool false, .slice none 0 0, .slice none 0 0, .slice none 0 0] :: Hp.blk (g + 1) NT #[.bool true, .slice b1 ks2.length d1, .slice b2 vs2.length d2, .slice b3 ls2.length d3] :: Hp.blk g NT #[.bool true, .slice a1 ks.length c1, .slice a2 vs.length c2, .slice a3 ls.length c3] :: L))
                    case first =>
                      have h := H.out.drew
                      refine wp_region_text [1, 3] (fun w' => w'.cell? ⟨g, 0, none⟩ = some (.bool true) ∧ w'.cell? ⟨g, 1, none⟩ = some (.slice a1 ks.length c1)) (by kernel_rfl) ?_ (fun hS => ?_)
                      · exact HC3.out _ (by first | exact ⟨_, h⟩ | exact ⟨_, h.f1⟩ | exact ⟨_, h.f2⟩ | exact ⟨_, h.f3⟩ | exact ⟨_, h.f4⟩ | exact ⟨_, h.f5⟩ | exact ⟨_, h.f6⟩ | exact ⟨_, h.f7⟩ | exact ⟨_, h.f8⟩ | exact ⟨_, h.f9⟩ | exact ⟨_, h.f10⟩ | exact ⟨_, h.f11⟩ | exact ⟨_, h.f12⟩ | exact ⟨_, h.f13⟩ | exact ⟨_, h.f14⟩ | exact ⟨_, h.f15⟩)
                      refine wpAnyG_pure (i := 0) (oi := ⟨some 60, _, _, _, _, _⟩) (v := ?_) rfl (by kernel_rfl) (by kernel_rfl) (by kernel_rfl) (by rfl) (fun _ _ _ h => h) (by rfl) ?_ ?_
                      rotate_left
                      · intro w
                        go_simp
                        first | done | with_reducible rfl
                      try simp only [Act.put, List.setIfInBounds_toArray, List.set_cons_zero, List.set_cons_succ]
                      refine wpAnyG_load (i := 1) (oi := ⟨some 61, _, _, _, _, _⟩) (v := ?_) rfl (by kernel_rfl) (by kernel_rfl) (by kernel_rfl) (by rfl) (fun _ _ _ h => h) (by rfl) ?_ (by assumption) ?_
                      rotate_left
                      · intro w hS
                        try dsimp only at hS
                        go_simp
                        first | done | with_reducible rfl
                      try simp only [Act.put, List.setIfInBounds_toArray, List.set_cons_zero, List.set_cons_succ]
                      refine wpAnyG_pure (i := 2) (oi := ⟨some 62, _, _, _, _, _⟩) (v := ?_) rfl (by kernel_rfl) (by kernel_rfl) (by kernel_rfl) (by rfl) (fun _ _ _ h => h) (by rfl) ?_ ?_
                      rotate_left
                      · intro w
                        go_simp
                        first | done | with_reducible rfl
                      try simp only [Act.put, List.setIfInBounds_toArray, List.set_cons_zero, List.set_cons_succ]
                      refine wpAnyG_load (i := 3) (oi := ⟨some 63, _, _, _, _, _⟩) (v := ?_) rfl (by kernel_rfl) (by kernel_rfl) (by kernel_rfl) (by rfl) (fun _ _ _ h => h) (by rfl) ?_ (by assumption) ?_
                      rotate_left
                      · intro w hS
                        try dsimp only at hS
                        go_simp
                        first | done | with_reducible rfl
                      try simp only [Act.put, List.setIfInBounds_toArray, List.set_cons_zero, List.set_cons_succ]
                      refine wpAnyG_two (i := 4) (oi := ⟨some 64, _, _, _, _, _⟩) (j := 6) (oj := ⟨some 8, _, _, _, _, _⟩) (by kernel_rfl) rfl rfl (fun K hK => ?_) (fun K hK => ?_)
                      · skip
                        rw [if_pos (by rfl)]
                        go_simp
                        first | have h := (h : Own _ _ (Hp.ro S :: _)) | have h := (h.f1 : Own _ _ (Hp.ro S :: _)) | have h := (h.f2 : Own _ _ (Hp.ro S :: _)) | have h := (h.f3 : Own _ _ (Hp.ro S :: _)) | have h := (h.f4 : Own _ _ (Hp.ro S :: _)) | have h := (h.f5 : Own _ _ (Hp.ro S :: _)) | have h := (h.f6 : Own _ _ (Hp.ro S :: _)) | have h := (h.f7 : Own _ _ (Hp.ro S :: _)) | have h := (h.f8 : Own _ _ (Hp.ro S :: _)) | have h := (h.f9 : Own _ _ (Hp.ro S :: _)) | have h := (h.f10 : Own _ _ (Hp.ro S :: _)) | have h := (h.f11 : Own _ _ (Hp.ro S :: _)) | have h := (h.f12 : Own _ _ (Hp.ro S :: _)) | have h := (h.f13 : Own _ _ (Hp.ro S :: _)) | have h := (h.f14 : Own _ _ (Hp.ro S :: _)) | have h := (h.f15 : Own _ _ (Hp.ro S :: _))
                        refine (clone_str a1 ks.length c1 ks _ (by omega) r1 h).mono ?_
                        rintro e w5 ⟨v5, rfl, h⟩
                        obtain ⟨A5, c5, rfl, -⟩ := h.lstSlice
                        rw [List.length_map] at h ⊢
                        refine hK.out _ _ ?_ (fun hS => ?_)
                        · exact HC3.out _ (by first | exact ⟨_, h⟩ | exact ⟨_, h.f1⟩ | exact ⟨_, h.f2⟩ | exact ⟨_, h.f3⟩ | exact ⟨_, h.f4⟩ | exact ⟨_, h.f5⟩ | exact ⟨_, h.f6⟩ | exact ⟨_, h.f7⟩ | exact ⟨_, h.f8⟩ | exact ⟨_, h.f9⟩ | exact ⟨_, h.f10⟩ | exact ⟨_, h.f11⟩ | exact ⟨_, h.f12⟩ | exact ⟨_, h.f13⟩ | exact ⟨_, h.f14⟩ | exact ⟨_, h.f15⟩)
                        clear hK K
                        try simp only [Act.put, List.setIfInBounds_toArray, List.set_cons_zero, List.set_cons_succ]
                        refine wpAnyG_pure (i := 5) (oi := ⟨some 65, _, _, _, _, _⟩) (v := ?_) rfl (by kernel_rfl) (by kernel_rfl) (by kernel_rfl) (by rfl) (fun _ _ _ h => h) (by rfl) ?_ ?_
                        rotate_left
                        · intro w
                          go_simp
                          first | done | with_reducible rfl
                        try simp only [Act.put, List.setIfInBounds_toArray, List.set_cons_zero, List.set_cons_succ]
                        refine wpAnyG_keep (i := 6) (oi := ⟨some 8, _, _, _, _, _⟩) (by kernel_rfl) rfl (fun K hK => ?_)
                        rw [if_pos (by rfl)]
                        refine wp_alloc_own (cs := #[.bool false, .slice none 0 0, .slice none 0 0, .slice none 0 0]) (T := NT) h (by go_simp) (fun g4 w8 h => ?_)
                        refine hK.out _ _ ?_ (fun hS => ?_)
                        · exact HC3.out _ (by first | exact ⟨_, h⟩ | exact ⟨_, h.f1⟩ | exact ⟨_, h.f2⟩ | exact ⟨_, h.f3⟩ | exact ⟨_, h.f4⟩ | exact ⟨_, h.f5⟩ | exact ⟨_, h.f6⟩ | exact ⟨_, h.f7⟩ | exact ⟨_, h.f8⟩ | exact ⟨_, h.f9⟩ | exact ⟨_, h.f10⟩ | exact ⟨_, h.f11⟩ | exact ⟨_, h.f12⟩ | exact ⟨_, h.f13⟩ | exact ⟨_, h.f14⟩ | exact ⟨_, h.f15⟩)
                        clear hK K
                        try simp only [Act.put, List.setIfInBounds_toArray, List.set_cons_zero, List.set_cons_succ]
                        refine wpAnyG_keep (i := 7) (oi := ⟨none, _, _, _, _, _⟩) (by kernel_rfl) rfl (fun K hK => ?_)
                        rw [if_pos (by rfl)]
                        first | have h := (h : Own _ _ (Hp.blk g4 NT _ :: _)) | have h := (h.f1 : Own _ _ (Hp.blk g4 NT _ :: _)) | have h := (h.f2 : Own _ _ (Hp.blk g4 NT _ :: _)) | have h := (h.f3 : Own _ _ (Hp.blk g4 NT _ :: _)) | have h := (h.f4 : Own _ _ (Hp.blk g4 NT _ :: _)) | have h := (h.f5 : Own _ _ (Hp.blk g4 NT _ :: _)) | have h := (h.f6 : Own _ _ (Hp.blk g4 NT _ :: _)) | have h := (h.f7 : Own _ _ (Hp.blk g4 NT _ :: _)) | have h := (h.f8 : Own _ _ (Hp.blk g4 NT _ :: _)) | have h := (h.f9 : Own _ _ (Hp.blk g4 NT _ :: _)) | have h := (h.f10 : Own _ _ (Hp.blk g4 NT _ :: _)) | have h := (h.f11 : Own _ _ (Hp.blk g4 NT _ :: _)) | have h := (h.f12 : Own _ _ (Hp.blk g4 NT _ :: _)) | have h := (h.f13 : Own _ _ (Hp.blk g4 NT _ :: _)) | have h := (h.f14 : Own _ _ (Hp.blk g4 NT _ :: _)) | have h := (h.f15 : Own _ _ (Hp.blk g4 NT _ :: _))
                        refine wp_store_whole (cs := [.bool false, .slice none 0 0, .slice none 0 0, .slice none 0 0]) (vs := [.bool true, .slice A5 ks.length c5, .slice none 0 0, .slice none 0 0]) h rfl (ND_all1 _ _ _ _ rfl rfl rfl) (by kernel_rfl) rfl rfl rfl (fun w9 h => ?_)
                        refine hK.out _ _ ?_ (fun hS => ?_)
                        · exact HC3.out _ (by first | exact ⟨_, h⟩ | exact ⟨_, h.f1⟩ | exact ⟨_, h.f2⟩ | exact ⟨_, h.f3⟩ | exact ⟨_, h.f4⟩ | exact ⟨_, h.f5⟩ | exact ⟨_, h.f6⟩ | exact ⟨_, h.f7⟩ | exact ⟨_, h.f8⟩ | exact ⟨_, h.f9⟩ | exact ⟨_, h.f10⟩ | exact ⟨_, h.f11⟩ | exact ⟨_, h.f12⟩ | exact ⟨_, h.f13⟩ | exact ⟨_, h.f14⟩ | exact ⟨_, h.f15⟩)
                        clear hK K
                        try simp only [Act.put]
                        refine wpAnyG_done (by kernel_rfl) ?_ _
                        refine NoPanic.normal ?_
                        go_wp2_with fail
                        go_meet
                        case rel => exact ⟨g4, c5, A5, rfl, h.ac (by simp only [Hp.all] <;> ac_rfl)⟩
                      · skip
                        rw [if_pos (by rfl)]
                        refine wp_alloc_own (cs := #[.bool false, .slice none 0 0, .slice none 0 0, .slice none 0 0]) (T := NT) h (by go_simp) (fun g4 w8 h => ?_)
                        refine hK.out _ _ ?_ (fun hS => ?_)
                        · exact HC3.out _ (by first | exact ⟨_, h⟩ | exact ⟨_, h.f1⟩ | exact ⟨_, h.f2⟩ | exact ⟨_, h.f3⟩ | exact ⟨_, h.f4⟩ | exact ⟨_, h.f5⟩ | exact ⟨_, h.f6⟩ | exact ⟨_, h.f7⟩ | exact ⟨_, h.f8⟩ | exact ⟨_, h.f9⟩ | exact ⟨_, h.f10⟩ | exact ⟨_, h.f11⟩ | exact ⟨_, h.f12⟩ | exact ⟨_, h.f13⟩ | exact ⟨_, h.f14⟩ | exact ⟨_, h.f15⟩)
                        clear hK K
                        try simp only [Act.put, List.setIfInBounds_toArray, List.set_cons_zero, List.set_cons_succ]
                        refine wpAnyG_keep (i := 4) (oi := ⟨some 64, _, _, _, _, _⟩) (by kernel_rfl) rfl (fun K hK => ?_)
                        rw [if_pos (by rfl)]
                        go_simp
                        first | have h := (h : Own _ _ (Hp.ro S :: _)) | have h := (h.f1 : Own _ _ (Hp.ro S :: _)) | have h := (h.f2 : Own _ _ (Hp.ro S :: _)) | have h := (h.f3 : Own _ _ (Hp.ro S :: _)) | have h := (h.f4 : Own _ _ (Hp.ro S :: _)) | have h := (h.f5 : Own _ _ (Hp.ro S :: _)) | have h := (h.f6 : Own _ _ (Hp.ro S :: _)) | have h := (h.f7 : Own _ _ (Hp.ro S :: _)) | have h := (h.f8 : Own _ _ (Hp.ro S :: _)) | have h := (h.f9 : Own _ _ (Hp.ro S :: _)) | have h := (h.f10 : Own _ _ (Hp.ro S :: _)) | have h := (h.f11 : Own _ _ (Hp.ro S :: _)) | have h := (h.f12 : Own _ _ (Hp.ro S :: _)) | have h := (h.f13 : Own _ _ (Hp.ro S :: _)) | have h := (h.f14 : Own _ _ (Hp.ro S :: _)) | have h := (h.f15 : Own _ _ (Hp.ro S :: _))
                        refine (clone_str a1 ks.length c1 ks _ (by omega) r1 h).mono ?_
                        rintro e w5 ⟨v5, rfl, h⟩
                        obtain ⟨A5, c5, rfl, -⟩ := h.lstSlice
                        rw [List.length_map] at h ⊢
                        refine hK.out _ _ ?_ (fun hS => ?_)
                        · exact HC3.out _ (by first | exact ⟨_, h⟩ | exact ⟨_, h.f1⟩ | exact ⟨_, h.f2⟩ | exact ⟨_, h.f3⟩ | exact ⟨_, h.f4⟩ | exact ⟨_, h.f5⟩ | exact ⟨_, h.f6⟩ | exact ⟨_, h.f7⟩ | exact ⟨_, h.f8⟩ | exact ⟨_, h.f9⟩ | exact ⟨_, h.f10⟩ | exact ⟨_, h.f11⟩ | exact ⟨_, h.f12⟩ | exact ⟨_, h.f13⟩ | exact ⟨_, h.f14⟩ | exact ⟨_, h.f15⟩)
                        clear hK K
                        try simp only [Act.put, List.setIfInBounds_toArray, List.set_cons_zero, List.set_cons_succ]
                        refine wpAnyG_pure (i := 5) (oi := ⟨some 65, _, _, _, _, _⟩) (v := ?_) rfl (by kernel_rfl) (by kernel_rfl) (by kernel_rfl) (by rfl) (fun _ _ _ h => h) (by rfl) ?_ ?_
                        rotate_left
                        · intro w
                          go_simp
                          first | done | with_reducible rfl
                        try simp only [Act.put, List.setIfInBounds_toArray, List.set_cons_zero, List.set_cons_succ]
                        refine wpAnyG_keep (i := 7) (oi := ⟨none, _, _, _, _, _⟩) (by kernel_rfl) rfl (fun K hK => ?_)
                        rw [if_pos (by rfl)]
                        first | have h := (h : Own _ _ (Hp.blk g4 NT _ :: _)) | have h := (h.f1 : Own _ _ (Hp.blk g4 NT _ :: _)) | have h := (h.f2 : Own _ _ (Hp.blk g4 NT _ :: _)) | have h := (h.f3 : Own _ _ (Hp.blk g4 NT _ :: _)) | have h := (h.f4 : Own _ _ (Hp.blk g4 NT _ :: _)) | have h := (h.f5 : Own _ _ (Hp.blk g4 NT _ :: _)) | have h := (h.f6 : Own _ _ (Hp.blk g4 NT _ :: _)) | have h := (h.f7 : Own _ _ (Hp.blk g4 NT _ :: _)) | have h := (h.f8 : Own _ _ (Hp.blk g4 NT _ :: _)) | have h := (h.f9 : Own _ _ (Hp.blk g4 NT _ :: _)) | have h := (h.f10 : Own _ _ (Hp.blk g4 NT _ :: _)) | have h := (h.f11 : Own _ _ (Hp.blk g4 NT _ :: _)) | have h := (h.f12 : Own _ _ (Hp.blk g4 NT _ :: _)) | have h := (h.f13 : Own _ _ (Hp.blk g4 NT _ :: _)) | have h := (h.f14 : Own _ _ (Hp.blk g4 NT _ :: _)) | have h := (h.f15 : Own _ _ (Hp.blk g4 NT _ :: _))
                        refine wp_store_whole (cs := [.bool false, .slice none 0 0, .slice none 0 0, .slice none 0 0]) (vs := [.bool true, .slice A5 ks.length c5, .slice none 0 0, .slice none 0 0]) h rfl (ND_all1 _ _ _ _ rfl rfl rfl) (by kernel_rfl) rfl rfl rfl (fun w9 h => ?_)
                        refine hK.out _ _ ?_ (fun hS => ?_)
                        · exact HC3.out _ (by first | exact ⟨_, h⟩ | exact ⟨_, h.f1⟩ | exact ⟨_, h.f2⟩ | exact ⟨_, h.f3⟩ | exact ⟨_, h.f4⟩ | exact ⟨_, h.f5⟩ | exact ⟨_, h.f6⟩ | exact ⟨_, h.f7⟩ | exact ⟨_, h.f8⟩ | exact ⟨_, h.f9⟩ | exact ⟨_, h.f10⟩ | exact ⟨_, h.f11⟩ | exact ⟨_, h.f12⟩ | exact ⟨_, h.f13⟩ | exact ⟨_, h.f14⟩ | exact ⟨_, h.f15⟩)
                        clear hK K
                        try simp only [Act.put]
                        refine wpAnyG_done (by kernel_rfl) ?_ _
                        refine NoPanic.normal ?_
                        go_wp2_with fail
                        go_meet
                        case rel => exact ⟨g4, c5, A5, rfl, h.ac (by simp only [Hp.all] <;> ac_rfl)⟩
                    obtain ⟨g8, c8, A8, rfl, h⟩ := hcut
                    have hcell2 : ∀ w', (∃ L', Own E w' (Hp.blk (g + 1) NT #[.bool true, .slice b1 ks2.length d1, .slice b2 vs2.length d2, .slice b3 ls2.length d3] :: Hp.blk g NT #[.bool true, .slice a1 ks.length c1, .slice a2 vs.length c2, .slice a3 ls.length c3] :: L')) → w'.cell? ⟨g, 2, none⟩ = some (.slice a2 vs.length c2) ∧ w'.cell? ⟨g + 1, 2, none⟩ = some (.slice b2 vs2.length d2) := fun w' hw => by
                      obtain ⟨_, hw⟩ := hw
                      exact ⟨hw.f1.cell 2, hw.cell 2⟩
                    have q0 : wc.cell? ⟨g, 0, none⟩ = some (.bool true) := h.f5.cell 0
                    have HC4 := Lib.hid hcell2
                    clear hcell2 HC3 H
                    have hcell3 : ∀ w', (∃ L', Own E w' (Hp.blk g NT #[.bool true, .slice a1 ks.length c1, .slice a2 vs.length c2, .slice a3 ls.length c3] :: L')) → w'.cell? ⟨g, 2, none⟩ = some (.slice a2 vs.length c2) := fun w' hw => by
                      obtain ⟨_, hw⟩ := hw
                      exact hw.cell 2
                    have hcell4 : ∀ w', (∃ L', Own E w' (Hp.blk (g + 1) NT #[.bool true, .slice b1 ks2.length d1, .slice b2 vs2.length d2, .slice b3 ls2.length d3] :: L')) → w'.cell? ⟨g + 1, 2, none⟩ = some (.slice b2 vs2.length d2) := fun w' hw => by
                      obtain ⟨_, hw⟩ := hw
                      exact hw.cell 2
                    have hboth : ∀ w' L1, Own E w' (Hp.ro S :: L1) → True := fun _ _ _ => trivial
                    have HC5 := Lib.hid hcell3
                    have HC6 := Lib.hid hcell4
                    clear hcell3 hcell4 hboth HC4
                    have H := Lib.hid h
                    clear h
                    go_wp2_with fail
                    have h := H.out
                    clear q0
                    have h := h.drew
                    refine wp_region_text [1, 4] (fun w' => w'.cell? ⟨g, 2, none⟩ = some (.slice a2 vs.length c2) ∧ w'.cell? ⟨g + 1, 2, none⟩ = some (.slice b2 vs2.length d2)) (by kernel_rfl) ?_ (fun hS => ?_)
                    · exact ⟨HC5.out _ (by first | exact ⟨_, h⟩ | exact ⟨_, h.f1⟩ | exact ⟨_, h.f2⟩ | exact ⟨_, h.f3⟩ | exact ⟨_, h.f4⟩ | exact ⟨_, h.f5⟩ | exact ⟨_, h.f6⟩ | exact ⟨_, h.f7⟩ | exact ⟨_, h.f8⟩ | exact ⟨_, h.f9⟩ | exact ⟨_, h.f10⟩ | exact ⟨_, h.f11⟩ | exact ⟨_, h.f12⟩ | exact ⟨_, h.f13⟩ | exact ⟨_, h.f14⟩ | exact ⟨_, h.f15⟩), HC6.out _ (by first | exact ⟨_, h⟩ | exact ⟨_, h.f1⟩ | exact ⟨_, h.f2⟩ | exact ⟨_, h.f3⟩ | exact ⟨_, h.f4⟩ | exact ⟨_, h.f5⟩ | exact ⟨_, h.f6⟩ | exact ⟨_, h.f7⟩ | exact ⟨_, h.f8⟩ | exact ⟨_, h.f9⟩ | exact ⟨_, h.f10⟩ | exact ⟨_, h.f11⟩ | exact ⟨_, h.f12⟩ | exact ⟨_, h.f13⟩ | exact ⟨_, h.f14⟩ | exact ⟨_, h.f15⟩)⟩
                    refine wpAnyG_pure (i := 0) (oi := ⟨some 68, _, _, _, _, _⟩) (v := ?_) rfl (by kernel_rfl) (by kernel_rfl) (by kernel_rfl) (by rfl) (fun _ _ _ h => h) (by rfl) ?_ ?_
                    rotate_left
                    · intro w
                      go_simp
                      first | done | with_reducible rfl
                    try simp only [Act.put, List.setIfInBounds_toArray, List.set_cons_zero, List.set_cons_succ]
                    refine wpAnyG_load (i := 1) (oi := ⟨some 69, _, _, _, _, _⟩) (v := ?_) rfl (by kernel_rfl) (by kernel_rfl) (by kernel_rfl) (by rfl) (fun _ _ _ h => h) (by rfl) ?_ (by assumption) ?_
                    rotate_left
                    · intro w hS
                      try dsimp only at hS
                      go_simp
                      first | done | with_reducible rfl
                    try simp only [Act.put, List.setIfInBounds_toArray, List.set_cons_zero, List.set_cons_succ]
                    refine wpAnyG_pure (i := 3) (oi := ⟨some 71, _, _, _, _, _⟩) (v := ?_) rfl (by kernel_rfl) (by kernel_rfl) (by kernel_rfl) (by rfl) (fun _ _ _ h => h) (by rfl) ?_ ?_
                    rotate_left
                    · intro w
                      go_simp
                      first | done | with_reducible rfl
                    try simp only [Act.put, List.setIfInBounds_toArray, List.set_cons_zero, List.set_cons_succ]
                    refine wpAnyG_load (i := 4) (oi := ⟨some 72, _, _, _, _, _⟩) (v := ?_) rfl (by kernel_rfl) (by kernel_rfl) (by kernel_rfl) (by rfl) (fun _ _ _ h => h) (by rfl) ?_ (by assumption) ?_
                    rotate_left
                    · intro w hS
                      try dsimp only at hS
                      go_simp
                      first | done | with_reducible rfl
                    try simp only [Act.put, List.setIfInBounds_toArray, List.set_cons_zero, List.set_cons_succ]
                    refine wpAnyG_keep (i := 2) (oi := ⟨some 70, _, _, _, _, _⟩) (by kernel_rfl) rfl (fun K hK => ?_)
                    rw [if_pos (by rfl)]
                    go_simp
                    first | have h := (h : Own _ _ (Hp.ro S :: _)) | have h := (h.f1 : Own _ _ (Hp.ro S :: _)) | have h := (h.f2 : Own _ _ (Hp.ro S :: _)) | have h := (h.f3 : Own _ _ (Hp.ro S :: _)) | have h := (h.f4 : Own _ _ (Hp.ro S :: _)) | have h := (h.f5 : Own _ _ (Hp.ro S :: _)) | have h := (h.f6 : Own _ _ (Hp.ro S :: _)) | have h := (h.f7 : Own _ _ (Hp.ro S :: _)) | have h := (h.f8 : Own _ _ (Hp.ro S :: _)) | have h := (h.f9 : Own _ _ (Hp.ro S :: _)) | have h := (h.f10 : Own _ _ (Hp.ro S :: _)) | have h := (h.f11 : Own _ _ (Hp.ro S :: _)) | have h := (h.f12 : Own _ _ (Hp.ro S :: _)) | have h := (h.f13 : Own _ _ (Hp.ro S :: _)) | have h := (h.f14 : Own _ _ (Hp.ro S :: _)) | have h := (h.f15 : Own _ _ (Hp.ro S :: _))
                    refine (clone_str a2 vs.length c2 vs _ (by omega) r2 h).mono ?_
                    rintro e w5 ⟨v5, rfl, h⟩
                    obtain ⟨A5, c5, rfl, -⟩ := h.lstSlice
                    rw [List.length_map] at h ⊢
                    refine hK.out _ _ ?_ (fun hS => ?_)
                    · exact ⟨HC5.out _ (by first | exact ⟨_, h⟩ | exact ⟨_, h.f1⟩ | exact ⟨_, h.f2⟩ | exact ⟨_, h.f3⟩ | exact ⟨_, h.f4⟩ | exact ⟨_, h.f5⟩ | exact ⟨_, h.f6⟩ | exact ⟨_, h.f7⟩ | exact ⟨_, h.f8⟩ | exact ⟨_, h.f9⟩ | exact ⟨_, h.f10⟩ | exact ⟨_, h.f11⟩ | exact ⟨_, h.f12⟩ | exact ⟨_, h.f13⟩ | exact ⟨_, h.f14⟩ | exact ⟨_, h.f15⟩), HC6.out _ (by first | exact ⟨_, h⟩ | exact ⟨_, h.f1⟩ | exact ⟨_, h.f2⟩ | exact ⟨_, h.f3⟩ | exact ⟨_, h.f4⟩ | exact ⟨_, h.f5⟩ | exact ⟨_, h.f6⟩ | exact ⟨_, h.f7⟩ | exact ⟨_, h.f8⟩ | exact ⟨_, h.f9⟩ | exact ⟨_, h.f10⟩ | exact ⟨_, h.f11⟩ | exact ⟨_, h.f12⟩ | exact ⟨_, h.f13⟩ | exact ⟨_, h.f14⟩ | exact ⟨_, h.f15⟩)⟩
                    clear hK K
                    try simp only [Act.put, List.setIfInBounds_toArray, List.set_cons_zero, List.set_cons_succ]
                    refine wpAnyG_keep (i := 5) (oi := ⟨some 73, _, _, _, _, _⟩) (by kernel_rfl) rfl (fun K hK => ?_)
                    rw [if_pos (by rfl)]
                    have hrd : RdC _ b2 (vs2.map VS) := Rds.rdC s2 h.f1
                    obtain ⟨v6, w6, hap, h⟩ := lst_append (P := Tryd.prog) (t := LST) (ty := LST) lst_u st_info (by rfl) h b2 vs2.length d2 (vs2.map VS) (by rw [List.length_map]) hrd (VS_one _) (by unfold maxLen; rw [List.length_map]; omega) (by rw [List.length_map]; omega)
                    refine wp_append_run hap rfl rfl rfl ?_
                    obtain ⟨A6, c6, rfl, -⟩ := h.lstSlice
                    rw [← List.map_append, List.length_map, List.length_append] at h ⊢
                    refine hK.out _ _ ?_ (fun hS => ?_)
                    · exact ⟨HC5.out _ (by first | exact ⟨_, h⟩ | exact ⟨_, h.f1⟩ | exact ⟨_, h.f2⟩ | exact ⟨_, h.f3⟩ | exact ⟨_, h.f4⟩ | exact ⟨_, h.f5⟩ | exact ⟨_, h.f6⟩ | exact ⟨_, h.f7⟩ | exact ⟨_, h.f8⟩ | exact ⟨_, h.f9⟩ | exact ⟨_, h.f10⟩ | exact ⟨_, h.f11⟩ | exact ⟨_, h.f12⟩ | exact ⟨_, h.f13⟩ | exact ⟨_, h.f14⟩ | exact ⟨_, h.f15⟩), HC6.out _ (by first | exact ⟨_, h⟩ | exact ⟨_, h.f1⟩ | exact ⟨_, h.f2⟩ | exact ⟨_, h.f3⟩ | exact ⟨_, h.f4⟩ | exact ⟨_, h.f5⟩ | exact ⟨_, h.f6⟩ | exact ⟨_, h.f7⟩ | exact ⟨_, h.f8⟩ | exact ⟨_, h.f9⟩ | exact ⟨_, h.f10⟩ | exact ⟨_, h.f11⟩ | exact ⟨_, h.f12⟩ | exact ⟨_, h.f13⟩ | exact ⟨_, h.f14⟩ | exact ⟨_, h.f15⟩)⟩
                    clear hK K
                    try simp only [Act.put, List.setIfInBounds_toArray, List.set_cons_zero, List.set_cons_succ]
                    refine wpAnyG_keep (i := 6) (oi := ⟨some 74, _, _, _, _, _⟩) (by kernel_rfl) rfl (fun K hK => ?_)
                    rw [if_pos (by rfl)]
                    go_simp
                    refine (clip_str _ _ _ (vs ++ vs2) _ h).mono ?_
                    rintro e w7 ⟨v7, rfl, h⟩
                    obtain ⟨A7, c7, rfl, -⟩ := h.lstSlice
                    rw [List.length_map, List.length_append] at h ⊢
                    refine hK.out _ _ ?_ (fun hS => ?_)
                    · exact ⟨HC5.out _ (by first | exact ⟨_, h⟩ | exact ⟨_, h.f1⟩ | exact ⟨_, h.f2⟩ | exact ⟨_, h.f3⟩ | exact ⟨_, h.f4⟩ | exact ⟨_, h.f5⟩ | exact ⟨_, h.f6⟩ | exact ⟨_, h.f7⟩ | exact ⟨_, h.f8⟩ | exact ⟨_, h.f9⟩ | exact ⟨_, h.f10⟩ | exact ⟨_, h.f11⟩ | exact ⟨_, h.f12⟩ | exact ⟨_, h.f13⟩ | exact ⟨_, h.f14⟩ | exact ⟨_, h.f15⟩), HC6.out _ (by first | exact ⟨_, h⟩ | exact ⟨_, h.f1⟩ | exact ⟨_, h.f2⟩ | exact ⟨_, h.f3⟩ | exact ⟨_, h.f4⟩ | exact ⟨_, h.f5⟩ | exact ⟨_, h.f6⟩ | exact ⟨_, h.f7⟩ | exact ⟨_, h.f8⟩ | exact ⟨_, h.f9⟩ | exact ⟨_, h.f10⟩ | exact ⟨_, h.f11⟩ | exact ⟨_, h.f12⟩ | exact ⟨_, h.f13⟩ | exact ⟨_, h.f14⟩ | exact ⟨_, h.f15⟩)⟩
                    clear hK K
                    try simp only [Act.put, List.setIfInBounds_toArray, List.set_cons_zero, List.set_cons_succ]
                    refine wpAnyG_pure (i := 7) (oi := ⟨some 75, _, _, _, _, _⟩) (v := ?_) rfl (by kernel_rfl) (by kernel_rfl) (by kernel_rfl) (by rfl) (fun _ _ _ h => h) (by rfl) ?_ ?_
                    rotate_left
                    · intro w
                      go_simp
                      first | done | with_reducible rfl
                    try simp only [Act.put, List.setIfInBounds_toArray, List.set_cons_zero, List.set_cons_succ]
                    refine wpAnyG_break (i := 8) (oi := ⟨none, _, _, _, _, _⟩) (by kernel_rfl) rfl (by kernel_rfl) (fun K hK => ?_)
                    rw [if_pos (by rfl)]
                    first | have h := (h : Own _ _ (Hp.blk g8 NT _ :: _)) | have h := (h.f1 : Own _ _ (Hp.blk g8 NT _ :: _)) | have h := (h.f2 : Own _ _ (Hp.blk g8 NT _ :: _)) | have h := (h.f3 : Own _ _ (Hp.blk g8 NT _ :: _)) | have h := (h.f4 : Own _ _ (Hp.blk g8 NT _ :: _)) | have h := (h.f5 : Own _ _ (Hp.blk g8 NT _ :: _)) | have h := (h.f6 : Own _ _ (Hp.blk g8 NT _ :: _)) | have h := (h.f7 : Own _ _ (Hp.blk g8 NT _ :: _)) | have h := (h.f8 : Own _ _ (Hp.blk g8 NT _ :: _)) | have h := (h.f9 : Own _ _ (Hp.blk g8 NT _ :: _)) | have h := (h.f10 : Own _ _ (Hp.blk g8 NT _ :: _)) | have h := (h.f11 : Own _ _ (Hp.blk g8 NT _ :: _)) | have h := (h.f12 : Own _ _ (Hp.blk g8 NT _ :: _)) | have h := (h.f13 : Own _ _ (Hp.blk g8 NT _ :: _)) | have h := (h.f14 : Own _ _ (Hp.blk g8 NT _ :: _)) | have h := (h.f15 : Own _ _ (Hp.blk g8 NT _ :: _))
                    have f5 := h.cell 2
                    have f6 := h.frozen 2
                    have h := h.set 2 (.slice A7 (vs.length + vs2.length) c7)
                    go_simp
                    refine hK.out _ _ ?_
                    clear hK K
                    try simp only [Act.put]
                    refine wpAnyG_done (by kernel_rfl) ?_ _
                    refine NoPanic.normal ?_
                    have h : Own E _ (Hp.blk g8 NT #[.bool true, .slice A8 ks.length c8, .slice A7 (vs.length + vs2.length) c7, .slice none 0 0] :: _) := h
                    generalize World.setCell _ _ _ = wa at h ⊢
                    have e1 := h.cell 1
                    first | have h := (h : Own _ _ (Hp.blk (g + 1) NT _ :: _)) | have h := (h.f1 : Own _ _ (Hp.blk (g + 1) NT _ :: _)) | have h := (h.f2 : Own _ _ (Hp.blk (g + 1) NT _ :: _)) | have h := (h.f3 : Own _ _ (Hp.blk (g + 1) NT _ :: _)) | have h := (h.f4 : Own _ _ (Hp.blk (g + 1) NT _ :: _)) | have h := (h.f5 : Own _ _ (Hp.blk (g + 1) NT _ :: _)) | have h := (h.f6 : Own _ _ (Hp.blk (g + 1) NT _ :: _)) | have h := (h.f7 : Own _ _ (Hp.blk (g + 1) NT _ :: _)) | have h := (h.f8 : Own _ _ (Hp.blk (g + 1) NT _ :: _)) | have h := (h.f9 : Own _ _ (Hp.blk (g + 1) NT _ :: _)) | have h := (h.f10 : Own _ _ (Hp.blk (g + 1) NT _ :: _)) | have h := (h.f11 : Own _ _ (Hp.blk (g + 1) NT _ :: _)) | have h := (h.f12 : Own _ _ (Hp.blk (g + 1) NT _ :: _)) | have h := (h.f13 : Own _ _ (Hp.blk (g + 1) NT _ :: _)) | have h := (h.f14 : Own _ _ (Hp.blk (g + 1) NT _ :: _)) | have h := (h.f15 : Own _ _ (Hp.blk (g + 1) NT _ :: _))
                    have q1 : wa.cell? ⟨g + 1, 1, none⟩ = some (.slice b1 ks2.length d1) := h.cell 1
                    first | have h := (h : Own _ _ (Hp.ro S :: _)) | have h := (h.f1 : Own _ _ (Hp.ro S :: _)) | have h := (h.f2 : Own _ _ (Hp.ro S :: _)) | have h := (h.f3 : Own _ _ (Hp.ro S :: _)) | have h := (h.f4 : Own _ _ (Hp.ro S :: _)) | have h := (h.f5 : Own _ _ (Hp.ro S :: _)) | have h := (h.f6 : Own _ _ (Hp.ro S :: _)) | have h := (h.f7 : Own _ _ (Hp.ro S :: _)) | have h := (h.f8 : Own _ _ (Hp.ro S :: _)) | have h := (h.f9 : Own _ _ (Hp.ro S :: _)) | have h := (h.f10 : Own _ _ (Hp.ro S :: _)) | have h := (h.f11 : Own _ _ (Hp.ro S :: _)) | have h := (h.f12 : Own _ _ (Hp.ro S :: _)) | have h := (h.f13 : Own _ _ (Hp.ro S :: _)) | have h := (h.f14 : Own _ _ (Hp.ro S :: _)) | have h := (h.f15 : Own _ _ (Hp.ro S :: _))
                    have hrd : RdC _ b1 (ks2.map VS) := Rds.rdC s1 h
                    first | have h := (h : Own _ _ (Hp.strs (.slice A8 ks.length c8) ks :: _)) | have h := (h.f1 : Own _ _ (Hp.strs (.slice A8 ks.length c8) ks :: _)) | have h := (h.f2 : Own _ _ (Hp.strs (.slice A8 ks.length c8) ks :: _)) | have h := (h.f3 : Own _ _ (Hp.strs (.slice A8 ks.length c8) ks :: _)) | have h := (h.f4 : Own _ _ (Hp.strs (.slice A8 ks.length c8) ks :: _)) | have h := (h.f5 : Own _ _ (Hp.strs (.slice A8 ks.length c8) ks :: _)) | have h := (h.f6 : Own _ _ (Hp.strs (.slice A8 ks.length c8) ks :: _)) | have h := (h.f7 : Own _ _ (Hp.strs (.slice A8 ks.length c8) ks :: _)) | have h := (h.f8 : Own _ _ (Hp.strs (.slice A8 ks.length c8) ks :: _)) | have h := (h.f9 : Own _ _ (Hp.strs (.slice A8 ks.length c8) ks :: _)) | have h := (h.f10 : Own _ _ (Hp.strs (.slice A8 ks.length c8) ks :: _)) | have h := (h.f11 : Own _ _ (Hp.strs (.slice A8 ks.length c8) ks :: _)) | have h := (h.f12 : Own _ _ (Hp.strs (.slice A8 ks.length c8) ks :: _)) | have h := (h.f13 : Own _ _ (Hp.strs (.slice A8 ks.length c8) ks :: _)) | have h := (h.f14 : Own _ _ (Hp.strs (.slice A8 ks.length c8) ks :: _)) | have h := (h.f15 : Own _ _ (Hp.strs (.slice A8 ks.length c8) ks :: _))
                    obtain ⟨v6, wb, hap, h⟩ := lst_append (P := Tryd.prog) (t := LST) (ty := LST) lst_u st_info (by rfl) h b1 ks2.length d1 (ks2.map VS) (by rw [List.length_map]) hrd (VS_one _) (by unfold maxLen; simp; omega) (by simp; omega)
                    rw [← List.map_append] at h
                    obtain ⟨Ab, cb, rfl, -⟩ := h.lstSlice
                    rw [List.length_map] at h hap
                    simp only [List.length_append] at h hap
                    first | have h := (h : Own _ _ (Hp.strs (.slice Ab (ks.length + ks2.length) cb) (ks ++ ks2) :: _)) | have h := (h.f1 : Own _ _ (Hp.strs (.slice Ab (ks.length + ks2.length) cb) (ks ++ ks2) :: _)) | have h := (h.f2 : Own _ _ (Hp.strs (.slice Ab (ks.length + ks2.length) cb) (ks ++ ks2) :: _)) | have h := (h.f3 : Own _ _ (Hp.strs (.slice Ab (ks.length + ks2.length) cb) (ks ++ ks2) :: _)) | have h := (h.f4 : Own _ _ (Hp.strs (.slice Ab (ks.length + ks2.length) cb) (ks ++ ks2) :: _)) | have h := (h.f5 : Own _ _ (Hp.strs (.slice Ab (ks.length + ks2.length) cb) (ks ++ ks2) :: _)) | have h := (h.f6 : Own _ _ (Hp.strs (.slice Ab (ks.length + ks2.length) cb) (ks ++ ks2) :: _)) | have h := (h.f7 : Own _ _ (Hp.strs (.slice Ab (ks.length + ks2.length) cb) (ks ++ ks2) :: _)) | have h := (h.f8 : Own _ _ (Hp.strs (.slice Ab (ks.length + ks2.length) cb) (ks ++ ks2) :: _)) | have h := (h.f9 : Own _ _ (Hp.strs (.slice Ab (ks.length + ks2.length) cb) (ks ++ ks2) :: _)) | have h := (h.f10 : Own _ _ (Hp.strs (.slice Ab (ks.length + ks2.length) cb) (ks ++ ks2) :: _)) | have h := (h.f11 : Own _ _ (Hp.strs (.slice Ab (ks.length + ks2.length) cb) (ks ++ ks2) :: _)) | have h := (h.f12 : Own _ _ (Hp.strs (.slice Ab (ks.length + ks2.length) cb) (ks ++ ks2) :: _)) | have h := (h.f13 : Own _ _ (Hp.strs (.slice Ab (ks.length + ks2.length) cb) (ks ++ ks2) :: _)) | have h := (h.f14 : Own _ _ (Hp.strs (.slice Ab (ks.length + ks2.length) cb) (ks ++ ks2) :: _)) | have h := (h.f15 : Own _ _ (Hp.strs (.slice Ab (ks.length + ks2.length) cb) (ks ++ ks2) :: _))
                    have H := Lib.hid h
                    clear h hrd
                    go_wp2_with (with_reducible refine at_slot (k := some 94) ?_; refine wpList_append_run (o := ⟨some 94, _, _, _, _, _⟩) hap rfl rfl rfl rfl ?_; clear hap)
                    refine (clip_str _ _ _ (ks ++ ks2) _ H.out).mono ?_
                    rintro e wc ⟨v7, rfl, h⟩
                    obtain ⟨Ac, cc, rfl, -⟩ := h.lstSlice
                    rw [List.length_map] at h ⊢
                    simp only [List.length_append] at h ⊢
                    clear H e1 q1
                    first | have h := (h : Own _ _ (Hp.blk g8 NT _ :: _)) | have h := (h.f1 : Own _ _ (Hp.blk g8 NT _ :: _)) | have h := (h.f2 : Own _ _ (Hp.blk g8 NT _ :: _)) | have h := (h.f3 : Own _ _ (Hp.blk g8 NT _ :: _)) | have h := (h.f4 : Own _ _ (Hp.blk g8 NT _ :: _)) | have h := (h.f5 : Own _ _ (Hp.blk g8 NT _ :: _)) | have h := (h.f6 : Own _ _ (Hp.blk g8 NT _ :: _)) | have h := (h.f7 : Own _ _ (Hp.blk g8 NT _ :: _)) | have h := (h.f8 : Own _ _ (Hp.blk g8 NT _ :: _)) | have h := (h.f9 : Own _ _ (Hp.blk g8 NT _ :: _)) | have h := (h.f10 : Own _ _ (Hp.blk g8 NT _ :: _)) | have h := (h.f11 : Own _ _ (Hp.blk g8 NT _ :: _)) | have h := (h.f12 : Own _ _ (Hp.blk g8 NT _ :: _)) | have h := (h.f13 : Own _ _ (Hp.blk g8 NT _ :: _)) | have h := (h.f14 : Own _ _ (Hp.blk g8 NT _ :: _)) | have h := (h.f15 : Own _ _ (Hp.blk g8 NT _ :: _))
                    have e1 := h.cell 1
                    have f1 := h.frozen 1
                    have h2 := h.set 1 (.slice Ac (ks.length + ks2.length) cc)
                    have e3 := h2.cell 3
                    have h := h2
                    clear h2
                    have H := Lib.hid h
                    clear h
                    go_wp2_with fail
                    have h : Own E _ (Hp.blk g8 NT #[.bool true, .slice Ac (ks.length + ks2.length) cc, .slice A7 (vs.length + vs2.length) c7, .slice none 0 0] :: _) := H.out
                    generalize World.setCell _ _ _ = wd at h ⊢
                    clear e1 f1 e3 H
                    have h := h.emptyLst IT none
                    first | have h := (h : Own _ _ (Hp.strs (.slice A7 (vs.length + vs2.length) c7) (vs ++ vs2) :: _)) | have h := (h.f1 : Own _ _ (Hp.strs (.slice A7 (vs.length + vs2.length) c7) (vs ++ vs2) :: _)) | have h := (h.f2 : Own _ _ (Hp.strs (.slice A7 (vs.length + vs2.length) c7) (vs ++ vs2) :: _)) | have h := (h.f3 : Own _ _ (Hp.strs (.slice A7 (vs.length + vs2.length) c7) (vs ++ vs2) :: _)) | have h := (h.f4 : Own _ _ (Hp.strs (.slice A7 (vs.length + vs2.length) c7) (vs ++ vs2) :: _)) | have h := (h.f5 : Own _ _ (Hp.strs (.slice A7 (vs.length + vs2.length) c7) (vs ++ vs2) :: _)) | have h := (h.f6 : Own _ _ (Hp.strs (.slice A7 (vs.length + vs2.length) c7) (vs ++ vs2) :: _)) | have h := (h.f7 : Own _ _ (Hp.strs (.slice A7 (vs.length + vs2.length) c7) (vs ++ vs2) :: _)) | have h := (h.f8 : Own _ _ (Hp.strs (.slice A7 (vs.length + vs2.length) c7) (vs ++ vs2) :: _)) | have h := (h.f9 : Own _ _ (Hp.strs (.slice A7 (vs.length + vs2.length) c7) (vs ++ vs2) :: _)) | have h := (h.f10 : Own _ _ (Hp.strs (.slice A7 (vs.length + vs2.length) c7) (vs ++ vs2) :: _)) | have h := (h.f11 : Own _ _ (Hp.strs (.slice A7 (vs.length + vs2.length) c7) (vs ++ vs2) :: _)) | have h := (h.f12 : Own _ _ (Hp.strs (.slice A7 (vs.length + vs2.length) c7) (vs ++ vs2) :: _)) | have h := (h.f13 : Own _ _ (Hp.strs (.slice A7 (vs.length + vs2.length) c7) (vs ++ vs2) :: _)) | have h := (h.f14 : Own _ _ (Hp.strs (.slice A7 (vs.length + vs2.length) c7) (vs ++ vs2) :: _)) | have h := (h.f15 : Own _ _ (Hp.strs (.slice A7 (vs.length + vs2.length) c7) (vs ++ vs2) :: _))
                    first | have h := (h : Own _ _ (Hp.strs (.slice Ac (ks.length + ks2.length) cc) (ks ++ ks2) :: _)) | have h := (h.f1 : Own _ _ (Hp.strs (.slice Ac (ks.length + ks2.length) cc) (ks ++ ks2) :: _)) | have h := (h.f2 : Own _ _ (Hp.strs (.slice Ac (ks.length + ks2.length) cc) (ks ++ ks2) :: _)) | have h := (h.f3 : Own _ _ (Hp.strs (.slice Ac (ks.length + ks2.length) cc) (ks ++ ks2) :: _)) | have h := (h.f4 : Own _ _ (Hp.strs (.slice Ac (ks.length + ks2.length) cc) (ks ++ ks2) :: _)) | have h := (h.f5 : Own _ _ (Hp.strs (.slice Ac (ks.length + ks2.length) cc) (ks ++ ks2) :: _)) | have h := (h.f6 : Own _ _ (Hp.strs (.slice Ac (ks.length + ks2.length) cc) (ks ++ ks2) :: _)) | have h := (h.f7 : Own _ _ (Hp.strs (.slice Ac (ks.length + ks2.length) cc) (ks ++ ks2) :: _)) | have h := (h.f8 : Own _ _ (Hp.strs (.slice Ac (ks.length + ks2.length) cc) (ks ++ ks2) :: _)) | have h := (h.f9 : Own _ _ (Hp.strs (.slice Ac (ks.length + ks2.length) cc) (ks ++ ks2) :: _)) | have h := (h.f10 : Own _ _ (Hp.strs (.slice Ac (ks.length + ks2.length) cc) (ks ++ ks2) :: _)) | have h := (h.f11 : Own _ _ (Hp.strs (.slice Ac (ks.length + ks2.length) cc) (ks ++ ks2) :: _)) | have h := (h.f12 : Own _ _ (Hp.strs (.slice Ac (ks.length + ks2.length) cc) (ks ++ ks2) :: _)) | have h := (h.f13 : Own _ _ (Hp.strs (.slice Ac (ks.length + ks2.length) cc) (ks ++ ks2) :: _)) | have h := (h.f14 : Own _ _ (Hp.strs (.slice Ac (ks.length + ks2.length) cc) (ks ++ ks2) :: _)) | have h := (h.f15 : Own _ _ (Hp.strs (.slice Ac (ks.length + ks2.length) cc) (ks ++ ks2) :: _))
                    have h : Own E _ (Hp.strs _ _ :: Hp.strs _ _ :: Hp.ints (.slice none 0 0) [] :: _) := h
                    have h := Own.toNode (n := ⟨true, ks ++ ks2, vs ++ vs2, []⟩) h
                    first | have h := (h : Own _ _ (Hp.ro S :: _)) | have h := (h.f1 : Own _ _ (Hp.ro S :: _)) | have h := (h.f2 : Own _ _ (Hp.ro S :: _)) | have h := (h.f3 : Own _ _ (Hp.ro S :: _)) | have h := (h.f4 : Own _ _ (Hp.ro S :: _)) | have h := (h.f5 : Own _ _ (Hp.ro S :: _)) | have h := (h.f6 : Own _ _ (Hp.ro S :: _)) | have h := (h.f7 : Own _ _ (Hp.ro S :: _)) | have h := (h.f8 : Own _ _ (Hp.ro S :: _)) | have h := (h.f9 : Own _ _ (Hp.ro S :: _)) | have h := (h.f10 : Own _ _ (Hp.ro S :: _)) | have h := (h.f11 : Own _ _ (Hp.ro S :: _)) | have h := (h.f12 : Own _ _ (Hp.ro S :: _)) | have h := (h.f13 : Own _ _ (Hp.ro S :: _)) | have h := (h.f14 : Own _ _ (Hp.ro S :: _)) | have h := (h.f15 : Own _ _ (Hp.ro S :: _))
                    have h := h.f1
                    obtain ⟨aa, hA, had, h⟩ := h.lend
                    obtain ⟨qq, hq, hin⟩ := node_in hA
                    obtain ⟨qa1, qc1, qa2, qc2, qa3, qc3⟩ := qq
                    simp only [Nv.val, Value.agg.injEq, Array.mk.injEq, List.cons.injEq, Value.slice.injEq, List.length_append, List.length_nil, and_true, true_and] at hq
                    obtain ⟨⟨rfl, rfl⟩, ⟨rfl, rfl⟩, rfl, -, rfl⟩ := hq
                    have hin2 := hin.sub (T := Ph.join aa S) Ph.join_l
                    have hA := Lib.hid hA
                    have hun := fun w M hw => unlike_any (E := E) (S := Ph.join aa S) (L := M) none 0 0 [] w (by omega) (by simpa using hin2.r3) hw
                    have hsz := fun w M hw => size_any (E := E) (S := Ph.join aa S) (L := M) ⟨_, _, _, _, _, _⟩ ⟨true, ks ++ ks2, vs ++ vs2, []⟩ w hbb hin2 hw
                    rw [hkd] at hun
                    rw [hpz] at hsz
                    simp only [Nv.val, List.length_append, List.length_nil] at hsz
                    have HUN := Lib.hid hun
                    have HSZ := Lib.hid hsz
                    clear hun hsz hin hin2
                    have H := Lib.hid h
                    clear h
                    with_reducible refine (HUN.out _ _ H.out).mono ?_
                    rintro e we ⟨rfl, h⟩
                    clear H
                    cases kd
                    · obtain rfl : pe = 103 := by rw [HPE.out]; simp [hsan, hsbn]
                      obtain rfl : pn = Nd.nil := by rw [HPN.out]; rfl
                      first | have h := (h : Own _ _ (Hp.blk (g + 2) NT _ :: _)) | have h := (h.f1 : Own _ _ (Hp.blk (g + 2) NT _ :: _)) | have h := (h.f2 : Own _ _ (Hp.blk (g + 2) NT _ :: _)) | have h := (h.f3 : Own _ _ (Hp.blk (g + 2) NT _ :: _)) | have h := (h.f4 : Own _ _ (Hp.blk (g + 2) NT _ :: _)) | have h := (h.f5 : Own _ _ (Hp.blk (g + 2) NT _ :: _)) | have h := (h.f6 : Own _ _ (Hp.blk (g + 2) NT _ :: _)) | have h := (h.f7 : Own _ _ (Hp.blk (g + 2) NT _ :: _)) | have h := (h.f8 : Own _ _ (Hp.blk (g + 2) NT _ :: _)) | have h := (h.f9 : Own _ _ (Hp.blk (g + 2) NT _ :: _)) | have h := (h.f10 : Own _ _ (Hp.blk (g + 2) NT _ :: _)) | have h := (h.f11 : Own _ _ (Hp.blk (g + 2) NT _ :: _)) | have h := (h.f12 : Own _ _ (Hp.blk (g + 2) NT _ :: _)) | have h := (h.f13 : Own _ _ (Hp.blk (g + 2) NT _ :: _)) | have h := (h.f14 : Own _ _ (Hp.blk (g + 2) NT _ :: _)) | have h := (h.f15 : Own _ _ (Hp.blk (g + 2) NT _ :: _))
                      have H := Lib.hid h
                      clear h
                      go_wp2_with (with_reducible refine at_slot (k := none) ?_; refine wpList_store_whole (o := ⟨none, _, _, _, _, _⟩) (cs := [.bool false, .slice none 0 0, .slice none 0 0, .slice none 0 0]) (vs := [.bool false, .slice none 0 0, .slice none 0 0, .slice none 0 0]) H.out rfl (ND_all1 _ _ _ _ rfl rfl rfl) (by kernel_rfl) rfl rfl rfl rfl ?_; intro w7 h)
                      refine bodyPost_ret (results_ct rfl rfl h hnt hnr (by kernel_rfl)) rfl ?_
                      refine ⟨_, rfl, ?_⟩
                      have h := h.drop
                      first | have h := (h : Own _ _ (Hp.ro (Ph.join aa S) :: _)) | have h := (h.f1 : Own _ _ (Hp.ro (Ph.join aa S) :: _)) | have h := (h.f2 : Own _ _ (Hp.ro (Ph.join aa S) :: _)) | have h := (h.f3 : Own _ _ (Hp.ro (Ph.join aa S) :: _)) | have h := (h.f4 : Own _ _ (Hp.ro (Ph.join aa S) :: _)) | have h := (h.f5 : Own _ _ (Hp.ro (Ph.join aa S) :: _)) | have h := (h.f6 : Own _ _ (Hp.ro (Ph.join aa S) :: _)) | have h := (h.f7 : Own _ _ (Hp.ro (Ph.join aa S) :: _)) | have h := (h.f8 : Own _ _ (Hp.ro (Ph.join aa S) :: _)) | have h := (h.f9 : Own _ _ (Hp.ro (Ph.join aa S) :: _)) | have h := (h.f10 : Own _ _ (Hp.ro (Ph.join aa S) :: _)) | have h := (h.f11 : Own _ _ (Hp.ro (Ph.join aa S) :: _)) | have h := (h.f12 : Own _ _ (Hp.ro (Ph.join aa S) :: _)) | have h := (h.f13 : Own _ _ (Hp.ro (Ph.join aa S) :: _)) | have h := (h.f14 : Own _ _ (Hp.ro (Ph.join aa S) :: _)) | have h := (h.f15 : Own _ _ (Hp.ro (Ph.join aa S) :: _))
                      have h := (h.part had).drop
                      exact (h.f1.drop.f1.drop.f1.drop).nilNode
                    · first | have h := (h : Own _ _ (Hp.blk g8 NT _ :: _)) | have h := (h.f1 : Own _ _ (Hp.blk g8 NT _ :: _)) | have h := (h.f2 : Own _ _ (Hp.blk g8 NT _ :: _)) | have h := (h.f3 : Own _ _ (Hp.blk g8 NT _ :: _)) | have h := (h.f4 : Own _ _ (Hp.blk g8 NT _ :: _)) | have h := (h.f5 : Own _ _ (Hp.blk g8 NT _ :: _)) | have h := (h.f6 : Own _ _ (Hp.blk g8 NT _ :: _)) | have h := (h.f7 : Own _ _ (Hp.blk g8 NT _ :: _)) | have h := (h.f8 : Own _ _ (Hp.blk g8 NT _ :: _)) | have h := (h.f9 : Own _ _ (Hp.blk g8 NT _ :: _)) | have h := (h.f10 : Own _ _ (Hp.blk g8 NT _ :: _)) | have h := (h.f11 : Own _ _ (Hp.blk g8 NT _ :: _)) | have h := (h.f12 : Own _ _ (Hp.blk g8 NT _ :: _)) | have h := (h.f13 : Own _ _ (Hp.blk g8 NT _ :: _)) | have h := (h.f14 : Own _ _ (Hp.blk g8 NT _ :: _)) | have h := (h.f15 : Own _ _ (Hp.blk g8 NT _ :: _))
                      have e0 := h.cell 0
                      have e1 := h.cell 1
                      have e2 := h.cell 2
                      have e3 := h.cell 3
                      first | have h := (h : Own _ _ (Hp.ro (Ph.join aa S) :: _)) | have h := (h.f1 : Own _ _ (Hp.ro (Ph.join aa S) :: _)) | have h := (h.f2 : Own _ _ (Hp.ro (Ph.join aa S) :: _)) | have h := (h.f3 : Own _ _ (Hp.ro (Ph.join aa S) :: _)) | have h := (h.f4 : Own _ _ (Hp.ro (Ph.join aa S) :: _)) | have h := (h.f5 : Own _ _ (Hp.ro (Ph.join aa S) :: _)) | have h := (h.f6 : Own _ _ (Hp.ro (Ph.join aa S) :: _)) | have h := (h.f7 : Own _ _ (Hp.ro (Ph.join aa S) :: _)) | have h := (h.f8 : Own _ _ (Hp.ro (Ph.join aa S) :: _)) | have h := (h.f9 : Own _ _ (Hp.ro (Ph.join aa S) :: _)) | have h := (h.f10 : Own _ _ (Hp.ro (Ph.join aa S) :: _)) | have h := (h.f11 : Own _ _ (Hp.ro (Ph.join aa S) :: _)) | have h := (h.f12 : Own _ _ (Hp.ro (Ph.join aa S) :: _)) | have h := (h.f13 : Own _ _ (Hp.ro (Ph.join aa S) :: _)) | have h := (h.f14 : Own _ _ (Hp.ro (Ph.join aa S) :: _)) | have h := (h.f15 : Own _ _ (Hp.ro (Ph.join aa S) :: _))
                      have H := Lib.hid h
                      clear h
                      go_wp2_with fail
                      with_reducible refine (HSZ.out _ _ H.out).mono ?_
                      rintro e wf ⟨rfl, h⟩
                      clear e0 e1 e2 e3
                      by_cases hz : 718 < pz
                      · have hzi : (718 : Int) < pz := by omega
                        obtain rfl : pe = 102 := by rw [HPE.out]; simp [hsan, hsbn, hz]
                        obtain rfl : pn = Nd.nil := by rw [HPN.out]; rfl
                        first | have h := (h : Own _ _ (Hp.blk (g + 2) NT _ :: _)) | have h := (h.f1 : Own _ _ (Hp.blk (g + 2) NT _ :: _)) | have h := (h.f2 : Own _ _ (Hp.blk (g + 2) NT _ :: _)) | have h := (h.f3 : Own _ _ (Hp.blk (g + 2) NT _ :: _)) | have h := (h.f4 : Own _ _ (Hp.blk (g + 2) NT _ :: _)) | have h := (h.f5 : Own _ _ (Hp.blk (g + 2) NT _ :: _)) | have h := (h.f6 : Own _ _ (Hp.blk (g + 2) NT _ :: _)) | have h := (h.f7 : Own _ _ (Hp.blk (g + 2) NT _ :: _)) | have h := (h.f8 : Own _ _ (Hp.blk (g + 2) NT _ :: _)) | have h := (h.f9 : Own _ _ (Hp.blk (g + 2) NT _ :: _)) | have h := (h.f10 : Own _ _ (Hp.blk (g + 2) NT _ :: _)) | have h := (h.f11 : Own _ _ (Hp.blk (g + 2) NT _ :: _)) | have h := (h.f12 : Own _ _ (Hp.blk (g + 2) NT _ :: _)) | have h := (h.f13 : Own _ _ (Hp.blk (g + 2) NT _ :: _)) | have h := (h.f14 : Own _ _ (Hp.blk (g + 2) NT _ :: _)) | have h := (h.f15 : Own _ _ (Hp.blk (g + 2) NT _ :: _))
                        have H := Lib.hid h
                        clear h
                        go_wp2_with (with_reducible refine at_slot (k := none) ?_; refine wpList_store_whole (o := ⟨none, _, _, _, _, _⟩) (cs := [.bool false, .slice none 0 0, .slice none 0 0, .slice none 0 0]) (vs := [.bool false, .slice none 0 0, .slice none 0 0, .slice none 0 0]) H.out rfl (ND_all1 _ _ _ _ rfl rfl rfl) (by kernel_rfl) rfl rfl rfl rfl ?_; intro w7 h)
                        refine bodyPost_ret (results_ct rfl rfl h hnt hnr (by kernel_rfl)) rfl ?_
                        refine ⟨_, rfl, ?_⟩
                        have h := h.drop
                        first | have h := (h : Own _ _ (Hp.ro (Ph.join aa S) :: _)) | have h := (h.f1 : Own _ _ (Hp.ro (Ph.join aa S) :: _)) | have h := (h.f2 : Own _ _ (Hp.ro (Ph.join aa S) :: _)) | have h := (h.f3 : Own _ _ (Hp.ro (Ph.join aa S) :: _)) | have h := (h.f4 : Own _ _ (Hp.ro (Ph.join aa S) :: _)) | have h := (h.f5 : Own _ _ (Hp.ro (Ph.join aa S) :: _)) | have h := (h.f6 : Own _ _ (Hp.ro (Ph.join aa S) :: _)) | have h := (h.f7 : Own _ _ (Hp.ro (Ph.join aa S) :: _)) | have h := (h.f8 : Own _ _ (Hp.ro (Ph.join aa S) :: _)) | have h := (h.f9 : Own _ _ (Hp.ro (Ph.join aa S) :: _)) | have h := (h.f10 : Own _ _ (Hp.ro (Ph.join aa S) :: _)) | have h := (h.f11 : Own _ _ (Hp.ro (Ph.join aa S) :: _)) | have h := (h.f12 : Own _ _ (Hp.ro (Ph.join aa S) :: _)) | have h := (h.f13 : Own _ _ (Hp.ro (Ph.join aa S) :: _)) | have h := (h.f14 : Own _ _ (Hp.ro (Ph.join aa S) :: _)) | have h := (h.f15 : Own _ _ (Hp.ro (Ph.join aa S) :: _))
                        have h := (h.part had).drop
                        exact (h.f1.drop.f1.drop.f1.drop).nilNode
                      · have hzi : ¬ (718 : Int) < pz := by omega
                        obtain rfl : pe = 0 := by rw [HPE.out]; simp [hsan, hsbn, hz]
                        obtain rfl : pn = ⟨true, ks ++ ks2, vs ++ vs2, []⟩ := by rw [HPN.out]; rfl
                        first | have h := (h : Own _ _ (Hp.blk g8 NT _ :: _)) | have h := (h.f1 : Own _ _ (Hp.blk g8 NT _ :: _)) | have h := (h.f2 : Own _ _ (Hp.blk g8 NT _ :: _)) | have h := (h.f3 : Own _ _ (Hp.blk g8 NT _ :: _)) | have h := (h.f4 : Own _ _ (Hp.blk g8 NT _ :: _)) | have h := (h.f5 : Own _ _ (Hp.blk g8 NT _ :: _)) | have h := (h.f6 : Own _ _ (Hp.blk g8 NT _ :: _)) | have h := (h.f7 : Own _ _ (Hp.blk g8 NT _ :: _)) | have h := (h.f8 : Own _ _ (Hp.blk g8 NT _ :: _)) | have h := (h.f9 : Own _ _ (Hp.blk g8 NT _ :: _)) | have h := (h.f10 : Own _ _ (Hp.blk g8 NT _ :: _)) | have h := (h.f11 : Own _ _ (Hp.blk g8 NT _ :: _)) | have h := (h.f12 : Own _ _ (Hp.blk g8 NT _ :: _)) | have h := (h.f13 : Own _ _ (Hp.blk g8 NT _ :: _)) | have h := (h.f14 : Own _ _ (Hp.blk g8 NT _ :: _)) | have h := (h.f15 : Own _ _ (Hp.blk g8 NT _ :: _))
                        have e0 := h.cell 0
                        have e1 := h.cell 1
                        have e2 := h.cell 2
                        have e3 := h.cell 3
                        first | have h := (h : Own _ _ (Hp.blk (g + 2) NT _ :: _)) | have h := (h.f1 : Own _ _ (Hp.blk (g + 2) NT _ :: _)) | have h := (h.f2 : Own _ _ (Hp.blk (g + 2) NT _ :: _)) | have h := (h.f3 : Own _ _ (Hp.blk (g + 2) NT _ :: _)) | have h := (h.f4 : Own _ _ (Hp.blk (g + 2) NT _ :: _)) | have h := (h.f5 : Own _ _ (Hp.blk (g + 2) NT _ :: _)) | have h := (h.f6 : Own _ _ (Hp.blk (g + 2) NT _ :: _)) | have h := (h.f7 : Own _ _ (Hp.blk (g + 2) NT _ :: _)) | have h := (h.f8 : Own _ _ (Hp.blk (g + 2) NT _ :: _)) | have h := (h.f9 : Own _ _ (Hp.blk (g + 2) NT _ :: _)) | have h := (h.f10 : Own _ _ (Hp.blk (g + 2) NT _ :: _)) | have h := (h.f11 : Own _ _ (Hp.blk (g + 2) NT _ :: _)) | have h := (h.f12 : Own _ _ (Hp.blk (g + 2) NT _ :: _)) | have h := (h.f13 : Own _ _ (Hp.blk (g + 2) NT _ :: _)) | have h := (h.f14 : Own _ _ (Hp.blk (g + 2) NT _ :: _)) | have h := (h.f15 : Own _ _ (Hp.blk (g + 2) NT _ :: _))
                        have H := Lib.hid h
                        clear h
                        go_wp2_with (with_reducible refine at_slot (k := none) ?_; refine wpList_store_whole (o := ⟨none, _, _, _, _, _⟩) (cs := [.bool false, .slice none 0 0, .slice none 0 0, .slice none 0 0]) (vs := [.bool true, .slice Ac (ks.length + ks2.length) cc, .slice A7 (vs.length + vs2.length) c7, .slice none 0 0]) H.out rfl (ND_all1 _ _ _ _ rfl rfl rfl) (by kernel_rfl) rfl rfl rfl rfl ?_; intro w7 h)
                        refine bodyPost_ret (results_ct rfl rfl h hnt hnr (by kernel_rfl)) rfl ?_
                        refine ⟨_, rfl, ?_⟩
                        have h := h.drop
                        first | have h := (h : Own _ _ (Hp.ro (Ph.join aa S) :: _)) | have h := (h.f1 : Own _ _ (Hp.ro (Ph.join aa S) :: _)) | have h := (h.f2 : Own _ _ (Hp.ro (Ph.join aa S) :: _)) | have h := (h.f3 : Own _ _ (Hp.ro (Ph.join aa S) :: _)) | have h := (h.f4 : Own _ _ (Hp.ro (Ph.join aa S) :: _)) | have h := (h.f5 : Own _ _ (Hp.ro (Ph.join aa S) :: _)) | have h := (h.f6 : Own _ _ (Hp.ro (Ph.join aa S) :: _)) | have h := (h.f7 : Own _ _ (Hp.ro (Ph.join aa S) :: _)) | have h := (h.f8 : Own _ _ (Hp.ro (Ph.join aa S) :: _)) | have h := (h.f9 : Own _ _ (Hp.ro (Ph.join aa S) :: _)) | have h := (h.f10 : Own _ _ (Hp.ro (Ph.join aa S) :: _)) | have h := (h.f11 : Own _ _ (Hp.ro (Ph.join aa S) :: _)) | have h := (h.f12 : Own _ _ (Hp.ro (Ph.join aa S) :: _)) | have h := (h.f13 : Own _ _ (Hp.ro (Ph.join aa S) :: _)) | have h := (h.f14 : Own _ _ (Hp.ro (Ph.join aa S) :: _)) | have h := (h.f15 : Own _ _ (Hp.ro (Ph.join aa S) :: _))
                        have h := Own.give hA.out had h
                        exact h.f2.drop.f2.drop.f2.drop
end
end Go.Proofs.YtbclmmneiphcaaaDoor
