/- latchkeyref10.Join (printed by gen_xjoin.py). -/
import Derived.Test.YtbclmmneiphcaaaDoorXForm
import Derived.Test.YtbclmmneiphcaaaDoorJoin2
namespace Go.Proofs.YtbclmmneiphcaaaDoor
open Go.RowKit
def lastB (ks : List ByteArray) (key : ByteArray) : Bool := match ks.getLast? with | some x => slt x key | none => true
def firstB (leaf : Bool) (ks : List ByteArray) (key : ByteArray) : Bool := match ks[0]? with | some y => slt key y || (leaf && !slt y key) | none => true
theorem apartB_eq (a : Nd) (key : ByteArray) (b : Nd) : apartB a key b = (lastB a.ks key && firstB b.leaf b.ks key) := rfl
theorem node_in2 {a : Ph} {leaf : Bool} {ks vs : List ByteArray} {ls : List Int} {A B C : Option Addr} {c d f : Nat} (h : Hp.node (.agg #[.bool leaf, .slice A ks.length c, .slice B vs.length d, .slice C ls.length f]) ⟨leaf, ks, vs, ls⟩ a) : NdIn a ⟨A, c, B, d, C, f⟩ ⟨leaf, ks, vs, ls⟩ := by
  obtain ⟨⟨A', c', B', d', C', f'⟩, hq, hin⟩ := node_in h
  simp only [Nv.val, Value.agg.injEq, Array.mk.injEq, List.cons.injEq, Value.slice.injEq, and_true, true_and] at hq
  obtain ⟨⟨rfl, rfl⟩, ⟨rfl, rfl⟩, rfl, rfl⟩ := hq
  exact hin
theorem formed_leaf {a : Nd} {least : Nat} (hf : a.formed least = true) : (a.leaf = true → a.ls = []) ∧ (a.leaf = false → a.vs = [] ∧ kidsB a.ls = true) := by
  unfold Nd.formed at hf
  constructor
  · intro h
    rw [if_pos h] at hf
    simp only [Bool.and_eq_true, decide_eq_true_eq] at hf
    exact List.eq_nil_of_length_eq_zero hf.1.2.2
  · intro h
    rw [h] at hf
    simp only [Bool.and_eq_true, decide_eq_true_eq, Bool.false_eq_true, if_false] at hf
    exact ⟨List.eq_nil_of_length_eq_zero hf.1.2.2, hf.2⟩
theorem join_put {a b : Nd} {key : ByteArray} (hf : a.formed 0 = true) (hg : b.formed 0 = true) (hl : a.leaf = b.leaf) : a.put key b = ⟨a.leaf, (if a.leaf then a.ks else a.ks ++ [key]) ++ b.ks, a.vs ++ b.vs, a.ls ++ b.ls⟩ := by
  have h1 := formed_leaf hf
  have h2 := formed_leaf hg
  unfold Nd.put
  cases e : a.leaf with
  | true =>
    rw [h1.1 e, h2.1 (hl ▸ e)]; rfl
  | false =>
    rw [(h1.2 e).1, (h2.2 (hl ▸ e)).1]; rfl
theorem join_kids {a b : Nd} (hf : a.formed 0 = true) (hg : b.formed 0 = true) (hl : a.leaf = b.leaf) : kidsB (a.ls ++ b.ls) = decide (a.ls ++ b.ls).Nodup := by
  have h1 := formed_leaf hf
  have h2 := formed_leaf hg
  cases e : a.leaf with
  | true =>
    rw [h1.1 e, h2.1 (hl ▸ e)]; rfl
  | false =>
    have k1 := (kidsB_iff _).1 (h1.2 e).2
    have k2 := (kidsB_iff _).1 (h2.2 (hl ▸ e)).2
    have hall : (a.ls ++ b.ls).all kidB = true := List.all_eq_true.2 fun x hx => by
      rcases List.mem_append.1 hx with hx | hx
      · exact decide_eq_true (k1.1 x hx)
      · exact decide_eq_true (k2.1 x hx)
    unfold kidsB
    rw [hall, Bool.true_and]
section
variable {E : World} {S : Ph} {L : List Hp}
set_option maxRecDepth 100000 in
set_option maxHeartbeats 8000000 in
theorem xjoin_any (v u : Nv) (a : Nd) (key : ByteArray) (b : Nd) (w : World) (hk : key.size ≤ 4294967296) (hb : a.bulk ≤ 2147483647) (hb2 : b.bulk ≤ 2147483647) (hi : NdIn S v a) (hj : NdIn S u b) (h : Own E w (Hp.ro S :: L)) :
    Calls Tryd.prog 42 #[v.val a, .string key, u.val b] w fun e w' => ∃ nv, e = .returned (.tuple #[nv, .int .i64 (joinE a key b)]) ∧ Own E w' (Hp.node nv (a.join key b) :: Hp.ro S :: L) := by
  have hbb : (a.put key b).bulk ≤ 1125899906842624 := by have := put_bulk a key b; omega
  have hf1 : ∀ w M, Own E w (Hp.ro S :: M) → Calls Tryd.prog 70 #[v.val a, .bool true] w fun e w' => e = .returned (.bool (a.formed 0)) ∧ Own E w' (Hp.ro S :: M) := fun w M hw => xform_any (E := E) (S := S) (L := M) v a true w (by omega) hi hw
  have hf2 : ∀ w M, Own E w (Hp.ro S :: M) → Calls Tryd.prog 70 #[u.val b, .bool true] w fun e w' => e = .returned (.bool (b.formed 0)) ∧ Own E w' (Hp.ro S :: M) := fun w M hw => xform_any (E := E) (S := S) (L := M) u b true w (by omega) hj hw
  have hs1 := fun w M hw => xsize_any (E := E) (S := S) (L := M) v a w (by omega) hi hw
  have hs2 := fun w M hw => xsize_any (E := E) (S := S) (L := M) u b w (by omega) hj hw
  obtain ⟨l1, l2, l3⟩ : a.ks.length ≤ 2147483647 ∧ a.vs.length ≤ 2147483647 ∧ a.ls.length ≤ 2147483647 := by unfold Nd.bulk at hb; omega
  obtain ⟨m1, m2, m3⟩ : b.ks.length ≤ 2147483647 ∧ b.vs.length ≤ 2147483647 ∧ b.ls.length ≤ 2147483647 := by unfold Nd.bulk at hb2; omega
  have hm1 := fun w M hw => xkeys_any (E := E) (S := S) (L := M) v.a1 a.ks.length v.c1 a.ks w (by omega) hi.r1 hw
  have hm2 := fun w M hw => xkeys_any (E := E) (S := S) (L := M) u.a1 b.ks.length u.c1 b.ks w (by omega) hj.r1 hw
  have hpe : joinE a key b = if ¬ (a.formed 0 = true ∧ b.formed 0 = true ∧ a.size ≤ 480 ∧ b.size ≤ 480) then 100
    else if ¬ (mayB a.ks = true ∧ mayB b.ks = true ∧ isKeyB key = true) then 101
    else if ¬ (a.leaf = b.leaf ∧ apartB a key b = true) then 103
    else if kidsB (a.put key b).ls = false then 103
    else if 718 < (a.put key b).size then 102 else 0 := rfl
  have hpn : a.join key b = if joinE a key b = 0 then a.put key b else Nd.nil := rfl
  have hpt : a.formed 0 = true → b.formed 0 = true → a.leaf = b.leaf → a.put key b = ⟨a.leaf, (if a.leaf then a.ks else a.ks ++ [key]) ++ b.ks, a.vs ++ b.vs, a.ls ++ b.ls⟩ := fun h1 h2 h3 => join_put h1 h2 h3
  have hkids : a.formed 0 = true → b.formed 0 = true → a.leaf = b.leaf → kidsB (a.ls ++ b.ls) = decide (a.ls ++ b.ls).Nodup := fun h1 h2 h3 => join_kids h1 h2 h3
  have hapd := apartB_eq a key b
  generalize a.join key b = pn at *
  generalize joinE a key b = pe at *
  generalize a.put key b = pt at *
  generalize hkd : kidsB pt.ls = kd at *
  generalize hpz : pt.size = pz at *
  generalize a.formed 0 = fa at *
  generalize b.formed 0 = fb at *
  generalize a.size = sa at *
  generalize b.size = sb at *
  generalize mayB a.ks = ma at *
  generalize mayB b.ks = mb at *
  generalize apartB a key b = ap at *
  generalize hik : isKeyB key = ik at *
  obtain ⟨a1, c1, a2, c2, a3, c3⟩ := v
  obtain ⟨b1, d1, b2, d2, b3, d3⟩ := u
  obtain ⟨leaf, ks, vs, ls⟩ := a
  obtain ⟨leaf2, ks2, vs2, ls2⟩ := b
  obtain ⟨r1, r2, r3, -, -, -, -, -, -⟩ := hi
  obtain ⟨s1, s2, s3, -, -, -, -, -, -⟩ := hj
  dsimp only [Nv.val] at *
  have h1 : Own E _ (Hp.blk (w.heap.size + 2) NT #[.bool false, .slice none 0 0, .slice none 0 0, .slice none 0 0] :: Hp.blk (w.heap.size + 1) NT #[.bool leaf2, .slice b1 ks2.length d1, .slice b2 vs2.length d2, .slice b3 ls2.length d3] :: Hp.blk w.heap.size NT #[.bool leaf, .slice a1 ks.length c1, .slice a2 vs.length c2, .slice a3 ls.length c3] :: Hp.ro S :: L) := h.alloc3 _ _ _
  have hcell : ∀ w', Own E w' (Hp.ro S :: Hp.blk (w.heap.size + 2) NT #[.bool false, .slice none 0 0, .slice none 0 0, .slice none 0 0] :: Hp.blk (w.heap.size + 1) NT #[.bool leaf2, .slice b1 ks2.length d1, .slice b2 vs2.length d2, .slice b3 ls2.length d3] :: Hp.blk w.heap.size NT #[.bool leaf, .slice a1 ks.length c1, .slice a2 vs.length c2, .slice a3 ls.length c3] :: L) → w'.cell? ⟨w.heap.size, 0, none⟩ = some (.bool leaf) ∧ w'.cell? ⟨w.heap.size, 1, none⟩ = some (.slice a1 ks.length c1) ∧ w'.cell? ⟨w.heap.size, 2, none⟩ = some (.slice a2 vs.length c2) ∧ w'.cell? ⟨w.heap.size, 3, none⟩ = some (.slice a3 ls.length c3) ∧ w'.cell? ⟨w.heap.size + 1, 0, none⟩ = some (.bool leaf2) ∧ w'.cell? ⟨w.heap.size + 1, 1, none⟩ = some (.slice b1 ks2.length d1) ∧ w'.cell? ⟨w.heap.size + 1, 2, none⟩ = some (.slice b2 vs2.length d2) ∧ w'.cell? ⟨w.heap.size + 1, 3, none⟩ = some (.slice b3 ls2.length d3) := fun w' hw =>
    ⟨hw.f3.cell 0, hw.f3.cell 1, hw.f3.cell 2, hw.f3.cell 3, hw.f2.cell 0, hw.f2.cell 1, hw.f2.cell 2, hw.f2.cell 3⟩
  obtain ⟨nt, hnt, hnr⟩ := nt_u
  obtain ⟨g, hg⟩ : ∃ g, g = w.heap.size := ⟨_, rfl⟩
  rw [← hg] at h1 hcell
  have HC := Lib.hid hcell
  have HFA := Lib.hid hf1
  have HFB := Lib.hid hf2
  have HSA := Lib.hid hs1
  have HSB := Lib.hid hs2
  have HMA := Lib.hid hm1
  have HMB := Lib.hid hm2
  have HAP := Lib.hid hapd
  have HPE := Lib.hid hpe
  have HPN := Lib.hid hpn
  have HPT := Lib.hid hpt
  have HKD := Lib.hid hkids
  have HIK := Lib.hid hik
  have h := h1.f3
  clear h1 hcell hf1 hf2 hs1 hs2 hm1 hm2 hapd hpe hpn hpt hkids hik hb hb2
  obtain ⟨p0, p1, p2, p3, q0, q1, q2, q3⟩ := HC.out _ h
  have H := Lib.hid h
  clear h p0 p1 p2 p3 q0 q1 q2 q3
  have p0 := trivial
  have p1 := trivial
  have p2 := trivial
  have p3 := trivial
  have q0 := trivial
  have q1 := trivial
  have q2 := trivial
  have q3 := trivial
  go_enter Tryd.func42, Tryd.ntmps42
  go_wp2_with fail
  rw [← hg]
  clear hg
  refine (HFA.out _ _ H.out).mono ?_
  rintro e w1 ⟨rfl, h⟩
  clear p0 p1 p2 p3 q0 q1 q2 q3 H
  obtain ⟨p0, p1, p2, p3, q0, q1, q2, q3⟩ := HC.out _ h
  have H := Lib.hid h
  clear h
  go_wp2_with fail
  refine (HFB.out _ _ H.out).mono ?_
  rintro e w1 ⟨rfl, h⟩
  have hqf := trivial
  cases fa
  · obtain rfl : pe = 100 := by rw [HPE.out]; simp
    obtain rfl : pn = Nd.nil := by rw [HPN.out]; rfl
    have H := Lib.hid h.f1
    clear h
    go_wp2_with (with_reducible refine at_slot (k := none) ?_; refine wpList_store_whole (o := ⟨none, _, _, _, _, _⟩) (cs := [.bool false, .slice none 0 0, .slice none 0 0, .slice none 0 0]) (vs := [.bool false, .slice none 0 0, .slice none 0 0, .slice none 0 0]) H.out rfl (ND_all1 _ _ _ _ rfl rfl rfl) (by kernel_rfl) rfl rfl rfl rfl ?_; intro w7 h)
    refine bodyPost_ret (results_ct rfl rfl h hnt hnr (by kernel_rfl)) rfl ?_
    refine ⟨_, rfl, ?_⟩
    exact (h.drop.f2.drop.f1.drop).nilNode
  · cases fb
    · obtain rfl : pe = 100 := by rw [HPE.out]; simp
      obtain rfl : pn = Nd.nil := by rw [HPN.out]; rfl
      have H := Lib.hid h.f1
      clear h
      go_wp2_with (with_reducible refine at_slot (k := none) ?_; refine wpList_store_whole (o := ⟨none, _, _, _, _, _⟩) (cs := [.bool false, .slice none 0 0, .slice none 0 0, .slice none 0 0]) (vs := [.bool false, .slice none 0 0, .slice none 0 0, .slice none 0 0]) H.out rfl (ND_all1 _ _ _ _ rfl rfl rfl) (by kernel_rfl) rfl rfl rfl rfl ?_; intro w7 h)
      refine bodyPost_ret (results_ct rfl rfl h hnt hnr (by kernel_rfl)) rfl ?_
      refine ⟨_, rfl, ?_⟩
      exact (h.drop.f2.drop.f1.drop).nilNode
    · replace hqf : true = true ∧ true = true := ⟨rfl, rfl⟩
      clear p0 p1 p2 p3 q0 q1 q2 q3 H
      obtain ⟨p0, p1, p2, p3, q0, q1, q2, q3⟩ := HC.out _ h
      have H := Lib.hid h
      clear h
      go_wp2_with fail
      with_reducible refine (HSA.out _ _ H.out).mono ?_
      rintro e w1 ⟨rfl, h⟩
      by_cases hsa : 480 < sa
      · have hsai : (480 : Int) < sa := by omega
        have hsan : ¬ sa ≤ 480 := by omega
        obtain rfl : pe = 100 := by rw [HPE.out]; simp [hsan]
        obtain rfl : pn = Nd.nil := by rw [HPN.out]; rfl
        have H := Lib.hid h.f1
        clear h
        go_wp2_with (with_reducible refine at_slot (k := none) ?_; refine wpList_store_whole (o := ⟨none, _, _, _, _, _⟩) (cs := [.bool false, .slice none 0 0, .slice none 0 0, .slice none 0 0]) (vs := [.bool false, .slice none 0 0, .slice none 0 0, .slice none 0 0]) H.out rfl (ND_all1 _ _ _ _ rfl rfl rfl) (by kernel_rfl) rfl rfl rfl rfl ?_; intro w7 h)
        refine bodyPost_ret (results_ct rfl rfl h hnt hnr (by kernel_rfl)) rfl ?_
        refine ⟨_, rfl, ?_⟩
        exact (h.drop.f2.drop.f1.drop).nilNode
      · have hsai : ¬ (480 : Int) < sa := by omega
        have hsan : sa ≤ 480 := by omega
        clear p0 p1 p2 p3 q0 q1 q2 q3 H
        obtain ⟨p0, p1, p2, p3, q0, q1, q2, q3⟩ := HC.out _ h
        have H := Lib.hid h
        clear h
        go_wp2_with fail
        with_reducible refine (HSB.out _ _ H.out).mono ?_
        rintro e w1 ⟨rfl, h⟩
        by_cases hsb : 480 < sb
        · have hsbi : (480 : Int) < sb := by omega
          have hsbn : ¬ sb ≤ 480 := by omega
          obtain rfl : pe = 100 := by rw [HPE.out]; simp [hsbn]
          obtain rfl : pn = Nd.nil := by rw [HPN.out]; rfl
          have H := Lib.hid h.f1
          clear h
          go_wp2_with (with_reducible refine at_slot (k := none) ?_; refine wpList_store_whole (o := ⟨none, _, _, _, _, _⟩) (cs := [.bool false, .slice none 0 0, .slice none 0 0, .slice none 0 0]) (vs := [.bool false, .slice none 0 0, .slice none 0 0, .slice none 0 0]) H.out rfl (ND_all1 _ _ _ _ rfl rfl rfl) (by kernel_rfl) rfl rfl rfl rfl ?_; intro w7 h)
          refine bodyPost_ret (results_ct rfl rfl h hnt hnr (by kernel_rfl)) rfl ?_
          refine ⟨_, rfl, ?_⟩
          exact (h.drop.f2.drop.f1.drop).nilNode
        · have hsbi : ¬ (480 : Int) < sb := by omega
          have hsbn : sb ≤ 480 := by omega
          clear p0 p1 p2 p3 q0 q1 q2 q3 H
          obtain ⟨p0, p1, p2, p3, q0, q1, q2, q3⟩ := HC.out _ h
          have H := Lib.hid h
          clear h
          go_wp2_with fail
          with_reducible refine (HMA.out _ _ H.out).mono ?_
          rintro e w1 ⟨rfl, h⟩
          clear p0 p1 p2 p3 q0 q1 q2 q3 H
          obtain ⟨p0, p1, p2, p3, q0, q1, q2, q3⟩ := HC.out _ h
          have H := Lib.hid h
          clear h
          go_wp2_with fail
          with_reducible refine (HMB.out _ _ H.out).mono ?_
          rintro e w1 ⟨rfl, h⟩
          cases ma
          · obtain rfl : pe = 101 := by rw [HPE.out]; simp [hsan, hsbn]
            obtain rfl : pn = Nd.nil := by rw [HPN.out]; rfl
            have H := Lib.hid h.f1
            clear h
            go_wp2_with (with_reducible refine at_slot (k := none) ?_; refine wpList_store_whole (o := ⟨none, _, _, _, _, _⟩) (cs := [.bool false, .slice none 0 0, .slice none 0 0, .slice none 0 0]) (vs := [.bool false, .slice none 0 0, .slice none 0 0, .slice none 0 0]) H.out rfl (ND_all1 _ _ _ _ rfl rfl rfl) (by kernel_rfl) rfl rfl rfl rfl ?_; intro w7 h)
            refine bodyPost_ret (results_ct rfl rfl h hnt hnr (by kernel_rfl)) rfl ?_
            refine ⟨_, rfl, ?_⟩
            exact (h.drop.f2.drop.f1.drop).nilNode
          · cases mb
            · obtain rfl : pe = 101 := by rw [HPE.out]; simp [hsan, hsbn]
              obtain rfl : pn = Nd.nil := by rw [HPN.out]; rfl
              have H := Lib.hid h.f1
              clear h
              go_wp2_with (with_reducible refine at_slot (k := none) ?_; refine wpList_store_whole (o := ⟨none, _, _, _, _, _⟩) (cs := [.bool false, .slice none 0 0, .slice none 0 0, .slice none 0 0]) (vs := [.bool false, .slice none 0 0, .slice none 0 0, .slice none 0 0]) H.out rfl (ND_all1 _ _ _ _ rfl rfl rfl) (by kernel_rfl) rfl rfl rfl rfl ?_; intro w7 h)
              refine bodyPost_ret (results_ct rfl rfl h hnt hnr (by kernel_rfl)) rfl ?_
              refine ⟨_, rfl, ?_⟩
              exact (h.drop.f2.drop.f1.drop).nilNode
            · by_cases k1 : key.size < 1
              · have k1i : (key.size : Int) < 1 := by omega
                obtain rfl : ik = false := by rw [← HIK.out]; exact isKeyB_false (by omega)
                obtain rfl : pe = 101 := by rw [HPE.out]; simp [hsan, hsbn]
                obtain rfl : pn = Nd.nil := by rw [HPN.out]; rfl
                have H := Lib.hid h.f1
                clear h
                go_wp2_with (with_reducible refine at_slot (k := none) ?_; refine wpList_store_whole (o := ⟨none, _, _, _, _, _⟩) (cs := [.bool false, .slice none 0 0, .slice none 0 0, .slice none 0 0]) (vs := [.bool false, .slice none 0 0, .slice none 0 0, .slice none 0 0]) H.out rfl (ND_all1 _ _ _ _ rfl rfl rfl) (by kernel_rfl) rfl rfl rfl rfl ?_; intro w7 h)
                refine bodyPost_ret (results_ct rfl rfl h hnt hnr (by kernel_rfl)) rfl ?_
                refine ⟨_, rfl, ?_⟩
                exact (h.drop.f2.drop.f1.drop).nilNode
              · have k1i : ¬ (key.size : Int) < 1 := by omega
                by_cases k2 : 36 < key.size
                · have k2i : (36 : Int) < key.size := by omega
                  obtain rfl : ik = false := by rw [← HIK.out]; exact isKeyB_false (by omega)
                  obtain rfl : pe = 101 := by rw [HPE.out]; simp [hsan, hsbn]
                  obtain rfl : pn = Nd.nil := by rw [HPN.out]; rfl
                  have H := Lib.hid h.f1
                  clear h
                  go_wp2_with (with_reducible refine at_slot (k := none) ?_; refine wpList_store_whole (o := ⟨none, _, _, _, _, _⟩) (cs := [.bool false, .slice none 0 0, .slice none 0 0, .slice none 0 0]) (vs := [.bool false, .slice none 0 0, .slice none 0 0, .slice none 0 0]) H.out rfl (ND_all1 _ _ _ _ rfl rfl rfl) (by kernel_rfl) rfl rfl rfl rfl ?_; intro w7 h)
                  refine bodyPost_ret (results_ct rfl rfl h hnt hnr (by kernel_rfl)) rfl ?_
                  refine ⟨_, rfl, ?_⟩
                  exact (h.drop.f2.drop.f1.drop).nilNode
                · have k2i : ¬ (36 : Int) < key.size := by omega
                  obtain rfl : ik = true := by rw [← HIK.out]; exact decide_eq_true ⟨by omega, by omega⟩
                  clear p0 p1 p2 p3 q0 q1 q2 q3 H
                  obtain ⟨p0, p1, p2, p3, q0, q1, q2, q3⟩ := HC.out _ h
                  have H := Lib.hid h
                  clear h
                  go_upto_region 9 with fail
                  go_cut [107] from 14 (fun v w' => v = .bool (!(decide (leaf = leaf2) && ap)) ∧ Own E w' (Hp.ro S :: Hp.blk (g + 2) NT #[.bool false, .slice none 0 0, .slice none 0 0, .slice none 0 0] :: Hp.blk (g + 1) NT #[.bool leaf2, .slice b1 ks2.length d1, .slice b2 vs2.length d2, .slice b3 ls2.length d3] :: Hp.blk g NT #[.bool leaf, .slice a1 ks.length c1, .slice a2 vs.length c2, .slice a3 ls.length c3] :: L))
                  case first =>
                    by_cases hlf : leaf = leaf2
                    · subst hlf
                      rcases (show (ks.length = 0 ∧ lastB ks key = true) ∨ ∃ (x : ByteArray) (g1 off : Nat), 0 < ks.length ∧ a1 = some ⟨g1, off, none⟩ ∧ S.cell ⟨g1, off + (ks.length - 1), none⟩ = some (.string x) ∧ lastB ks key = slt x key by
                        by_cases h0 : 0 < ks.length
                        · obtain ⟨x, g1, off, hx, hA, hc⟩ := r1.get1 (show ks.length - 1 < ks.length by omega)
                          refine .inr ⟨x, g1, off, h0, hA, hc _ rfl, ?_⟩
                          unfold lastB
                          rw [List.getLast?_eq_getElem?, hx]
                        · have : ks = [] := List.eq_nil_of_length_eq_zero (by omega)
                          subst this
                          exact .inl ⟨rfl, rfl⟩) with ⟨k0, ke⟩ | ⟨x, g1, off1, k0, rfl, kc, ke⟩
                      all_goals rcases (show (ks2.length = 0 ∧ firstB leaf ks2 key = true) ∨ ∃ (y : ByteArray) (g1 off : Nat), 0 < ks2.length ∧ b1 = some ⟨g1, off, none⟩ ∧ S.cell ⟨g1, off, none⟩ = some (.string y) ∧ firstB leaf ks2 key = (slt key y || (leaf && !slt y key)) by
                        by_cases h0 : 0 < ks2.length
                        · obtain ⟨y, g1, off, hy, hB, hc⟩ := s1.get1 h0
                          exact .inr ⟨y, g1, off, h0, hB, hc _ rfl, by unfold firstB; rw [hy]⟩
                        · have : ks2 = [] := List.eq_nil_of_length_eq_zero (by omega)
                          subst this
                          exact .inl ⟨rfl, rfl⟩) with ⟨k1, ke2⟩ | ⟨y, g2, off2, k1, rfl, kc2, ke2⟩
                      all_goals
                        have HKE := Lib.hid ke
                        have HKE2 := Lib.hid ke2
                        try have cx := H.out.rd kc
                        try have cy := H.out.rd kc2
                        clear ke ke2 r1 s1 r2 s2 r3 s3
                        generalize ks.length = nk at *
                        generalize ks2.length = nk2 at *
                      · subst k0 k1
                        go_wp2_with fail
                        go_meet
                        case rel => exact ⟨by simp [HAP.out, HKE.out, HKE2.out], H.out⟩
                      · subst k0
                        have k4 : (0 : Int) < nk2 := by omega
                        cases leaf
                        all_goals
                          rcases slt_tri key y with ⟨y1, y2, y3, y4, y5, y6, y7⟩ | ⟨y1, y2, y3, y4, y5, y6, y7⟩ | ⟨y1, y2, y3, y4, y5, y6, y7⟩
                          all_goals
                            have HY1 := Lib.hid y1
                            have HY2 := Lib.hid y2
                            clear y1 y2 y3
                            go_wp2_with fail
                            go_meet
                            case rel => exact ⟨by simp [HAP.out, HKE.out, HKE2.out, HY1.out, HY2.out], H.out⟩
                      · subst k1
                        have k2 : (0 : Int) < nk := by omega
                        have k5 : IntKind.i64.wrap ((nk : Int) - 1) = (nk : Int) - 1 := IntWalk.i64_in _ (by omega)
                        have k6 : (0 : Int) ≤ (nk : Int) - 1 := by omega
                        have k7 : ((nk : Int) - 1).toNat = nk - 1 := by omega
                        have k8 : (nk : Int) - 1 < nk := by omega
                        rcases slt_tri x key with ⟨z1, z2, z3, z4, z5, z6, z7⟩ | ⟨z1, z2, z3, z4, z5, z6, z7⟩ | ⟨z1, z2, z3, z4, z5, z6, z7⟩
                        all_goals
                          have HZ1 := Lib.hid z1
                          clear z1 z2 z3
                          go_wp2_with fail
                          go_meet
                          case rel => exact ⟨by simp [HAP.out, HKE.out, HKE2.out, HZ1.out], H.out⟩
                      · have k2 : (0 : Int) < nk := by omega
                        have k5 : IntKind.i64.wrap ((nk : Int) - 1) = (nk : Int) - 1 := IntWalk.i64_in _ (by omega)
                        have k6 : (0 : Int) ≤ (nk : Int) - 1 := by omega
                        have k7 : ((nk : Int) - 1).toNat = nk - 1 := by omega
                        have k8 : (nk : Int) - 1 < nk := by omega
                        have k4 : (0 : Int) < nk2 := by omega
                        rcases slt_tri x key with ⟨z1, z2, z3, z4, z5, z6, z7⟩ | ⟨z1, z2, z3, z4, z5, z6, z7⟩ | ⟨z1, z2, z3, z4, z5, z6, z7⟩
                        · have HZ1 := Lib.hid z1
                          clear z1 z2 z3
                          cases leaf
                          all_goals
                            rcases slt_tri key y with ⟨y1, y2, y3, y4, y5, y6, y7⟩ | ⟨y1, y2, y3, y4, y5, y6, y7⟩ | ⟨y1, y2, y3, y4, y5, y6, y7⟩
                            all_goals
                              have HY1 := Lib.hid y1
                              have HY2 := Lib.hid y2
                              clear y1 y2 y3
                              go_wp2_with fail
                              go_meet
                              case rel => exact ⟨by simp [HAP.out, HKE.out, HKE2.out, HZ1.out, HY1.out, HY2.out], H.out⟩
                        all_goals
                          have HZ1 := Lib.hid z1
                          clear z1 z2 z3
                          go_wp2_with fail
                          go_meet
                          case rel => exact ⟨by simp [HAP.out, HKE.out, HKE2.out, HZ1.out], H.out⟩
                    · clear HAP r1 s1 r2 s2 r3 s3
                      have hne : (leaf != leaf2) = true := by simp [hlf]
                      cases leaf <;> cases leaf2
                      · exact absurd rfl hlf
                      · go_wp2_with fail
                        go_meet
                        case rel => exact ⟨by simp, H.out⟩
                      · go_wp2_with fail
                        go_meet
                        case rel => exact ⟨by simp, H.out⟩
                      · exact absurd rfl hlf
                  obtain ⟨rfl, h⟩ := hcut
                  clear p0 p1 p2 p3 q0 q1 q2 q3 H HAP
                  have H := Lib.hid h
                  clear h
                  by_cases hq : (decide (leaf = leaf2) && ap) = true
                  case neg =>
                    have hqn : (decide (leaf = leaf2) && ap) = false := by simpa using hq
                    rw [hqn]
                    have hq2 : ¬ (leaf = leaf2 ∧ ap = true) := by simpa using hq
                    have h := H.out
                    clear H
                    obtain rfl : pe = 103 := by rw [HPE.out]; simp [hsan, hsbn, hq2]
                    obtain rfl : pn = Nd.nil := by rw [HPN.out]; rfl
                    have H := Lib.hid h.f1
                    clear h
                    go_wp2_with (with_reducible refine at_slot (k := none) ?_; refine wpList_store_whole (o := ⟨none, _, _, _, _, _⟩) (cs := [.bool false, .slice none 0 0, .slice none 0 0, .slice none 0 0]) (vs := [.bool false, .slice none 0 0, .slice none 0 0, .slice none 0 0]) H.out rfl (ND_all1 _ _ _ _ rfl rfl rfl) (by kernel_rfl) rfl rfl rfl rfl ?_; intro w7 h)
                    refine bodyPost_ret (results_ct rfl rfl h hnt hnr (by kernel_rfl)) rfl ?_
                    refine ⟨_, rfl, ?_⟩
                    exact (h.drop.f2.drop.f1.drop).nilNode
                  case pos =>
                    rw [hq]
                    obtain ⟨hql, hqa⟩ : leaf = leaf2 ∧ ap = true := by simpa using hq
                    have hpt2 := HPT.out hqf.1 hqf.2 hql
                    have HKD2 := Lib.hid (HKD.out hqf.1 hqf.2 hql)
                    subst hpt2
                    subst hql
                    dsimp only at hkd
                    clear hq HPT HKD
                    have hcell2 : ∀ w', (∃ L', Own E w' (Hp.blk g NT #[.bool leaf, .slice a1 ks.length c1, .slice a2 vs.length c2, .slice a3 ls.length c3] :: L')) → w'.cell? ⟨g, 0, none⟩ = some (.bool leaf) ∧ w'.cell? ⟨g, 1, none⟩ = some (.slice a1 ks.length c1) ∧ w'.cell? ⟨g, 2, none⟩ = some (.slice a2 vs.length c2) ∧ w'.cell? ⟨g, 3, none⟩ = some (.slice a3 ls.length c3) := fun w' hw => by
                      obtain ⟨_, hw⟩ := hw
                      exact ⟨hw.cell 0, hw.cell 1, hw.cell 2, hw.cell 3⟩
                    have HC3 := Lib.hid hcell2
                    clear hcell2
                    go_wp2_with fail
                    go_cut [12] from 14 (fun x8 w' => ∃ (g8 c8 c9 c10 : Nat) (A8 A9 A10 : Option Addr), x8 = .pointer (some ⟨g8, 0, none⟩) ∧ Own E w' (Hp.blk g8 NT #[.bool leaf, .slice A8 ks.length c8, .slice A9 vs.length c9, .slice A10 ls.length c10] :: Hp.strs (.slice A8 ks.length c8) ks :: Hp.strs (.slice A9 vs.length c9) vs :: Hp.ints (.slice A10 ls.length c10) ls :: Hp.ro S :: Hp.blk (g + 2) NT #[.bool false, .slice none 0 0, .slice none 0 0, .slice none 0 0] :: Hp.blk (g + 1) NT #[.bool leaf, .slice b1 ks2.length d1, .slice b2 vs2.length d2, .slice b3 ls2.length d3] :: Hp.blk g NT #[.bool leaf, .slice a1 ks.length c1, .slice a2 vs.length c2, .slice a3 ls.length c3] :: L))
                    case first =>
                      have h := H.out.drew
                      clear H
                      refine wp_region_text [1, 3, 6, 9] (fun w' => w'.cell? ⟨g, 0, none⟩ = some (.bool leaf) ∧ w'.cell? ⟨g, 1, none⟩ = some (.slice a1 ks.length c1) ∧ w'.cell? ⟨g, 2, none⟩ = some (.slice a2 vs.length c2) ∧ w'.cell? ⟨g, 3, none⟩ = some (.slice a3 ls.length c3)) (by kernel_rfl) ?_ (fun hS => ?_)
                      · exact HC3.out _ (by first | exact ⟨_, h⟩ | exact ⟨_, h.f1⟩ | exact ⟨_, h.f2⟩ | exact ⟨_, h.f3⟩ | exact ⟨_, h.f4⟩ | exact ⟨_, h.f5⟩ | exact ⟨_, h.f6⟩ | exact ⟨_, h.f7⟩ | exact ⟨_, h.f8⟩ | exact ⟨_, h.f9⟩ | exact ⟨_, h.f10⟩ | exact ⟨_, h.f11⟩ | exact ⟨_, h.f12⟩ | exact ⟨_, h.f13⟩ | exact ⟨_, h.f14⟩ | exact ⟨_, h.f15⟩)
                      refine wpAnyG_pure (i := 0) (oi := ⟨some 109, _, _, _, _, _⟩) (v := ?_) rfl (by kernel_rfl) (by kernel_rfl) (by kernel_rfl) (by rfl) (fun _ _ _ h => h) (by rfl) ?_ ?_
                      rotate_left
                      · intro w
                        go_simp
                        first | done | with_reducible rfl
                      try simp only [Act.put, List.setIfInBounds_toArray, List.set_cons_zero, List.set_cons_succ]
                      refine wpAnyG_load (i := 1) (oi := ⟨some 110, _, _, _, _, _⟩) (v := ?_) rfl (by kernel_rfl) (by kernel_rfl) (by kernel_rfl) (by rfl) (fun _ _ _ h => h) (by rfl) ?_ (by assumption) ?_
                      rotate_left
                      · intro w hS
                        try dsimp only at hS
                        go_simp
                        first | done | with_reducible rfl
                      try simp only [Act.put, List.setIfInBounds_toArray, List.set_cons_zero, List.set_cons_succ]
                      refine wpAnyG_pure (i := 2) (oi := ⟨some 111, _, _, _, _, _⟩) (v := ?_) rfl (by kernel_rfl) (by kernel_rfl) (by kernel_rfl) (by rfl) (fun _ _ _ h => h) (by rfl) ?_ ?_
                      rotate_left
                      · intro w
                        go_simp
                        first | done | with_reducible rfl
                      try simp only [Act.put, List.setIfInBounds_toArray, List.set_cons_zero, List.set_cons_succ]
                      refine wpAnyG_load (i := 3) (oi := ⟨some 112, _, _, _, _, _⟩) (v := ?_) rfl (by kernel_rfl) (by kernel_rfl) (by kernel_rfl) (by rfl) (fun _ _ _ h => h) (by rfl) ?_ (by assumption) ?_
                      rotate_left
                      · intro w hS
                        try dsimp only at hS
                        go_simp
                        first | done | with_reducible rfl
                      try simp only [Act.put, List.setIfInBounds_toArray, List.set_cons_zero, List.set_cons_succ]
                      refine wpAnyG_pure (i := 5) (oi := ⟨some 114, _, _, _, _, _⟩) (v := ?_) rfl (by kernel_rfl) (by kernel_rfl) (by kernel_rfl) (by rfl) (fun _ _ _ h => h) (by rfl) ?_ ?_
                      rotate_left
                      · intro w
                        go_simp
                        first | done | with_reducible rfl
                      try simp only [Act.put, List.setIfInBounds_toArray, List.set_cons_zero, List.set_cons_succ]
                      refine wpAnyG_load (i := 6) (oi := ⟨some 115, _, _, _, _, _⟩) (v := ?_) rfl (by kernel_rfl) (by kernel_rfl) (by kernel_rfl) (by rfl) (fun _ _ _ h => h) (by rfl) ?_ (by assumption) ?_
                      rotate_left
                      · intro w hS
                        try dsimp only at hS
                        go_simp
                        first | done | with_reducible rfl
                      try simp only [Act.put, List.setIfInBounds_toArray, List.set_cons_zero, List.set_cons_succ]
                      refine wpAnyG_pure (i := 8) (oi := ⟨some 117, _, _, _, _, _⟩) (v := ?_) rfl (by kernel_rfl) (by kernel_rfl) (by kernel_rfl) (by rfl) (fun _ _ _ h => h) (by rfl) ?_ ?_
                      rotate_left
                      · intro w
                        go_simp
                        first | done | with_reducible rfl
                      try simp only [Act.put, List.setIfInBounds_toArray, List.set_cons_zero, List.set_cons_succ]
                      refine wpAnyG_load (i := 9) (oi := ⟨some 118, _, _, _, _, _⟩) (v := ?_) rfl (by kernel_rfl) (by kernel_rfl) (by kernel_rfl) (by rfl) (fun _ _ _ h => h) (by rfl) ?_ (by assumption) ?_
                      rotate_left
                      · intro w hS
                        try dsimp only at hS
                        go_simp
                        first | done | with_reducible rfl
                      try simp only [Act.put, List.setIfInBounds_toArray, List.set_cons_zero, List.set_cons_succ]
                      refine wpAnyG_two (i := 4) (oi := ⟨some 113, _, _, _, _, _⟩) (j := 12) (oj := ⟨some 12, _, _, _, _, _⟩) (by kernel_rfl) rfl rfl (fun K hK => ?_) (fun K hK => ?_)
                      · skip
                        rw [if_pos (by rfl)]
                        go_simp
                        first | have h := (h : Own _ _ (Hp.ro S :: _)) | have h := (h.f1 : Own _ _ (Hp.ro S :: _)) | have h := (h.f2 : Own _ _ (Hp.ro S :: _)) | have h := (h.f3 : Own _ _ (Hp.ro S :: _)) | have h := (h.f4 : Own _ _ (Hp.ro S :: _)) | have h := (h.f5 : Own _ _ (Hp.ro S :: _)) | have h := (h.f6 : Own _ _ (Hp.ro S :: _)) | have h := (h.f7 : Own _ _ (Hp.ro S :: _)) | have h := (h.f8 : Own _ _ (Hp.ro S :: _)) | have h := (h.f9 : Own _ _ (Hp.ro S :: _)) | have h := (h.f10 : Own _ _ (Hp.ro S :: _)) | have h := (h.f11 : Own _ _ (Hp.ro S :: _)) | have h := (h.f12 : Own _ _ (Hp.ro S :: _)) | have h := (h.f13 : Own _ _ (Hp.ro S :: _)) | have h := (h.f14 : Own _ _ (Hp.ro S :: _)) | have h := (h.f15 : Own _ _ (Hp.ro S :: _))
                        refine (xtexts_any a1 ks.length c1 ks _ (by omega) r1 h).mono ?_
                        rintro e w5 ⟨v5, rfl, h⟩
                        obtain ⟨A5, c5, rfl, -⟩ := h.lstSlice
                        rw [List.length_map] at h ⊢
                        refine hK.out _ _ ?_ (fun hS => ?_)
                        · exact HC3.out _ (by first | exact ⟨_, h⟩ | exact ⟨_, h.f1⟩ | exact ⟨_, h.f2⟩ | exact ⟨_, h.f3⟩ | exact ⟨_, h.f4⟩ | exact ⟨_, h.f5⟩ | exact ⟨_, h.f6⟩ | exact ⟨_, h.f7⟩ | exact ⟨_, h.f8⟩ | exact ⟨_, h.f9⟩ | exact ⟨_, h.f10⟩ | exact ⟨_, h.f11⟩ | exact ⟨_, h.f12⟩ | exact ⟨_, h.f13⟩ | exact ⟨_, h.f14⟩ | exact ⟨_, h.f15⟩)
                        clear hK K
                        try simp only [Act.put, List.setIfInBounds_toArray, List.set_cons_zero, List.set_cons_succ]
                        refine wpAnyG_two (i := 7) (oi := ⟨some 116, _, _, _, _, _⟩) (j := 12) (oj := ⟨some 12, _, _, _, _, _⟩) (by kernel_rfl) rfl rfl (fun K hK => ?_) (fun K hK => ?_)
                        · skip
                          rw [if_pos (by rfl)]
                          go_simp
                          first | have h := (h : Own _ _ (Hp.ro S :: _)) | have h := (h.f1 : Own _ _ (Hp.ro S :: _)) | have h := (h.f2 : Own _ _ (Hp.ro S :: _)) | have h := (h.f3 : Own _ _ (Hp.ro S :: _)) | have h := (h.f4 : Own _ _ (Hp.ro S :: _)) | have h := (h.f5 : Own _ _ (Hp.ro S :: _)) | have h := (h.f6 : Own _ _ (Hp.ro S :: _)) | have h := (h.f7 : Own _ _ (Hp.ro S :: _)) | have h := (h.f8 : Own _ _ (Hp.ro S :: _)) | have h := (h.f9 : Own _ _ (Hp.ro S :: _)) | have h := (h.f10 : Own _ _ (Hp.ro S :: _)) | have h := (h.f11 : Own _ _ (Hp.ro S :: _)) | have h := (h.f12 : Own _ _ (Hp.ro S :: _)) | have h := (h.f13 : Own _ _ (Hp.ro S :: _)) | have h := (h.f14 : Own _ _ (Hp.ro S :: _)) | have h := (h.f15 : Own _ _ (Hp.ro S :: _))
                          refine (xtexts_any a2 vs.length c2 vs _ (by omega) r2 h).mono ?_
                          rintro e w5 ⟨v5, rfl, h⟩
                          obtain ⟨A6, c6, rfl, -⟩ := h.lstSlice
                          rw [List.length_map] at h ⊢
                          refine hK.out _ _ ?_ (fun hS => ?_)
                          · exact HC3.out _ (by first | exact ⟨_, h⟩ | exact ⟨_, h.f1⟩ | exact ⟨_, h.f2⟩ | exact ⟨_, h.f3⟩ | exact ⟨_, h.f4⟩ | exact ⟨_, h.f5⟩ | exact ⟨_, h.f6⟩ | exact ⟨_, h.f7⟩ | exact ⟨_, h.f8⟩ | exact ⟨_, h.f9⟩ | exact ⟨_, h.f10⟩ | exact ⟨_, h.f11⟩ | exact ⟨_, h.f12⟩ | exact ⟨_, h.f13⟩ | exact ⟨_, h.f14⟩ | exact ⟨_, h.f15⟩)
                          clear hK K
                          try simp only [Act.put, List.setIfInBounds_toArray, List.set_cons_zero, List.set_cons_succ]
                          refine wpAnyG_two (i := 10) (oi := ⟨some 119, _, _, _, _, _⟩) (j := 12) (oj := ⟨some 12, _, _, _, _, _⟩) (by kernel_rfl) rfl rfl (fun K hK => ?_) (fun K hK => ?_)
                          · skip
                            rw [if_pos (by rfl)]
                            go_simp
                            first | have h := (h : Own _ _ (Hp.ro S :: _)) | have h := (h.f1 : Own _ _ (Hp.ro S :: _)) | have h := (h.f2 : Own _ _ (Hp.ro S :: _)) | have h := (h.f3 : Own _ _ (Hp.ro S :: _)) | have h := (h.f4 : Own _ _ (Hp.ro S :: _)) | have h := (h.f5 : Own _ _ (Hp.ro S :: _)) | have h := (h.f6 : Own _ _ (Hp.ro S :: _)) | have h := (h.f7 : Own _ _ (Hp.ro S :: _)) | have h := (h.f8 : Own _ _ (Hp.ro S :: _)) | have h := (h.f9 : Own _ _ (Hp.ro S :: _)) | have h := (h.f10 : Own _ _ (Hp.ro S :: _)) | have h := (h.f11 : Own _ _ (Hp.ro S :: _)) | have h := (h.f12 : Own _ _ (Hp.ro S :: _)) | have h := (h.f13 : Own _ _ (Hp.ro S :: _)) | have h := (h.f14 : Own _ _ (Hp.ro S :: _)) | have h := (h.f15 : Own _ _ (Hp.ro S :: _))
                            refine (xnumbers_any a3 ls.length c3 ls _ (by omega) r3 h).mono ?_
                            rintro e w5 ⟨v5, rfl, h⟩
                            obtain ⟨A7, c7, rfl, -⟩ := h.lstSlice
                            rw [List.length_map] at h ⊢
                            refine hK.out _ _ ?_ (fun hS => ?_)
                            · exact HC3.out _ (by first | exact ⟨_, h⟩ | exact ⟨_, h.f1⟩ | exact ⟨_, h.f2⟩ | exact ⟨_, h.f3⟩ | exact ⟨_, h.f4⟩ | exact ⟨_, h.f5⟩ | exact ⟨_, h.f6⟩ | exact ⟨_, h.f7⟩ | exact ⟨_, h.f8⟩ | exact ⟨_, h.f9⟩ | exact ⟨_, h.f10⟩ | exact ⟨_, h.f11⟩ | exact ⟨_, h.f12⟩ | exact ⟨_, h.f13⟩ | exact ⟨_, h.f14⟩ | exact ⟨_, h.f15⟩)
                            clear hK K
                            try simp only [Act.put, List.setIfInBounds_toArray, List.set_cons_zero, List.set_cons_succ]
                            refine wpAnyG_pure (i := 11) (oi := ⟨some 120, _, _, _, _, _⟩) (v := ?_) rfl (by kernel_rfl) (by kernel_rfl) (by kernel_rfl) (by rfl) (fun _ _ _ h => h) (by rfl) ?_ ?_
                            rotate_left
                            · intro w
                              go_simp
                              first | done | with_reducible rfl
                            try simp only [Act.put, List.setIfInBounds_toArray, List.set_cons_zero, List.set_cons_succ]
                            refine wpAnyG_keep (i := 12) (oi := ⟨some 12, _, _, _, _, _⟩) (by kernel_rfl) rfl (fun K hK => ?_)
                            rw [if_pos (by rfl)]
                            refine wp_alloc_own (cs := #[.bool false, .slice none 0 0, .slice none 0 0, .slice none 0 0]) (T := NT) h (by go_simp) (fun g4 w8 h => ?_)
                            refine hK.out _ _ ?_ (fun hS => ?_)
                            · exact HC3.out _ (by first | exact ⟨_, h⟩ | exact ⟨_, h.f1⟩ | exact ⟨_, h.f2⟩ | exact ⟨_, h.f3⟩ | exact ⟨_, h.f4⟩ | exact ⟨_, h.f5⟩ | exact ⟨_, h.f6⟩ | exact ⟨_, h.f7⟩ | exact ⟨_, h.f8⟩ | exact ⟨_, h.f9⟩ | exact ⟨_, h.f10⟩ | exact ⟨_, h.f11⟩ | exact ⟨_, h.f12⟩ | exact ⟨_, h.f13⟩ | exact ⟨_, h.f14⟩ | exact ⟨_, h.f15⟩)
                            clear hK K
                            try simp only [Act.put, List.setIfInBounds_toArray, List.set_cons_zero, List.set_cons_succ]
                            refine wpAnyG_keep (i := 13) (oi := ⟨none, _, _, _, _, _⟩) (by kernel_rfl) rfl (fun K hK => ?_)
                            rw [if_pos (by rfl)]
                            first | have h := (h : Own _ _ (Hp.blk g4 NT _ :: _)) | have h := (h.f1 : Own _ _ (Hp.blk g4 NT _ :: _)) | have h := (h.f2 : Own _ _ (Hp.blk g4 NT _ :: _)) | have h := (h.f3 : Own _ _ (Hp.blk g4 NT _ :: _)) | have h := (h.f4 : Own _ _ (Hp.blk g4 NT _ :: _)) | have h := (h.f5 : Own _ _ (Hp.blk g4 NT _ :: _)) | have h := (h.f6 : Own _ _ (Hp.blk g4 NT _ :: _)) | have h := (h.f7 : Own _ _ (Hp.blk g4 NT _ :: _)) | have h := (h.f8 : Own _ _ (Hp.blk g4 NT _ :: _)) | have h := (h.f9 : Own _ _ (Hp.blk g4 NT _ :: _)) | have h := (h.f10 : Own _ _ (Hp.blk g4 NT _ :: _)) | have h := (h.f11 : Own _ _ (Hp.blk g4 NT _ :: _)) | have h := (h.f12 : Own _ _ (Hp.blk g4 NT _ :: _)) | have h := (h.f13 : Own _ _ (Hp.blk g4 NT _ :: _)) | have h := (h.f14 : Own _ _ (Hp.blk g4 NT _ :: _)) | have h := (h.f15 : Own _ _ (Hp.blk g4 NT _ :: _))
                            refine wp_store_whole (cs := [.bool false, .slice none 0 0, .slice none 0 0, .slice none 0 0]) (vs := [.bool leaf, .slice A5 ks.length c5, .slice A6 vs.length c6, .slice A7 ls.length c7]) h rfl (ND_all1 _ _ _ _ rfl rfl rfl) (by kernel_rfl) rfl rfl rfl (fun w9 h => ?_)
                            refine hK.out _ _ ?_ (fun hS => ?_)
                            · exact HC3.out _ (by first | exact ⟨_, h⟩ | exact ⟨_, h.f1⟩ | exact ⟨_, h.f2⟩ | exact ⟨_, h.f3⟩ | exact ⟨_, h.f4⟩ | exact ⟨_, h.f5⟩ | exact ⟨_, h.f6⟩ | exact ⟨_, h.f7⟩ | exact ⟨_, h.f8⟩ | exact ⟨_, h.f9⟩ | exact ⟨_, h.f10⟩ | exact ⟨_, h.f11⟩ | exact ⟨_, h.f12⟩ | exact ⟨_, h.f13⟩ | exact ⟨_, h.f14⟩ | exact ⟨_, h.f15⟩)
                            clear hK K
                            try simp only [Act.put]
                            refine wpAnyG_done (by kernel_rfl) ?_ _
                            refine NoPanic.normal ?_
                            go_wp2_with fail
                            go_meet
                            case rel => exact ⟨g4, c5, c6, c7, A5, A6, A7, rfl, h.ac (by simp only [Hp.all] <;> ac_rfl)⟩
                          · skip
                            rw [if_pos (by rfl)]
                            refine wp_alloc_own (cs := #[.bool false, .slice none 0 0, .slice none 0 0, .slice none 0 0]) (T := NT) h (by go_simp) (fun g4 w8 h => ?_)
                            refine hK.out _ _ ?_ (fun hS => ?_)
                            · exact HC3.out _ (by first | exact ⟨_, h⟩ | exact ⟨_, h.f1⟩ | exact ⟨_, h.f2⟩ | exact ⟨_, h.f3⟩ | exact ⟨_, h.f4⟩ | exact ⟨_, h.f5⟩ | exact ⟨_, h.f6⟩ | exact ⟨_, h.f7⟩ | exact ⟨_, h.f8⟩ | exact ⟨_, h.f9⟩ | exact ⟨_, h.f10⟩ | exact ⟨_, h.f11⟩ | exact ⟨_, h.f12⟩ | exact ⟨_, h.f13⟩ | exact ⟨_, h.f14⟩ | exact ⟨_, h.f15⟩)
                            clear hK K
                            try simp only [Act.put, List.setIfInBounds_toArray, List.set_cons_zero, List.set_cons_succ]
                            refine wpAnyG_keep (i := 10) (oi := ⟨some 119, _, _, _, _, _⟩) (by kernel_rfl) rfl (fun K hK => ?_)
                            rw [if_pos (by rfl)]
                            go_simp
                            first | have h := (h : Own _ _ (Hp.ro S :: _)) | have h := (h.f1 : Own _ _ (Hp.ro S :: _)) | have h := (h.f2 : Own _ _ (Hp.ro S :: _)) | have h := (h.f3 : Own _ _ (Hp.ro S :: _)) | have h := (h.f4 : Own _ _ (Hp.ro S :: _)) | have h := (h.f5 : Own _ _ (Hp.ro S :: _)) | have h := (h.f6 : Own _ _ (Hp.ro S :: _)) | have h := (h.f7 : Own _ _ (Hp.ro S :: _)) | have h := (h.f8 : Own _ _ (Hp.ro S :: _)) | have h := (h.f9 : Own _ _ (Hp.ro S :: _)) | have h := (h.f10 : Own _ _ (Hp.ro S :: _)) | have h := (h.f11 : Own _ _ (Hp.ro S :: _)) | have h := (h.f12 : Own _ _ (Hp.ro S :: _)) | have h := (h.f13 : Own _ _ (Hp.ro S :: _)) | have h := (h.f14 : Own _ _ (Hp.ro S :: _)) | have h := (h.f15 : Own _ _ (Hp.ro S :: _))
                            refine (xnumbers_any a3 ls.length c3 ls _ (by omega) r3 h).mono ?_
                            rintro e w5 ⟨v5, rfl, h⟩
                            obtain ⟨A7, c7, rfl, -⟩ := h.lstSlice
                            rw [List.length_map] at h ⊢
                            refine hK.out _ _ ?_ (fun hS => ?_)
                            · exact HC3.out _ (by first | exact ⟨_, h⟩ | exact ⟨_, h.f1⟩ | exact ⟨_, h.f2⟩ | exact ⟨_, h.f3⟩ | exact ⟨_, h.f4⟩ | exact ⟨_, h.f5⟩ | exact ⟨_, h.f6⟩ | exact ⟨_, h.f7⟩ | exact ⟨_, h.f8⟩ | exact ⟨_, h.f9⟩ | exact ⟨_, h.f10⟩ | exact ⟨_, h.f11⟩ | exact ⟨_, h.f12⟩ | exact ⟨_, h.f13⟩ | exact ⟨_, h.f14⟩ | exact ⟨_, h.f15⟩)
                            clear hK K
                            try simp only [Act.put, List.setIfInBounds_toArray, List.set_cons_zero, List.set_cons_succ]
                            refine wpAnyG_pure (i := 11) (oi := ⟨some 120, _, _, _, _, _⟩) (v := ?_) rfl (by kernel_rfl) (by kernel_rfl) (by kernel_rfl) (by rfl) (fun _ _ _ h => h) (by rfl) ?_ ?_
                            rotate_left
                            · intro w
                              go_simp
                              first | done | with_reducible rfl
                            try simp only [Act.put, List.setIfInBounds_toArray, List.set_cons_zero, List.set_cons_succ]
                            refine wpAnyG_keep (i := 13) (oi := ⟨none, _, _, _, _, _⟩) (by kernel_rfl) rfl (fun K hK => ?_)
                            rw [if_pos (by rfl)]
                            first | have h := (h : Own _ _ (Hp.blk g4 NT _ :: _)) | have h := (h.f1 : Own _ _ (Hp.blk g4 NT _ :: _)) | have h := (h.f2 : Own _ _ (Hp.blk g4 NT _ :: _)) | have h := (h.f3 : Own _ _ (Hp.blk g4 NT _ :: _)) | have h := (h.f4 : Own _ _ (Hp.blk g4 NT _ :: _)) | have h := (h.f5 : Own _ _ (Hp.blk g4 NT _ :: _)) | have h := (h.f6 : Own _ _ (Hp.blk g4 NT _ :: _)) | have h := (h.f7 : Own _ _ (Hp.blk g4 NT _ :: _)) | have h := (h.f8 : Own _ _ (Hp.blk g4 NT _ :: _)) | have h := (h.f9 : Own _ _ (Hp.blk g4 NT _ :: _)) | have h := (h.f10 : Own _ _ (Hp.blk g4 NT _ :: _)) | have h := (h.f11 : Own _ _ (Hp.blk g4 NT _ :: _)) | have h := (h.f12 : Own _ _ (Hp.blk g4 NT _ :: _)) | have h := (h.f13 : Own _ _ (Hp.blk g4 NT _ :: _)) | have h := (h.f14 : Own _ _ (Hp.blk g4 NT _ :: _)) | have h := (h.f15 : Own _ _ (Hp.blk g4 NT _ :: _))
                            refine wp_store_whole (cs := [.bool false, .slice none 0 0, .slice none 0 0, .slice none 0 0]) (vs := [.bool leaf, .slice A5 ks.length c5, .slice A6 vs.length c6, .slice A7 ls.length c7]) h rfl (ND_all1 _ _ _ _ rfl rfl rfl) (by kernel_rfl) rfl rfl rfl (fun w9 h => ?_)
                            refine hK.out _ _ ?_ (fun hS => ?_)
                            · exact HC3.out _ (by first | exact ⟨_, h⟩ | exact ⟨_, h.f1⟩ | exact ⟨_, h.f2⟩ | exact ⟨_, h.f3⟩ | exact ⟨_, h.f4⟩ | exact ⟨_, h.f5⟩ | exact ⟨_, h.f6⟩ | exact ⟨_, h.f7⟩ | exact ⟨_, h.f8⟩ | exact ⟨_, h.f9⟩ | exact ⟨_, h.f10⟩ | exact ⟨_, h.f11⟩ | exact ⟨_, h.f12⟩ | exact ⟨_, h.f13⟩ | exact ⟨_, h.f14⟩ | exact ⟨_, h.f15⟩)
                            clear hK K
                            try simp only [Act.put]
                            refine wpAnyG_done (by kernel_rfl) ?_ _
                            refine NoPanic.normal ?_
                            go_wp2_with fail
                            go_meet
                            case rel => exact ⟨g4, c5, c6, c7, A5, A6, A7, rfl, h.ac (by simp only [Hp.all] <;> ac_rfl)⟩
                        · skip
                          rw [if_pos (by rfl)]
                          refine wp_alloc_own (cs := #[.bool false, .slice none 0 0, .slice none 0 0, .slice none 0 0]) (T := NT) h (by go_simp) (fun g4 w8 h => ?_)
                          refine hK.out _ _ ?_ (fun hS => ?_)
                          · exact HC3.out _ (by first | exact ⟨_, h⟩ | exact ⟨_, h.f1⟩ | exact ⟨_, h.f2⟩ | exact ⟨_, h.f3⟩ | exact ⟨_, h.f4⟩ | exact ⟨_, h.f5⟩ | exact ⟨_, h.f6⟩ | exact ⟨_, h.f7⟩ | exact ⟨_, h.f8⟩ | exact ⟨_, h.f9⟩ | exact ⟨_, h.f10⟩ | exact ⟨_, h.f11⟩ | exact ⟨_, h.f12⟩ | exact ⟨_, h.f13⟩ | exact ⟨_, h.f14⟩ | exact ⟨_, h.f15⟩)
                          clear hK K
                          try simp only [Act.put, List.setIfInBounds_toArray, List.set_cons_zero, List.set_cons_succ]
                          refine wpAnyG_keep (i := 7) (oi := ⟨some 116, _, _, _, _, _⟩) (by kernel_rfl) rfl (fun K hK => ?_)
                          rw [if_pos (by rfl)]
                          go_simp
                          first | have h := (h : Own _ _ (Hp.ro S :: _)) | have h := (h.f1 : Own _ _ (Hp.ro S :: _)) | have h := (h.f2 : Own _ _ (Hp.ro S :: _)) | have h := (h.f3 : Own _ _ (Hp.ro S :: _)) | have h := (h.f4 : Own _ _ (Hp.ro S :: _)) | have h := (h.f5 : Own _ _ (Hp.ro S :: _)) | have h := (h.f6 : Own _ _ (Hp.ro S :: _)) | have h := (h.f7 : Own _ _ (Hp.ro S :: _)) | have h := (h.f8 : Own _ _ (Hp.ro S :: _)) | have h := (h.f9 : Own _ _ (Hp.ro S :: _)) | have h := (h.f10 : Own _ _ (Hp.ro S :: _)) | have h := (h.f11 : Own _ _ (Hp.ro S :: _)) | have h := (h.f12 : Own _ _ (Hp.ro S :: _)) | have h := (h.f13 : Own _ _ (Hp.ro S :: _)) | have h := (h.f14 : Own _ _ (Hp.ro S :: _)) | have h := (h.f15 : Own _ _ (Hp.ro S :: _))
                          refine (xtexts_any a2 vs.length c2 vs _ (by omega) r2 h).mono ?_
                          rintro e w5 ⟨v5, rfl, h⟩
                          obtain ⟨A6, c6, rfl, -⟩ := h.lstSlice
                          rw [List.length_map] at h ⊢
                          refine hK.out _ _ ?_ (fun hS => ?_)
                          · exact HC3.out _ (by first | exact ⟨_, h⟩ | exact ⟨_, h.f1⟩ | exact ⟨_, h.f2⟩ | exact ⟨_, h.f3⟩ | exact ⟨_, h.f4⟩ | exact ⟨_, h.f5⟩ | exact ⟨_, h.f6⟩ | exact ⟨_, h.f7⟩ | exact ⟨_, h.f8⟩ | exact ⟨_, h.f9⟩ | exact ⟨_, h.f10⟩ | exact ⟨_, h.f11⟩ | exact ⟨_, h.f12⟩ | exact ⟨_, h.f13⟩ | exact ⟨_, h.f14⟩ | exact ⟨_, h.f15⟩)
                          clear hK K
                          try simp only [Act.put, List.setIfInBounds_toArray, List.set_cons_zero, List.set_cons_succ]
                          refine wpAnyG_keep (i := 10) (oi := ⟨some 119, _, _, _, _, _⟩) (by kernel_rfl) rfl (fun K hK => ?_)
                          rw [if_pos (by rfl)]
                          go_simp
                          first | have h := (h : Own _ _ (Hp.ro S :: _)) | have h := (h.f1 : Own _ _ (Hp.ro S :: _)) | have h := (h.f2 : Own _ _ (Hp.ro S :: _)) | have h := (h.f3 : Own _ _ (Hp.ro S :: _)) | have h := (h.f4 : Own _ _ (Hp.ro S :: _)) | have h := (h.f5 : Own _ _ (Hp.ro S :: _)) | have h := (h.f6 : Own _ _ (Hp.ro S :: _)) | have h := (h.f7 : Own _ _ (Hp.ro S :: _)) | have h := (h.f8 : Own _ _ (Hp.ro S :: _)) | have h := (h.f9 : Own _ _ (Hp.ro S :: _)) | have h := (h.f10 : Own _ _ (Hp.ro S :: _)) | have h := (h.f11 : Own _ _ (Hp.ro S :: _)) | have h := (h.f12 : Own _ _ (Hp.ro S :: _)) | have h := (h.f13 : Own _ _ (Hp.ro S :: _)) | have h := (h.f14 : Own _ _ (Hp.ro S :: _)) | have h := (h.f15 : Own _ _ (Hp.ro S :: _))
                          refine (xnumbers_any a3 ls.length c3 ls _ (by omega) r3 h).mono ?_
                          rintro e w5 ⟨v5, rfl, h⟩
                          obtain ⟨A7, c7, rfl, -⟩ := h.lstSlice
                          rw [List.length_map] at h ⊢
                          refine hK.out _ _ ?_ (fun hS => ?_)
                          · exact HC3.out _ (by first | exact ⟨_, h⟩ | exact ⟨_, h.f1⟩ | exact ⟨_, h.f2⟩ | exact ⟨_, h.f3⟩ | exact ⟨_, h.f4⟩ | exact ⟨_, h.f5⟩ | exact ⟨_, h.f6⟩ | exact ⟨_, h.f7⟩ | exact ⟨_, h.f8⟩ | exact ⟨_, h.f9⟩ | exact ⟨_, h.f10⟩ | exact ⟨_, h.f11⟩ | exact ⟨_, h.f12⟩ | exact ⟨_, h.f13⟩ | exact ⟨_, h.f14⟩ | exact ⟨_, h.f15⟩)
                          clear hK K
                          try simp only [Act.put, List.setIfInBounds_toArray, List.set_cons_zero, List.set_cons_succ]
                          refine wpAnyG_pure (i := 11) (oi := ⟨some 120, _, _, _, _, _⟩) (v := ?_) rfl (by kernel_rfl) (by kernel_rfl) (by kernel_rfl) (by rfl) (fun _ _ _ h => h) (by rfl) ?_ ?_
                          rotate_left
                          · intro w
                            go_simp
                            first | done | with_reducible rfl
                          try simp only [Act.put, List.setIfInBounds_toArray, List.set_cons_zero, List.set_cons_succ]
                          refine wpAnyG_keep (i := 13) (oi := ⟨none, _, _, _, _, _⟩) (by kernel_rfl) rfl (fun K hK => ?_)
                          rw [if_pos (by rfl)]
                          first | have h := (h : Own _ _ (Hp.blk g4 NT _ :: _)) | have h := (h.f1 : Own _ _ (Hp.blk g4 NT _ :: _)) | have h := (h.f2 : Own _ _ (Hp.blk g4 NT _ :: _)) | have h := (h.f3 : Own _ _ (Hp.blk g4 NT _ :: _)) | have h := (h.f4 : Own _ _ (Hp.blk g4 NT _ :: _)) | have h := (h.f5 : Own _ _ (Hp.blk g4 NT _ :: _)) | have h := (h.f6 : Own _ _ (Hp.blk g4 NT _ :: _)) | have h := (h.f7 : Own _ _ (Hp.blk g4 NT _ :: _)) | have h := (h.f8 : Own _ _ (Hp.blk g4 NT _ :: _)) | have h := (h.f9 : Own _ _ (Hp.blk g4 NT _ :: _)) | have h := (h.f10 : Own _ _ (Hp.blk g4 NT _ :: _)) | have h := (h.f11 : Own _ _ (Hp.blk g4 NT _ :: _)) | have h := (h.f12 : Own _ _ (Hp.blk g4 NT _ :: _)) | have h := (h.f13 : Own _ _ (Hp.blk g4 NT _ :: _)) | have h := (h.f14 : Own _ _ (Hp.blk g4 NT _ :: _)) | have h := (h.f15 : Own _ _ (Hp.blk g4 NT _ :: _))
                          refine wp_store_whole (cs := [.bool false, .slice none 0 0, .slice none 0 0, .slice none 0 0]) (vs := [.bool leaf, .slice A5 ks.length c5, .slice A6 vs.length c6, .slice A7 ls.length c7]) h rfl (ND_all1 _ _ _ _ rfl rfl rfl) (by kernel_rfl) rfl rfl rfl (fun w9 h => ?_)
                          refine hK.out _ _ ?_ (fun hS => ?_)
                          · exact HC3.out _ (by first | exact ⟨_, h⟩ | exact ⟨_, h.f1⟩ | exact ⟨_, h.f2⟩ | exact ⟨_, h.f3⟩ | exact ⟨_, h.f4⟩ | exact ⟨_, h.f5⟩ | exact ⟨_, h.f6⟩ | exact ⟨_, h.f7⟩ | exact ⟨_, h.f8⟩ | exact ⟨_, h.f9⟩ | exact ⟨_, h.f10⟩ | exact ⟨_, h.f11⟩ | exact ⟨_, h.f12⟩ | exact ⟨_, h.f13⟩ | exact ⟨_, h.f14⟩ | exact ⟨_, h.f15⟩)
                          clear hK K
                          try simp only [Act.put]
                          refine wpAnyG_done (by kernel_rfl) ?_ _
                          refine NoPanic.normal ?_
                          go_wp2_with fail
                          go_meet
                          case rel => exact ⟨g4, c5, c6, c7, A5, A6, A7, rfl, h.ac (by simp only [Hp.all] <;> ac_rfl)⟩
                      · skip
                        rw [if_pos (by rfl)]
                        refine wp_alloc_own (cs := #[.bool false, .slice none 0 0, .slice none 0 0, .slice none 0 0]) (T := NT) h (by go_simp) (fun g4 w8 h => ?_)
                        refine hK.out _ _ ?_ (fun hS => ?_)
                        · exact HC3.out _ (by first | exact ⟨_, h⟩ | exact ⟨_, h.f1⟩ | exact ⟨_, h.f2⟩ | exact ⟨_, h.f3⟩ | exact ⟨_, h.f4⟩ | exact ⟨_, h.f5⟩ | exact ⟨_, h.f6⟩ | exact ⟨_, h.f7⟩ | exact ⟨_, h.f8⟩ | exact ⟨_, h.f9⟩ | exact ⟨_, h.f10⟩ | exact ⟨_, h.f11⟩ | exact ⟨_, h.f12⟩ | exact ⟨_, h.f13⟩ | exact ⟨_, h.f14⟩ | exact ⟨_, h.f15⟩)
                        clear hK K
                        try simp only [Act.put, List.setIfInBounds_toArray, List.set_cons_zero, List.set_cons_succ]
                        refine wpAnyG_keep (i := 4) (oi := ⟨some 113, _, _, _, _, _⟩) (by kernel_rfl) rfl (fun K hK => ?_)
                        rw [if_pos (by rfl)]
                        go_simp
                        first | have h := (h : Own _ _ (Hp.ro S :: _)) | have h := (h.f1 : Own _ _ (Hp.ro S :: _)) | have h := (h.f2 : Own _ _ (Hp.ro S :: _)) | have h := (h.f3 : Own _ _ (Hp.ro S :: _)) | have h := (h.f4 : Own _ _ (Hp.ro S :: _)) | have h := (h.f5 : Own _ _ (Hp.ro S :: _)) | have h := (h.f6 : Own _ _ (Hp.ro S :: _)) | have h := (h.f7 : Own _ _ (Hp.ro S :: _)) | have h := (h.f8 : Own _ _ (Hp.ro S :: _)) | have h := (h.f9 : Own _ _ (Hp.ro S :: _)) | have h := (h.f10 : Own _ _ (Hp.ro S :: _)) | have h := (h.f11 : Own _ _ (Hp.ro S :: _)) | have h := (h.f12 : Own _ _ (Hp.ro S :: _)) | have h := (h.f13 : Own _ _ (Hp.ro S :: _)) | have h := (h.f14 : Own _ _ (Hp.ro S :: _)) | have h := (h.f15 : Own _ _ (Hp.ro S :: _))
                        refine (xtexts_any a1 ks.length c1 ks _ (by omega) r1 h).mono ?_
                        rintro e w5 ⟨v5, rfl, h⟩
                        obtain ⟨A5, c5, rfl, -⟩ := h.lstSlice
                        rw [List.length_map] at h ⊢
                        refine hK.out _ _ ?_ (fun hS => ?_)
                        · exact HC3.out _ (by first | exact ⟨_, h⟩ | exact ⟨_, h.f1⟩ | exact ⟨_, h.f2⟩ | exact ⟨_, h.f3⟩ | exact ⟨_, h.f4⟩ | exact ⟨_, h.f5⟩ | exact ⟨_, h.f6⟩ | exact ⟨_, h.f7⟩ | exact ⟨_, h.f8⟩ | exact ⟨_, h.f9⟩ | exact ⟨_, h.f10⟩ | exact ⟨_, h.f11⟩ | exact ⟨_, h.f12⟩ | exact ⟨_, h.f13⟩ | exact ⟨_, h.f14⟩ | exact ⟨_, h.f15⟩)
                        clear hK K
                        try simp only [Act.put, List.setIfInBounds_toArray, List.set_cons_zero, List.set_cons_succ]
                        refine wpAnyG_keep (i := 7) (oi := ⟨some 116, _, _, _, _, _⟩) (by kernel_rfl) rfl (fun K hK => ?_)
                        rw [if_pos (by rfl)]
                        go_simp
                        first | have h := (h : Own _ _ (Hp.ro S :: _)) | have h := (h.f1 : Own _ _ (Hp.ro S :: _)) | have h := (h.f2 : Own _ _ (Hp.ro S :: _)) | have h := (h.f3 : Own _ _ (Hp.ro S :: _)) | have h := (h.f4 : Own _ _ (Hp.ro S :: _)) | have h := (h.f5 : Own _ _ (Hp.ro S :: _)) | have h := (h.f6 : Own _ _ (Hp.ro S :: _)) | have h := (h.f7 : Own _ _ (Hp.ro S :: _)) | have h := (h.f8 : Own _ _ (Hp.ro S :: _)) | have h := (h.f9 : Own _ _ (Hp.ro S :: _)) | have h := (h.f10 : Own _ _ (Hp.ro S :: _)) | have h := (h.f11 : Own _ _ (Hp.ro S :: _)) | have h := (h.f12 : Own _ _ (Hp.ro S :: _)) | have h := (h.f13 : Own _ _ (Hp.ro S :: _)) | have h := (h.f14 : Own _ _ (Hp.ro S :: _)) | have h := (h.f15 : Own _ _ (Hp.ro S :: _))
                        refine (xtexts_any a2 vs.length c2 vs _ (by omega) r2 h).mono ?_
                        rintro e w5 ⟨v5, rfl, h⟩
                        obtain ⟨A6, c6, rfl, -⟩ := h.lstSlice
                        rw [List.length_map] at h ⊢
                        refine hK.out _ _ ?_ (fun hS => ?_)
                        · exact HC3.out _ (by first | exact ⟨_, h⟩ | exact ⟨_, h.f1⟩ | exact ⟨_, h.f2⟩ | exact ⟨_, h.f3⟩ | exact ⟨_, h.f4⟩ | exact ⟨_, h.f5⟩ | exact ⟨_, h.f6⟩ | exact ⟨_, h.f7⟩ | exact ⟨_, h.f8⟩ | exact ⟨_, h.f9⟩ | exact ⟨_, h.f10⟩ | exact ⟨_, h.f11⟩ | exact ⟨_, h.f12⟩ | exact ⟨_, h.f13⟩ | exact ⟨_, h.f14⟩ | exact ⟨_, h.f15⟩)
                        clear hK K
                        try simp only [Act.put, List.setIfInBounds_toArray, List.set_cons_zero, List.set_cons_succ]
                        refine wpAnyG_keep (i := 10) (oi := ⟨some 119, _, _, _, _, _⟩) (by kernel_rfl) rfl (fun K hK => ?_)
                        rw [if_pos (by rfl)]
                        go_simp
                        first | have h := (h : Own _ _ (Hp.ro S :: _)) | have h := (h.f1 : Own _ _ (Hp.ro S :: _)) | have h := (h.f2 : Own _ _ (Hp.ro S :: _)) | have h := (h.f3 : Own _ _ (Hp.ro S :: _)) | have h := (h.f4 : Own _ _ (Hp.ro S :: _)) | have h := (h.f5 : Own _ _ (Hp.ro S :: _)) | have h := (h.f6 : Own _ _ (Hp.ro S :: _)) | have h := (h.f7 : Own _ _ (Hp.ro S :: _)) | have h := (h.f8 : Own _ _ (Hp.ro S :: _)) | have h := (h.f9 : Own _ _ (Hp.ro S :: _)) | have h := (h.f10 : Own _ _ (Hp.ro S :: _)) | have h := (h.f11 : Own _ _ (Hp.ro S :: _)) | have h := (h.f12 : Own _ _ (Hp.ro S :: _)) | have h := (h.f13 : Own _ _ (Hp.ro S :: _)) | have h := (h.f14 : Own _ _ (Hp.ro S :: _)) | have h := (h.f15 : Own _ _ (Hp.ro S :: _))
                        refine (xnumbers_any a3 ls.length c3 ls _ (by omega) r3 h).mono ?_
                        rintro e w5 ⟨v5, rfl, h⟩
                        obtain ⟨A7, c7, rfl, -⟩ := h.lstSlice
                        rw [List.length_map] at h ⊢
                        refine hK.out _ _ ?_ (fun hS => ?_)
                        · exact HC3.out _ (by first | exact ⟨_, h⟩ | exact ⟨_, h.f1⟩ | exact ⟨_, h.f2⟩ | exact ⟨_, h.f3⟩ | exact ⟨_, h.f4⟩ | exact ⟨_, h.f5⟩ | exact ⟨_, h.f6⟩ | exact ⟨_, h.f7⟩ | exact ⟨_, h.f8⟩ | exact ⟨_, h.f9⟩ | exact ⟨_, h.f10⟩ | exact ⟨_, h.f11⟩ | exact ⟨_, h.f12⟩ | exact ⟨_, h.f13⟩ | exact ⟨_, h.f14⟩ | exact ⟨_, h.f15⟩)
                        clear hK K
                        try simp only [Act.put, List.setIfInBounds_toArray, List.set_cons_zero, List.set_cons_succ]
                        refine wpAnyG_pure (i := 11) (oi := ⟨some 120, _, _, _, _, _⟩) (v := ?_) rfl (by kernel_rfl) (by kernel_rfl) (by kernel_rfl) (by rfl) (fun _ _ _ h => h) (by rfl) ?_ ?_
                        rotate_left
                        · intro w
                          go_simp
                          first | done | with_reducible rfl
                        try simp only [Act.put, List.setIfInBounds_toArray, List.set_cons_zero, List.set_cons_succ]
                        refine wpAnyG_keep (i := 13) (oi := ⟨none, _, _, _, _, _⟩) (by kernel_rfl) rfl (fun K hK => ?_)
                        rw [if_pos (by rfl)]
                        first | have h := (h : Own _ _ (Hp.blk g4 NT _ :: _)) | have h := (h.f1 : Own _ _ (Hp.blk g4 NT _ :: _)) | have h := (h.f2 : Own _ _ (Hp.blk g4 NT _ :: _)) | have h := (h.f3 : Own _ _ (Hp.blk g4 NT _ :: _)) | have h := (h.f4 : Own _ _ (Hp.blk g4 NT _ :: _)) | have h := (h.f5 : Own _ _ (Hp.blk g4 NT _ :: _)) | have h := (h.f6 : Own _ _ (Hp.blk g4 NT _ :: _)) | have h := (h.f7 : Own _ _ (Hp.blk g4 NT _ :: _)) | have h := (h.f8 : Own _ _ (Hp.blk g4 NT _ :: _)) | have h := (h.f9 : Own _ _ (Hp.blk g4 NT _ :: _)) | have h := (h.f10 : Own _ _ (Hp.blk g4 NT _ :: _)) | have h := (h.f11 : Own _ _ (Hp.blk g4 NT _ :: _)) | have h := (h.f12 : Own _ _ (Hp.blk g4 NT _ :: _)) | have h := (h.f13 : Own _ _ (Hp.blk g4 NT _ :: _)) | have h := (h.f14 : Own _ _ (Hp.blk g4 NT _ :: _)) | have h := (h.f15 : Own _ _ (Hp.blk g4 NT _ :: _))
                        refine wp_store_whole (cs := [.bool false, .slice none 0 0, .slice none 0 0, .slice none 0 0]) (vs := [.bool leaf, .slice A5 ks.length c5, .slice A6 vs.length c6, .slice A7 ls.length c7]) h rfl (ND_all1 _ _ _ _ rfl rfl rfl) (by kernel_rfl) rfl rfl rfl (fun w9 h => ?_)
                        refine hK.out _ _ ?_ (fun hS => ?_)
                        · exact HC3.out _ (by first | exact ⟨_, h⟩ | exact ⟨_, h.f1⟩ | exact ⟨_, h.f2⟩ | exact ⟨_, h.f3⟩ | exact ⟨_, h.f4⟩ | exact ⟨_, h.f5⟩ | exact ⟨_, h.f6⟩ | exact ⟨_, h.f7⟩ | exact ⟨_, h.f8⟩ | exact ⟨_, h.f9⟩ | exact ⟨_, h.f10⟩ | exact ⟨_, h.f11⟩ | exact ⟨_, h.f12⟩ | exact ⟨_, h.f13⟩ | exact ⟨_, h.f14⟩ | exact ⟨_, h.f15⟩)
                        clear hK K
                        try simp only [Act.put]
                        refine wpAnyG_done (by kernel_rfl) ?_ _
                        refine NoPanic.normal ?_
                        go_wp2_with fail
                        go_meet
                        case rel => exact ⟨g4, c5, c6, c7, A5, A6, A7, rfl, h.ac (by simp only [Hp.all] <;> ac_rfl)⟩
                    obtain ⟨g8, c8, c9, c10, A8, A9, A10, rfl, h⟩ := hcut
                    clear H HC3
                    -- the key between
                    have q0 : wc.cell? ⟨g, 0, none⟩ = some (.bool leaf) := h.f7.cell 0
                    obtain ⟨kk, hkk⟩ : ∃ kk, kk = (if leaf then ks else ks ++ [key]) := ⟨_, rfl⟩
                    have hkl : kk.length ≤ ks.length + 1 := by rw [hkk]; split <;> simp
                    rw [← hkk] at hbb hpz HPN
                    have hkkt : leaf = true → kk = ks := fun e => by rw [hkk, e]; rfl
                    have hkkf : leaf = false → kk = ks ++ [key] := fun e => by rw [hkk, e]; rfl
                    have H := Lib.hid h
                    have HKT := Lib.hid hkkt
                    have HKF := Lib.hid hkkf
                    clear h hkk hkkt hkkf
                    go_upto_if 123 with fail
                    go_cut [12] from 14 (fun x8 w' => ∃ (c8 : Nat) (A8 : Option Addr), x8 = .pointer (some ⟨g8, 0, none⟩) ∧ Own E w' (Hp.blk g8 NT #[.bool leaf, .slice A8 kk.length c8, .slice A9 vs.length c9, .slice A10 ls.length c10] :: Hp.strs (.slice A8 kk.length c8) kk :: Hp.strs (.slice A9 vs.length c9) vs :: Hp.ints (.slice A10 ls.length c10) ls :: Hp.ro S :: Hp.blk (g + 2) NT #[.bool false, .slice none 0 0, .slice none 0 0, .slice none 0 0] :: Hp.blk (g + 1) NT #[.bool leaf, .slice b1 ks2.length d1, .slice b2 vs2.length d2, .slice b3 ls2.length d3] :: Hp.blk g NT #[.bool leaf, .slice a1 ks.length c1, .slice a2 vs.length c2, .slice a3 ls.length c3] :: L))
                    case first =>
                      cases leaf with
                      | true =>
                        obtain rfl := HKT.out rfl
                        go_wp2_with fail
                        go_meet
                        case rel => exact ⟨c8, A8, rfl, H.out⟩
                      | false =>
                        obtain rfl := HKF.out rfl
                        have h := H.out
                        have e1 := h.cell 1
                        have f1 := h.frozen 1
                        obtain ⟨v6, wb, hap, h⟩ := lst_append_new (P := Tryd.prog) (t := LST) (ty := LST) lst_u st_info (by rfl) h.f1 #[.string key] 1 rfl (VS_one [key]) (by unfold maxLen; rw [List.length_map]; omega) (by rw [List.length_map]; omega)
                        have e9 : ks.map VS ++ (#[Value.string key] : Array Value).toList = (ks ++ [key]).map VS := by simp
                        rw [e9] at h
                        obtain ⟨Ab, cb, rfl, -⟩ := h.lstSlice
                        have hkl2 : (ks ++ [key]).length = ks.length + 1 := by simp
                        rw [List.length_map, hkl2] at h hap
                        have e2 := h.f1.cell 1
                        have f2 := h.f1.frozen 1
                        have h := h.f1.set 1 (.slice Ab (ks.length + 1) cb)
                        have H2 := Lib.hid h
                        clear h e9 H
                        go_wp2_with (with_reducible refine at_slot (k := some 128) ?_; refine wpList_append_run (o := ⟨some 128, _, _, _, _, _⟩) hap rfl rfl rfl rfl ?_; clear hap)
                        go_meet
                        case rel => exact ⟨cb, Ab, rfl, by rw [hkl2]; exact H2.out⟩
                    obtain ⟨c18, A18, rfl, h⟩ := hcut
                    clear H q0 HKT HKF
                    -- the lists of the other one
                    first | have h := (h : Own _ _ (Hp.blk g8 NT _ :: _)) | have h := (h.f1 : Own _ _ (Hp.blk g8 NT _ :: _)) | have h := (h.f2 : Own _ _ (Hp.blk g8 NT _ :: _)) | have h := (h.f3 : Own _ _ (Hp.blk g8 NT _ :: _)) | have h := (h.f4 : Own _ _ (Hp.blk g8 NT _ :: _)) | have h := (h.f5 : Own _ _ (Hp.blk g8 NT _ :: _)) | have h := (h.f6 : Own _ _ (Hp.blk g8 NT _ :: _)) | have h := (h.f7 : Own _ _ (Hp.blk g8 NT _ :: _)) | have h := (h.f8 : Own _ _ (Hp.blk g8 NT _ :: _)) | have h := (h.f9 : Own _ _ (Hp.blk g8 NT _ :: _)) | have h := (h.f10 : Own _ _ (Hp.blk g8 NT _ :: _)) | have h := (h.f11 : Own _ _ (Hp.blk g8 NT _ :: _)) | have h := (h.f12 : Own _ _ (Hp.blk g8 NT _ :: _)) | have h := (h.f13 : Own _ _ (Hp.blk g8 NT _ :: _)) | have h := (h.f14 : Own _ _ (Hp.blk g8 NT _ :: _)) | have h := (h.f15 : Own _ _ (Hp.blk g8 NT _ :: _))
                    have e1 := h.cell 1
                    first | have h := (h : Own _ _ (Hp.blk (g + 1) NT _ :: _)) | have h := (h.f1 : Own _ _ (Hp.blk (g + 1) NT _ :: _)) | have h := (h.f2 : Own _ _ (Hp.blk (g + 1) NT _ :: _)) | have h := (h.f3 : Own _ _ (Hp.blk (g + 1) NT _ :: _)) | have h := (h.f4 : Own _ _ (Hp.blk (g + 1) NT _ :: _)) | have h := (h.f5 : Own _ _ (Hp.blk (g + 1) NT _ :: _)) | have h := (h.f6 : Own _ _ (Hp.blk (g + 1) NT _ :: _)) | have h := (h.f7 : Own _ _ (Hp.blk (g + 1) NT _ :: _)) | have h := (h.f8 : Own _ _ (Hp.blk (g + 1) NT _ :: _)) | have h := (h.f9 : Own _ _ (Hp.blk (g + 1) NT _ :: _)) | have h := (h.f10 : Own _ _ (Hp.blk (g + 1) NT _ :: _)) | have h := (h.f11 : Own _ _ (Hp.blk (g + 1) NT _ :: _)) | have h := (h.f12 : Own _ _ (Hp.blk (g + 1) NT _ :: _)) | have h := (h.f13 : Own _ _ (Hp.blk (g + 1) NT _ :: _)) | have h := (h.f14 : Own _ _ (Hp.blk (g + 1) NT _ :: _)) | have h := (h.f15 : Own _ _ (Hp.blk (g + 1) NT _ :: _))
                    have q1 := h.cell 1
                    first | have h := (h : Own _ _ (Hp.ro S :: _)) | have h := (h.f1 : Own _ _ (Hp.ro S :: _)) | have h := (h.f2 : Own _ _ (Hp.ro S :: _)) | have h := (h.f3 : Own _ _ (Hp.ro S :: _)) | have h := (h.f4 : Own _ _ (Hp.ro S :: _)) | have h := (h.f5 : Own _ _ (Hp.ro S :: _)) | have h := (h.f6 : Own _ _ (Hp.ro S :: _)) | have h := (h.f7 : Own _ _ (Hp.ro S :: _)) | have h := (h.f8 : Own _ _ (Hp.ro S :: _)) | have h := (h.f9 : Own _ _ (Hp.ro S :: _)) | have h := (h.f10 : Own _ _ (Hp.ro S :: _)) | have h := (h.f11 : Own _ _ (Hp.ro S :: _)) | have h := (h.f12 : Own _ _ (Hp.ro S :: _)) | have h := (h.f13 : Own _ _ (Hp.ro S :: _)) | have h := (h.f14 : Own _ _ (Hp.ro S :: _)) | have h := (h.f15 : Own _ _ (Hp.ro S :: _))
                    have hrd := Rds.rdC s1 h
                    first | have h := (h : Own _ _ (Hp.strs (.slice A18 kk.length c18) kk :: _)) | have h := (h.f1 : Own _ _ (Hp.strs (.slice A18 kk.length c18) kk :: _)) | have h := (h.f2 : Own _ _ (Hp.strs (.slice A18 kk.length c18) kk :: _)) | have h := (h.f3 : Own _ _ (Hp.strs (.slice A18 kk.length c18) kk :: _)) | have h := (h.f4 : Own _ _ (Hp.strs (.slice A18 kk.length c18) kk :: _)) | have h := (h.f5 : Own _ _ (Hp.strs (.slice A18 kk.length c18) kk :: _)) | have h := (h.f6 : Own _ _ (Hp.strs (.slice A18 kk.length c18) kk :: _)) | have h := (h.f7 : Own _ _ (Hp.strs (.slice A18 kk.length c18) kk :: _)) | have h := (h.f8 : Own _ _ (Hp.strs (.slice A18 kk.length c18) kk :: _)) | have h := (h.f9 : Own _ _ (Hp.strs (.slice A18 kk.length c18) kk :: _)) | have h := (h.f10 : Own _ _ (Hp.strs (.slice A18 kk.length c18) kk :: _)) | have h := (h.f11 : Own _ _ (Hp.strs (.slice A18 kk.length c18) kk :: _)) | have h := (h.f12 : Own _ _ (Hp.strs (.slice A18 kk.length c18) kk :: _)) | have h := (h.f13 : Own _ _ (Hp.strs (.slice A18 kk.length c18) kk :: _)) | have h := (h.f14 : Own _ _ (Hp.strs (.slice A18 kk.length c18) kk :: _)) | have h := (h.f15 : Own _ _ (Hp.strs (.slice A18 kk.length c18) kk :: _))
                    obtain ⟨v6, wi, hap1, h⟩ := lst_append (P := Tryd.prog) (t := LST) (ty := LST) lst_u st_info (by rfl) h b1 ks2.length d1 (ks2.map VS) (List.length_map _) hrd (VS_one _) (by unfold maxLen; simp only [List.length_map]; omega) (by simp only [List.length_map]; omega)
                    rw [← List.map_append] at h
                    obtain ⟨A28, c28, rfl, -⟩ := h.lstSlice
                    rw [List.length_map, List.length_append] at h hap1
                    first | have h := (h : Own _ _ (Hp.blk g8 NT _ :: _)) | have h := (h.f1 : Own _ _ (Hp.blk g8 NT _ :: _)) | have h := (h.f2 : Own _ _ (Hp.blk g8 NT _ :: _)) | have h := (h.f3 : Own _ _ (Hp.blk g8 NT _ :: _)) | have h := (h.f4 : Own _ _ (Hp.blk g8 NT _ :: _)) | have h := (h.f5 : Own _ _ (Hp.blk g8 NT _ :: _)) | have h := (h.f6 : Own _ _ (Hp.blk g8 NT _ :: _)) | have h := (h.f7 : Own _ _ (Hp.blk g8 NT _ :: _)) | have h := (h.f8 : Own _ _ (Hp.blk g8 NT _ :: _)) | have h := (h.f9 : Own _ _ (Hp.blk g8 NT _ :: _)) | have h := (h.f10 : Own _ _ (Hp.blk g8 NT _ :: _)) | have h := (h.f11 : Own _ _ (Hp.blk g8 NT _ :: _)) | have h := (h.f12 : Own _ _ (Hp.blk g8 NT _ :: _)) | have h := (h.f13 : Own _ _ (Hp.blk g8 NT _ :: _)) | have h := (h.f14 : Own _ _ (Hp.blk g8 NT _ :: _)) | have h := (h.f15 : Own _ _ (Hp.blk g8 NT _ :: _))
                    have x1 := h.cell 1
                    have y1 := h.frozen 1
                    have h := h.set 1 (.slice A28 (kk.length + ks2.length) c28)
                    clear hrd
                    first | have h := (h : Own _ _ (Hp.blk g8 NT _ :: _)) | have h := (h.f1 : Own _ _ (Hp.blk g8 NT _ :: _)) | have h := (h.f2 : Own _ _ (Hp.blk g8 NT _ :: _)) | have h := (h.f3 : Own _ _ (Hp.blk g8 NT _ :: _)) | have h := (h.f4 : Own _ _ (Hp.blk g8 NT _ :: _)) | have h := (h.f5 : Own _ _ (Hp.blk g8 NT _ :: _)) | have h := (h.f6 : Own _ _ (Hp.blk g8 NT _ :: _)) | have h := (h.f7 : Own _ _ (Hp.blk g8 NT _ :: _)) | have h := (h.f8 : Own _ _ (Hp.blk g8 NT _ :: _)) | have h := (h.f9 : Own _ _ (Hp.blk g8 NT _ :: _)) | have h := (h.f10 : Own _ _ (Hp.blk g8 NT _ :: _)) | have h := (h.f11 : Own _ _ (Hp.blk g8 NT _ :: _)) | have h := (h.f12 : Own _ _ (Hp.blk g8 NT _ :: _)) | have h := (h.f13 : Own _ _ (Hp.blk g8 NT _ :: _)) | have h := (h.f14 : Own _ _ (Hp.blk g8 NT _ :: _)) | have h := (h.f15 : Own _ _ (Hp.blk g8 NT _ :: _))
                    have e2 := h.cell 2
                    first | have h := (h : Own _ _ (Hp.blk (g + 1) NT _ :: _)) | have h := (h.f1 : Own _ _ (Hp.blk (g + 1) NT _ :: _)) | have h := (h.f2 : Own _ _ (Hp.blk (g + 1) NT _ :: _)) | have h := (h.f3 : Own _ _ (Hp.blk (g + 1) NT _ :: _)) | have h := (h.f4 : Own _ _ (Hp.blk (g + 1) NT _ :: _)) | have h := (h.f5 : Own _ _ (Hp.blk (g + 1) NT _ :: _)) | have h := (h.f6 : Own _ _ (Hp.blk (g + 1) NT _ :: _)) | have h := (h.f7 : Own _ _ (Hp.blk (g + 1) NT _ :: _)) | have h := (h.f8 : Own _ _ (Hp.blk (g + 1) NT _ :: _)) | have h := (h.f9 : Own _ _ (Hp.blk (g + 1) NT _ :: _)) | have h := (h.f10 : Own _ _ (Hp.blk (g + 1) NT _ :: _)) | have h := (h.f11 : Own _ _ (Hp.blk (g + 1) NT _ :: _)) | have h := (h.f12 : Own _ _ (Hp.blk (g + 1) NT _ :: _)) | have h := (h.f13 : Own _ _ (Hp.blk (g + 1) NT _ :: _)) | have h := (h.f14 : Own _ _ (Hp.blk (g + 1) NT _ :: _)) | have h := (h.f15 : Own _ _ (Hp.blk (g + 1) NT _ :: _))
                    have q2 := h.cell 2
                    first | have h := (h : Own _ _ (Hp.ro S :: _)) | have h := (h.f1 : Own _ _ (Hp.ro S :: _)) | have h := (h.f2 : Own _ _ (Hp.ro S :: _)) | have h := (h.f3 : Own _ _ (Hp.ro S :: _)) | have h := (h.f4 : Own _ _ (Hp.ro S :: _)) | have h := (h.f5 : Own _ _ (Hp.ro S :: _)) | have h := (h.f6 : Own _ _ (Hp.ro S :: _)) | have h := (h.f7 : Own _ _ (Hp.ro S :: _)) | have h := (h.f8 : Own _ _ (Hp.ro S :: _)) | have h := (h.f9 : Own _ _ (Hp.ro S :: _)) | have h := (h.f10 : Own _ _ (Hp.ro S :: _)) | have h := (h.f11 : Own _ _ (Hp.ro S :: _)) | have h := (h.f12 : Own _ _ (Hp.ro S :: _)) | have h := (h.f13 : Own _ _ (Hp.ro S :: _)) | have h := (h.f14 : Own _ _ (Hp.ro S :: _)) | have h := (h.f15 : Own _ _ (Hp.ro S :: _))
                    have hrd := Rds.rdC s2 h
                    first | have h := (h : Own _ _ (Hp.strs (.slice A9 vs.length c9) vs :: _)) | have h := (h.f1 : Own _ _ (Hp.strs (.slice A9 vs.length c9) vs :: _)) | have h := (h.f2 : Own _ _ (Hp.strs (.slice A9 vs.length c9) vs :: _)) | have h := (h.f3 : Own _ _ (Hp.strs (.slice A9 vs.length c9) vs :: _)) | have h := (h.f4 : Own _ _ (Hp.strs (.slice A9 vs.length c9) vs :: _)) | have h := (h.f5 : Own _ _ (Hp.strs (.slice A9 vs.length c9) vs :: _)) | have h := (h.f6 : Own _ _ (Hp.strs (.slice A9 vs.length c9) vs :: _)) | have h := (h.f7 : Own _ _ (Hp.strs (.slice A9 vs.length c9) vs :: _)) | have h := (h.f8 : Own _ _ (Hp.strs (.slice A9 vs.length c9) vs :: _)) | have h := (h.f9 : Own _ _ (Hp.strs (.slice A9 vs.length c9) vs :: _)) | have h := (h.f10 : Own _ _ (Hp.strs (.slice A9 vs.length c9) vs :: _)) | have h := (h.f11 : Own _ _ (Hp.strs (.slice A9 vs.length c9) vs :: _)) | have h := (h.f12 : Own _ _ (Hp.strs (.slice A9 vs.length c9) vs :: _)) | have h := (h.f13 : Own _ _ (Hp.strs (.slice A9 vs.length c9) vs :: _)) | have h := (h.f14 : Own _ _ (Hp.strs (.slice A9 vs.length c9) vs :: _)) | have h := (h.f15 : Own _ _ (Hp.strs (.slice A9 vs.length c9) vs :: _))
                    obtain ⟨v6, wj, hap2, h⟩ := lst_append (P := Tryd.prog) (t := LST) (ty := LST) lst_u st_info (by rfl) h b2 vs2.length d2 (vs2.map VS) (List.length_map _) hrd (VS_one _) (by unfold maxLen; simp only [List.length_map]; omega) (by simp only [List.length_map]; omega)
                    rw [← List.map_append] at h
                    obtain ⟨A29, c29, rfl, -⟩ := h.lstSlice
                    rw [List.length_map, List.length_append] at h hap2
                    first | have h := (h : Own _ _ (Hp.blk g8 NT _ :: _)) | have h := (h.f1 : Own _ _ (Hp.blk g8 NT _ :: _)) | have h := (h.f2 : Own _ _ (Hp.blk g8 NT _ :: _)) | have h := (h.f3 : Own _ _ (Hp.blk g8 NT _ :: _)) | have h := (h.f4 : Own _ _ (Hp.blk g8 NT _ :: _)) | have h := (h.f5 : Own _ _ (Hp.blk g8 NT _ :: _)) | have h := (h.f6 : Own _ _ (Hp.blk g8 NT _ :: _)) | have h := (h.f7 : Own _ _ (Hp.blk g8 NT _ :: _)) | have h := (h.f8 : Own _ _ (Hp.blk g8 NT _ :: _)) | have h := (h.f9 : Own _ _ (Hp.blk g8 NT _ :: _)) | have h := (h.f10 : Own _ _ (Hp.blk g8 NT _ :: _)) | have h := (h.f11 : Own _ _ (Hp.blk g8 NT _ :: _)) | have h := (h.f12 : Own _ _ (Hp.blk g8 NT _ :: _)) | have h := (h.f13 : Own _ _ (Hp.blk g8 NT _ :: _)) | have h := (h.f14 : Own _ _ (Hp.blk g8 NT _ :: _)) | have h := (h.f15 : Own _ _ (Hp.blk g8 NT _ :: _))
                    have x2 := h.cell 2
                    have y2 := h.frozen 2
                    have h := h.set 2 (.slice A29 (vs.length + vs2.length) c29)
                    clear hrd
                    first | have h := (h : Own _ _ (Hp.blk g8 NT _ :: _)) | have h := (h.f1 : Own _ _ (Hp.blk g8 NT _ :: _)) | have h := (h.f2 : Own _ _ (Hp.blk g8 NT _ :: _)) | have h := (h.f3 : Own _ _ (Hp.blk g8 NT _ :: _)) | have h := (h.f4 : Own _ _ (Hp.blk g8 NT _ :: _)) | have h := (h.f5 : Own _ _ (Hp.blk g8 NT _ :: _)) | have h := (h.f6 : Own _ _ (Hp.blk g8 NT _ :: _)) | have h := (h.f7 : Own _ _ (Hp.blk g8 NT _ :: _)) | have h := (h.f8 : Own _ _ (Hp.blk g8 NT _ :: _)) | have h := (h.f9 : Own _ _ (Hp.blk g8 NT _ :: _)) | have h := (h.f10 : Own _ _ (Hp.blk g8 NT _ :: _)) | have h := (h.f11 : Own _ _ (Hp.blk g8 NT _ :: _)) | have h := (h.f12 : Own _ _ (Hp.blk g8 NT _ :: _)) | have h := (h.f13 : Own _ _ (Hp.blk g8 NT _ :: _)) | have h := (h.f14 : Own _ _ (Hp.blk g8 NT _ :: _)) | have h := (h.f15 : Own _ _ (Hp.blk g8 NT _ :: _))
                    have e3 := h.cell 3
                    first | have h := (h : Own _ _ (Hp.blk (g + 1) NT _ :: _)) | have h := (h.f1 : Own _ _ (Hp.blk (g + 1) NT _ :: _)) | have h := (h.f2 : Own _ _ (Hp.blk (g + 1) NT _ :: _)) | have h := (h.f3 : Own _ _ (Hp.blk (g + 1) NT _ :: _)) | have h := (h.f4 : Own _ _ (Hp.blk (g + 1) NT _ :: _)) | have h := (h.f5 : Own _ _ (Hp.blk (g + 1) NT _ :: _)) | have h := (h.f6 : Own _ _ (Hp.blk (g + 1) NT _ :: _)) | have h := (h.f7 : Own _ _ (Hp.blk (g + 1) NT _ :: _)) | have h := (h.f8 : Own _ _ (Hp.blk (g + 1) NT _ :: _)) | have h := (h.f9 : Own _ _ (Hp.blk (g + 1) NT _ :: _)) | have h := (h.f10 : Own _ _ (Hp.blk (g + 1) NT _ :: _)) | have h := (h.f11 : Own _ _ (Hp.blk (g + 1) NT _ :: _)) | have h := (h.f12 : Own _ _ (Hp.blk (g + 1) NT _ :: _)) | have h := (h.f13 : Own _ _ (Hp.blk (g + 1) NT _ :: _)) | have h := (h.f14 : Own _ _ (Hp.blk (g + 1) NT _ :: _)) | have h := (h.f15 : Own _ _ (Hp.blk (g + 1) NT _ :: _))
                    have q3 := h.cell 3
                    first | have h := (h : Own _ _ (Hp.ro S :: _)) | have h := (h.f1 : Own _ _ (Hp.ro S :: _)) | have h := (h.f2 : Own _ _ (Hp.ro S :: _)) | have h := (h.f3 : Own _ _ (Hp.ro S :: _)) | have h := (h.f4 : Own _ _ (Hp.ro S :: _)) | have h := (h.f5 : Own _ _ (Hp.ro S :: _)) | have h := (h.f6 : Own _ _ (Hp.ro S :: _)) | have h := (h.f7 : Own _ _ (Hp.ro S :: _)) | have h := (h.f8 : Own _ _ (Hp.ro S :: _)) | have h := (h.f9 : Own _ _ (Hp.ro S :: _)) | have h := (h.f10 : Own _ _ (Hp.ro S :: _)) | have h := (h.f11 : Own _ _ (Hp.ro S :: _)) | have h := (h.f12 : Own _ _ (Hp.ro S :: _)) | have h := (h.f13 : Own _ _ (Hp.ro S :: _)) | have h := (h.f14 : Own _ _ (Hp.ro S :: _)) | have h := (h.f15 : Own _ _ (Hp.ro S :: _))
                    have hrd := Rds.rdC s3 h
                    first | have h := (h : Own _ _ (Hp.ints (.slice A10 ls.length c10) ls :: _)) | have h := (h.f1 : Own _ _ (Hp.ints (.slice A10 ls.length c10) ls :: _)) | have h := (h.f2 : Own _ _ (Hp.ints (.slice A10 ls.length c10) ls :: _)) | have h := (h.f3 : Own _ _ (Hp.ints (.slice A10 ls.length c10) ls :: _)) | have h := (h.f4 : Own _ _ (Hp.ints (.slice A10 ls.length c10) ls :: _)) | have h := (h.f5 : Own _ _ (Hp.ints (.slice A10 ls.length c10) ls :: _)) | have h := (h.f6 : Own _ _ (Hp.ints (.slice A10 ls.length c10) ls :: _)) | have h := (h.f7 : Own _ _ (Hp.ints (.slice A10 ls.length c10) ls :: _)) | have h := (h.f8 : Own _ _ (Hp.ints (.slice A10 ls.length c10) ls :: _)) | have h := (h.f9 : Own _ _ (Hp.ints (.slice A10 ls.length c10) ls :: _)) | have h := (h.f10 : Own _ _ (Hp.ints (.slice A10 ls.length c10) ls :: _)) | have h := (h.f11 : Own _ _ (Hp.ints (.slice A10 ls.length c10) ls :: _)) | have h := (h.f12 : Own _ _ (Hp.ints (.slice A10 ls.length c10) ls :: _)) | have h := (h.f13 : Own _ _ (Hp.ints (.slice A10 ls.length c10) ls :: _)) | have h := (h.f14 : Own _ _ (Hp.ints (.slice A10 ls.length c10) ls :: _)) | have h := (h.f15 : Own _ _ (Hp.ints (.slice A10 ls.length c10) ls :: _))
                    obtain ⟨v6, wk, hap3, h⟩ := lst_append (P := Tryd.prog) (t := LIT) (ty := LIT) lit_u it_info (by rfl) h b3 ls2.length d3 (ls2.map VI) (List.length_map _) hrd (VI_one _) (by unfold maxLen; simp only [List.length_map]; omega) (by simp only [List.length_map]; omega)
                    rw [← List.map_append] at h
                    obtain ⟨A30, c30, rfl, -⟩ := h.lstSlice
                    rw [List.length_map, List.length_append] at h hap3
                    first | have h := (h : Own _ _ (Hp.blk g8 NT _ :: _)) | have h := (h.f1 : Own _ _ (Hp.blk g8 NT _ :: _)) | have h := (h.f2 : Own _ _ (Hp.blk g8 NT _ :: _)) | have h := (h.f3 : Own _ _ (Hp.blk g8 NT _ :: _)) | have h := (h.f4 : Own _ _ (Hp.blk g8 NT _ :: _)) | have h := (h.f5 : Own _ _ (Hp.blk g8 NT _ :: _)) | have h := (h.f6 : Own _ _ (Hp.blk g8 NT _ :: _)) | have h := (h.f7 : Own _ _ (Hp.blk g8 NT _ :: _)) | have h := (h.f8 : Own _ _ (Hp.blk g8 NT _ :: _)) | have h := (h.f9 : Own _ _ (Hp.blk g8 NT _ :: _)) | have h := (h.f10 : Own _ _ (Hp.blk g8 NT _ :: _)) | have h := (h.f11 : Own _ _ (Hp.blk g8 NT _ :: _)) | have h := (h.f12 : Own _ _ (Hp.blk g8 NT _ :: _)) | have h := (h.f13 : Own _ _ (Hp.blk g8 NT _ :: _)) | have h := (h.f14 : Own _ _ (Hp.blk g8 NT _ :: _)) | have h := (h.f15 : Own _ _ (Hp.blk g8 NT _ :: _))
                    have x3 := h.cell 3
                    have y3 := h.frozen 3
                    have h := h.set 3 (.slice A30 (ls.length + ls2.length) c30)
                    clear hrd
                    have e30 := h.cell 3
                    have H := Lib.hid h
                    clear h
                    go_wp2_with (first | (with_reducible refine at_slot (k := some 134) ?_; refine wpList_append_run (o := ⟨some 134, _, _, _, _, _⟩) hap1 rfl rfl rfl rfl ?_; clear hap1) | (with_reducible refine at_slot (k := some 140) ?_; refine wpList_append_run (o := ⟨some 140, _, _, _, _, _⟩) hap2 rfl rfl rfl rfl ?_; clear hap2) | (with_reducible refine at_slot (k := some 146) ?_; refine wpList_append_run (o := ⟨some 146, _, _, _, _, _⟩) hap3 rfl rfl rfl rfl ?_; clear hap3))
                    have h : Own E _ (Hp.blk g8 NT #[.bool leaf, .slice A28 (kk.length + ks2.length) c28, .slice A29 (vs.length + vs2.length) c29, .slice A30 (ls.length + ls2.length) c30] :: _) := H.out
                    generalize World.setCell _ _ _ = wd at h ⊢
                    clear H e1 e2 e3 q1 q2 q3 x1 x2 x3 y1 y2 y3 e30
                    first | have h := (h : Own _ _ (Hp.ints (.slice A30 (ls.length + ls2.length) c30) (ls ++ ls2) :: _)) | have h := (h.f1 : Own _ _ (Hp.ints (.slice A30 (ls.length + ls2.length) c30) (ls ++ ls2) :: _)) | have h := (h.f2 : Own _ _ (Hp.ints (.slice A30 (ls.length + ls2.length) c30) (ls ++ ls2) :: _)) | have h := (h.f3 : Own _ _ (Hp.ints (.slice A30 (ls.length + ls2.length) c30) (ls ++ ls2) :: _)) | have h := (h.f4 : Own _ _ (Hp.ints (.slice A30 (ls.length + ls2.length) c30) (ls ++ ls2) :: _)) | have h := (h.f5 : Own _ _ (Hp.ints (.slice A30 (ls.length + ls2.length) c30) (ls ++ ls2) :: _)) | have h := (h.f6 : Own _ _ (Hp.ints (.slice A30 (ls.length + ls2.length) c30) (ls ++ ls2) :: _)) | have h := (h.f7 : Own _ _ (Hp.ints (.slice A30 (ls.length + ls2.length) c30) (ls ++ ls2) :: _)) | have h := (h.f8 : Own _ _ (Hp.ints (.slice A30 (ls.length + ls2.length) c30) (ls ++ ls2) :: _)) | have h := (h.f9 : Own _ _ (Hp.ints (.slice A30 (ls.length + ls2.length) c30) (ls ++ ls2) :: _)) | have h := (h.f10 : Own _ _ (Hp.ints (.slice A30 (ls.length + ls2.length) c30) (ls ++ ls2) :: _)) | have h := (h.f11 : Own _ _ (Hp.ints (.slice A30 (ls.length + ls2.length) c30) (ls ++ ls2) :: _)) | have h := (h.f12 : Own _ _ (Hp.ints (.slice A30 (ls.length + ls2.length) c30) (ls ++ ls2) :: _)) | have h := (h.f13 : Own _ _ (Hp.ints (.slice A30 (ls.length + ls2.length) c30) (ls ++ ls2) :: _)) | have h := (h.f14 : Own _ _ (Hp.ints (.slice A30 (ls.length + ls2.length) c30) (ls ++ ls2) :: _)) | have h := (h.f15 : Own _ _ (Hp.ints (.slice A30 (ls.length + ls2.length) c30) (ls ++ ls2) :: _))
                    first | have h := (h : Own _ _ (Hp.strs (.slice A29 (vs.length + vs2.length) c29) (vs ++ vs2) :: _)) | have h := (h.f1 : Own _ _ (Hp.strs (.slice A29 (vs.length + vs2.length) c29) (vs ++ vs2) :: _)) | have h := (h.f2 : Own _ _ (Hp.strs (.slice A29 (vs.length + vs2.length) c29) (vs ++ vs2) :: _)) | have h := (h.f3 : Own _ _ (Hp.strs (.slice A29 (vs.length + vs2.length) c29) (vs ++ vs2) :: _)) | have h := (h.f4 : Own _ _ (Hp.strs (.slice A29 (vs.length + vs2.length) c29) (vs ++ vs2) :: _)) | have h := (h.f5 : Own _ _ (Hp.strs (.slice A29 (vs.length + vs2.length) c29) (vs ++ vs2) :: _)) | have h := (h.f6 : Own _ _ (Hp.strs (.slice A29 (vs.length + vs2.length) c29) (vs ++ vs2) :: _)) | have h := (h.f7 : Own _ _ (Hp.strs (.slice A29 (vs.length + vs2.length) c29) (vs ++ vs2) :: _)) | have h := (h.f8 : Own _ _ (Hp.strs (.slice A29 (vs.length + vs2.length) c29) (vs ++ vs2) :: _)) | have h := (h.f9 : Own _ _ (Hp.strs (.slice A29 (vs.length + vs2.length) c29) (vs ++ vs2) :: _)) | have h := (h.f10 : Own _ _ (Hp.strs (.slice A29 (vs.length + vs2.length) c29) (vs ++ vs2) :: _)) | have h := (h.f11 : Own _ _ (Hp.strs (.slice A29 (vs.length + vs2.length) c29) (vs ++ vs2) :: _)) | have h := (h.f12 : Own _ _ (Hp.strs (.slice A29 (vs.length + vs2.length) c29) (vs ++ vs2) :: _)) | have h := (h.f13 : Own _ _ (Hp.strs (.slice A29 (vs.length + vs2.length) c29) (vs ++ vs2) :: _)) | have h := (h.f14 : Own _ _ (Hp.strs (.slice A29 (vs.length + vs2.length) c29) (vs ++ vs2) :: _)) | have h := (h.f15 : Own _ _ (Hp.strs (.slice A29 (vs.length + vs2.length) c29) (vs ++ vs2) :: _))
                    first | have h := (h : Own _ _ (Hp.strs (.slice A28 (kk.length + ks2.length) c28) (kk ++ ks2) :: _)) | have h := (h.f1 : Own _ _ (Hp.strs (.slice A28 (kk.length + ks2.length) c28) (kk ++ ks2) :: _)) | have h := (h.f2 : Own _ _ (Hp.strs (.slice A28 (kk.length + ks2.length) c28) (kk ++ ks2) :: _)) | have h := (h.f3 : Own _ _ (Hp.strs (.slice A28 (kk.length + ks2.length) c28) (kk ++ ks2) :: _)) | have h := (h.f4 : Own _ _ (Hp.strs (.slice A28 (kk.length + ks2.length) c28) (kk ++ ks2) :: _)) | have h := (h.f5 : Own _ _ (Hp.strs (.slice A28 (kk.length + ks2.length) c28) (kk ++ ks2) :: _)) | have h := (h.f6 : Own _ _ (Hp.strs (.slice A28 (kk.length + ks2.length) c28) (kk ++ ks2) :: _)) | have h := (h.f7 : Own _ _ (Hp.strs (.slice A28 (kk.length + ks2.length) c28) (kk ++ ks2) :: _)) | have h := (h.f8 : Own _ _ (Hp.strs (.slice A28 (kk.length + ks2.length) c28) (kk ++ ks2) :: _)) | have h := (h.f9 : Own _ _ (Hp.strs (.slice A28 (kk.length + ks2.length) c28) (kk ++ ks2) :: _)) | have h := (h.f10 : Own _ _ (Hp.strs (.slice A28 (kk.length + ks2.length) c28) (kk ++ ks2) :: _)) | have h := (h.f11 : Own _ _ (Hp.strs (.slice A28 (kk.length + ks2.length) c28) (kk ++ ks2) :: _)) | have h := (h.f12 : Own _ _ (Hp.strs (.slice A28 (kk.length + ks2.length) c28) (kk ++ ks2) :: _)) | have h := (h.f13 : Own _ _ (Hp.strs (.slice A28 (kk.length + ks2.length) c28) (kk ++ ks2) :: _)) | have h := (h.f14 : Own _ _ (Hp.strs (.slice A28 (kk.length + ks2.length) c28) (kk ++ ks2) :: _)) | have h := (h.f15 : Own _ _ (Hp.strs (.slice A28 (kk.length + ks2.length) c28) (kk ++ ks2) :: _))
                    have h : Own E _ (Hp.strs _ _ :: Hp.strs _ _ :: Hp.ints _ _ :: _) := h
                    have h := Own.toNode (n := ⟨leaf, kk ++ ks2, vs ++ vs2, ls ++ ls2⟩) h
                    first | have h := (h : Own _ _ (Hp.ro S :: _)) | have h := (h.f1 : Own _ _ (Hp.ro S :: _)) | have h := (h.f2 : Own _ _ (Hp.ro S :: _)) | have h := (h.f3 : Own _ _ (Hp.ro S :: _)) | have h := (h.f4 : Own _ _ (Hp.ro S :: _)) | have h := (h.f5 : Own _ _ (Hp.ro S :: _)) | have h := (h.f6 : Own _ _ (Hp.ro S :: _)) | have h := (h.f7 : Own _ _ (Hp.ro S :: _)) | have h := (h.f8 : Own _ _ (Hp.ro S :: _)) | have h := (h.f9 : Own _ _ (Hp.ro S :: _)) | have h := (h.f10 : Own _ _ (Hp.ro S :: _)) | have h := (h.f11 : Own _ _ (Hp.ro S :: _)) | have h := (h.f12 : Own _ _ (Hp.ro S :: _)) | have h := (h.f13 : Own _ _ (Hp.ro S :: _)) | have h := (h.f14 : Own _ _ (Hp.ro S :: _)) | have h := (h.f15 : Own _ _ (Hp.ro S :: _))
                    have h := h.f1
                    obtain ⟨aa, hA, had, h⟩ := h.lend
                    have hA2 : Hp.node (.agg #[.bool leaf, .slice A28 (kk ++ ks2).length c28, .slice A29 (vs ++ vs2).length c29, .slice A30 (ls ++ ls2).length c30]) ⟨leaf, kk ++ ks2, vs ++ vs2, ls ++ ls2⟩ aa := by simp only [List.length_append]; exact hA
                    have hin2 := (node_in2 hA2).sub (T := Ph.join aa S) Ph.join_l
                    have hA := Lib.hid hA
                    have hun := fun w M hw => repeats_any (E := E) (S := Ph.join aa S) (L := M) A30 (ls ++ ls2).length c30 (ls ++ ls2) w (by rw [List.length_append]; omega) hin2.h3 hin2.m3 hin2.r3 hw
                    have hsz := fun w M hw => xsize_any (E := E) (S := Ph.join aa S) (L := M) ⟨A28, c28, A29, c29, A30, c30⟩ ⟨leaf, kk ++ ks2, vs ++ vs2, ls ++ ls2⟩ w hbb hin2 hw
                    rw [← HKD2.out, hkd] at hun
                    rw [hpz] at hsz
                    dsimp only [Nv.val] at hsz
                    simp only [List.length_append] at hun hsz
                    have HUN := Lib.hid hun
                    have HSZ := Lib.hid hsz
                    clear hun hsz hin2 hA2
                    have H := Lib.hid h
                    clear h
                    with_reducible refine (HUN.out _ _ H.out).mono ?_
                    rintro e we ⟨rfl, h⟩
                    clear H
                    cases kd
                    · obtain rfl : pe = 103 := by rw [HPE.out]; simp [hsan, hsbn, hqa]
                      obtain rfl : pn = Nd.nil := by rw [HPN.out]; rfl
                      first | have h := (h : Own _ _ (Hp.blk (g + 2) NT _ :: _)) | have h := (h.f1 : Own _ _ (Hp.blk (g + 2) NT _ :: _)) | have h := (h.f2 : Own _ _ (Hp.blk (g + 2) NT _ :: _)) | have h := (h.f3 : Own _ _ (Hp.blk (g + 2) NT _ :: _)) | have h := (h.f4 : Own _ _ (Hp.blk (g + 2) NT _ :: _)) | have h := (h.f5 : Own _ _ (Hp.blk (g + 2) NT _ :: _)) | have h := (h.f6 : Own _ _ (Hp.blk (g + 2) NT _ :: _)) | have h := (h.f7 : Own _ _ (Hp.blk (g + 2) NT _ :: _)) | have h := (h.f8 : Own _ _ (Hp.blk (g + 2) NT _ :: _)) | have h := (h.f9 : Own _ _ (Hp.blk (g + 2) NT _ :: _)) | have h := (h.f10 : Own _ _ (Hp.blk (g + 2) NT _ :: _)) | have h := (h.f11 : Own _ _ (Hp.blk (g + 2) NT _ :: _)) | have h := (h.f12 : Own _ _ (Hp.blk (g + 2) NT _ :: _)) | have h := (h.f13 : Own _ _ (Hp.blk (g + 2) NT _ :: _)) | have h := (h.f14 : Own _ _ (Hp.blk (g + 2) NT _ :: _)) | have h := (h.f15 : Own _ _ (Hp.blk (g + 2) NT _ :: _))
                      have H := Lib.hid h
                      clear h
                      go_wp2_with (with_reducible refine at_slot (k := none) ?_; refine wpList_store_whole (o := ⟨none, _, _, _, _, _⟩) (cs := [.bool false, .slice none 0 0, .slice none 0 0, .slice none 0 0]) (vs := [.bool false, .slice none 0 0, .slice none 0 0, .slice none 0 0]) H.out rfl (ND_all1 _ _ _ _ rfl rfl rfl) (by kernel_rfl) rfl rfl rfl rfl ?_; intro w7 h)
                      refine bodyPost_ret (results_ct rfl rfl h hnt hnr (by kernel_rfl)) rfl ?_
                      refine ⟨_, rfl, ?_⟩
                      have h := h.drop
                      first | have h := (h : Own _ _ (Hp.ro (Ph.join aa S) :: _)) | have h := (h.f1 : Own _ _ (Hp.ro (Ph.join aa S) :: _)) | have h := (h.f2 : Own _ _ (Hp.ro (Ph.join aa S) :: _)) | have h := (h.f3 : Own _ _ (Hp.ro (Ph.join aa S) :: _)) | have h := (h.f4 : Own _ _ (Hp.ro (Ph.join aa S) :: _)) | have h := (h.f5 : Own _ _ (Hp.ro (Ph.join aa S) :: _)) | have h := (h.f6 : Own _ _ (Hp.ro (Ph.join aa S) :: _)) | have h := (h.f7 : Own _ _ (Hp.ro (Ph.join aa S) :: _)) | have h := (h.f8 : Own _ _ (Hp.ro (Ph.join aa S) :: _)) | have h := (h.f9 : Own _ _ (Hp.ro (Ph.join aa S) :: _)) | have h := (h.f10 : Own _ _ (Hp.ro (Ph.join aa S) :: _)) | have h := (h.f11 : Own _ _ (Hp.ro (Ph.join aa S) :: _)) | have h := (h.f12 : Own _ _ (Hp.ro (Ph.join aa S) :: _)) | have h := (h.f13 : Own _ _ (Hp.ro (Ph.join aa S) :: _)) | have h := (h.f14 : Own _ _ (Hp.ro (Ph.join aa S) :: _)) | have h := (h.f15 : Own _ _ (Hp.ro (Ph.join aa S) :: _))
                      have h := (h.part had).drop
                      exact (h.f1.drop.f1.drop.f1.drop).nilNode
                    · first | have h := (h : Own _ _ (Hp.blk g8 NT _ :: _)) | have h := (h.f1 : Own _ _ (Hp.blk g8 NT _ :: _)) | have h := (h.f2 : Own _ _ (Hp.blk g8 NT _ :: _)) | have h := (h.f3 : Own _ _ (Hp.blk g8 NT _ :: _)) | have h := (h.f4 : Own _ _ (Hp.blk g8 NT _ :: _)) | have h := (h.f5 : Own _ _ (Hp.blk g8 NT _ :: _)) | have h := (h.f6 : Own _ _ (Hp.blk g8 NT _ :: _)) | have h := (h.f7 : Own _ _ (Hp.blk g8 NT _ :: _)) | have h := (h.f8 : Own _ _ (Hp.blk g8 NT _ :: _)) | have h := (h.f9 : Own _ _ (Hp.blk g8 NT _ :: _)) | have h := (h.f10 : Own _ _ (Hp.blk g8 NT _ :: _)) | have h := (h.f11 : Own _ _ (Hp.blk g8 NT _ :: _)) | have h := (h.f12 : Own _ _ (Hp.blk g8 NT _ :: _)) | have h := (h.f13 : Own _ _ (Hp.blk g8 NT _ :: _)) | have h := (h.f14 : Own _ _ (Hp.blk g8 NT _ :: _)) | have h := (h.f15 : Own _ _ (Hp.blk g8 NT _ :: _))
                      have e0 := h.cell 0
                      have e1 := h.cell 1
                      have e2 := h.cell 2
                      have e3 := h.cell 3
                      first | have h := (h : Own _ _ (Hp.ro (Ph.join aa S) :: _)) | have h := (h.f1 : Own _ _ (Hp.ro (Ph.join aa S) :: _)) | have h := (h.f2 : Own _ _ (Hp.ro (Ph.join aa S) :: _)) | have h := (h.f3 : Own _ _ (Hp.ro (Ph.join aa S) :: _)) | have h := (h.f4 : Own _ _ (Hp.ro (Ph.join aa S) :: _)) | have h := (h.f5 : Own _ _ (Hp.ro (Ph.join aa S) :: _)) | have h := (h.f6 : Own _ _ (Hp.ro (Ph.join aa S) :: _)) | have h := (h.f7 : Own _ _ (Hp.ro (Ph.join aa S) :: _)) | have h := (h.f8 : Own _ _ (Hp.ro (Ph.join aa S) :: _)) | have h := (h.f9 : Own _ _ (Hp.ro (Ph.join aa S) :: _)) | have h := (h.f10 : Own _ _ (Hp.ro (Ph.join aa S) :: _)) | have h := (h.f11 : Own _ _ (Hp.ro (Ph.join aa S) :: _)) | have h := (h.f12 : Own _ _ (Hp.ro (Ph.join aa S) :: _)) | have h := (h.f13 : Own _ _ (Hp.ro (Ph.join aa S) :: _)) | have h := (h.f14 : Own _ _ (Hp.ro (Ph.join aa S) :: _)) | have h := (h.f15 : Own _ _ (Hp.ro (Ph.join aa S) :: _))
                      have H := Lib.hid h
                      clear h
                      go_wp2_with fail
                      with_reducible refine (HSZ.out _ _ H.out).mono ?_
                      rintro e wf ⟨rfl, h⟩
                      clear e0 e1 e2 e3
                      by_cases hz : 718 < pz
                      · have hzi : (718 : Int) < pz := by omega
                        obtain rfl : pe = 102 := by rw [HPE.out]; simp [hsan, hsbn, hz, hqa]
                        obtain rfl : pn = Nd.nil := by rw [HPN.out]; rfl
                        first | have h := (h : Own _ _ (Hp.blk (g + 2) NT _ :: _)) | have h := (h.f1 : Own _ _ (Hp.blk (g + 2) NT _ :: _)) | have h := (h.f2 : Own _ _ (Hp.blk (g + 2) NT _ :: _)) | have h := (h.f3 : Own _ _ (Hp.blk (g + 2) NT _ :: _)) | have h := (h.f4 : Own _ _ (Hp.blk (g + 2) NT _ :: _)) | have h := (h.f5 : Own _ _ (Hp.blk (g + 2) NT _ :: _)) | have h := (h.f6 : Own _ _ (Hp.blk (g + 2) NT _ :: _)) | have h := (h.f7 : Own _ _ (Hp.blk (g + 2) NT _ :: _)) | have h := (h.f8 : Own _ _ (Hp.blk (g + 2) NT _ :: _)) | have h := (h.f9 : Own _ _ (Hp.blk (g + 2) NT _ :: _)) | have h := (h.f10 : Own _ _ (Hp.blk (g + 2) NT _ :: _)) | have h := (h.f11 : Own _ _ (Hp.blk (g + 2) NT _ :: _)) | have h := (h.f12 : Own _ _ (Hp.blk (g + 2) NT _ :: _)) | have h := (h.f13 : Own _ _ (Hp.blk (g + 2) NT _ :: _)) | have h := (h.f14 : Own _ _ (Hp.blk (g + 2) NT _ :: _)) | have h := (h.f15 : Own _ _ (Hp.blk (g + 2) NT _ :: _))
                        have H := Lib.hid h
                        clear h
                        go_wp2_with (with_reducible refine at_slot (k := none) ?_; refine wpList_store_whole (o := ⟨none, _, _, _, _, _⟩) (cs := [.bool false, .slice none 0 0, .slice none 0 0, .slice none 0 0]) (vs := [.bool false, .slice none 0 0, .slice none 0 0, .slice none 0 0]) H.out rfl (ND_all1 _ _ _ _ rfl rfl rfl) (by kernel_rfl) rfl rfl rfl rfl ?_; intro w7 h)
                        refine bodyPost_ret (results_ct rfl rfl h hnt hnr (by kernel_rfl)) rfl ?_
                        refine ⟨_, rfl, ?_⟩
                        have h := h.drop
                        first | have h := (h : Own _ _ (Hp.ro (Ph.join aa S) :: _)) | have h := (h.f1 : Own _ _ (Hp.ro (Ph.join aa S) :: _)) | have h := (h.f2 : Own _ _ (Hp.ro (Ph.join aa S) :: _)) | have h := (h.f3 : Own _ _ (Hp.ro (Ph.join aa S) :: _)) | have h := (h.f4 : Own _ _ (Hp.ro (Ph.join aa S) :: _)) | have h := (h.f5 : Own _ _ (Hp.ro (Ph.join aa S) :: _)) | have h := (h.f6 : Own _ _ (Hp.ro (Ph.join aa S) :: _)) | have h := (h.f7 : Own _ _ (Hp.ro (Ph.join aa S) :: _)) | have h := (h.f8 : Own _ _ (Hp.ro (Ph.join aa S) :: _)) | have h := (h.f9 : Own _ _ (Hp.ro (Ph.join aa S) :: _)) | have h := (h.f10 : Own _ _ (Hp.ro (Ph.join aa S) :: _)) | have h := (h.f11 : Own _ _ (Hp.ro (Ph.join aa S) :: _)) | have h := (h.f12 : Own _ _ (Hp.ro (Ph.join aa S) :: _)) | have h := (h.f13 : Own _ _ (Hp.ro (Ph.join aa S) :: _)) | have h := (h.f14 : Own _ _ (Hp.ro (Ph.join aa S) :: _)) | have h := (h.f15 : Own _ _ (Hp.ro (Ph.join aa S) :: _))
                        have h := (h.part had).drop
                        exact (h.f1.drop.f1.drop.f1.drop).nilNode
                      · have hzi : ¬ (718 : Int) < pz := by omega
                        obtain rfl : pe = 0 := by rw [HPE.out]; simp [hsan, hsbn, hz, hqa]
                        obtain rfl : pn = ⟨leaf, kk ++ ks2, vs ++ vs2, ls ++ ls2⟩ := by rw [HPN.out]; rfl
                        first | have h := (h : Own _ _ (Hp.blk g8 NT _ :: _)) | have h := (h.f1 : Own _ _ (Hp.blk g8 NT _ :: _)) | have h := (h.f2 : Own _ _ (Hp.blk g8 NT _ :: _)) | have h := (h.f3 : Own _ _ (Hp.blk g8 NT _ :: _)) | have h := (h.f4 : Own _ _ (Hp.blk g8 NT _ :: _)) | have h := (h.f5 : Own _ _ (Hp.blk g8 NT _ :: _)) | have h := (h.f6 : Own _ _ (Hp.blk g8 NT _ :: _)) | have h := (h.f7 : Own _ _ (Hp.blk g8 NT _ :: _)) | have h := (h.f8 : Own _ _ (Hp.blk g8 NT _ :: _)) | have h := (h.f9 : Own _ _ (Hp.blk g8 NT _ :: _)) | have h := (h.f10 : Own _ _ (Hp.blk g8 NT _ :: _)) | have h := (h.f11 : Own _ _ (Hp.blk g8 NT _ :: _)) | have h := (h.f12 : Own _ _ (Hp.blk g8 NT _ :: _)) | have h := (h.f13 : Own _ _ (Hp.blk g8 NT _ :: _)) | have h := (h.f14 : Own _ _ (Hp.blk g8 NT _ :: _)) | have h := (h.f15 : Own _ _ (Hp.blk g8 NT _ :: _))
                        have e0 := h.cell 0
                        have e1 := h.cell 1
                        have e2 := h.cell 2
                        have e3 := h.cell 3
                        first | have h := (h : Own _ _ (Hp.blk (g + 2) NT _ :: _)) | have h := (h.f1 : Own _ _ (Hp.blk (g + 2) NT _ :: _)) | have h := (h.f2 : Own _ _ (Hp.blk (g + 2) NT _ :: _)) | have h := (h.f3 : Own _ _ (Hp.blk (g + 2) NT _ :: _)) | have h := (h.f4 : Own _ _ (Hp.blk (g + 2) NT _ :: _)) | have h := (h.f5 : Own _ _ (Hp.blk (g + 2) NT _ :: _)) | have h := (h.f6 : Own _ _ (Hp.blk (g + 2) NT _ :: _)) | have h := (h.f7 : Own _ _ (Hp.blk (g + 2) NT _ :: _)) | have h := (h.f8 : Own _ _ (Hp.blk (g + 2) NT _ :: _)) | have h := (h.f9 : Own _ _ (Hp.blk (g + 2) NT _ :: _)) | have h := (h.f10 : Own _ _ (Hp.blk (g + 2) NT _ :: _)) | have h := (h.f11 : Own _ _ (Hp.blk (g + 2) NT _ :: _)) | have h := (h.f12 : Own _ _ (Hp.blk (g + 2) NT _ :: _)) | have h := (h.f13 : Own _ _ (Hp.blk (g + 2) NT _ :: _)) | have h := (h.f14 : Own _ _ (Hp.blk (g + 2) NT _ :: _)) | have h := (h.f15 : Own _ _ (Hp.blk (g + 2) NT _ :: _))
                        have H := Lib.hid h
                        clear h
                        go_wp2_with (with_reducible refine at_slot (k := none) ?_; refine wpList_store_whole (o := ⟨none, _, _, _, _, _⟩) (cs := [.bool false, .slice none 0 0, .slice none 0 0, .slice none 0 0]) (vs := [.bool leaf, .slice A28 (kk.length + ks2.length) c28, .slice A29 (vs.length + vs2.length) c29, .slice A30 (ls.length + ls2.length) c30]) H.out rfl (ND_all1 _ _ _ _ rfl rfl rfl) (by kernel_rfl) rfl rfl rfl rfl ?_; intro w7 h)
                        refine bodyPost_ret (results_ct rfl rfl h hnt hnr (by kernel_rfl)) rfl ?_
                        refine ⟨_, rfl, ?_⟩
                        have h := h.drop
                        first | have h := (h : Own _ _ (Hp.ro (Ph.join aa S) :: _)) | have h := (h.f1 : Own _ _ (Hp.ro (Ph.join aa S) :: _)) | have h := (h.f2 : Own _ _ (Hp.ro (Ph.join aa S) :: _)) | have h := (h.f3 : Own _ _ (Hp.ro (Ph.join aa S) :: _)) | have h := (h.f4 : Own _ _ (Hp.ro (Ph.join aa S) :: _)) | have h := (h.f5 : Own _ _ (Hp.ro (Ph.join aa S) :: _)) | have h := (h.f6 : Own _ _ (Hp.ro (Ph.join aa S) :: _)) | have h := (h.f7 : Own _ _ (Hp.ro (Ph.join aa S) :: _)) | have h := (h.f8 : Own _ _ (Hp.ro (Ph.join aa S) :: _)) | have h := (h.f9 : Own _ _ (Hp.ro (Ph.join aa S) :: _)) | have h := (h.f10 : Own _ _ (Hp.ro (Ph.join aa S) :: _)) | have h := (h.f11 : Own _ _ (Hp.ro (Ph.join aa S) :: _)) | have h := (h.f12 : Own _ _ (Hp.ro (Ph.join aa S) :: _)) | have h := (h.f13 : Own _ _ (Hp.ro (Ph.join aa S) :: _)) | have h := (h.f14 : Own _ _ (Hp.ro (Ph.join aa S) :: _)) | have h := (h.f15 : Own _ _ (Hp.ro (Ph.join aa S) :: _))
                        have h := Own.give hA.out had h
                        exact h.f2.drop.f2.drop.f2.drop

end
end Go.Proofs.YtbclmmneiphcaaaDoor
