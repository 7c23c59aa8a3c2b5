/- A node parted, in plain Lean; node.Split (printed by gen_split.py). -/
import Derived.Test.YtbclmmneiphcaaaDoorCut
import Derived.Test.YtbclmmneiphcaaaDoorAwake10
namespace Go.Proofs.YtbclmmneiphcaaaDoor
open Go.RowKit
def Nd.splitE (n : Nd) : Int := if n.wrong = 100 ∨ n.wrong = 101 then n.wrong else if n.size ≤ 480 ∨ 718 < n.size then 103 else 0
def Nd.spA (n : Nd) : Nd := if n.splitE = 0 then n.lo n.cut else Nd.nil
def Nd.spB (n : Nd) : Nd := if n.splitE = 0 then n.hi n.cut else Nd.nil
def Nd.spK (n : Nd) : ByteArray := if n.splitE = 0 then n.mid n.cut else ⟨#[]⟩
theorem sumSz_mul {m : Nat} : ∀ {l : List ByteArray}, (∀ s ∈ l, s.size ≤ m) → sumSz l ≤ m * l.length
  | [], _ => by simp [sumSz]
  | a :: l, h => by
    have e : sumSz (a :: l) = a.size + sumSz l := by simp [sumSz]
    have h1 := h a (List.mem_cons_self ..)
    have h2 := sumSz_mul (l := l) fun s hs => h s (List.mem_cons_of_mem _ hs)
    rw [e, List.length_cons, Nat.mul_add]; omega
theorem wrong_codes (n : Nd) : (n.wrong = 100 ∧ n.formed 1 = false) ∨ (n.wrong = 101 ∧ n.formed 1 = true ∧ mayB n.ks = false) ∨ (n.wrong = 102 ∧ n.formed 1 = true ∧ mayB n.ks = true ∧ 480 < n.size) ∨ (n.wrong = 0 ∧ n.formed 1 = true ∧ mayB n.ks = true ∧ n.size ≤ 480) := by
  unfold Nd.wrong
  cases h1 : n.formed 1
  · exact .inl ⟨rfl, rfl⟩
  · cases h2 : mayB n.ks
    · exact .inr (.inl ⟨rfl, rfl, rfl⟩)
    · by_cases h3 : 480 < n.size
      · exact .inr (.inr (.inl ⟨by rw [if_pos rfl, if_pos rfl, if_pos h3], rfl, rfl, h3⟩))
      · exact .inr (.inr (.inr ⟨by rw [if_pos rfl, if_pos rfl, if_neg h3], rfl, rfl, by omega⟩))
structure Splits (n : Nd) : Prop where
  f : n.formed 1 = true
  m : mayB n.ks = true
  s1 : 480 < n.size
  s2 : n.size ≤ 718
  form : if n.leaf then n.vs.length = n.ks.length else n.ls.length = n.ks.length + 1
  k3 : 3 ≤ n.ks.length
theorem splits_of {n : Nd} (h : n.splitE = 0) : Splits n := by
  have hw := wrong_codes n
  have hne : ¬ (n.wrong = 100 ∨ n.wrong = 101) := by
    intro hc
    unfold Nd.splitE at h
    rw [if_pos hc] at h
    omega
  have hsz : ¬ (n.size ≤ 480 ∨ 718 < n.size) := by
    intro hc
    unfold Nd.splitE at h
    rw [if_neg hne, if_pos hc] at h
    omega
  have hfm : n.formed 1 = true ∧ mayB n.ks = true := by
    rcases hw with ⟨h1, _⟩ | ⟨h1, _⟩ | ⟨_, h1, h2, _⟩ | ⟨_, h1, h2, _⟩
    · exact absurd (.inl h1) hne
    · exact absurd (.inr h1) hne
    · exact ⟨h1, h2⟩
    · exact ⟨h1, h2⟩
  obtain ⟨hf, hm⟩ := hfm
  have hk : ∀ s ∈ n.ks, s.size ≤ 36 := by
    have hm2 := hm
    unfold mayB at hm2
    rw [Bool.and_eq_true, List.all_eq_true] at hm2
    intro s hs
    have h1 := hm2.1 s hs
    unfold isKeyB at h1
    exact (of_decide_eq_true h1).2
  have hks := sumSz_mul hk
  have hf2 := hf
  unfold Nd.formed at hf2
  by_cases hl : n.leaf = true
  · rw [if_pos hl] at hf2
    simp only [Bool.and_eq_true, decide_eq_true_eq, List.all_eq_true] at hf2
    have hvs := sumSz_mul hf2.2
    have hz : n.size = sumSz n.ks + sumSz n.vs + 2 * max n.ks.length n.vs.length := by unfold Nd.size; rw [if_pos hl]
    refine ⟨hf, hm, by omega, by omega, by rw [if_pos hl]; exact hf2.1.2.1, ?_⟩
    rw [hf2.1.2.1] at hvs hz
    omega
  · rw [if_neg hl] at hf2
    simp only [Bool.and_eq_true, decide_eq_true_eq] at hf2
    have hz : n.size = sumSz n.ks + n.ks.length + 4 * n.ls.length := by unfold Nd.size; rw [if_neg hl]
    refine ⟨hf, hm, by omega, by omega, by rw [if_neg hl]; exact hf2.1.2.1, ?_⟩
    omega
theorem Splits.last {n : Nd} (h : Splits n) : 1 ≤ n.lastP ∧ n.lastP < n.ks.length := by
  have := h.k3
  unfold Nd.lastP
  split <;> omega
theorem Splits.cut {n : Nd} (h : Splits n) : 1 ≤ n.cut ∧ n.cut ≤ n.lastP := by
  have h1 := cutRun_in n n.lastP
  have h2 := h.last
  unfold Nd.cut
  omega
section
variable {E : World} {S : Ph} {L : List Hp}
theorem Own.nodeShape {w : World} {v : Value} {n : Nd} (h : Own E w (Hp.node v n :: L)) : ∃ q : Nv, v = q.val n ∧ Own E w (Hp.node (q.val n) n :: L) := by
  have h' := h
  obtain ⟨_, _, _, _, _, a, _, _, _, hA, _⟩ := h'
  obtain ⟨q, rfl, _⟩ := node_in hA
  exact ⟨q, rfl, h⟩
theorem cutparts_any (v : Nv) (n : Nd) (w : World) (hs : Splits n) (hb : n.bulk ≤ 4294967290) (hi : NdIn S v n) (h : Own E w (Hp.ro S :: L)) :
    Calls Tryd.prog 60 #[v.val n, .int .i64 (n.cut : Nat)] w fun e w' => ∃ lv hv, e = .returned (.tuple #[lv, .string (n.mid n.cut), hv]) ∧ Own E w' (Hp.node lv (n.lo n.cut) :: Hp.node hv (n.hi n.cut) :: Hp.ro S :: L) := by
  have h1 := hs.cut
  have h2 := hs.last
  have h3 : n.lastP = if n.leaf then n.ks.length - 1 else n.ks.length - 2 := rfl
  have hf := hs.form
  have hk := hs.k3
  refine parts_any v n n.cut w hb h1.1 (by omega) ?_ hi h
  split
  · rename_i hlf; rw [if_pos hlf] at hf; exact hf
  · rename_i hlf; rw [if_neg hlf] at hf h3; exact ⟨hf, by omega⟩
set_option maxRecDepth 100000 in
set_option maxHeartbeats 8000000 in
theorem split_any (v : Nv) (n : Nd) (w : World) (hb : n.bulk ≤ 4294967290) (hi : NdIn S v n) (h : Own E w (Hp.ro S :: L)) :
    Calls Tryd.prog 29 #[v.val n] w fun e w' => ∃ lv hv, e = .returned (.tuple #[lv, .string n.spK, hv, .int .i64 n.splitE]) ∧ Own E w' (Hp.node lv n.spA :: Hp.node hv n.spB :: Hp.ro S :: L) := by
  have hwr := fun w M hw => wrong_any (E := E) (S := S) (L := M) v n w (by omega) hi hw
  have hs := fun w M hw => size_any (E := E) (S := S) (L := M) v n w (by omega) hi hw
  have hsz : n.size ≤ 5 * 4294967290 := Nat.le_trans n.size_le (by omega)
  have hse : n.splitE = if n.wrong = 100 ∨ n.wrong = 101 then n.wrong else if n.size ≤ 480 ∨ 718 < n.size then 103 else 0 := rfl
  have hall : (n.splitE ≠ 0 → n.spK = ⟨#[]⟩ ∧ n.spA = Nd.nil ∧ n.spB = Nd.nil) ∧ (n.splitE = 0 → Splits n ∧ n.spK = n.mid n.cut ∧ n.spA = n.lo n.cut ∧ n.spB = n.hi n.cut) := ⟨fun h => ⟨if_neg h, if_neg h, if_neg h⟩, fun h => ⟨splits_of h, if_pos h, if_pos h, if_pos h⟩⟩
  have hkc := fun (hsp : Splits n) w M hw => cut_any (E := E) (S := S) (L := M) v n w hb (by have := hsp.k3; omega) hsp.form hi hw
  have hkp := fun (hsp : Splits n) w M hw => cutparts_any (E := E) (S := S) (L := M) v n w hsp hb hi hw
  obtain ⟨se, hsee⟩ : ∃ x, x = n.splitE := ⟨_, rfl⟩
  obtain ⟨sa, hsa⟩ : ∃ x, x = n.spA := ⟨_, rfl⟩
  obtain ⟨sb, hsb⟩ : ∃ x, x = n.spB := ⟨_, rfl⟩
  obtain ⟨sk, hsk⟩ : ∃ x, x = n.spK := ⟨_, rfl⟩
  rw [← hsee] at hse hall ⊢
  rw [← hsa] at hall ⊢
  rw [← hsb] at hall ⊢
  rw [← hsk] at hall ⊢
  have HALL := Lib.hid hall
  have HSE := Lib.hid hse
  have HKC := Lib.hid hkc
  have HKP := Lib.hid hkp
  clear hsee hsa hsb hsk hse hall hkc hkp
  have hwc := wrong_codes n
  generalize n.wrong = wn at *
  generalize n.size = sz at *
  obtain ⟨a1, c1, a2, c2, a3, c3⟩ := v
  dsimp only [Nv.val] at *
  have h1 : Own E _ (Hp.blk (w.heap.size + 2) NT #[.bool false, .slice none 0 0, .slice none 0 0, .slice none 0 0] :: Hp.blk (w.heap.size + 1) NT #[.bool false, .slice none 0 0, .slice none 0 0, .slice none 0 0] :: Hp.blk w.heap.size NT #[.bool n.leaf, .slice a1 n.ks.length c1, .slice a2 n.vs.length c2, .slice a3 n.ls.length c3] :: Hp.ro S :: L) := h.alloc3 _ _ _
  generalize n.leaf = leaf at *
  generalize n.ks.length = nk at *
  generalize n.vs.length = nv at *
  generalize n.ls.length = nlz at *
  obtain ⟨nt, hnt, hnr⟩ := nt_u
  obtain ⟨g, hg⟩ : ∃ g, g = w.heap.size := ⟨_, rfl⟩
  rw [← hg] at h1
  have H1 := Lib.hid h1
  have HWR := Lib.hid hwr
  have HSZ := Lib.hid hs
  have HWC := Lib.hid (show wn = 100 ∨ wn = 101 ∨ wn = 102 ∨ wn = 0 by
    rcases hwc with ⟨h, _⟩ | ⟨h, _⟩ | ⟨h, _⟩ | ⟨h, _⟩
    · exact .inl h
    · exact .inr (.inl h)
    · exact .inr (.inr (.inl h))
    · exact .inr (.inr (.inr h)))
  clear h h1 hwr hs hi hb hwc
  go_enter Tryd.func29, Tryd.ntmps29
  go_wp2_with fail
  rw [← hg]
  clear hg
  with_reducible refine (HWR.out _ _ H1.out.f3).mono ?_
  rintro e w1 ⟨rfl, h⟩
  have q0 : w1.cell? ⟨g, 0, none⟩ = some (.bool leaf) := h.f3.cell 0
  have q1 : w1.cell? ⟨g, 1, none⟩ = some (.slice a1 nk c1) := h.f3.cell 1
  have q2 : w1.cell? ⟨g, 2, none⟩ = some (.slice a2 nv c2) := h.f3.cell 2
  have q3 : w1.cell? ⟨g, 3, none⟩ = some (.slice a3 nlz c3) := h.f3.cell 3
  have H := Lib.hid h
  clear h H1
  go_wp2_with fail
  with_reducible refine (HSZ.out _ _ H.out).mono ?_
  rintro e w2 ⟨rfl, h⟩
  have H2 := Lib.hid h.f2
  clear q0 q1 q2 q3 h H HWR HSZ
  rcases HWC.out with rfl | rfl | hw2
  · have HA : Hid (sk = ⟨#[]⟩ ∧ se = 100 ∧ sa = Nd.nil ∧ sb = Nd.nil) := Lib.hid (by
      have e : se = 100 := by rw [HSE.out]; rfl
      have := HALL.out.1 (by omega)
      exact ⟨this.1, e, this.2.1, this.2.2⟩)
    go_wp2_with (with_reducible refine at_slot (k := none) ?_; first | (refine wpList_store_whole (o := ⟨none, _, _, _, _, _⟩) (g := g + 1) (cs := [.bool false, .slice none 0 0, .slice none 0 0, .slice none 0 0]) (vs := [.bool false, .slice none 0 0, .slice none 0 0, .slice none 0 0]) H2.out rfl (ND_all1 _ _ _ _ rfl rfl rfl) (by kernel_rfl) rfl rfl rfl rfl ?_; intro w7 h7) | (refine wpList_store_whole (o := ⟨none, _, _, _, _, _⟩) (g := g + 2) (cs := [.bool false, .slice none 0 0, .slice none 0 0, .slice none 0 0]) (vs := [.bool false, .slice none 0 0, .slice none 0 0, .slice none 0 0]) h7.f2 rfl (ND_all1 _ _ _ _ rfl rfl rfl) (by kernel_rfl) rfl rfl rfl rfl ?_; intro w8 h8))
    refine bodyPost_ret (results_ctct rfl rfl rfl h8.f1 hnt hnr (by kernel_rfl) (by kernel_rfl)) rfl ?_
    rw [HA.out.1, HA.out.2.1, HA.out.2.2.1, HA.out.2.2.2]
    exact ⟨_, _, rfl, (h8.drop.drop.f1.drop.nilNode).nilNode⟩
  · have HA : Hid (sk = ⟨#[]⟩ ∧ se = 101 ∧ sa = Nd.nil ∧ sb = Nd.nil) := Lib.hid (by
      have e : se = 101 := by rw [HSE.out]; rfl
      have := HALL.out.1 (by omega)
      exact ⟨this.1, e, this.2.1, this.2.2⟩)
    go_wp2_with (with_reducible refine at_slot (k := none) ?_; first | (refine wpList_store_whole (o := ⟨none, _, _, _, _, _⟩) (g := g + 1) (cs := [.bool false, .slice none 0 0, .slice none 0 0, .slice none 0 0]) (vs := [.bool false, .slice none 0 0, .slice none 0 0, .slice none 0 0]) H2.out rfl (ND_all1 _ _ _ _ rfl rfl rfl) (by kernel_rfl) rfl rfl rfl rfl ?_; intro w7 h7) | (refine wpList_store_whole (o := ⟨none, _, _, _, _, _⟩) (g := g + 2) (cs := [.bool false, .slice none 0 0, .slice none 0 0, .slice none 0 0]) (vs := [.bool false, .slice none 0 0, .slice none 0 0, .slice none 0 0]) h7.f2 rfl (ND_all1 _ _ _ _ rfl rfl rfl) (by kernel_rfl) rfl rfl rfl rfl ?_; intro w8 h8))
    refine bodyPost_ret (results_ctct rfl rfl rfl h8.f1 hnt hnr (by kernel_rfl) (by kernel_rfl)) rfl ?_
    rw [HA.out.1, HA.out.2.1, HA.out.2.2.1, HA.out.2.2.2]
    exact ⟨_, _, rfl, (h8.drop.drop.f1.drop.nilNode).nilNode⟩
  · have z1 : ¬ wn = 100 := by omega
    have z2 : ¬ wn = 101 := by omega
    have z3 : (wn == 100) = false := by rw [beq_eq_false_iff_ne]; exact z1
    have z4 : (wn == 101) = false := by rw [beq_eq_false_iff_ne]; exact z2
    have hse2 : se = if sz ≤ 480 ∨ 718 < sz then 103 else 0 := by rw [HSE.out, if_neg (by omega)]
    clear hw2
    by_cases k1 : sz ≤ 480
    · have k1i : (sz : Int) ≤ 480 := by omega
      have HA : Hid (sk = ⟨#[]⟩ ∧ se = 103 ∧ sa = Nd.nil ∧ sb = Nd.nil) := Lib.hid (by
        have e : se = 103 := by rw [hse2, if_pos (.inl k1)]
        have := HALL.out.1 (by omega)
        exact ⟨this.1, e, this.2.1, this.2.2⟩)
      clear hse2
      go_wp2_with (with_reducible refine at_slot (k := none) ?_; first | (refine wpList_store_whole (o := ⟨none, _, _, _, _, _⟩) (g := g + 1) (cs := [.bool false, .slice none 0 0, .slice none 0 0, .slice none 0 0]) (vs := [.bool false, .slice none 0 0, .slice none 0 0, .slice none 0 0]) H2.out rfl (ND_all1 _ _ _ _ rfl rfl rfl) (by kernel_rfl) rfl rfl rfl rfl ?_; intro w7 h7) | (refine wpList_store_whole (o := ⟨none, _, _, _, _, _⟩) (g := g + 2) (cs := [.bool false, .slice none 0 0, .slice none 0 0, .slice none 0 0]) (vs := [.bool false, .slice none 0 0, .slice none 0 0, .slice none 0 0]) h7.f2 rfl (ND_all1 _ _ _ _ rfl rfl rfl) (by kernel_rfl) rfl rfl rfl rfl ?_; intro w8 h8))
      refine bodyPost_ret (results_ctct rfl rfl rfl h8.f1 hnt hnr (by kernel_rfl) (by kernel_rfl)) rfl ?_
      rw [HA.out.1, HA.out.2.1, HA.out.2.2.1, HA.out.2.2.2]
      exact ⟨_, _, rfl, (h8.drop.drop.f1.drop.nilNode).nilNode⟩
    · have k1i : ¬ (sz : Int) ≤ 480 := by omega
      by_cases k2 : 718 < sz
      · have k2i : (718 : Int) < sz := by omega
        have HA : Hid (sk = ⟨#[]⟩ ∧ se = 103 ∧ sa = Nd.nil ∧ sb = Nd.nil) := Lib.hid (by
          have e : se = 103 := by rw [hse2, if_pos (.inr k2)]
          have := HALL.out.1 (by omega)
          exact ⟨this.1, e, this.2.1, this.2.2⟩)
        clear hse2
        go_wp2_with (with_reducible refine at_slot (k := none) ?_; first | (refine wpList_store_whole (o := ⟨none, _, _, _, _, _⟩) (g := g + 1) (cs := [.bool false, .slice none 0 0, .slice none 0 0, .slice none 0 0]) (vs := [.bool false, .slice none 0 0, .slice none 0 0, .slice none 0 0]) H2.out rfl (ND_all1 _ _ _ _ rfl rfl rfl) (by kernel_rfl) rfl rfl rfl rfl ?_; intro w7 h7) | (refine wpList_store_whole (o := ⟨none, _, _, _, _, _⟩) (g := g + 2) (cs := [.bool false, .slice none 0 0, .slice none 0 0, .slice none 0 0]) (vs := [.bool false, .slice none 0 0, .slice none 0 0, .slice none 0 0]) h7.f2 rfl (ND_all1 _ _ _ _ rfl rfl rfl) (by kernel_rfl) rfl rfl rfl rfl ?_; intro w8 h8))
        refine bodyPost_ret (results_ctct rfl rfl rfl h8.f1 hnt hnr (by kernel_rfl) (by kernel_rfl)) rfl ?_
        rw [HA.out.1, HA.out.2.1, HA.out.2.2.1, HA.out.2.2.2]
        exact ⟨_, _, rfl, (h8.drop.drop.f1.drop.nilNode).nilNode⟩
      · have k2i : ¬ (718 : Int) < sz := by omega
        have he : se = 0 := by rw [hse2, if_neg (by omega)]
        obtain ⟨hsp, e1, e2, e3⟩ := HALL.out.2 he
        have kc := HKC.out hsp
        have kp := HKP.out hsp
        rw [← e1, ← e2, ← e3] at kp
        clear e1 e2 e3 hsp hse2 HALL HSE HKC HKP HWC
        subst he
        generalize n.cut = cut at *
        have KC := Lib.hid kc
        have KP := Lib.hid kp
        have HC : Hid (∀ w', (∃ L', Own E w' (Hp.blk g NT #[.bool leaf, .slice a1 nk c1, .slice a2 nv c2, .slice a3 nlz c3] :: L')) → w'.rangeAt g 0 [.bool leaf, .slice a1 nk c1, .slice a2 nv c2, .slice a3 nlz c3]) := Lib.hid fun w' hw => by
          obtain ⟨_, hw⟩ := hw
          exact hw.range 0 _ (fun j u hu => by simpa using hu)
        have H := Lib.hid H2.out.drew
        clear H2 kc kp
        go_wp2_with fail
        go_cut [8, 9, 10] from 45 (fun x8 x9 x10 w' => ∃ (g8 g9 : Nat) (q1 q2 : Nv), x8 = .pointer (some ⟨g8, 0, none⟩) ∧ x9 = .string sk ∧ x10 = .pointer (some ⟨g9, 0, none⟩) ∧ Own E w' (Hp.blk g8 NT #[.bool sa.leaf, .slice q1.a1 sa.ks.length q1.c1, .slice q1.a2 sa.vs.length q1.c2, .slice q1.a3 sa.ls.length q1.c3] :: Hp.blk g9 NT #[.bool sb.leaf, .slice q2.a1 sb.ks.length q2.c1, .slice q2.a2 sb.vs.length q2.c2, .slice q2.a3 sb.ls.length q2.c3] :: Hp.node (q1.val sa) sa :: Hp.node (q2.val sb) sb :: Hp.blk (g + 1) NT #[.bool false, .slice none 0 0, .slice none 0 0, .slice none 0 0] :: Hp.blk (g + 2) NT #[.bool false, .slice none 0 0, .slice none 0 0, .slice none 0 0] :: Hp.blk g NT #[.bool leaf, .slice a1 nk c1, .slice a2 nv c2, .slice a3 nlz c3] :: Hp.ro S :: L))
        case first =>
          have h := H.out
          clear H
          refine wp_region_text [0, 1] (fun w' => w'.rangeAt g 0 [.bool leaf, .slice a1 nk c1, .slice a2 nv c2, .slice a3 nlz c3]) (by kernel_rfl) ?_ (fun hS => ?_)
          · exact HC.out _ h.has
          refine wpAnyG_load (i := 0) (oi := ⟨some 35, _, _, _, _, _⟩) (v := (.agg #[.bool leaf, .slice a1 nk c1, .slice a2 nv c2, .slice a3 nlz c3])) rfl (by kernel_rfl) (by kernel_rfl) (by kernel_rfl) (by rfl) (fun _ _ _ h => h) (by rfl) ?_ (by assumption) ?_
          · intro w hS
            exact exec_load_mid NT (.tmp 1) rfl g 0 (by rfl) [.bool leaf, .slice a1 nk c1, .slice a2 nv c2, .slice a3 nlz c3] _ hS Tryd.underlying25 rfl (by kernel_rfl)
          try simp only [Act.put, List.setIfInBounds_toArray, List.set_cons_zero, List.set_cons_succ]
          refine wpAnyG_load (i := 1) (oi := ⟨some 36, _, _, _, _, _⟩) (v := (.agg #[.bool leaf, .slice a1 nk c1, .slice a2 nv c2, .slice a3 nlz c3])) rfl (by kernel_rfl) (by kernel_rfl) (by kernel_rfl) (by rfl) (fun _ _ _ h => h) (by rfl) ?_ (by assumption) ?_
          · intro w hS
            exact exec_load_mid NT (.tmp 1) rfl g 0 (by rfl) [.bool leaf, .slice a1 nk c1, .slice a2 nv c2, .slice a3 nlz c3] _ hS Tryd.underlying25 rfl (by kernel_rfl)
          try simp only [Act.put, List.setIfInBounds_toArray, List.set_cons_zero, List.set_cons_succ]
          refine wpAnyG_three (i := 2) (oi := ⟨some 37, _, _, _, _, _⟩) (j := 8) (oj := ⟨some 8, _, _, _, _, _⟩) (k := 9) (ok := ⟨some 10, _, _, _, _, _⟩) (by kernel_rfl) rfl rfl rfl (fun K hK => ?_) (fun K hK => ?_) (fun K hK => ?_)
          · skip
            rw [if_pos (by rfl)]
            go_simp
            first | have h := (h : Own _ _ (Hp.ro S :: _)) | have h := (h.f1 : Own _ _ (Hp.ro S :: _)) | have h := (h.f2 : Own _ _ (Hp.ro S :: _)) | have h := (h.f3 : Own _ _ (Hp.ro S :: _)) | have h := (h.f4 : Own _ _ (Hp.ro S :: _)) | have h := (h.f5 : Own _ _ (Hp.ro S :: _)) | have h := (h.f6 : Own _ _ (Hp.ro S :: _)) | have h := (h.f7 : Own _ _ (Hp.ro S :: _)) | have h := (h.f8 : Own _ _ (Hp.ro S :: _)) | have h := (h.f9 : Own _ _ (Hp.ro S :: _)) | have h := (h.f10 : Own _ _ (Hp.ro S :: _)) | have h := (h.f11 : Own _ _ (Hp.ro S :: _)) | have h := (h.f12 : Own _ _ (Hp.ro S :: _)) | have h := (h.f13 : Own _ _ (Hp.ro S :: _)) | have h := (h.f14 : Own _ _ (Hp.ro S :: _)) | have h := (h.f15 : Own _ _ (Hp.ro S :: _))
            with_reducible refine (KC.out _ _ h).mono ?_
            rintro e w5 ⟨rfl, h⟩
            refine hK.out _ _ ?_ (fun hS => ?_)
            · exact HC.out _ h.has
            clear hK K
            try simp only [Act.put, List.setIfInBounds_toArray, List.set_cons_zero, List.set_cons_succ]
            refine wpAnyG_three (i := 3) (oi := ⟨some 38, _, _, _, _, _⟩) (j := 8) (oj := ⟨some 8, _, _, _, _, _⟩) (k := 9) (ok := ⟨some 10, _, _, _, _, _⟩) (by kernel_rfl) rfl rfl rfl (fun K hK => ?_) (fun K hK => ?_) (fun K hK => ?_)
            · skip
              rw [if_pos (by rfl)]
              go_simp
              first | have h := (h : Own _ _ (Hp.ro S :: _)) | have h := (h.f1 : Own _ _ (Hp.ro S :: _)) | have h := (h.f2 : Own _ _ (Hp.ro S :: _)) | have h := (h.f3 : Own _ _ (Hp.ro S :: _)) | have h := (h.f4 : Own _ _ (Hp.ro S :: _)) | have h := (h.f5 : Own _ _ (Hp.ro S :: _)) | have h := (h.f6 : Own _ _ (Hp.ro S :: _)) | have h := (h.f7 : Own _ _ (Hp.ro S :: _)) | have h := (h.f8 : Own _ _ (Hp.ro S :: _)) | have h := (h.f9 : Own _ _ (Hp.ro S :: _)) | have h := (h.f10 : Own _ _ (Hp.ro S :: _)) | have h := (h.f11 : Own _ _ (Hp.ro S :: _)) | have h := (h.f12 : Own _ _ (Hp.ro S :: _)) | have h := (h.f13 : Own _ _ (Hp.ro S :: _)) | have h := (h.f14 : Own _ _ (Hp.ro S :: _)) | have h := (h.f15 : Own _ _ (Hp.ro S :: _))
              with_reducible refine (KP.out _ _ h).mono ?_
              rintro e w6 ⟨lv, hv, rfl, h⟩
              obtain ⟨q1, rfl, h⟩ := h.nodeShape
              obtain ⟨q2, rfl, h⟩ := h.f1.nodeShape
              refine hK.out _ _ ?_ (fun hS => ?_)
              · exact HC.out _ h.has
              clear hK K
              try simp only [Act.put, List.setIfInBounds_toArray, List.set_cons_zero, List.set_cons_succ]
              refine wpAnyG_pure (i := 4) (oi := ⟨some 34, _, _, _, _, _⟩) (v := ?_) rfl (by kernel_rfl) (by kernel_rfl) (by kernel_rfl) (by rfl) (fun _ _ _ h => h) (by rfl) ?_ ?_
              rotate_left
              · intro w
                go_simp
                first | done | with_reducible rfl
              try simp only [Act.put, List.setIfInBounds_toArray, List.set_cons_zero, List.set_cons_succ]
              refine wpAnyG_pure (i := 5) (oi := ⟨some 39, _, _, _, _, _⟩) (v := ?_) rfl (by kernel_rfl) (by kernel_rfl) (by kernel_rfl) (by rfl) (fun _ _ _ h => h) (by rfl) ?_ ?_
              rotate_left
              · intro w
                go_simp
                first | done | with_reducible rfl
              try simp only [Act.put, List.setIfInBounds_toArray, List.set_cons_zero, List.set_cons_succ]
              refine wpAnyG_pure (i := 6) (oi := ⟨some 40, _, _, _, _, _⟩) (v := ?_) rfl (by kernel_rfl) (by kernel_rfl) (by kernel_rfl) (by rfl) (fun _ _ _ h => h) (by rfl) ?_ ?_
              rotate_left
              · intro w
                go_simp
                first | done | with_reducible rfl
              try simp only [Act.put, List.setIfInBounds_toArray, List.set_cons_zero, List.set_cons_succ]
              refine wpAnyG_pure (i := 7) (oi := ⟨some 41, _, _, _, _, _⟩) (v := ?_) rfl (by kernel_rfl) (by kernel_rfl) (by kernel_rfl) (by rfl) (fun _ _ _ h => h) (by rfl) ?_ ?_
              rotate_left
              · intro w
                go_simp
                first | done | with_reducible rfl
              try simp only [Act.put, List.setIfInBounds_toArray, List.set_cons_zero, List.set_cons_succ]
              refine wpAnyG_two (i := 8) (oi := ⟨some 8, _, _, _, _, _⟩) (j := 9) (oj := ⟨some 10, _, _, _, _, _⟩) (by kernel_rfl) rfl rfl (fun K hK => ?_) (fun K hK => ?_)
              · skip
                rw [if_pos (by rfl)]
                refine wp_alloc_own (cs := #[.bool false, .slice none 0 0, .slice none 0 0, .slice none 0 0]) (T := NT) h (by go_simp) (fun g8 w8 h => ?_)
                refine hK.out _ _ ?_ (fun hS => ?_)
                · exact HC.out _ h.has
                clear hK K
                try simp only [Act.put, List.setIfInBounds_toArray, List.set_cons_zero, List.set_cons_succ]
                refine wpAnyG_keep (i := 9) (oi := ⟨some 10, _, _, _, _, _⟩) (by kernel_rfl) rfl (fun K hK => ?_)
                rw [if_pos (by rfl)]
                refine wp_alloc_own (cs := #[.bool false, .slice none 0 0, .slice none 0 0, .slice none 0 0]) (T := NT) h (by go_simp) (fun g9 w8 h => ?_)
                refine hK.out _ _ ?_ (fun hS => ?_)
                · exact HC.out _ h.has
                clear hK K
                try simp only [Act.put, List.setIfInBounds_toArray, List.set_cons_zero, List.set_cons_succ]
                refine wpAnyG_keep (i := 10) (oi := ⟨none, _, _, _, _, _⟩) (by kernel_rfl) rfl (fun K hK => ?_)
                rw [if_pos (by rfl)]
                first | have h := (h : Own _ _ (Hp.blk g8 NT _ :: _)) | have h := (h.f1 : Own _ _ (Hp.blk g8 NT _ :: _)) | have h := (h.f2 : Own _ _ (Hp.blk g8 NT _ :: _)) | have h := (h.f3 : Own _ _ (Hp.blk g8 NT _ :: _)) | have h := (h.f4 : Own _ _ (Hp.blk g8 NT _ :: _)) | have h := (h.f5 : Own _ _ (Hp.blk g8 NT _ :: _)) | have h := (h.f6 : Own _ _ (Hp.blk g8 NT _ :: _)) | have h := (h.f7 : Own _ _ (Hp.blk g8 NT _ :: _)) | have h := (h.f8 : Own _ _ (Hp.blk g8 NT _ :: _)) | have h := (h.f9 : Own _ _ (Hp.blk g8 NT _ :: _)) | have h := (h.f10 : Own _ _ (Hp.blk g8 NT _ :: _)) | have h := (h.f11 : Own _ _ (Hp.blk g8 NT _ :: _)) | have h := (h.f12 : Own _ _ (Hp.blk g8 NT _ :: _)) | have h := (h.f13 : Own _ _ (Hp.blk g8 NT _ :: _)) | have h := (h.f14 : Own _ _ (Hp.blk g8 NT _ :: _)) | have h := (h.f15 : Own _ _ (Hp.blk g8 NT _ :: _))
                refine wp_store_whole (cs := [.bool false, .slice none 0 0, .slice none 0 0, .slice none 0 0]) (vs := [.bool sa.leaf, .slice q1.a1 sa.ks.length q1.c1, .slice q1.a2 sa.vs.length q1.c2, .slice q1.a3 sa.ls.length q1.c3]) h rfl (ND_all1 _ _ _ _ rfl rfl rfl) (by kernel_rfl) rfl rfl rfl (fun w9 h => ?_)
                refine hK.out _ _ ?_ (fun hS => ?_)
                · exact HC.out _ h.has
                clear hK K
                try simp only [Act.put]
                refine wpAnyG_pure (i := 11) (oi := ⟨some 9, _, _, _, _, _⟩) (v := ?_) rfl (by kernel_rfl) (by kernel_rfl) (by kernel_rfl) (by rfl) (fun _ _ _ h => h) (by rfl) ?_ ?_
                rotate_left
                · intro w
                  go_simp
                  first | done | with_reducible rfl
                try simp only [Act.put, List.setIfInBounds_toArray, List.set_cons_zero, List.set_cons_succ]
                refine wpAnyG_keep (i := 12) (oi := ⟨none, _, _, _, _, _⟩) (by kernel_rfl) rfl (fun K hK => ?_)
                rw [if_pos (by rfl)]
                first | have h := (h : Own _ _ (Hp.blk g9 NT _ :: _)) | have h := (h.f1 : Own _ _ (Hp.blk g9 NT _ :: _)) | have h := (h.f2 : Own _ _ (Hp.blk g9 NT _ :: _)) | have h := (h.f3 : Own _ _ (Hp.blk g9 NT _ :: _)) | have h := (h.f4 : Own _ _ (Hp.blk g9 NT _ :: _)) | have h := (h.f5 : Own _ _ (Hp.blk g9 NT _ :: _)) | have h := (h.f6 : Own _ _ (Hp.blk g9 NT _ :: _)) | have h := (h.f7 : Own _ _ (Hp.blk g9 NT _ :: _)) | have h := (h.f8 : Own _ _ (Hp.blk g9 NT _ :: _)) | have h := (h.f9 : Own _ _ (Hp.blk g9 NT _ :: _)) | have h := (h.f10 : Own _ _ (Hp.blk g9 NT _ :: _)) | have h := (h.f11 : Own _ _ (Hp.blk g9 NT _ :: _)) | have h := (h.f12 : Own _ _ (Hp.blk g9 NT _ :: _)) | have h := (h.f13 : Own _ _ (Hp.blk g9 NT _ :: _)) | have h := (h.f14 : Own _ _ (Hp.blk g9 NT _ :: _)) | have h := (h.f15 : Own _ _ (Hp.blk g9 NT _ :: _))
                refine wp_store_whole (cs := [.bool false, .slice none 0 0, .slice none 0 0, .slice none 0 0]) (vs := [.bool sb.leaf, .slice q2.a1 sb.ks.length q2.c1, .slice q2.a2 sb.vs.length q2.c2, .slice q2.a3 sb.ls.length q2.c3]) h rfl (ND_all1 _ _ _ _ rfl rfl rfl) (by kernel_rfl) rfl rfl rfl (fun w9 h => ?_)
                refine hK.out _ _ ?_ (fun hS => ?_)
                · exact HC.out _ h.has
                clear hK K
                try simp only [Act.put]
                refine wpAnyG_done (by kernel_rfl) ?_ _
                refine NoPanic.normal ?_
                go_wp2_with fail
                go_meet
                case rel => exact ⟨g8, g9, q1, q2, rfl, rfl, rfl, h.ac (by simp only [Hp.all] <;> ac_rfl)⟩
              · skip
                rw [if_pos (by rfl)]
                refine wp_alloc_own (cs := #[.bool false, .slice none 0 0, .slice none 0 0, .slice none 0 0]) (T := NT) h (by go_simp) (fun g9 w8 h => ?_)
                refine hK.out _ _ ?_ (fun hS => ?_)
                · exact HC.out _ h.has
                clear hK K
                try simp only [Act.put, List.setIfInBounds_toArray, List.set_cons_zero, List.set_cons_succ]
                refine wpAnyG_keep (i := 8) (oi := ⟨some 8, _, _, _, _, _⟩) (by kernel_rfl) rfl (fun K hK => ?_)
                rw [if_pos (by rfl)]
                refine wp_alloc_own (cs := #[.bool false, .slice none 0 0, .slice none 0 0, .slice none 0 0]) (T := NT) h (by go_simp) (fun g8 w8 h => ?_)
                refine hK.out _ _ ?_ (fun hS => ?_)
                · exact HC.out _ h.has
                clear hK K
                try simp only [Act.put, List.setIfInBounds_toArray, List.set_cons_zero, List.set_cons_succ]
                refine wpAnyG_keep (i := 10) (oi := ⟨none, _, _, _, _, _⟩) (by kernel_rfl) rfl (fun K hK => ?_)
                rw [if_pos (by rfl)]
                first | have h := (h : Own _ _ (Hp.blk g8 NT _ :: _)) | have h := (h.f1 : Own _ _ (Hp.blk g8 NT _ :: _)) | have h := (h.f2 : Own _ _ (Hp.blk g8 NT _ :: _)) | have h := (h.f3 : Own _ _ (Hp.blk g8 NT _ :: _)) | have h := (h.f4 : Own _ _ (Hp.blk g8 NT _ :: _)) | have h := (h.f5 : Own _ _ (Hp.blk g8 NT _ :: _)) | have h := (h.f6 : Own _ _ (Hp.blk g8 NT _ :: _)) | have h := (h.f7 : Own _ _ (Hp.blk g8 NT _ :: _)) | have h := (h.f8 : Own _ _ (Hp.blk g8 NT _ :: _)) | have h := (h.f9 : Own _ _ (Hp.blk g8 NT _ :: _)) | have h := (h.f10 : Own _ _ (Hp.blk g8 NT _ :: _)) | have h := (h.f11 : Own _ _ (Hp.blk g8 NT _ :: _)) | have h := (h.f12 : Own _ _ (Hp.blk g8 NT _ :: _)) | have h := (h.f13 : Own _ _ (Hp.blk g8 NT _ :: _)) | have h := (h.f14 : Own _ _ (Hp.blk g8 NT _ :: _)) | have h := (h.f15 : Own _ _ (Hp.blk g8 NT _ :: _))
                refine wp_store_whole (cs := [.bool false, .slice none 0 0, .slice none 0 0, .slice none 0 0]) (vs := [.bool sa.leaf, .slice q1.a1 sa.ks.length q1.c1, .slice q1.a2 sa.vs.length q1.c2, .slice q1.a3 sa.ls.length q1.c3]) h rfl (ND_all1 _ _ _ _ rfl rfl rfl) (by kernel_rfl) rfl rfl rfl (fun w9 h => ?_)
                refine hK.out _ _ ?_ (fun hS => ?_)
                · exact HC.out _ h.has
                clear hK K
                try simp only [Act.put]
                refine wpAnyG_pure (i := 11) (oi := ⟨some 9, _, _, _, _, _⟩) (v := ?_) rfl (by kernel_rfl) (by kernel_rfl) (by kernel_rfl) (by rfl) (fun _ _ _ h => h) (by rfl) ?_ ?_
                rotate_left
                · intro w
                  go_simp
                  first | done | with_reducible rfl
                try simp only [Act.put, List.setIfInBounds_toArray, List.set_cons_zero, List.set_cons_succ]
                refine wpAnyG_keep (i := 12) (oi := ⟨none, _, _, _, _, _⟩) (by kernel_rfl) rfl (fun K hK => ?_)
                rw [if_pos (by rfl)]
                first | have h := (h : Own _ _ (Hp.blk g9 NT _ :: _)) | have h := (h.f1 : Own _ _ (Hp.blk g9 NT _ :: _)) | have h := (h.f2 : Own _ _ (Hp.blk g9 NT _ :: _)) | have h := (h.f3 : Own _ _ (Hp.blk g9 NT _ :: _)) | have h := (h.f4 : Own _ _ (Hp.blk g9 NT _ :: _)) | have h := (h.f5 : Own _ _ (Hp.blk g9 NT _ :: _)) | have h := (h.f6 : Own _ _ (Hp.blk g9 NT _ :: _)) | have h := (h.f7 : Own _ _ (Hp.blk g9 NT _ :: _)) | have h := (h.f8 : Own _ _ (Hp.blk g9 NT _ :: _)) | have h := (h.f9 : Own _ _ (Hp.blk g9 NT _ :: _)) | have h := (h.f10 : Own _ _ (Hp.blk g9 NT _ :: _)) | have h := (h.f11 : Own _ _ (Hp.blk g9 NT _ :: _)) | have h := (h.f12 : Own _ _ (Hp.blk g9 NT _ :: _)) | have h := (h.f13 : Own _ _ (Hp.blk g9 NT _ :: _)) | have h := (h.f14 : Own _ _ (Hp.blk g9 NT _ :: _)) | have h := (h.f15 : Own _ _ (Hp.blk g9 NT _ :: _))
                refine wp_store_whole (cs := [.bool false, .slice none 0 0, .slice none 0 0, .slice none 0 0]) (vs := [.bool sb.leaf, .slice q2.a1 sb.ks.length q2.c1, .slice q2.a2 sb.vs.length q2.c2, .slice q2.a3 sb.ls.length q2.c3]) h rfl (ND_all1 _ _ _ _ rfl rfl rfl) (by kernel_rfl) rfl rfl rfl (fun w9 h => ?_)
                refine hK.out _ _ ?_ (fun hS => ?_)
                · exact HC.out _ h.has
                clear hK K
                try simp only [Act.put]
                refine wpAnyG_done (by kernel_rfl) ?_ _
                refine NoPanic.normal ?_
                go_wp2_with fail
                go_meet
                case rel => exact ⟨g8, g9, q1, q2, rfl, rfl, rfl, h.ac (by simp only [Hp.all] <;> ac_rfl)⟩
            · skip
              rw [if_pos (by rfl)]
              refine wp_alloc_own (cs := #[.bool false, .slice none 0 0, .slice none 0 0, .slice none 0 0]) (T := NT) h (by go_simp) (fun g8 w8 h => ?_)
              refine hK.out _ _ ?_ (fun hS => ?_)
              · exact HC.out _ h.has
              clear hK K
              try simp only [Act.put, List.setIfInBounds_toArray, List.set_cons_zero, List.set_cons_succ]
              refine wpAnyG_two (i := 3) (oi := ⟨some 38, _, _, _, _, _⟩) (j := 9) (oj := ⟨some 10, _, _, _, _, _⟩) (by kernel_rfl) rfl rfl (fun K hK => ?_) (fun K hK => ?_)
              · skip
                rw [if_pos (by rfl)]
                go_simp
                first | have h := (h : Own _ _ (Hp.ro S :: _)) | have h := (h.f1 : Own _ _ (Hp.ro S :: _)) | have h := (h.f2 : Own _ _ (Hp.ro S :: _)) | have h := (h.f3 : Own _ _ (Hp.ro S :: _)) | have h := (h.f4 : Own _ _ (Hp.ro S :: _)) | have h := (h.f5 : Own _ _ (Hp.ro S :: _)) | have h := (h.f6 : Own _ _ (Hp.ro S :: _)) | have h := (h.f7 : Own _ _ (Hp.ro S :: _)) | have h := (h.f8 : Own _ _ (Hp.ro S :: _)) | have h := (h.f9 : Own _ _ (Hp.ro S :: _)) | have h := (h.f10 : Own _ _ (Hp.ro S :: _)) | have h := (h.f11 : Own _ _ (Hp.ro S :: _)) | have h := (h.f12 : Own _ _ (Hp.ro S :: _)) | have h := (h.f13 : Own _ _ (Hp.ro S :: _)) | have h := (h.f14 : Own _ _ (Hp.ro S :: _)) | have h := (h.f15 : Own _ _ (Hp.ro S :: _))
                with_reducible refine (KP.out _ _ h).mono ?_
                rintro e w6 ⟨lv, hv, rfl, h⟩
                obtain ⟨q1, rfl, h⟩ := h.nodeShape
                obtain ⟨q2, rfl, h⟩ := h.f1.nodeShape
                refine hK.out _ _ ?_ (fun hS => ?_)
                · exact HC.out _ h.has
                clear hK K
                try simp only [Act.put, List.setIfInBounds_toArray, List.set_cons_zero, List.set_cons_succ]
                refine wpAnyG_pure (i := 4) (oi := ⟨some 34, _, _, _, _, _⟩) (v := ?_) rfl (by kernel_rfl) (by kernel_rfl) (by kernel_rfl) (by rfl) (fun _ _ _ h => h) (by rfl) ?_ ?_
                rotate_left
                · intro w
                  go_simp
                  first | done | with_reducible rfl
                try simp only [Act.put, List.setIfInBounds_toArray, List.set_cons_zero, List.set_cons_succ]
                refine wpAnyG_pure (i := 5) (oi := ⟨some 39, _, _, _, _, _⟩) (v := ?_) rfl (by kernel_rfl) (by kernel_rfl) (by kernel_rfl) (by rfl) (fun _ _ _ h => h) (by rfl) ?_ ?_
                rotate_left
                · intro w
                  go_simp
                  first | done | with_reducible rfl
                try simp only [Act.put, List.setIfInBounds_toArray, List.set_cons_zero, List.set_cons_succ]
                refine wpAnyG_pure (i := 6) (oi := ⟨some 40, _, _, _, _, _⟩) (v := ?_) rfl (by kernel_rfl) (by kernel_rfl) (by kernel_rfl) (by rfl) (fun _ _ _ h => h) (by rfl) ?_ ?_
                rotate_left
                · intro w
                  go_simp
                  first | done | with_reducible rfl
                try simp only [Act.put, List.setIfInBounds_toArray, List.set_cons_zero, List.set_cons_succ]
                refine wpAnyG_pure (i := 7) (oi := ⟨some 41, _, _, _, _, _⟩) (v := ?_) rfl (by kernel_rfl) (by kernel_rfl) (by kernel_rfl) (by rfl) (fun _ _ _ h => h) (by rfl) ?_ ?_
                rotate_left
                · intro w
                  go_simp
                  first | done | with_reducible rfl
                try simp only [Act.put, List.setIfInBounds_toArray, List.set_cons_zero, List.set_cons_succ]
                refine wpAnyG_keep (i := 9) (oi := ⟨some 10, _, _, _, _, _⟩) (by kernel_rfl) rfl (fun K hK => ?_)
                rw [if_pos (by rfl)]
                refine wp_alloc_own (cs := #[.bool false, .slice none 0 0, .slice none 0 0, .slice none 0 0]) (T := NT) h (by go_simp) (fun g9 w8 h => ?_)
                refine hK.out _ _ ?_ (fun hS => ?_)
                · exact HC.out _ h.has
                clear hK K
                try simp only [Act.put, List.setIfInBounds_toArray, List.set_cons_zero, List.set_cons_succ]
                refine wpAnyG_keep (i := 10) (oi := ⟨none, _, _, _, _, _⟩) (by kernel_rfl) rfl (fun K hK => ?_)
                rw [if_pos (by rfl)]
                first | have h := (h : Own _ _ (Hp.blk g8 NT _ :: _)) | have h := (h.f1 : Own _ _ (Hp.blk g8 NT _ :: _)) | have h := (h.f2 : Own _ _ (Hp.blk g8 NT _ :: _)) | have h := (h.f3 : Own _ _ (Hp.blk g8 NT _ :: _)) | have h := (h.f4 : Own _ _ (Hp.blk g8 NT _ :: _)) | have h := (h.f5 : Own _ _ (Hp.blk g8 NT _ :: _)) | have h := (h.f6 : Own _ _ (Hp.blk g8 NT _ :: _)) | have h := (h.f7 : Own _ _ (Hp.blk g8 NT _ :: _)) | have h := (h.f8 : Own _ _ (Hp.blk g8 NT _ :: _)) | have h := (h.f9 : Own _ _ (Hp.blk g8 NT _ :: _)) | have h := (h.f10 : Own _ _ (Hp.blk g8 NT _ :: _)) | have h := (h.f11 : Own _ _ (Hp.blk g8 NT _ :: _)) | have h := (h.f12 : Own _ _ (Hp.blk g8 NT _ :: _)) | have h := (h.f13 : Own _ _ (Hp.blk g8 NT _ :: _)) | have h := (h.f14 : Own _ _ (Hp.blk g8 NT _ :: _)) | have h := (h.f15 : Own _ _ (Hp.blk g8 NT _ :: _))
                refine wp_store_whole (cs := [.bool false, .slice none 0 0, .slice none 0 0, .slice none 0 0]) (vs := [.bool sa.leaf, .slice q1.a1 sa.ks.length q1.c1, .slice q1.a2 sa.vs.length q1.c2, .slice q1.a3 sa.ls.length q1.c3]) h rfl (ND_all1 _ _ _ _ rfl rfl rfl) (by kernel_rfl) rfl rfl rfl (fun w9 h => ?_)
                refine hK.out _ _ ?_ (fun hS => ?_)
                · exact HC.out _ h.has
                clear hK K
                try simp only [Act.put]
                refine wpAnyG_pure (i := 11) (oi := ⟨some 9, _, _, _, _, _⟩) (v := ?_) rfl (by kernel_rfl) (by kernel_rfl) (by kernel_rfl) (by rfl) (fun _ _ _ h => h) (by rfl) ?_ ?_
                rotate_left
                · intro w
                  go_simp
                  first | done | with_reducible rfl
                try simp only [Act.put, List.setIfInBounds_toArray, List.set_cons_zero, List.set_cons_succ]
                refine wpAnyG_keep (i := 12) (oi := ⟨none, _, _, _, _, _⟩) (by kernel_rfl) rfl (fun K hK => ?_)
                rw [if_pos (by rfl)]
                first | have h := (h : Own _ _ (Hp.blk g9 NT _ :: _)) | have h := (h.f1 : Own _ _ (Hp.blk g9 NT _ :: _)) | have h := (h.f2 : Own _ _ (Hp.blk g9 NT _ :: _)) | have h := (h.f3 : Own _ _ (Hp.blk g9 NT _ :: _)) | have h := (h.f4 : Own _ _ (Hp.blk g9 NT _ :: _)) | have h := (h.f5 : Own _ _ (Hp.blk g9 NT _ :: _)) | have h := (h.f6 : Own _ _ (Hp.blk g9 NT _ :: _)) | have h := (h.f7 : Own _ _ (Hp.blk g9 NT _ :: _)) | have h := (h.f8 : Own _ _ (Hp.blk g9 NT _ :: _)) | have h := (h.f9 : Own _ _ (Hp.blk g9 NT _ :: _)) | have h := (h.f10 : Own _ _ (Hp.blk g9 NT _ :: _)) | have h := (h.f11 : Own _ _ (Hp.blk g9 NT _ :: _)) | have h := (h.f12 : Own _ _ (Hp.blk g9 NT _ :: _)) | have h := (h.f13 : Own _ _ (Hp.blk g9 NT _ :: _)) | have h := (h.f14 : Own _ _ (Hp.blk g9 NT _ :: _)) | have h := (h.f15 : Own _ _ (Hp.blk g9 NT _ :: _))
                refine wp_store_whole (cs := [.bool false, .slice none 0 0, .slice none 0 0, .slice none 0 0]) (vs := [.bool sb.leaf, .slice q2.a1 sb.ks.length q2.c1, .slice q2.a2 sb.vs.length q2.c2, .slice q2.a3 sb.ls.length q2.c3]) h rfl (ND_all1 _ _ _ _ rfl rfl rfl) (by kernel_rfl) rfl rfl rfl (fun w9 h => ?_)
                refine hK.out _ _ ?_ (fun hS => ?_)
                · exact HC.out _ h.has
                clear hK K
                try simp only [Act.put]
                refine wpAnyG_done (by kernel_rfl) ?_ _
                refine NoPanic.normal ?_
                go_wp2_with fail
                go_meet
                case rel => exact ⟨g8, g9, q1, q2, rfl, rfl, rfl, h.ac (by simp only [Hp.all] <;> ac_rfl)⟩
              · skip
                rw [if_pos (by rfl)]
                refine wp_alloc_own (cs := #[.bool false, .slice none 0 0, .slice none 0 0, .slice none 0 0]) (T := NT) h (by go_simp) (fun g9 w8 h => ?_)
                refine hK.out _ _ ?_ (fun hS => ?_)
                · exact HC.out _ h.has
                clear hK K
                try simp only [Act.put, List.setIfInBounds_toArray, List.set_cons_zero, List.set_cons_succ]
                refine wpAnyG_keep (i := 3) (oi := ⟨some 38, _, _, _, _, _⟩) (by kernel_rfl) rfl (fun K hK => ?_)
                rw [if_pos (by rfl)]
                go_simp
                first | have h := (h : Own _ _ (Hp.ro S :: _)) | have h := (h.f1 : Own _ _ (Hp.ro S :: _)) | have h := (h.f2 : Own _ _ (Hp.ro S :: _)) | have h := (h.f3 : Own _ _ (Hp.ro S :: _)) | have h := (h.f4 : Own _ _ (Hp.ro S :: _)) | have h := (h.f5 : Own _ _ (Hp.ro S :: _)) | have h := (h.f6 : Own _ _ (Hp.ro S :: _)) | have h := (h.f7 : Own _ _ (Hp.ro S :: _)) | have h := (h.f8 : Own _ _ (Hp.ro S :: _)) | have h := (h.f9 : Own _ _ (Hp.ro S :: _)) | have h := (h.f10 : Own _ _ (Hp.ro S :: _)) | have h := (h.f11 : Own _ _ (Hp.ro S :: _)) | have h := (h.f12 : Own _ _ (Hp.ro S :: _)) | have h := (h.f13 : Own _ _ (Hp.ro S :: _)) | have h := (h.f14 : Own _ _ (Hp.ro S :: _)) | have h := (h.f15 : Own _ _ (Hp.ro S :: _))
                with_reducible refine (KP.out _ _ h).mono ?_
                rintro e w6 ⟨lv, hv, rfl, h⟩
                obtain ⟨q1, rfl, h⟩ := h.nodeShape
                obtain ⟨q2, rfl, h⟩ := h.f1.nodeShape
                refine hK.out _ _ ?_ (fun hS => ?_)
                · exact HC.out _ h.has
                clear hK K
                try simp only [Act.put, List.setIfInBounds_toArray, List.set_cons_zero, List.set_cons_succ]
                refine wpAnyG_pure (i := 4) (oi := ⟨some 34, _, _, _, _, _⟩) (v := ?_) rfl (by kernel_rfl) (by kernel_rfl) (by kernel_rfl) (by rfl) (fun _ _ _ h => h) (by rfl) ?_ ?_
                rotate_left
                · intro w
                  go_simp
                  first | done | with_reducible rfl
                try simp only [Act.put, List.setIfInBounds_toArray, List.set_cons_zero, List.set_cons_succ]
                refine wpAnyG_pure (i := 5) (oi := ⟨some 39, _, _, _, _, _⟩) (v := ?_) rfl (by kernel_rfl) (by kernel_rfl) (by kernel_rfl) (by rfl) (fun _ _ _ h => h) (by rfl) ?_ ?_
                rotate_left
                · intro w
                  go_simp
                  first | done | with_reducible rfl
                try simp only [Act.put, List.setIfInBounds_toArray, List.set_cons_zero, List.set_cons_succ]
                refine wpAnyG_pure (i := 6) (oi := ⟨some 40, _, _, _, _, _⟩) (v := ?_) rfl (by kernel_rfl) (by kernel_rfl) (by kernel_rfl) (by rfl) (fun _ _ _ h => h) (by rfl) ?_ ?_
                rotate_left
                · intro w
                  go_simp
                  first | done | with_reducible rfl
                try simp only [Act.put, List.setIfInBounds_toArray, List.set_cons_zero, List.set_cons_succ]
                refine wpAnyG_pure (i := 7) (oi := ⟨some 41, _, _, _, _, _⟩) (v := ?_) rfl (by kernel_rfl) (by kernel_rfl) (by kernel_rfl) (by rfl) (fun _ _ _ h => h) (by rfl) ?_ ?_
                rotate_left
                · intro w
                  go_simp
                  first | done | with_reducible rfl
                try simp only [Act.put, List.setIfInBounds_toArray, List.set_cons_zero, List.set_cons_succ]
                refine wpAnyG_keep (i := 10) (oi := ⟨none, _, _, _, _, _⟩) (by kernel_rfl) rfl (fun K hK => ?_)
                rw [if_pos (by rfl)]
                first | have h := (h : Own _ _ (Hp.blk g8 NT _ :: _)) | have h := (h.f1 : Own _ _ (Hp.blk g8 NT _ :: _)) | have h := (h.f2 : Own _ _ (Hp.blk g8 NT _ :: _)) | have h := (h.f3 : Own _ _ (Hp.blk g8 NT _ :: _)) | have h := (h.f4 : Own _ _ (Hp.blk g8 NT _ :: _)) | have h := (h.f5 : Own _ _ (Hp.blk g8 NT _ :: _)) | have h := (h.f6 : Own _ _ (Hp.blk g8 NT _ :: _)) | have h := (h.f7 : Own _ _ (Hp.blk g8 NT _ :: _)) | have h := (h.f8 : Own _ _ (Hp.blk g8 NT _ :: _)) | have h := (h.f9 : Own _ _ (Hp.blk g8 NT _ :: _)) | have h := (h.f10 : Own _ _ (Hp.blk g8 NT _ :: _)) | have h := (h.f11 : Own _ _ (Hp.blk g8 NT _ :: _)) | have h := (h.f12 : Own _ _ (Hp.blk g8 NT _ :: _)) | have h := (h.f13 : Own _ _ (Hp.blk g8 NT _ :: _)) | have h := (h.f14 : Own _ _ (Hp.blk g8 NT _ :: _)) | have h := (h.f15 : Own _ _ (Hp.blk g8 NT _ :: _))
                refine wp_store_whole (cs := [.bool false, .slice none 0 0, .slice none 0 0, .slice none 0 0]) (vs := [.bool sa.leaf, .slice q1.a1 sa.ks.length q1.c1, .slice q1.a2 sa.vs.length q1.c2, .slice q1.a3 sa.ls.length q1.c3]) h rfl (ND_all1 _ _ _ _ rfl rfl rfl) (by kernel_rfl) rfl rfl rfl (fun w9 h => ?_)
                refine hK.out _ _ ?_ (fun hS => ?_)
                · exact HC.out _ h.has
                clear hK K
                try simp only [Act.put]
                refine wpAnyG_pure (i := 11) (oi := ⟨some 9, _, _, _, _, _⟩) (v := ?_) rfl (by kernel_rfl) (by kernel_rfl) (by kernel_rfl) (by rfl) (fun _ _ _ h => h) (by rfl) ?_ ?_
                rotate_left
                · intro w
                  go_simp
                  first | done | with_reducible rfl
                try simp only [Act.put, List.setIfInBounds_toArray, List.set_cons_zero, List.set_cons_succ]
                refine wpAnyG_keep (i := 12) (oi := ⟨none, _, _, _, _, _⟩) (by kernel_rfl) rfl (fun K hK => ?_)
                rw [if_pos (by rfl)]
                first | have h := (h : Own _ _ (Hp.blk g9 NT _ :: _)) | have h := (h.f1 : Own _ _ (Hp.blk g9 NT _ :: _)) | have h := (h.f2 : Own _ _ (Hp.blk g9 NT _ :: _)) | have h := (h.f3 : Own _ _ (Hp.blk g9 NT _ :: _)) | have h := (h.f4 : Own _ _ (Hp.blk g9 NT _ :: _)) | have h := (h.f5 : Own _ _ (Hp.blk g9 NT _ :: _)) | have h := (h.f6 : Own _ _ (Hp.blk g9 NT _ :: _)) | have h := (h.f7 : Own _ _ (Hp.blk g9 NT _ :: _)) | have h := (h.f8 : Own _ _ (Hp.blk g9 NT _ :: _)) | have h := (h.f9 : Own _ _ (Hp.blk g9 NT _ :: _)) | have h := (h.f10 : Own _ _ (Hp.blk g9 NT _ :: _)) | have h := (h.f11 : Own _ _ (Hp.blk g9 NT _ :: _)) | have h := (h.f12 : Own _ _ (Hp.blk g9 NT _ :: _)) | have h := (h.f13 : Own _ _ (Hp.blk g9 NT _ :: _)) | have h := (h.f14 : Own _ _ (Hp.blk g9 NT _ :: _)) | have h := (h.f15 : Own _ _ (Hp.blk g9 NT _ :: _))
                refine wp_store_whole (cs := [.bool false, .slice none 0 0, .slice none 0 0, .slice none 0 0]) (vs := [.bool sb.leaf, .slice q2.a1 sb.ks.length q2.c1, .slice q2.a2 sb.vs.length q2.c2, .slice q2.a3 sb.ls.length q2.c3]) h rfl (ND_all1 _ _ _ _ rfl rfl rfl) (by kernel_rfl) rfl rfl rfl (fun w9 h => ?_)
                refine hK.out _ _ ?_ (fun hS => ?_)
                · exact HC.out _ h.has
                clear hK K
                try simp only [Act.put]
                refine wpAnyG_done (by kernel_rfl) ?_ _
                refine NoPanic.normal ?_
                go_wp2_with fail
                go_meet
                case rel => exact ⟨g8, g9, q1, q2, rfl, rfl, rfl, h.ac (by simp only [Hp.all] <;> ac_rfl)⟩
            · skip
              rw [if_pos (by rfl)]
              refine wp_alloc_own (cs := #[.bool false, .slice none 0 0, .slice none 0 0, .slice none 0 0]) (T := NT) h (by go_simp) (fun g9 w8 h => ?_)
              refine hK.out _ _ ?_ (fun hS => ?_)
              · exact HC.out _ h.has
              clear hK K
              try simp only [Act.put, List.setIfInBounds_toArray, List.set_cons_zero, List.set_cons_succ]
              refine wpAnyG_two (i := 3) (oi := ⟨some 38, _, _, _, _, _⟩) (j := 8) (oj := ⟨some 8, _, _, _, _, _⟩) (by kernel_rfl) rfl rfl (fun K hK => ?_) (fun K hK => ?_)
              · skip
                rw [if_pos (by rfl)]
                go_simp
                first | have h := (h : Own _ _ (Hp.ro S :: _)) | have h := (h.f1 : Own _ _ (Hp.ro S :: _)) | have h := (h.f2 : Own _ _ (Hp.ro S :: _)) | have h := (h.f3 : Own _ _ (Hp.ro S :: _)) | have h := (h.f4 : Own _ _ (Hp.ro S :: _)) | have h := (h.f5 : Own _ _ (Hp.ro S :: _)) | have h := (h.f6 : Own _ _ (Hp.ro S :: _)) | have h := (h.f7 : Own _ _ (Hp.ro S :: _)) | have h := (h.f8 : Own _ _ (Hp.ro S :: _)) | have h := (h.f9 : Own _ _ (Hp.ro S :: _)) | have h := (h.f10 : Own _ _ (Hp.ro S :: _)) | have h := (h.f11 : Own _ _ (Hp.ro S :: _)) | have h := (h.f12 : Own _ _ (Hp.ro S :: _)) | have h := (h.f13 : Own _ _ (Hp.ro S :: _)) | have h := (h.f14 : Own _ _ (Hp.ro S :: _)) | have h := (h.f15 : Own _ _ (Hp.ro S :: _))
                with_reducible refine (KP.out _ _ h).mono ?_
                rintro e w6 ⟨lv, hv, rfl, h⟩
                obtain ⟨q1, rfl, h⟩ := h.nodeShape
                obtain ⟨q2, rfl, h⟩ := h.f1.nodeShape
                refine hK.out _ _ ?_ (fun hS => ?_)
                · exact HC.out _ h.has
                clear hK K
                try simp only [Act.put, List.setIfInBounds_toArray, List.set_cons_zero, List.set_cons_succ]
                refine wpAnyG_pure (i := 4) (oi := ⟨some 34, _, _, _, _, _⟩) (v := ?_) rfl (by kernel_rfl) (by kernel_rfl) (by kernel_rfl) (by rfl) (fun _ _ _ h => h) (by rfl) ?_ ?_
                rotate_left
                · intro w
                  go_simp
                  first | done | with_reducible rfl
                try simp only [Act.put, List.setIfInBounds_toArray, List.set_cons_zero, List.set_cons_succ]
                refine wpAnyG_pure (i := 5) (oi := ⟨some 39, _, _, _, _, _⟩) (v := ?_) rfl (by kernel_rfl) (by kernel_rfl) (by kernel_rfl) (by rfl) (fun _ _ _ h => h) (by rfl) ?_ ?_
                rotate_left
                · intro w
                  go_simp
                  first | done | with_reducible rfl
                try simp only [Act.put, List.setIfInBounds_toArray, List.set_cons_zero, List.set_cons_succ]
                refine wpAnyG_pure (i := 6) (oi := ⟨some 40, _, _, _, _, _⟩) (v := ?_) rfl (by kernel_rfl) (by kernel_rfl) (by kernel_rfl) (by rfl) (fun _ _ _ h => h) (by rfl) ?_ ?_
                rotate_left
                · intro w
                  go_simp
                  first | done | with_reducible rfl
                try simp only [Act.put, List.setIfInBounds_toArray, List.set_cons_zero, List.set_cons_succ]
                refine wpAnyG_pure (i := 7) (oi := ⟨some 41, _, _, _, _, _⟩) (v := ?_) rfl (by kernel_rfl) (by kernel_rfl) (by kernel_rfl) (by rfl) (fun _ _ _ h => h) (by rfl) ?_ ?_
                rotate_left
                · intro w
                  go_simp
                  first | done | with_reducible rfl
                try simp only [Act.put, List.setIfInBounds_toArray, List.set_cons_zero, List.set_cons_succ]
                refine wpAnyG_keep (i := 8) (oi := ⟨some 8, _, _, _, _, _⟩) (by kernel_rfl) rfl (fun K hK => ?_)
                rw [if_pos (by rfl)]
                refine wp_alloc_own (cs := #[.bool false, .slice none 0 0, .slice none 0 0, .slice none 0 0]) (T := NT) h (by go_simp) (fun g8 w8 h => ?_)
                refine hK.out _ _ ?_ (fun hS => ?_)
                · exact HC.out _ h.has
                clear hK K
                try simp only [Act.put, List.setIfInBounds_toArray, List.set_cons_zero, List.set_cons_succ]
                refine wpAnyG_keep (i := 10) (oi := ⟨none, _, _, _, _, _⟩) (by kernel_rfl) rfl (fun K hK => ?_)
                rw [if_pos (by rfl)]
                first | have h := (h : Own _ _ (Hp.blk g8 NT _ :: _)) | have h := (h.f1 : Own _ _ (Hp.blk g8 NT _ :: _)) | have h := (h.f2 : Own _ _ (Hp.blk g8 NT _ :: _)) | have h := (h.f3 : Own _ _ (Hp.blk g8 NT _ :: _)) | have h := (h.f4 : Own _ _ (Hp.blk g8 NT _ :: _)) | have h := (h.f5 : Own _ _ (Hp.blk g8 NT _ :: _)) | have h := (h.f6 : Own _ _ (Hp.blk g8 NT _ :: _)) | have h := (h.f7 : Own _ _ (Hp.blk g8 NT _ :: _)) | have h := (h.f8 : Own _ _ (Hp.blk g8 NT _ :: _)) | have h := (h.f9 : Own _ _ (Hp.blk g8 NT _ :: _)) | have h := (h.f10 : Own _ _ (Hp.blk g8 NT _ :: _)) | have h := (h.f11 : Own _ _ (Hp.blk g8 NT _ :: _)) | have h := (h.f12 : Own _ _ (Hp.blk g8 NT _ :: _)) | have h := (h.f13 : Own _ _ (Hp.blk g8 NT _ :: _)) | have h := (h.f14 : Own _ _ (Hp.blk g8 NT _ :: _)) | have h := (h.f15 : Own _ _ (Hp.blk g8 NT _ :: _))
                refine wp_store_whole (cs := [.bool false, .slice none 0 0, .slice none 0 0, .slice none 0 0]) (vs := [.bool sa.leaf, .slice q1.a1 sa.ks.length q1.c1, .slice q1.a2 sa.vs.length q1.c2, .slice q1.a3 sa.ls.length q1.c3]) h rfl (ND_all1 _ _ _ _ rfl rfl rfl) (by kernel_rfl) rfl rfl rfl (fun w9 h => ?_)
                refine hK.out _ _ ?_ (fun hS => ?_)
                · exact HC.out _ h.has
                clear hK K
                try simp only [Act.put]
                refine wpAnyG_pure (i := 11) (oi := ⟨some 9, _, _, _, _, _⟩) (v := ?_) rfl (by kernel_rfl) (by kernel_rfl) (by kernel_rfl) (by rfl) (fun _ _ _ h => h) (by rfl) ?_ ?_
                rotate_left
                · intro w
                  go_simp
                  first | done | with_reducible rfl
                try simp only [Act.put, List.setIfInBounds_toArray, List.set_cons_zero, List.set_cons_succ]
                refine wpAnyG_keep (i := 12) (oi := ⟨none, _, _, _, _, _⟩) (by kernel_rfl) rfl (fun K hK => ?_)
                rw [if_pos (by rfl)]
                first | have h := (h : Own _ _ (Hp.blk g9 NT _ :: _)) | have h := (h.f1 : Own _ _ (Hp.blk g9 NT _ :: _)) | have h := (h.f2 : Own _ _ (Hp.blk g9 NT _ :: _)) | have h := (h.f3 : Own _ _ (Hp.blk g9 NT _ :: _)) | have h := (h.f4 : Own _ _ (Hp.blk g9 NT _ :: _)) | have h := (h.f5 : Own _ _ (Hp.blk g9 NT _ :: _)) | have h := (h.f6 : Own _ _ (Hp.blk g9 NT _ :: _)) | have h := (h.f7 : Own _ _ (Hp.blk g9 NT _ :: _)) | have h := (h.f8 : Own _ _ (Hp.blk g9 NT _ :: _)) | have h := (h.f9 : Own _ _ (Hp.blk g9 NT _ :: _)) | have h := (h.f10 : Own _ _ (Hp.blk g9 NT _ :: _)) | have h := (h.f11 : Own _ _ (Hp.blk g9 NT _ :: _)) | have h := (h.f12 : Own _ _ (Hp.blk g9 NT _ :: _)) | have h := (h.f13 : Own _ _ (Hp.blk g9 NT _ :: _)) | have h := (h.f14 : Own _ _ (Hp.blk g9 NT _ :: _)) | have h := (h.f15 : Own _ _ (Hp.blk g9 NT _ :: _))
                refine wp_store_whole (cs := [.bool false, .slice none 0 0, .slice none 0 0, .slice none 0 0]) (vs := [.bool sb.leaf, .slice q2.a1 sb.ks.length q2.c1, .slice q2.a2 sb.vs.length q2.c2, .slice q2.a3 sb.ls.length q2.c3]) h rfl (ND_all1 _ _ _ _ rfl rfl rfl) (by kernel_rfl) rfl rfl rfl (fun w9 h => ?_)
                refine hK.out _ _ ?_ (fun hS => ?_)
                · exact HC.out _ h.has
                clear hK K
                try simp only [Act.put]
                refine wpAnyG_done (by kernel_rfl) ?_ _
                refine NoPanic.normal ?_
                go_wp2_with fail
                go_meet
                case rel => exact ⟨g8, g9, q1, q2, rfl, rfl, rfl, h.ac (by simp only [Hp.all] <;> ac_rfl)⟩
              · skip
                rw [if_pos (by rfl)]
                refine wp_alloc_own (cs := #[.bool false, .slice none 0 0, .slice none 0 0, .slice none 0 0]) (T := NT) h (by go_simp) (fun g8 w8 h => ?_)
                refine hK.out _ _ ?_ (fun hS => ?_)
                · exact HC.out _ h.has
                clear hK K
                try simp only [Act.put, List.setIfInBounds_toArray, List.set_cons_zero, List.set_cons_succ]
                refine wpAnyG_keep (i := 3) (oi := ⟨some 38, _, _, _, _, _⟩) (by kernel_rfl) rfl (fun K hK => ?_)
                rw [if_pos (by rfl)]
                go_simp
                first | have h := (h : Own _ _ (Hp.ro S :: _)) | have h := (h.f1 : Own _ _ (Hp.ro S :: _)) | have h := (h.f2 : Own _ _ (Hp.ro S :: _)) | have h := (h.f3 : Own _ _ (Hp.ro S :: _)) | have h := (h.f4 : Own _ _ (Hp.ro S :: _)) | have h := (h.f5 : Own _ _ (Hp.ro S :: _)) | have h := (h.f6 : Own _ _ (Hp.ro S :: _)) | have h := (h.f7 : Own _ _ (Hp.ro S :: _)) | have h := (h.f8 : Own _ _ (Hp.ro S :: _)) | have h := (h.f9 : Own _ _ (Hp.ro S :: _)) | have h := (h.f10 : Own _ _ (Hp.ro S :: _)) | have h := (h.f11 : Own _ _ (Hp.ro S :: _)) | have h := (h.f12 : Own _ _ (Hp.ro S :: _)) | have h := (h.f13 : Own _ _ (Hp.ro S :: _)) | have h := (h.f14 : Own _ _ (Hp.ro S :: _)) | have h := (h.f15 : Own _ _ (Hp.ro S :: _))
                with_reducible refine (KP.out _ _ h).mono ?_
                rintro e w6 ⟨lv, hv, rfl, h⟩
                obtain ⟨q1, rfl, h⟩ := h.nodeShape
                obtain ⟨q2, rfl, h⟩ := h.f1.nodeShape
                refine hK.out _ _ ?_ (fun hS => ?_)
                · exact HC.out _ h.has
                clear hK K
                try simp only [Act.put, List.setIfInBounds_toArray, List.set_cons_zero, List.set_cons_succ]
                refine wpAnyG_pure (i := 4) (oi := ⟨some 34, _, _, _, _, _⟩) (v := ?_) rfl (by kernel_rfl) (by kernel_rfl) (by kernel_rfl) (by rfl) (fun _ _ _ h => h) (by rfl) ?_ ?_
                rotate_left
                · intro w
                  go_simp
                  first | done | with_reducible rfl
                try simp only [Act.put, List.setIfInBounds_toArray, List.set_cons_zero, List.set_cons_succ]
                refine wpAnyG_pure (i := 5) (oi := ⟨some 39, _, _, _, _, _⟩) (v := ?_) rfl (by kernel_rfl) (by kernel_rfl) (by kernel_rfl) (by rfl) (fun _ _ _ h => h) (by rfl) ?_ ?_
                rotate_left
                · intro w
                  go_simp
                  first | done | with_reducible rfl
                try simp only [Act.put, List.setIfInBounds_toArray, List.set_cons_zero, List.set_cons_succ]
                refine wpAnyG_pure (i := 6) (oi := ⟨some 40, _, _, _, _, _⟩) (v := ?_) rfl (by kernel_rfl) (by kernel_rfl) (by kernel_rfl) (by rfl) (fun _ _ _ h => h) (by rfl) ?_ ?_
                rotate_left
                · intro w
                  go_simp
                  first | done | with_reducible rfl
                try simp only [Act.put, List.setIfInBounds_toArray, List.set_cons_zero, List.set_cons_succ]
                refine wpAnyG_pure (i := 7) (oi := ⟨some 41, _, _, _, _, _⟩) (v := ?_) rfl (by kernel_rfl) (by kernel_rfl) (by kernel_rfl) (by rfl) (fun _ _ _ h => h) (by rfl) ?_ ?_
                rotate_left
                · intro w
                  go_simp
                  first | done | with_reducible rfl
                try simp only [Act.put, List.setIfInBounds_toArray, List.set_cons_zero, List.set_cons_succ]
                refine wpAnyG_keep (i := 10) (oi := ⟨none, _, _, _, _, _⟩) (by kernel_rfl) rfl (fun K hK => ?_)
                rw [if_pos (by rfl)]
                first | have h := (h : Own _ _ (Hp.blk g8 NT _ :: _)) | have h := (h.f1 : Own _ _ (Hp.blk g8 NT _ :: _)) | have h := (h.f2 : Own _ _ (Hp.blk g8 NT _ :: _)) | have h := (h.f3 : Own _ _ (Hp.blk g8 NT _ :: _)) | have h := (h.f4 : Own _ _ (Hp.blk g8 NT _ :: _)) | have h := (h.f5 : Own _ _ (Hp.blk g8 NT _ :: _)) | have h := (h.f6 : Own _ _ (Hp.blk g8 NT _ :: _)) | have h := (h.f7 : Own _ _ (Hp.blk g8 NT _ :: _)) | have h := (h.f8 : Own _ _ (Hp.blk g8 NT _ :: _)) | have h := (h.f9 : Own _ _ (Hp.blk g8 NT _ :: _)) | have h := (h.f10 : Own _ _ (Hp.blk g8 NT _ :: _)) | have h := (h.f11 : Own _ _ (Hp.blk g8 NT _ :: _)) | have h := (h.f12 : Own _ _ (Hp.blk g8 NT _ :: _)) | have h := (h.f13 : Own _ _ (Hp.blk g8 NT _ :: _)) | have h := (h.f14 : Own _ _ (Hp.blk g8 NT _ :: _)) | have h := (h.f15 : Own _ _ (Hp.blk g8 NT _ :: _))
                refine wp_store_whole (cs := [.bool false, .slice none 0 0, .slice none 0 0, .slice none 0 0]) (vs := [.bool sa.leaf, .slice q1.a1 sa.ks.length q1.c1, .slice q1.a2 sa.vs.length q1.c2, .slice q1.a3 sa.ls.length q1.c3]) h rfl (ND_all1 _ _ _ _ rfl rfl rfl) (by kernel_rfl) rfl rfl rfl (fun w9 h => ?_)
                refine hK.out _ _ ?_ (fun hS => ?_)
                · exact HC.out _ h.has
                clear hK K
                try simp only [Act.put]
                refine wpAnyG_pure (i := 11) (oi := ⟨some 9, _, _, _, _, _⟩) (v := ?_) rfl (by kernel_rfl) (by kernel_rfl) (by kernel_rfl) (by rfl) (fun _ _ _ h => h) (by rfl) ?_ ?_
                rotate_left
                · intro w
                  go_simp
                  first | done | with_reducible rfl
                try simp only [Act.put, List.setIfInBounds_toArray, List.set_cons_zero, List.set_cons_succ]
                refine wpAnyG_keep (i := 12) (oi := ⟨none, _, _, _, _, _⟩) (by kernel_rfl) rfl (fun K hK => ?_)
                rw [if_pos (by rfl)]
                first | have h := (h : Own _ _ (Hp.blk g9 NT _ :: _)) | have h := (h.f1 : Own _ _ (Hp.blk g9 NT _ :: _)) | have h := (h.f2 : Own _ _ (Hp.blk g9 NT _ :: _)) | have h := (h.f3 : Own _ _ (Hp.blk g9 NT _ :: _)) | have h := (h.f4 : Own _ _ (Hp.blk g9 NT _ :: _)) | have h := (h.f5 : Own _ _ (Hp.blk g9 NT _ :: _)) | have h := (h.f6 : Own _ _ (Hp.blk g9 NT _ :: _)) | have h := (h.f7 : Own _ _ (Hp.blk g9 NT _ :: _)) | have h := (h.f8 : Own _ _ (Hp.blk g9 NT _ :: _)) | have h := (h.f9 : Own _ _ (Hp.blk g9 NT _ :: _)) | have h := (h.f10 : Own _ _ (Hp.blk g9 NT _ :: _)) | have h := (h.f11 : Own _ _ (Hp.blk g9 NT _ :: _)) | have h := (h.f12 : Own _ _ (Hp.blk g9 NT _ :: _)) | have h := (h.f13 : Own _ _ (Hp.blk g9 NT _ :: _)) | have h := (h.f14 : Own _ _ (Hp.blk g9 NT _ :: _)) | have h := (h.f15 : Own _ _ (Hp.blk g9 NT _ :: _))
                refine wp_store_whole (cs := [.bool false, .slice none 0 0, .slice none 0 0, .slice none 0 0]) (vs := [.bool sb.leaf, .slice q2.a1 sb.ks.length q2.c1, .slice q2.a2 sb.vs.length q2.c2, .slice q2.a3 sb.ls.length q2.c3]) h rfl (ND_all1 _ _ _ _ rfl rfl rfl) (by kernel_rfl) rfl rfl rfl (fun w9 h => ?_)
                refine hK.out _ _ ?_ (fun hS => ?_)
                · exact HC.out _ h.has
                clear hK K
                try simp only [Act.put]
                refine wpAnyG_done (by kernel_rfl) ?_ _
                refine NoPanic.normal ?_
                go_wp2_with fail
                go_meet
                case rel => exact ⟨g8, g9, q1, q2, rfl, rfl, rfl, h.ac (by simp only [Hp.all] <;> ac_rfl)⟩
          · skip
            rw [if_pos (by rfl)]
            refine wp_alloc_own (cs := #[.bool false, .slice none 0 0, .slice none 0 0, .slice none 0 0]) (T := NT) h (by go_simp) (fun g8 w8 h => ?_)
            refine hK.out _ _ ?_ (fun hS => ?_)
            · exact HC.out _ h.has
            clear hK K
            try simp only [Act.put, List.setIfInBounds_toArray, List.set_cons_zero, List.set_cons_succ]
            refine wpAnyG_two (i := 2) (oi := ⟨some 37, _, _, _, _, _⟩) (j := 9) (oj := ⟨some 10, _, _, _, _, _⟩) (by kernel_rfl) rfl rfl (fun K hK => ?_) (fun K hK => ?_)
            · skip
              rw [if_pos (by rfl)]
              go_simp
              first | have h := (h : Own _ _ (Hp.ro S :: _)) | have h := (h.f1 : Own _ _ (Hp.ro S :: _)) | have h := (h.f2 : Own _ _ (Hp.ro S :: _)) | have h := (h.f3 : Own _ _ (Hp.ro S :: _)) | have h := (h.f4 : Own _ _ (Hp.ro S :: _)) | have h := (h.f5 : Own _ _ (Hp.ro S :: _)) | have h := (h.f6 : Own _ _ (Hp.ro S :: _)) | have h := (h.f7 : Own _ _ (Hp.ro S :: _)) | have h := (h.f8 : Own _ _ (Hp.ro S :: _)) | have h := (h.f9 : Own _ _ (Hp.ro S :: _)) | have h := (h.f10 : Own _ _ (Hp.ro S :: _)) | have h := (h.f11 : Own _ _ (Hp.ro S :: _)) | have h := (h.f12 : Own _ _ (Hp.ro S :: _)) | have h := (h.f13 : Own _ _ (Hp.ro S :: _)) | have h := (h.f14 : Own _ _ (Hp.ro S :: _)) | have h := (h.f15 : Own _ _ (Hp.ro S :: _))
              with_reducible refine (KC.out _ _ h).mono ?_
              rintro e w5 ⟨rfl, h⟩
              refine hK.out _ _ ?_ (fun hS => ?_)
              · exact HC.out _ h.has
              clear hK K
              try simp only [Act.put, List.setIfInBounds_toArray, List.set_cons_zero, List.set_cons_succ]
              refine wpAnyG_two (i := 3) (oi := ⟨some 38, _, _, _, _, _⟩) (j := 9) (oj := ⟨some 10, _, _, _, _, _⟩) (by kernel_rfl) rfl rfl (fun K hK => ?_) (fun K hK => ?_)
              · skip
                rw [if_pos (by rfl)]
                go_simp
                first | have h := (h : Own _ _ (Hp.ro S :: _)) | have h := (h.f1 : Own _ _ (Hp.ro S :: _)) | have h := (h.f2 : Own _ _ (Hp.ro S :: _)) | have h := (h.f3 : Own _ _ (Hp.ro S :: _)) | have h := (h.f4 : Own _ _ (Hp.ro S :: _)) | have h := (h.f5 : Own _ _ (Hp.ro S :: _)) | have h := (h.f6 : Own _ _ (Hp.ro S :: _)) | have h := (h.f7 : Own _ _ (Hp.ro S :: _)) | have h := (h.f8 : Own _ _ (Hp.ro S :: _)) | have h := (h.f9 : Own _ _ (Hp.ro S :: _)) | have h := (h.f10 : Own _ _ (Hp.ro S :: _)) | have h := (h.f11 : Own _ _ (Hp.ro S :: _)) | have h := (h.f12 : Own _ _ (Hp.ro S :: _)) | have h := (h.f13 : Own _ _ (Hp.ro S :: _)) | have h := (h.f14 : Own _ _ (Hp.ro S :: _)) | have h := (h.f15 : Own _ _ (Hp.ro S :: _))
                with_reducible refine (KP.out _ _ h).mono ?_
                rintro e w6 ⟨lv, hv, rfl, h⟩
                obtain ⟨q1, rfl, h⟩ := h.nodeShape
                obtain ⟨q2, rfl, h⟩ := h.f1.nodeShape
                refine hK.out _ _ ?_ (fun hS => ?_)
                · exact HC.out _ h.has
                clear hK K
                try simp only [Act.put, List.setIfInBounds_toArray, List.set_cons_zero, List.set_cons_succ]
                refine wpAnyG_pure (i := 4) (oi := ⟨some 34, _, _, _, _, _⟩) (v := ?_) rfl (by kernel_rfl) (by kernel_rfl) (by kernel_rfl) (by rfl) (fun _ _ _ h => h) (by rfl) ?_ ?_
                rotate_left
                · intro w
                  go_simp
                  first | done | with_reducible rfl
                try simp only [Act.put, List.setIfInBounds_toArray, List.set_cons_zero, List.set_cons_succ]
                refine wpAnyG_pure (i := 5) (oi := ⟨some 39, _, _, _, _, _⟩) (v := ?_) rfl (by kernel_rfl) (by kernel_rfl) (by kernel_rfl) (by rfl) (fun _ _ _ h => h) (by rfl) ?_ ?_
                rotate_left
                · intro w
                  go_simp
                  first | done | with_reducible rfl
                try simp only [Act.put, List.setIfInBounds_toArray, List.set_cons_zero, List.set_cons_succ]
                refine wpAnyG_pure (i := 6) (oi := ⟨some 40, _, _, _, _, _⟩) (v := ?_) rfl (by kernel_rfl) (by kernel_rfl) (by kernel_rfl) (by rfl) (fun _ _ _ h => h) (by rfl) ?_ ?_
                rotate_left
                · intro w
                  go_simp
                  first | done | with_reducible rfl
                try simp only [Act.put, List.setIfInBounds_toArray, List.set_cons_zero, List.set_cons_succ]
                refine wpAnyG_pure (i := 7) (oi := ⟨some 41, _, _, _, _, _⟩) (v := ?_) rfl (by kernel_rfl) (by kernel_rfl) (by kernel_rfl) (by rfl) (fun _ _ _ h => h) (by rfl) ?_ ?_
                rotate_left
                · intro w
                  go_simp
                  first | done | with_reducible rfl
                try simp only [Act.put, List.setIfInBounds_toArray, List.set_cons_zero, List.set_cons_succ]
                refine wpAnyG_keep (i := 9) (oi := ⟨some 10, _, _, _, _, _⟩) (by kernel_rfl) rfl (fun K hK => ?_)
                rw [if_pos (by rfl)]
                refine wp_alloc_own (cs := #[.bool false, .slice none 0 0, .slice none 0 0, .slice none 0 0]) (T := NT) h (by go_simp) (fun g9 w8 h => ?_)
                refine hK.out _ _ ?_ (fun hS => ?_)
                · exact HC.out _ h.has
                clear hK K
                try simp only [Act.put, List.setIfInBounds_toArray, List.set_cons_zero, List.set_cons_succ]
                refine wpAnyG_keep (i := 10) (oi := ⟨none, _, _, _, _, _⟩) (by kernel_rfl) rfl (fun K hK => ?_)
                rw [if_pos (by rfl)]
                first | have h := (h : Own _ _ (Hp.blk g8 NT _ :: _)) | have h := (h.f1 : Own _ _ (Hp.blk g8 NT _ :: _)) | have h := (h.f2 : Own _ _ (Hp.blk g8 NT _ :: _)) | have h := (h.f3 : Own _ _ (Hp.blk g8 NT _ :: _)) | have h := (h.f4 : Own _ _ (Hp.blk g8 NT _ :: _)) | have h := (h.f5 : Own _ _ (Hp.blk g8 NT _ :: _)) | have h := (h.f6 : Own _ _ (Hp.blk g8 NT _ :: _)) | have h := (h.f7 : Own _ _ (Hp.blk g8 NT _ :: _)) | have h := (h.f8 : Own _ _ (Hp.blk g8 NT _ :: _)) | have h := (h.f9 : Own _ _ (Hp.blk g8 NT _ :: _)) | have h := (h.f10 : Own _ _ (Hp.blk g8 NT _ :: _)) | have h := (h.f11 : Own _ _ (Hp.blk g8 NT _ :: _)) | have h := (h.f12 : Own _ _ (Hp.blk g8 NT _ :: _)) | have h := (h.f13 : Own _ _ (Hp.blk g8 NT _ :: _)) | have h := (h.f14 : Own _ _ (Hp.blk g8 NT _ :: _)) | have h := (h.f15 : Own _ _ (Hp.blk g8 NT _ :: _))
                refine wp_store_whole (cs := [.bool false, .slice none 0 0, .slice none 0 0, .slice none 0 0]) (vs := [.bool sa.leaf, .slice q1.a1 sa.ks.length q1.c1, .slice q1.a2 sa.vs.length q1.c2, .slice q1.a3 sa.ls.length q1.c3]) h rfl (ND_all1 _ _ _ _ rfl rfl rfl) (by kernel_rfl) rfl rfl rfl (fun w9 h => ?_)
                refine hK.out _ _ ?_ (fun hS => ?_)
                · exact HC.out _ h.has
                clear hK K
                try simp only [Act.put]
                refine wpAnyG_pure (i := 11) (oi := ⟨some 9, _, _, _, _, _⟩) (v := ?_) rfl (by kernel_rfl) (by kernel_rfl) (by kernel_rfl) (by rfl) (fun _ _ _ h => h) (by rfl) ?_ ?_
                rotate_left
                · intro w
                  go_simp
                  first | done | with_reducible rfl
                try simp only [Act.put, List.setIfInBounds_toArray, List.set_cons_zero, List.set_cons_succ]
                refine wpAnyG_keep (i := 12) (oi := ⟨none, _, _, _, _, _⟩) (by kernel_rfl) rfl (fun K hK => ?_)
                rw [if_pos (by rfl)]
                first | have h := (h : Own _ _ (Hp.blk g9 NT _ :: _)) | have h := (h.f1 : Own _ _ (Hp.blk g9 NT _ :: _)) | have h := (h.f2 : Own _ _ (Hp.blk g9 NT _ :: _)) | have h := (h.f3 : Own _ _ (Hp.blk g9 NT _ :: _)) | have h := (h.f4 : Own _ _ (Hp.blk g9 NT _ :: _)) | have h := (h.f5 : Own _ _ (Hp.blk g9 NT _ :: _)) | have h := (h.f6 : Own _ _ (Hp.blk g9 NT _ :: _)) | have h := (h.f7 : Own _ _ (Hp.blk g9 NT _ :: _)) | have h := (h.f8 : Own _ _ (Hp.blk g9 NT _ :: _)) | have h := (h.f9 : Own _ _ (Hp.blk g9 NT _ :: _)) | have h := (h.f10 : Own _ _ (Hp.blk g9 NT _ :: _)) | have h := (h.f11 : Own _ _ (Hp.blk g9 NT _ :: _)) | have h := (h.f12 : Own _ _ (Hp.blk g9 NT _ :: _)) | have h := (h.f13 : Own _ _ (Hp.blk g9 NT _ :: _)) | have h := (h.f14 : Own _ _ (Hp.blk g9 NT _ :: _)) | have h := (h.f15 : Own _ _ (Hp.blk g9 NT _ :: _))
                refine wp_store_whole (cs := [.bool false, .slice none 0 0, .slice none 0 0, .slice none 0 0]) (vs := [.bool sb.leaf, .slice q2.a1 sb.ks.length q2.c1, .slice q2.a2 sb.vs.length q2.c2, .slice q2.a3 sb.ls.length q2.c3]) h rfl (ND_all1 _ _ _ _ rfl rfl rfl) (by kernel_rfl) rfl rfl rfl (fun w9 h => ?_)
                refine hK.out _ _ ?_ (fun hS => ?_)
                · exact HC.out _ h.has
                clear hK K
                try simp only [Act.put]
                refine wpAnyG_done (by kernel_rfl) ?_ _
                refine NoPanic.normal ?_
                go_wp2_with fail
                go_meet
                case rel => exact ⟨g8, g9, q1, q2, rfl, rfl, rfl, h.ac (by simp only [Hp.all] <;> ac_rfl)⟩
              · skip
                rw [if_pos (by rfl)]
                refine wp_alloc_own (cs := #[.bool false, .slice none 0 0, .slice none 0 0, .slice none 0 0]) (T := NT) h (by go_simp) (fun g9 w8 h => ?_)
                refine hK.out _ _ ?_ (fun hS => ?_)
                · exact HC.out _ h.has
                clear hK K
                try simp only [Act.put, List.setIfInBounds_toArray, List.set_cons_zero, List.set_cons_succ]
                refine wpAnyG_keep (i := 3) (oi := ⟨some 38, _, _, _, _, _⟩) (by kernel_rfl) rfl (fun K hK => ?_)
                rw [if_pos (by rfl)]
                go_simp
                first | have h := (h : Own _ _ (Hp.ro S :: _)) | have h := (h.f1 : Own _ _ (Hp.ro S :: _)) | have h := (h.f2 : Own _ _ (Hp.ro S :: _)) | have h := (h.f3 : Own _ _ (Hp.ro S :: _)) | have h := (h.f4 : Own _ _ (Hp.ro S :: _)) | have h := (h.f5 : Own _ _ (Hp.ro S :: _)) | have h := (h.f6 : Own _ _ (Hp.ro S :: _)) | have h := (h.f7 : Own _ _ (Hp.ro S :: _)) | have h := (h.f8 : Own _ _ (Hp.ro S :: _)) | have h := (h.f9 : Own _ _ (Hp.ro S :: _)) | have h := (h.f10 : Own _ _ (Hp.ro S :: _)) | have h := (h.f11 : Own _ _ (Hp.ro S :: _)) | have h := (h.f12 : Own _ _ (Hp.ro S :: _)) | have h := (h.f13 : Own _ _ (Hp.ro S :: _)) | have h := (h.f14 : Own _ _ (Hp.ro S :: _)) | have h := (h.f15 : Own _ _ (Hp.ro S :: _))
                with_reducible refine (KP.out _ _ h).mono ?_
                rintro e w6 ⟨lv, hv, rfl, h⟩
                obtain ⟨q1, rfl, h⟩ := h.nodeShape
                obtain ⟨q2, rfl, h⟩ := h.f1.nodeShape
                refine hK.out _ _ ?_ (fun hS => ?_)
                · exact HC.out _ h.has
                clear hK K
                try simp only [Act.put, List.setIfInBounds_toArray, List.set_cons_zero, List.set_cons_succ]
                refine wpAnyG_pure (i := 4) (oi := ⟨some 34, _, _, _, _, _⟩) (v := ?_) rfl (by kernel_rfl) (by kernel_rfl) (by kernel_rfl) (by rfl) (fun _ _ _ h => h) (by rfl) ?_ ?_
                rotate_left
                · intro w
                  go_simp
                  first | done | with_reducible rfl
                try simp only [Act.put, List.setIfInBounds_toArray, List.set_cons_zero, List.set_cons_succ]
                refine wpAnyG_pure (i := 5) (oi := ⟨some 39, _, _, _, _, _⟩) (v := ?_) rfl (by kernel_rfl) (by kernel_rfl) (by kernel_rfl) (by rfl) (fun _ _ _ h => h) (by rfl) ?_ ?_
                rotate_left
                · intro w
                  go_simp
                  first | done | with_reducible rfl
                try simp only [Act.put, List.setIfInBounds_toArray, List.set_cons_zero, List.set_cons_succ]
                refine wpAnyG_pure (i := 6) (oi := ⟨some 40, _, _, _, _, _⟩) (v := ?_) rfl (by kernel_rfl) (by kernel_rfl) (by kernel_rfl) (by rfl) (fun _ _ _ h => h) (by rfl) ?_ ?_
                rotate_left
                · intro w
                  go_simp
                  first | done | with_reducible rfl
                try simp only [Act.put, List.setIfInBounds_toArray, List.set_cons_zero, List.set_cons_succ]
                refine wpAnyG_pure (i := 7) (oi := ⟨some 41, _, _, _, _, _⟩) (v := ?_) rfl (by kernel_rfl) (by kernel_rfl) (by kernel_rfl) (by rfl) (fun _ _ _ h => h) (by rfl) ?_ ?_
                rotate_left
                · intro w
                  go_simp
                  first | done | with_reducible rfl
                try simp only [Act.put, List.setIfInBounds_toArray, List.set_cons_zero, List.set_cons_succ]
                refine wpAnyG_keep (i := 10) (oi := ⟨none, _, _, _, _, _⟩) (by kernel_rfl) rfl (fun K hK => ?_)
                rw [if_pos (by rfl)]
                first | have h := (h : Own _ _ (Hp.blk g8 NT _ :: _)) | have h := (h.f1 : Own _ _ (Hp.blk g8 NT _ :: _)) | have h := (h.f2 : Own _ _ (Hp.blk g8 NT _ :: _)) | have h := (h.f3 : Own _ _ (Hp.blk g8 NT _ :: _)) | have h := (h.f4 : Own _ _ (Hp.blk g8 NT _ :: _)) | have h := (h.f5 : Own _ _ (Hp.blk g8 NT _ :: _)) | have h := (h.f6 : Own _ _ (Hp.blk g8 NT _ :: _)) | have h := (h.f7 : Own _ _ (Hp.blk g8 NT _ :: _)) | have h := (h.f8 : Own _ _ (Hp.blk g8 NT _ :: _)) | have h := (h.f9 : Own _ _ (Hp.blk g8 NT _ :: _)) | have h := (h.f10 : Own _ _ (Hp.blk g8 NT _ :: _)) | have h := (h.f11 : Own _ _ (Hp.blk g8 NT _ :: _)) | have h := (h.f12 : Own _ _ (Hp.blk g8 NT _ :: _)) | have h := (h.f13 : Own _ _ (Hp.blk g8 NT _ :: _)) | have h := (h.f14 : Own _ _ (Hp.blk g8 NT _ :: _)) | have h := (h.f15 : Own _ _ (Hp.blk g8 NT _ :: _))
                refine wp_store_whole (cs := [.bool false, .slice none 0 0, .slice none 0 0, .slice none 0 0]) (vs := [.bool sa.leaf, .slice q1.a1 sa.ks.length q1.c1, .slice q1.a2 sa.vs.length q1.c2, .slice q1.a3 sa.ls.length q1.c3]) h rfl (ND_all1 _ _ _ _ rfl rfl rfl) (by kernel_rfl) rfl rfl rfl (fun w9 h => ?_)
                refine hK.out _ _ ?_ (fun hS => ?_)
                · exact HC.out _ h.has
                clear hK K
                try simp only [Act.put]
                refine wpAnyG_pure (i := 11) (oi := ⟨some 9, _, _, _, _, _⟩) (v := ?_) rfl (by kernel_rfl) (by kernel_rfl) (by kernel_rfl) (by rfl) (fun _ _ _ h => h) (by rfl) ?_ ?_
                rotate_left
                · intro w
                  go_simp
                  first | done | with_reducible rfl
                try simp only [Act.put, List.setIfInBounds_toArray, List.set_cons_zero, List.set_cons_succ]
                refine wpAnyG_keep (i := 12) (oi := ⟨none, _, _, _, _, _⟩) (by kernel_rfl) rfl (fun K hK => ?_)
                rw [if_pos (by rfl)]
                first | have h := (h : Own _ _ (Hp.blk g9 NT _ :: _)) | have h := (h.f1 : Own _ _ (Hp.blk g9 NT _ :: _)) | have h := (h.f2 : Own _ _ (Hp.blk g9 NT _ :: _)) | have h := (h.f3 : Own _ _ (Hp.blk g9 NT _ :: _)) | have h := (h.f4 : Own _ _ (Hp.blk g9 NT _ :: _)) | have h := (h.f5 : Own _ _ (Hp.blk g9 NT _ :: _)) | have h := (h.f6 : Own _ _ (Hp.blk g9 NT _ :: _)) | have h := (h.f7 : Own _ _ (Hp.blk g9 NT _ :: _)) | have h := (h.f8 : Own _ _ (Hp.blk g9 NT _ :: _)) | have h := (h.f9 : Own _ _ (Hp.blk g9 NT _ :: _)) | have h := (h.f10 : Own _ _ (Hp.blk g9 NT _ :: _)) | have h := (h.f11 : Own _ _ (Hp.blk g9 NT _ :: _)) | have h := (h.f12 : Own _ _ (Hp.blk g9 NT _ :: _)) | have h := (h.f13 : Own _ _ (Hp.blk g9 NT _ :: _)) | have h := (h.f14 : Own _ _ (Hp.blk g9 NT _ :: _)) | have h := (h.f15 : Own _ _ (Hp.blk g9 NT _ :: _))
                refine wp_store_whole (cs := [.bool false, .slice none 0 0, .slice none 0 0, .slice none 0 0]) (vs := [.bool sb.leaf, .slice q2.a1 sb.ks.length q2.c1, .slice q2.a2 sb.vs.length q2.c2, .slice q2.a3 sb.ls.length q2.c3]) h rfl (ND_all1 _ _ _ _ rfl rfl rfl) (by kernel_rfl) rfl rfl rfl (fun w9 h => ?_)
                refine hK.out _ _ ?_ (fun hS => ?_)
                · exact HC.out _ h.has
                clear hK K
                try simp only [Act.put]
                refine wpAnyG_done (by kernel_rfl) ?_ _
                refine NoPanic.normal ?_
                go_wp2_with fail
                go_meet
                case rel => exact ⟨g8, g9, q1, q2, rfl, rfl, rfl, h.ac (by simp only [Hp.all] <;> ac_rfl)⟩
            · skip
              rw [if_pos (by rfl)]
              refine wp_alloc_own (cs := #[.bool false, .slice none 0 0, .slice none 0 0, .slice none 0 0]) (T := NT) h (by go_simp) (fun g9 w8 h => ?_)
              refine hK.out _ _ ?_ (fun hS => ?_)
              · exact HC.out _ h.has
              clear hK K
              try simp only [Act.put, List.setIfInBounds_toArray, List.set_cons_zero, List.set_cons_succ]
              refine wpAnyG_keep (i := 2) (oi := ⟨some 37, _, _, _, _, _⟩) (by kernel_rfl) rfl (fun K hK => ?_)
              rw [if_pos (by rfl)]
              go_simp
              first | have h := (h : Own _ _ (Hp.ro S :: _)) | have h := (h.f1 : Own _ _ (Hp.ro S :: _)) | have h := (h.f2 : Own _ _ (Hp.ro S :: _)) | have h := (h.f3 : Own _ _ (Hp.ro S :: _)) | have h := (h.f4 : Own _ _ (Hp.ro S :: _)) | have h := (h.f5 : Own _ _ (Hp.ro S :: _)) | have h := (h.f6 : Own _ _ (Hp.ro S :: _)) | have h := (h.f7 : Own _ _ (Hp.ro S :: _)) | have h := (h.f8 : Own _ _ (Hp.ro S :: _)) | have h := (h.f9 : Own _ _ (Hp.ro S :: _)) | have h := (h.f10 : Own _ _ (Hp.ro S :: _)) | have h := (h.f11 : Own _ _ (Hp.ro S :: _)) | have h := (h.f12 : Own _ _ (Hp.ro S :: _)) | have h := (h.f13 : Own _ _ (Hp.ro S :: _)) | have h := (h.f14 : Own _ _ (Hp.ro S :: _)) | have h := (h.f15 : Own _ _ (Hp.ro S :: _))
              with_reducible refine (KC.out _ _ h).mono ?_
              rintro e w5 ⟨rfl, h⟩
              refine hK.out _ _ ?_ (fun hS => ?_)
              · exact HC.out _ h.has
              clear hK K
              try simp only [Act.put, List.setIfInBounds_toArray, List.set_cons_zero, List.set_cons_succ]
              refine wpAnyG_keep (i := 3) (oi := ⟨some 38, _, _, _, _, _⟩) (by kernel_rfl) rfl (fun K hK => ?_)
              rw [if_pos (by rfl)]
              go_simp
              first | have h := (h : Own _ _ (Hp.ro S :: _)) | have h := (h.f1 : Own _ _ (Hp.ro S :: _)) | have h := (h.f2 : Own _ _ (Hp.ro S :: _)) | have h := (h.f3 : Own _ _ (Hp.ro S :: _)) | have h := (h.f4 : Own _ _ (Hp.ro S :: _)) | have h := (h.f5 : Own _ _ (Hp.ro S :: _)) | have h := (h.f6 : Own _ _ (Hp.ro S :: _)) | have h := (h.f7 : Own _ _ (Hp.ro S :: _)) | have h := (h.f8 : Own _ _ (Hp.ro S :: _)) | have h := (h.f9 : Own _ _ (Hp.ro S :: _)) | have h := (h.f10 : Own _ _ (Hp.ro S :: _)) | have h := (h.f11 : Own _ _ (Hp.ro S :: _)) | have h := (h.f12 : Own _ _ (Hp.ro S :: _)) | have h := (h.f13 : Own _ _ (Hp.ro S :: _)) | have h := (h.f14 : Own _ _ (Hp.ro S :: _)) | have h := (h.f15 : Own _ _ (Hp.ro S :: _))
              with_reducible refine (KP.out _ _ h).mono ?_
              rintro e w6 ⟨lv, hv, rfl, h⟩
              obtain ⟨q1, rfl, h⟩ := h.nodeShape
              obtain ⟨q2, rfl, h⟩ := h.f1.nodeShape
              refine hK.out _ _ ?_ (fun hS => ?_)
              · exact HC.out _ h.has
              clear hK K
              try simp only [Act.put, List.setIfInBounds_toArray, List.set_cons_zero, List.set_cons_succ]
              refine wpAnyG_pure (i := 4) (oi := ⟨some 34, _, _, _, _, _⟩) (v := ?_) rfl (by kernel_rfl) (by kernel_rfl) (by kernel_rfl) (by rfl) (fun _ _ _ h => h) (by rfl) ?_ ?_
              rotate_left
              · intro w
                go_simp
                first | done | with_reducible rfl
              try simp only [Act.put, List.setIfInBounds_toArray, List.set_cons_zero, List.set_cons_succ]
              refine wpAnyG_pure (i := 5) (oi := ⟨some 39, _, _, _, _, _⟩) (v := ?_) rfl (by kernel_rfl) (by kernel_rfl) (by kernel_rfl) (by rfl) (fun _ _ _ h => h) (by rfl) ?_ ?_
              rotate_left
              · intro w
                go_simp
                first | done | with_reducible rfl
              try simp only [Act.put, List.setIfInBounds_toArray, List.set_cons_zero, List.set_cons_succ]
              refine wpAnyG_pure (i := 6) (oi := ⟨some 40, _, _, _, _, _⟩) (v := ?_) rfl (by kernel_rfl) (by kernel_rfl) (by kernel_rfl) (by rfl) (fun _ _ _ h => h) (by rfl) ?_ ?_
              rotate_left
              · intro w
                go_simp
                first | done | with_reducible rfl
              try simp only [Act.put, List.setIfInBounds_toArray, List.set_cons_zero, List.set_cons_succ]
              refine wpAnyG_pure (i := 7) (oi := ⟨some 41, _, _, _, _, _⟩) (v := ?_) rfl (by kernel_rfl) (by kernel_rfl) (by kernel_rfl) (by rfl) (fun _ _ _ h => h) (by rfl) ?_ ?_
              rotate_left
              · intro w
                go_simp
                first | done | with_reducible rfl
              try simp only [Act.put, List.setIfInBounds_toArray, List.set_cons_zero, List.set_cons_succ]
              refine wpAnyG_keep (i := 10) (oi := ⟨none, _, _, _, _, _⟩) (by kernel_rfl) rfl (fun K hK => ?_)
              rw [if_pos (by rfl)]
              first | have h := (h : Own _ _ (Hp.blk g8 NT _ :: _)) | have h := (h.f1 : Own _ _ (Hp.blk g8 NT _ :: _)) | have h := (h.f2 : Own _ _ (Hp.blk g8 NT _ :: _)) | have h := (h.f3 : Own _ _ (Hp.blk g8 NT _ :: _)) | have h := (h.f4 : Own _ _ (Hp.blk g8 NT _ :: _)) | have h := (h.f5 : Own _ _ (Hp.blk g8 NT _ :: _)) | have h := (h.f6 : Own _ _ (Hp.blk g8 NT _ :: _)) | have h := (h.f7 : Own _ _ (Hp.blk g8 NT _ :: _)) | have h := (h.f8 : Own _ _ (Hp.blk g8 NT _ :: _)) | have h := (h.f9 : Own _ _ (Hp.blk g8 NT _ :: _)) | have h := (h.f10 : Own _ _ (Hp.blk g8 NT _ :: _)) | have h := (h.f11 : Own _ _ (Hp.blk g8 NT _ :: _)) | have h := (h.f12 : Own _ _ (Hp.blk g8 NT _ :: _)) | have h := (h.f13 : Own _ _ (Hp.blk g8 NT _ :: _)) | have h := (h.f14 : Own _ _ (Hp.blk g8 NT _ :: _)) | have h := (h.f15 : Own _ _ (Hp.blk g8 NT _ :: _))
              refine wp_store_whole (cs := [.bool false, .slice none 0 0, .slice none 0 0, .slice none 0 0]) (vs := [.bool sa.leaf, .slice q1.a1 sa.ks.length q1.c1, .slice q1.a2 sa.vs.length q1.c2, .slice q1.a3 sa.ls.length q1.c3]) h rfl (ND_all1 _ _ _ _ rfl rfl rfl) (by kernel_rfl) rfl rfl rfl (fun w9 h => ?_)
              refine hK.out _ _ ?_ (fun hS => ?_)
              · exact HC.out _ h.has
              clear hK K
              try simp only [Act.put]
              refine wpAnyG_pure (i := 11) (oi := ⟨some 9, _, _, _, _, _⟩) (v := ?_) rfl (by kernel_rfl) (by kernel_rfl) (by kernel_rfl) (by rfl) (fun _ _ _ h => h) (by rfl) ?_ ?_
              rotate_left
              · intro w
                go_simp
                first | done | with_reducible rfl
              try simp only [Act.put, List.setIfInBounds_toArray, List.set_cons_zero, List.set_cons_succ]
              refine wpAnyG_keep (i := 12) (oi := ⟨none, _, _, _, _, _⟩) (by kernel_rfl) rfl (fun K hK => ?_)
              rw [if_pos (by rfl)]
              first | have h := (h : Own _ _ (Hp.blk g9 NT _ :: _)) | have h := (h.f1 : Own _ _ (Hp.blk g9 NT _ :: _)) | have h := (h.f2 : Own _ _ (Hp.blk g9 NT _ :: _)) | have h := (h.f3 : Own _ _ (Hp.blk g9 NT _ :: _)) | have h := (h.f4 : Own _ _ (Hp.blk g9 NT _ :: _)) | have h := (h.f5 : Own _ _ (Hp.blk g9 NT _ :: _)) | have h := (h.f6 : Own _ _ (Hp.blk g9 NT _ :: _)) | have h := (h.f7 : Own _ _ (Hp.blk g9 NT _ :: _)) | have h := (h.f8 : Own _ _ (Hp.blk g9 NT _ :: _)) | have h := (h.f9 : Own _ _ (Hp.blk g9 NT _ :: _)) | have h := (h.f10 : Own _ _ (Hp.blk g9 NT _ :: _)) | have h := (h.f11 : Own _ _ (Hp.blk g9 NT _ :: _)) | have h := (h.f12 : Own _ _ (Hp.blk g9 NT _ :: _)) | have h := (h.f13 : Own _ _ (Hp.blk g9 NT _ :: _)) | have h := (h.f14 : Own _ _ (Hp.blk g9 NT _ :: _)) | have h := (h.f15 : Own _ _ (Hp.blk g9 NT _ :: _))
              refine wp_store_whole (cs := [.bool false, .slice none 0 0, .slice none 0 0, .slice none 0 0]) (vs := [.bool sb.leaf, .slice q2.a1 sb.ks.length q2.c1, .slice q2.a2 sb.vs.length q2.c2, .slice q2.a3 sb.ls.length q2.c3]) h rfl (ND_all1 _ _ _ _ rfl rfl rfl) (by kernel_rfl) rfl rfl rfl (fun w9 h => ?_)
              refine hK.out _ _ ?_ (fun hS => ?_)
              · exact HC.out _ h.has
              clear hK K
              try simp only [Act.put]
              refine wpAnyG_done (by kernel_rfl) ?_ _
              refine NoPanic.normal ?_
              go_wp2_with fail
              go_meet
              case rel => exact ⟨g8, g9, q1, q2, rfl, rfl, rfl, h.ac (by simp only [Hp.all] <;> ac_rfl)⟩
          · skip
            rw [if_pos (by rfl)]
            refine wp_alloc_own (cs := #[.bool false, .slice none 0 0, .slice none 0 0, .slice none 0 0]) (T := NT) h (by go_simp) (fun g9 w8 h => ?_)
            refine hK.out _ _ ?_ (fun hS => ?_)
            · exact HC.out _ h.has
            clear hK K
            try simp only [Act.put, List.setIfInBounds_toArray, List.set_cons_zero, List.set_cons_succ]
            refine wpAnyG_two (i := 2) (oi := ⟨some 37, _, _, _, _, _⟩) (j := 8) (oj := ⟨some 8, _, _, _, _, _⟩) (by kernel_rfl) rfl rfl (fun K hK => ?_) (fun K hK => ?_)
            · skip
              rw [if_pos (by rfl)]
              go_simp
              first | have h := (h : Own _ _ (Hp.ro S :: _)) | have h := (h.f1 : Own _ _ (Hp.ro S :: _)) | have h := (h.f2 : Own _ _ (Hp.ro S :: _)) | have h := (h.f3 : Own _ _ (Hp.ro S :: _)) | have h := (h.f4 : Own _ _ (Hp.ro S :: _)) | have h := (h.f5 : Own _ _ (Hp.ro S :: _)) | have h := (h.f6 : Own _ _ (Hp.ro S :: _)) | have h := (h.f7 : Own _ _ (Hp.ro S :: _)) | have h := (h.f8 : Own _ _ (Hp.ro S :: _)) | have h := (h.f9 : Own _ _ (Hp.ro S :: _)) | have h := (h.f10 : Own _ _ (Hp.ro S :: _)) | have h := (h.f11 : Own _ _ (Hp.ro S :: _)) | have h := (h.f12 : Own _ _ (Hp.ro S :: _)) | have h := (h.f13 : Own _ _ (Hp.ro S :: _)) | have h := (h.f14 : Own _ _ (Hp.ro S :: _)) | have h := (h.f15 : Own _ _ (Hp.ro S :: _))
              with_reducible refine (KC.out _ _ h).mono ?_
              rintro e w5 ⟨rfl, h⟩
              refine hK.out _ _ ?_ (fun hS => ?_)
              · exact HC.out _ h.has
              clear hK K
              try simp only [Act.put, List.setIfInBounds_toArray, List.set_cons_zero, List.set_cons_succ]
              refine wpAnyG_two (i := 3) (oi := ⟨some 38, _, _, _, _, _⟩) (j := 8) (oj := ⟨some 8, _, _, _, _, _⟩) (by kernel_rfl) rfl rfl (fun K hK => ?_) (fun K hK => ?_)
              · skip
                rw [if_pos (by rfl)]
                go_simp
                first | have h := (h : Own _ _ (Hp.ro S :: _)) | have h := (h.f1 : Own _ _ (Hp.ro S :: _)) | have h := (h.f2 : Own _ _ (Hp.ro S :: _)) | have h := (h.f3 : Own _ _ (Hp.ro S :: _)) | have h := (h.f4 : Own _ _ (Hp.ro S :: _)) | have h := (h.f5 : Own _ _ (Hp.ro S :: _)) | have h := (h.f6 : Own _ _ (Hp.ro S :: _)) | have h := (h.f7 : Own _ _ (Hp.ro S :: _)) | have h := (h.f8 : Own _ _ (Hp.ro S :: _)) | have h := (h.f9 : Own _ _ (Hp.ro S :: _)) | have h := (h.f10 : Own _ _ (Hp.ro S :: _)) | have h := (h.f11 : Own _ _ (Hp.ro S :: _)) | have h := (h.f12 : Own _ _ (Hp.ro S :: _)) | have h := (h.f13 : Own _ _ (Hp.ro S :: _)) | have h := (h.f14 : Own _ _ (Hp.ro S :: _)) | have h := (h.f15 : Own _ _ (Hp.ro S :: _))
                with_reducible refine (KP.out _ _ h).mono ?_
                rintro e w6 ⟨lv, hv, rfl, h⟩
                obtain ⟨q1, rfl, h⟩ := h.nodeShape
                obtain ⟨q2, rfl, h⟩ := h.f1.nodeShape
                refine hK.out _ _ ?_ (fun hS => ?_)
                · exact HC.out _ h.has
                clear hK K
                try simp only [Act.put, List.setIfInBounds_toArray, List.set_cons_zero, List.set_cons_succ]
                refine wpAnyG_pure (i := 4) (oi := ⟨some 34, _, _, _, _, _⟩) (v := ?_) rfl (by kernel_rfl) (by kernel_rfl) (by kernel_rfl) (by rfl) (fun _ _ _ h => h) (by rfl) ?_ ?_
                rotate_left
                · intro w
                  go_simp
                  first | done | with_reducible rfl
                try simp only [Act.put, List.setIfInBounds_toArray, List.set_cons_zero, List.set_cons_succ]
                refine wpAnyG_pure (i := 5) (oi := ⟨some 39, _, _, _, _, _⟩) (v := ?_) rfl (by kernel_rfl) (by kernel_rfl) (by kernel_rfl) (by rfl) (fun _ _ _ h => h) (by rfl) ?_ ?_
                rotate_left
                · intro w
                  go_simp
                  first | done | with_reducible rfl
                try simp only [Act.put, List.setIfInBounds_toArray, List.set_cons_zero, List.set_cons_succ]
                refine wpAnyG_pure (i := 6) (oi := ⟨some 40, _, _, _, _, _⟩) (v := ?_) rfl (by kernel_rfl) (by kernel_rfl) (by kernel_rfl) (by rfl) (fun _ _ _ h => h) (by rfl) ?_ ?_
                rotate_left
                · intro w
                  go_simp
                  first | done | with_reducible rfl
                try simp only [Act.put, List.setIfInBounds_toArray, List.set_cons_zero, List.set_cons_succ]
                refine wpAnyG_pure (i := 7) (oi := ⟨some 41, _, _, _, _, _⟩) (v := ?_) rfl (by kernel_rfl) (by kernel_rfl) (by kernel_rfl) (by rfl) (fun _ _ _ h => h) (by rfl) ?_ ?_
                rotate_left
                · intro w
                  go_simp
                  first | done | with_reducible rfl
                try simp only [Act.put, List.setIfInBounds_toArray, List.set_cons_zero, List.set_cons_succ]
                refine wpAnyG_keep (i := 8) (oi := ⟨some 8, _, _, _, _, _⟩) (by kernel_rfl) rfl (fun K hK => ?_)
                rw [if_pos (by rfl)]
                refine wp_alloc_own (cs := #[.bool false, .slice none 0 0, .slice none 0 0, .slice none 0 0]) (T := NT) h (by go_simp) (fun g8 w8 h => ?_)
                refine hK.out _ _ ?_ (fun hS => ?_)
                · exact HC.out _ h.has
                clear hK K
                try simp only [Act.put, List.setIfInBounds_toArray, List.set_cons_zero, List.set_cons_succ]
                refine wpAnyG_keep (i := 10) (oi := ⟨none, _, _, _, _, _⟩) (by kernel_rfl) rfl (fun K hK => ?_)
                rw [if_pos (by rfl)]
                first | have h := (h : Own _ _ (Hp.blk g8 NT _ :: _)) | have h := (h.f1 : Own _ _ (Hp.blk g8 NT _ :: _)) | have h := (h.f2 : Own _ _ (Hp.blk g8 NT _ :: _)) | have h := (h.f3 : Own _ _ (Hp.blk g8 NT _ :: _)) | have h := (h.f4 : Own _ _ (Hp.blk g8 NT _ :: _)) | have h := (h.f5 : Own _ _ (Hp.blk g8 NT _ :: _)) | have h := (h.f6 : Own _ _ (Hp.blk g8 NT _ :: _)) | have h := (h.f7 : Own _ _ (Hp.blk g8 NT _ :: _)) | have h := (h.f8 : Own _ _ (Hp.blk g8 NT _ :: _)) | have h := (h.f9 : Own _ _ (Hp.blk g8 NT _ :: _)) | have h := (h.f10 : Own _ _ (Hp.blk g8 NT _ :: _)) | have h := (h.f11 : Own _ _ (Hp.blk g8 NT _ :: _)) | have h := (h.f12 : Own _ _ (Hp.blk g8 NT _ :: _)) | have h := (h.f13 : Own _ _ (Hp.blk g8 NT _ :: _)) | have h := (h.f14 : Own _ _ (Hp.blk g8 NT _ :: _)) | have h := (h.f15 : Own _ _ (Hp.blk g8 NT _ :: _))
                refine wp_store_whole (cs := [.bool false, .slice none 0 0, .slice none 0 0, .slice none 0 0]) (vs := [.bool sa.leaf, .slice q1.a1 sa.ks.length q1.c1, .slice q1.a2 sa.vs.length q1.c2, .slice q1.a3 sa.ls.length q1.c3]) h rfl (ND_all1 _ _ _ _ rfl rfl rfl) (by kernel_rfl) rfl rfl rfl (fun w9 h => ?_)
                refine hK.out _ _ ?_ (fun hS => ?_)
                · exact HC.out _ h.has
                clear hK K
                try simp only [Act.put]
                refine wpAnyG_pure (i := 11) (oi := ⟨some 9, _, _, _, _, _⟩) (v := ?_) rfl (by kernel_rfl) (by kernel_rfl) (by kernel_rfl) (by rfl) (fun _ _ _ h => h) (by rfl) ?_ ?_
                rotate_left
                · intro w
                  go_simp
                  first | done | with_reducible rfl
                try simp only [Act.put, List.setIfInBounds_toArray, List.set_cons_zero, List.set_cons_succ]
                refine wpAnyG_keep (i := 12) (oi := ⟨none, _, _, _, _, _⟩) (by kernel_rfl) rfl (fun K hK => ?_)
                rw [if_pos (by rfl)]
                first | have h := (h : Own _ _ (Hp.blk g9 NT _ :: _)) | have h := (h.f1 : Own _ _ (Hp.blk g9 NT _ :: _)) | have h := (h.f2 : Own _ _ (Hp.blk g9 NT _ :: _)) | have h := (h.f3 : Own _ _ (Hp.blk g9 NT _ :: _)) | have h := (h.f4 : Own _ _ (Hp.blk g9 NT _ :: _)) | have h := (h.f5 : Own _ _ (Hp.blk g9 NT _ :: _)) | have h := (h.f6 : Own _ _ (Hp.blk g9 NT _ :: _)) | have h := (h.f7 : Own _ _ (Hp.blk g9 NT _ :: _)) | have h := (h.f8 : Own _ _ (Hp.blk g9 NT _ :: _)) | have h := (h.f9 : Own _ _ (Hp.blk g9 NT _ :: _)) | have h := (h.f10 : Own _ _ (Hp.blk g9 NT _ :: _)) | have h := (h.f11 : Own _ _ (Hp.blk g9 NT _ :: _)) | have h := (h.f12 : Own _ _ (Hp.blk g9 NT _ :: _)) | have h := (h.f13 : Own _ _ (Hp.blk g9 NT _ :: _)) | have h := (h.f14 : Own _ _ (Hp.blk g9 NT _ :: _)) | have h := (h.f15 : Own _ _ (Hp.blk g9 NT _ :: _))
                refine wp_store_whole (cs := [.bool false, .slice none 0 0, .slice none 0 0, .slice none 0 0]) (vs := [.bool sb.leaf, .slice q2.a1 sb.ks.length q2.c1, .slice q2.a2 sb.vs.length q2.c2, .slice q2.a3 sb.ls.length q2.c3]) h rfl (ND_all1 _ _ _ _ rfl rfl rfl) (by kernel_rfl) rfl rfl rfl (fun w9 h => ?_)
                refine hK.out _ _ ?_ (fun hS => ?_)
                · exact HC.out _ h.has
                clear hK K
                try simp only [Act.put]
                refine wpAnyG_done (by kernel_rfl) ?_ _
                refine NoPanic.normal ?_
                go_wp2_with fail
                go_meet
                case rel => exact ⟨g8, g9, q1, q2, rfl, rfl, rfl, h.ac (by simp only [Hp.all] <;> ac_rfl)⟩
              · skip
                rw [if_pos (by rfl)]
                refine wp_alloc_own (cs := #[.bool false, .slice none 0 0, .slice none 0 0, .slice none 0 0]) (T := NT) h (by go_simp) (fun g8 w8 h => ?_)
                refine hK.out _ _ ?_ (fun hS => ?_)
                · exact HC.out _ h.has
                clear hK K
                try simp only [Act.put, List.setIfInBounds_toArray, List.set_cons_zero, List.set_cons_succ]
                refine wpAnyG_keep (i := 3) (oi := ⟨some 38, _, _, _, _, _⟩) (by kernel_rfl) rfl (fun K hK => ?_)
                rw [if_pos (by rfl)]
                go_simp
                first | have h := (h : Own _ _ (Hp.ro S :: _)) | have h := (h.f1 : Own _ _ (Hp.ro S :: _)) | have h := (h.f2 : Own _ _ (Hp.ro S :: _)) | have h := (h.f3 : Own _ _ (Hp.ro S :: _)) | have h := (h.f4 : Own _ _ (Hp.ro S :: _)) | have h := (h.f5 : Own _ _ (Hp.ro S :: _)) | have h := (h.f6 : Own _ _ (Hp.ro S :: _)) | have h := (h.f7 : Own _ _ (Hp.ro S :: _)) | have h := (h.f8 : Own _ _ (Hp.ro S :: _)) | have h := (h.f9 : Own _ _ (Hp.ro S :: _)) | have h := (h.f10 : Own _ _ (Hp.ro S :: _)) | have h := (h.f11 : Own _ _ (Hp.ro S :: _)) | have h := (h.f12 : Own _ _ (Hp.ro S :: _)) | have h := (h.f13 : Own _ _ (Hp.ro S :: _)) | have h := (h.f14 : Own _ _ (Hp.ro S :: _)) | have h := (h.f15 : Own _ _ (Hp.ro S :: _))
                with_reducible refine (KP.out _ _ h).mono ?_
                rintro e w6 ⟨lv, hv, rfl, h⟩
                obtain ⟨q1, rfl, h⟩ := h.nodeShape
                obtain ⟨q2, rfl, h⟩ := h.f1.nodeShape
                refine hK.out _ _ ?_ (fun hS => ?_)
                · exact HC.out _ h.has
                clear hK K
                try simp only [Act.put, List.setIfInBounds_toArray, List.set_cons_zero, List.set_cons_succ]
                refine wpAnyG_pure (i := 4) (oi := ⟨some 34, _, _, _, _, _⟩) (v := ?_) rfl (by kernel_rfl) (by kernel_rfl) (by kernel_rfl) (by rfl) (fun _ _ _ h => h) (by rfl) ?_ ?_
                rotate_left
                · intro w
                  go_simp
                  first | done | with_reducible rfl
                try simp only [Act.put, List.setIfInBounds_toArray, List.set_cons_zero, List.set_cons_succ]
                refine wpAnyG_pure (i := 5) (oi := ⟨some 39, _, _, _, _, _⟩) (v := ?_) rfl (by kernel_rfl) (by kernel_rfl) (by kernel_rfl) (by rfl) (fun _ _ _ h => h) (by rfl) ?_ ?_
                rotate_left
                · intro w
                  go_simp
                  first | done | with_reducible rfl
                try simp only [Act.put, List.setIfInBounds_toArray, List.set_cons_zero, List.set_cons_succ]
                refine wpAnyG_pure (i := 6) (oi := ⟨some 40, _, _, _, _, _⟩) (v := ?_) rfl (by kernel_rfl) (by kernel_rfl) (by kernel_rfl) (by rfl) (fun _ _ _ h => h) (by rfl) ?_ ?_
                rotate_left
                · intro w
                  go_simp
                  first | done | with_reducible rfl
                try simp only [Act.put, List.setIfInBounds_toArray, List.set_cons_zero, List.set_cons_succ]
                refine wpAnyG_pure (i := 7) (oi := ⟨some 41, _, _, _, _, _⟩) (v := ?_) rfl (by kernel_rfl) (by kernel_rfl) (by kernel_rfl) (by rfl) (fun _ _ _ h => h) (by rfl) ?_ ?_
                rotate_left
                · intro w
                  go_simp
                  first | done | with_reducible rfl
                try simp only [Act.put, List.setIfInBounds_toArray, List.set_cons_zero, List.set_cons_succ]
                refine wpAnyG_keep (i := 10) (oi := ⟨none, _, _, _, _, _⟩) (by kernel_rfl) rfl (fun K hK => ?_)
                rw [if_pos (by rfl)]
                first | have h := (h : Own _ _ (Hp.blk g8 NT _ :: _)) | have h := (h.f1 : Own _ _ (Hp.blk g8 NT _ :: _)) | have h := (h.f2 : Own _ _ (Hp.blk g8 NT _ :: _)) | have h := (h.f3 : Own _ _ (Hp.blk g8 NT _ :: _)) | have h := (h.f4 : Own _ _ (Hp.blk g8 NT _ :: _)) | have h := (h.f5 : Own _ _ (Hp.blk g8 NT _ :: _)) | have h := (h.f6 : Own _ _ (Hp.blk g8 NT _ :: _)) | have h := (h.f7 : Own _ _ (Hp.blk g8 NT _ :: _)) | have h := (h.f8 : Own _ _ (Hp.blk g8 NT _ :: _)) | have h := (h.f9 : Own _ _ (Hp.blk g8 NT _ :: _)) | have h := (h.f10 : Own _ _ (Hp.blk g8 NT _ :: _)) | have h := (h.f11 : Own _ _ (Hp.blk g8 NT _ :: _)) | have h := (h.f12 : Own _ _ (Hp.blk g8 NT _ :: _)) | have h := (h.f13 : Own _ _ (Hp.blk g8 NT _ :: _)) | have h := (h.f14 : Own _ _ (Hp.blk g8 NT _ :: _)) | have h := (h.f15 : Own _ _ (Hp.blk g8 NT _ :: _))
                refine wp_store_whole (cs := [.bool false, .slice none 0 0, .slice none 0 0, .slice none 0 0]) (vs := [.bool sa.leaf, .slice q1.a1 sa.ks.length q1.c1, .slice q1.a2 sa.vs.length q1.c2, .slice q1.a3 sa.ls.length q1.c3]) h rfl (ND_all1 _ _ _ _ rfl rfl rfl) (by kernel_rfl) rfl rfl rfl (fun w9 h => ?_)
                refine hK.out _ _ ?_ (fun hS => ?_)
                · exact HC.out _ h.has
                clear hK K
                try simp only [Act.put]
                refine wpAnyG_pure (i := 11) (oi := ⟨some 9, _, _, _, _, _⟩) (v := ?_) rfl (by kernel_rfl) (by kernel_rfl) (by kernel_rfl) (by rfl) (fun _ _ _ h => h) (by rfl) ?_ ?_
                rotate_left
                · intro w
                  go_simp
                  first | done | with_reducible rfl
                try simp only [Act.put, List.setIfInBounds_toArray, List.set_cons_zero, List.set_cons_succ]
                refine wpAnyG_keep (i := 12) (oi := ⟨none, _, _, _, _, _⟩) (by kernel_rfl) rfl (fun K hK => ?_)
                rw [if_pos (by rfl)]
                first | have h := (h : Own _ _ (Hp.blk g9 NT _ :: _)) | have h := (h.f1 : Own _ _ (Hp.blk g9 NT _ :: _)) | have h := (h.f2 : Own _ _ (Hp.blk g9 NT _ :: _)) | have h := (h.f3 : Own _ _ (Hp.blk g9 NT _ :: _)) | have h := (h.f4 : Own _ _ (Hp.blk g9 NT _ :: _)) | have h := (h.f5 : Own _ _ (Hp.blk g9 NT _ :: _)) | have h := (h.f6 : Own _ _ (Hp.blk g9 NT _ :: _)) | have h := (h.f7 : Own _ _ (Hp.blk g9 NT _ :: _)) | have h := (h.f8 : Own _ _ (Hp.blk g9 NT _ :: _)) | have h := (h.f9 : Own _ _ (Hp.blk g9 NT _ :: _)) | have h := (h.f10 : Own _ _ (Hp.blk g9 NT _ :: _)) | have h := (h.f11 : Own _ _ (Hp.blk g9 NT _ :: _)) | have h := (h.f12 : Own _ _ (Hp.blk g9 NT _ :: _)) | have h := (h.f13 : Own _ _ (Hp.blk g9 NT _ :: _)) | have h := (h.f14 : Own _ _ (Hp.blk g9 NT _ :: _)) | have h := (h.f15 : Own _ _ (Hp.blk g9 NT _ :: _))
                refine wp_store_whole (cs := [.bool false, .slice none 0 0, .slice none 0 0, .slice none 0 0]) (vs := [.bool sb.leaf, .slice q2.a1 sb.ks.length q2.c1, .slice q2.a2 sb.vs.length q2.c2, .slice q2.a3 sb.ls.length q2.c3]) h rfl (ND_all1 _ _ _ _ rfl rfl rfl) (by kernel_rfl) rfl rfl rfl (fun w9 h => ?_)
                refine hK.out _ _ ?_ (fun hS => ?_)
                · exact HC.out _ h.has
                clear hK K
                try simp only [Act.put]
                refine wpAnyG_done (by kernel_rfl) ?_ _
                refine NoPanic.normal ?_
                go_wp2_with fail
                go_meet
                case rel => exact ⟨g8, g9, q1, q2, rfl, rfl, rfl, h.ac (by simp only [Hp.all] <;> ac_rfl)⟩
            · skip
              rw [if_pos (by rfl)]
              refine wp_alloc_own (cs := #[.bool false, .slice none 0 0, .slice none 0 0, .slice none 0 0]) (T := NT) h (by go_simp) (fun g8 w8 h => ?_)
              refine hK.out _ _ ?_ (fun hS => ?_)
              · exact HC.out _ h.has
              clear hK K
              try simp only [Act.put, List.setIfInBounds_toArray, List.set_cons_zero, List.set_cons_succ]
              refine wpAnyG_keep (i := 2) (oi := ⟨some 37, _, _, _, _, _⟩) (by kernel_rfl) rfl (fun K hK => ?_)
              rw [if_pos (by rfl)]
              go_simp
              first | have h := (h : Own _ _ (Hp.ro S :: _)) | have h := (h.f1 : Own _ _ (Hp.ro S :: _)) | have h := (h.f2 : Own _ _ (Hp.ro S :: _)) | have h := (h.f3 : Own _ _ (Hp.ro S :: _)) | have h := (h.f4 : Own _ _ (Hp.ro S :: _)) | have h := (h.f5 : Own _ _ (Hp.ro S :: _)) | have h := (h.f6 : Own _ _ (Hp.ro S :: _)) | have h := (h.f7 : Own _ _ (Hp.ro S :: _)) | have h := (h.f8 : Own _ _ (Hp.ro S :: _)) | have h := (h.f9 : Own _ _ (Hp.ro S :: _)) | have h := (h.f10 : Own _ _ (Hp.ro S :: _)) | have h := (h.f11 : Own _ _ (Hp.ro S :: _)) | have h := (h.f12 : Own _ _ (Hp.ro S :: _)) | have h := (h.f13 : Own _ _ (Hp.ro S :: _)) | have h := (h.f14 : Own _ _ (Hp.ro S :: _)) | have h := (h.f15 : Own _ _ (Hp.ro S :: _))
              with_reducible refine (KC.out _ _ h).mono ?_
              rintro e w5 ⟨rfl, h⟩
              refine hK.out _ _ ?_ (fun hS => ?_)
              · exact HC.out _ h.has
              clear hK K
              try simp only [Act.put, List.setIfInBounds_toArray, List.set_cons_zero, List.set_cons_succ]
              refine wpAnyG_keep (i := 3) (oi := ⟨some 38, _, _, _, _, _⟩) (by kernel_rfl) rfl (fun K hK => ?_)
              rw [if_pos (by rfl)]
              go_simp
              first | have h := (h : Own _ _ (Hp.ro S :: _)) | have h := (h.f1 : Own _ _ (Hp.ro S :: _)) | have h := (h.f2 : Own _ _ (Hp.ro S :: _)) | have h := (h.f3 : Own _ _ (Hp.ro S :: _)) | have h := (h.f4 : Own _ _ (Hp.ro S :: _)) | have h := (h.f5 : Own _ _ (Hp.ro S :: _)) | have h := (h.f6 : Own _ _ (Hp.ro S :: _)) | have h := (h.f7 : Own _ _ (Hp.ro S :: _)) | have h := (h.f8 : Own _ _ (Hp.ro S :: _)) | have h := (h.f9 : Own _ _ (Hp.ro S :: _)) | have h := (h.f10 : Own _ _ (Hp.ro S :: _)) | have h := (h.f11 : Own _ _ (Hp.ro S :: _)) | have h := (h.f12 : Own _ _ (Hp.ro S :: _)) | have h := (h.f13 : Own _ _ (Hp.ro S :: _)) | have h := (h.f14 : Own _ _ (Hp.ro S :: _)) | have h := (h.f15 : Own _ _ (Hp.ro S :: _))
              with_reducible refine (KP.out _ _ h).mono ?_
              rintro e w6 ⟨lv, hv, rfl, h⟩
              obtain ⟨q1, rfl, h⟩ := h.nodeShape
              obtain ⟨q2, rfl, h⟩ := h.f1.nodeShape
              refine hK.out _ _ ?_ (fun hS => ?_)
              · exact HC.out _ h.has
              clear hK K
              try simp only [Act.put, List.setIfInBounds_toArray, List.set_cons_zero, List.set_cons_succ]
              refine wpAnyG_pure (i := 4) (oi := ⟨some 34, _, _, _, _, _⟩) (v := ?_) rfl (by kernel_rfl) (by kernel_rfl) (by kernel_rfl) (by rfl) (fun _ _ _ h => h) (by rfl) ?_ ?_
              rotate_left
              · intro w
                go_simp
                first | done | with_reducible rfl
              try simp only [Act.put, List.setIfInBounds_toArray, List.set_cons_zero, List.set_cons_succ]
              refine wpAnyG_pure (i := 5) (oi := ⟨some 39, _, _, _, _, _⟩) (v := ?_) rfl (by kernel_rfl) (by kernel_rfl) (by kernel_rfl) (by rfl) (fun _ _ _ h => h) (by rfl) ?_ ?_
              rotate_left
              · intro w
                go_simp
                first | done | with_reducible rfl
              try simp only [Act.put, List.setIfInBounds_toArray, List.set_cons_zero, List.set_cons_succ]
              refine wpAnyG_pure (i := 6) (oi := ⟨some 40, _, _, _, _, _⟩) (v := ?_) rfl (by kernel_rfl) (by kernel_rfl) (by kernel_rfl) (by rfl) (fun _ _ _ h => h) (by rfl) ?_ ?_
              rotate_left
              · intro w
                go_simp
                first | done | with_reducible rfl
              try simp only [Act.put, List.setIfInBounds_toArray, List.set_cons_zero, List.set_cons_succ]
              refine wpAnyG_pure (i := 7) (oi := ⟨some 41, _, _, _, _, _⟩) (v := ?_) rfl (by kernel_rfl) (by kernel_rfl) (by kernel_rfl) (by rfl) (fun _ _ _ h => h) (by rfl) ?_ ?_
              rotate_left
              · intro w
                go_simp
                first | done | with_reducible rfl
              try simp only [Act.put, List.setIfInBounds_toArray, List.set_cons_zero, List.set_cons_succ]
              refine wpAnyG_keep (i := 10) (oi := ⟨none, _, _, _, _, _⟩) (by kernel_rfl) rfl (fun K hK => ?_)
              rw [if_pos (by rfl)]
              first | have h := (h : Own _ _ (Hp.blk g8 NT _ :: _)) | have h := (h.f1 : Own _ _ (Hp.blk g8 NT _ :: _)) | have h := (h.f2 : Own _ _ (Hp.blk g8 NT _ :: _)) | have h := (h.f3 : Own _ _ (Hp.blk g8 NT _ :: _)) | have h := (h.f4 : Own _ _ (Hp.blk g8 NT _ :: _)) | have h := (h.f5 : Own _ _ (Hp.blk g8 NT _ :: _)) | have h := (h.f6 : Own _ _ (Hp.blk g8 NT _ :: _)) | have h := (h.f7 : Own _ _ (Hp.blk g8 NT _ :: _)) | have h := (h.f8 : Own _ _ (Hp.blk g8 NT _ :: _)) | have h := (h.f9 : Own _ _ (Hp.blk g8 NT _ :: _)) | have h := (h.f10 : Own _ _ (Hp.blk g8 NT _ :: _)) | have h := (h.f11 : Own _ _ (Hp.blk g8 NT _ :: _)) | have h := (h.f12 : Own _ _ (Hp.blk g8 NT _ :: _)) | have h := (h.f13 : Own _ _ (Hp.blk g8 NT _ :: _)) | have h := (h.f14 : Own _ _ (Hp.blk g8 NT _ :: _)) | have h := (h.f15 : Own _ _ (Hp.blk g8 NT _ :: _))
              refine wp_store_whole (cs := [.bool false, .slice none 0 0, .slice none 0 0, .slice none 0 0]) (vs := [.bool sa.leaf, .slice q1.a1 sa.ks.length q1.c1, .slice q1.a2 sa.vs.length q1.c2, .slice q1.a3 sa.ls.length q1.c3]) h rfl (ND_all1 _ _ _ _ rfl rfl rfl) (by kernel_rfl) rfl rfl rfl (fun w9 h => ?_)
              refine hK.out _ _ ?_ (fun hS => ?_)
              · exact HC.out _ h.has
              clear hK K
              try simp only [Act.put]
              refine wpAnyG_pure (i := 11) (oi := ⟨some 9, _, _, _, _, _⟩) (v := ?_) rfl (by kernel_rfl) (by kernel_rfl) (by kernel_rfl) (by rfl) (fun _ _ _ h => h) (by rfl) ?_ ?_
              rotate_left
              · intro w
                go_simp
                first | done | with_reducible rfl
              try simp only [Act.put, List.setIfInBounds_toArray, List.set_cons_zero, List.set_cons_succ]
              refine wpAnyG_keep (i := 12) (oi := ⟨none, _, _, _, _, _⟩) (by kernel_rfl) rfl (fun K hK => ?_)
              rw [if_pos (by rfl)]
              first | have h := (h : Own _ _ (Hp.blk g9 NT _ :: _)) | have h := (h.f1 : Own _ _ (Hp.blk g9 NT _ :: _)) | have h := (h.f2 : Own _ _ (Hp.blk g9 NT _ :: _)) | have h := (h.f3 : Own _ _ (Hp.blk g9 NT _ :: _)) | have h := (h.f4 : Own _ _ (Hp.blk g9 NT _ :: _)) | have h := (h.f5 : Own _ _ (Hp.blk g9 NT _ :: _)) | have h := (h.f6 : Own _ _ (Hp.blk g9 NT _ :: _)) | have h := (h.f7 : Own _ _ (Hp.blk g9 NT _ :: _)) | have h := (h.f8 : Own _ _ (Hp.blk g9 NT _ :: _)) | have h := (h.f9 : Own _ _ (Hp.blk g9 NT _ :: _)) | have h := (h.f10 : Own _ _ (Hp.blk g9 NT _ :: _)) | have h := (h.f11 : Own _ _ (Hp.blk g9 NT _ :: _)) | have h := (h.f12 : Own _ _ (Hp.blk g9 NT _ :: _)) | have h := (h.f13 : Own _ _ (Hp.blk g9 NT _ :: _)) | have h := (h.f14 : Own _ _ (Hp.blk g9 NT _ :: _)) | have h := (h.f15 : Own _ _ (Hp.blk g9 NT _ :: _))
              refine wp_store_whole (cs := [.bool false, .slice none 0 0, .slice none 0 0, .slice none 0 0]) (vs := [.bool sb.leaf, .slice q2.a1 sb.ks.length q2.c1, .slice q2.a2 sb.vs.length q2.c2, .slice q2.a3 sb.ls.length q2.c3]) h rfl (ND_all1 _ _ _ _ rfl rfl rfl) (by kernel_rfl) rfl rfl rfl (fun w9 h => ?_)
              refine hK.out _ _ ?_ (fun hS => ?_)
              · exact HC.out _ h.has
              clear hK K
              try simp only [Act.put]
              refine wpAnyG_done (by kernel_rfl) ?_ _
              refine NoPanic.normal ?_
              go_wp2_with fail
              go_meet
              case rel => exact ⟨g8, g9, q1, q2, rfl, rfl, rfl, h.ac (by simp only [Hp.all] <;> ac_rfl)⟩
        obtain ⟨g8, g9, q1, q2, rfl, rfl, rfl, hw⟩ := hcut
        have HC8 : Hid (∀ w', (∃ L', Own E w' (Hp.blk g8 NT #[.bool sa.leaf, .slice q1.a1 sa.ks.length q1.c1, .slice q1.a2 sa.vs.length q1.c2, .slice q1.a3 sa.ls.length q1.c3] :: L')) → (∃ L', Own E w' (Hp.blk g9 NT #[.bool sb.leaf, .slice q2.a1 sb.ks.length q2.c1, .slice q2.a2 sb.vs.length q2.c2, .slice q2.a3 sb.ls.length q2.c3] :: L')) → w'.rangeAt g8 0 [.bool sa.leaf, .slice q1.a1 sa.ks.length q1.c1, .slice q1.a2 sa.vs.length q1.c2, .slice q1.a3 sa.ls.length q1.c3] ∧ w'.rangeAt g9 0 [.bool sb.leaf, .slice q2.a1 sb.ks.length q2.c1, .slice q2.a2 sb.vs.length q2.c2, .slice q2.a3 sb.ls.length q2.c3]) := Lib.hid fun w' h3 h4 => by
          obtain ⟨_, h3⟩ := h3
          obtain ⟨_, h4⟩ := h4
          exact ⟨h3.range 0 _ (fun j u hu => by simpa using hu), h4.range 0 _ (fun j u hu => by simpa using hu)⟩
        have h := hw.drew
        clear hw H HC KC KP
        go_wp2_with fail
        refine wp_region_text [0, 2] (fun w' => w'.rangeAt g8 0 [.bool sa.leaf, .slice q1.a1 sa.ks.length q1.c1, .slice q1.a2 sa.vs.length q1.c2, .slice q1.a3 sa.ls.length q1.c3] ∧ w'.rangeAt g9 0 [.bool sb.leaf, .slice q2.a1 sb.ks.length q2.c1, .slice q2.a2 sb.vs.length q2.c2, .slice q2.a3 sb.ls.length q2.c3]) (by kernel_rfl) ?_ (fun hS => ?_)
        · exact HC8.out _ h.has h.has
        refine wpAnyG_load (i := 0) (oi := ⟨some 42, _, _, _, _, _⟩) (v := (.agg #[.bool sa.leaf, .slice q1.a1 sa.ks.length q1.c1, .slice q1.a2 sa.vs.length q1.c2, .slice q1.a3 sa.ls.length q1.c3])) rfl (by kernel_rfl) (by kernel_rfl) (by kernel_rfl) (by rfl) (fun _ _ _ h => h) (by rfl) ?_ (by assumption) ?_
        · intro w hS
          exact exec_load_mid NT (.tmp 8) rfl g8 0 (by rfl) [.bool sa.leaf, .slice q1.a1 sa.ks.length q1.c1, .slice q1.a2 sa.vs.length q1.c2, .slice q1.a3 sa.ls.length q1.c3] _ hS.1 Tryd.underlying25 rfl (by kernel_rfl)
        try simp only [Act.put, List.setIfInBounds_toArray, List.set_cons_zero, List.set_cons_succ]
        refine wpAnyG_pure (i := 1) (oi := ⟨some 43, _, _, _, _, _⟩) (v := ?_) rfl (by kernel_rfl) (by kernel_rfl) (by kernel_rfl) (by rfl) (fun _ _ _ h => h) (by rfl) ?_ ?_
        rotate_left
        · intro w
          go_simp
          first | done | with_reducible rfl
        try simp only [Act.put, List.setIfInBounds_toArray, List.set_cons_zero, List.set_cons_succ]
        refine wpAnyG_load (i := 2) (oi := ⟨some 44, _, _, _, _, _⟩) (v := (.agg #[.bool sb.leaf, .slice q2.a1 sb.ks.length q2.c1, .slice q2.a2 sb.vs.length q2.c2, .slice q2.a3 sb.ls.length q2.c3])) rfl (by kernel_rfl) (by kernel_rfl) (by kernel_rfl) (by rfl) (fun _ _ _ h => h) (by rfl) ?_ (by assumption) ?_
        · intro w hS
          exact exec_load_mid NT (.tmp 10) rfl g9 0 (by rfl) [.bool sb.leaf, .slice q2.a1 sb.ks.length q2.c1, .slice q2.a2 sb.vs.length q2.c2, .slice q2.a3 sb.ls.length q2.c3] _ hS.2 Tryd.underlying25 rfl (by kernel_rfl)
        try simp only [Act.put, List.setIfInBounds_toArray, List.set_cons_zero, List.set_cons_succ]
        refine wpAnyG_keep (i := 3) (oi := ⟨none, _, _, _, _, _⟩) (by kernel_rfl) rfl (fun K hK => ?_)
        rw [if_pos (by rfl)]
        first | have h := (h : Own _ _ (Hp.blk (g + 1) NT _ :: _)) | have h := (h.f1 : Own _ _ (Hp.blk (g + 1) NT _ :: _)) | have h := (h.f2 : Own _ _ (Hp.blk (g + 1) NT _ :: _)) | have h := (h.f3 : Own _ _ (Hp.blk (g + 1) NT _ :: _)) | have h := (h.f4 : Own _ _ (Hp.blk (g + 1) NT _ :: _)) | have h := (h.f5 : Own _ _ (Hp.blk (g + 1) NT _ :: _)) | have h := (h.f6 : Own _ _ (Hp.blk (g + 1) NT _ :: _)) | have h := (h.f7 : Own _ _ (Hp.blk (g + 1) NT _ :: _)) | have h := (h.f8 : Own _ _ (Hp.blk (g + 1) NT _ :: _)) | have h := (h.f9 : Own _ _ (Hp.blk (g + 1) NT _ :: _)) | have h := (h.f10 : Own _ _ (Hp.blk (g + 1) NT _ :: _)) | have h := (h.f11 : Own _ _ (Hp.blk (g + 1) NT _ :: _)) | have h := (h.f12 : Own _ _ (Hp.blk (g + 1) NT _ :: _)) | have h := (h.f13 : Own _ _ (Hp.blk (g + 1) NT _ :: _)) | have h := (h.f14 : Own _ _ (Hp.blk (g + 1) NT _ :: _)) | have h := (h.f15 : Own _ _ (Hp.blk (g + 1) NT _ :: _))
        refine wp_store_whole (cs := [.bool false, .slice none 0 0, .slice none 0 0, .slice none 0 0]) (vs := [.bool sa.leaf, .slice q1.a1 sa.ks.length q1.c1, .slice q1.a2 sa.vs.length q1.c2, .slice q1.a3 sa.ls.length q1.c3]) h rfl (ND_all1 _ _ _ _ rfl rfl rfl) (by kernel_rfl) rfl rfl rfl (fun w9 h => ?_)
        refine hK.out _ _ ?_ (fun hS => ?_)
        · exact HC8.out _ h.has h.has
        clear hK K
        try simp only [Act.put]
        refine wpAnyG_pure (i := 4) (oi := ⟨some 3, _, _, _, _, _⟩) (v := ?_) rfl (by kernel_rfl) (by kernel_rfl) (by kernel_rfl) (by rfl) (fun _ _ _ h => h) (by rfl) ?_ ?_
        rotate_left
        · intro w
          go_simp
          first | done | with_reducible rfl
        try simp only [Act.put, List.setIfInBounds_toArray, List.set_cons_zero, List.set_cons_succ]
        refine wpAnyG_keep (i := 5) (oi := ⟨none, _, _, _, _, _⟩) (by kernel_rfl) rfl (fun K hK => ?_)
        rw [if_pos (by rfl)]
        first | have h := (h : Own _ _ (Hp.blk (g + 2) NT _ :: _)) | have h := (h.f1 : Own _ _ (Hp.blk (g + 2) NT _ :: _)) | have h := (h.f2 : Own _ _ (Hp.blk (g + 2) NT _ :: _)) | have h := (h.f3 : Own _ _ (Hp.blk (g + 2) NT _ :: _)) | have h := (h.f4 : Own _ _ (Hp.blk (g + 2) NT _ :: _)) | have h := (h.f5 : Own _ _ (Hp.blk (g + 2) NT _ :: _)) | have h := (h.f6 : Own _ _ (Hp.blk (g + 2) NT _ :: _)) | have h := (h.f7 : Own _ _ (Hp.blk (g + 2) NT _ :: _)) | have h := (h.f8 : Own _ _ (Hp.blk (g + 2) NT _ :: _)) | have h := (h.f9 : Own _ _ (Hp.blk (g + 2) NT _ :: _)) | have h := (h.f10 : Own _ _ (Hp.blk (g + 2) NT _ :: _)) | have h := (h.f11 : Own _ _ (Hp.blk (g + 2) NT _ :: _)) | have h := (h.f12 : Own _ _ (Hp.blk (g + 2) NT _ :: _)) | have h := (h.f13 : Own _ _ (Hp.blk (g + 2) NT _ :: _)) | have h := (h.f14 : Own _ _ (Hp.blk (g + 2) NT _ :: _)) | have h := (h.f15 : Own _ _ (Hp.blk (g + 2) NT _ :: _))
        refine wp_store_whole (cs := [.bool false, .slice none 0 0, .slice none 0 0, .slice none 0 0]) (vs := [.bool sb.leaf, .slice q2.a1 sb.ks.length q2.c1, .slice q2.a2 sb.vs.length q2.c2, .slice q2.a3 sb.ls.length q2.c3]) h rfl (ND_all1 _ _ _ _ rfl rfl rfl) (by kernel_rfl) rfl rfl rfl (fun w9 h => ?_)
        refine hK.out _ _ ?_ (fun hS => ?_)
        · exact HC8.out _ h.has h.has
        clear hK K
        try simp only [Act.put]
        refine wpAnyG_pure (i := 6) (oi := ⟨some 5, _, _, _, _, _⟩) (v := ?_) rfl (by kernel_rfl) (by kernel_rfl) (by kernel_rfl) (by rfl) (fun _ _ _ h => h) (by rfl) ?_ ?_
        rotate_left
        · intro w
          go_simp
          first | done | with_reducible rfl
        try simp only [Act.put, List.setIfInBounds_toArray, List.set_cons_zero, List.set_cons_succ]
        refine wpAnyG_done (by kernel_rfl) ?_ _
        refine NoPanic.normal ?_
        go_wp2_with fail
        first | have h := (h : Own _ _ (Hp.blk (g + 1) NT _ :: _)) | have h := (h.f1 : Own _ _ (Hp.blk (g + 1) NT _ :: _)) | have h := (h.f2 : Own _ _ (Hp.blk (g + 1) NT _ :: _)) | have h := (h.f3 : Own _ _ (Hp.blk (g + 1) NT _ :: _)) | have h := (h.f4 : Own _ _ (Hp.blk (g + 1) NT _ :: _)) | have h := (h.f5 : Own _ _ (Hp.blk (g + 1) NT _ :: _)) | have h := (h.f6 : Own _ _ (Hp.blk (g + 1) NT _ :: _)) | have h := (h.f7 : Own _ _ (Hp.blk (g + 1) NT _ :: _)) | have h := (h.f8 : Own _ _ (Hp.blk (g + 1) NT _ :: _)) | have h := (h.f9 : Own _ _ (Hp.blk (g + 1) NT _ :: _)) | have h := (h.f10 : Own _ _ (Hp.blk (g + 1) NT _ :: _)) | have h := (h.f11 : Own _ _ (Hp.blk (g + 1) NT _ :: _)) | have h := (h.f12 : Own _ _ (Hp.blk (g + 1) NT _ :: _)) | have h := (h.f13 : Own _ _ (Hp.blk (g + 1) NT _ :: _)) | have h := (h.f14 : Own _ _ (Hp.blk (g + 1) NT _ :: _)) | have h := (h.f15 : Own _ _ (Hp.blk (g + 1) NT _ :: _))
        refine bodyPost_ret (results_ctct rfl rfl rfl h hnt hnr (by kernel_rfl) (by kernel_rfl)) rfl ?_
        refine ⟨_, _, rfl, ?_⟩
        have h := h.drop.drop
        first | have h := (h : Own _ _ (Hp.blk g8 NT _ :: _)) | have h := (h.f1 : Own _ _ (Hp.blk g8 NT _ :: _)) | have h := (h.f2 : Own _ _ (Hp.blk g8 NT _ :: _)) | have h := (h.f3 : Own _ _ (Hp.blk g8 NT _ :: _)) | have h := (h.f4 : Own _ _ (Hp.blk g8 NT _ :: _)) | have h := (h.f5 : Own _ _ (Hp.blk g8 NT _ :: _)) | have h := (h.f6 : Own _ _ (Hp.blk g8 NT _ :: _)) | have h := (h.f7 : Own _ _ (Hp.blk g8 NT _ :: _)) | have h := (h.f8 : Own _ _ (Hp.blk g8 NT _ :: _)) | have h := (h.f9 : Own _ _ (Hp.blk g8 NT _ :: _)) | have h := (h.f10 : Own _ _ (Hp.blk g8 NT _ :: _)) | have h := (h.f11 : Own _ _ (Hp.blk g8 NT _ :: _)) | have h := (h.f12 : Own _ _ (Hp.blk g8 NT _ :: _)) | have h := (h.f13 : Own _ _ (Hp.blk g8 NT _ :: _)) | have h := (h.f14 : Own _ _ (Hp.blk g8 NT _ :: _)) | have h := (h.f15 : Own _ _ (Hp.blk g8 NT _ :: _))
        have h := h.drop
        first | have h := (h : Own _ _ (Hp.blk g9 NT _ :: _)) | have h := (h.f1 : Own _ _ (Hp.blk g9 NT _ :: _)) | have h := (h.f2 : Own _ _ (Hp.blk g9 NT _ :: _)) | have h := (h.f3 : Own _ _ (Hp.blk g9 NT _ :: _)) | have h := (h.f4 : Own _ _ (Hp.blk g9 NT _ :: _)) | have h := (h.f5 : Own _ _ (Hp.blk g9 NT _ :: _)) | have h := (h.f6 : Own _ _ (Hp.blk g9 NT _ :: _)) | have h := (h.f7 : Own _ _ (Hp.blk g9 NT _ :: _)) | have h := (h.f8 : Own _ _ (Hp.blk g9 NT _ :: _)) | have h := (h.f9 : Own _ _ (Hp.blk g9 NT _ :: _)) | have h := (h.f10 : Own _ _ (Hp.blk g9 NT _ :: _)) | have h := (h.f11 : Own _ _ (Hp.blk g9 NT _ :: _)) | have h := (h.f12 : Own _ _ (Hp.blk g9 NT _ :: _)) | have h := (h.f13 : Own _ _ (Hp.blk g9 NT _ :: _)) | have h := (h.f14 : Own _ _ (Hp.blk g9 NT _ :: _)) | have h := (h.f15 : Own _ _ (Hp.blk g9 NT _ :: _))
        have h := h.drop
        first | have h := (h : Own _ _ (Hp.blk g NT _ :: _)) | have h := (h.f1 : Own _ _ (Hp.blk g NT _ :: _)) | have h := (h.f2 : Own _ _ (Hp.blk g NT _ :: _)) | have h := (h.f3 : Own _ _ (Hp.blk g NT _ :: _)) | have h := (h.f4 : Own _ _ (Hp.blk g NT _ :: _)) | have h := (h.f5 : Own _ _ (Hp.blk g NT _ :: _)) | have h := (h.f6 : Own _ _ (Hp.blk g NT _ :: _)) | have h := (h.f7 : Own _ _ (Hp.blk g NT _ :: _)) | have h := (h.f8 : Own _ _ (Hp.blk g NT _ :: _)) | have h := (h.f9 : Own _ _ (Hp.blk g NT _ :: _)) | have h := (h.f10 : Own _ _ (Hp.blk g NT _ :: _)) | have h := (h.f11 : Own _ _ (Hp.blk g NT _ :: _)) | have h := (h.f12 : Own _ _ (Hp.blk g NT _ :: _)) | have h := (h.f13 : Own _ _ (Hp.blk g NT _ :: _)) | have h := (h.f14 : Own _ _ (Hp.blk g NT _ :: _)) | have h := (h.f15 : Own _ _ (Hp.blk g NT _ :: _))
        have h := h.drop
        exact h.ac (by simp only [Hp.all] <;> ac_rfl)
end
end Go.Proofs.YtbclmmneiphcaaaDoor
