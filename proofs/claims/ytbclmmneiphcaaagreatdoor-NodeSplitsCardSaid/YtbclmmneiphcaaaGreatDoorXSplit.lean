/- latchkeyref10.Split (printed by gen_split.py). -/
import Derived.Test.YtbclmmneiphcaaaGreatDoorSplit
namespace Go.Proofs.YtbclmmneiphcaaaGreatDoor
open Go.RowKit
theorem splitE_cases (n : Nd) : (n.formed 1 = false ∧ n.splitE = 100) ∨ (n.formed 1 = true ∧ mayB n.ks = false ∧ n.splitE = 101) ∨ (n.formed 1 = true ∧ mayB n.ks = true ∧ n.splitE = if n.size ≤ 480 ∨ 718 < n.size then 103 else 0) := by
  have hd : n.splitE = if n.wrong = 100 ∨ n.wrong = 101 then n.wrong else if n.size ≤ 480 ∨ 718 < n.size then 103 else 0 := rfl
  rcases wrong_codes n with ⟨h1, h2⟩ | ⟨h1, h2, h3⟩ | ⟨h1, h2, h3, _⟩ | ⟨h1, h2, h3, _⟩
  · exact .inl ⟨h2, by rw [hd, h1]; rfl⟩
  · exact .inr (.inl ⟨h2, h3, by rw [hd, h1]; rfl⟩)
  · exact .inr (.inr ⟨h2, h3, by rw [hd, h1, if_neg (by decide)]⟩)
  · exact .inr (.inr ⟨h2, h3, by rw [hd, h1, if_neg (by decide)]⟩)
section
variable {E : World} {S : Ph} {L : List Hp}
theorem xparts_in (v : Nv) (n : Nd) (i : Nat) (w : World) (hs : Splits n) (h1 : 1 ≤ i) (h2 : i ≤ n.lastP) (hb : n.bulk ≤ 4294967290) (hi : NdIn S v n) (h : Own E w (Hp.ro S :: L)) :
    Calls Tryz.prog 66 #[v.val n, .int .i64 i] w fun e w' => ∃ lv hv, e = .returned (.tuple #[lv, .string (n.mid i), hv]) ∧ Own E w' (Hp.node lv (n.lo i) :: Hp.node hv (n.hi i) :: Hp.ro S :: L) := by
  have h3 : n.lastP = if n.leaf then n.ks.length - 1 else n.ks.length - 2 := rfl
  have hf := hs.form
  have hk := hs.k3
  have hl := hs.last
  refine xparts_any v n i w hb h1 (by omega) ?_ hi h
  split
  · rename_i hlf; rw [if_pos hlf] at hf; exact hf
  · rename_i hlf; rw [if_neg hlf] at hf h3; exact ⟨hf, by omega⟩
set_option maxRecDepth 100000 in
set_option maxHeartbeats 8000000 in
theorem xsplit_any (v : Nv) (n : Nd) (w : World) (hb : n.bulk ≤ 4294967290) (hi : NdIn S v n) (h : Own E w (Hp.ro S :: L)) :
    Calls Tryz.prog 38 #[v.val n] w fun e w' => ∃ lv hv, e = .returned (.tuple #[lv, .string n.spK, hv, .int .i64 n.splitE]) ∧ Own E w' (Hp.node lv n.spA :: Hp.node hv n.spB :: Hp.ro S :: L) := by
  have hfm : ∀ w M, Own E w (Hp.ro S :: M) → Calls Tryz.prog 64 #[v.val n, .bool false] w fun e w' => e = .returned (.bool (n.formed 1)) ∧ Own E w' (Hp.ro S :: M) := fun w M hw => xform_any v n false w (by omega) hi hw
  have hkm := fun w M hw => xkeys_any (E := E) (S := S) (L := M) v.a1 n.ks.length v.c1 n.ks w (by unfold Nd.bulk at hb; omega) hi.r1 hw
  have hs := fun w M hw => xsize_any (E := E) (S := S) (L := M) v n w (by omega) hi hw
  have hsz : n.size ≤ 5 * 4294967290 := Nat.le_trans n.size_le (by omega)
  have hse := splitE_cases n
  have hall : (n.splitE ≠ 0 → n.spK = ⟨#[]⟩ ∧ n.spA = Nd.nil ∧ n.spB = Nd.nil) ∧ (n.splitE = 0 → Splits n ∧ n.spK = n.mid n.cut ∧ n.spA = n.lo n.cut ∧ n.spB = n.hi n.cut) := ⟨fun h => ⟨if_neg h, if_neg h, if_neg h⟩, fun h => ⟨splits_of h, if_pos h, if_pos h, if_pos h⟩⟩
  have hkp := fun (hsp : Splits n) i w M h1 h2 hw => xparts_in (E := E) (S := S) (L := M) v n i w hsp h1 h2 hb hi hw
  have hlb : ∀ i, (n.lo i).bulk ≤ 4294967290 := fun i => Nat.le_trans (lo_bulk n i) hb
  have hhb : ∀ i, (n.hi i).bulk ≤ 4294967290 := fun i => Nat.le_trans (hi_bulk n i) hb
  have hstep : ∀ k, cutRun n (k + 1) = if k = 0 ∨ n.gr (k + 1) < n.gr (cutRun n k) then k + 1 else cutRun n k := fun _ => rfl
  have hlast : n.lastP = if n.leaf then n.ks.length - 1 else n.ks.length - 2 := rfl
  have hkb : n.ks.length ≤ 4294967290 := by unfold Nd.bulk at hb; omega
  have hk3 : n.splitE = 0 → 3 ≤ n.ks.length ∧ 1 ≤ n.lastP := fun h => ⟨(splits_of h).k3, (splits_of h).last.1⟩
  have hcut : n.cut = cutRun n n.lastP := rfl
  obtain ⟨se, hsee⟩ : ∃ x, x = n.splitE := ⟨_, rfl⟩
  obtain ⟨sa, hsa⟩ : ∃ x, x = n.spA := ⟨_, rfl⟩
  obtain ⟨sb, hsb⟩ : ∃ x, x = n.spB := ⟨_, rfl⟩
  obtain ⟨sk, hsk⟩ : ∃ x, x = n.spK := ⟨_, rfl⟩
  rw [← hsee] at hse hall hk3 ⊢
  rw [← hsa] at hall ⊢
  rw [← hsb] at hall ⊢
  rw [← hsk] at hall ⊢
  have HALL := Lib.hid hall
  have HKP := Lib.hid hkp
  have HLB := Lib.hid hlb
  have HHB := Lib.hid hhb
  have HST := Lib.hid hstep
  have HK3 := Lib.hid hk3
  have HCUT := Lib.hid hcut
  clear hsee hsa hsb hsk hall hkp hlb hhb hstep hk3 hcut
  generalize n.formed 1 = fm at *
  generalize mayB n.ks = mb at *
  generalize n.size = sz at *
  obtain ⟨a1, c1, a2, c2, a3, c3⟩ := v
  dsimp only [Nv.val] at *
  have h1 : Own E _ (Hp.blk (w.heap.size + 2) NT #[.bool false, .slice none 0 0, .slice none 0 0, .slice none 0 0] :: Hp.blk (w.heap.size + 1) NT #[.bool false, .slice none 0 0, .slice none 0 0, .slice none 0 0] :: Hp.blk w.heap.size NT #[.bool n.leaf, .slice a1 n.ks.length c1, .slice a2 n.vs.length c2, .slice a3 n.ls.length c3] :: Hp.ro S :: L) := h.alloc3 _ _ _
  generalize n.leaf = leaf at *
  generalize n.ks.length = nk at *
  generalize n.vs.length = nv at *
  generalize n.ls.length = nlz at *
  obtain ⟨last, hlst⟩ : ∃ x, x = n.lastP := ⟨_, rfl⟩
  rw [← hlst] at hlast HKP HK3 HCUT
  obtain ⟨nt, hnt, hnr⟩ := nt_u
  obtain ⟨g, hg⟩ : ∃ g, g = w.heap.size := ⟨_, rfl⟩
  rw [← hg] at h1
  have H1 := Lib.hid h1
  have HFM := Lib.hid hfm
  have HKM := Lib.hid hkm
  have HSZ := Lib.hid hs
  clear h h1 hfm hkm hs hi hb hlst
  go_enter Tryz.func38, Tryz.ntmps38
  go_wp2_with fail
  rw [← hg]
  clear hg
  with_reducible refine (HFM.out _ _ H1.out.f3).mono ?_
  rintro e w1 ⟨rfl, h⟩
  clear H1 HFM
  rcases hse with ⟨rfl, h100⟩ | ⟨rfl, rfl, h101⟩ | ⟨rfl, rfl, hse⟩
  · have HA : Hid (sk = ⟨#[]⟩ ∧ se = 100 ∧ sa = Nd.nil ∧ sb = Nd.nil) := Lib.hid (by
      have e : se = 100 := h100
      have := HALL.out.1 (by omega)
      exact ⟨this.1, e, this.2.1, this.2.2⟩)
    clear h100
    have H2 := Lib.hid h.f2
    go_wp2_with (with_reducible refine at_slot (k := none) ?_; first | (refine wpList_store_whole (o := ⟨none, _, _, _, _, _⟩) (g := g + 1) (cs := [.bool false, .slice none 0 0, .slice none 0 0, .slice none 0 0]) (vs := [.bool false, .slice none 0 0, .slice none 0 0, .slice none 0 0]) H2.out rfl (ND_all1 _ _ _ _ rfl rfl rfl) (by kernel_rfl) rfl rfl rfl rfl ?_; intro w7 h7) | (refine wpList_store_whole (o := ⟨none, _, _, _, _, _⟩) (g := g + 2) (cs := [.bool false, .slice none 0 0, .slice none 0 0, .slice none 0 0]) (vs := [.bool false, .slice none 0 0, .slice none 0 0, .slice none 0 0]) h7.f2 rfl (ND_all1 _ _ _ _ rfl rfl rfl) (by kernel_rfl) rfl rfl rfl rfl ?_; intro w8 h8))
    refine bodyPost_ret (results_ctct rfl rfl rfl h8.f1 hnt hnr (by kernel_rfl) (by kernel_rfl)) rfl ?_
    rw [HA.out.1, HA.out.2.1, HA.out.2.2.1, HA.out.2.2.2]
    exact ⟨_, _, rfl, (h8.drop.drop.f1.drop.nilNode).nilNode⟩
  · have HA : Hid (sk = ⟨#[]⟩ ∧ se = 101 ∧ sa = Nd.nil ∧ sb = Nd.nil) := Lib.hid (by
      have e : se = 101 := h101
      have := HALL.out.1 (by omega)
      exact ⟨this.1, e, this.2.1, this.2.2⟩)
    clear h101
    have q0 : _ = some (Value.bool leaf) := h.f3.cell 0
    have q1 : _ = some (Value.slice a1 nk c1) := h.f3.cell 1
    have q2 : _ = some (Value.slice a2 nv c2) := h.f3.cell 2
    have q3 : _ = some (Value.slice a3 nlz c3) := h.f3.cell 3
    have H := Lib.hid h
    clear h
    go_wp2_with fail
    with_reducible refine (HKM.out _ _ H.out).mono ?_
    rintro e w2 ⟨rfl, h⟩
    clear q0 q1 q2 q3 H HKM
    have H2 := Lib.hid h.f2
    go_wp2_with (with_reducible refine at_slot (k := none) ?_; first | (refine wpList_store_whole (o := ⟨none, _, _, _, _, _⟩) (g := g + 1) (cs := [.bool false, .slice none 0 0, .slice none 0 0, .slice none 0 0]) (vs := [.bool false, .slice none 0 0, .slice none 0 0, .slice none 0 0]) H2.out rfl (ND_all1 _ _ _ _ rfl rfl rfl) (by kernel_rfl) rfl rfl rfl rfl ?_; intro w7 h7) | (refine wpList_store_whole (o := ⟨none, _, _, _, _, _⟩) (g := g + 2) (cs := [.bool false, .slice none 0 0, .slice none 0 0, .slice none 0 0]) (vs := [.bool false, .slice none 0 0, .slice none 0 0, .slice none 0 0]) h7.f2 rfl (ND_all1 _ _ _ _ rfl rfl rfl) (by kernel_rfl) rfl rfl rfl rfl ?_; intro w8 h8))
    refine bodyPost_ret (results_ctct rfl rfl rfl h8.f1 hnt hnr (by kernel_rfl) (by kernel_rfl)) rfl ?_
    rw [HA.out.1, HA.out.2.1, HA.out.2.2.1, HA.out.2.2.2]
    exact ⟨_, _, rfl, (h8.drop.drop.f1.drop.nilNode).nilNode⟩
  · have q0 : _ = some (Value.bool leaf) := h.f3.cell 0
    have q1 : _ = some (Value.slice a1 nk c1) := h.f3.cell 1
    have q2 : _ = some (Value.slice a2 nv c2) := h.f3.cell 2
    have q3 : _ = some (Value.slice a3 nlz c3) := h.f3.cell 3
    have H := Lib.hid h
    clear h
    go_wp2_with fail
    with_reducible refine (HKM.out _ _ H.out).mono ?_
    rintro e w2 ⟨rfl, h⟩
    clear q0 q1 q2 q3 H HKM
    have q0 : _ = some (Value.bool leaf) := h.f3.cell 0
    have q1 : _ = some (Value.slice a1 nk c1) := h.f3.cell 1
    have q2 : _ = some (Value.slice a2 nv c2) := h.f3.cell 2
    have q3 : _ = some (Value.slice a3 nlz c3) := h.f3.cell 3
    have H := Lib.hid h
    clear h
    go_wp2_with fail
    with_reducible refine (HSZ.out _ _ H.out).mono ?_
    rintro e w3 ⟨rfl, h⟩
    clear q0 q1 q2 q3 H
    by_cases k1 : sz ≤ 480
    · have k1i : (sz : Int) < 481 := by omega
      have HA : Hid (sk = ⟨#[]⟩ ∧ se = 103 ∧ sa = Nd.nil ∧ sb = Nd.nil) := Lib.hid (by
        have e : se = 103 := by rw [hse, if_pos (.inl k1)]
        have := HALL.out.1 (by omega)
        exact ⟨this.1, e, this.2.1, this.2.2⟩)
      clear hse
      have H2 := Lib.hid h.f2
      go_wp2_with (with_reducible refine at_slot (k := none) ?_; first | (refine wpList_store_whole (o := ⟨none, _, _, _, _, _⟩) (g := g + 1) (cs := [.bool false, .slice none 0 0, .slice none 0 0, .slice none 0 0]) (vs := [.bool false, .slice none 0 0, .slice none 0 0, .slice none 0 0]) H2.out rfl (ND_all1 _ _ _ _ rfl rfl rfl) (by kernel_rfl) rfl rfl rfl rfl ?_; intro w7 h7) | (refine wpList_store_whole (o := ⟨none, _, _, _, _, _⟩) (g := g + 2) (cs := [.bool false, .slice none 0 0, .slice none 0 0, .slice none 0 0]) (vs := [.bool false, .slice none 0 0, .slice none 0 0, .slice none 0 0]) h7.f2 rfl (ND_all1 _ _ _ _ rfl rfl rfl) (by kernel_rfl) rfl rfl rfl rfl ?_; intro w8 h8))
      refine bodyPost_ret (results_ctct rfl rfl rfl h8.f1 hnt hnr (by kernel_rfl) (by kernel_rfl)) rfl ?_
      rw [HA.out.1, HA.out.2.1, HA.out.2.2.1, HA.out.2.2.2]
      exact ⟨_, _, rfl, (h8.drop.drop.f1.drop.nilNode).nilNode⟩
    · have k1i : ¬ (sz : Int) < 481 := by omega
      have q0 : _ = some (Value.bool leaf) := h.f3.cell 0
      have q1 : _ = some (Value.slice a1 nk c1) := h.f3.cell 1
      have q2 : _ = some (Value.slice a2 nv c2) := h.f3.cell 2
      have q3 : _ = some (Value.slice a3 nlz c3) := h.f3.cell 3
      have H := Lib.hid h
      clear h
      go_wp2_with fail
      with_reducible refine (HSZ.out _ _ H.out).mono ?_
      rintro e w4 ⟨rfl, h⟩
      clear q0 q1 q2 q3 H HSZ
      by_cases k2 : 718 < sz
      · have k2i : (718 : Int) < sz := by omega
        have HA : Hid (sk = ⟨#[]⟩ ∧ se = 103 ∧ sa = Nd.nil ∧ sb = Nd.nil) := Lib.hid (by
          have e : se = 103 := by rw [hse, if_pos (.inr k2)]
          have := HALL.out.1 (by omega)
          exact ⟨this.1, e, this.2.1, this.2.2⟩)
        clear hse
        have H2 := Lib.hid h.f2
        go_wp2_with (with_reducible refine at_slot (k := none) ?_; first | (refine wpList_store_whole (o := ⟨none, _, _, _, _, _⟩) (g := g + 1) (cs := [.bool false, .slice none 0 0, .slice none 0 0, .slice none 0 0]) (vs := [.bool false, .slice none 0 0, .slice none 0 0, .slice none 0 0]) H2.out rfl (ND_all1 _ _ _ _ rfl rfl rfl) (by kernel_rfl) rfl rfl rfl rfl ?_; intro w7 h7) | (refine wpList_store_whole (o := ⟨none, _, _, _, _, _⟩) (g := g + 2) (cs := [.bool false, .slice none 0 0, .slice none 0 0, .slice none 0 0]) (vs := [.bool false, .slice none 0 0, .slice none 0 0, .slice none 0 0]) h7.f2 rfl (ND_all1 _ _ _ _ rfl rfl rfl) (by kernel_rfl) rfl rfl rfl rfl ?_; intro w8 h8))
        refine bodyPost_ret (results_ctct rfl rfl rfl h8.f1 hnt hnr (by kernel_rfl) (by kernel_rfl)) rfl ?_
        rw [HA.out.1, HA.out.2.1, HA.out.2.2.1, HA.out.2.2.2]
        exact ⟨_, _, rfl, (h8.drop.drop.f1.drop.nilNode).nilNode⟩
      · have k2i : ¬ (718 : Int) < sz := by omega
        have he : se = 0 := by rw [hse, if_neg (by omega)]
        obtain ⟨hsp, e1, e2, e3⟩ := HALL.out.2 he
        obtain ⟨hk3, hl1⟩ := HK3.out he
        have kp := HKP.out hsp
        rw [HCUT.out] at e1 e2 e3
        have HEE := Lib.hid (And.intro e1 (And.intro e2 e3))
        clear e1 e2 e3 hsp hse HALL HKP HK3 HCUT
        subst he
        have KP := Lib.hid kp
        clear kp
        have j1 : IntKind.i64.wrap ((nk : Int) - 1) = ((nk - 1 : Nat) : Int) := by rw [IntWalk.i64_in _ (by omega)]; omega
        have j2 : IntKind.i64.wrap ((nk : Int) - 2) = ((nk - 2 : Nat) : Int) := by rw [IntWalk.i64_in _ (by omega)]; omega
        obtain ⟨x1, hx1⟩ : ∃ x, x = nk - 1 := ⟨_, rfl⟩
        obtain ⟨x2, hx2⟩ : ∃ x, x = nk - 2 := ⟨_, rfl⟩
        rw [← hx1] at j1
        rw [← hx2] at j2
        rw [← hx1, ← hx2] at hlast
        have hlb2 : last ≤ 4294967290 := by rw [hlast]; split <;> omega
        clear hx1 hx2
        have q0 : _ = some (Value.bool leaf) := h.f3.cell 0
        have q1 : _ = some (Value.slice a1 nk c1) := h.f3.cell 1
        have q2 : _ = some (Value.slice a2 nv c2) := h.f3.cell 2
        have q3 : _ = some (Value.slice a3 nlz c3) := h.f3.cell 3
        have H := Lib.hid h
        clear h
        go_upto_if 48 with fail
        go_cut [8] from 89 (fun x w' => x = .int .i64 last ∧ w' = w4)
        case first =>
          cases leaf with
          | true =>
            obtain rfl : last = x1 := hlast
            go_wp2_with fail
            go_meet
            case rel => exact ⟨rfl, rfl⟩
          | false =>
            obtain rfl : last = x2 := hlast
            go_wp2_with fail
            go_meet
            case rel => exact ⟨rfl, rfl⟩
        obtain ⟨rfl, rfl⟩ := hcut
        clear hlast j1 j2 hkb q0 q1 q2 q3
        go_wp2_with fail
        go_loopw [9, 10, 11] (fun at_ be i wr => ∃ k aa bb : Nat, k ≤ last ∧ i = .int .i64 ((k : Int) + 1) ∧ at_ = .int .i64 aa ∧ be = .int .i64 bb ∧ ((k = 0 ∧ aa = 0 ∧ bb = 0) ∨ (1 ≤ k ∧ aa = cutRun n k ∧ bb = n.gr aa)) ∧ Own E wr (Hp.ro S :: Hp.blk (g + 2) NT #[.bool false, .slice none 0 0, .slice none 0 0, .slice none 0 0] :: Hp.blk (g + 1) NT #[.bool false, .slice none 0 0, .slice none 0 0, .slice none 0 0] :: Hp.blk g NT #[.bool leaf, .slice a1 nk c1, .slice a2 nv c2, .slice a3 nlz c3] :: L)) (fun _ _ i _ => last + 1 - (intOf i).toNat)
        case atStart => exact ⟨0, 0, 0, by omega, rfl, rfl, rfl, .inl ⟨rfl, rfl, rfl⟩, H.out⟩
        case round =>
          obtain ⟨k, aa, bb, hk, rfl, rfl, rfl, hbest, hw⟩ := hrel
          have HBEST := Lib.hid hbest
          have h := hw
          have q0 : _ = some (Value.bool leaf) := h.f3.cell 0
          have q1 : _ = some (Value.slice a1 nk c1) := h.f3.cell 1
          have q2 : _ = some (Value.slice a2 nv c2) := h.f3.cell 2
          have q3 : _ = some (Value.slice a3 nlz c3) := h.f3.cell 3
          clear H hbest h
          by_cases hlt : k < last
          · have hlti : (k : Int) + 1 ≤ last := by omega
            have hbl := HLB.out (k + 1)
            have hbh := HHB.out (k + 1)
            have kp := fun w M hw => KP.out (k + 1) w M (by omega) (by omega) hw
            have hst := HST.out k
            have hgr : n.gr (k + 1) = max (n.lo (k + 1)).size (n.hi (k + 1)).size := rfl
            obtain ⟨kk, hk1⟩ : ∃ kk, kk = k + 1 := ⟨_, rfl⟩
            rw [← hk1] at hbl hbh kp hst hgr
            have e1 : (k : Int) + 1 = (kk : Int) := by omega
            rw [e1] at hlti ⊢
            have HK1 := Lib.hid (And.intro hk1 e1)
            have KK := Lib.hid kp
            have HSTK := Lib.hid hst
            have HGR := Lib.hid hgr
            have H := Lib.hid hw
            clear hk1 e1 kp hst hgr hw
            go_wp2_with fail
            with_reducible refine (KK.out _ _ H.out).mono ?_
            clear q0 q1 q2 q3 H
            rintro e w1 ⟨lv, hv, rfl, h⟩
            obtain ⟨T, u1, u2, hx, rfl, rfl, in1, in2, h⟩ := h.lend2
            have HXT := Lib.hid hx
            have h2 := (h.alloc (.cells #[.bool (n.lo kk).leaf, .slice u1.a1 (n.lo kk).ks.length u1.c1, .slice u1.a2 (n.lo kk).vs.length u1.c2, .slice u1.a3 (n.lo kk).ls.length u1.c3] NT)).alloc (.cells #[.bool (n.hi kk).leaf, .slice u2.a1 (n.hi kk).ks.length u2.c1, .slice u2.a2 (n.hi kk).vs.length u2.c2, .slice u2.a3 (n.hi kk).ls.length u2.c3] NT)
            rw [alloc_size] at h2
            have hs1 := fun w M hw => xsize_any (E := E) (S := T) (L := M) u1 (n.lo kk) w (by omega) in1 hw
            have hs2 := fun w M hw => xsize_any (E := E) (S := T) (L := M) u2 (n.hi kk) w (by omega) in2 hw
            have HS1 := Lib.hid hs1
            have HS2 := Lib.hid hs2
            obtain ⟨gl, hgl⟩ : ∃ x, x = w1.heap.size := ⟨_, rfl⟩
            rw [← hgl] at h2
            obtain ⟨m, hm⟩ : ∃ m, m = n.gr kk := ⟨_, rfl⟩
            have hmm : m = max (n.lo kk).size (n.hi kk).size := by rw [hm, HGR.out]
            have HM := Lib.hid hm
            generalize (n.lo kk).size = s1 at *
            generalize (n.hi kk).size = s2 at *
            have j5 : (if (s1 : Int) < (s2 : Int) then Value.int .i64 (s2 : Int) else Value.int .i64 (s1 : Int)) = Value.int .i64 (m : Int) := by split <;> (congr 1; omega)
            have j6 : (if (s1 : Int) < (s2 : Int) then (s2 : Int) else (s1 : Int)) = (m : Int) := by split <;> omega
            have j7 : (if s1 < s2 then (s2 : Int) else (s1 : Int)) = (m : Int) := by split <;> omega
            have HC : Hid (∀ w', (∃ L', Own E w' (Hp.blk gl NT #[.bool (n.lo kk).leaf, .slice u1.a1 (n.lo kk).ks.length u1.c1, .slice u1.a2 (n.lo kk).vs.length u1.c2, .slice u1.a3 (n.lo kk).ls.length u1.c3] :: L')) → (∃ L', Own E w' (Hp.blk (gl + 1) NT #[.bool (n.hi kk).leaf, .slice u2.a1 (n.hi kk).ks.length u2.c1, .slice u2.a2 (n.hi kk).vs.length u2.c2, .slice u2.a3 (n.hi kk).ls.length u2.c3] :: L')) → w'.rangeAt gl 0 [.bool (n.lo kk).leaf, .slice u1.a1 (n.lo kk).ks.length u1.c1, .slice u1.a2 (n.lo kk).vs.length u1.c2, .slice u1.a3 (n.lo kk).ls.length u1.c3] ∧ w'.rangeAt (gl + 1) 0 [.bool (n.hi kk).leaf, .slice u2.a1 (n.hi kk).ks.length u2.c1, .slice u2.a2 (n.hi kk).vs.length u2.c2, .slice u2.a3 (n.hi kk).ls.length u2.c3]) := Lib.hid fun w' h3 h4 => by
              obtain ⟨_, h3⟩ := h3
              obtain ⟨_, h4⟩ := h4
              exact ⟨h3.range 0 _ (fun j u hu => by simpa using hu), h4.range 0 _ (fun j u hu => by simpa using hu)⟩
            have H := Lib.hid h2.drew
            clear h h2 hs1 hs2 hx in1 in2 hbl hbh hmm hm
            go_wp2_with fail
            rw [← hgl]
            clear hgl
            have h : Own E _ (Hp.blk gl NT #[.bool (n.lo kk).leaf, .slice u1.a1 (n.lo kk).ks.length u1.c1, .slice u1.a2 (n.lo kk).vs.length u1.c2, .slice u1.a3 (n.lo kk).ls.length u1.c3] :: Hp.blk (gl + 1) NT #[.bool (n.hi kk).leaf, .slice u2.a1 (n.hi kk).ks.length u2.c1, .slice u2.a2 (n.hi kk).vs.length u2.c2, .slice u2.a3 (n.hi kk).ls.length u2.c3] :: Hp.ro T :: Hp.blk (g + 2) NT #[.bool false, .slice none 0 0, .slice none 0 0, .slice none 0 0] :: Hp.blk (g + 1) NT #[.bool false, .slice none 0 0, .slice none 0 0, .slice none 0 0] :: Hp.blk g NT #[.bool leaf, .slice a1 nk c1, .slice a2 nv c2, .slice a3 nlz c3] :: L) := H.out.ac (by unfold Hp.blk; simp only [Hp.all] <;> ac_rfl)
            clear H
            refine wp_region_text [0, 2] (fun w' => w'.rangeAt gl 0 [.bool (n.lo kk).leaf, .slice u1.a1 (n.lo kk).ks.length u1.c1, .slice u1.a2 (n.lo kk).vs.length u1.c2, .slice u1.a3 (n.lo kk).ls.length u1.c3] ∧ w'.rangeAt (gl + 1) 0 [.bool (n.hi kk).leaf, .slice u2.a1 (n.hi kk).ks.length u2.c1, .slice u2.a2 (n.hi kk).vs.length u2.c2, .slice u2.a3 (n.hi kk).ls.length u2.c3]) (by kernel_rfl) ?_ (fun hS => ?_)
            · exact HC.out _ h.has h.has
            refine wpAnyG_load (i := 0) (oi := ⟨some 65, _, _, _, _, _⟩) (v := (.agg #[.bool (n.lo kk).leaf, .slice u1.a1 (n.lo kk).ks.length u1.c1, .slice u1.a2 (n.lo kk).vs.length u1.c2, .slice u1.a3 (n.lo kk).ls.length u1.c3])) rfl (by kernel_rfl) (by kernel_rfl) (by kernel_rfl) (by rfl) (fun _ _ _ h => h) (by rfl) ?_ (by assumption) ?_
            · intro w hS
              exact exec_load_mid NT (.tmp 12) rfl gl 0 (by rfl) [.bool (n.lo kk).leaf, .slice u1.a1 (n.lo kk).ks.length u1.c1, .slice u1.a2 (n.lo kk).vs.length u1.c2, .slice u1.a3 (n.lo kk).ls.length u1.c3] _ hS.1 Tryz.underlying25 rfl (by kernel_rfl)
            try simp only [Act.put, List.setIfInBounds_toArray, List.set_cons_zero, List.set_cons_succ]
            refine wpAnyG_load (i := 2) (oi := ⟨some 67, _, _, _, _, _⟩) (v := (.agg #[.bool (n.hi kk).leaf, .slice u2.a1 (n.hi kk).ks.length u2.c1, .slice u2.a2 (n.hi kk).vs.length u2.c2, .slice u2.a3 (n.hi kk).ls.length u2.c3])) rfl (by kernel_rfl) (by kernel_rfl) (by kernel_rfl) (by rfl) (fun _ _ _ h => h) (by rfl) ?_ (by assumption) ?_
            · intro w hS
              exact exec_load_mid NT (.tmp 14) rfl (gl + 1) 0 (by rfl) [.bool (n.hi kk).leaf, .slice u2.a1 (n.hi kk).ks.length u2.c1, .slice u2.a2 (n.hi kk).vs.length u2.c2, .slice u2.a3 (n.hi kk).ls.length u2.c3] _ hS.2 Tryz.underlying25 rfl (by kernel_rfl)
            try simp only [Act.put, List.setIfInBounds_toArray, List.set_cons_zero, List.set_cons_succ]
            refine wpAnyG_keep (i := 1) (oi := ⟨some 66, _, _, _, _, _⟩) (by kernel_rfl) rfl (fun K hK => ?_)
            rw [if_pos (by rfl)]
            go_simp
            first | have h := (h : Own _ _ (Hp.ro T :: _)) | have h := (h.f1 : Own _ _ (Hp.ro T :: _)) | have h := (h.f2 : Own _ _ (Hp.ro T :: _)) | have h := (h.f3 : Own _ _ (Hp.ro T :: _)) | have h := (h.f4 : Own _ _ (Hp.ro T :: _)) | have h := (h.f5 : Own _ _ (Hp.ro T :: _)) | have h := (h.f6 : Own _ _ (Hp.ro T :: _)) | have h := (h.f7 : Own _ _ (Hp.ro T :: _)) | have h := (h.f8 : Own _ _ (Hp.ro T :: _)) | have h := (h.f9 : Own _ _ (Hp.ro T :: _)) | have h := (h.f10 : Own _ _ (Hp.ro T :: _)) | have h := (h.f11 : Own _ _ (Hp.ro T :: _)) | have h := (h.f12 : Own _ _ (Hp.ro T :: _)) | have h := (h.f13 : Own _ _ (Hp.ro T :: _)) | have h := (h.f14 : Own _ _ (Hp.ro T :: _)) | have h := (h.f15 : Own _ _ (Hp.ro T :: _))
            with_reducible refine (HS1.out _ _ h).mono ?_
            rintro e w5 ⟨rfl, h⟩
            refine hK.out _ _ ?_ (fun hS => ?_)
            · exact HC.out _ h.has h.has
            clear hK K
            try simp only [Act.put, List.setIfInBounds_toArray, List.set_cons_zero, List.set_cons_succ]
            refine wpAnyG_keep (i := 3) (oi := ⟨some 68, _, _, _, _, _⟩) (by kernel_rfl) rfl (fun K hK => ?_)
            rw [if_pos (by rfl)]
            go_simp
            first | have h := (h : Own _ _ (Hp.ro T :: _)) | have h := (h.f1 : Own _ _ (Hp.ro T :: _)) | have h := (h.f2 : Own _ _ (Hp.ro T :: _)) | have h := (h.f3 : Own _ _ (Hp.ro T :: _)) | have h := (h.f4 : Own _ _ (Hp.ro T :: _)) | have h := (h.f5 : Own _ _ (Hp.ro T :: _)) | have h := (h.f6 : Own _ _ (Hp.ro T :: _)) | have h := (h.f7 : Own _ _ (Hp.ro T :: _)) | have h := (h.f8 : Own _ _ (Hp.ro T :: _)) | have h := (h.f9 : Own _ _ (Hp.ro T :: _)) | have h := (h.f10 : Own _ _ (Hp.ro T :: _)) | have h := (h.f11 : Own _ _ (Hp.ro T :: _)) | have h := (h.f12 : Own _ _ (Hp.ro T :: _)) | have h := (h.f13 : Own _ _ (Hp.ro T :: _)) | have h := (h.f14 : Own _ _ (Hp.ro T :: _)) | have h := (h.f15 : Own _ _ (Hp.ro T :: _))
            with_reducible refine (HS2.out _ _ h).mono ?_
            rintro e w6 ⟨rfl, h⟩
            refine hK.out _ _ ?_ (fun hS => ?_)
            · exact HC.out _ h.has h.has
            clear hK K
            try simp only [Act.put, List.setIfInBounds_toArray, List.set_cons_zero, List.set_cons_succ]
            refine wpAnyG_pure (i := 4) (oi := ⟨some 69, _, _, _, _, _⟩) (v := ?_) rfl (by kernel_rfl) (by kernel_rfl) (by kernel_rfl) (by rfl) (fun _ _ _ h => h) (by rfl) ?_ ?_
            rotate_left
            · intro w
              go_simp
              first | done | with_reducible rfl
            try simp only [Act.put, List.setIfInBounds_toArray, List.set_cons_zero, List.set_cons_succ]
            refine wpAnyG_pure (i := 5) (oi := ⟨some 15, _, _, _, _, _⟩) (v := ?_) rfl (by kernel_rfl) (by kernel_rfl) (by kernel_rfl) (by rfl) (fun _ _ _ h => h) (by rfl) ?_ ?_
            rotate_left
            · intro w
              go_simp
              first | done | with_reducible rfl
            try simp only [Act.put, List.setIfInBounds_toArray, List.set_cons_zero, List.set_cons_succ]
            refine wpAnyG_done (by kernel_rfl) ?_ _
            refine NoPanic.normal ?_
            have h := h.back HXT.out
            have h : Own E _ (Hp.ro S :: Hp.blk (g + 2) NT #[.bool false, .slice none 0 0, .slice none 0 0, .slice none 0 0] :: Hp.blk (g + 1) NT #[.bool false, .slice none 0 0, .slice none 0 0, .slice none 0 0] :: Hp.blk g NT #[.bool leaf, .slice a1 nk c1, .slice a2 nv c2, .slice a3 nlz c3] :: L) := (show Own E _ (Hp.blk gl NT #[.bool (n.lo kk).leaf, .slice u1.a1 (n.lo kk).ks.length u1.c1, .slice u1.a2 (n.lo kk).vs.length u1.c2, .slice u1.a3 (n.lo kk).ls.length u1.c3] :: Hp.blk (gl + 1) NT #[.bool (n.hi kk).leaf, .slice u2.a1 (n.hi kk).ks.length u2.c1, .slice u2.a2 (n.hi kk).vs.length u2.c2, .slice u2.a3 (n.hi kk).ls.length u2.c3] :: Hp.ro S :: Hp.blk (g + 2) NT #[.bool false, .slice none 0 0, .slice none 0 0, .slice none 0 0] :: Hp.blk (g + 1) NT #[.bool false, .slice none 0 0, .slice none 0 0, .slice none 0 0] :: Hp.blk g NT #[.bool leaf, .slice a1 nk c1, .slice a2 nv c2, .slice a3 nlz c3] :: L) from h.ac (by simp only [Hp.all] <;> ac_rfl)).drop.drop
            have H := Lib.hid h
            clear h HC HS1 HS2 HXT j5 j6 j7
            rcases (show (k = 0 ∧ aa = 0 ∧ bb = 0) ∨ (1 ≤ k ∧ 1 ≤ aa ∧ aa = cutRun n k ∧ bb = n.gr aa) from by
              rcases HBEST.out with hb | ⟨hb, h1, h2⟩
              · exact .inl hb
              · exact .inr ⟨hb, by rw [h1]; exact (cutRun_in n k).1, h1, h2⟩) with ⟨hk0, rfl, rfl⟩ | ⟨hk0, hbp, haa, hbb⟩
            · go_wp2_with fail
              go_roundw
              case rel =>
                obtain ⟨e1, e2⟩ := HK1.out
                exact ⟨kk, kk, m, by omega, by go_num, rfl, rfl, .inr ⟨by omega, by rw [HSTK.out, if_pos (.inl hk0)], HM.out⟩, H.out⟩
              case measure => simp [intOf]; omega
            · have z1 : ¬ (aa : Int) = 0 := by omega
              have z2 : ((aa : Int) == 0) = false := by rw [beq_eq_false_iff_ne]; exact z1
              have HAB := Lib.hid (And.intro haa hbb)
              rw [← haa, ← hbb, ← HM.out] at HSTK
              clear haa hbb
              by_cases hgl : m < bb
              · have hgi : (m : Int) < bb := by omega
                go_wp2_with fail
                go_roundw
                case rel =>
                  obtain ⟨e1, e2⟩ := HK1.out
                  exact ⟨kk, kk, m, by omega, by go_num, rfl, rfl, .inr ⟨by omega, by rw [HSTK.out, if_pos (.inr hgl)], HM.out⟩, H.out⟩
                case measure => simp [intOf]; omega
              · have hgi : ¬ (m : Int) < bb := by omega
                go_wp2_with fail
                go_roundw
                case rel =>
                  obtain ⟨e1, e2⟩ := HK1.out
                  exact ⟨kk, aa, bb, by omega, by go_num, rfl, rfl, .inr ⟨by omega, by rw [HSTK.out, if_neg (fun h => h.elim (fun h => by omega) hgl)], HAB.out.2⟩, H.out⟩
                case measure => simp [intOf]; omega
          · obtain rfl : last = k := by omega
            have hlti : ¬ (last : Int) + 1 ≤ last := by omega
            have haa : aa = cutRun n last := by
              rcases HBEST.out with ⟨hb, _⟩ | ⟨_, hb, _⟩
              · omega
              · exact hb
            obtain ⟨e1, e2, e3⟩ := HEE.out
            have hci := cutRun_in n last
            have kp := fun w M hw => KP.out (cutRun n last) w M hci.1 (by omega) hw
            rw [← e1, ← e2, ← e3, ← haa] at kp
            have KQ := Lib.hid kp
            have H := Lib.hid hw
            clear hw hlt hk HBEST e1 e2 e3 hci kp KP HEE haa HST HLB HHB
            go_wp2_with fail
            with_reducible refine (KQ.out _ _ H.out).mono ?_
            clear q0 q1 q2 q3 H KQ
            rintro e w1 ⟨lv, hv, rfl, h⟩
            obtain ⟨q1, rfl, h⟩ := h.nodeShape
            obtain ⟨q2, rfl, h⟩ := h.f1.nodeShape
            have h2 := (h.alloc (.cells #[.bool sa.leaf, .slice q1.a1 sa.ks.length q1.c1, .slice q1.a2 sa.vs.length q1.c2, .slice q1.a3 sa.ls.length q1.c3] NT)).alloc (.cells #[.bool sb.leaf, .slice q2.a1 sb.ks.length q2.c1, .slice q2.a2 sb.vs.length q2.c2, .slice q2.a3 sb.ls.length q2.c3] NT)
            rw [alloc_size] at h2
            obtain ⟨g8, hg8⟩ : ∃ x, x = w1.heap.size := ⟨_, rfl⟩
            rw [← hg8] at h2
            have HC8 : Hid (∀ w', (∃ L', Own E w' (Hp.blk g8 NT #[.bool sa.leaf, .slice q1.a1 sa.ks.length q1.c1, .slice q1.a2 sa.vs.length q1.c2, .slice q1.a3 sa.ls.length q1.c3] :: L')) → (∃ L', Own E w' (Hp.blk (g8 + 1) NT #[.bool sb.leaf, .slice q2.a1 sb.ks.length q2.c1, .slice q2.a2 sb.vs.length q2.c2, .slice q2.a3 sb.ls.length q2.c3] :: L')) → w'.rangeAt g8 0 [.bool sa.leaf, .slice q1.a1 sa.ks.length q1.c1, .slice q1.a2 sa.vs.length q1.c2, .slice q1.a3 sa.ls.length q1.c3] ∧ w'.rangeAt (g8 + 1) 0 [.bool sb.leaf, .slice q2.a1 sb.ks.length q2.c1, .slice q2.a2 sb.vs.length q2.c2, .slice q2.a3 sb.ls.length q2.c3]) := Lib.hid fun w' h3 h4 => by
              obtain ⟨_, h3⟩ := h3
              obtain ⟨_, h4⟩ := h4
              exact ⟨h3.range 0 _ (fun j u hu => by simpa using hu), h4.range 0 _ (fun j u hu => by simpa using hu)⟩
            have H := Lib.hid h2.drew
            clear h h2
            go_wp2_with fail
            rw [← hg8]
            clear hg8
            have h : Own E _ (Hp.blk g8 NT #[.bool sa.leaf, .slice q1.a1 sa.ks.length q1.c1, .slice q1.a2 sa.vs.length q1.c2, .slice q1.a3 sa.ls.length q1.c3] :: Hp.blk (g8 + 1) NT #[.bool sb.leaf, .slice q2.a1 sb.ks.length q2.c1, .slice q2.a2 sb.vs.length q2.c2, .slice q2.a3 sb.ls.length q2.c3] :: Hp.node (q1.val sa) sa :: Hp.node (q2.val sb) sb :: Hp.blk (g + 1) NT #[.bool false, .slice none 0 0, .slice none 0 0, .slice none 0 0] :: Hp.blk (g + 2) NT #[.bool false, .slice none 0 0, .slice none 0 0, .slice none 0 0] :: Hp.blk g NT #[.bool leaf, .slice a1 nk c1, .slice a2 nv c2, .slice a3 nlz c3] :: Hp.ro S :: L) := H.out.ac (by unfold Hp.blk; simp only [Hp.all] <;> ac_rfl)
            clear H
            refine wp_region_text [0, 2] (fun w' => w'.rangeAt g8 0 [.bool sa.leaf, .slice q1.a1 sa.ks.length q1.c1, .slice q1.a2 sa.vs.length q1.c2, .slice q1.a3 sa.ls.length q1.c3] ∧ w'.rangeAt (g8 + 1) 0 [.bool sb.leaf, .slice q2.a1 sb.ks.length q2.c1, .slice q2.a2 sb.vs.length q2.c2, .slice q2.a3 sb.ls.length q2.c3]) (by kernel_rfl) ?_ (fun hS => ?_)
            · exact HC8.out _ h.has h.has
            refine wpAnyG_load (i := 0) (oi := ⟨some 86, _, _, _, _, _⟩) (v := (.agg #[.bool sa.leaf, .slice q1.a1 sa.ks.length q1.c1, .slice q1.a2 sa.vs.length q1.c2, .slice q1.a3 sa.ls.length q1.c3])) rfl (by kernel_rfl) (by kernel_rfl) (by kernel_rfl) (by rfl) (fun _ _ _ h => h) (by rfl) ?_ (by assumption) ?_
            · intro w hS
              exact exec_load_mid NT (.tmp 16) rfl g8 0 (by rfl) [.bool sa.leaf, .slice q1.a1 sa.ks.length q1.c1, .slice q1.a2 sa.vs.length q1.c2, .slice q1.a3 sa.ls.length q1.c3] _ hS.1 Tryz.underlying25 rfl (by kernel_rfl)
            try simp only [Act.put, List.setIfInBounds_toArray, List.set_cons_zero, List.set_cons_succ]
            refine wpAnyG_pure (i := 1) (oi := ⟨some 87, _, _, _, _, _⟩) (v := ?_) rfl (by kernel_rfl) (by kernel_rfl) (by kernel_rfl) (by rfl) (fun _ _ _ h => h) (by rfl) ?_ ?_
            rotate_left
            · intro w
              go_simp
              first | done | with_reducible rfl
            try simp only [Act.put, List.setIfInBounds_toArray, List.set_cons_zero, List.set_cons_succ]
            refine wpAnyG_load (i := 2) (oi := ⟨some 88, _, _, _, _, _⟩) (v := (.agg #[.bool sb.leaf, .slice q2.a1 sb.ks.length q2.c1, .slice q2.a2 sb.vs.length q2.c2, .slice q2.a3 sb.ls.length q2.c3])) rfl (by kernel_rfl) (by kernel_rfl) (by kernel_rfl) (by rfl) (fun _ _ _ h => h) (by rfl) ?_ (by assumption) ?_
            · intro w hS
              exact exec_load_mid NT (.tmp 18) rfl (g8 + 1) 0 (by rfl) [.bool sb.leaf, .slice q2.a1 sb.ks.length q2.c1, .slice q2.a2 sb.vs.length q2.c2, .slice q2.a3 sb.ls.length q2.c3] _ hS.2 Tryz.underlying25 rfl (by kernel_rfl)
            try simp only [Act.put, List.setIfInBounds_toArray, List.set_cons_zero, List.set_cons_succ]
            refine wpAnyG_keep (i := 3) (oi := ⟨none, _, _, _, _, _⟩) (by kernel_rfl) rfl (fun K hK => ?_)
            rw [if_pos (by rfl)]
            first | have h := (h : Own _ _ (Hp.blk (g + 1) NT _ :: _)) | have h := (h.f1 : Own _ _ (Hp.blk (g + 1) NT _ :: _)) | have h := (h.f2 : Own _ _ (Hp.blk (g + 1) NT _ :: _)) | have h := (h.f3 : Own _ _ (Hp.blk (g + 1) NT _ :: _)) | have h := (h.f4 : Own _ _ (Hp.blk (g + 1) NT _ :: _)) | have h := (h.f5 : Own _ _ (Hp.blk (g + 1) NT _ :: _)) | have h := (h.f6 : Own _ _ (Hp.blk (g + 1) NT _ :: _)) | have h := (h.f7 : Own _ _ (Hp.blk (g + 1) NT _ :: _)) | have h := (h.f8 : Own _ _ (Hp.blk (g + 1) NT _ :: _)) | have h := (h.f9 : Own _ _ (Hp.blk (g + 1) NT _ :: _)) | have h := (h.f10 : Own _ _ (Hp.blk (g + 1) NT _ :: _)) | have h := (h.f11 : Own _ _ (Hp.blk (g + 1) NT _ :: _)) | have h := (h.f12 : Own _ _ (Hp.blk (g + 1) NT _ :: _)) | have h := (h.f13 : Own _ _ (Hp.blk (g + 1) NT _ :: _)) | have h := (h.f14 : Own _ _ (Hp.blk (g + 1) NT _ :: _)) | have h := (h.f15 : Own _ _ (Hp.blk (g + 1) NT _ :: _))
            refine wp_store_whole (cs := [.bool false, .slice none 0 0, .slice none 0 0, .slice none 0 0]) (vs := [.bool sa.leaf, .slice q1.a1 sa.ks.length q1.c1, .slice q1.a2 sa.vs.length q1.c2, .slice q1.a3 sa.ls.length q1.c3]) h rfl (ND_all1 _ _ _ _ rfl rfl rfl) (by kernel_rfl) rfl rfl rfl (fun w9 h => ?_)
            refine hK.out _ _ ?_ (fun hS => ?_)
            · exact HC8.out _ h.has h.has
            clear hK K
            try simp only [Act.put]
            refine wpAnyG_pure (i := 4) (oi := ⟨some 3, _, _, _, _, _⟩) (v := ?_) rfl (by kernel_rfl) (by kernel_rfl) (by kernel_rfl) (by rfl) (fun _ _ _ h => h) (by rfl) ?_ ?_
            rotate_left
            · intro w
              go_simp
              first | done | with_reducible rfl
            try simp only [Act.put, List.setIfInBounds_toArray, List.set_cons_zero, List.set_cons_succ]
            refine wpAnyG_keep (i := 5) (oi := ⟨none, _, _, _, _, _⟩) (by kernel_rfl) rfl (fun K hK => ?_)
            rw [if_pos (by rfl)]
            first | have h := (h : Own _ _ (Hp.blk (g + 2) NT _ :: _)) | have h := (h.f1 : Own _ _ (Hp.blk (g + 2) NT _ :: _)) | have h := (h.f2 : Own _ _ (Hp.blk (g + 2) NT _ :: _)) | have h := (h.f3 : Own _ _ (Hp.blk (g + 2) NT _ :: _)) | have h := (h.f4 : Own _ _ (Hp.blk (g + 2) NT _ :: _)) | have h := (h.f5 : Own _ _ (Hp.blk (g + 2) NT _ :: _)) | have h := (h.f6 : Own _ _ (Hp.blk (g + 2) NT _ :: _)) | have h := (h.f7 : Own _ _ (Hp.blk (g + 2) NT _ :: _)) | have h := (h.f8 : Own _ _ (Hp.blk (g + 2) NT _ :: _)) | have h := (h.f9 : Own _ _ (Hp.blk (g + 2) NT _ :: _)) | have h := (h.f10 : Own _ _ (Hp.blk (g + 2) NT _ :: _)) | have h := (h.f11 : Own _ _ (Hp.blk (g + 2) NT _ :: _)) | have h := (h.f12 : Own _ _ (Hp.blk (g + 2) NT _ :: _)) | have h := (h.f13 : Own _ _ (Hp.blk (g + 2) NT _ :: _)) | have h := (h.f14 : Own _ _ (Hp.blk (g + 2) NT _ :: _)) | have h := (h.f15 : Own _ _ (Hp.blk (g + 2) NT _ :: _))
            refine wp_store_whole (cs := [.bool false, .slice none 0 0, .slice none 0 0, .slice none 0 0]) (vs := [.bool sb.leaf, .slice q2.a1 sb.ks.length q2.c1, .slice q2.a2 sb.vs.length q2.c2, .slice q2.a3 sb.ls.length q2.c3]) h rfl (ND_all1 _ _ _ _ rfl rfl rfl) (by kernel_rfl) rfl rfl rfl (fun w9 h => ?_)
            refine hK.out _ _ ?_ (fun hS => ?_)
            · exact HC8.out _ h.has h.has
            clear hK K
            try simp only [Act.put]
            refine wpAnyG_pure (i := 6) (oi := ⟨some 5, _, _, _, _, _⟩) (v := ?_) rfl (by kernel_rfl) (by kernel_rfl) (by kernel_rfl) (by rfl) (fun _ _ _ h => h) (by rfl) ?_ ?_
            rotate_left
            · intro w
              go_simp
              first | done | with_reducible rfl
            try simp only [Act.put, List.setIfInBounds_toArray, List.set_cons_zero, List.set_cons_succ]
            refine wpAnyG_done (by kernel_rfl) ?_ _
            refine NoPanic.normal ?_
            go_wp2_with fail
            first | have h := (h : Own _ _ (Hp.blk (g + 1) NT _ :: _)) | have h := (h.f1 : Own _ _ (Hp.blk (g + 1) NT _ :: _)) | have h := (h.f2 : Own _ _ (Hp.blk (g + 1) NT _ :: _)) | have h := (h.f3 : Own _ _ (Hp.blk (g + 1) NT _ :: _)) | have h := (h.f4 : Own _ _ (Hp.blk (g + 1) NT _ :: _)) | have h := (h.f5 : Own _ _ (Hp.blk (g + 1) NT _ :: _)) | have h := (h.f6 : Own _ _ (Hp.blk (g + 1) NT _ :: _)) | have h := (h.f7 : Own _ _ (Hp.blk (g + 1) NT _ :: _)) | have h := (h.f8 : Own _ _ (Hp.blk (g + 1) NT _ :: _)) | have h := (h.f9 : Own _ _ (Hp.blk (g + 1) NT _ :: _)) | have h := (h.f10 : Own _ _ (Hp.blk (g + 1) NT _ :: _)) | have h := (h.f11 : Own _ _ (Hp.blk (g + 1) NT _ :: _)) | have h := (h.f12 : Own _ _ (Hp.blk (g + 1) NT _ :: _)) | have h := (h.f13 : Own _ _ (Hp.blk (g + 1) NT _ :: _)) | have h := (h.f14 : Own _ _ (Hp.blk (g + 1) NT _ :: _)) | have h := (h.f15 : Own _ _ (Hp.blk (g + 1) NT _ :: _))
            refine bodyPost_ret (results_ctct rfl rfl rfl h hnt hnr (by kernel_rfl) (by kernel_rfl)) rfl ?_
            refine ⟨_, _, rfl, ?_⟩
            have h := h.drop.drop
            first | have h := (h : Own _ _ (Hp.blk g8 NT _ :: _)) | have h := (h.f1 : Own _ _ (Hp.blk g8 NT _ :: _)) | have h := (h.f2 : Own _ _ (Hp.blk g8 NT _ :: _)) | have h := (h.f3 : Own _ _ (Hp.blk g8 NT _ :: _)) | have h := (h.f4 : Own _ _ (Hp.blk g8 NT _ :: _)) | have h := (h.f5 : Own _ _ (Hp.blk g8 NT _ :: _)) | have h := (h.f6 : Own _ _ (Hp.blk g8 NT _ :: _)) | have h := (h.f7 : Own _ _ (Hp.blk g8 NT _ :: _)) | have h := (h.f8 : Own _ _ (Hp.blk g8 NT _ :: _)) | have h := (h.f9 : Own _ _ (Hp.blk g8 NT _ :: _)) | have h := (h.f10 : Own _ _ (Hp.blk g8 NT _ :: _)) | have h := (h.f11 : Own _ _ (Hp.blk g8 NT _ :: _)) | have h := (h.f12 : Own _ _ (Hp.blk g8 NT _ :: _)) | have h := (h.f13 : Own _ _ (Hp.blk g8 NT _ :: _)) | have h := (h.f14 : Own _ _ (Hp.blk g8 NT _ :: _)) | have h := (h.f15 : Own _ _ (Hp.blk g8 NT _ :: _))
            have h := h.drop
            first | have h := (h : Own _ _ (Hp.blk (g8 + 1) NT _ :: _)) | have h := (h.f1 : Own _ _ (Hp.blk (g8 + 1) NT _ :: _)) | have h := (h.f2 : Own _ _ (Hp.blk (g8 + 1) NT _ :: _)) | have h := (h.f3 : Own _ _ (Hp.blk (g8 + 1) NT _ :: _)) | have h := (h.f4 : Own _ _ (Hp.blk (g8 + 1) NT _ :: _)) | have h := (h.f5 : Own _ _ (Hp.blk (g8 + 1) NT _ :: _)) | have h := (h.f6 : Own _ _ (Hp.blk (g8 + 1) NT _ :: _)) | have h := (h.f7 : Own _ _ (Hp.blk (g8 + 1) NT _ :: _)) | have h := (h.f8 : Own _ _ (Hp.blk (g8 + 1) NT _ :: _)) | have h := (h.f9 : Own _ _ (Hp.blk (g8 + 1) NT _ :: _)) | have h := (h.f10 : Own _ _ (Hp.blk (g8 + 1) NT _ :: _)) | have h := (h.f11 : Own _ _ (Hp.blk (g8 + 1) NT _ :: _)) | have h := (h.f12 : Own _ _ (Hp.blk (g8 + 1) NT _ :: _)) | have h := (h.f13 : Own _ _ (Hp.blk (g8 + 1) NT _ :: _)) | have h := (h.f14 : Own _ _ (Hp.blk (g8 + 1) NT _ :: _)) | have h := (h.f15 : Own _ _ (Hp.blk (g8 + 1) NT _ :: _))
            have h := h.drop
            first | have h := (h : Own _ _ (Hp.blk g NT _ :: _)) | have h := (h.f1 : Own _ _ (Hp.blk g NT _ :: _)) | have h := (h.f2 : Own _ _ (Hp.blk g NT _ :: _)) | have h := (h.f3 : Own _ _ (Hp.blk g NT _ :: _)) | have h := (h.f4 : Own _ _ (Hp.blk g NT _ :: _)) | have h := (h.f5 : Own _ _ (Hp.blk g NT _ :: _)) | have h := (h.f6 : Own _ _ (Hp.blk g NT _ :: _)) | have h := (h.f7 : Own _ _ (Hp.blk g NT _ :: _)) | have h := (h.f8 : Own _ _ (Hp.blk g NT _ :: _)) | have h := (h.f9 : Own _ _ (Hp.blk g NT _ :: _)) | have h := (h.f10 : Own _ _ (Hp.blk g NT _ :: _)) | have h := (h.f11 : Own _ _ (Hp.blk g NT _ :: _)) | have h := (h.f12 : Own _ _ (Hp.blk g NT _ :: _)) | have h := (h.f13 : Own _ _ (Hp.blk g NT _ :: _)) | have h := (h.f14 : Own _ _ (Hp.blk g NT _ :: _)) | have h := (h.f15 : Own _ _ (Hp.blk g NT _ :: _))
            have h := h.drop
            exact h.ac (by simp only [Hp.all] <;> ac_rfl)
end
end Go.Proofs.YtbclmmneiphcaaaGreatDoor
