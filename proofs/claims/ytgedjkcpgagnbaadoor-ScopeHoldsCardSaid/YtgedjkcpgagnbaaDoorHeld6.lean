/- latchkeylaw06.held. -/
import Derived.Test.YtgedjkcpgagnbaaDoorReadsW6
import Derived.Test.YtgedjkcpgagnbaaDoorTellsW6
namespace Go.Proofs.YtgedjkcpgagnbaaDoor
open Go.RowKit
theorem those_len (xs ys : List ByteArray) (W : Bool) : (thoseV xs ys W).length ≤ 8 := by
  by_cases h : scErr xs = 0 ∧ scErr ys = 0
  · exact (right8 (those_right W h.1 h.2)).1
  · unfold thoseV; rw [if_neg h]; simp
section
variable {E : World} {S T : Ph} {L : List Hp}
set_option maxRecDepth 100000 in
set_option maxHeartbeats 8000000 in
theorem held_any (K A B C D : Option Addr) (ck ca cb cc cd : Nat) (rs : List Kl) (xs ys : List ByteArray) (w : World) (hrs : rs.length ≤ 100) (hA : Rds T 1 enStr A xs.length xs) (hB : Rds T 1 enStr B ys.length ys) (hC : Rds T 1 enStr C xs.length xs) (hD : Rds T 1 enStr D ys.length ys)
    (hca : xs.length ≤ ca) (hcb : ys.length ≤ cb) (hn : xs.length ≤ 8796093022208) (hm : ys.length ≤ 8796093022208) (hsx : ∀ x ∈ xs, x.size ≤ 1000000000000000000) (hsy : ∀ x ∈ ys, x.size ≤ 1000000000000000000)
    (h : Own E w (Hp.lst LST (.slice K rs.length ck) (rs.map Kl.v) :: famK rs :: Hp.ro T :: L)) :
    Calls Tryd.prog 18 #[.slice K rs.length ck, .slice A xs.length ca, .slice B ys.length cb, .slice C xs.length cc, .slice D ys.length cd] w fun e w' => ∃ (K' : Option Addr) (ck' : Nat) (r1 r2 r3 : Kl), (r1.xs.length ≤ 8 ∧ r2.xs.length ≤ 8 ∧ r3.xs.length ≤ 8) ∧ e = .returned (.tuple #[.slice K' (rs.length + 3) ck', .bool true]) ∧
      Own E w' (Hp.lst LST (.slice K' (rs.length + 3) ck') ((rs ++ [r1, r2, r3]).map Kl.v) :: famK (rs ++ [r1, r2, r3]) :: Hp.ro T :: L) := by
  obtain ⟨j, hj⟩ : ∃ j, j = (joinV xs ys).1 := ⟨_, rfl⟩
  obtain ⟨ej, hej⟩ : ∃ ej, ej = (joinV xs ys).2 := ⟨_, rfl⟩
  obtain ⟨m, hmm⟩ : ∃ m, m = thoseV xs ys true := ⟨_, rfl⟩
  obtain ⟨n, hnn⟩ : ∃ n, n = thoseV xs ys false := ⟨_, rfl⟩
  obtain ⟨wi, hwi⟩ : ∃ wi, wi = withinV xs ys := ⟨_, rfl⟩
  have lj : j.length ≤ 8 := by rw [hj]; exact join_small xs ys
  have lm : m.length ≤ 8 := by rw [hmm]; exact those_len xs ys true
  have ln : n.length ≤ 8 := by rw [hnn]; exact those_len xs ys false
  have KJ : Hid (∀ w M, Own E w (Hp.ro T :: M) → Calls Tryd.prog 23 #[.slice A xs.length ca, .slice B ys.length cb] w fun e w' => ∃ A' c', e = .returned (.tuple #[.slice A' j.length c', .int .i64 ej]) ∧ Own E w' (Hp.ro T :: Hp.lst ST (.slice A' j.length c') (j.map Value.string) :: M)) := Lib.hid fun w M h => by
    refine (join6_any _ _ xs.length _ ys.length _ xs ys w hA hB hca hcb hn hm h).mono ?_
    rw [← hj, ← hej]
    rintro e w' ⟨v, rfl, h2⟩
    obtain ⟨A', c', rfl, -⟩ := lst_len h2
    exact ⟨A', c', rfl, h2.f1⟩
  have KX : Hid (∀ w M, Own E w (Hp.ro T :: M) → Calls Tryd.prog 35 #[.slice C xs.length cc, .slice D ys.length cd] w fun e w' => ∃ A' c', e = .returned (.tuple #[.slice A' j.length c', .int .i64 ej]) ∧ Own E w' (Hp.ro T :: Hp.lst ST (.slice A' j.length c') (j.map Value.string) :: M)) := Lib.hid fun w M h => by
    refine (xjoin_any _ _ xs.length _ ys.length _ xs ys w hC hD hsx hsy hn hm h).mono ?_
    rw [← hj, ← hej]
    rintro e w' ⟨v, rfl, h2⟩
    obtain ⟨A', c', rfl, -⟩ := lst_len h2
    exact ⟨A', c', rfl, h2.f1⟩
  have KM : Hid (∀ w M, Own E w (Hp.ro T :: M) → Calls Tryd.prog 21 #[.slice A xs.length ca, .slice B ys.length cb] w fun e w' => ∃ A' c', e = .returned (.slice A' m.length c') ∧ Own E w' (Hp.ro T :: Hp.lst ST (.slice A' m.length c') (m.map Value.string) :: M)) := Lib.hid fun w M h => by
    refine (meet6_any _ _ xs.length _ ys.length _ xs ys w hA hB hca hcb hn hm h).mono ?_
    rw [← hmm]
    rintro e w' ⟨v, rfl, h2⟩
    obtain ⟨A', c', rfl, -⟩ := lst_len h2
    exact ⟨A', c', rfl, h2.f1⟩
  have KN : Hid (∀ w M, Own E w (Hp.ro T :: M) → Calls Tryd.prog 22 #[.slice A xs.length ca, .slice B ys.length cb] w fun e w' => ∃ A' c', e = .returned (.slice A' n.length c') ∧ Own E w' (Hp.ro T :: Hp.lst ST (.slice A' n.length c') (n.map Value.string) :: M)) := Lib.hid fun w M h => by
    refine (minus6_any _ _ xs.length _ ys.length _ xs ys w hA hB hca hcb hn hm h).mono ?_
    rw [← hnn]
    rintro e w' ⟨v, rfl, h2⟩
    obtain ⟨A', c', rfl, -⟩ := lst_len h2
    exact ⟨A', c', rfl, h2.f1⟩
  have KO : Hid (∀ w M, Own E w (Hp.ro T :: M) → Calls Tryd.prog 36 #[.slice C xs.length cc, .slice D ys.length cd] w fun e w' => ∃ A' c', e = .returned (.slice A' m.length c') ∧ Own E w' (Hp.ro T :: Hp.lst ST (.slice A' m.length c') (m.map Value.string) :: M)) := Lib.hid fun w M h => by
    refine (xmeet_any _ _ xs.length _ ys.length _ xs ys w hC hD hsx hsy hn hm h).mono ?_
    rw [← hmm]
    rintro e w' ⟨v, rfl, h2⟩
    obtain ⟨A', c', rfl, -⟩ := lst_len h2
    exact ⟨A', c', rfl, h2.f1⟩
  have KQ : Hid (∀ w M, Own E w (Hp.ro T :: M) → Calls Tryd.prog 37 #[.slice C xs.length cc, .slice D ys.length cd] w fun e w' => ∃ A' c', e = .returned (.slice A' n.length c') ∧ Own E w' (Hp.ro T :: Hp.lst ST (.slice A' n.length c') (n.map Value.string) :: M)) := Lib.hid fun w M h => by
    refine (xminus_any _ _ xs.length _ ys.length _ xs ys w hC hD hsx hsy hn hm h).mono ?_
    rw [← hnn]
    rintro e w' ⟨v, rfl, h2⟩
    obtain ⟨A', c', rfl, -⟩ := lst_len h2
    exact ⟨A', c', rfl, h2.f1⟩
  have KW : Hid (∀ w M, Own E w (Hp.ro T :: M) → Calls Tryd.prog 24 #[.slice A xs.length ca, .slice B ys.length cb] w fun e w' => e = .returned (.bool wi) ∧ Own E w' (Hp.ro T :: M)) := Lib.hid fun w M h => by
    rw [hwi]
    exact within6_any _ _ xs.length _ ys.length _ xs ys w hA hB hca hcb hn hm h
  have KV : Hid (∀ w M, Own E w (Hp.ro T :: M) → Calls Tryd.prog 38 #[.slice C xs.length cc, .slice D ys.length cd] w fun e w' => e = .returned (.bool wi) ∧ Own E w' (Hp.ro T :: M)) := Lib.hid fun w M h => by
    rw [hwi]
    exact xwithin_any _ _ xs.length _ ys.length _ xs ys w hC hD hsx hsy hn hm h
  have KS : Hid (∀ (A B : Option Addr) (c d : Nat) (zs : List ByteArray) (w : World) (M M1 M2 : List Hp), zs.length ≤ 8 → (∀ w, Own E w M → Own E w (Hp.lst ST (.slice A zs.length c) (zs.map Value.string) :: M1)) → (∀ w, Own E w M → Own E w (Hp.lst ST (.slice B zs.length d) (zs.map Value.string) :: M2)) → Own E w M → Calls Tryd.prog 12 #[.slice A zs.length c, .slice B zs.length d] w fun e w' => e = .returned (.bool true) ∧ Own E w' M) := Lib.hid fun A B c d zs w M M1 M2 hz h1 h2 h => by
    refine (same_any A B zs.length c zs.length d zs zs w (seen_lst (c := c) h1) (seen_lst (c := d) h2) (by omega) h).mono ?_
    rintro e w' ⟨rfl, h2⟩
    rw [decide_eq_true rfl]
    exact ⟨rfl, h2⟩
  have KP : Hid (∀ (A1 A3 A4 : Option Addr) (c1 c3 c4 : Nat) (w : World) (M : List Hp), Own E w (Hp.lst LST (.slice K rs.length ck) (rs.map Kl.v) :: M) → ∃ (K' : Option Addr) (ck' : Nat) (w' : World), (Builtin.append_ #[LLST, LLST] LLST #[.slice K rs.length ck, .slice (some ⟨w.heap.size, 0, none⟩) 3 3]).run Tryd.prog (w.alloc (.cells #[.slice A1 j.length c1, .slice A3 m.length c3, .slice A4 n.length c4] LST)) = .ok (.slice K' (rs.length + 3) ck') w' ∧
      Own E w' (Hp.lst LST (.slice K' (rs.length + 3) ck') ((rs ++ [(⟨.slice A1 j.length c1, j⟩ : Kl), ⟨.slice A3 m.length c3, m⟩, ⟨.slice A4 n.length c4, n⟩]).map Kl.v) :: M)) := Lib.hid fun A1 A3 A4 c1 c3 c4 w M h => by
    have hml : (rs.map Kl.v).length = rs.length := List.length_map _
    obtain ⟨v6, w6, hap, h⟩ := lst_append_new (P := Tryd.prog) (t := LLST) (ty := LLST) llst_u sst_info (by rfl) h #[.slice A1 j.length c1, .slice A3 m.length c3, .slice A4 n.length c4] 3 rfl (by simp [Value.oneCell']) (by unfold maxLen; omega) (by omega)
    obtain ⟨K', ck', rfl, -⟩ := h.lstSlice
    have e9 : (rs.map Kl.v ++ (#[.slice A1 j.length c1, .slice A3 m.length c3, .slice A4 n.length c4] : Array Value).toList).length = rs.length + 3 := by rw [List.length_append, hml]; rfl
    rw [e9] at h hap
    exact ⟨K', ck', w6, hap, by rw [List.map_append]; exact h⟩
  have H0 := Lib.hid (h.f2 : Own E w (Hp.ro T :: Hp.lst LST (.slice K rs.length ck) (rs.map Kl.v) :: famK rs :: L))
  have e1 : (ej == ej) = true := beq_self_eq_true _
  have e2 : (wi == wi) = true := beq_self_eq_true _
  clear h hA hB hC hD hsx hsy hj hej hmm hnn hwi hn hm hca hcb
  go_enter Tryd.func18, Tryd.ntmps18
  go_wp2_with (first
    | (with_reducible refine (KJ.out _ _ H0.out).mono ?_; clear KJ H0; rintro e w1 ⟨A1, c1, rfl, h⟩; have H1 := Lib.hid h; clear h)
    | (with_reducible refine (KX.out _ _ H1.out).mono ?_; clear KX H1; rintro e w2 ⟨A2, c2, rfl, h⟩; have H2 := Lib.hid h; clear h)
    | (with_reducible refine (KM.out _ _ H2.out).mono ?_; clear KM H2; rintro e w3 ⟨A3, c3, rfl, h⟩; have H3 := Lib.hid h; clear h)
    | (with_reducible refine (KN.out _ _ H3.out).mono ?_; clear KN H3; rintro e w4 ⟨A4, c4, rfl, h⟩; have H4 := Lib.hid h; clear h)
    | (with_reducible refine (KS.out _ _ _ _ j _ _ _ _ lj (fun w h => h.f4) (fun w h => h.f3) H4.out).mono ?_; clear H4; rintro e w5 ⟨rfl, h⟩; have H5 := Lib.hid h; clear h)
    | (with_reducible refine (KO.out _ _ H5.out).mono ?_; clear KO H5; rintro e w6 ⟨A6, c6, rfl, h⟩; have H6 := Lib.hid h; clear h)
    | (with_reducible refine (KS.out _ _ _ _ m _ _ _ _ lm (fun w h => h.f3) (fun w h => h.f1) H6.out).mono ?_; clear H6; rintro e w7 ⟨rfl, h⟩; have H7 := Lib.hid h; clear h)
    | (with_reducible refine (KQ.out _ _ H7.out).mono ?_; clear KQ H7; rintro e w8 ⟨A8, c8, rfl, h⟩; have H8 := Lib.hid h; clear h)
    | (with_reducible refine (KS.out _ _ _ _ n _ _ _ _ ln (fun w h => h.f3) (fun w h => h.f1) H8.out).mono ?_; clear H8; rintro e w9 ⟨rfl, h⟩; obtain ⟨K', ck', w10, hap, h⟩ := KP.out A1 A3 A4 c1 c3 c4 w9 _ ((h.ac (by simp only [Hp.all] <;> ac_rfl)) : Own E w9 (Hp.lst LST (.slice K rs.length ck) (rs.map Kl.v) :: Hp.ro T :: famK rs :: Hp.lst ST (.slice A1 j.length c1) (j.map Value.string) :: Hp.lst ST (.slice A3 m.length c3) (m.map Value.string) :: Hp.lst ST (.slice A4 n.length c4) (n.map Value.string) :: Hp.lst ST (.slice A2 j.length c2) (j.map Value.string) :: Hp.lst ST (.slice A6 m.length c6) (m.map Value.string) :: Hp.lst ST (.slice A8 n.length c8) (n.map Value.string) :: L)); have H10 := Lib.hid h.f1; clear h)
    | (with_reducible refine at_slot (k := some 57) ?_; refine wpList_append_run (o := ⟨some 57, _, _, _, _, _⟩) hap rfl rfl rfl rfl ?_; clear hap)
    | (with_reducible refine (KW.out _ _ H10.out).mono ?_; clear KW H10; rintro e w11 ⟨rfl, h⟩; have H11 := Lib.hid h; clear h)
    | (with_reducible refine (KV.out _ _ H11.out).mono ?_; clear KV H11; rintro e w12 ⟨rfl, h⟩; have H12 := Lib.hid h; clear h))
  go_ret2
  refine ⟨K', ck', ⟨.slice A1 j.length c1, j⟩, ⟨.slice A3 m.length c3, m⟩, ⟨.slice A4 n.length c4, n⟩, ⟨lj, lm, ln⟩, rfl, ?_⟩
  have h := H12.out
  have h := ((h.ac (by simp only [Hp.all] <;> ac_rfl)) : Own E _ (Hp.lst ST (.slice A8 n.length c8) (n.map Value.string) :: Hp.lst ST (.slice A6 m.length c6) (m.map Value.string) :: Hp.lst ST (.slice A2 j.length c2) (j.map Value.string) :: Hp.lst ST (.slice A1 j.length c1) (j.map Value.string) :: famK rs :: Hp.lst ST (.slice A3 m.length c3) (m.map Value.string) :: Hp.lst ST (.slice A4 n.length c4) (n.map Value.string) :: Hp.lst LST (.slice K' (rs.length + 3) ck') ((rs ++ [(⟨.slice A1 j.length c1, j⟩ : Kl), ⟨.slice A3 m.length c3, m⟩, ⟨.slice A4 n.length c4, n⟩]).map Kl.v) :: Hp.ro T :: L)).drop.drop.drop
  have h := Own.pushK (r := ⟨.slice A1 j.length c1, j⟩) h
  have h := Own.pushK (r := ⟨.slice A3 m.length c3, m⟩) h.f1
  have h := Own.pushK (r := ⟨.slice A4 n.length c4, n⟩) h.f1
  rw [List.append_assoc, List.append_assoc] at h
  exact h.f1
end
end Go.Proofs.YtgedjkcpgagnbaaDoor
