/- latchkeylaw06.ScopeReads. -/
import Derived.Test.YtgedjkcpgagnbaaDoorApart6
import Derived.Test.YtgedjkcpgagnbaaDoorAlg6
namespace Go.Proofs.YtgedjkcpgagnbaaDoor
open Go.RowKit
theorem parse_len (s : ByteArray) : (parseV s).1.length ≤ 8 := by
  rcases parse_right s with ⟨-, h⟩ | ⟨h, -⟩
  · exact (right8 h).1
  · rw [h]; simp
section
variable {E : World} {S T : Ph} {L : List Hp}
theorem seen_lst {A : Option Addr} {n c : Nat} {xs : List ByteArray} {M : List Hp} (hs : ∀ w, Own E w L → Own E w (Hp.lst ST (.slice A n c) (xs.map Value.string) :: M)) : Seen E L A n xs := fun w h => by
  obtain ⟨a, ha, h2⟩ := (hs w h).opened
  exact (lst_rds ha).1.sub fun k o hk => h2.sub k o hk
theorem famK_in {l : List Kl} {a : Ph} (h : famK l a) : ∀ r ∈ l, ∃ A c, r.v = .slice A r.xs.length c ∧ Rds a 1 enStr A r.xs.length r.xs := fun r hr => by
  obtain ⟨x, sx, px⟩ := all_mem h r hr
  obtain ⟨A, c, e, -⟩ := lst_slice px
  rw [List.length_map] at e
  rw [e] at px
  exact ⟨A, c, e, (lst_rds px).1.sub sx⟩
theorem famK_val {w : World} {l : List Kl} (h : Own E w (famK l :: L)) {r : Kl} (hr : r ∈ l) : ∃ A c, r.v = .slice A r.xs.length c := by
  obtain ⟨a, ha, -⟩ := h.opened
  obtain ⟨A, c, e, -⟩ := famK_in ha r hr
  exact ⟨A, c, e⟩
theorem seen_fam {l : List Kl} {r : Kl} (hr : r ∈ l) {A : Option Addr} {c : Nat} (hv : r.v = .slice A r.xs.length c) {M : List Hp} (hs : ∀ w, Own E w L → Own E w (famK l :: M)) : Seen E L A r.xs.length r.xs := fun w h => by
  obtain ⟨a, ha, h2⟩ := (hs w h).opened
  obtain ⟨A', c', e, h3⟩ := famK_in ha r hr
  rw [hv] at e
  injection e with e1 e2 e3
  subst e1
  exact h3.sub fun k o hk => h2.sub k o hk
/-- A list of texts stands asked. -/
theorem Own.asked {w : World} {g : Nat} (xs : List ByteArray) (hn : xs.length ≤ 100) (h : Own E w (Hp.blk g ST (xs.map Value.string).toArray :: Hp.ro T :: L)) : ∃ T', Ext T T' ∧ Rds T' 1 enStr (some ⟨g, 0, none⟩) xs.length xs ∧ Own E w (Hp.ro T' :: L) := by
  obtain ⟨T', h1, h2, h3⟩ := Own.lendLit xs (Lists.nil T) hn h
  exact ⟨T', h1, (h2 _ (List.mem_cons_self ..)).1, h3⟩
set_option maxRecDepth 100000 in
set_option maxHeartbeats 8000000 in
theorem reads_any (s o : ByteArray) (w : World) (hs : s.size ≤ 1000000000000000000) (ho : o.size ≤ 1000000000000000000) (hM : Max0 E (Hp.ro S :: L)) (h : Own E w (Hp.ro S :: L)) :
    Calls Tryd.prog 3 #[.string s, .string o] w fun e w' => e = .returned (.bool true) ∧ Own E w' (Hp.ro S :: L) := by
  go_enter Tryd.func3, Tryd.ntmps3
  go_wp2_with fail
  refine (addsup_any s.size o.size _ hs ho).mono ?_
  rintro e w1 ⟨rfl, z, hz1, hz2, rfl⟩
  by_cases hb : 2147483647 < z
  · have hbi : (2147483647 : Int) < z := by omega
    go_wp2_with fail
    go_ret
    exact ⟨rfl, h⟩
  have hbi : ¬ (2147483647 : Int) < z := by omega
  have hle := hz2 (by omega)
  have KA := Lib.hid (awake_any w hM h)
  have hxs : ∀ x ∈ [s, s, o, s], x.size ≤ 4000000000 := by
    intro x hx
    simp only [List.mem_cons, List.not_mem_nil, or_false] at hx
    rcases hx with rfl | rfl | rfl | rfl <;> omega
  have HXS := Lib.hid hxs
  have HM := Lib.hid hM
  clear h hz1 hz2 hle hb hM hxs hs ho
  have KP : Hid (∀ (x : ByteArray) (w : World) (T : Ph) (X Y : Hp), x.size ≤ 4000000000 → Ext S T → Own E w (X :: Y :: Hp.ro T :: L) → Calls Tryd.prog 10 #[.string x] w fun e w' => ∃ A c, e = .returned (.tuple #[.slice A (parseV x).1.length c, .int .i64 (parseV x).2]) ∧ Own E w' (Hp.lst ST (.slice A (parseV x).1.length c) ((parseV x).1.map Value.string) :: X :: Y :: Hp.ro T :: L)) := Lib.hid fun x w T X Y hx he h => by
    refine (scparse_any x w hx (Max0.cons (Max0.cons (HM.out.ext he))) h).mono ?_
    rintro e w' ⟨v, rfl, h2⟩
    obtain ⟨A, c, rfl, hc⟩ := lst_len h2
    exact ⟨A, c, rfl, h2⟩
  have KX : Hid (∀ (x : ByteArray) (w : World) (M : List Hp), x.size ≤ 4000000000 → Own E w M → Calls Tryd.prog 11 #[.string x] w fun e w' => ∃ A c, e = .returned (.tuple #[.slice A (parseV x).1.length c, .int .i64 (parseV x).2]) ∧ Own E w' (Hp.lst ST (.slice A (parseV x).1.length c) ((parseV x).1.map Value.string) :: M)) := Lib.hid fun x w M hx h => by
    refine (xparse_any x w hx h).mono ?_
    rintro e w' ⟨v, rfl, h2⟩
    obtain ⟨A, c, rfl, hc⟩ := lst_len h2
    exact ⟨A, c, rfl, h2⟩
  have KS : Hid (∀ (A B : Option Addr) (c d : Nat) (xs : List ByteArray) (w : World) (M : List Hp), xs.length ≤ 8 → Own E w (Hp.lst ST (.slice B xs.length d) (xs.map Value.string) :: Hp.lst ST (.slice A xs.length c) (xs.map Value.string) :: M) → Calls Tryd.prog 12 #[.slice A xs.length c, .slice B xs.length d] w fun e w' => e = .returned (.bool true) ∧ Own E w' (Hp.lst ST (.slice A xs.length c) (xs.map Value.string) :: M)) := Lib.hid fun A B c d xs w M hx h => by
    refine (same_any A B xs.length c xs.length d xs xs w (seen_lst (c := c) fun w h => h.f1) (seen_lst (c := d) fun w h => h) (by omega) h).mono ?_
    rintro e w' ⟨rfl, h2⟩
    rw [decide_eq_true rfl]
    exact ⟨rfl, h2.drop⟩
  have KR : Hid (∀ (l : List Kl) (r : Kl), r ∈ l → ∀ (A B : Option Addr) (c d : Nat) (w : World) (M : List Hp), r.v = .slice A r.xs.length c → r.xs.length ≤ 8 → Own E w (Hp.lst ST (.slice B r.xs.length d) (r.xs.map Value.string) :: famK l :: M) → Calls Tryd.prog 12 #[.slice A r.xs.length c, .slice B r.xs.length d] w fun e w' => e = .returned (.bool true) ∧ Own E w' (famK l :: M)) := Lib.hid fun l r hr A B c d w M hv hx h => by
    refine (same_any A B r.xs.length c r.xs.length d r.xs r.xs w (seen_fam hr hv fun w h => h.f1) (seen_lst (c := d) fun w h => h) (by omega) h).mono ?_
    rintro e w' ⟨rfl, h2⟩
    rw [decide_eq_true rfl]
    exact ⟨rfl, h2.drop⟩
  have e0 : ∀ n : Int, (n != n) = false := fun n => bne_self_eq_false n
  obtain ⟨ask, hask⟩ : ∃ ask, ask = [s, s, o, s] := ⟨_, rfl⟩
  go_wp2_with fail
  with_reducible refine KA.out.mono ?_
  clear KA
  rintro e w2 ⟨rfl, h⟩
  obtain ⟨T, he, hr, h⟩ := Own.asked [s, s, o, s] (by simp) (h.alloc (.cells #[.string s, .string s, .string o, .string s] ST))
  have hr : Rds T 1 enStr (some ⟨w2.heap.size, 0, none⟩) 4 ask := by rw [hask]; exact hr
  rw [← hask] at HXS
  have HE := Lib.hid he
  have H : Hid (Own E _ (Hp.lst LST (.slice none ([] : List Kl).length 0) (([] : List Kl).map Kl.v) :: famK [] :: Hp.ro T :: L)) := Lib.hid (Own.emptyLst (Own.nilK h) LST none)
  have HPF : Hid (∀ k x, ask[k]? = some x → (ask.map fun x => (parseV x).1)[k]? = some (parseV x).1) := Lib.hid fun k x hx => by rw [List.getElem?_map, hx]; rfl
  have HPL : Hid (∀ k x, ask[k]? = some x → (ask.map fun x => (parseV x).1).take (k + 1) = (ask.map fun x => (parseV x).1).take k ++ [(parseV x).1]) := Lib.hid fun k x hx => by rw [List.take_add_one, List.getElem?_map, hx]; rfl
  obtain ⟨g, hg⟩ : ∃ g, g = w2.heap.size := ⟨_, rfl⟩
  rw [← hg] at hr
  have HR := Lib.hid hr
  have hpn : ∀ x, (parseV x).1.length ≤ 8 := parse_len
  have HPN := Lib.hid hpn
  clear h he hr hask hpn
  go_wp2_with fail
  rw [← hg]
  clear hg
  go_loopw [7, 8] (fun vl i wr => ∃ (k cl : Nat) (Al : Option Addr) (rs : List Kl), k ≤ 4 ∧ i = .int .i64 k ∧ vl = .slice Al k cl ∧ rs.length = k ∧ rs.map Kl.xs = (ask.map fun x => (parseV x).1).take k ∧ Own E wr (Hp.lst LST (.slice Al k cl) (rs.map Kl.v) :: famK rs :: Hp.ro T :: L)) (fun _ i _ => 4 - (intOf i).toNat)
  case atStart => exact ⟨0, 0, none, [], by omega, rfl, rfl, rfl, rfl, H.out⟩
  case round =>
    obtain ⟨k, cl, Al, rs, hk, rfl, rfl, hrl, hrs, hw⟩ := hrel
    clear H
    have HRS := Lib.hid hrs
    clear hrs
    by_cases hlt : k < 4
    · have hlti : (k : Int) < 4 := by omega
      obtain ⟨x, b, off, hx, e, hc⟩ := HR.out.get1 hlt
      injection e with e
      injection e with e1 e2
      subst e1 e2
      have hc1 := hw.f2.rd (hc _ rfl)
      have hxs := HXS.out x (List.mem_of_getElem? hx)
      have h1 := HPL.out k x hx
      have hn := HPN.out x
      have KP1 := Lib.hid (fun w X Y (h : Own E w (X :: Y :: Hp.ro T :: L)) => KP.out x w T X Y hxs HE.out h)
      have KX1 := Lib.hid (fun w M (h : Own E w M) => KX.out x w M hxs h)
      have HW := Lib.hid hw
      have HC := Lib.hid (hc _ rfl)
      clear hx hxs hw hc
      generalize parseV x = p at *
      obtain ⟨ys, en⟩ := p
      dsimp only at KP1 KX1 h1 hn
      have H1 := Lib.hid h1
      have e2 := e0 en
      clear h1
      rw [Nat.zero_add] at hc1 HC
      go_wp2_with fail
      with_reducible refine (KP1.out _ _ _ HW.out).mono ?_
      clear KP1 HW
      rintro e w3 ⟨A1, c1, rfl, h⟩
      have hc2 := h.f3.rd HC.out
      have HW := Lib.hid h
      clear h hc1
      go_wp2_with fail
      with_reducible refine (KX1.out _ _ HW.out).mono ?_
      clear KX1 HW
      rintro e w4 ⟨A2, c2, rfl, h⟩
      have HW := Lib.hid h
      clear h hc2
      go_wp2_with fail
      with_reducible refine (KS.out _ _ _ _ _ _ _ hn HW.out).mono ?_
      clear HW
      rintro e w5 ⟨rfl, h⟩
      have hml : (rs.map Kl.v).length = k := by rw [List.length_map, hrl]
      obtain ⟨v6, w6, hap, h⟩ := lst_append_new (P := Tryd.prog) (t := LLST) (ty := LLST) llst_u sst_info (by rfl) h.f1 #[.slice A1 ys.length c1] 1 rfl (by simp [Value.oneCell']) (by unfold maxLen; omega) (by omega)
      obtain ⟨Bl, bl, rfl, -⟩ := h.lstSlice
      have e9 : (rs.map Kl.v ++ (#[.slice A1 ys.length c1] : Array Value).toList).length = k + 1 := by rw [List.length_append, hml]; rfl
      rw [e9] at h hap
      have h7 := Own.pushK (r := ⟨.slice A1 ys.length c1, ys⟩) ((h.ac (by simp only [Hp.all] <;> ac_rfl)) : Own E w6 (Hp.lst ST (.slice A1 ys.length c1) (ys.map Value.string) :: famK rs :: Hp.lst LST (.slice Bl (k + 1) bl) (rs.map Kl.v ++ [.slice A1 ys.length c1]) :: Hp.ro T :: L))
      have H7 : Hid (Own E w6 (Hp.lst LST (.slice Bl (k + 1) bl) ((rs ++ [(⟨.slice A1 ys.length c1, ys⟩ : Kl)]).map Kl.v) :: famK (rs ++ [(⟨.slice A1 ys.length c1, ys⟩ : Kl)]) :: Hp.ro T :: L)) := Lib.hid (by rw [List.map_append]; exact h7.f1)
      have HN : Hid ((rs ++ [(⟨.slice A1 ys.length c1, ys⟩ : Kl)]).length = k + 1 ∧ (rs ++ [(⟨.slice A1 ys.length c1, ys⟩ : Kl)]).map Kl.xs = (ask.map fun x => (parseV x).1).take (k + 1)) := Lib.hid ⟨by rw [List.length_append, hrl]; rfl, by rw [List.map_append, HRS.out, H1.out]; rfl⟩
      repeat clear h
      clear h7 e9 hml
      go_wp2_with (with_reducible refine at_slot (k := some 66) ?_; refine wpList_append_run (o := ⟨some 66, _, _, _, _, _⟩) hap rfl rfl rfl rfl ?_; clear hap)
      go_roundw
      case rel => exact ⟨k + 1, bl, Bl, _, by omega, by go_num, rfl, HN.out.1, HN.out.2, H7.out⟩
      case measure => simp [intOf]; omega
    · obtain rfl : k = 4 := by omega
      have hlti : ¬ (4 : Int) < 4 := by omega
      have hall : rs.map Kl.xs = ask.map fun x => (parseV x).1 := by
        rw [HRS.out, List.take_of_length_le]
        rw [List.length_map, HR.out.1]
        exact Nat.le_refl _
      have HALL := Lib.hid hall
      have HW := Lib.hid hw
      clear hw hall hlt hk HRS HPL
      go_wp2_with fail
      go_loopw [14] (fun i wr => ∃ k : Nat, k ≤ 4 ∧ i = .int .i64 k ∧ Own E wr (Hp.lst LST (.slice Al 4 cl) (rs.map Kl.v) :: famK rs :: Hp.ro T :: L)) (fun i _ => 4 - (intOf i).toNat)
      case atStart => exact ⟨0, by omega, rfl, HW.out⟩
      case round =>
        obtain ⟨k, hk, rfl, hw⟩ := hrel
        clear HW
        by_cases hlt : k < 4
        · have hlti2 : (k : Int) < 4 := by omega
          obtain ⟨x, b, off, hx, e, hc⟩ := HR.out.get1 hlt
          injection e with e
          injection e with e1 e2
          subst e1 e2
          have hc1 := hw.f2.rd (hc _ rfl)
          have hxs := HXS.out x (List.mem_of_getElem? hx)
          have hn := HPN.out x
          have KX1 := Lib.hid (fun w M (h : Own E w M) => KX.out x w M hxs h)
          obtain ⟨r, hr⟩ : ∃ r, rs[k]? = some r := ⟨_, List.getElem?_eq_getElem (by omega)⟩
          have hrx : r.xs = (parseV x).1 := by
            have h2 := HPF.out k x hx
            rw [← HALL.out, List.getElem?_map, hr] at h2
            injection h2
          have hmem := List.mem_of_getElem? hr
          obtain ⟨Ar, cr, er⟩ := famK_val hw.f1 hmem
          obtain ⟨gl, e3, hcl, -⟩ := hw.lstCell k r.v (by rw [List.getElem?_map, hr]; rfl)
          subst e3
          have KR1 := Lib.hid (fun B d w M => KR.out rs r hmem Ar B cr d w M er (by rw [hrx]; exact hn))
          have HCL : Hid (∀ w M, Own E w (Hp.lst LST (.slice (some ⟨gl, 0, none⟩) 4 cl) (rs.map Kl.v) :: M) → w.cell? ⟨gl, k, none⟩ = some (.slice Ar r.xs.length cr)) := Lib.hid fun w M h => by
            obtain ⟨gl', e3, hcl, -⟩ := h.lstCell k r.v (by rw [List.getElem?_map, hr]; rfl)
            injection e3 with e3
            injection e3 with e3
            subst e3
            rw [hcl, er]
          rw [← hrx] at KX1
          have HW := Lib.hid hw
          clear hw hx hxs hc er hr hmem hcl hrx
          generalize (parseV x).2 = en at *
          rw [Nat.zero_add] at hc1
          go_wp2_with fail
          with_reducible refine (KX1.out _ _ HW.out).mono ?_
          clear KX1 HW
          rintro e w4 ⟨A2, c2, rfl, h⟩
          have hc2 := HCL.out _ _ h.f1
          have HW := Lib.hid (h.f2.f1 : Own E _ (Hp.lst ST (.slice A2 r.xs.length c2) (r.xs.map Value.string) :: famK rs :: _ :: Hp.ro T :: L))
          clear h hc1
          go_wp2_with fail
          with_reducible refine (KR1.out _ _ _ _ HW.out).mono ?_
          clear HW
          rintro e w5 ⟨rfl, h⟩
          have HW := Lib.hid (h.f1 : Own E _ (Hp.lst LST _ _ :: famK rs :: Hp.ro T :: L))
          clear h hc2
          go_wp2_with fail
          go_roundw
          case rel => exact ⟨k + 1, by omega, by go_num, HW.out⟩
          case measure => simp [intOf]; omega
        · obtain rfl : k = 4 := by omega
          clear hlt hk
          have hsm : ∀ r ∈ rs, r.xs.length ≤ 4294967296 := fun r hr => by
            have h2 : r.xs ∈ ask.map fun x => (parseV x).1 := by rw [← HALL.out]; exact List.mem_map_of_mem hr
            obtain ⟨x, -, hx⟩ := List.mem_map.1 h2
            have := HPN.out x
            rw [hx] at this
            omega
          have KF := apart_any Al cl rs _ (by omega) hsm (by rw [hrl]; exact hw)
          rw [hrl] at KF
          have KF := Lib.hid KF
          clear hw hsm
          go_wp2_with fail
          with_reducible refine KF.out.mono ?_
          clear KF
          rintro e w5 ⟨rfl, h⟩
          have HW := Lib.hid (h.shrink HE.out)
          clear h
          go_wp2_with fail
          go_ret
          exact ⟨rfl, HW.out⟩
end
end Go.Proofs.YtgedjkcpgagnbaaDoor
