/- The reference's pieces, Parse. -/
import Derived.Test.YtgedjkcpgagnbaaDoorRef6b
namespace Go.Proofs.YtgedjkcpgagnbaaDoor
open Go.RowKit
theorem ext_data (s : ByteArray) (f k : Nat) : (s.extract f k).data.toList = (s.data.toList.drop f).take (k - f) := by
  rw [Lib.extract_data]
section
variable {E : World} {S : Ph} {L : List Hp}
set_option maxRecDepth 20000 in
set_option maxHeartbeats 4000000 in
theorem xpieces_any (s : ByteArray) (w : World) (hs : s.size + 1 ≤ 8796093022208) (h : Own E w L) :
    Calls Tryd.prog 28 #[.string s] w fun e w' => ∃ v, e = .returned v ∧ Own E w' (Hp.lst ST v ((pieces s).map Value.string) :: L) := by
  have HN43 := Lib.hid hs
  have H2 := Lib.hid (h.emptyLst ST none)
  clear h hs
  go_enter Tryd.func28, Tryd.ntmps28
  go_wp2_with fail
  go_loopw [3, 4, 5] (fun o f i wr => ∃ (k q : Nat) (out : List ByteArray) (A' : Option Addr) (c' : Nat), k ≤ s.size ∧ q ≤ k ∧ i = .int .i64 k ∧ f = .int .i64 q ∧ o = .slice A' out.length c' ∧ out.length ≤ k ∧
    cutL s.data.toList = (out.map fun x => x.data.toList) ++ cutL (s.data.toList.drop q) ∧ (∀ x ∈ (s.data.toList.drop q).take (k - q), x ≠ 32) ∧ Own E wr (Hp.lst ST (.slice A' out.length c') (out.map Value.string) :: L)) (fun _ _ i _ => s.size - (intOf i).toNat)
  case atStart => exact ⟨0, 0, [], none, 0, by omega, by omega, rfl, rfl, rfl, by simp, rfl, (by simp), H2.out⟩
  case round =>
    obtain ⟨k, q, out, A', c', hk, hq, rfl, rfl, rfl, hol, hcut, hno, hw⟩ := hrel
    clear H2
    have hlen : s.data.toList.length = s.size := rfl
    by_cases hlt : k < s.size
    · have hix := byte_index s k k rfl hlt
      have hgd : s.data.toList.getD k 0 = s.data.toList[k]'(by rw [hlen]; exact hlt) := by rw [List.getD_eq_getElem?_getD, List.getElem?_eq_getElem (by rw [hlen]; exact hlt)]; rfl
      rw [hgd] at hix
      have hdrop : s.data.toList.drop q = (s.data.toList.drop q).take (k - q) ++ s.data.toList[k]'(by rw [hlen]; exact hlt) :: s.data.toList.drop (k + 1) := by
        have e1 : s.data.toList.drop k = s.data.toList[k]'(by rw [hlen]; exact hlt) :: s.data.toList.drop (k + 1) := List.drop_eq_getElem_cons (by rw [hlen]; exact hlt)
        have e2 : (s.data.toList.drop q).drop (k - q) = s.data.toList.drop k := by rw [List.drop_drop, show q + (k - q) = k by omega]
        rw [← e1, ← e2, List.take_append_drop]
      have htake : (s.data.toList.drop q).take (k + 1 - q) = (s.data.toList.drop q).take (k - q) ++ [s.data.toList[k]'(by rw [hlen]; exact hlt)] := by
        rw [show k + 1 - q = (k - q) + 1 by omega, List.take_add_one, List.getElem?_drop, show q + (k - q) = k by omega, List.getElem?_eq_getElem (by rw [hlen]; exact hlt)]
        rfl
      obtain ⟨b, hb⟩ : ∃ b, b = s.data.toList[k]'(by rw [hlen]; exact hlt) := ⟨_, rfl⟩
      rw [← hb] at hix hdrop htake
      have i1 : (k : Int) < s.size := by omega
      have i5 : wrap64 ((k : Int) + 1) = ((k + 1 : Nat) : Int) := by have := HN43.out; unfold wrap64; omega
      have HK := Lib.hid hlt
      have HQ := Lib.hid hq
      have HOL := Lib.hid hol
      by_cases h32 : b = 32
      · subst h32
        have e32 : ((32 : UInt8).toNat : Int) = 32 := rfl
        rw [e32] at hix
        obtain ⟨A2, c2, w6, hap, h6⟩ := push_str hw (s.extract q k) (by have := HN43.out; omega)
        have HC := Lib.hid (show cutL s.data.toList = ((out ++ [s.extract q k]).map fun x => x.data.toList) ++ cutL (s.data.toList.drop (k + 1)) by
          rw [hcut, hdrop, cutL_hit _ hno, List.map_append, List.append_assoc]
          show _ = _ ++ ((s.extract q k).data.toList :: _)
          rw [ext_data]
          rfl)
        have H6 := Lib.hid h6
        have HL6 := Lib.hid (show (out ++ [s.extract q k]).length = out.length + 1 by rw [List.length_append]; rfl)
        have i2 : (q : Int) ≤ k := by omega
        have i3 : (k : Int) ≤ s.size := by omega
        have i4 : (0 : Int) ≤ q := by omega
        clear hgd hdrop htake hb hcut hno hw h6 e32 hk hq hlt hol hlen
        go_wp2_with (with_reducible refine at_slot (k := some 22) ?_; refine wpList_append_run (o := ⟨some 22, _, _, _, _, _⟩) hap rfl rfl rfl rfl ?_; clear hap)
        go_roundw
        case rel => exact ⟨k + 1, k + 1, _, A2, c2, by have := HK.out; omega, Nat.le_refl _, by rw [i5], by rw [i5], by rw [HL6.out], by have := HOL.out; rw [HL6.out]; omega, HC.out, by simp, by rw [HL6.out]; exact H6.out⟩
        case measure =>
          have := HK.out
          rw [i5]
          simp only [intOf]
          omega
      · have h33 : ((b.toNat : Int) == 32) = false := by
          rw [beq_eq_false_iff_ne]
          intro e
          exact h32 (by rw [← UInt8.toNat_inj]; have : (32 : UInt8).toNat = 32 := rfl; omega)
        have HNO := Lib.hid (show ∀ x ∈ (s.data.toList.drop q).take (k + 1 - q), x ≠ 32 from fun x hx => by
          rw [htake] at hx
          rcases List.mem_append.1 hx with hx | hx
          · exact hno x hx
          · rw [List.mem_singleton.1 hx]; exact h32)
        have HC := Lib.hid hcut
        have H6 := Lib.hid hw
        clear hgd hdrop htake hb hcut hno hw hk hq hlt hol hlen h32
        go_wp2_with fail
        go_roundw
        case rel => exact ⟨k + 1, q, _, A', c', by have := HK.out; omega, by have := HQ.out; omega, by rw [i5], rfl, rfl, by have := HOL.out; omega, HC.out, HNO.out, H6.out⟩
        case measure =>
          have := HK.out
          rw [i5]
          simp only [intOf]
          omega
    · obtain rfl : k = s.size := by omega
      have i1 : ¬ (s.size : Int) < s.size := by omega
      obtain ⟨A2, c2, w6, hap, h6⟩ := push_str hw (s.extract q s.size) (by have := HN43.out; omega)
      have HC := Lib.hid (show pieces s = out ++ [s.extract q s.size] from pieces_of (by
        have e1 : (s.data.toList.drop q).take (s.size - q) = s.data.toList.drop q := List.take_of_length_le (by rw [List.length_drop, hlen]; omega)
        rw [e1] at hno
        rw [hcut, cutL_whole hno, List.map_append]
        show _ ++ [_] = _ ++ [(s.extract q s.size).data.toList]
        rw [ext_data, e1]))
      have H6 := Lib.hid h6
      have i2 : (q : Int) ≤ s.size := by omega
      have i4 : (0 : Int) ≤ q := by omega
      clear hcut hno hw h6 hk hq hlt hol hlen
      go_wp2_with (with_reducible refine at_slot (k := some 30) ?_; refine wpList_append_run (o := ⟨some 30, _, _, _, _, _⟩) hap rfl rfl rfl rfl ?_; clear hap)
      go_ret
      rw [HC.out]
      exact ⟨_, rfl, H6.out⟩
/-- An owned list of names, read by the reference's fits. -/
theorem xfits_lst (v : Value) (xs : List ByteArray) (w : World) (h16 : ∀ x ∈ xs, x.size ≤ 16) (h : Own E w (Hp.lst ST v (xs.map Value.string) :: L)) :
    Calls Tryd.prog 31 #[v] w fun e w' => e = .returned (.bool (fitL xs)) ∧ Own E w' (Hp.lst ST v (xs.map Value.string) :: L) := by
  obtain ⟨A, c, rfl, -⟩ := lst_len h
  obtain ⟨S, hS, h⟩ := h.opened
  refine (xfits_any A xs.length c xs w (lst_rds hS).1 h16 h).mono ?_
  rintro e w' ⟨rfl, h⟩
  exact ⟨rfl, h.imp fun x hx => by
    have e : x = S := hx
    rw [e]; exact hS⟩
theorem names16 {xs : List ByteArray} (h : xs.all nameB = true) : ∀ x ∈ xs, x.size ≤ 16 := fun x hx => nm_size (List.all_eq_true.1 h x hx)
theorem all_take {xs : List ByteArray} {k : Nat} {x : ByteArray} (h : (xs.take k).all nameB = true) (hx : xs[k]? = some x) (hn : nameB x = true) : (xs.take (k + 1)).all nameB = true := by
  rw [List.take_add_one, hx, List.all_append, h]
  simp [hn]
set_option maxRecDepth 20000 in
set_option maxHeartbeats 4000000 in
theorem xparse_any (s : ByteArray) (w : World) (hs : s.size ≤ 4000000000) (h : Own E w L) :
    Calls Tryd.prog 11 #[.string s] w fun e w' => ∃ v, e = .returned (.tuple #[v, .int .i64 (parseV s).2]) ∧ Own E w' (Hp.lst ST v ((parseV s).1.map Value.string) :: L) := by
  by_cases h0 : s.size = 0
  · have e0 : parseV s = ([], 0) := by unfold parseV; rw [if_pos h0]
    rw [e0]
    obtain rfl := size_zero h0
    have H := Lib.hid h
    clear h h0 hs
    go_enter Tryd.func11, Tryd.ntmps11
    go_wp2_with fail
    go_ret2
    exact ⟨_, rfl, H.out.emptyLst ST none⟩
  · have hne : s.toList.isEmpty = false := text_some h0
    have e0 : parseV s = if (pieces s).all nameB = true then (fewL (sortL (pieces s)), manyE (sortL (pieces s))) else ([], 60) := by unfold parseV; rw [if_neg h0]
    have E0 := Lib.hid e0
    obtain ⟨hl, hc⟩ := pieces_len s
    have hpl : (pieces s).length ≤ 4000000001 := by omega
    have hsz : ∀ x ∈ pieces s, x.size ≤ 1000000000000000000 := fun x hx => by
      have h1 := cutL_le s.data.toList x.data.toList (by rw [← pieces_data]; exact List.mem_map.2 ⟨x, hx, rfl⟩)
      have h2 : s.data.toList.length = s.size := rfl
      have h3 : x.data.toList.length = x.size := rfl
      omega
    have KP := Lib.hid (xpieces_any (E := E) (L := L) s w (by omega) h)
    clear h e0 h0 hl hc hs
    generalize pieces s = ps at *
    have HPL := Lib.hid hpl
    go_enter Tryd.func11, Tryd.ntmps11
    go_wp2_with (with_reducible refine KP.out.mono ?_; clear KP; rintro e w2 ⟨v, rfl, h⟩; obtain ⟨A, c, rfl, -⟩ := lst_len h; obtain ⟨S, hS, h⟩ := h.opened; have hrd := (lst_rds hS).1; clear hS; have H2 := Lib.hid (h.emptyLst ST none); clear h)
    obtain ⟨n, hn⟩ : ∃ n, n = ps.length := ⟨_, rfl⟩
    rw [← hn] at hrd HPL hpl
    simp only [← hn]
    have HN := Lib.hid hn
    clear hn hpl
    go_loopw [5, 6] (fun o i wr => ∃ (k : Nat) (A' : Option Addr) (c' : Nat), k ≤ n ∧ i = .int .i64 k ∧ o = .slice A' (sortL (ps.take k)).length c' ∧ (ps.take k).all nameB = true ∧ Own E wr (Hp.lst ST (.slice A' (sortL (ps.take k)).length c') ((sortL (ps.take k)).map Value.string) :: Hp.ro S :: L)) (fun _ i _ => n - (intOf i).toNat)
    case atStart => exact ⟨0, none, 0, by omega, rfl, rfl, rfl, H2.out⟩
    case round =>
      obtain ⟨k, A', c', hk, rfl, rfl, hall, hw⟩ := hrel
      clear H2
      by_cases hlt : k < n
      · obtain ⟨x, b, off, hx, rfl, hcc⟩ := hrd.get1 hlt
        have hcx := hw.f1.rd (hcc _ rfl)
        have KN := fun w => xname_any x w (hsz x (List.mem_of_getElem? hx))
        have i1 : (k : Int) < n := by omega
        have i5 : wrap64 ((k : Int) + 1) = ((k + 1 : Nat) : Int) := by have := HPL.out; unfold wrap64; omega
        have HX := Lib.hid hx
        have HK := Lib.hid hlt
        cases hnx : nameB x with
        | false =>
          rw [hnx] at KN
          have HNX := Lib.hid hnx
          have H := Lib.hid hw
          clear hx hcc hnx hall hk hlt hw hrd hsz
          go_wp2_with (refine (KN _).mono ?_; clear KN; rintro e w3 ⟨rfl, rfl⟩)
          go_ret2
          have e1 : ¬ ps.all nameB = true := fun e => by
            have := List.all_eq_true.1 e x (List.mem_of_getElem? HX.out)
            rw [HNX.out] at this
            cases this
          rw [E0.out, if_neg e1]
          exact ⟨_, rfl, H.out.drop.drop.emptyLst ST none⟩
        | true =>
          rw [hnx] at KN
          have hall2 := all_take hall hx hnx
          have HALL := Lib.hid hall2
          have e2 : sortL (ps.take (k + 1)) = insL x (sortL (ps.take k)) := by rw [List.take_add_one, hx]; exact sortL_snoc _ _
          have hsl : (sortL (ps.take k)).length + 1 ≤ 8796093022208 := by
            have h1 := length_sortL (ps.take k)
            have h2 := List.length_take_le k ps
            have := HPL.out
            omega
          have KW := Lib.hid (fun w h => xwith_any (E := E) (L := Hp.ro S :: L) (.slice A' (sortL (ps.take k)).length c') (sortL (ps.take k)) x w (rise_sortL _) hsl h)
          rw [← e2] at KW
          have H := Lib.hid hw
          have HD := Lib.hid (fun w' h => Own.rd (E := E) (w := w') (L := L) h (hcc _ rfl))
          clear hx hcc hnx hall hall2 hk hlt hw hsl e2
          go_wp2_with (first
            | (with_reducible refine (KN _).mono ?_; clear KN; rintro e w3 ⟨rfl, rfl⟩)
            | (with_reducible refine (KW.out _ H.out).mono ?_; clear KW H; rintro e w4 ⟨v4, rfl, h⟩; obtain ⟨A4, c4, rfl, -⟩ := lst_len h; have H4 := Lib.hid h; clear h))
          go_roundw
          case rel => exact ⟨k + 1, A4, c4, by have := HK.out; omega, by rw [i5], rfl, HALL.out, H4.out⟩
          case measure =>
            have := HK.out
            rw [i5]
            simp only [intOf]
            omega
      · obtain rfl : k = n := by omega
        have e9 : ps.take k = ps := List.take_of_length_le (by rw [HN.out]; omega)
        rw [e9] at hall hw
        simp only [e9]
        have i1 : ¬ (k : Int) < (k : Int) := by omega
        have KF := Lib.hid (fun w h => xfits_lst (E := E) (L := Hp.ro S :: L) (.slice A' (sortL ps).length c') (sortL ps) w (names16 (names_sort hall)) h)
        have H := Lib.hid hw
        have E1 := Lib.hid (show parseV s = (fewL (sortL ps), manyE (sortL ps)) by rw [E0.out, if_pos hall])
        clear hw hall hk hlt hrd hsz e9
        cases hf : fitL (sortL ps) with
        | false =>
          rw [hf] at KF
          have e3 : fewL (sortL ps) = [] ∧ manyE (sortL ps) = 61 := by unfold fewL manyE; rw [hf]; exact ⟨rfl, rfl⟩
          rw [e3.1, e3.2] at E1
          clear hf e3
          go_wp2_with (with_reducible refine (KF.out _ H.out).mono ?_; clear KF H; rintro e w4 ⟨rfl, h⟩; have H4 := Lib.hid h; clear h)
          go_ret2
          rw [E1.out]
          exact ⟨_, rfl, H4.out.drop.drop.emptyLst ST none⟩
        | true =>
          rw [hf] at KF
          have e3 : fewL (sortL ps) = sortL ps ∧ manyE (sortL ps) = 0 := by unfold fewL manyE; rw [hf]; exact ⟨rfl, rfl⟩
          rw [e3.1, e3.2] at E1
          clear hf e3
          go_wp2_with (with_reducible refine (KF.out _ H.out).mono ?_; clear KF H; rintro e w4 ⟨rfl, h⟩; have H4 := Lib.hid h; clear h)
          go_ret2
          rw [E1.out]
          exact ⟨_, rfl, H4.out.f1.drop⟩
end
end Go.Proofs.YtgedjkcpgagnbaaDoor
