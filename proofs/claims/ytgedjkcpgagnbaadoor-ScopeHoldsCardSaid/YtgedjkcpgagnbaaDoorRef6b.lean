/- The reference's with, pieces, Parse. -/
import Derived.Test.YtgedjkcpgagnbaaDoorRef6
namespace Go.Proofs.YtgedjkcpgagnbaaDoor
open Go.RowKit
/- PLAIN -/
theorem rise_snoc {l : List ByteArray} {x : ByteArray} : Rise (l ++ [x]) ↔ Rise l ∧ ∀ a ∈ l, slt a x = true := by
  unfold Rise
  rw [List.pairwise_append]
  constructor
  · rintro ⟨h1, -, h3⟩
    exact ⟨h1, fun a ha => h3 a ha x (List.mem_singleton_self x)⟩
  · rintro ⟨h1, h3⟩
    exact ⟨h1, List.pairwise_singleton .., fun a ha b hb => by rw [List.mem_singleton.1 hb]; exact h3 a ha⟩
theorem insL_in {s : ByteArray} {l : List ByteArray} (hr : Rise l) (h : s ∈ l) : insL s l = l :=
  (hr.insL s).unique hr fun x => by
    rw [mem_insL]
    exact ⟨fun h2 => h2.elim (fun e => e ▸ h) id, .inr⟩
theorem insL_above {s : ByteArray} {l : List ByteArray} (hr : Rise l) (h : ∀ a ∈ l, slt a s = true) : insL s l = l ++ [s] :=
  (hr.insL s).unique (rise_snoc.2 ⟨hr, h⟩) fun x => by rw [mem_insL, List.mem_append, List.mem_singleton, or_comm]
theorem rise_take {l : List ByteArray} (h : Rise l) (k : Nat) : Rise (l.take k) := List.Pairwise.sublist (List.take_sublist k l) h
theorem insL_between {s x : ByteArray} {l : List ByteArray} (hr : Rise (l ++ [x])) (h : ∀ a ∈ l, slt a s = true) (hx : slt s x = true) : insL s (l ++ [x]) = l ++ [s] ++ [x] := by
  have h0 := rise_snoc.1 hr
  refine (hr.insL s).unique (rise_snoc.2 ⟨rise_snoc.2 ⟨h0.1, h⟩, fun a ha => ?_⟩) fun y => ?_
  · rcases List.mem_append.1 ha with ha | ha
    · exact h0.2 a ha
    · rw [List.mem_singleton.1 ha]; exact hx
  · rw [mem_insL]
    simp only [List.mem_append, List.mem_singleton]
    constructor
    · rintro (h | h | h) <;> simp [h]
    · rintro ((h | h) | h) <;> simp [h]
theorem insL_below {s x : ByteArray} {l : List ByteArray} (hr : Rise (l ++ [x])) (hx : slt s x = true) : insL s (l ++ [x]) = insL s l ++ [x] := by
  have h0 := rise_snoc.1 hr
  refine (hr.insL s).unique (rise_snoc.2 ⟨h0.1.insL s, fun a ha => ?_⟩) fun y => ?_
  · rcases (mem_insL s a l).1 ha with rfl | ha
    · exact hx
    · exact h0.2 a ha
  · rw [mem_insL, List.mem_append, List.mem_append, mem_insL, List.mem_singleton]
    constructor
    · rintro (h | h | h) <;> simp [h]
    · rintro ((h | h) | h) <;> simp [h]
theorem sortL_snoc (xs : List ByteArray) (x : ByteArray) : sortL (xs ++ [x]) = insL x (sortL xs) := by unfold sortL; rw [List.foldl_append]; rfl
section
variable {E : World} {S : Ph} {L : List Hp}
/-- A text is put behind an owned list. -/
theorem push_str {v : Value} {xs : List ByteArray} {w : World} (h : Own E w (Hp.lst ST v (xs.map Value.string) :: L)) (s : ByteArray) (hl : xs.length + 1 ≤ 8796093022208) :
    ∃ A' c' w', (Builtin.append_ #[LST, LST] LST #[v, .slice (some ⟨w.heap.size, 0, none⟩) 1 1]).run Tryd.prog (w.alloc (.cells #[.string s] ST)) = .ok (.slice A' (xs.length + 1) c') w' ∧ Own E w' (Hp.lst ST (.slice A' (xs.length + 1) c') ((xs ++ [s]).map Value.string) :: L) := by
  have hal := h.alloc (.cells #[.string s] ST)
  obtain ⟨v', w4, hap, h4⟩ := lst_append (P := Tryd.prog) (t := LST) (ty := LST) lst_u st_info rfl hal.f1 (some ⟨w.heap.size, 0, none⟩) 1 1 [.string s] rfl (hal.rdc 0 _ (fun j u hu => by simpa using hu)) (by simp [Value.oneCell']) (by unfold maxLen; rw [List.length_map]; omega) (by rw [List.length_map]; omega)
  obtain ⟨A', c', rfl, -⟩ := h4.lstSlice
  have e3 : xs.map Value.string ++ [.string s] = (xs ++ [s]).map Value.string := by simp
  have e4 : (xs.map Value.string ++ [Value.string s]).length = xs.length + 1 := by simp
  rw [e4] at hap h4
  rw [e3] at h4
  exact ⟨A', c', w4, hap, h4.f1.drop⟩
theorem lst_len {v : Value} {xs : List ByteArray} {w : World} (h : Own E w (Hp.lst ST v (xs.map Value.string) :: L)) : ∃ A c, v = .slice A xs.length c ∧ xs.length ≤ c := by
  obtain ⟨A, c, hv, hc, -⟩ := h.lstSlice
  rw [List.length_map] at hv hc
  exact ⟨A, c, hv, hc⟩
set_option maxRecDepth 20000 in
set_option maxHeartbeats 8000000 in
theorem xwith_any (v : Value) (xs : List ByteArray) (s : ByteArray) (w : World) (hrise : Rise xs) (hn43 : xs.length + 1 ≤ 8796093022208) (h : Own E w (Hp.lst ST v (xs.map Value.string) :: L)) :
    Calls Tryd.prog 30 #[v, .string s] w fun e w' => ∃ v', e = .returned v' ∧ Own E w' (Hp.lst ST v' ((insL s xs).map Value.string) :: L) := by
  obtain ⟨A, c, rfl, -⟩ := lst_len h
  obtain ⟨S, hS, h⟩ := h.opened
  have hrd := (lst_rds hS).1
  have K := fun w h => xhas_any (E := E) (S := S) (L := L) A xs.length c xs s w hrd (by omega) h
  have H := Lib.hid h
  clear h
  cases hb : hasB s xs with
  | true =>
    rw [hb] at K
    have HE := Lib.hid (insL_in hrise ((hasB_iff s xs).1 hb))
    have HS := Lib.hid hS
    clear hb hS hrd
    go_enter Tryd.func30, Tryd.ntmps30
    go_wp2_with (with_reducible refine (K _ H.out).mono ?_; clear H K; rintro e w2 ⟨rfl, h⟩; have H2 := Lib.hid h; clear h)
    go_ret
    refine ⟨_, rfl, ?_⟩
    rw [HE.out]
    exact H2.out.imp fun x hx => by
      have e : x = S := hx
      rw [e]; exact HS.out
  | false =>
    rw [hb] at K
    have hns := (hasB_false s xs).1 hb
    obtain ⟨n, hn⟩ : ∃ n, n = xs.length := ⟨_, rfl⟩
    rw [← hn] at K hrd hn43 ⊢
    have HN := Lib.hid hn
    have HN43 := Lib.hid hn43
    have HRI := Lib.hid hrise
    have HNS := Lib.hid hns
    clear hb hS hn hn43 hrise hns
    go_enter Tryd.func30, Tryd.ntmps30
    go_wp2_with (with_reducible refine (K _ H.out).mono ?_; clear H K; rintro e w2 ⟨rfl, h⟩; have H2 := Lib.hid (h.emptyLst ST none); clear h)
    go_loopw [6, 7, 8] (fun o d i wr => ∃ (k : Nat) (out : List ByteArray) (db : Bool) (A' : Option Addr) (c' : Nat), k ≤ n ∧ i = .int .i64 k ∧ d = .bool db ∧ o = .slice A' out.length c' ∧
      ((db = false ∧ out = xs.take k ∧ ∀ a ∈ xs.take k, slt a s = true) ∨ (db = true ∧ out = insL s (xs.take k) ∧ ∃ a ∈ xs.take k, slt s a = true)) ∧ out.length ≤ k + 1 ∧ (db = false → out.length ≤ k) ∧ Own E wr (Hp.lst ST (.slice A' out.length c') (out.map Value.string) :: Hp.ro S :: L)) (fun _ _ i _ => n - (intOf i).toNat)
    case atStart => exact ⟨0, [], false, none, 0, by omega, rfl, rfl, rfl, .inl ⟨rfl, rfl, fun a ha => by cases ha⟩, by simp, fun _ => by simp, H2.out⟩
    case round =>
      obtain ⟨k, out, db, A', c', hk, rfl, rfl, rfl, hor, hol, hol2, hw⟩ := hrel
      clear H2
      by_cases hlt : k < n
      · obtain ⟨x, b, off, hx, rfl, hc⟩ := hrd.get1 hlt
        have hcx := hw.f1.rd (hc _ rfl)
        have hd : ∀ w' M, Own E w' (M :: Hp.ro S :: L) → w'.cell? ⟨b, off + k, none⟩ = some (.string x) := fun w' M h => h.f1.rd (hc _ rfl)
        have HD := Lib.hid hd
        have ht : xs.take (k + 1) = xs.take k ++ [x] := by rw [List.take_add_one, hx]; rfl
        have hrt : Rise (xs.take k ++ [x]) := by rw [← ht]; exact rise_take HRI.out _
        have hmem : x ∈ xs := List.mem_of_getElem? hx
        have i1 : (k : Int) < n := by omega
        have i5 : wrap64 ((k : Int) + 1) = ((k + 1 : Nat) : Int) := by have := HN43.out; unfold wrap64; omega
        have HK := Lib.hid hlt
        have hl := fun w => run_gtr_str ST x s w
        rcases hor with ⟨rfl, hout, hab⟩ | ⟨rfl, hout, a0, ha0, hs0⟩
        · have hol3 := hol2 rfl
          have HOL2 := Lib.hid hol3
          cases hsx : slt s x with
          | true =>
            simp only [hsx] at hl
            obtain ⟨A1, c1, w5, hap, h5⟩ := push_str hw s (by have := HN43.out; omega)
            obtain ⟨A2, c2, w6, hap2, h6⟩ := push_str h5 x (by have := HN43.out; rw [List.length_append, List.length_singleton]; omega)
            have hcx2 := HD.out _ _ h5
            have e1 : (out ++ [s]).length = out.length + 1 := by rw [List.length_append]; rfl
            rw [e1] at hap2 h6
            have HR := Lib.hid (show out ++ [s] ++ [x] = insL s (xs.take (k + 1)) by rw [ht, insL_between hrt hab hsx, hout])
            have H6 := Lib.hid h6
            have HA := Lib.hid (show ∃ a ∈ xs.take (k + 1), slt s a = true from ⟨x, by rw [ht]; simp, hsx⟩)
            have HL6 := Lib.hid (show (out ++ [s] ++ [x]).length = out.length + 1 + 1 by rw [List.length_append, e1]; rfl)
            have hx1 := HD.out _ _ (hw.alloc (.cells #[.string s] ST)).f1.drop
            have hx2 := HD.out _ _ h5
            clear hx hc hd ht hrt hmem hlt hout hab hol hol2 hol3 hw h5 h6 hsx e1 hk hrd
            go_wp2_with (first
              | (with_reducible refine at_slot (k := some 33) ?_; refine wpList_append_run (o := ⟨some 33, _, _, _, _, _⟩) hap rfl rfl rfl rfl ?_; clear hap)
              | (with_reducible refine at_slot (k := some 40) ?_; refine wpList_append_run (o := ⟨some 40, _, _, _, _, _⟩) hap2 rfl rfl rfl rfl ?_; clear hap2))
            go_roundw
            case rel => exact ⟨k + 1, _, true, A2, c2, by have := HK.out; omega, by rw [i5], rfl, by rw [HL6.out], .inr ⟨rfl, HR.out, HA.out⟩, by have := HOL2.out; rw [HL6.out]; omega, (by intro e; cases e), by rw [HL6.out]; exact H6.out⟩
            case measure =>
              have := HK.out
              rw [i5]
              simp only [intOf]
              omega
          | false =>
            have hxs2 : slt x s = true := by
              rcases slt_tri s x with ⟨h, -⟩ | ⟨-, -, e, -⟩ | ⟨-, h, -⟩
              · rw [hsx] at h; cases h
              · exact absurd (e ▸ hmem) HNS.out
              · exact h
            simp only [hsx] at hl
            obtain ⟨A2, c2, w6, hap2, h6⟩ := push_str hw x (by have := HN43.out; omega)
            have HR := Lib.hid (show out ++ [x] = xs.take (k + 1) by rw [ht, hout])
            have HA := Lib.hid (show ∀ a ∈ xs.take (k + 1), slt a s = true from fun a ha => by
              rw [ht] at ha
              rcases List.mem_append.1 ha with ha | ha
              · exact hab a ha
              · rw [List.mem_singleton.1 ha]; exact hxs2)
            have H6 := Lib.hid h6
            have HL6 := Lib.hid (show (out ++ [x]).length = out.length + 1 by rw [List.length_append]; rfl)
            clear hx hc hd ht hrt hmem hlt hout hab hol hol2 hol3 hw h6 hsx hxs2 hk hrd
            go_wp2_with (with_reducible refine at_slot (k := some 40) ?_; refine wpList_append_run (o := ⟨some 40, _, _, _, _, _⟩) hap2 rfl rfl rfl rfl ?_; clear hap2)
            go_roundw
            case rel => exact ⟨k + 1, _, false, A2, c2, by have := HK.out; omega, by rw [i5], rfl, by rw [HL6.out], .inl ⟨rfl, HR.out, HA.out⟩, by have := HOL2.out; rw [HL6.out]; omega, fun _ => by have := HOL2.out; rw [HL6.out]; omega, by rw [HL6.out]; exact H6.out⟩
            case measure =>
              have := HK.out
              rw [i5]
              simp only [intOf]
              omega
        · have HOL2 := Lib.hid hol
          have hsx : slt s x = true := slt_trans hs0 ((rise_snoc.1 hrt).2 a0 ha0)
          obtain ⟨A2, c2, w6, hap2, h6⟩ := push_str hw x (by have := HN43.out; omega)
          have HR := Lib.hid (show out ++ [x] = insL s (xs.take (k + 1)) by rw [ht, insL_below hrt hsx, hout])
          have HA := Lib.hid (show ∃ a ∈ xs.take (k + 1), slt s a = true from ⟨x, by rw [ht]; simp, hsx⟩)
          have H6 := Lib.hid h6
          have HL6 := Lib.hid (show (out ++ [x]).length = out.length + 1 by rw [List.length_append]; rfl)
          clear hx hc hd ht hrt hmem hlt hout hol hol2 hw h6 hsx hk hrd hl ha0 hs0
          go_wp2_with (with_reducible refine at_slot (k := some 40) ?_; refine wpList_append_run (o := ⟨some 40, _, _, _, _, _⟩) hap2 rfl rfl rfl rfl ?_; clear hap2)
          go_roundw
          case rel => exact ⟨k + 1, _, true, A2, c2, by have := HK.out; omega, by rw [i5], rfl, by rw [HL6.out], .inr ⟨rfl, HR.out, HA.out⟩, by have := HOL2.out; rw [HL6.out]; omega, (by intro e; cases e), by rw [HL6.out]; exact H6.out⟩
          case measure =>
            have := HK.out
            rw [i5]
            simp only [intOf]
            omega
      · obtain rfl : k = n := by omega
        have e9 : xs.take k = xs := List.take_of_length_le (by rw [HN.out]; omega)
        rw [e9] at hor
        have i1 : ¬ (k : Int) < (k : Int) := by omega
        rcases hor with ⟨rfl, rfl, hab⟩ | ⟨rfl, rfl, -⟩
        · obtain ⟨A2, c2, w6, hap2, h6⟩ := push_str hw s (by have := HN43.out; have := hol2 rfl; omega)
          have HR := Lib.hid (insL_above HRI.out hab)
          have H6 := Lib.hid h6
          clear hw hab h6 e9 hol hol2
          go_wp2_with (with_reducible refine at_slot (k := some 46) ?_; refine wpList_append_run (o := ⟨some 46, _, _, _, _, _⟩) hap2 rfl rfl rfl rfl ?_; clear hap2)
          go_ret
          refine ⟨_, rfl, ?_⟩
          rw [HR.out]
          exact H6.out.f1.drop
        · have H6 := Lib.hid hw
          clear hw e9 hol hol2
          go_wp2_with fail
          go_ret
          exact ⟨_, rfl, H6.out.f1.drop⟩
end
end Go.Proofs.YtgedjkcpgagnbaaDoor
