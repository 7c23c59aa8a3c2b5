/- scope.both, less, Join, Meet, Minus, Within. -/
import Derived.Test.YtgedjkcpgagnbaaDoorScMap
namespace Go.Proofs.YtgedjkcpgagnbaaDoor
open Go.RowKit Go.Maps
theorem often_pos (s : ByteArray) (xs : List ByteArray) : 0 < often s xs ↔ s ∈ xs := by
  unfold often
  rw [List.length_pos_iff]
  constructor
  · intro h
    obtain ⟨x, hx⟩ := List.exists_mem_of_ne_nil _ h
    obtain ⟨h1, h2⟩ := List.mem_filter.1 hx
    rw [← of_decide_eq_true h2]; exact h1
  · intro h e
    have : s ∈ xs.filter fun x => decide (x = s) := List.mem_filter.2 ⟨h, by simp⟩
    rw [e] at this
    cases this
theorem often_has (s : ByteArray) (xs : List ByteArray) : decide (often s xs = 0) = !hasB s xs := by
  have h1 := often_pos s xs
  have h2 := hasB_iff s xs
  cases h : hasB s xs with
  | true => rw [decide_eq_false]; rfl; have := h1.2 (h2.1 h); omega
  | false =>
    rw [decide_eq_true]; rfl
    have := (hasB_false s xs).1 h
    by_cases e : often s xs = 0
    · exact e
    · exact absurd (h1.1 (by omega)) this
theorem del_keyd {D : DataW Unit} {s : ByteArray} {p q : ByteArray → Prop} (h : ∀ t, has D (keyL t) = true ↔ p t) (hq : ∀ t, q t ↔ p t ∧ t ≠ s) : ∀ t, has (D.del (keyL s)) (keyL t) = true ↔ q t := fun t => by
  rw [hq]
  by_cases e : t = s
  · subst e
    rw [has_del_same]
    simp
  · rw [has_del_other (keyL_ne e), h t]
    simp [e]
section
variable {E : World} {S : Ph} {L : List Hp}
theorem goneMeet (fb b2 n2 : Nat) (D2 : DataW Unit) (ys : List ByteArray) (s : ByteArray) (w : World) (hs : s.size ≤ 16) (hC : Counts D2 ys) (h : Own E w (Hp.blk fb NMT #[.map (some b2)] :: Hp.mp Tryd.prog ST intEl b2 n2 D2 :: L)) :
    Calls Tryd.prog 43 #[.string s, .pointer (some ⟨fb, 0, none⟩)] w fun e w' => e = .returned (.bool (!(hasB s ys == true))) ∧ Own E w' (Hp.blk fb NMT #[.map (some b2)] :: Hp.mp Tryd.prog ST intEl b2 n2 D2 :: L) := by
  have hc := h.cell 0
  simp only [List.getElem?_toArray, List.getElem?_cons_zero] at hc
  have hkx := key_of s hs
  have HAT := Lib.hid (hC.at_ s)
  have HO := Lib.hid (often_has s ys)
  generalize often s ys = q at *
  have H := Lib.hid h
  clear h hC hs
  go_enter Tryd.func43, Tryd.ntmps43
  go_wp2_with (at_lookup; refine wpList_lookup_own_int _ rfl _ _ NMT rfl ST INT .i64 st_keyed nmt_u (by kernel_rfl) (zero_int _) b2 n2 D2 rfl H.out.f1.mpOwns _ _ rfl hkx ?_; intro c7 hat hwc; obtain rfl := lit_eq (HAT.out.symm.trans hat))
  go_ret
  refine ⟨?_, H.out⟩
  refine congrArg (fun b => Ending.returned (.bool b)) ?_
  have e := HO.out
  revert e
  cases hasB s ys <;> intro e <;> simp at e ⊢ <;> omega
theorem goneMinus (fb b2 n2 : Nat) (D2 : DataW Unit) (ys : List ByteArray) (s : ByteArray) (w : World) (hs : s.size ≤ 16) (hC : Counts D2 ys) (h : Own E w (Hp.blk fb NMT #[.map (some b2)] :: Hp.mp Tryd.prog ST intEl b2 n2 D2 :: L)) :
    Calls Tryd.prog 44 #[.string s, .pointer (some ⟨fb, 0, none⟩)] w fun e w' => e = .returned (.bool (!(hasB s ys == false))) ∧ Own E w' (Hp.blk fb NMT #[.map (some b2)] :: Hp.mp Tryd.prog ST intEl b2 n2 D2 :: L) := by
  have hc := h.cell 0
  simp only [List.getElem?_toArray, List.getElem?_cons_zero] at hc
  have hkx := key_of s hs
  have HAT := Lib.hid (hC.at_ s)
  have HO := Lib.hid (often_has s ys)
  generalize often s ys = q at *
  have H := Lib.hid h
  clear h hC hs
  go_enter Tryd.func44, Tryd.ntmps44
  go_wp2_with (at_lookup; refine wpList_lookup_own_int _ rfl _ _ NMT rfl ST INT .i64 st_keyed nmt_u (by kernel_rfl) (zero_int _) b2 n2 D2 rfl H.out.f1.mpOwns _ _ rfl hkx ?_; intro c7 hat hwc; obtain rfl := lit_eq (HAT.out.symm.trans hat))
  go_ret
  refine ⟨?_, H.out⟩
  refine congrArg (fun b => Ending.returned (.bool b)) ?_
  have e := HO.out
  revert e
  cases hasB s ys <;> intro e <;> simp at e ⊢ <;> omega
set_option maxRecDepth 20000 in
set_option maxHeartbeats 4000000 in
theorem lessMeet (b n fb b2 n2 : Nat) (D D2 : DataW Unit) (xs ys : List ByteArray) (w : World) (hx : Keyd D xs) (hx16 : ∀ x ∈ xs, x.size ≤ 16) (hC : Counts D2 ys) (hn : n ≤ 8796093022208) (h : Own E w (Hp.mp Tryd.prog ST intEl b n D :: Hp.blk fb NMT #[.map (some b2)] :: Hp.mp Tryd.prog ST intEl b2 n2 D2 :: L)) :
    Calls Tryd.prog 42 #[.map (some b), .func (.func 43) #[] #[.pointer (some ⟨fb, 0, none⟩)]] w fun e w' => ∃ v, e = .returned v ∧
      Own E w' (Hp.lst ST v ((fewL (sortL (xs.filter fun x => hasB x ys == true))).map Value.string) :: L) := by
  have KK := Lib.hid fun w h => keys_any (E := E) (L := Hp.mp Tryd.prog ST intEl b n D :: Hp.blk fb NMT #[.map (some b2)] :: Hp.mp Tryd.prog ST intEl b2 n2 D2 :: L) b w h
  have KC := Lib.hid fun bx w h => collect_any (E := E) (L := Hp.blk fb NMT #[.map (some b2)] :: Hp.mp Tryd.prog ST intEl b2 n2 D2 :: L) b n bx D w hn h
  have HX := Lib.hid hx
  have HX16 := Lib.hid hx16
  have HC := Lib.hid hC
  have HN := Lib.hid hn
  have H := Lib.hid h
  clear h hx hx16 hC hn
  go_enter Tryd.func42, Tryd.ntmps42
  go_wp2_with (first
    | (with_reducible refine (KK.out _ H.out).mono ?_; clear KK H; rintro e w2 ⟨rfl, h⟩; have H2 := Lib.hid h; clear h)
    | (with_reducible refine (KC.out _ _ H2.out).mono ?_; clear KC H2; rintro e w3 ⟨v, ss, rfl, hnd, hlen, hss, h⟩; obtain ⟨A, c, rfl, -⟩ := lst_len h; obtain ⟨S, hS, h⟩ := h.opened; have hrd := (lst_rds hS).1; have H3 := Lib.hid h; have HSS := Lib.hid hss; have HLEN := Lib.hid hlen; clear h hss hlen hnd hS))
  obtain ⟨m, hm⟩ : ∃ m, m = ss.length := ⟨_, rfl⟩
  rw [← hm] at hrd HLEN
  simp only [← hm]
  have HM := Lib.hid hm
  clear hm
  go_loopw [13] (fun i wr => ∃ (k : Nat) (D' : DataW Unit), k ≤ m ∧ i = .int .i64 k ∧ (∀ s, has D' (keyL s) = true ↔ (s ∈ xs ∧ (s ∈ ss.take k → (hasB s ys == true) = true))) ∧ Own E wr (Hp.mp Tryd.prog ST intEl b n D' :: Hp.ro S :: Hp.blk fb NMT #[.map (some b2)] :: Hp.mp Tryd.prog ST intEl b2 n2 D2 :: L)) (fun i _ => m - (intOf i).toNat)
  case atStart => exact ⟨0, D, by omega, rfl, fun s => by rw [HX.out s]; simp, H3.out.f1⟩
  case round =>
    obtain ⟨k, D', hk, rfl, hD, hw⟩ := hrel
    clear H3
    by_cases hlt : k < m
    · obtain ⟨x, g, off, hx, rfl, hcc⟩ := hrd.get1 hlt
      have hcx := hw.f1.rd (hcc _ rfl)
      have hxs : x ∈ xs := (HX.out x).1 ((HSS.out x).1 (List.mem_of_getElem? hx))
      have hxz := HX16.out x hxs
      have i1 : (k : Int) < m := by omega
      have i5 : wrap64 ((k : Int) + 1) = ((k + 1 : Nat) : Int) := by have := HN.out; have := HLEN.out; unfold wrap64; omega
      have ht : ss.take (k + 1) = ss.take k ++ [x] := by rw [List.take_add_one, hx]; rfl
      have KG := Lib.hid fun w h => goneMeet (E := E) (L := Hp.mp Tryd.prog ST intEl b n D' :: Hp.ro S :: L) fb b2 n2 D2 ys x w hxz HC.out h
      have hkx := key_of x hxz
      have HK := Lib.hid hlt
      cases hb : (hasB x ys == true) with
      | true =>
        rw [hb] at KG
        have HR := Lib.hid (show ∀ s, has D' (keyL s) = true ↔ (s ∈ xs ∧ (s ∈ ss.take (k + 1) → (hasB s ys == true) = true)) from fun s => by
          rw [hD s, ht]
          constructor
          · rintro ⟨h1, h2⟩
            refine ⟨h1, fun h3 => ?_⟩
            rcases List.mem_append.1 h3 with h3 | h3
            · exact h2 h3
            · rw [List.mem_singleton.1 h3]; exact hb
          · rintro ⟨h1, h2⟩
            exact ⟨h1, fun h3 => h2 (List.mem_append_left _ h3)⟩)
        have H := Lib.hid (hw.ac (M := Hp.blk fb NMT #[.map (some b2)] :: Hp.mp Tryd.prog ST intEl b2 n2 D2 :: Hp.mp Tryd.prog ST intEl b n D' :: Hp.ro S :: L) (by simp only [Hp.all] <;> ac_rfl))
        clear hx hcc hk hlt hw hD ht hxs hb
        go_wp2_with (with_reducible refine (KG.out _ H.out).mono ?_; clear KG H; rintro e w4 ⟨rfl, h⟩; have H5 := Lib.hid (h.ac (M := Hp.mp Tryd.prog ST intEl b n D' :: Hp.ro S :: Hp.blk fb NMT #[.map (some b2)] :: Hp.mp Tryd.prog ST intEl b2 n2 D2 :: L) (by simp only [Hp.all] <;> ac_rfl)); clear h)
        go_roundw
        case rel => exact ⟨k + 1, D', by have := HK.out; omega, by rw [i5], HR.out, H5.out⟩
        case measure =>
          have := HK.out
          rw [i5]
          simp only [intOf]
          omega
      | false =>
        rw [hb] at KG
        have HR := Lib.hid (show ∀ s, has (D'.del (keyL x)) (keyL s) = true ↔ (s ∈ xs ∧ (s ∈ ss.take (k + 1) → (hasB s ys == true) = true)) from del_keyd hD fun s => by
          rw [ht]
          constructor
          · rintro ⟨h1, h2⟩
            refine ⟨⟨h1, fun h3 => h2 (List.mem_append_left _ h3)⟩, fun e => ?_⟩
            have := h2 (by rw [e]; simp)
            rw [e, hb] at this
            cases this
          · rintro ⟨⟨h1, h2⟩, h4⟩
            refine ⟨h1, fun h3 => ?_⟩
            rcases List.mem_append.1 h3 with h3 | h3
            · exact h2 h3
            · exact absurd (List.mem_singleton.1 h3) h4)
        have H := Lib.hid (hw.ac (M := Hp.blk fb NMT #[.map (some b2)] :: Hp.mp Tryd.prog ST intEl b2 n2 D2 :: Hp.mp Tryd.prog ST intEl b n D' :: Hp.ro S :: L) (by simp only [Hp.all] <;> ac_rfl))
        clear hx hcc hk hlt hw hD ht hxs hb
        go_wp2_with (first
          | (with_reducible refine (KG.out _ H.out).mono ?_; clear KG H; rintro e w4 ⟨rfl, h⟩; have H5 := Lib.hid (h.ac (M := Hp.mp Tryd.prog ST intEl b n D' :: Hp.ro S :: Hp.blk fb NMT #[.map (some b2)] :: Hp.mp Tryd.prog ST intEl b2 n2 D2 :: L) (by simp only [Hp.all] <;> ac_rfl)); clear h)
          | (at_delete; refine wpList_delete_own _ rfl _ _ NMT ST rfl INT st_keyed nmt_u intEl b n D' rfl H5.out.mpOwns _ _ rfl hkx ?_; intro w6 hown6 hturn6; have H6 := Lib.hid (H5.out.mpTurn hown6 hturn6.grown); clear H5 hown6 hturn6))
        go_roundw
        case rel => exact ⟨k + 1, _, by have := HK.out; omega, by rw [i5], HR.out, H6.out⟩
        case measure =>
          have := HK.out
          rw [i5]
          simp only [intOf]
          omega
    · obtain rfl : k = m := by omega
      have e9 : ss.take k = ss := List.take_of_length_le (by rw [HM.out]; omega)
      have i1 : ¬ (k : Int) < (k : Int) := by omega
      have hkeys : ∀ s, has D' (keyL s) = true ↔ s ∈ xs.filter fun x => hasB x ys == true := fun s => by
        rw [hD s, e9, List.mem_filter]
        constructor
        · rintro ⟨h1, h2⟩
          exact ⟨h1, h2 ((HSS.out s).2 ((HX.out s).2 h1))⟩
        · rintro ⟨h1, h2⟩
          exact ⟨h1, fun _ => h2⟩
      have KT := Lib.hid fun w h => sctold_any (E := E) (L := Hp.ro S :: Hp.blk fb NMT #[.map (some b2)] :: Hp.mp Tryd.prog ST intEl b2 n2 D2 :: L) b n D' (xs.filter fun x => hasB x ys == true) w hkeys (fun x hx => HX16.out x (List.mem_filter.1 hx).1) HN.out h
      have H := Lib.hid hw
      clear hw e9 hk hlt hD hkeys hrd
      obtain ⟨l, hl⟩ : ∃ l, l = sortL (xs.filter fun x => hasB x ys == true) := ⟨_, rfl⟩
      rw [← hl] at KT
      have HL := Lib.hid hl
      clear hl
      generalize manyE l = er at *
      go_wp2_with (with_reducible refine (KT.out _ H.out).mono ?_; clear KT H; rintro e w4 ⟨v4, rfl, h⟩; have H5 := Lib.hid h; clear h)
      go_ret
      rw [← HL.out]
      exact ⟨v4, rfl, H5.out.f1.drop.f1.drop.f1.drop.f1.drop⟩
set_option maxRecDepth 20000 in
set_option maxHeartbeats 4000000 in
theorem lessMinus (b n fb b2 n2 : Nat) (D D2 : DataW Unit) (xs ys : List ByteArray) (w : World) (hx : Keyd D xs) (hx16 : ∀ x ∈ xs, x.size ≤ 16) (hC : Counts D2 ys) (hn : n ≤ 8796093022208) (h : Own E w (Hp.mp Tryd.prog ST intEl b n D :: Hp.blk fb NMT #[.map (some b2)] :: Hp.mp Tryd.prog ST intEl b2 n2 D2 :: L)) :
    Calls Tryd.prog 42 #[.map (some b), .func (.func 44) #[] #[.pointer (some ⟨fb, 0, none⟩)]] w fun e w' => ∃ v, e = .returned v ∧
      Own E w' (Hp.lst ST v ((fewL (sortL (xs.filter fun x => hasB x ys == false))).map Value.string) :: L) := by
  have KK := Lib.hid fun w h => keys_any (E := E) (L := Hp.mp Tryd.prog ST intEl b n D :: Hp.blk fb NMT #[.map (some b2)] :: Hp.mp Tryd.prog ST intEl b2 n2 D2 :: L) b w h
  have KC := Lib.hid fun bx w h => collect_any (E := E) (L := Hp.blk fb NMT #[.map (some b2)] :: Hp.mp Tryd.prog ST intEl b2 n2 D2 :: L) b n bx D w hn h
  have HX := Lib.hid hx
  have HX16 := Lib.hid hx16
  have HC := Lib.hid hC
  have HN := Lib.hid hn
  have H := Lib.hid h
  clear h hx hx16 hC hn
  go_enter Tryd.func42, Tryd.ntmps42
  go_wp2_with (first
    | (with_reducible refine (KK.out _ H.out).mono ?_; clear KK H; rintro e w2 ⟨rfl, h⟩; have H2 := Lib.hid h; clear h)
    | (with_reducible refine (KC.out _ _ H2.out).mono ?_; clear KC H2; rintro e w3 ⟨v, ss, rfl, hnd, hlen, hss, h⟩; obtain ⟨A, c, rfl, -⟩ := lst_len h; obtain ⟨S, hS, h⟩ := h.opened; have hrd := (lst_rds hS).1; have H3 := Lib.hid h; have HSS := Lib.hid hss; have HLEN := Lib.hid hlen; clear h hss hlen hnd hS))
  obtain ⟨m, hm⟩ : ∃ m, m = ss.length := ⟨_, rfl⟩
  rw [← hm] at hrd HLEN
  simp only [← hm]
  have HM := Lib.hid hm
  clear hm
  go_loopw [13] (fun i wr => ∃ (k : Nat) (D' : DataW Unit), k ≤ m ∧ i = .int .i64 k ∧ (∀ s, has D' (keyL s) = true ↔ (s ∈ xs ∧ (s ∈ ss.take k → (hasB s ys == false) = true))) ∧ Own E wr (Hp.mp Tryd.prog ST intEl b n D' :: Hp.ro S :: Hp.blk fb NMT #[.map (some b2)] :: Hp.mp Tryd.prog ST intEl b2 n2 D2 :: L)) (fun i _ => m - (intOf i).toNat)
  case atStart => exact ⟨0, D, by omega, rfl, fun s => by rw [HX.out s]; simp, H3.out.f1⟩
  case round =>
    obtain ⟨k, D', hk, rfl, hD, hw⟩ := hrel
    clear H3
    by_cases hlt : k < m
    · obtain ⟨x, g, off, hx, rfl, hcc⟩ := hrd.get1 hlt
      have hcx := hw.f1.rd (hcc _ rfl)
      have hxs : x ∈ xs := (HX.out x).1 ((HSS.out x).1 (List.mem_of_getElem? hx))
      have hxz := HX16.out x hxs
      have i1 : (k : Int) < m := by omega
      have i5 : wrap64 ((k : Int) + 1) = ((k + 1 : Nat) : Int) := by have := HN.out; have := HLEN.out; unfold wrap64; omega
      have ht : ss.take (k + 1) = ss.take k ++ [x] := by rw [List.take_add_one, hx]; rfl
      have KG := Lib.hid fun w h => goneMinus (E := E) (L := Hp.mp Tryd.prog ST intEl b n D' :: Hp.ro S :: L) fb b2 n2 D2 ys x w hxz HC.out h
      have hkx := key_of x hxz
      have HK := Lib.hid hlt
      cases hb : (hasB x ys == false) with
      | true =>
        rw [hb] at KG
        have HR := Lib.hid (show ∀ s, has D' (keyL s) = true ↔ (s ∈ xs ∧ (s ∈ ss.take (k + 1) → (hasB s ys == false) = true)) from fun s => by
          rw [hD s, ht]
          constructor
          · rintro ⟨h1, h2⟩
            refine ⟨h1, fun h3 => ?_⟩
            rcases List.mem_append.1 h3 with h3 | h3
            · exact h2 h3
            · rw [List.mem_singleton.1 h3]; exact hb
          · rintro ⟨h1, h2⟩
            exact ⟨h1, fun h3 => h2 (List.mem_append_left _ h3)⟩)
        have H := Lib.hid (hw.ac (M := Hp.blk fb NMT #[.map (some b2)] :: Hp.mp Tryd.prog ST intEl b2 n2 D2 :: Hp.mp Tryd.prog ST intEl b n D' :: Hp.ro S :: L) (by simp only [Hp.all] <;> ac_rfl))
        clear hx hcc hk hlt hw hD ht hxs hb
        go_wp2_with (with_reducible refine (KG.out _ H.out).mono ?_; clear KG H; rintro e w4 ⟨rfl, h⟩; have H5 := Lib.hid (h.ac (M := Hp.mp Tryd.prog ST intEl b n D' :: Hp.ro S :: Hp.blk fb NMT #[.map (some b2)] :: Hp.mp Tryd.prog ST intEl b2 n2 D2 :: L) (by simp only [Hp.all] <;> ac_rfl)); clear h)
        go_roundw
        case rel => exact ⟨k + 1, D', by have := HK.out; omega, by rw [i5], HR.out, H5.out⟩
        case measure =>
          have := HK.out
          rw [i5]
          simp only [intOf]
          omega
      | false =>
        rw [hb] at KG
        have HR := Lib.hid (show ∀ s, has (D'.del (keyL x)) (keyL s) = true ↔ (s ∈ xs ∧ (s ∈ ss.take (k + 1) → (hasB s ys == false) = true)) from del_keyd hD fun s => by
          rw [ht]
          constructor
          · rintro ⟨h1, h2⟩
            refine ⟨⟨h1, fun h3 => h2 (List.mem_append_left _ h3)⟩, fun e => ?_⟩
            have := h2 (by rw [e]; simp)
            rw [e, hb] at this
            cases this
          · rintro ⟨⟨h1, h2⟩, h4⟩
            refine ⟨h1, fun h3 => ?_⟩
            rcases List.mem_append.1 h3 with h3 | h3
            · exact h2 h3
            · exact absurd (List.mem_singleton.1 h3) h4)
        have H := Lib.hid (hw.ac (M := Hp.blk fb NMT #[.map (some b2)] :: Hp.mp Tryd.prog ST intEl b2 n2 D2 :: Hp.mp Tryd.prog ST intEl b n D' :: Hp.ro S :: L) (by simp only [Hp.all] <;> ac_rfl))
        clear hx hcc hk hlt hw hD ht hxs hb
        go_wp2_with (first
          | (with_reducible refine (KG.out _ H.out).mono ?_; clear KG H; rintro e w4 ⟨rfl, h⟩; have H5 := Lib.hid (h.ac (M := Hp.mp Tryd.prog ST intEl b n D' :: Hp.ro S :: Hp.blk fb NMT #[.map (some b2)] :: Hp.mp Tryd.prog ST intEl b2 n2 D2 :: L) (by simp only [Hp.all] <;> ac_rfl)); clear h)
          | (at_delete; refine wpList_delete_own _ rfl _ _ NMT ST rfl INT st_keyed nmt_u intEl b n D' rfl H5.out.mpOwns _ _ rfl hkx ?_; intro w6 hown6 hturn6; have H6 := Lib.hid (H5.out.mpTurn hown6 hturn6.grown); clear H5 hown6 hturn6))
        go_roundw
        case rel => exact ⟨k + 1, _, by have := HK.out; omega, by rw [i5], HR.out, H6.out⟩
        case measure =>
          have := HK.out
          rw [i5]
          simp only [intOf]
          omega
    · obtain rfl : k = m := by omega
      have e9 : ss.take k = ss := List.take_of_length_le (by rw [HM.out]; omega)
      have i1 : ¬ (k : Int) < (k : Int) := by omega
      have hkeys : ∀ s, has D' (keyL s) = true ↔ s ∈ xs.filter fun x => hasB x ys == false := fun s => by
        rw [hD s, e9, List.mem_filter]
        constructor
        · rintro ⟨h1, h2⟩
          exact ⟨h1, h2 ((HSS.out s).2 ((HX.out s).2 h1))⟩
        · rintro ⟨h1, h2⟩
          exact ⟨h1, fun _ => h2⟩
      have KT := Lib.hid fun w h => sctold_any (E := E) (L := Hp.ro S :: Hp.blk fb NMT #[.map (some b2)] :: Hp.mp Tryd.prog ST intEl b2 n2 D2 :: L) b n D' (xs.filter fun x => hasB x ys == false) w hkeys (fun x hx => HX16.out x (List.mem_filter.1 hx).1) HN.out h
      have H := Lib.hid hw
      clear hw e9 hk hlt hD hkeys hrd
      obtain ⟨l, hl⟩ : ∃ l, l = sortL (xs.filter fun x => hasB x ys == false) := ⟨_, rfl⟩
      rw [← hl] at KT
      have HL := Lib.hid hl
      clear hl
      generalize manyE l = er at *
      go_wp2_with (with_reducible refine (KT.out _ H.out).mono ?_; clear KT H; rintro e w4 ⟨v4, rfl, h⟩; have H5 := Lib.hid h; clear h)
      go_ret
      rw [← HL.out]
      exact ⟨v4, rfl, H5.out.f1.drop.f1.drop.f1.drop.f1.drop⟩
set_option maxRecDepth 20000 in
set_option maxHeartbeats 4000000 in
theorem both_ok (A B : Option Addr) (n c m d : Nat) (xs ys : List ByteArray) (w : World) (hra : Rds S 1 enStr A n xs) (hrb : Rds S 1 enStr B m ys) (hnc : n ≤ c) (hmd : m ≤ d) (hn : n ≤ 8796093022208) (hm : m ≤ 8796093022208) (h1 : scErr xs = 0) (h2 : scErr ys = 0) (h : Own E w (Hp.ro S :: L)) :
    Calls Tryd.prog 41 #[.slice A n c, .slice B m d] w fun e w' => ∃ b1 b2 D1 D2, e = .returned (.tuple #[.map (some b1), .map (some b2), .bool true]) ∧ Counts D1 xs ∧ Counts D2 ys ∧ Own E w' (Hp.mp Tryd.prog ST intEl b1 n D1 :: Hp.mp Tryd.prog ST intEl b2 m D2 :: Hp.ro S :: L) := by
  have KA := Lib.hid (fun w h => right_any (E := E) (L := L) A n c xs w hra hnc hn h)
  have KB := Lib.hid (fun w h => right_any (E := E) (L := L) B m d ys w hrb hmd hm h)
  rw [decide_eq_true h1] at KA
  rw [decide_eq_true h2] at KB
  have GA : Hid (∀ w, Own E w (Hp.ro S :: L) → Calls Tryd.prog 25 #[.slice A n c] w fun e w' => ∃ b D, e = .returned (.tuple #[.map (some b), .int .i64 0]) ∧ Counts D xs ∧ Own E w' (Hp.mp Tryd.prog ST intEl b n D :: Hp.ro S :: L)) := Lib.hid fun w h => (gather_any (E := E) (L := L) A n c xs w hra hn h).mono fun e w' hor => by
    rcases hor with ⟨-, b, D, he, h3, h4⟩ | ⟨h3, -, -⟩
    · exact ⟨b, D, he, h3, h4⟩
    · rw [(right8 h1).2] at h3; cases h3
  have GB : Hid (∀ b1 D1 w, Own E w (Hp.mp Tryd.prog ST intEl b1 n D1 :: Hp.ro S :: L) → Calls Tryd.prog 25 #[.slice B m d] w fun e w' => ∃ b D, e = .returned (.tuple #[.map (some b), .int .i64 0]) ∧ Counts D ys ∧ Own E w' (Hp.mp Tryd.prog ST intEl b1 n D1 :: Hp.mp Tryd.prog ST intEl b m D :: Hp.ro S :: L)) := Lib.hid fun b1 D1 w h => (gather_any (E := E) (L := Hp.mp Tryd.prog ST intEl b1 n D1 :: L) B m d ys w hrb hm h.f1).mono fun e w' hor => by
    rcases hor with ⟨-, b, D, he, h3, h4⟩ | ⟨h3, -, -⟩
    · exact ⟨b, D, he, h3, h4.f2⟩
    · rw [(right8 h2).2] at h3; cases h3
  have H := Lib.hid h
  clear h hra hrb hn hm h1 h2 hnc hmd
  go_enter Tryd.func41, Tryd.ntmps41
  go_wp2_with (first
    | (with_reducible refine (KA.out _ H.out).mono ?_; clear KA H; rintro e w2 ⟨rfl, h⟩; have H2 := Lib.hid h; clear h)
    | (with_reducible refine (KB.out _ H2.out).mono ?_; clear KB H2; rintro e w3 ⟨rfl, h⟩; have H3 := Lib.hid h; clear h)
    | (with_reducible refine (GA.out _ H3.out).mono ?_; clear GA H3; rintro e w4 ⟨b1, D1, rfl, hC1, h⟩; have HC1 := Lib.hid hC1; have H4 := Lib.hid h; clear h hC1)
    | (with_reducible refine (GB.out _ _ _ H4.out).mono ?_; clear GB H4; rintro e w5 ⟨b2, D2, rfl, hC2, h⟩; have HC2 := Lib.hid hC2; have H5 := Lib.hid h; clear h hC2))
  go_ret3
  exact ⟨b1, b2, D1, D2, rfl, HC1.out, HC2.out, H5.out⟩
set_option maxRecDepth 20000 in
set_option maxHeartbeats 4000000 in
theorem both_not (A B : Option Addr) (n c m d : Nat) (xs ys : List ByteArray) (w : World) (hra : Rds S 1 enStr A n xs) (hrb : Rds S 1 enStr B m ys) (hnc : n ≤ c) (hmd : m ≤ d) (hn : n ≤ 8796093022208) (hm : m ≤ 8796093022208) (h1 : ¬ (scErr xs = 0 ∧ scErr ys = 0)) (h : Own E w (Hp.ro S :: L)) :
    Calls Tryd.prog 41 #[.slice A n c, .slice B m d] w fun e w' => e = .returned (.tuple #[.map none, .map none, .bool false]) ∧ Own E w' (Hp.ro S :: L) := by
  have KA := Lib.hid (fun w h => right_any (E := E) (L := L) A n c xs w hra hnc hn h)
  have KB := Lib.hid (fun w h => right_any (E := E) (L := L) B m d ys w hrb hmd hm h)
  have H := Lib.hid h
  by_cases h2 : scErr xs = 0
  · have h3 : ¬ scErr ys = 0 := fun h3 => h1 ⟨h2, h3⟩
    rw [decide_eq_true h2] at KA
    rw [decide_eq_false h3] at KB
    clear h hra hrb hn hm h1 h2 h3 hnc hmd
    go_enter Tryd.func41, Tryd.ntmps41
    go_wp2_with (first
      | (with_reducible refine (KA.out _ H.out).mono ?_; clear KA H; rintro e w2 ⟨rfl, h⟩; have H2 := Lib.hid h; clear h)
      | (with_reducible refine (KB.out _ H2.out).mono ?_; clear KB H2; rintro e w3 ⟨rfl, h⟩; have H3 := Lib.hid h; clear h))
    go_ret3
    exact ⟨rfl, H3.out⟩
  · rw [decide_eq_false h2] at KA
    clear h hra hrb hn hm h1 h2 hnc hmd KB
    go_enter Tryd.func41, Tryd.ntmps41
    go_wp2_with (with_reducible refine (KA.out _ H.out).mono ?_; clear KA H; rintro e w2 ⟨rfl, h⟩; have H2 := Lib.hid h; clear h)
    go_ret3
    exact ⟨rfl, H2.out⟩
end
end Go.Proofs.YtgedjkcpgagnbaaDoor
