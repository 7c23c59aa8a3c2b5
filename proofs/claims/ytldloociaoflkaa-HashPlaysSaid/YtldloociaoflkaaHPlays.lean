/- HashPlays. -/
import Derived.Test.YtldloociaoflkaaOver
namespace Go.Proofs.Ytldloociaoflkaa
open Go.RowKit
theorem at_slot {P : Program} {ops : Array Oper} {Q : Exit → Act → World → Prop} {rest : List Oper} {a : Act} {w : World} {k : Option Tmp} {x1 x2 x3 x4 x5} (h : wpList P ops Q ((⟨k, x1, x2, x3, x4, x5⟩ : Oper) :: rest) a w) : wpList P ops Q ((⟨k, x1, x2, x3, x4, x5⟩ : Oper) :: rest) a w := h
/-- What the loop holds: two rows and the hashers. -/
abbrev Stage (E w : World) (v u : Value) (ps : List Kid) (M : List Hp) : Prop := Own E w (Hp.row HPT 1 v ps.length (ps.map kidP) :: Hp.row ST 1 u ps.length (ps.map kidS) :: Hp.kids ps :: M)
theorem map_set_kidS (ps : List Kid) (j b : Nat) (t : ByteArray) : (ps.map kidS).set j (.string t) = (ps.set j (b, t)).map kidS := by
  rw [List.map_set]
theorem map_set_kidP (ps : List Kid) (j b : Nat) (s t : ByteArray) (h : ps[j]? = some (b, s)) : (ps.set j (b, t)).map kidP = ps.map kidP := by
  rw [List.map_set]
  apply List.ext_getElem?
  intro i
  rw [List.getElem?_set]
  split
  · rename_i hij
    subst hij
    split
    · rw [List.getElem?_map, h]; rfl
    · rename_i hlt
      rw [List.getElem?_eq_none (by omega)]
  · rfl
theorem row_last2 {E w : World} {L : List Hp} {ps : List Kid} {g m c : Nat} (hm : ps.length = m) (h0 : 0 < m) (h : Own E w (Hp.row HPT 1 (.slice (some ⟨g, 0, none⟩) m c) m (ps.map kidP) :: L)) :
    ∃ b, w.cell? ⟨g, m - 1, none⟩ = some (.pointer (some ⟨b, 0, none⟩)) := by
  obtain ⟨g', c', b, hv, hc⟩ := row_last hm h0 h
  injection hv with hv
  injection hv with hv
  injection hv with hv
  subst hv
  exact ⟨b, hc⟩
set_option maxRecDepth 100000 in
set_option maxHeartbeats 8000000 in
theorem hplays_any {E : World} {S : Ph} {L : List Hp} (A : Option Addr) (n c : Nat) (xs : List Move) (w : World) (hn : n ≤ maxLen) (hr : Rds S 3 enMove A n xs) (hz : ∀ x ∈ xs, x.s.size ≤ 9000000000000000000)
    (hi : ∀ x ∈ xs, -9223372036854775808 ≤ x.at_ ∧ x.at_ ≤ 9223372036854775807) (h : Own E w (Hp.ro S :: L)) :
    Calls Try.prog 6 #[.slice A n c] w fun e w' => e = .returned (.bool true) ∧ Own E w' (Hp.ro S :: L) := by
  have hxl := hr.1
  have HZ := Lib.hid hz
  have HI := Lib.hid hi
  clear hz hi
  go_enter Try.func6, Try.ntmps6
  go_wp2_with fail
  refine (over_any _ _ _ xs _ hn hr HZ.out h).mono ?_
  rintro e w1 ⟨b, hb, rfl, rfl⟩
  cases b with
  | true =>
    go_wp2_with fail
    go_ret
    exact ⟨rfl, h⟩
  | false =>
    have hb1 := hb rfl
    have hcl := cost_len xs
    have hn2 : n ≤ 2147483647 := by omega
    have HB := Lib.hid hb1
    clear hb hb1 hcl
    go_wp2_with fail
    refine (known_any _ h).mono ?_
    rintro e w1 ⟨rfl, h1⟩
    clear h
    go_wp2_with fail
    refine (new_any _ h1).mono ?_
    rintro e w2 ⟨b0, rfl, h2⟩
    have h2' : Own E w2 (Hp.kids [(b0, ⟨#[]⟩)] :: Hp.ro S :: L) := (Own.star (M := [kidH (b0, ⟨#[]⟩)])).2 h2
    have h3 := Own.toRow (size := 1) (n := 1) (cap := 1) (h2'.alloc (.cells #[.pointer (some ⟨b0, 0, none⟩)] HPT)) (by omega) (by unfold maxLen; omega) rfl
    have h4 := Own.toRow (size := 1) (n := 1) (cap := 1) (h3.alloc (.cells #[.string ⟨#[]⟩] ST)) (by omega) (by unfold maxLen; omega) rfl
    obtain ⟨g, hg, hcell, -⟩ := h4.f1.rowCells 0 _ rfl
    injection hg with hg
    injection hg with hg
    subst hg
    have hsz1 : (w2.alloc (.cells #[.pointer (some ⟨b0, 0, none⟩)] HPT)).heap.size = w2.heap.size + 1 := Array.size_push _
    have h5 := h4.f1
    rw [hsz1] at h5
    have H4 := Lib.hid h5
    clear h1 h2 h2' h3 h4 h5 hsz1
    go_wp2_with fail
    go_loopw [4, 5, 6] (fun v u i wr => ∃ (k : Nat) (ps : List Kid), k ≤ n ∧ i = .int .i64 k ∧ 1 ≤ ps.length ∧ ps.length ≤ k + 1 ∧ (∀ p ∈ ps, p.2.size ≤ cost (xs.take k)) ∧ Stage E wr v u ps (Hp.ro S :: L)) (fun _ _ i _ => n - (intOf i).toNat)
    case atStart => exact ⟨0, [(b0, ⟨#[]⟩)], by omega, rfl, by simp, by simp, by intro p hp; rw [List.mem_singleton.1 hp]; exact Nat.zero_le _, H4.out⟩
    case round =>
      obtain ⟨k, ps, hkn, rfl, hp1, hp2, hps, hw⟩ := hrel
      clear H4 hcell
      obtain ⟨m, hm⟩ : ∃ m, ps.length = m := ⟨_, rfl⟩
      unfold Stage at hw
      rw [hm] at hw hp1 hp2
      obtain ⟨A1, cv, rfl⟩ : ∃ A c, _ = Value.slice A m c := hw.rowSlice
      obtain ⟨A2, cu, rfl⟩ : ∃ A c, _ = Value.slice A m c := hw.f1.rowSlice
      by_cases hlt : k < n
      · obtain ⟨⟨kd, on, s⟩, gx, off, hx, rfl, hc⟩ := hr.get hlt
        have hrange : wr.rangeAt gx (off + k * 3) (enMove ⟨kd, on, s⟩) := fun j u hu => hw.f3.rd (hc j u hu)
        have HI1 := Lib.hid (show -9223372036854775808 ≤ on ∧ on ≤ 9223372036854775807 from HI.out _ (List.mem_of_getElem? hx))
        have ek := cost_snoc xs k _ hx
        have ecl := cost_le xs (k + 1)
        have hsz : cost (xs.take k) + 1 + s.size ≤ 2147483647 := by have := HB.out; dsimp only at ek; omega
        have EK := Lib.hid ek
        have HPS := Lib.hid hps
        have HM := Lib.hid hm
        have HX := Lib.hid hw
        have HA := Lib.hid (hw.alloc (.cells #[.int .i64 kd, .int .i64 on, .string s] OPT))
        clear hc hx ek ecl hps hm hw
        go_wp2_with (with_reducible refine at_slot (k := some 35) ?_; refine wpList_load_mid (op := ⟨some 35, _, _, _, _, _⟩) rfl OPT _ rfl gx (off + k * 3) rfl (enMove ⟨kd, on, s⟩) _ hrange Try.underlying43 rfl (by kernel_rfl) ?_; clear hrange)
        refine (pick_any on m _ HI1.out (by omega) (by omega)).mono ?_
        rintro e w4 ⟨j, hj, rfl, rfl⟩
        have hjm : j < m := by omega
        have hj0 : (0 : Int) ≤ (j : Int) := by omega
        obtain ⟨⟨b, t⟩, hpj⟩ : ∃ p, ps[j]? = some p := ⟨_, List.getElem?_eq_getElem (by rw [HM.out]; exact hjm)⟩
        have htz := HPS.out _ (List.mem_of_getElem? hpj)
        have hts : t.size ≤ 2147483647 := by dsimp only at htz; omega
        have hss : s.size ≤ 2147483647 := by omega
        have HTZ := Lib.hid htz
        have HPJ := Lib.hid hpj
        obtain ⟨w3, hw3⟩ : ∃ w3, w3 = wr.alloc (.cells #[.int .i64 kd, .int .i64 on, .string s] OPT) := ⟨_, rfl⟩
        rw [← hw3] at HA ⊢
        have H3 : Hid (Own E w3 (Hp.blk wr.heap.size OPT (enMove ⟨kd, on, s⟩).toArray :: Hp.row HPT 1 (.slice A1 m cv) m (ps.map kidP) :: Hp.row ST 1 (.slice A2 m cu) m (ps.map kidS) :: Hp.kids ps :: Hp.ro S :: L)) := HA
        clear htz hpj HA HX hw3
        generalize wr.heap.size = g7 at *
        have c0 : w3.cell? ⟨g7, 0, none⟩ = some (.int .i64 kd) := H3.out.cell 0
        have c2 : w3.cell? ⟨g7, 2, none⟩ = some (.string s) := H3.out.cell 2
        have hjP : (ps.map kidP)[j]? = some (kidP (b, t)) := by rw [List.getElem?_map, HPJ.out]; rfl
        have hjS : (ps.map kidS)[j]? = some (kidS (b, t)) := by rw [List.getElem?_map, HPJ.out]; rfl
        obtain ⟨gv, rfl, cP, -⟩ := H3.out.f1.rowCells j _ hjP
        obtain ⟨gu, rfl, cS, -⟩ := H3.out.f2.rowCells j _ hjS
        have HjP := Lib.hid hjP
        have HjS := Lib.hid hjS
        clear hjP hjS hj
        have hgrow : ∀ p ∈ ps, p.2.size ≤ cost (xs.take (k + 1)) := fun p hp => Nat.le_trans (HPS.out p hp) (by rw [EK.out]; omega)
        have HG := Lib.hid hgrow
        clear hgrow
        have hkq : ∀ W, Own E W (kidH (b, t) :: Hp.kids (ps.eraseIdx j) :: Hp.blk g7 OPT (enMove ⟨kd, on, s⟩).toArray :: Hp.row HPT 1 (.slice (some ⟨gv, 0, none⟩) m cv) m (ps.map kidP) :: Hp.row ST 1 (.slice (some ⟨gu, 0, none⟩) m cu) m (ps.map kidS) :: Hp.ro S :: L) → W.cell? ⟨gv, j, none⟩ = some (.pointer (some ⟨b, 0, none⟩)) ∧ W.cell? ⟨gu, j, none⟩ = some (.string t) := fun W hW => by
          obtain ⟨_, e1, q1, -⟩ := hW.f3.rowCells j _ HjP.out
          obtain ⟨_, e2, q2, -⟩ := hW.f4.rowCells j _ HjS.out
          injection e1 with e1
          injection e1 with e1
          injection e2 with e2
          injection e2 with e2
          subst e1 e2
          exact ⟨q1, q2⟩
        have HQ := Lib.hid hkq
        clear hkq
        have H5 := Lib.hid ((H3.out.f3).kidsTake HPJ.out)
        have htl : t.data.toList.length = t.size := rfl
        have hwl : t.data.toList.length + s.size ≤ 9223372036854775807 := by rw [htl]; omega
        have htl2 : t.data.toList.length ≤ 1152921504606846975 := by rw [htl]; omega
        have HT := Lib.hid htl
        have HWL := Lib.hid hwl
        have HTL := Lib.hid htl2
        clear htl hwl htl2
        by_cases k1 : kd = 1
        · subst k1
          go_wp2_with fail
          refine (new_any _ H3.out).mono ?_
          rintro e w5 ⟨bn, rfl, h5⟩
          obtain ⟨v', w6, hap, h6⟩ := add_ptr bn (by omega) h5.f2
          obtain ⟨u', w7, hap2, h7⟩ := add_txt ⟨#[]⟩ (by omega) h6.f3
          have hst0 := (h7.f4.f3.kidsAdd (bn, ⟨#[]⟩)).f3.drop.f2.f2.f1
          obtain ⟨q, hq⟩ : ∃ q : Kid, q = (bn, ⟨#[]⟩) := ⟨_, rfl⟩
          rw [← hq] at hst0
          have hml : (ps ++ [q]).length = m + 1 := by rw [List.length_append, HM.out]; rfl
          have hst1 : Own E w7 (Hp.row HPT 1 v' (m + 1) ((ps ++ [q]).map kidP) :: Hp.row ST 1 u' (m + 1) ((ps ++ [q]).map kidS) :: Hp.kids (ps ++ [q]) :: Hp.ro S :: L) := by
            rw [List.map_append, List.map_append]
            subst hq
            exact hst0
          have hqs : ∀ p ∈ ps ++ [q], p.2.size ≤ cost (xs.take (k + 1)) := fun p hp => by
            rcases List.mem_append.1 hp with hp | hp
            · exact HG.out p hp
            · rw [List.mem_singleton.1 hp, hq]; exact Nat.zero_le _
          obtain ⟨g', c', b', rfl, hlast⟩ := row_last hml (by omega) hst1
          rw [Nat.add_sub_cancel] at hlast
          have HML := Lib.hid hml
          have HST := Lib.hid hst1
          have HQS := Lib.hid hqs
          clear h5 h6 h7 hst0 hst1 hq hqs hml
          go_wp2_with (first | (with_reducible refine at_slot (k := some 48) ?_; refine wpList_append_run (o := ⟨some 48, _, _, _, _, _⟩) hap rfl rfl rfl rfl ?_; clear hap) | (with_reducible refine at_slot (k := some 51) ?_; refine wpList_append_run (o := ⟨some 51, _, _, _, _, _⟩) hap2 rfl rfl rfl rfl ?_; clear hap2))
          go_roundw
          case rel => exact ⟨k + 1, ps ++ [q], by omega, by go_num, by rw [HML.out]; omega, by rw [HML.out]; omega, HQS.out, by unfold Stage; rw [HML.out]; exact HST.out⟩
          case measure => simp [intOf]; omega
        have b1 : (kd == 1) = false := by simpa using k1
        by_cases k2 : kd = 2
        · subst k2
          have hc1 : ¬ 9223372036854775807 < t.size + s.size := by omega
          go_wp2_with fail
          refine wp_region_text [3, 5] (fun w' => w'.cell? ⟨gv, j, none⟩ = some (.pointer (some ⟨b, 0, none⟩)) ∧ w'.cell? ⟨g7, 2, none⟩ = some (.string s)) (by kernel_rfl) ?_ (fun hS => ?_)
          · exact ⟨cP, c2⟩
          refine wpAnyG_pure (i := 0) (oi := ⟨some 54, _, _, _, _, _⟩) (v := ?_) rfl (by kernel_rfl) (by kernel_rfl) (by kernel_rfl) (by rfl) (fun _ _ _ h => h) (by rfl) ?_ ?_
          rotate_left
          · intro w
            go_simp
            first | done | with_reducible rfl
          try simp only [Act.put, List.setIfInBounds_toArray, List.set_cons_zero, List.set_cons_succ]
          refine wpAnyG_pure (i := 1) (oi := ⟨some 55, _, _, _, _, _⟩) (v := ?_) rfl (by kernel_rfl) (by kernel_rfl) (by kernel_rfl) (by rfl) (fun _ _ _ h => h) (by rfl) ?_ ?_
          rotate_left
          · intro w
            go_simp
            first | done | with_reducible rfl
          try simp only [Act.put, List.setIfInBounds_toArray, List.set_cons_zero, List.set_cons_succ]
          refine wpAnyG_pure (i := 2) (oi := ⟨some 56, _, _, _, _, _⟩) (v := ?_) rfl (by kernel_rfl) (by kernel_rfl) (by kernel_rfl) (by rfl) (fun _ _ _ h => h) (by rfl) ?_ ?_
          rotate_left
          · intro w
            go_simp
            first | done | with_reducible rfl
          try simp only [Act.put, List.setIfInBounds_toArray, List.set_cons_zero, List.set_cons_succ]
          refine wpAnyG_load (i := 3) (oi := ⟨some 57, _, _, _, _, _⟩) (v := ?_) rfl (by kernel_rfl) (by kernel_rfl) (by kernel_rfl) (by rfl) (fun _ _ _ h => h) (by rfl) ?_ (by assumption) ?_
          rotate_left
          · intro w hS
            try dsimp only at hS
            go_simp
            first | done | with_reducible rfl
          try simp only [Act.put, List.setIfInBounds_toArray, List.set_cons_zero, List.set_cons_succ]
          refine wpAnyG_pure (i := 4) (oi := ⟨some 58, _, _, _, _, _⟩) (v := ?_) rfl (by kernel_rfl) (by kernel_rfl) (by kernel_rfl) (by rfl) (fun _ _ _ h => h) (by rfl) ?_ ?_
          rotate_left
          · intro w
            go_simp
            first | done | with_reducible rfl
          try simp only [Act.put, List.setIfInBounds_toArray, List.set_cons_zero, List.set_cons_succ]
          refine wpAnyG_load (i := 5) (oi := ⟨some 59, _, _, _, _, _⟩) (v := ?_) rfl (by kernel_rfl) (by kernel_rfl) (by kernel_rfl) (by rfl) (fun _ _ _ h => h) (by rfl) ?_ (by assumption) ?_
          rotate_left
          · intro w hS
            try dsimp only at hS
            go_simp
            first | done | with_reducible rfl
          try simp only [Act.put, List.setIfInBounds_toArray, List.set_cons_zero, List.set_cons_succ]
          refine wpAnyG_break (i := 6) (oi := ⟨some 60, _, _, _, _, _⟩) (by kernel_rfl) rfl (by kernel_rfl) (fun K hK => ?_)
          rw [if_pos (by rfl)]
          go_simp
          refine (write_any b t.data.toList s _ HWL.out (by exact H5.out)).mono ?_
          rintro e w5 ⟨rfl, h6⟩
          refine hK.out _ _ ?_
          clear hK K
          try simp only [Act.put, List.setIfInBounds_toArray, List.set_cons_zero, List.set_cons_succ]
          refine wpAnyG_done (by kernel_rfl) ?_ _
          refine NoPanic.normal ?_
          rw [← app_data] at h6
          have h7 := Own.kidsPut (k := j) (ps := ps) (b, t ++ s) (by rw [HM.out]; exact hjm) h6
          obtain ⟨_, e1, q1, f1, h8⟩ := h7.f3.rowSet j hjm (.string (t ++ s))
          injection e1 with e1
          injection e1 with e1
          subst e1
          rw [List.getD_eq_getElem?_getD, HjS.out] at q1
          have d2 : w5.cell? ⟨g7, 2, none⟩ = some (.string s) := h7.f1.cell 2
          have q2 : w5.cell? ⟨gu, j, none⟩ = some (.string t) := q1
          rw [map_set_kidS ps j b] at h8
          have h9 := h8.f3
          rw [← map_set_kidP ps j b t (t ++ s) HPJ.out] at h9
          have hml : (ps.set j (b, t ++ s)).length = m := by rw [List.length_set, HM.out]
          have h10 := h9.f3.drop
          have hqs : ∀ p ∈ ps.set j (b, t ++ s), p.2.size ≤ cost (xs.take (k + 1)) := fun p hp => by
            rcases List.mem_or_eq_of_mem_set hp with hp | hp
            · exact HG.out p hp
            · rw [hp, EK.out]
              show (t ++ s).size ≤ _
              rw [ByteArray.size_append]
              have := HTZ.out
              omega
          generalize hps' : ps.set j (b, t ++ s) = ps' at *
          obtain ⟨b', hlast⟩ := row_last2 hml (by omega) h10
          have HML := Lib.hid hml
          have HST := Lib.hid h10
          have HQS := Lib.hid hqs
          clear h6 h7 h8 h9 h10 hqs hml hps' q1 cP cS c2 c0
          go_wp2_with fail
          refine wp_region_text [5, 7] (fun w' => w'.cell? ⟨gu, j, none⟩ = some (.string t) ∧ w'.cell? ⟨g7, 2, none⟩ = some (.string s)) (by kernel_rfl) ?_ (fun hS => ?_)
          · exact ⟨q2, d2⟩
          refine wpAnyG_pure (i := 0) (oi := ⟨some 61, _, _, _, _, _⟩) (v := ?_) rfl (by kernel_rfl) (by kernel_rfl) (by kernel_rfl) (by rfl) (fun _ _ _ h => h) (by rfl) ?_ ?_
          rotate_left
          · intro w
            go_simp
            first | done | with_reducible rfl
          try simp only [Act.put, List.setIfInBounds_toArray, List.set_cons_zero, List.set_cons_succ]
          refine wpAnyG_pure (i := 1) (oi := ⟨some 62, _, _, _, _, _⟩) (v := ?_) rfl (by kernel_rfl) (by kernel_rfl) (by kernel_rfl) (by rfl) (fun _ _ _ h => h) (by rfl) ?_ ?_
          rotate_left
          · intro w
            go_simp
            first | done | with_reducible rfl
          try simp only [Act.put, List.setIfInBounds_toArray, List.set_cons_zero, List.set_cons_succ]
          refine wpAnyG_pure (i := 2) (oi := ⟨some 63, _, _, _, _, _⟩) (v := ?_) rfl (by kernel_rfl) (by kernel_rfl) (by kernel_rfl) (by rfl) (fun _ _ _ h => h) (by rfl) ?_ ?_
          rotate_left
          · intro w
            go_simp
            first | done | with_reducible rfl
          try simp only [Act.put, List.setIfInBounds_toArray, List.set_cons_zero, List.set_cons_succ]
          refine wpAnyG_pure (i := 3) (oi := ⟨some 64, _, _, _, _, _⟩) (v := ?_) rfl (by kernel_rfl) (by kernel_rfl) (by kernel_rfl) (by rfl) (fun _ _ _ h => h) (by rfl) ?_ ?_
          rotate_left
          · intro w
            go_simp
            first | done | with_reducible rfl
          try simp only [Act.put, List.setIfInBounds_toArray, List.set_cons_zero, List.set_cons_succ]
          refine wpAnyG_pure (i := 4) (oi := ⟨some 65, _, _, _, _, _⟩) (v := ?_) rfl (by kernel_rfl) (by kernel_rfl) (by kernel_rfl) (by rfl) (fun _ _ _ h => h) (by rfl) ?_ ?_
          rotate_left
          · intro w
            go_simp
            first | done | with_reducible rfl
          try simp only [Act.put, List.setIfInBounds_toArray, List.set_cons_zero, List.set_cons_succ]
          refine wpAnyG_load (i := 5) (oi := ⟨some 66, _, _, _, _, _⟩) (v := ?_) rfl (by kernel_rfl) (by kernel_rfl) (by kernel_rfl) (by rfl) (fun _ _ _ h => h) (by rfl) ?_ (by assumption) ?_
          rotate_left
          · intro w hS
            try dsimp only at hS
            go_simp
            first | done | with_reducible rfl
          try simp only [Act.put, List.setIfInBounds_toArray, List.set_cons_zero, List.set_cons_succ]
          refine wpAnyG_pure (i := 6) (oi := ⟨some 67, _, _, _, _, _⟩) (v := ?_) rfl (by kernel_rfl) (by kernel_rfl) (by kernel_rfl) (by rfl) (fun _ _ _ h => h) (by rfl) ?_ ?_
          rotate_left
          · intro w
            go_simp
            first | done | with_reducible rfl
          try simp only [Act.put, List.setIfInBounds_toArray, List.set_cons_zero, List.set_cons_succ]
          refine wpAnyG_load (i := 7) (oi := ⟨some 68, _, _, _, _, _⟩) (v := ?_) rfl (by kernel_rfl) (by kernel_rfl) (by kernel_rfl) (by rfl) (fun _ _ _ h => h) (by rfl) ?_ (by assumption) ?_
          rotate_left
          · intro w hS
            try dsimp only at hS
            go_simp
            first | done | with_reducible rfl
          try simp only [Act.put, List.setIfInBounds_toArray, List.set_cons_zero, List.set_cons_succ]
          refine wpAnyG_pure (i := 8) (oi := ⟨some 69, _, _, _, _, _⟩) (v := ?_) rfl (by kernel_rfl) (by kernel_rfl) (by kernel_rfl) (by rfl) (fun _ _ _ h => h) (by rfl) ?_ ?_
          rotate_left
          · intro w
            go_simp
            first | done | with_reducible rfl
          try simp only [Act.put, List.setIfInBounds_toArray, List.set_cons_zero, List.set_cons_succ]
          refine wpAnyG_pure (i := 9) (oi := ⟨some 70, _, _, _, _, _⟩) (v := ?_) rfl (by kernel_rfl) (by kernel_rfl) (by kernel_rfl) (by rfl) (fun _ _ _ h => h) (by rfl) ?_ ?_
          rotate_left
          · intro w
            go_simp
            first | done | with_reducible rfl
          try simp only [Act.put, List.setIfInBounds_toArray, List.set_cons_zero, List.set_cons_succ]
          refine wpAnyG_break (i := 10) (oi := ⟨none, _, _, _, _, _⟩) (by kernel_rfl) rfl (by kernel_rfl) (fun K hK => ?_)
          rw [if_pos (by rfl)]
          go_simp
          refine hK.out _ _ ?_
          clear hK K
          try simp only [Act.put]
          refine wpAnyG_done (by kernel_rfl) ?_ _
          refine NoPanic.normal ?_
          have i1 : (m : Int) - 1 = ((m - 1 : Nat) : Int) := by omega
          have i2 : (((m - 1 : Nat) : Int)) < m := by omega
          go_wp2_with fail
          go_roundw
          case rel => exact ⟨k + 1, ps', by omega, by go_num, by rw [HML.out]; omega, by rw [HML.out]; omega, HQS.out, by unfold Stage; rw [HML.out]; exact HST.out⟩
          case measure => simp [intOf]; omega
        have b2 : (kd == 2) = false := by simpa using k2
        by_cases k3 : kd = 3
        · subst k3
          obtain ⟨D, hD⟩ : ∃ D : ByteArray, D = ⟨(Sha.sum t.data.toList).toArray⟩ := ⟨_, rfl⟩
          have HD := Lib.hid hD
          clear hD
          go_wp2_with fail
          refine wp_region_text [3, 8] (fun w' => w'.cell? ⟨gv, j, none⟩ = some (.pointer (some ⟨b, 0, none⟩)) ∧ w'.cell? ⟨gu, j, none⟩ = some (.string t)) (by kernel_rfl) ?_ (fun hS => ?_)
          · exact ⟨cP, cS⟩
          refine wpAnyG_pure (i := 0) (oi := ⟨some 73, _, _, _, _, _⟩) (v := ?_) rfl (by kernel_rfl) (by kernel_rfl) (by kernel_rfl) (by rfl) (fun _ _ _ h => h) (by rfl) ?_ ?_
          rotate_left
          · intro w
            go_simp
            first | done | with_reducible rfl
          try simp only [Act.put, List.setIfInBounds_toArray, List.set_cons_zero, List.set_cons_succ]
          refine wpAnyG_pure (i := 1) (oi := ⟨some 74, _, _, _, _, _⟩) (v := ?_) rfl (by kernel_rfl) (by kernel_rfl) (by kernel_rfl) (by rfl) (fun _ _ _ h => h) (by rfl) ?_ ?_
          rotate_left
          · intro w
            go_simp
            first | done | with_reducible rfl
          try simp only [Act.put, List.setIfInBounds_toArray, List.set_cons_zero, List.set_cons_succ]
          refine wpAnyG_pure (i := 2) (oi := ⟨some 75, _, _, _, _, _⟩) (v := ?_) rfl (by kernel_rfl) (by kernel_rfl) (by kernel_rfl) (by rfl) (fun _ _ _ h => h) (by rfl) ?_ ?_
          rotate_left
          · intro w
            go_simp
            first | done | with_reducible rfl
          try simp only [Act.put, List.setIfInBounds_toArray, List.set_cons_zero, List.set_cons_succ]
          refine wpAnyG_load (i := 3) (oi := ⟨some 76, _, _, _, _, _⟩) (v := ?_) rfl (by kernel_rfl) (by kernel_rfl) (by kernel_rfl) (by rfl) (fun _ _ _ h => h) (by rfl) ?_ (by assumption) ?_
          rotate_left
          · intro w hS
            try dsimp only at hS
            go_simp
            first | done | with_reducible rfl
          try simp only [Act.put, List.setIfInBounds_toArray, List.set_cons_zero, List.set_cons_succ]
          refine wpAnyG_pure (i := 5) (oi := ⟨some 78, _, _, _, _, _⟩) (v := ?_) rfl (by kernel_rfl) (by kernel_rfl) (by kernel_rfl) (by rfl) (fun _ _ _ h => h) (by rfl) ?_ ?_
          rotate_left
          · intro w
            go_simp
            first | done | with_reducible rfl
          try simp only [Act.put, List.setIfInBounds_toArray, List.set_cons_zero, List.set_cons_succ]
          refine wpAnyG_pure (i := 6) (oi := ⟨some 79, _, _, _, _, _⟩) (v := ?_) rfl (by kernel_rfl) (by kernel_rfl) (by kernel_rfl) (by rfl) (fun _ _ _ h => h) (by rfl) ?_ ?_
          rotate_left
          · intro w
            go_simp
            first | done | with_reducible rfl
          try simp only [Act.put, List.setIfInBounds_toArray, List.set_cons_zero, List.set_cons_succ]
          refine wpAnyG_pure (i := 7) (oi := ⟨some 80, _, _, _, _, _⟩) (v := ?_) rfl (by kernel_rfl) (by kernel_rfl) (by kernel_rfl) (by rfl) (fun _ _ _ h => h) (by rfl) ?_ ?_
          rotate_left
          · intro w
            go_simp
            first | done | with_reducible rfl
          try simp only [Act.put, List.setIfInBounds_toArray, List.set_cons_zero, List.set_cons_succ]
          refine wpAnyG_load (i := 8) (oi := ⟨some 81, _, _, _, _, _⟩) (v := ?_) rfl (by kernel_rfl) (by kernel_rfl) (by kernel_rfl) (by rfl) (fun _ _ _ h => h) (by rfl) ?_ (by assumption) ?_
          rotate_left
          · intro w hS
            try dsimp only at hS
            go_simp
            first | done | with_reducible rfl
          try simp only [Act.put, List.setIfInBounds_toArray, List.set_cons_zero, List.set_cons_succ]
          refine wpAnyG_keep (i := 4) (oi := ⟨some 77, _, _, _, _, _⟩) (by kernel_rfl) rfl (fun K hK => ?_)
          rw [if_pos (by rfl)]
          go_simp
          refine (sum_any b t.data.toList _ HTL.out (by exact H5.out)).mono ?_
          rintro e w5 ⟨rfl, h6⟩
          rw [← HD.out]
          refine hK.out _ _ ?_ (fun hS => ?_)
          · exact HQ.out _ h6
          clear hK K
          try simp only [Act.put, List.setIfInBounds_toArray, List.set_cons_zero, List.set_cons_succ]
          refine wpAnyG_keep (i := 9) (oi := ⟨some 82, _, _, _, _, _⟩) (by kernel_rfl) rfl (fun K hK => ?_)
          rw [if_pos (by rfl)]
          go_simp
          refine (refsum_any t _ (Nat.le_trans hts (by omega)) h6).mono ?_
          rintro e w6 ⟨rfl, h7⟩
          rw [← HD.out]
          refine hK.out _ _ ?_ (fun hS => ?_)
          · exact HQ.out _ h7
          clear hK K
          try simp only [Act.put, List.setIfInBounds_toArray, List.set_cons_zero, List.set_cons_succ]
          refine wpAnyG_pure (i := 10) (oi := ⟨some 83, _, _, _, _, _⟩) (v := ?_) rfl (by kernel_rfl) (by kernel_rfl) (by kernel_rfl) (by rfl) (fun _ _ _ h => h) (by rfl) ?_ ?_
          rotate_left
          · intro w
            go_simp
            first | done | with_reducible rfl
          try simp only [Act.put, List.setIfInBounds_toArray, List.set_cons_zero, List.set_cons_succ]
          refine wpAnyG_done (by kernel_rfl) ?_ _
          refine NoPanic.normal ?_
          have h8 := (h7.kidsBack HPJ.out).f1.drop.b2
          have h9 := h8
          obtain ⟨b', hlast⟩ := row_last2 HM.out (by omega) h9
          have HST := Lib.hid h9
          clear h6 h7 h8 h9 cP cS c2 c0
          have i1 : (m : Int) - 1 = ((m - 1 : Nat) : Int) := by omega
          have i2 : (((m - 1 : Nat) : Int)) < m := by omega
          go_wp2_with fail
          go_roundw
          case rel => exact ⟨k + 1, ps, by omega, by go_num, by rw [HM.out]; omega, by rw [HM.out]; omega, HG.out, by unfold Stage; rw [HM.out]; exact HST.out⟩
          case measure => simp [intOf]; omega
        have b3 : (kd == 3) = false := by simpa using k3
        by_cases k4 : kd = 4
        · subst k4
          go_wp2_with fail
          refine wp_region_text [3, 8] (fun w' => w'.cell? ⟨gv, j, none⟩ = some (.pointer (some ⟨b, 0, none⟩)) ∧ w'.cell? ⟨gu, j, none⟩ = some (.string t)) (by kernel_rfl) ?_ (fun hS => ?_)
          · exact ⟨cP, cS⟩
          refine wpAnyG_pure (i := 0) (oi := ⟨some 86, _, _, _, _, _⟩) (v := ?_) rfl (by kernel_rfl) (by kernel_rfl) (by kernel_rfl) (by rfl) (fun _ _ _ h => h) (by rfl) ?_ ?_
          rotate_left
          · intro w
            go_simp
            first | done | with_reducible rfl
          try simp only [Act.put, List.setIfInBounds_toArray, List.set_cons_zero, List.set_cons_succ]
          refine wpAnyG_pure (i := 1) (oi := ⟨some 87, _, _, _, _, _⟩) (v := ?_) rfl (by kernel_rfl) (by kernel_rfl) (by kernel_rfl) (by rfl) (fun _ _ _ h => h) (by rfl) ?_ ?_
          rotate_left
          · intro w
            go_simp
            first | done | with_reducible rfl
          try simp only [Act.put, List.setIfInBounds_toArray, List.set_cons_zero, List.set_cons_succ]
          refine wpAnyG_pure (i := 2) (oi := ⟨some 88, _, _, _, _, _⟩) (v := ?_) rfl (by kernel_rfl) (by kernel_rfl) (by kernel_rfl) (by rfl) (fun _ _ _ h => h) (by rfl) ?_ ?_
          rotate_left
          · intro w
            go_simp
            first | done | with_reducible rfl
          try simp only [Act.put, List.setIfInBounds_toArray, List.set_cons_zero, List.set_cons_succ]
          refine wpAnyG_load (i := 3) (oi := ⟨some 89, _, _, _, _, _⟩) (v := ?_) rfl (by kernel_rfl) (by kernel_rfl) (by kernel_rfl) (by rfl) (fun _ _ _ h => h) (by rfl) ?_ (by assumption) ?_
          rotate_left
          · intro w hS
            try dsimp only at hS
            go_simp
            first | done | with_reducible rfl
          try simp only [Act.put, List.setIfInBounds_toArray, List.set_cons_zero, List.set_cons_succ]
          refine wpAnyG_pure (i := 5) (oi := ⟨some 91, _, _, _, _, _⟩) (v := ?_) rfl (by kernel_rfl) (by kernel_rfl) (by kernel_rfl) (by rfl) (fun _ _ _ h => h) (by rfl) ?_ ?_
          rotate_left
          · intro w
            go_simp
            first | done | with_reducible rfl
          try simp only [Act.put, List.setIfInBounds_toArray, List.set_cons_zero, List.set_cons_succ]
          refine wpAnyG_pure (i := 6) (oi := ⟨some 92, _, _, _, _, _⟩) (v := ?_) rfl (by kernel_rfl) (by kernel_rfl) (by kernel_rfl) (by rfl) (fun _ _ _ h => h) (by rfl) ?_ ?_
          rotate_left
          · intro w
            go_simp
            first | done | with_reducible rfl
          try simp only [Act.put, List.setIfInBounds_toArray, List.set_cons_zero, List.set_cons_succ]
          refine wpAnyG_pure (i := 7) (oi := ⟨some 93, _, _, _, _, _⟩) (v := ?_) rfl (by kernel_rfl) (by kernel_rfl) (by kernel_rfl) (by rfl) (fun _ _ _ h => h) (by rfl) ?_ ?_
          rotate_left
          · intro w
            go_simp
            first | done | with_reducible rfl
          try simp only [Act.put, List.setIfInBounds_toArray, List.set_cons_zero, List.set_cons_succ]
          refine wpAnyG_load (i := 8) (oi := ⟨some 94, _, _, _, _, _⟩) (v := ?_) rfl (by kernel_rfl) (by kernel_rfl) (by kernel_rfl) (by rfl) (fun _ _ _ h => h) (by rfl) ?_ (by assumption) ?_
          rotate_left
          · intro w hS
            try dsimp only at hS
            go_simp
            first | done | with_reducible rfl
          try simp only [Act.put, List.setIfInBounds_toArray, List.set_cons_zero, List.set_cons_succ]
          refine wpAnyG_pure (i := 9) (oi := ⟨some 95, _, _, _, _, _⟩) (v := ?_) rfl (by kernel_rfl) (by kernel_rfl) (by kernel_rfl) (by rfl) (fun _ _ _ h => h) (by rfl) ?_ ?_
          rotate_left
          · intro w
            go_simp
            first | done | with_reducible rfl
          try simp only [Act.put, List.setIfInBounds_toArray, List.set_cons_zero, List.set_cons_succ]
          refine wpAnyG_keep (i := 4) (oi := ⟨some 90, _, _, _, _, _⟩) (by kernel_rfl) rfl (fun K hK => ?_)
          rw [if_pos (by rfl)]
          go_simp
          refine (len_any b t.data.toList _ (by exact H5.out)).mono ?_
          rintro e w5 ⟨rfl, rfl⟩
          rw [HT.out]
          refine hK.out _ _ ?_ (fun hS => ?_)
          · exact hS
          clear hK K
          try simp only [Act.put, List.setIfInBounds_toArray, List.set_cons_zero, List.set_cons_succ]
          refine wpAnyG_pure (i := 10) (oi := ⟨some 96, _, _, _, _, _⟩) (v := ?_) rfl (by kernel_rfl) (by kernel_rfl) (by kernel_rfl) (by rfl) (fun _ _ _ h => h) (by rfl) ?_ ?_
          rotate_left
          · intro w
            go_simp
            first | done | with_reducible rfl
          try simp only [Act.put, List.setIfInBounds_toArray, List.set_cons_zero, List.set_cons_succ]
          refine wpAnyG_done (by kernel_rfl) ?_ _
          refine NoPanic.normal ?_
          have h9 := (H5.out.kidsBack HPJ.out).f1.drop.b2
          obtain ⟨b', hlast⟩ := row_last2 HM.out (by omega) h9
          have HST := Lib.hid h9
          clear h9 cP cS c2 c0
          have i1 : (m : Int) - 1 = ((m - 1 : Nat) : Int) := by omega
          have i2 : (((m - 1 : Nat) : Int)) < m := by omega
          go_wp2_with fail
          go_roundw
          case rel => exact ⟨k + 1, ps, by omega, by go_num, by rw [HM.out]; omega, by rw [HM.out]; omega, HG.out, by unfold Stage; rw [HM.out]; exact HST.out⟩
          case measure => simp [intOf]; omega
        have b4 : (kd == 4) = false := by simpa using k4
        by_cases k5 : kd = 5
        · subst k5
          go_wp2_with fail
          refine (copy_any b t.data.toList _ H5.out).mono ?_
          rintro e w5 ⟨bn, rfl, h6⟩
          have h8 := (h6.f2.f2.kidsBack HPJ.out).f1.kidsAdd (bn, t)
          obtain ⟨v', w6, hap, h9⟩ := add_ptr bn (by omega) h8.f2
          obtain ⟨_, e2, q2, -⟩ := h9.f3.rowCells j _ HjS.out
          injection e2 with e2
          injection e2 with e2
          subst e2
          obtain ⟨u', w7, hap2, h10⟩ := add_txt t (by omega) h9.f3
          have hst0 := h10.f1.f3.drop
          obtain ⟨q, hq⟩ : ∃ q : Kid, q = (bn, t) := ⟨_, rfl⟩
          rw [← hq] at hst0
          have hml : (ps ++ [q]).length = m + 1 := by rw [List.length_append, HM.out]; rfl
          have hst1 : Own E w7 (Hp.row HPT 1 v' (m + 1) ((ps ++ [q]).map kidP) :: Hp.row ST 1 u' (m + 1) ((ps ++ [q]).map kidS) :: Hp.kids (ps ++ [q]) :: Hp.ro S :: L) := by
            rw [List.map_append, List.map_append]
            subst hq
            exact hst0
          have hqs : ∀ p ∈ ps ++ [q], p.2.size ≤ cost (xs.take (k + 1)) := fun p hp => by
            rcases List.mem_append.1 hp with hp | hp
            · exact HG.out p hp
            · rw [List.mem_singleton.1 hp, hq, EK.out]
              have := HTZ.out
              show t.size ≤ _
              omega
          obtain ⟨g', c', b', rfl, hlast⟩ := row_last hml (by omega) hst1
          rw [Nat.add_sub_cancel] at hlast
          have HML := Lib.hid hml
          have HST := Lib.hid hst1
          have HQS := Lib.hid hqs
          clear h6 h8 h9 h10 hst0 hst1 hq hqs hml cP cS c2 c0
          go_wp2_with (first | (with_reducible refine at_slot (k := some 106) ?_; refine wpList_append_run (o := ⟨some 106, _, _, _, _, _⟩) hap rfl rfl rfl rfl ?_; clear hap) | (with_reducible refine at_slot (k := some 113) ?_; refine wpList_append_run (o := ⟨some 113, _, _, _, _, _⟩) hap2 rfl rfl rfl rfl ?_; clear hap2))
          go_roundw
          case rel => exact ⟨k + 1, ps ++ [q], by omega, by go_num, by rw [HML.out]; omega, by rw [HML.out]; omega, HQS.out, by unfold Stage; rw [HML.out]; exact HST.out⟩
          case measure => simp [intOf]; omega
        have b5 : (kd == 5) = false := by simpa using k5
        have h9 := (H5.out.kidsBack HPJ.out).f1.drop.b2
        obtain ⟨b', hlast⟩ := row_last2 HM.out (by omega) h9
        have HST := Lib.hid h9
        clear h9 cP cS c2
        have i1 : (m : Int) - 1 = ((m - 1 : Nat) : Int) := by omega
        have i2 : (((m - 1 : Nat) : Int)) < m := by omega
        go_wp2_with fail
        go_roundw
        case rel => exact ⟨k + 1, ps, by omega, by go_num, by rw [HM.out]; omega, by rw [HM.out]; omega, HG.out, by unfold Stage; rw [HM.out]; exact HST.out⟩
        case measure => simp [intOf]; omega
      · obtain rfl : k = n := by omega
        have hpz : ∀ p ∈ ps, p.2.size ≤ 140737488355000 := fun p hp => Nat.le_trans (hps p hp) (Nat.le_trans (cost_le xs k) (Nat.le_trans HB.out (by omega)))
        have HPZ := Lib.hid hpz
        have HM := Lib.hid hm
        have HX := Lib.hid hw
        clear hpz hps hm hw hr hlt
        go_wp2_with fail
        go_loopw [9] (fun i wq => ∃ q : Nat, q ≤ m ∧ i = .int .i64 q ∧ Own E wq (Hp.row HPT 1 (.slice A1 m cv) m (ps.map kidP) :: Hp.row ST 1 (.slice A2 m cu) m (ps.map kidS) :: Hp.kids ps :: Hp.ro S :: L)) (fun i _ => m - (intOf i).toNat)
        case atStart => exact ⟨0, by omega, rfl, HX.out⟩
        case round =>
          obtain ⟨j, hjm0, rfl, hw⟩ := hrel
          clear HX
          by_cases hjm : j < m
          · have hj0 : (0 : Int) ≤ (j : Int) := by omega
            obtain ⟨⟨b, t⟩, hpj⟩ : ∃ p, ps[j]? = some p := ⟨_, List.getElem?_eq_getElem (by rw [HM.out]; exact hjm)⟩
            have hts : t.size ≤ 140737488355000 := HPZ.out _ (List.mem_of_getElem? hpj)
            have HPJ := Lib.hid hpj
            clear hpj
            have hjP : (ps.map kidP)[j]? = some (kidP (b, t)) := by rw [List.getElem?_map, HPJ.out]; rfl
            have hjS : (ps.map kidS)[j]? = some (kidS (b, t)) := by rw [List.getElem?_map, HPJ.out]; rfl
            obtain ⟨gv, rfl, cP, -⟩ := hw.rowCells j _ hjP
            obtain ⟨gu, rfl, cS, -⟩ := hw.f1.rowCells j _ hjS
            have hkq : ∀ W, Own E W (kidH (b, t) :: Hp.kids (ps.eraseIdx j) :: Hp.row HPT 1 (.slice (some ⟨gv, 0, none⟩) m cv) m (ps.map kidP) :: Hp.row ST 1 (.slice (some ⟨gu, 0, none⟩) m cu) m (ps.map kidS) :: Hp.ro S :: L) → W.cell? ⟨gv, j, none⟩ = some (.pointer (some ⟨b, 0, none⟩)) ∧ W.cell? ⟨gu, j, none⟩ = some (.string t) := fun W hW => by
              obtain ⟨_, e1, q1, -⟩ := hW.f2.rowCells j _ hjP
              obtain ⟨_, e2, q2, -⟩ := hW.f3.rowCells j _ hjS
              injection e1 with e1
              injection e1 with e1
              injection e2 with e2
              injection e2 with e2
              subst e1 e2
              exact ⟨q1, q2⟩
            have HQ := Lib.hid hkq
            have H5 := Lib.hid (hw.f2.kidsTake HPJ.out)
            clear hkq hjP hjS hw
            go_wp2_with fail
            refine wp_region_text [3, 7] (fun w' => w'.cell? ⟨gv, j, none⟩ = some (.pointer (some ⟨b, 0, none⟩)) ∧ w'.cell? ⟨gu, j, none⟩ = some (.string t)) (by kernel_rfl) ?_ (fun hS => ?_)
            · exact ⟨cP, cS⟩
            refine wpAnyG_pure (i := 0) (oi := ⟨some 127, _, _, _, _, _⟩) (v := ?_) rfl (by kernel_rfl) (by kernel_rfl) (by kernel_rfl) (by rfl) (fun _ _ _ h => h) (by rfl) ?_ ?_
            rotate_left
            · intro w
              go_simp
              first | done | with_reducible rfl
            try simp only [Act.put, List.setIfInBounds_toArray, List.set_cons_zero, List.set_cons_succ]
            refine wpAnyG_pure (i := 1) (oi := ⟨some 128, _, _, _, _, _⟩) (v := ?_) rfl (by kernel_rfl) (by kernel_rfl) (by kernel_rfl) (by rfl) (fun _ _ _ h => h) (by rfl) ?_ ?_
            rotate_left
            · intro w
              go_simp
              first | done | with_reducible rfl
            try simp only [Act.put, List.setIfInBounds_toArray, List.set_cons_zero, List.set_cons_succ]
            refine wpAnyG_pure (i := 2) (oi := ⟨some 129, _, _, _, _, _⟩) (v := ?_) rfl (by kernel_rfl) (by kernel_rfl) (by kernel_rfl) (by rfl) (fun _ _ _ h => h) (by rfl) ?_ ?_
            rotate_left
            · intro w
              go_simp
              first | done | with_reducible rfl
            try simp only [Act.put, List.setIfInBounds_toArray, List.set_cons_zero, List.set_cons_succ]
            refine wpAnyG_load (i := 3) (oi := ⟨some 130, _, _, _, _, _⟩) (v := ?_) rfl (by kernel_rfl) (by kernel_rfl) (by kernel_rfl) (by rfl) (fun _ _ _ h => h) (by rfl) ?_ (by assumption) ?_
            rotate_left
            · intro w hS
              try dsimp only at hS
              go_simp
              first | done | with_reducible rfl
            try simp only [Act.put, List.setIfInBounds_toArray, List.set_cons_zero, List.set_cons_succ]
            refine wpAnyG_pure (i := 4) (oi := ⟨some 131, _, _, _, _, _⟩) (v := ?_) rfl (by kernel_rfl) (by kernel_rfl) (by kernel_rfl) (by rfl) (fun _ _ _ h => h) (by rfl) ?_ ?_
            rotate_left
            · intro w
              go_simp
              first | done | with_reducible rfl
            try simp only [Act.put, List.setIfInBounds_toArray, List.set_cons_zero, List.set_cons_succ]
            refine wpAnyG_pure (i := 5) (oi := ⟨some 132, _, _, _, _, _⟩) (v := ?_) rfl (by kernel_rfl) (by kernel_rfl) (by kernel_rfl) (by rfl) (fun _ _ _ h => h) (by rfl) ?_ ?_
            rotate_left
            · intro w
              go_simp
              first | done | with_reducible rfl
            try simp only [Act.put, List.setIfInBounds_toArray, List.set_cons_zero, List.set_cons_succ]
            refine wpAnyG_pure (i := 6) (oi := ⟨some 133, _, _, _, _, _⟩) (v := ?_) rfl (by kernel_rfl) (by kernel_rfl) (by kernel_rfl) (by rfl) (fun _ _ _ h => h) (by rfl) ?_ ?_
            rotate_left
            · intro w
              go_simp
              first | done | with_reducible rfl
            try simp only [Act.put, List.setIfInBounds_toArray, List.set_cons_zero, List.set_cons_succ]
            refine wpAnyG_load (i := 7) (oi := ⟨some 134, _, _, _, _, _⟩) (v := ?_) rfl (by kernel_rfl) (by kernel_rfl) (by kernel_rfl) (by rfl) (fun _ _ _ h => h) (by rfl) ?_ (by assumption) ?_
            rotate_left
            · intro w hS
              try dsimp only at hS
              go_simp
              first | done | with_reducible rfl
            try simp only [Act.put, List.setIfInBounds_toArray, List.set_cons_zero, List.set_cons_succ]
            refine wpAnyG_break (i := 8) (oi := ⟨some 135, _, _, _, _, _⟩) (by kernel_rfl) rfl (by kernel_rfl) (fun K hK => ?_)
            rw [if_pos (by rfl)]
            go_simp
            refine (tells_any b t _ hts (by exact H5.out)).mono ?_
            rintro e w5 ⟨rfl, h6⟩
            refine hK.out _ _ ?_
            clear hK K
            try simp only [Act.put, List.setIfInBounds_toArray, List.set_cons_zero, List.set_cons_succ]
            refine wpAnyG_pure (i := 9) (oi := ⟨some 10, _, _, _, _, _⟩) (v := ?_) rfl (by kernel_rfl) (by kernel_rfl) (by kernel_rfl) (by rfl) (fun _ _ _ h => h) (by rfl) ?_ ?_
            rotate_left
            · intro w
              go_simp
              first | done | with_reducible rfl
            try simp only [Act.put, List.setIfInBounds_toArray, List.set_cons_zero, List.set_cons_succ]
            refine wpAnyG_done (by kernel_rfl) ?_ _
            refine NoPanic.normal ?_
            obtain ⟨cP2, cS2⟩ := HQ.out _ h6
            have H6 := Lib.hid h6
            clear h6 cP cS
            go_wp2_with fail
            refine wp_region_text [3, 7] (fun w' => w'.cell? ⟨gv, j, none⟩ = some (.pointer (some ⟨b, 0, none⟩)) ∧ w'.cell? ⟨gu, j, none⟩ = some (.string t)) (by kernel_rfl) ?_ (fun hS => ?_)
            · exact ⟨cP2, cS2⟩
            refine wpAnyG_pure (i := 0) (oi := ⟨some 136, _, _, _, _, _⟩) (v := ?_) rfl (by kernel_rfl) (by kernel_rfl) (by kernel_rfl) (by rfl) (fun _ _ _ h => h) (by rfl) ?_ ?_
            rotate_left
            · intro w
              go_simp
              first | done | with_reducible rfl
            try simp only [Act.put, List.setIfInBounds_toArray, List.set_cons_zero, List.set_cons_succ]
            refine wpAnyG_pure (i := 1) (oi := ⟨some 137, _, _, _, _, _⟩) (v := ?_) rfl (by kernel_rfl) (by kernel_rfl) (by kernel_rfl) (by rfl) (fun _ _ _ h => h) (by rfl) ?_ ?_
            rotate_left
            · intro w
              go_simp
              first | done | with_reducible rfl
            try simp only [Act.put, List.setIfInBounds_toArray, List.set_cons_zero, List.set_cons_succ]
            refine wpAnyG_pure (i := 2) (oi := ⟨some 138, _, _, _, _, _⟩) (v := ?_) rfl (by kernel_rfl) (by kernel_rfl) (by kernel_rfl) (by rfl) (fun _ _ _ h => h) (by rfl) ?_ ?_
            rotate_left
            · intro w
              go_simp
              first | done | with_reducible rfl
            try simp only [Act.put, List.setIfInBounds_toArray, List.set_cons_zero, List.set_cons_succ]
            refine wpAnyG_load (i := 3) (oi := ⟨some 139, _, _, _, _, _⟩) (v := ?_) rfl (by kernel_rfl) (by kernel_rfl) (by kernel_rfl) (by rfl) (fun _ _ _ h => h) (by rfl) ?_ (by assumption) ?_
            rotate_left
            · intro w hS
              try dsimp only at hS
              go_simp
              first | done | with_reducible rfl
            try simp only [Act.put, List.setIfInBounds_toArray, List.set_cons_zero, List.set_cons_succ]
            refine wpAnyG_pure (i := 4) (oi := ⟨some 140, _, _, _, _, _⟩) (v := ?_) rfl (by kernel_rfl) (by kernel_rfl) (by kernel_rfl) (by rfl) (fun _ _ _ h => h) (by rfl) ?_ ?_
            rotate_left
            · intro w
              go_simp
              first | done | with_reducible rfl
            try simp only [Act.put, List.setIfInBounds_toArray, List.set_cons_zero, List.set_cons_succ]
            refine wpAnyG_pure (i := 5) (oi := ⟨some 141, _, _, _, _, _⟩) (v := ?_) rfl (by kernel_rfl) (by kernel_rfl) (by kernel_rfl) (by rfl) (fun _ _ _ h => h) (by rfl) ?_ ?_
            rotate_left
            · intro w
              go_simp
              first | done | with_reducible rfl
            try simp only [Act.put, List.setIfInBounds_toArray, List.set_cons_zero, List.set_cons_succ]
            refine wpAnyG_pure (i := 6) (oi := ⟨some 142, _, _, _, _, _⟩) (v := ?_) rfl (by kernel_rfl) (by kernel_rfl) (by kernel_rfl) (by rfl) (fun _ _ _ h => h) (by rfl) ?_ ?_
            rotate_left
            · intro w
              go_simp
              first | done | with_reducible rfl
            try simp only [Act.put, List.setIfInBounds_toArray, List.set_cons_zero, List.set_cons_succ]
            refine wpAnyG_load (i := 7) (oi := ⟨some 143, _, _, _, _, _⟩) (v := ?_) rfl (by kernel_rfl) (by kernel_rfl) (by kernel_rfl) (by rfl) (fun _ _ _ h => h) (by rfl) ?_ (by assumption) ?_
            rotate_left
            · intro w hS
              try dsimp only at hS
              go_simp
              first | done | with_reducible rfl
            try simp only [Act.put, List.setIfInBounds_toArray, List.set_cons_zero, List.set_cons_succ]
            refine wpAnyG_break (i := 8) (oi := ⟨some 144, _, _, _, _, _⟩) (by kernel_rfl) rfl (by kernel_rfl) (fun K hK => ?_)
            rw [if_pos (by rfl)]
            go_simp
            refine (tells_any b t _ hts (by exact H6.out)).mono ?_
            rintro e w6 ⟨rfl, h7⟩
            refine hK.out _ _ ?_
            clear hK K
            try simp only [Act.put, List.setIfInBounds_toArray, List.set_cons_zero, List.set_cons_succ]
            refine wpAnyG_pure (i := 9) (oi := ⟨some 11, _, _, _, _, _⟩) (v := ?_) rfl (by kernel_rfl) (by kernel_rfl) (by kernel_rfl) (by rfl) (fun _ _ _ h => h) (by rfl) ?_ ?_
            rotate_left
            · intro w
              go_simp
              first | done | with_reducible rfl
            try simp only [Act.put, List.setIfInBounds_toArray, List.set_cons_zero, List.set_cons_succ]
            refine wpAnyG_done (by kernel_rfl) ?_ _
            refine NoPanic.normal ?_
            have H8 := Lib.hid (h7.kidsBack HPJ.out).b2
            clear h7 cP2 cS2
            go_wp2_with fail
            go_roundw
            case rel => exact ⟨j + 1, by omega, by go_num, H8.out⟩
            case measure => simp [intOf]; omega
          · obtain rfl : j = m := by omega
            have H9 := Lib.hid hw.drop.drop.drop
            clear hw
            go_wp2_with fail
            go_ret
            exact ⟨rfl, H9.out⟩
end Go.Proofs.Ytldloociaoflkaa
