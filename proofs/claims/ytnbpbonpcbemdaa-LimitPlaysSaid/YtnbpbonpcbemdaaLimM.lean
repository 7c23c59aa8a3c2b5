/- The reference: Level, Take (printed by gen_xtake.py). -/
import Derived.Test.YtnbpbonpcbemdaaLimL
import Derived.Test.YtnbpbonpcbemdaaLimN
namespace Go.Proofs.Ytnbpbonpcbemdaa
open Go.RowKit
attribute [local go_sem] run_store_float
theorem Pr_prB {x : Nat} (h : Fl.Pr x) : Fl.prB x = true := by
  unfold Fl.prB
  rcases h with h | h
  · rw [decide_eq_true h]; rfl
  · rw [decide_eq_true h, Bool.or_true]
theorem xlev_has {rate burst : Nat} {l : List Bkt} {s : ByteArray} (now : Int) (hok : LimOk burst l) : xlevN rate burst (ofN burst l s 0) (findN l s).isSome now = hasN rate burst l s now := by
  cases hf : findN l s with
  | none =>
    rw [hasN_none hf, ofN_none hf]
    exact if_pos (.inl rfl)
  | some k =>
    obtain ⟨x, hx, -, -⟩ := findN_some hf
    have ha := hok.at_ x (List.mem_of_getElem? hx)
    unfold hasN
    rw [ofN_some hf hx, ofN_some hf hx]
    unfold xlevN levelN leftN
    rw [nearN_same ha]
    by_cases h : nearN now ≤ x.at_
    · rw [if_pos h, if_pos (.inr (by omega))]
    · rw [if_neg h, if_neg (by rintro (e | e); cases e; omega)]
theorem drop_filter : ∀ (l : List Bkt) (s : ByteArray), (l.map Bkt.name).Nodup → dropR l s = l.filter fun x => !decide (x.name = s)
  | [], _, _ => rfl
  | x :: l, s, h => by
    rw [List.map_cons, List.nodup_cons] at h
    unfold dropR
    by_cases hx : x.name = s
    · rw [if_pos hx, List.filter_cons_of_neg (by simp [hx])]
      symm
      refine List.filter_eq_self.2 fun y hy => ?_
      have : y.name ≠ s := by rintro e; exact h.1 (List.mem_map.2 ⟨y, hy, by rw [e, hx]⟩)
      simp [this]
    · rw [if_neg hx, List.filter_cons_of_pos (by simp [hx]), drop_filter l s h.2]
theorem str_dec (a s : ByteArray) : (a.toList == s.toList) = decide (a = s) := by
  by_cases e : a = s
  · rw [e, decide_eq_true rfl]; exact beq_self_eq_true _
  · rw [decide_eq_false e, beq_eq_false_iff_ne]
    intro hl
    refine e (ByteArray.ext (Array.toList_inj.1 ?_))
    rwa [Lib.toList_data, Lib.toList_data] at hl
abbrev LRT : TypeId := 69
theorem xbt_info : (Try.prog.info? RBKT).map (fun i => (i.zero, i.size, i.bytes)) = some (some (.agg #[.string ⟨#[]⟩, .float .f32 0, .int .i64 0]), 3, 32) := by kernel_rfl
section
variable {E : World} {L : List Hp}
set_option maxHeartbeats 4000000 in
theorem xlevel2_any (b rate burst : Nat) (l : List Bkt) (s : ByteArray) (now : Int) (w : World) (hr : Fl.Pr rate) (hb : burst < 2139095040) (hok : LimOk burst l) (h : Own E w (Hp.rlim b rate burst l :: L)) :
    Calls Try.prog 17 #[.pointer (some ⟨b, 0, none⟩), .string s, .int .i64 now] w fun e w' => e = .returned (.float .f32 (hasN rate burst l s now)) ∧ Own E w' (Hp.rlim b rate burst l :: L) := by
  have ho := ofN_ok (s := s) (now := 0) hok (by omega)
  have k1 := xof_any (E := E) (L := L) b rate burst l s w (by have := hok.len; omega) h
  have k2 := fun w M hw => xlevel_any (E := E) (L := M) b rate burst l (ofN burst l s 0) (findN l s).isSome now w hr hb (by omega) hw
  rw [xlev_has now hok] at k2
  generalize ofN burst l s 0 = x at *
  generalize (findN l s).isSome = kp at *
  generalize hasN rate burst l s now = hv at *
  have K1 := Lib.hid k1
  have K2 := Lib.hid k2
  clear k1 k2 h ho
  go_enter Try.func17, Try.ntmps17
  go_wp2_with fail
  refine K1.out.mono ?_
  rintro e w1 ⟨rfl, h⟩
  have h1 : Own E _ (Hp.blk w1.heap.size RBKT #[.string x.name, .float .f32 x.level, .int .i64 x.at_] :: _) := h.alloc _
  have H := Lib.hid h1.f1
  clear h h1
  go_wp2_with fail
  refine (K2.out _ _ H.out).mono ?_
  rintro e w2 ⟨rfl, h⟩
  have H2 := Lib.hid h.f1.drop
  clear h
  go_wp2_with fail
  go_ret
  exact ⟨rfl, H2.out⟩
set_option maxRecDepth 100000 in
set_option maxHeartbeats 20000000 in
theorem xtake_any (b rate burst cost : Nat) (l : List Bkt) (s : ByteArray) (now : Int) (w : World) (hr : Fl.Pr rate) (hb : burst < 2139095040) (hc : Fl.Pr cost) (hs : s.size ≤ 1000000000000000000) (hnm : nameB s = true) (hok : LimOk burst l) (hnd : (l.map Bkt.name).Nodup) (h : Own E w (Hp.rlim b rate burst l :: L)) :
    Calls Try.prog 16 #[.pointer (some ⟨b, 0, none⟩), .string s, .float .f32 cost, .int .i64 now] w fun e w' =>
      (hasN rate burst l s now < Fl.Z cost ∧ (∃ W : Nat, e = .returned (.tuple #[.int .i64 W, .int .i64 241]) ∧ IsWait (fun d => enoughB rate burst (ofN burst l s (nearN now)).level cost ((nearN now - (ofN burst l s (nearN now)).at_).toNat + d)) W) ∧ Own E w' (Hp.rlim b rate burst l :: L)) ∨
      (Fl.Z cost ≤ hasN rate burst l s now ∧ e = .returned (.tuple #[.int .i64 0, .int .i64 0]) ∧ Own E w' (Hp.rlim b rate burst (tookN rate burst l s cost now) :: L)) := by
  have hn := nearN_in now
  have hlen := hok.len
  have ho := ofN_ok (s := s) (now := 0) hok (by omega)
  have hle := hasN_le (rate := rate) (s := s) (now := now) hok
  have k0 := fun w => xname_any s w hs
  have k1 := fun w => finite_any cost w (by rcases hc with h | h <;> omega)
  rw [hnm] at k0
  rw [Pr_prB hc] at k1
  have k2 := xof_any (E := E) (L := L) b rate burst l s w (by omega) h
  have k3 := fun w M hw => xlevel_any (E := E) (L := M) b rate burst l (ofN burst l s 0) (findN l s).isSome now w hr hb (by omega) hw
  rw [xlev_has now hok] at k3
  have k4 := fun w M hw => gone_any (E := E) (L := M) (ofN burst l s 0) now w hw
  have hlt : (FloatKind.f32.format.order (hasN rate burst l s now) cost == some .lt) = decide (hasN rate burst l s now < Fl.Z cost) := by
    rw [Fl.lt_Z (.inl (by omega)) hc, Fl.Z_same (by omega)]
  have k6 := fun w => xnearest_any now w
  have htk : tookN rate burst l s cost now = (⟨s, Fl.D (hasN rate burst l s now) (Fl.Z cost), max (nearN now) (ofN burst l s (nearN now)).at_⟩ :: l.filter fun x => !decide (x.name = s)).take 16 := by
    unfold tookN; rw [dropR_eq, drop_filter l s hnd]
  cases hf : findN l s with
  | none =>
    obtain ⟨x, hx⟩ : ∃ x, x = ofN burst l s 0 := ⟨_, rfl⟩
    rw [← hx] at k2 k3 k4 ho
    have hl0 := hasN_none (rate := rate) (burst := burst) hf now
    rw [hf] at k2 k3
    simp only [Option.isSome_none] at k2 k3
    rw [ofN_none hf] at htk ⊢
    have hmx : max (nearN now) (nearN now) = nearN now := by omega
    have htk2 : tookN rate burst l s cost now = ((⟨s, Fl.D (hasN rate burst l s now) (Fl.Z cost), nearN now⟩ : Bkt) :: l.filter fun x => !decide (x.name = s)).take 16 := by rw [htk]; show List.take 16 (_ :: _) = _; rw [hmx]
    clear htk
    have htk := htk2
    clear htk2
    have HNO := Lib.hid hl0
    clear hl0 hmx hx hf
    generalize hasN rate burst l s now = lv at *
    generalize nearN now = t at *
    have K0 := Lib.hid k0
    have K1 := Lib.hid k1
    have K2 := Lib.hid k2
    have K3 := Lib.hid k3
    have K4 := Lib.hid k4
    have K6 := Lib.hid k6
    have HTK := Lib.hid htk
    clear k0 k1 k2 k3 k4 k6 htk h hnd
    go_enter Try.func16, Try.ntmps16
    go_wp2_with fail
    refine (K0.out _).mono ?_
    rintro e w1 ⟨rfl, rfl⟩
    go_wp2_with fail
    refine (K1.out _).mono ?_
    rintro e w1 ⟨rfl, rfl⟩
    go_wp2_with fail
    refine K2.out.mono ?_
    rintro e w1 ⟨rfl, h⟩
    have h1 : Own E _ (Hp.blk w1.heap.size RBKT #[.string x.name, .float .f32 x.level, .int .i64 x.at_] :: _) := h.alloc _
    obtain ⟨g, hg⟩ : ∃ g, g = w1.heap.size := ⟨_, rfl⟩
    rw [← hg] at h1
    have H := Lib.hid h1.f1
    clear h h1 K0 K1 K2
    go_wp2_with fail
    rw [← hg]
    clear hg
    refine (K3.out _ _ H.out).mono ?_
    clear H K3
    rintro e w2 ⟨rfl, h⟩
    have p0 : w2.cell? ⟨g, 0, none⟩ = some (.string x.name) := h.f1.cell 0
    have p1 : w2.cell? ⟨g, 1, none⟩ = some (.float .f32 x.level) := h.f1.cell 1
    have p2 : w2.cell? ⟨g, 2, none⟩ = some (.int .i64 x.at_) := h.f1.cell 2
    have H := Lib.hid h
    clear h
    by_cases hcase : lv < Fl.Z cost
    · rw [decide_eq_true hcase] at hlt
      have HCA := Lib.hid hcase
      have HW : Hid (IsWait (fun d => enoughB rate burst burst cost ((t - t).toNat + d)) 1099511627776) := Lib.hid (.inl ⟨by show decide (Fl.Z cost ≤ Fl.fillN rate burst burst ((t - t).toNat + 1099511627776)) = false; rw [Fl.fillN_full _ _ _ (by omega)]; exact decide_eq_false (by have := HNO.out; omega), rfl⟩)
      clear hcase
      go_wp2_with fail
      refine (K4.out _ _ H.out).mono ?_
      rintro e w3 ⟨rfl, h⟩
      clear H p0 p1 p2
      have p0 : w3.cell? ⟨g, 0, none⟩ = some (.string x.name) := h.f1.cell 0
      have p1 : w3.cell? ⟨g, 1, none⟩ = some (.float .f32 x.level) := h.f1.cell 1
      have p2 : w3.cell? ⟨g, 2, none⟩ = some (.int .i64 x.at_) := h.f1.cell 2
      have H := Lib.hid h
      clear h
      go_wp2_with fail
      go_ret2
      exact .inl ⟨HCA.out, ⟨1099511627776, rfl, HW.out⟩, H.out.f1.drop⟩
    · rw [decide_eq_false hcase] at hlt
      have hge : Fl.Z cost ≤ lv := by omega
      have hsub := Fl.sub_Z (x := lv) (by omega) hc hge
      have HGE := Lib.hid hge
      clear hcase hge K4
      generalize Fl.D lv (Fl.Z cost) = dv at *
      have hop := fun t (w : World) => run_float_arith (P := Try.prog) w .sub t .f32 lv cost dv hsub
      clear hsub
      go_wp2_with fail
      refine (K6.out _).mono ?_
      rintro e w3 ⟨rfl, rfl⟩
      obtain ⟨v, h⟩ := H.out.ofRlim
      obtain ⟨A, c, rfl⟩ := h.f1.rowSlice
      have hy := (h.alloc (.cells #[.string s, .float .f32 dv, .int .i64 (t)] RBKT)).toMk.mtoRow 3 1 1 (by omega) (by unfold maxLen; omega) rfl
      have hy : Own E _ (Hp.row RBKT 3 (.slice (some ⟨_, 0, none⟩) 1 1) 1 (((⟨s, dv, t⟩ : Bkt) :: (l.take 0).filter (fun x => !decide (x.name = s))).flatMap enB) :: Hp.blk b RLIMT #[.float .f32 rate, .float .f32 burst, .slice A l.length c] :: Hp.row RBKT 3 (.slice A l.length c) l.length (l.flatMap enB) :: Hp.blk g RBKT #[.string x.name, .float .f32 x.level, .int .i64 x.at_] :: L) := hy
      have HY := Lib.hid hy
      clear h hy H p0 p1
      go_wp2_with fail
      go_loopw [17, 18] (fun out i wr => ∃ (k m : Nat) (A2 : Option Addr) (c3 : Nat), k ≤ l.length ∧ i = .int .i64 k ∧ out = .slice A2 m c3 ∧ m = ((⟨s, dv, t⟩ : Bkt) :: (l.take k).filter (fun x => !decide (x.name = s))).length ∧ m ≤ 16 ∧ Own E wr (Hp.row RBKT 3 (.slice A2 m c3) m (((⟨s, dv, t⟩ : Bkt) :: (l.take k).filter (fun x => !decide (x.name = s))).flatMap enB) :: Hp.blk b RLIMT #[.float .f32 rate, .float .f32 burst, .slice A l.length c] :: Hp.row RBKT 3 (.slice A l.length c) l.length (l.flatMap enB) :: Hp.blk g RBKT #[.string x.name, .float .f32 x.level, .int .i64 x.at_] :: L)) (fun _ i _ => l.length - (intOf i).toNat)
      case atStart => exact ⟨0, 1, _, 1, by omega, rfl, rfl, rfl, by omega, HY.out⟩
      case round =>
        clear HY
        obtain ⟨k2, m, A2, c3, hk, rfl, rfl, hm, hm16, hw⟩ := hrel
        have c2 : wr.cell? ⟨b, 2, none⟩ = some (.slice A l.length c) := hw.f1.cell 2
        have HM := Lib.hid hm
        clear hm
        by_cases hgo : k2 < l.length ∧ m < 16
        · obtain ⟨hlt2, h16⟩ := hgo
          have hlti : (k2 : Int) < l.length := by omega
          have h16i : (m : Int) < 16 := by omega
          obtain ⟨x2, hx2⟩ : ∃ x2, l[k2]? = some x2 := ⟨_, List.getElem?_eq_getElem hlt2⟩
          obtain ⟨g2, rfl, d0, d1, d2⟩ := hw.f2.rcell k2 x2 hx2
          have hstep : (l.take (k2 + 1)).filter (fun x => !decide (x.name = s)) = (l.take k2).filter (fun x => !decide (x.name = s)) ++ [x2].filter (fun x => !decide (x.name = s)) := by rw [List.take_add_one, hx2, List.filter_append]; rfl
          have he : (x2.name.toList == s.toList) = decide (x2.name = s) := str_dec x2.name s
          by_cases hxs : x2.name = s
          · have hne : (x2.name.toList != s.toList) = false := by rw [bne, he, decide_eq_true hxs]; rfl
            rw [decide_eq_true hxs] at he
            have e1 : (l.take (k2 + 1)).filter (fun x => !decide (x.name = s)) = (l.take k2).filter (fun x => !decide (x.name = s)) := by rw [hstep, List.filter_cons_of_neg (by simp [hxs])]; simp
            have HM2 := Lib.hid (show m = ((⟨s, dv, t⟩ : Bkt) :: (l.take (k2 + 1)).filter (fun x => !decide (x.name = s))).length by rw [e1]; exact HM.out)
            rw [← e1] at hw
            have H := Lib.hid hw
            clear hw hstep hxs hx2 e1 d1 d2
            go_wp2_with fail
            go_roundw
            case rel => exact ⟨k2 + 1, m, A2, c3, by omega, by go_num, rfl, HM2.out, hm16, H.out⟩
            case measure => simp [intOf]; omega
          · have hne : (x2.name.toList != s.toList) = true := by rw [bne, he, decide_eq_false hxs]; rfl
            rw [decide_eq_false hxs] at he
            have e1 : (l.take (k2 + 1)).filter (fun x => !decide (x.name = s)) = (l.take k2).filter (fun x => !decide (x.name = s)) ++ [x2] := by rw [hstep, List.filter_cons_of_pos (by simp [hxs])]; simp
            have HM2 := Lib.hid (show m + 1 = ((⟨s, dv, t⟩ : Bkt) :: (l.take (k2 + 1)).filter (fun x => !decide (x.name = s))).length by rw [e1, ← List.cons_append, List.length_append, ← HM.out]; rfl)
            obtain ⟨v5, w5, hap, h5, -⟩ := sl_append_new (P := Try.prog) (t := LRT) (ty := LRT) (by kernel_rfl) xbt_info rfl (by omega) hw #[.string x2.name, .float .f32 x2.level, .int .i64 x2.at_] 1 rfl (by intro u hu; exact enB_all1 x2 u (by simpa using hu)) (by unfold maxLen; omega) (by omega)
            have e2 : (((⟨s, dv, t⟩ : Bkt) :: (l.take k2).filter (fun x => !decide (x.name = s))).flatMap enB) ++ (#[.string x2.name, .float .f32 x2.level, .int .i64 x2.at_] : Array Value).toList = ((⟨s, dv, t⟩ : Bkt) :: (l.take (k2 + 1)).filter (fun x => !decide (x.name = s))).flatMap enB := by
              rw [e1, ← List.cons_append, List.flatMap_append]; simp
            rw [e2] at h5
            obtain ⟨A5, c5, rfl⟩ := h5.rowSlice
            have H := Lib.hid h5
            clear hw hstep hxs hx2 e1 e2 h5
            go_wp2_with (with_reducible refine at_slot (k := some 104) ?_; refine wpList_append_run (o := ⟨some 104, _, _, _, _, _⟩) hap rfl rfl rfl rfl ?_; clear hap)
            go_roundw
            case rel => exact ⟨k2 + 1, m + 1, A5, c5, by omega, by go_num, rfl, HM2.out, by omega, H.out⟩
            case measure => simp [intOf]; omega
        · have hfin : ((⟨s, dv, t⟩ : Bkt) :: (l.take k2).filter (fun x => !decide (x.name = s))) = ((⟨s, dv, t⟩ : Bkt) :: l.filter (fun x => !decide (x.name = s))).take 16 := by
            by_cases hl2 : k2 < l.length
            · have h16 : m = 16 := by omega
              have hm2 := HM.out
              have e : (⟨s, dv, t⟩ : Bkt) :: l.filter (fun x => !decide (x.name = s)) = ((⟨s, dv, t⟩ : Bkt) :: (l.take k2).filter (fun x => !decide (x.name = s))) ++ (l.drop k2).filter (fun x => !decide (x.name = s)) := by
                rw [List.cons_append, ← List.filter_append, List.take_append_drop]
              rw [e, ← h16, hm2]
              exact List.take_left.symm
            · have hm2 := HM.out
              rw [List.take_of_length_le (by omega : l.length ≤ k2)] at hm2 ⊢
              rw [List.take_of_length_le (by omega)]
          have hfl := HM.out
          rw [hfin] at hw hfl
          have f6 := hw.f1.frozen 2
          have h3 := hw.f1.set 2 (.slice A2 m c3)
          have h3 : Own E _ (Hp.blk b RLIMT #[.float .f32 rate, .float .f32 burst, .slice A2 m c3] :: Hp.row RBKT 3 (.slice A2 m c3) m ((((⟨s, dv, t⟩ : Bkt) :: l.filter (fun x => !decide (x.name = s))).take 16).flatMap enB) :: Hp.row RBKT 3 (.slice A l.length c) l.length (l.flatMap enB) :: Hp.blk g RBKT #[.string x.name, .float .f32 x.level, .int .i64 x.at_] :: L) := h3
          have h4 := h3.f2.drop.f2.drop
          have h5 : Own E (wr.setCell ⟨b, 2, none⟩ (.slice A2 m c3)) (Hp.rlim b rate burst (((⟨s, dv, t⟩ : Bkt) :: l.filter (fun x => !decide (x.name = s))).take 16) :: L) := Own.toRlim (v := .slice A2 m c3) (by rw [← hfl]; exact h4)
          rw [← HTK.out] at h5
          have H := Lib.hid h5
          clear hw h3 h4 h5 hfin hfl
          rcases (by omega : ¬ k2 < l.length ∨ (k2 < l.length ∧ ¬ m < 16)) with hx | ⟨hx, hx2⟩
          · have y1 : ¬ (k2 : Int) < l.length := by omega
            clear hx hgo
            go_wp2_with fail
            go_ret2
            exact .inr ⟨HGE.out, rfl, H.out⟩
          · have y1 : (k2 : Int) < l.length := by omega
            have y2 : ¬ (m : Int) < 16 := by omega
            clear hx hx2 hgo
            go_wp2_with fail
            go_ret2
            exact .inr ⟨HGE.out, rfl, H.out⟩
  | some k =>
    obtain ⟨x, hx⟩ : ∃ x, x = ofN burst l s 0 := ⟨_, rfl⟩
    rw [← hx] at k2 k3 k4 ho
    obtain ⟨xx, hxx, -, -⟩ := findN_some hf
    have hxo : x = xx := by rw [hx]; exact ofN_some hf hxx
    rw [← hxo] at hxx
    have hxa := hok.at_ x (List.mem_of_getElem? hxx)
    have hxt : ofN burst l s (nearN now) = x := by rw [ofN_some hf hxx]
    rw [hf] at k2 k3
    simp only [Option.isSome_some] at k2 k3
    rw [hxt] at htk ⊢
    have hgo : (nearN now - x.at_).toNat = leftN x.at_ now := by unfold leftN; rw [nearN_same hxa]
    have hlb : leftN x.at_ now ≤ 1099511627776 := by rw [← hgo]; omega
    rw [hgo]
    have k7 := fun w M hw => xwait_any (E := E) (L := M) b rate burst cost (leftN x.at_ now) l x w hr hb (by omega) hc hlb hw
    generalize leftN x.at_ now = lf at *
    have K7 := Lib.hid k7
    clear k7 hgo hxt hxx hxo hx hf
    generalize hasN rate burst l s now = lv at *
    generalize nearN now = t at *
    have K0 := Lib.hid k0
    have K1 := Lib.hid k1
    have K2 := Lib.hid k2
    have K3 := Lib.hid k3
    have K4 := Lib.hid k4
    have K6 := Lib.hid k6
    have HTK := Lib.hid htk
    clear k0 k1 k2 k3 k4 k6 htk h hnd
    go_enter Try.func16, Try.ntmps16
    go_wp2_with fail
    refine (K0.out _).mono ?_
    rintro e w1 ⟨rfl, rfl⟩
    go_wp2_with fail
    refine (K1.out _).mono ?_
    rintro e w1 ⟨rfl, rfl⟩
    go_wp2_with fail
    refine K2.out.mono ?_
    rintro e w1 ⟨rfl, h⟩
    have h1 : Own E _ (Hp.blk w1.heap.size RBKT #[.string x.name, .float .f32 x.level, .int .i64 x.at_] :: _) := h.alloc _
    obtain ⟨g, hg⟩ : ∃ g, g = w1.heap.size := ⟨_, rfl⟩
    rw [← hg] at h1
    have H := Lib.hid h1.f1
    clear h h1 K0 K1 K2
    go_wp2_with fail
    rw [← hg]
    clear hg
    refine (K3.out _ _ H.out).mono ?_
    clear H K3
    rintro e w2 ⟨rfl, h⟩
    have p0 : w2.cell? ⟨g, 0, none⟩ = some (.string x.name) := h.f1.cell 0
    have p1 : w2.cell? ⟨g, 1, none⟩ = some (.float .f32 x.level) := h.f1.cell 1
    have p2 : w2.cell? ⟨g, 2, none⟩ = some (.int .i64 x.at_) := h.f1.cell 2
    have H := Lib.hid h
    clear h
    by_cases hcase : lv < Fl.Z cost
    · rw [decide_eq_true hcase] at hlt
      have HCA := Lib.hid hcase
      clear hcase
      go_wp2_with fail
      refine (K4.out _ _ H.out).mono ?_
      rintro e w3 ⟨rfl, h⟩
      clear H p0 p1 p2
      have p0 : w3.cell? ⟨g, 0, none⟩ = some (.string x.name) := h.f1.cell 0
      have p1 : w3.cell? ⟨g, 1, none⟩ = some (.float .f32 x.level) := h.f1.cell 1
      have p2 : w3.cell? ⟨g, 2, none⟩ = some (.int .i64 x.at_) := h.f1.cell 2
      have H := Lib.hid h
      clear h
      go_wp2_with fail
      refine (K7.out _ _ H.out).mono ?_
      clear H
      rintro e w4 ⟨⟨W, rfl, hW⟩, h⟩
      have HW := Lib.hid hW
      have H := Lib.hid h
      clear h hW
      go_wp2_with fail
      go_ret2
      exact .inl ⟨HCA.out, ⟨W, rfl, HW.out⟩, H.out.f1.drop⟩
    · rw [decide_eq_false hcase] at hlt
      have hge : Fl.Z cost ≤ lv := by omega
      have hsub := Fl.sub_Z (x := lv) (by omega) hc hge
      have HGE := Lib.hid hge
      clear hcase hge K4
      generalize Fl.D lv (Fl.Z cost) = dv at *
      have hop := fun t (w : World) => run_float_arith (P := Try.prog) w .sub t .f32 lv cost dv hsub
      clear hsub
      go_wp2_with fail
      refine (K6.out _).mono ?_
      rintro e w3 ⟨rfl, rfl⟩
      by_cases hat : t < x.at_
      · have hmx : max t x.at_ = x.at_ := by omega
        rw [hmx] at HTK
        clear hmx
        obtain ⟨v, h⟩ := H.out.ofRlim
        obtain ⟨A, c, rfl⟩ := h.f1.rowSlice
        have hy := (h.alloc (.cells #[.string s, .float .f32 dv, .int .i64 (x.at_)] RBKT)).toMk.mtoRow 3 1 1 (by omega) (by unfold maxLen; omega) rfl
        have hy : Own E _ (Hp.row RBKT 3 (.slice (some ⟨_, 0, none⟩) 1 1) 1 (((⟨s, dv, x.at_⟩ : Bkt) :: (l.take 0).filter (fun x => !decide (x.name = s))).flatMap enB) :: Hp.blk b RLIMT #[.float .f32 rate, .float .f32 burst, .slice A l.length c] :: Hp.row RBKT 3 (.slice A l.length c) l.length (l.flatMap enB) :: Hp.blk g RBKT #[.string x.name, .float .f32 x.level, .int .i64 x.at_] :: L) := hy
        have HY := Lib.hid hy
        clear h hy H p0 p1
        go_wp2_with fail
        go_loopw [17, 18] (fun out i wr => ∃ (k m : Nat) (A2 : Option Addr) (c3 : Nat), k ≤ l.length ∧ i = .int .i64 k ∧ out = .slice A2 m c3 ∧ m = ((⟨s, dv, x.at_⟩ : Bkt) :: (l.take k).filter (fun x => !decide (x.name = s))).length ∧ m ≤ 16 ∧ Own E wr (Hp.row RBKT 3 (.slice A2 m c3) m (((⟨s, dv, x.at_⟩ : Bkt) :: (l.take k).filter (fun x => !decide (x.name = s))).flatMap enB) :: Hp.blk b RLIMT #[.float .f32 rate, .float .f32 burst, .slice A l.length c] :: Hp.row RBKT 3 (.slice A l.length c) l.length (l.flatMap enB) :: Hp.blk g RBKT #[.string x.name, .float .f32 x.level, .int .i64 x.at_] :: L)) (fun _ i _ => l.length - (intOf i).toNat)
        case atStart => exact ⟨0, 1, _, 1, by omega, rfl, rfl, rfl, by omega, HY.out⟩
        case round =>
          clear HY
          obtain ⟨k2, m, A2, c3, hk, rfl, rfl, hm, hm16, hw⟩ := hrel
          have c2 : wr.cell? ⟨b, 2, none⟩ = some (.slice A l.length c) := hw.f1.cell 2
          have HM := Lib.hid hm
          clear hm
          by_cases hgo : k2 < l.length ∧ m < 16
          · obtain ⟨hlt2, h16⟩ := hgo
            have hlti : (k2 : Int) < l.length := by omega
            have h16i : (m : Int) < 16 := by omega
            obtain ⟨x2, hx2⟩ : ∃ x2, l[k2]? = some x2 := ⟨_, List.getElem?_eq_getElem hlt2⟩
            obtain ⟨g2, rfl, d0, d1, d2⟩ := hw.f2.rcell k2 x2 hx2
            have hstep : (l.take (k2 + 1)).filter (fun x => !decide (x.name = s)) = (l.take k2).filter (fun x => !decide (x.name = s)) ++ [x2].filter (fun x => !decide (x.name = s)) := by rw [List.take_add_one, hx2, List.filter_append]; rfl
            have he : (x2.name.toList == s.toList) = decide (x2.name = s) := str_dec x2.name s
            by_cases hxs : x2.name = s
            · have hne : (x2.name.toList != s.toList) = false := by rw [bne, he, decide_eq_true hxs]; rfl
              rw [decide_eq_true hxs] at he
              have e1 : (l.take (k2 + 1)).filter (fun x => !decide (x.name = s)) = (l.take k2).filter (fun x => !decide (x.name = s)) := by rw [hstep, List.filter_cons_of_neg (by simp [hxs])]; simp
              have HM2 := Lib.hid (show m = ((⟨s, dv, x.at_⟩ : Bkt) :: (l.take (k2 + 1)).filter (fun x => !decide (x.name = s))).length by rw [e1]; exact HM.out)
              rw [← e1] at hw
              have H := Lib.hid hw
              clear hw hstep hxs hx2 e1 d1 d2
              go_wp2_with fail
              go_roundw
              case rel => exact ⟨k2 + 1, m, A2, c3, by omega, by go_num, rfl, HM2.out, hm16, H.out⟩
              case measure => simp [intOf]; omega
            · have hne : (x2.name.toList != s.toList) = true := by rw [bne, he, decide_eq_false hxs]; rfl
              rw [decide_eq_false hxs] at he
              have e1 : (l.take (k2 + 1)).filter (fun x => !decide (x.name = s)) = (l.take k2).filter (fun x => !decide (x.name = s)) ++ [x2] := by rw [hstep, List.filter_cons_of_pos (by simp [hxs])]; simp
              have HM2 := Lib.hid (show m + 1 = ((⟨s, dv, x.at_⟩ : Bkt) :: (l.take (k2 + 1)).filter (fun x => !decide (x.name = s))).length by rw [e1, ← List.cons_append, List.length_append, ← HM.out]; rfl)
              obtain ⟨v5, w5, hap, h5, -⟩ := sl_append_new (P := Try.prog) (t := LRT) (ty := LRT) (by kernel_rfl) xbt_info rfl (by omega) hw #[.string x2.name, .float .f32 x2.level, .int .i64 x2.at_] 1 rfl (by intro u hu; exact enB_all1 x2 u (by simpa using hu)) (by unfold maxLen; omega) (by omega)
              have e2 : (((⟨s, dv, x.at_⟩ : Bkt) :: (l.take k2).filter (fun x => !decide (x.name = s))).flatMap enB) ++ (#[.string x2.name, .float .f32 x2.level, .int .i64 x2.at_] : Array Value).toList = ((⟨s, dv, x.at_⟩ : Bkt) :: (l.take (k2 + 1)).filter (fun x => !decide (x.name = s))).flatMap enB := by
                rw [e1, ← List.cons_append, List.flatMap_append]; simp
              rw [e2] at h5
              obtain ⟨A5, c5, rfl⟩ := h5.rowSlice
              have H := Lib.hid h5
              clear hw hstep hxs hx2 e1 e2 h5
              go_wp2_with (with_reducible refine at_slot (k := some 104) ?_; refine wpList_append_run (o := ⟨some 104, _, _, _, _, _⟩) hap rfl rfl rfl rfl ?_; clear hap)
              go_roundw
              case rel => exact ⟨k2 + 1, m + 1, A5, c5, by omega, by go_num, rfl, HM2.out, by omega, H.out⟩
              case measure => simp [intOf]; omega
          · have hfin : ((⟨s, dv, x.at_⟩ : Bkt) :: (l.take k2).filter (fun x => !decide (x.name = s))) = ((⟨s, dv, x.at_⟩ : Bkt) :: l.filter (fun x => !decide (x.name = s))).take 16 := by
              by_cases hl2 : k2 < l.length
              · have h16 : m = 16 := by omega
                have hm2 := HM.out
                have e : (⟨s, dv, x.at_⟩ : Bkt) :: l.filter (fun x => !decide (x.name = s)) = ((⟨s, dv, x.at_⟩ : Bkt) :: (l.take k2).filter (fun x => !decide (x.name = s))) ++ (l.drop k2).filter (fun x => !decide (x.name = s)) := by
                  rw [List.cons_append, ← List.filter_append, List.take_append_drop]
                rw [e, ← h16, hm2]
                exact List.take_left.symm
              · have hm2 := HM.out
                rw [List.take_of_length_le (by omega : l.length ≤ k2)] at hm2 ⊢
                rw [List.take_of_length_le (by omega)]
            have hfl := HM.out
            rw [hfin] at hw hfl
            have f6 := hw.f1.frozen 2
            have h3 := hw.f1.set 2 (.slice A2 m c3)
            have h3 : Own E _ (Hp.blk b RLIMT #[.float .f32 rate, .float .f32 burst, .slice A2 m c3] :: Hp.row RBKT 3 (.slice A2 m c3) m ((((⟨s, dv, x.at_⟩ : Bkt) :: l.filter (fun x => !decide (x.name = s))).take 16).flatMap enB) :: Hp.row RBKT 3 (.slice A l.length c) l.length (l.flatMap enB) :: Hp.blk g RBKT #[.string x.name, .float .f32 x.level, .int .i64 x.at_] :: L) := h3
            have h4 := h3.f2.drop.f2.drop
            have h5 : Own E (wr.setCell ⟨b, 2, none⟩ (.slice A2 m c3)) (Hp.rlim b rate burst (((⟨s, dv, x.at_⟩ : Bkt) :: l.filter (fun x => !decide (x.name = s))).take 16) :: L) := Own.toRlim (v := .slice A2 m c3) (by rw [← hfl]; exact h4)
            rw [← HTK.out] at h5
            have H := Lib.hid h5
            clear hw h3 h4 h5 hfin hfl
            rcases (by omega : ¬ k2 < l.length ∨ (k2 < l.length ∧ ¬ m < 16)) with hx | ⟨hx, hx2⟩
            · have y1 : ¬ (k2 : Int) < l.length := by omega
              clear hx hgo
              go_wp2_with fail
              go_ret2
              exact .inr ⟨HGE.out, rfl, H.out⟩
            · have y1 : (k2 : Int) < l.length := by omega
              have y2 : ¬ (m : Int) < 16 := by omega
              clear hx hx2 hgo
              go_wp2_with fail
              go_ret2
              exact .inr ⟨HGE.out, rfl, H.out⟩
      · have hmx : max t x.at_ = t := by omega
        rw [hmx] at HTK
        clear hmx
        obtain ⟨v, h⟩ := H.out.ofRlim
        obtain ⟨A, c, rfl⟩ := h.f1.rowSlice
        have hy := (h.alloc (.cells #[.string s, .float .f32 dv, .int .i64 (t)] RBKT)).toMk.mtoRow 3 1 1 (by omega) (by unfold maxLen; omega) rfl
        have hy : Own E _ (Hp.row RBKT 3 (.slice (some ⟨_, 0, none⟩) 1 1) 1 (((⟨s, dv, t⟩ : Bkt) :: (l.take 0).filter (fun x => !decide (x.name = s))).flatMap enB) :: Hp.blk b RLIMT #[.float .f32 rate, .float .f32 burst, .slice A l.length c] :: Hp.row RBKT 3 (.slice A l.length c) l.length (l.flatMap enB) :: Hp.blk g RBKT #[.string x.name, .float .f32 x.level, .int .i64 x.at_] :: L) := hy
        have HY := Lib.hid hy
        clear h hy H p0 p1
        go_wp2_with fail
        go_loopw [17, 18] (fun out i wr => ∃ (k m : Nat) (A2 : Option Addr) (c3 : Nat), k ≤ l.length ∧ i = .int .i64 k ∧ out = .slice A2 m c3 ∧ m = ((⟨s, dv, t⟩ : Bkt) :: (l.take k).filter (fun x => !decide (x.name = s))).length ∧ m ≤ 16 ∧ Own E wr (Hp.row RBKT 3 (.slice A2 m c3) m (((⟨s, dv, t⟩ : Bkt) :: (l.take k).filter (fun x => !decide (x.name = s))).flatMap enB) :: Hp.blk b RLIMT #[.float .f32 rate, .float .f32 burst, .slice A l.length c] :: Hp.row RBKT 3 (.slice A l.length c) l.length (l.flatMap enB) :: Hp.blk g RBKT #[.string x.name, .float .f32 x.level, .int .i64 x.at_] :: L)) (fun _ i _ => l.length - (intOf i).toNat)
        case atStart => exact ⟨0, 1, _, 1, by omega, rfl, rfl, rfl, by omega, HY.out⟩
        case round =>
          clear HY
          obtain ⟨k2, m, A2, c3, hk, rfl, rfl, hm, hm16, hw⟩ := hrel
          have c2 : wr.cell? ⟨b, 2, none⟩ = some (.slice A l.length c) := hw.f1.cell 2
          have HM := Lib.hid hm
          clear hm
          by_cases hgo : k2 < l.length ∧ m < 16
          · obtain ⟨hlt2, h16⟩ := hgo
            have hlti : (k2 : Int) < l.length := by omega
            have h16i : (m : Int) < 16 := by omega
            obtain ⟨x2, hx2⟩ : ∃ x2, l[k2]? = some x2 := ⟨_, List.getElem?_eq_getElem hlt2⟩
            obtain ⟨g2, rfl, d0, d1, d2⟩ := hw.f2.rcell k2 x2 hx2
            have hstep : (l.take (k2 + 1)).filter (fun x => !decide (x.name = s)) = (l.take k2).filter (fun x => !decide (x.name = s)) ++ [x2].filter (fun x => !decide (x.name = s)) := by rw [List.take_add_one, hx2, List.filter_append]; rfl
            have he : (x2.name.toList == s.toList) = decide (x2.name = s) := str_dec x2.name s
            by_cases hxs : x2.name = s
            · have hne : (x2.name.toList != s.toList) = false := by rw [bne, he, decide_eq_true hxs]; rfl
              rw [decide_eq_true hxs] at he
              have e1 : (l.take (k2 + 1)).filter (fun x => !decide (x.name = s)) = (l.take k2).filter (fun x => !decide (x.name = s)) := by rw [hstep, List.filter_cons_of_neg (by simp [hxs])]; simp
              have HM2 := Lib.hid (show m = ((⟨s, dv, t⟩ : Bkt) :: (l.take (k2 + 1)).filter (fun x => !decide (x.name = s))).length by rw [e1]; exact HM.out)
              rw [← e1] at hw
              have H := Lib.hid hw
              clear hw hstep hxs hx2 e1 d1 d2
              go_wp2_with fail
              go_roundw
              case rel => exact ⟨k2 + 1, m, A2, c3, by omega, by go_num, rfl, HM2.out, hm16, H.out⟩
              case measure => simp [intOf]; omega
            · have hne : (x2.name.toList != s.toList) = true := by rw [bne, he, decide_eq_false hxs]; rfl
              rw [decide_eq_false hxs] at he
              have e1 : (l.take (k2 + 1)).filter (fun x => !decide (x.name = s)) = (l.take k2).filter (fun x => !decide (x.name = s)) ++ [x2] := by rw [hstep, List.filter_cons_of_pos (by simp [hxs])]; simp
              have HM2 := Lib.hid (show m + 1 = ((⟨s, dv, t⟩ : Bkt) :: (l.take (k2 + 1)).filter (fun x => !decide (x.name = s))).length by rw [e1, ← List.cons_append, List.length_append, ← HM.out]; rfl)
              obtain ⟨v5, w5, hap, h5, -⟩ := sl_append_new (P := Try.prog) (t := LRT) (ty := LRT) (by kernel_rfl) xbt_info rfl (by omega) hw #[.string x2.name, .float .f32 x2.level, .int .i64 x2.at_] 1 rfl (by intro u hu; exact enB_all1 x2 u (by simpa using hu)) (by unfold maxLen; omega) (by omega)
              have e2 : (((⟨s, dv, t⟩ : Bkt) :: (l.take k2).filter (fun x => !decide (x.name = s))).flatMap enB) ++ (#[.string x2.name, .float .f32 x2.level, .int .i64 x2.at_] : Array Value).toList = ((⟨s, dv, t⟩ : Bkt) :: (l.take (k2 + 1)).filter (fun x => !decide (x.name = s))).flatMap enB := by
                rw [e1, ← List.cons_append, List.flatMap_append]; simp
              rw [e2] at h5
              obtain ⟨A5, c5, rfl⟩ := h5.rowSlice
              have H := Lib.hid h5
              clear hw hstep hxs hx2 e1 e2 h5
              go_wp2_with (with_reducible refine at_slot (k := some 104) ?_; refine wpList_append_run (o := ⟨some 104, _, _, _, _, _⟩) hap rfl rfl rfl rfl ?_; clear hap)
              go_roundw
              case rel => exact ⟨k2 + 1, m + 1, A5, c5, by omega, by go_num, rfl, HM2.out, by omega, H.out⟩
              case measure => simp [intOf]; omega
          · have hfin : ((⟨s, dv, t⟩ : Bkt) :: (l.take k2).filter (fun x => !decide (x.name = s))) = ((⟨s, dv, t⟩ : Bkt) :: l.filter (fun x => !decide (x.name = s))).take 16 := by
              by_cases hl2 : k2 < l.length
              · have h16 : m = 16 := by omega
                have hm2 := HM.out
                have e : (⟨s, dv, t⟩ : Bkt) :: l.filter (fun x => !decide (x.name = s)) = ((⟨s, dv, t⟩ : Bkt) :: (l.take k2).filter (fun x => !decide (x.name = s))) ++ (l.drop k2).filter (fun x => !decide (x.name = s)) := by
                  rw [List.cons_append, ← List.filter_append, List.take_append_drop]
                rw [e, ← h16, hm2]
                exact List.take_left.symm
              · have hm2 := HM.out
                rw [List.take_of_length_le (by omega : l.length ≤ k2)] at hm2 ⊢
                rw [List.take_of_length_le (by omega)]
            have hfl := HM.out
            rw [hfin] at hw hfl
            have f6 := hw.f1.frozen 2
            have h3 := hw.f1.set 2 (.slice A2 m c3)
            have h3 : Own E _ (Hp.blk b RLIMT #[.float .f32 rate, .float .f32 burst, .slice A2 m c3] :: Hp.row RBKT 3 (.slice A2 m c3) m ((((⟨s, dv, t⟩ : Bkt) :: l.filter (fun x => !decide (x.name = s))).take 16).flatMap enB) :: Hp.row RBKT 3 (.slice A l.length c) l.length (l.flatMap enB) :: Hp.blk g RBKT #[.string x.name, .float .f32 x.level, .int .i64 x.at_] :: L) := h3
            have h4 := h3.f2.drop.f2.drop
            have h5 : Own E (wr.setCell ⟨b, 2, none⟩ (.slice A2 m c3)) (Hp.rlim b rate burst (((⟨s, dv, t⟩ : Bkt) :: l.filter (fun x => !decide (x.name = s))).take 16) :: L) := Own.toRlim (v := .slice A2 m c3) (by rw [← hfl]; exact h4)
            rw [← HTK.out] at h5
            have H := Lib.hid h5
            clear hw h3 h4 h5 hfin hfl
            rcases (by omega : ¬ k2 < l.length ∨ (k2 < l.length ∧ ¬ m < 16)) with hx | ⟨hx, hx2⟩
            · have y1 : ¬ (k2 : Int) < l.length := by omega
              clear hx hgo
              go_wp2_with fail
              go_ret2
              exact .inr ⟨HGE.out, rfl, H.out⟩
            · have y1 : (k2 : Int) < l.length := by omega
              have y2 : ¬ (m : Int) < 16 := by omega
              clear hx hx2 hgo
              go_wp2_with fail
              go_ret2
              exact .inr ⟨HGE.out, rfl, H.out⟩
end
end Go.Proofs.Ytnbpbonpcbemdaa
