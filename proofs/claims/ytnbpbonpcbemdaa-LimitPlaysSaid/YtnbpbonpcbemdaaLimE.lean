/- latchkeylaw24.LimitWaits. -/
import Derived.Test.YtnbpbonpcbemdaaLimD
namespace Go.Proofs.Ytnbpbonpcbemdaa
open Go.RowKit
namespace Fl
theorem ge_false {x y : Nat} (hx : x < 2139095040) (hy : y < 2139095040) (h : x < y) : (FloatKind.f32.format.order x y == some .gt || FloatKind.f32.format.order x y == some .eq) = false := by
  rw [ge_Z (.inl hx) (.inl hy), Z_same hx, Z_same hy]; exact decide_eq_false (by omega)
theorem ge_true {x y : Nat} (hx : x < 2139095040) (hy : y < 2139095040) (h : y ≤ x) : (FloatKind.f32.format.order x y == some .gt || FloatKind.f32.format.order x y == some .eq) = true := by
  rw [ge_Z (.inl hx) (.inl hy), Z_same hx, Z_same hy]; exact decide_eq_true h
theorem lt_false {x y : Nat} (hx : x < 2139095040) (hy : y < 2139095040) (h : y ≤ x) : (FloatKind.f32.format.order x y == some .lt) = false := by
  rw [lt_Z (.inl hx) (.inl hy), Z_same hx, Z_same hy]; exact decide_eq_false (by omega)
theorem gt_false {x y : Nat} (hx : x < 2139095040) (hy : y < 2139095040) (h : x ≤ y) : (FloatKind.f32.format.order x y == some .gt) = false := by
  have o1 : FloatKind.f32.format.order x y = some (compare x y) := order_pos x y (by omega) (by omega)
  rw [o1]
  rcases Nat.lt_or_eq_of_le h with h | h
  · rw [Nat.compare_eq_lt.2 h]; rfl
  · rw [h, Nat.compare_eq_eq.2 rfl]; rfl
theorem ne_false {x : Nat} (hx : x < 2139095040) : (FloatKind.f32.format.order x x != some .eq) = false := by
  have o1 : FloatKind.f32.format.order x x = some (compare x x) := order_pos x x (by omega) (by omega)
  rw [o1, Nat.compare_eq_eq.2 rfl]; rfl
end Fl
structure Ask where
  who : Int
  cost : Int
  part : Int
  later : Int
abbrev enA (x : Ask) : List Value := [.int .i64 x.who, .int .i64 x.cost, .int .i64 x.part, .int .i64 x.later]
abbrev i64B (x : Int) : Prop := -9223372036854775808 ≤ x ∧ x ≤ 9223372036854775807
abbrev AskT : TypeId := 31
section
variable {E : World} {S : Ph} {L : List Hp}
set_option maxRecDepth 100000 in
set_option maxHeartbeats 20000000 in
theorem waits_any (rate part burst sooner : Int) (A : Option Addr) (n c : Nat) (xs : List Ask) (w : World) (b1 : i64B rate) (b2 : i64B part) (b3 : i64B burst) (b4 : i64B sooner) (hn : n ≤ 9223372036854775807) (hx : ∀ x ∈ xs, i64B x.who ∧ i64B x.cost ∧ i64B x.part ∧ i64B x.later) (hr : Rds S 4 enA A n xs) (h : Own E w (Hp.ro S :: L)) :
    Calls Try.prog 3 #[.int .i64 rate, .int .i64 part, .int .i64 burst, .slice A n c, .int .i64 sooner] w fun e w' => e = .returned (.bool true) ∧ Own E w' (Hp.ro S :: L) := by
  obtain ⟨mn, hmn⟩ : ∃ mn : Nat, mn = min n 2147483647 := ⟨_, rfl⟩
  have q1 : (if (2147483647 : Int) < n then (2147483647 : Int) else n) = mn := by split <;> omega
  have q2 : IntKind.i64.wrap (1000 * (mn : Int)) = 1000 * (mn : Int) := IntWalk.i64_in _ (by omega)
  by_cases hbig : 2147483647 < 1000 * mn
  · have q3 : (2147483647 : Int) < 1000 * (mn : Int) := by omega
    have H := Lib.hid h
    clear h hr hx hmn
    go_enter Try.func3, Try.ntmps3
    go_wp2_with fail
    go_ret
    exact ⟨rfl, H.out⟩
  have q3 : ¬ (2147483647 : Int) < 1000 * (mn : Int) := by omega
  have hn2 : n ≤ 2147483 := by omega
  clear hbig hmn
  have hspf := nearV_fin rate part
  obtain ⟨hmf, hm1⟩ := Fl.S_one (nearV_le burst part)
  have hadd : floatBits .add .f32 (nearV burst part) 1065353216 = some (Fl.S (nearV burst part) 1065353216) := Fl.add_pos _ _ (by have := nearV_fin burst part; omega) (by omega)
  have k1 := fun w => near_any burst part w b3 b2
  have k2 := fun w => near_any rate part w b1 b2
  generalize nearV burst part = nb at *
  generalize nearV rate part = speed at *
  generalize Fl.S nb 1065353216 = most at *
  have p1 := fun t (w : World) => run_float_arith (P := Try.prog) w .add t .f32 nb 1065353216 most hadd
  have H := Lib.hid h
  have HX := Lib.hid hx
  have hrs : Fl.Pr speed := .inl hspf
  clear h hx hadd
  go_enter Try.func3, Try.ntmps3
  go_wp2_with fail
  refine (awake_any _ H.out).mono ?_
  clear H
  rintro e w1 ⟨rfl, h⟩
  have H := Lib.hid h
  clear h
  go_wp2_with fail
  refine (k1 _).mono ?_
  rintro e w2 ⟨rfl, rfl⟩
  go_wp2_with fail
  refine (k2 _).mono ?_
  rintro e w2 ⟨rfl, rfl⟩
  go_wp2_with fail
  refine (new_any speed most _ hrs hmf (by omega) H.out).mono ?_
  clear H
  rintro e w3 ⟨b, rfl, h⟩
  have H := Lib.hid h
  clear h k1 k2 p1 q1 q2 q3
  go_wp2_with fail
  go_loopw [16, 17] (fun nw i wr => ∃ (k : Nat) (l : List Bkt) (now : Int), k ≤ n ∧ nw = .int .i64 now ∧ i = .int .i64 k ∧ 0 ≤ now ∧ now ≤ 1099511627776 ∧ LimOk most l ∧ upTo l now ∧ Own E wr (Hp.lim b speed most l :: Hp.ro S :: L)) (fun _ i _ => n - (intOf i).toNat)
  case atStart => exact ⟨0, [], 0, by omega, rfl, rfl, by omega, by omega, ⟨by decide, fun _ h => (nomatch h), fun _ h => (nomatch h)⟩, fun _ h => (nomatch h), H.out⟩
  case round =>
    obtain ⟨k, l, now, hk, rfl, rfl, hn0, hn1, hok, hup, hw⟩ := hrel
    clear H
    have HOK := Lib.hid hok
    have HUP := Lib.hid hup
    clear hok hup
    by_cases hlt : k < n
    · have hlti : (k : Int) < n := by omega
      obtain ⟨⟨who, cost, part2, later⟩, gx, off, hxk, rfl, hc⟩ := hr.get hlt
      have d0 : wr.cell? ⟨gx, off + k * 4, none⟩ = some (.int .i64 who) := hw.f1.rd (hc 0 _ rfl)
      have d1 : wr.cell? ⟨gx, off + k * 4 + 1, none⟩ = some (.int .i64 cost) := hw.f1.rd (hc 1 _ rfl)
      have d2 : wr.cell? ⟨gx, off + k * 4 + 2, none⟩ = some (.int .i64 part2) := hw.f1.rd (hc 2 _ rfl)
      have d3 : wr.cell? ⟨gx, off + k * 4 + 3, none⟩ = some (.int .i64 later) := hw.f1.rd (hc 3 _ rfl)
      obtain ⟨bw, bc, bp, bl⟩ := HX.out _ (List.mem_of_getElem? hxk)
      dsimp only at bw bc bp bl
      have h1 : Own E _ (Hp.blk wr.heap.size AskT #[.int .i64 who, .int .i64 cost, .int .i64 part2, .int .i64 later] :: _) := hw.alloc _
      obtain ⟨g, hg⟩ : ∃ g, g = wr.heap.size := ⟨_, rfl⟩
      rw [← hg] at h1
      have H := Lib.hid h1.f1
      have kp := fun w => pick_any later 1000 w bl (by omega) (by omega)
      have hdl := pickN_lt later 1000 (by omega)
      have kq := fun w => pick_any who 20 w bw (by omega) (by omega)
      have hkw := pickN_lt who 20 (by omega)
      have hcf := nearV_fin cost part2
      have kc := fun w => near_any cost part2 w bc bp
      generalize pickN later 1000 = dl at *
      generalize pickN who 20 = kw at *
      generalize nearV cost part2 = ct at *
      have j1 : IntKind.i64.wrap (now + (dl : Int)) = now + (dl : Int) := IntWalk.i64_in _ (by omega)
      clear hw h1 hc hxk
      go_wp2_with fail
      refine (kp _).mono ?_
      rintro e w2 ⟨rfl, rfl⟩
      by_cases hov : 549755813888 < now + (dl : Int)
      · go_wp2_with fail
        go_ret
        exact ⟨rfl, H.out.drop.drop⟩
      have hup2 : upTo l (now + (dl : Int)) := fun x hx => by have := HUP.out x hx; omega
      have htm0 : 0 ≤ now + (dl : Int) := by omega
      clear HUP
      obtain ⟨tm, htm⟩ : ∃ tm, tm = now + (dl : Int) := ⟨_, rfl⟩
      rw [← htm] at hov hup2 htm0 j1
      have HUP := Lib.hid hup2
      clear hup2
      have JT := Lib.hid htm
      go_wp2_with fail
      try rw [← JT.out]
      rw [← hg]
      clear hg
      refine (kq _).mono ?_
      rintro e w2 ⟨rfl, rfl⟩
      go_wp2_with fail
      rw [← JT.out]
      refine (name_any kw _ _ hkw H.out).mono ?_
      rintro e w3 ⟨rfl, h⟩
      have hnm := nmS_name kw hkw
      have hsz := nmS_size kw
      generalize nmS kw = s at *
      have p1 : w3.cell? ⟨g, 1, none⟩ = some (.int .i64 cost) := h.f1.cell 1
      have p2 : w3.cell? ⟨g, 2, none⟩ = some (.int .i64 part2) := h.f1.cell 2
      clear H hkw kp kq hdl JT d0 d1 d2 d3 j1 htm
      have H := Lib.hid h
      clear h
      go_wp2_with fail
      refine (kc _).mono ?_
      rintro e w4 ⟨rfl, rfl⟩
      clear kc
      have KV := Lib.hid (fun w M hw => level2_any (E := E) (L := M) b speed most l s (tm) w hrs hmf HOK.out hw)
      obtain ⟨hv, ehv⟩ : ∃ v, v = hasN speed most l s (tm) := ⟨_, rfl⟩
      have lehv : hv ≤ most := by rw [ehv]; exact hasN_le HOK.out
      rw [← ehv] at KV
      have Ehv := Lib.hid ehv
      clear ehv
      have z1 := Fl.lt_false (x := hv) (y := 0) (by omega) (by omega) (by omega)
      have z2 := Fl.gt_false (x := hv) (y := most) (by omega) (by omega) (by omega)
      have z3 := Fl.ne_false (x := hv) (by omega)
      clear p1 p2
      go_wp2_with fail
      refine (KV.out _ _ H.out).mono ?_
      clear H
      rintro e wv ⟨rfl, h⟩
      have H := Lib.hid h
      clear h
      have hcp : Fl.Pr ct := .inl hcf
      go_wp2_with fail
      refine (take_any b speed most ct l s tm _ hrs hmf hcp hsz hnm HOK.out H.out).mono ?_
      clear H
      rw [Fl.Z_same hcf, ← Ehv.out]
      rintro e w5 (⟨hlt5, ⟨W, rfl, hW⟩, h⟩ | ⟨hge5, rfl, h⟩)
      · have HW := Lib.hid (wait_facts (cost := ct) hmf HOK.out ⟨htm0, by omega⟩ HUP.out (by rw [Fl.Z_same hcf, ← Ehv.out]; exact hlt5) hW)
        rw [Fl.Z_same hcf] at HW
        obtain ⟨W1, W2, -, -⟩ := HW.out
        have z4 := Fl.ge_false (x := hv) (y := ct) (by omega) hcf hlt5
        have z5 : ¬ (W : Int) < 1 := by omega
        have z6 : ¬ (1099511627776 : Int) < W := by omega
        have H := Lib.hid h
        clear h hW hlt5
        go_wp2_with fail
        refine (KV.out _ _ H.out).mono ?_
        clear H
        rintro e wv ⟨rfl, h⟩
        have H := Lib.hid h
        clear h
        clear KV
        by_cases hw40 : W = 1099511627776
        · have HF := Lib.hid (HW.out.2.2.1 hw40)
          subst hw40
          have KV1 := Lib.hid (fun w M hw => level2_any (E := E) (L := M) b speed most l s (1099511627776) w hrs hmf HOK.out hw)
          obtain ⟨v1, ev1⟩ : ∃ v, v = hasN speed most l s (1099511627776) := ⟨_, rfl⟩
          have lev1 : v1 ≤ most := by rw [ev1]; exact hasN_le HOK.out
          rw [← ev1] at KV1
          have Ev1 := Lib.hid ev1
          clear ev1
          have z7 := Fl.ge_false (x := v1) (y := ct) (by omega) hcf (by rw [Ev1.out]; exact HF.out)
          go_wp2_with fail
          refine (KV1.out _ _ H.out).mono ?_
          clear H
          rintro e wv ⟨rfl, h⟩
          have H := Lib.hid h
          clear h
          go_wp2_with fail
          go_roundw
          case rel => exact ⟨k + 1, l, tm, by omega, rfl, by go_num, htm0, by omega, HOK.out, HUP.out, (H.out.f1.drop)⟩
          case measure => simp [intOf]; omega
        · have z7 : ((W : Int) == 1099511627776) = false := by rw [beq_eq_false_iff_ne]; omega
          have z8 : ¬ (W : Int) = 1099511627776 := by omega
          have jw : IntKind.i64.wrap (tm + (W : Int)) = tm + (W : Int) := IntWalk.i64_in _ (by omega)
          by_cases hov2 : 1099511627776 < tm + (W : Int)
          · go_wp2_with fail
            go_roundw
            case rel => exact ⟨k + 1, l, tm, by omega, rfl, by go_num, htm0, by omega, HOK.out, HUP.out, (H.out.f1.drop)⟩
            case measure => simp [intOf]; omega
          · have HD := Lib.hid (HW.out.2.2.2 (by omega))
            have ks := fun w => pick_any sooner W w b4 (by omega) (by omega)
            have hpk := pickN_lt sooner W (by omega)
            generalize pickN sooner W = pk at *
            have ja : IntKind.i64.wrap (1 + (pk : Int)) = 1 + (pk : Int) := IntWalk.i64_in _ (by omega)
            have jb : IntKind.i64.wrap (tm + (1 + (pk : Int))) = tm + (1 + (pk : Int)) := IntWalk.i64_in _ (by omega)
            have jc : IntKind.i64.wrap (tm + (W : Int) - 1) = tm + (W : Int) - 1 := IntWalk.i64_in _ (by omega)
            have KV1 := Lib.hid (fun w M hw => level2_any (E := E) (L := M) b speed most l s (tm + (1 + (pk : Int))) w hrs hmf HOK.out hw)
            obtain ⟨v1, ev1⟩ : ∃ v, v = hasN speed most l s (tm + (1 + (pk : Int))) := ⟨_, rfl⟩
            have lev1 : v1 ≤ most := by rw [ev1]; exact hasN_le HOK.out
            rw [← ev1] at KV1
            have Ev1 := Lib.hid ev1
            clear ev1
            have KV2 := Lib.hid (fun w M hw => level2_any (E := E) (L := M) b speed most l s (tm + (W : Int) - 1) w hrs hmf HOK.out hw)
            obtain ⟨v2, ev2⟩ : ∃ v, v = hasN speed most l s (tm + (W : Int) - 1) := ⟨_, rfl⟩
            have lev2 : v2 ≤ most := by rw [ev2]; exact hasN_le HOK.out
            rw [← ev2] at KV2
            have Ev2 := Lib.hid ev2
            clear ev2
            have KV3 := Lib.hid (fun w M hw => level2_any (E := E) (L := M) b speed most l s (tm + (W : Int)) w hrs hmf HOK.out hw)
            obtain ⟨v3, ev3⟩ : ∃ v, v = hasN speed most l s (tm + (W : Int)) := ⟨_, rfl⟩
            have lev3 : v3 ≤ most := by rw [ev3]; exact hasN_le HOK.out
            rw [← ev3] at KV3
            have Ev3 := Lib.hid ev3
            clear ev3
            have y3 := Fl.lt_false (x := v3) (y := ct) (by omega) hcf (by rw [Ev3.out]; exact (HD.out W W1 (by omega)).2 rfl)
            have HY3 := Lib.hid (show ct ≤ hasN speed most l s (tm + (W : Int)) from (HD.out W W1 (by omega)).2 rfl)
            go_wp2_with fail
            refine (ks _).mono ?_
            rintro e w6 ⟨rfl, rfl⟩
            clear ks
            rcases (by omega : 1 + pk < W ∨ (¬ 1 + pk < W ∧ 1 < W) ∨ (¬ 1 + pk < W ∧ W = 1)) with he | ⟨he, he2⟩ | ⟨he, he2⟩
            · have y1 := Fl.ge_false (x := v1) (y := ct) (by omega) hcf (by rw [Ev1.out]; have := (HD.out (1 + pk) (by omega) (by omega)).1 (by omega); rwa [Int.natCast_add] at this)
              have y2 := Fl.ge_false (x := v2) (y := ct) (by omega) hcf (by rw [Ev2.out]; have := (HD.out (W - 1) (by omega) (by omega)).1 (by omega); rwa [show tm + ((W - 1 : Nat) : Int) = tm + (W : Int) - 1 by omega] at this)
              have x1 : 1 + (pk : Int) < W := by omega
              have x2 : (1 : Int) < W := by omega
              go_wp2_with fail
              refine (KV1.out _ _ H.out).mono ?_
              clear H
              rintro e wv ⟨rfl, h⟩
              have H := Lib.hid h
              clear h
              go_wp2_with fail
              refine (KV2.out _ _ H.out).mono ?_
              clear H
              rintro e wv ⟨rfl, h⟩
              have H := Lib.hid h
              clear h
              go_wp2_with fail
              refine (KV3.out _ _ H.out).mono ?_
              clear H
              rintro e wv ⟨rfl, h⟩
              have H := Lib.hid h
              clear h
              go_wp2_with fail
              refine (take_any b speed most ct l s (tm + (W : Int)) _ hrs hmf hcp hsz hnm HOK.out H.out).mono ?_
              clear H
              rw [Fl.Z_same hcf]
              rintro e w7 (⟨hbad, -⟩ | ⟨-, rfl, h⟩)
              · have := HY3.out; omega
              have H := Lib.hid h
              clear h
              go_wp2_with fail
              go_roundw
              case rel => exact ⟨k + 1, _, tm + (W : Int), by omega, rfl, by go_num, by omega, by omega, tookN_ok HOK.out hmf, tookN_upTo (fun x hx => by have := HUP.out x hx; omega) ⟨by omega, by omega⟩, (H.out.f1.drop)⟩
              case measure => simp [intOf]; omega
            · have y2 := Fl.ge_false (x := v2) (y := ct) (by omega) hcf (by rw [Ev2.out]; have := (HD.out (W - 1) (by omega) (by omega)).1 (by omega); rwa [show tm + ((W - 1 : Nat) : Int) = tm + (W : Int) - 1 by omega] at this)
              have x1 : ¬ 1 + (pk : Int) < W := by omega
              have x2 : (1 : Int) < W := by omega
              go_wp2_with fail
              refine (KV2.out _ _ H.out).mono ?_
              clear H
              rintro e wv ⟨rfl, h⟩
              have H := Lib.hid h
              clear h
              go_wp2_with fail
              refine (KV3.out _ _ H.out).mono ?_
              clear H
              rintro e wv ⟨rfl, h⟩
              have H := Lib.hid h
              clear h
              go_wp2_with fail
              refine (take_any b speed most ct l s (tm + (W : Int)) _ hrs hmf hcp hsz hnm HOK.out H.out).mono ?_
              clear H
              rw [Fl.Z_same hcf]
              rintro e w7 (⟨hbad, -⟩ | ⟨-, rfl, h⟩)
              · have := HY3.out; omega
              have H := Lib.hid h
              clear h
              go_wp2_with fail
              go_roundw
              case rel => exact ⟨k + 1, _, tm + (W : Int), by omega, rfl, by go_num, by omega, by omega, tookN_ok HOK.out hmf, tookN_upTo (fun x hx => by have := HUP.out x hx; omega) ⟨by omega, by omega⟩, (H.out.f1.drop)⟩
              case measure => simp [intOf]; omega
            · have x1 : ¬ 1 + (pk : Int) < W := by omega
              have x2 : ¬ (1 : Int) < W := by omega
              have HE := Lib.hid he2
              clear he he2
              go_wp2_with fail
              refine (KV3.out _ _ H.out).mono ?_
              clear H
              rintro e wv ⟨rfl, h⟩
              have H := Lib.hid h
              clear h
              go_wp2_with fail
              refine (take_any b speed most ct l s (tm + (W : Int)) _ hrs hmf hcp hsz hnm HOK.out H.out).mono ?_
              clear H
              rw [Fl.Z_same hcf]
              rintro e w7 (⟨hbad, -⟩ | ⟨-, rfl, h⟩)
              · have := HY3.out; omega
              have H := Lib.hid h
              clear h
              go_wp2_with fail
              go_roundw
              case rel => exact ⟨k + 1, _, tm + (W : Int), by omega, rfl, by go_num, by omega, by omega, tookN_ok HOK.out hmf, tookN_upTo (fun x hx => by have := HUP.out x hx; omega) ⟨by omega, by omega⟩, (H.out.f1.drop)⟩
              case measure => simp [intOf]; omega
      · have z4 := Fl.ge_true (x := hv) (y := ct) (by omega) hcf hge5
        have hsub := Fl.sub_Z (x := hv) (by omega) hcp (by rw [Fl.Z_same hcf]; exact hge5)
        have hdl := Fl.D_le hv (Fl.Z ct) (by omega)
        have KT := Lib.hid (fun w M hw => level2_any (E := E) (L := M) b speed most (tookN speed most l s ct tm) s tm w hrs hmf (tookN_ok HOK.out hmf) hw)
        rw [hasN_took, ← Ehv.out] at KT
        generalize Fl.D hv (Fl.Z ct) = dv at *
        have hop := fun t (w : World) => run_float_arith (P := Try.prog) w .sub t .f32 hv ct dv hsub
        have z5 := Fl.ne_false (x := dv) (by omega)
        have H := Lib.hid h
        clear h hsub
        go_wp2_with fail
        refine (KT.out _ _ H.out).mono ?_
        clear H
        rintro e wv ⟨rfl, h⟩
        have H := Lib.hid h
        clear h
        go_wp2_with fail
        go_roundw
        case rel => exact ⟨k + 1, _, tm, by omega, rfl, by go_num, htm0, by omega, tookN_ok HOK.out hmf, tookN_upTo HUP.out ⟨htm0, by omega⟩, (H.out.f1.drop)⟩
        case measure => simp [intOf]; omega
    · obtain rfl : k = n := by omega
      have hlti : ¬ (k : Int) < k := by omega
      have H := Lib.hid hw
      clear hw
      go_wp2_with fail
      go_ret
      exact ⟨rfl, H.out.drop⟩
end
end Go.Proofs.Ytnbpbonpcbemdaa
