/- latchkeylaw24.LimitAlone (printed by gen_alone.py). -/
import Derived.Test.YtnbpbonpcbemdaaLimE
import Derived.Test.YtnbpbonpcbemdaaLimG
namespace Go.Proofs.Ytnbpbonpcbemdaa
open Go.RowKit
section
variable {E : World} {S : Ph} {L : List Hp}
set_option maxRecDepth 100000 in
set_option maxHeartbeats 20000000 in
theorem alone_any (rate part burst whose : Int) (A : Option Addr) (n c : Nat) (xs : List Ask) (w : World) (b1 : i64B rate) (b2 : i64B part) (b3 : i64B burst) (b4 : i64B whose) (hn : n ≤ 9223372036854775807) (hx : ∀ x ∈ xs, i64B x.who ∧ i64B x.cost ∧ i64B x.part ∧ i64B x.later) (hr : Rds S 4 enA A n xs) (h : Own E w (Hp.ro S :: L)) :
    Calls Try.prog 5 #[.int .i64 rate, .int .i64 part, .int .i64 burst, .slice A n c, .int .i64 whose] w fun e w' => e = .returned (.bool true) ∧ Own E w' (Hp.ro S :: L) := by
  obtain ⟨mn, hmn⟩ : ∃ mn : Nat, mn = min n 2147483647 := ⟨_, rfl⟩
  have q1 : (if (2147483647 : Int) < n then (2147483647 : Int) else n) = mn := by split <;> omega
  have q2 : IntKind.i64.wrap (1000 * (mn : Int)) = 1000 * (mn : Int) := IntWalk.i64_in _ (by omega)
  by_cases hbig : 2147483647 < 1000 * mn
  · have q3 : (2147483647 : Int) < 1000 * (mn : Int) := by omega
    have H := Lib.hid h
    clear h hr hx hmn
    go_enter Try.func5, Try.ntmps5
    go_wp2_with fail
    go_ret
    exact ⟨rfl, H.out⟩
  have q3 : ¬ (2147483647 : Int) < 1000 * (mn : Int) := by omega
  have hn2 : n ≤ 2147483 := by omega
  clear hbig hmn
  have hspf := nearV_fin rate part
  obtain ⟨hmf, hm1⟩ := Fl.S_one (nearV_le burst part)
  have hadd : floatBits .add .f32 (nearV burst part) 1065353216 = some (Fl.S (nearV burst part) 1065353216) := Fl.add_pos _ _ (by have := nearV_fin burst part; omega) (by omega)
  have k1 := fun w => near_any burst part w b3 b2
  have k2 := fun w => near_any rate part w b1 b2
  have k3 := fun w => pick_any whose 16 w b4 (by omega) (by omega)
  have hpw := pickN_lt whose 16 (by omega)
  generalize nearV burst part = nb at *
  generalize nearV rate part = speed at *
  generalize Fl.S nb 1065353216 = most at *
  generalize pickN whose 16 = pw at *
  have p1 := fun t (w : World) => run_float_arith (P := Try.prog) w .add t .f32 nb 1065353216 most hadd
  have H := Lib.hid h
  have HX := Lib.hid hx
  have K3 := Lib.hid k3
  have hrs : Fl.Pr speed := .inl hspf
  clear h hx hadd k3
  go_enter Try.func5, Try.ntmps5
  go_wp2_with fail
  refine (awake_any _ H.out).mono ?_
  clear H
  rintro e w1 ⟨rfl, h⟩
  have H := Lib.hid h
  clear h
  go_wp2_with fail
  refine (k2 _).mono ?_
  rintro e w2 ⟨rfl, rfl⟩
  go_wp2_with fail
  refine (k1 _).mono ?_
  rintro e w2 ⟨rfl, rfl⟩
  go_wp2_with fail
  refine (new_any speed most _ hrs hmf (by omega) H.out).mono ?_
  clear H
  rintro e w3 ⟨b, rfl, h⟩
  have H := Lib.hid h
  clear h
  go_wp2_with fail
  refine (k2 _).mono ?_
  rintro e w2 ⟨rfl, rfl⟩
  go_wp2_with fail
  refine (k1 _).mono ?_
  rintro e w2 ⟨rfl, rfl⟩
  go_wp2_with fail
  refine (new_any speed most _ hrs hmf (by omega) H.out).mono ?_
  clear H
  rintro e w3 ⟨b2, rfl, h⟩
  have H := Lib.hid h
  clear h
  clear k1 k2 p1 q1 q2 q3
  go_wp2_with fail
  go_loopw [16, 17] (fun nw i wr => ∃ (k : Nat) (l m : List Bkt) (now : Int), k ≤ n ∧ nw = .int .i64 now ∧ i = .int .i64 k ∧ -20 * (k : Int) ≤ now ∧ now ≤ 1000 * (k : Int) ∧ Alone most l m (nmS pw) ∧ Own E wr (Hp.lim b speed most l :: Hp.lim b2 speed most m :: Hp.ro S :: L)) (fun _ i _ => n - (intOf i).toNat)
  case atStart => exact ⟨0, [], [], 0, by omega, rfl, rfl, by omega, by omega, Alone.start _ _, H.out.f1⟩
  case round =>
    obtain ⟨k, l, m, now, hk, rfl, rfl, hn0, hn1, hal, hw⟩ := hrel
    clear H
    have HAL := Lib.hid hal
    clear hal
    by_cases hlt : k < n
    · have hlti : (k : Int) < n := by omega
      obtain ⟨⟨who, cost, part2, later⟩, gx, off, hxk, rfl, hc⟩ := hr.get hlt
      have d0 : wr.cell? ⟨gx, off + k * 4, none⟩ = some (.int .i64 who) := hw.f2.rd (hc 0 _ rfl)
      have d1 : wr.cell? ⟨gx, off + k * 4 + 1, none⟩ = some (.int .i64 cost) := hw.f2.rd (hc 1 _ rfl)
      have d2 : wr.cell? ⟨gx, off + k * 4 + 2, none⟩ = some (.int .i64 part2) := hw.f2.rd (hc 2 _ rfl)
      have d3 : wr.cell? ⟨gx, off + k * 4 + 3, none⟩ = some (.int .i64 later) := hw.f2.rd (hc 3 _ rfl)
      obtain ⟨bw, bc, bp, bl⟩ := HX.out _ (List.mem_of_getElem? hxk)
      dsimp only at bw bc bp bl
      have h1 : Own E _ (Hp.blk wr.heap.size AskT #[.int .i64 who, .int .i64 cost, .int .i64 part2, .int .i64 later] :: _) := hw.alloc _
      obtain ⟨g, hg⟩ : ∃ g, g = wr.heap.size := ⟨_, rfl⟩
      rw [← hg] at h1
      have h1 : Own E _ (Hp.lim b speed most l :: Hp.lim b2 speed most m :: Hp.blk g AskT #[.int .i64 who, .int .i64 cost, .int .i64 part2, .int .i64 later] :: Hp.ro S :: L) := h1.f2.f2
      have H := Lib.hid h1
      have kp := fun w => pick_any later 1000 w bl (by omega) (by omega)
      have hdl := pickN_lt later 1000 (by omega)
      have kq := fun w => pick_any who 16 w bw (by omega) (by omega)
      have hkw := pickN_lt who 16 (by omega)
      have hcf := nearV_fin cost part2
      have kc := fun w => near_any cost part2 w bc bp
      generalize pickN later 1000 = dl at *
      generalize pickN who 16 = kw at *
      generalize nearV cost part2 = ct at *
      have hcp : Fl.Pr ct := .inl hcf
      have KC := Lib.hid kc
      have j1 : IntKind.i64.wrap (now + (dl : Int)) = now + (dl : Int) := IntWalk.i64_in _ (by omega)
      have j2 : IntKind.i64.wrap (now + (dl : Int) - 20) = now + (dl : Int) - 20 := IntWalk.i64_in _ (by omega)
      clear hw h1 hc hxk kc
      go_wp2_with fail
      refine (kp _).mono ?_
      rintro e w2 ⟨rfl, rfl⟩
      go_wp2_with fail
      rw [← hg]
      clear hg
      refine (kq _).mono ?_
      rintro e w2 ⟨rfl, rfl⟩
      go_wp2_with fail
      have htm0 : -20 * ((k : Int) + 1) ≤ now + (dl : Int) - 20 := by omega
      have htm1 : now + (dl : Int) - 20 ≤ 1000 * ((k : Int) + 1) := by omega
      have htm2 : -9223372036854775808 ≤ now + (dl : Int) - 20 + 9 ∧ now + (dl : Int) - 20 + 9 ≤ 9223372036854775807 := by omega
      clear hn0 hn1 j1 j2 hdl
      generalize now + (dl : Int) - 20 = tm at *
      have jn : IntKind.i64.wrap (tm + 9) = tm + 9 := IntWalk.i64_in _ htm2
      refine (name_any kw _ _ (by omega) H.out).mono ?_
      rintro e w3 ⟨rfl, h⟩
      have hnm := nmS_name kw (by omega)
      have hsz := nmS_size kw
      have p1 : w3.cell? ⟨g, 1, none⟩ = some (.int .i64 cost) := h.f2.cell 1
      have p2 : w3.cell? ⟨g, 2, none⟩ = some (.int .i64 part2) := h.f2.cell 2
      obtain ⟨s, hs⟩ : ∃ s, s = nmS kw := ⟨_, rfl⟩
      rw [← hs] at hnm hsz ⊢
      have HS := Lib.hid hs
      clear H kp kq d0 d1 d2 d3 hs
      have H := Lib.hid h
      clear h
      go_wp2_with fail
      refine (KC.out _).mono ?_
      rintro e w4 ⟨rfl, rfl⟩
      clear p1 p2
      go_wp2_with fail
      refine (take_any b speed most ct l s tm _ hrs hmf hcp hsz hnm HAL.out.okl H.out).mono ?_
      clear H
      rintro e w5 (⟨hlt5, ⟨W, rfl, hW⟩, h⟩ | ⟨hge5, rfl, h⟩)
      · have p1 : w5.cell? ⟨g, 1, none⟩ = some (.int .i64 cost) := h.f2.cell 1
        have p2 : w5.cell? ⟨g, 2, none⟩ = some (.int .i64 part2) := h.f2.cell 2
        have H := Lib.hid h
        have HL5 := Lib.hid (And.intro hlt5 hW)
        clear h hlt5 hW
        go_wp2_with fail
        refine (K3.out _).mono ?_
        rintro e w6 ⟨rfl, rfl⟩
        by_cases hkp : kw = pw
        · have HKP := Lib.hid hkp
          have hal2 := HAL.out
          rw [← hkp, ← HS.out] at hal2
          have HK : Hid (keptR l s = keptR m s) := Lib.hid hal2.kept
          have hm2 : LimOk most m := hal2.okm
          have HA2 : Hid (Alone most l m s) := Lib.hid hal2
          clear hal2
          subst hkp
          go_wp2_with fail
          refine (KC.out _).mono ?_
          rintro e w7 ⟨rfl, rfl⟩
          clear p1 p2
          go_wp2_with fail
          refine (take_any b2 speed most ct m s tm _ hrs hmf hcp hsz hnm hm2 H.out.f1).mono ?_
          clear H
          rw [← hasN_same HK.out, ← ofN_same HK.out]
          rintro e w8 (⟨-, ⟨U, rfl, hU⟩, h⟩ | ⟨hbad, -⟩)
          rotate_left
          · have := HL5.out.1; omega
          obtain rfl := hU.uniq HL5.out.2
          clear hU
          have H := Lib.hid h.f1
          clear h
          obtain ⟨l2, hl2⟩ : ∃ l2, l2 = l := ⟨_, rfl⟩
          obtain ⟨m2, hm3⟩ : ∃ m2, m2 = m := ⟨_, rfl⟩
          rw [← hl2, ← hm3] at H HA2
          clear hl2 hm3 hm2
          have hle := hasN_le (rate := speed) (s := s) (now := tm + 9) HA2.out.okl
          have kv1 := fun w M hw => level2_any (E := E) (L := M) b speed most l2 s (tm + 9) w hrs hmf HA2.out.okl hw
          have kv2 := fun w M hw => level2_any (E := E) (L := M) b2 speed most m2 s (tm + 9) w hrs hmf HA2.out.okm hw
          rw [← hasN_same HA2.out.kept] at kv2
          generalize hasN speed most l2 s (tm + 9) = v9 at *
          have z3 := Fl.ne_false (x := v9) (by omega)
          have hl16 := HA2.out.six.len
          have hm1l := HA2.out.one.len
          have y1 : ¬ (1 : Int) < m2.length := by omega
          have y2 : ¬ (16 : Int) < l2.length := by omega
          have KV1 := Lib.hid kv1
          have KV2 := Lib.hid kv2
          clear kv1 kv2
          go_wp2_with fail
          refine (KV1.out _ _ H.out).mono ?_
          clear H
          rintro e w9 ⟨rfl, h⟩
          have H := Lib.hid h
          clear h
          go_wp2_with fail
          refine (KV2.out _ _ H.out.f1).mono ?_
          clear H
          rintro e w9 ⟨rfl, h⟩
          have H := Lib.hid h.f1
          clear h
          go_wp2_with fail
          refine (names_any b2 speed most m2 _ (by omega) H.out.f1).mono ?_
          clear H
          rintro e w9 ⟨A3, c3, rfl, h⟩
          have H := Lib.hid h.f1
          clear h
          go_wp2_with fail
          refine (names_any b speed most l2 _ (by omega) H.out).mono ?_
          clear H
          rintro e w9 ⟨A4, c4, rfl, h⟩
          have H := Lib.hid h
          clear h
          go_wp2_with fail
          go_roundw
          case rel => exact ⟨k + 1, l2, m2, tm, by omega, rfl, by go_num, by omega, by omega, by rw [← HS.out]; exact HA2.out, (show Own E _ (Hp.lim b speed most l2 :: Hp.lim b2 speed most m2 :: Hp.blk g AskT #[.int .i64 who, .int .i64 cost, .int .i64 part2, .int .i64 later] :: Hp.ro S :: L) from H.out).f2.drop⟩
          case measure => simp [intOf]; omega
        · have y0 : ¬ (kw : Int) = pw := by omega
          have y9 : ((kw : Int) != (pw : Int)) = true := by rw [bne_iff_ne]; omega
          clear p1 p2
          go_wp2_with fail
          go_roundw
          case rel => exact ⟨k + 1, _, m, tm, by omega, rfl, by go_num, by omega, by omega, HAL.out, (show Own E _ (Hp.lim b speed most _ :: Hp.lim b2 speed most m :: Hp.blk g AskT #[.int .i64 who, .int .i64 cost, .int .i64 part2, .int .i64 later] :: Hp.ro S :: L) from H.out).f2.drop⟩
          case measure => simp [intOf]; omega
      · have p1 : w5.cell? ⟨g, 1, none⟩ = some (.int .i64 cost) := h.f2.cell 1
        have p2 : w5.cell? ⟨g, 2, none⟩ = some (.int .i64 part2) := h.f2.cell 2
        have H := Lib.hid h
        have HL5 := Lib.hid hge5
        clear h hge5
        go_wp2_with fail
        refine (K3.out _).mono ?_
        rintro e w6 ⟨rfl, rfl⟩
        by_cases hkp : kw = pw
        · have HKP := Lib.hid hkp
          have hal2 := HAL.out
          rw [← hkp, ← HS.out] at hal2
          have HK : Hid (keptR l s = keptR m s) := Lib.hid hal2.kept
          have hm2 : LimOk most m := hal2.okm
          have HA2 : Hid (Alone most (tookN speed most l s ct tm) (tookN speed most m s ct tm) s) := Lib.hid (by
            have := hal2
            rw [HS.out] at this ⊢
            exact this.both hmf hkw)
          clear hal2
          subst hkp
          go_wp2_with fail
          refine (KC.out _).mono ?_
          rintro e w7 ⟨rfl, rfl⟩
          clear p1 p2
          go_wp2_with fail
          refine (take_any b2 speed most ct m s tm _ hrs hmf hcp hsz hnm hm2 H.out.f1).mono ?_
          clear H
          rw [← hasN_same HK.out, ← ofN_same HK.out]
          rintro e w8 (⟨hbad, -⟩ | ⟨-, rfl, h⟩)
          · have := HL5.out; omega
          have H := Lib.hid h.f1
          clear h
          obtain ⟨l2, hl2⟩ : ∃ l2, l2 = (tookN speed most l s ct tm) := ⟨_, rfl⟩
          obtain ⟨m2, hm3⟩ : ∃ m2, m2 = (tookN speed most m s ct tm) := ⟨_, rfl⟩
          rw [← hl2, ← hm3] at H HA2
          clear hl2 hm3 hm2
          have hle := hasN_le (rate := speed) (s := s) (now := tm + 9) HA2.out.okl
          have kv1 := fun w M hw => level2_any (E := E) (L := M) b speed most l2 s (tm + 9) w hrs hmf HA2.out.okl hw
          have kv2 := fun w M hw => level2_any (E := E) (L := M) b2 speed most m2 s (tm + 9) w hrs hmf HA2.out.okm hw
          rw [← hasN_same HA2.out.kept] at kv2
          generalize hasN speed most l2 s (tm + 9) = v9 at *
          have z3 := Fl.ne_false (x := v9) (by omega)
          have hl16 := HA2.out.six.len
          have hm1l := HA2.out.one.len
          have y1 : ¬ (1 : Int) < m2.length := by omega
          have y2 : ¬ (16 : Int) < l2.length := by omega
          have KV1 := Lib.hid kv1
          have KV2 := Lib.hid kv2
          clear kv1 kv2
          go_wp2_with fail
          refine (KV1.out _ _ H.out).mono ?_
          clear H
          rintro e w9 ⟨rfl, h⟩
          have H := Lib.hid h
          clear h
          go_wp2_with fail
          refine (KV2.out _ _ H.out.f1).mono ?_
          clear H
          rintro e w9 ⟨rfl, h⟩
          have H := Lib.hid h.f1
          clear h
          go_wp2_with fail
          refine (names_any b2 speed most m2 _ (by omega) H.out.f1).mono ?_
          clear H
          rintro e w9 ⟨A3, c3, rfl, h⟩
          have H := Lib.hid h.f1
          clear h
          go_wp2_with fail
          refine (names_any b speed most l2 _ (by omega) H.out).mono ?_
          clear H
          rintro e w9 ⟨A4, c4, rfl, h⟩
          have H := Lib.hid h
          clear h
          go_wp2_with fail
          go_roundw
          case rel => exact ⟨k + 1, l2, m2, tm, by omega, rfl, by go_num, by omega, by omega, by rw [← HS.out]; exact HA2.out, (show Own E _ (Hp.lim b speed most l2 :: Hp.lim b2 speed most m2 :: Hp.blk g AskT #[.int .i64 who, .int .i64 cost, .int .i64 part2, .int .i64 later] :: Hp.ro S :: L) from H.out).f2.drop⟩
          case measure => simp [intOf]; omega
        · have y0 : ¬ (kw : Int) = pw := by omega
          have y9 : ((kw : Int) != (pw : Int)) = true := by rw [bne_iff_ne]; omega
          clear p1 p2
          go_wp2_with fail
          go_roundw
          case rel => exact ⟨k + 1, _, m, tm, by omega, rfl, by go_num, by omega, by omega, by rw [HS.out]; exact HAL.out.other hmf hkw hpw hkp, (show Own E _ (Hp.lim b speed most _ :: Hp.lim b2 speed most m :: Hp.blk g AskT #[.int .i64 who, .int .i64 cost, .int .i64 part2, .int .i64 later] :: Hp.ro S :: L) from H.out).f2.drop⟩
          case measure => simp [intOf]; omega
    · obtain rfl : k = n := by omega
      have hlti : ¬ (k : Int) < k := by omega
      have H := Lib.hid hw
      clear hw
      go_wp2_with fail
      go_ret
      exact ⟨rfl, H.out.drop.drop⟩
end
end Go.Proofs.Ytnbpbonpcbemdaa
