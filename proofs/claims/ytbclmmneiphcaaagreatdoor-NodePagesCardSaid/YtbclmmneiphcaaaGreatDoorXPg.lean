/- latchkeyref10.wrong, short, Page. -/
import Derived.Test.YtbclmmneiphcaaaGreatDoorXForm
import Derived.Test.YtbclmmneiphcaaaGreatDoorPage
namespace Go.Proofs.YtbclmmneiphcaaaGreatDoor
open Go.RowKit
section
variable {E : World} {S : Ph} {L : List Hp}
theorem xwrong_any (v : Nv) (n : Nd) (w : World) (hb : n.bulk ≤ 4294967296) (hi : NdIn S v n) (h : Own E w (Hp.ro S :: L)) :
    Calls Tryz.prog 61 #[v.val n] w fun e w' => e = .returned (.int .i64 n.wrong) ∧ Own E w' (Hp.ro S :: L) := by
  have hk : n.ks.length ≤ 4294967296 := by unfold Nd.bulk at hb; omega
  have h1 := h.alloc (.cells #[.bool n.leaf, .slice v.a1 n.ks.length v.c1, .slice v.a2 n.vs.length v.c2, .slice v.a3 n.ls.length v.c3] NT)
  have hf := fun (B : Hp) w (hw : Own E w (Hp.ro S :: B :: L)) => xform_any v n false w hb hi hw
  have hm := fun (B : Hp) w (hw : Own E w (Hp.ro S :: B :: L)) => xkeys_any v.a1 n.ks.length v.c1 n.ks w (by omega) hi.r1 hw
  have hs := fun (B : Hp) w (hw : Own E w (Hp.ro S :: B :: L)) => xsize_any v n w (by omega) hi hw
  have hsz : n.size ≤ 5 * 4294967296 := Nat.le_trans n.size_le (by omega)
  have e0 : n.wrong = if n.formed 1 then if mayB n.ks then if 480 < n.size then 102 else 0 else 101 else 100 := rfl
  rw [e0]
  clear hi hb h e0 hk
  simp only [Bool.false_eq_true, if_false] at hf
  dsimp only [Nv.val] at hf hs ⊢
  generalize n.formed 1 = r1 at *
  generalize mayB n.ks = r2 at *
  generalize n.size = sz at *
  generalize n.ks.length = nk at *
  generalize n.vs.length = nv at *
  generalize n.ls.length = nl at *
  generalize n.leaf = leaf at *
  generalize v.a1 = a1 at *
  generalize v.a2 = a2 at *
  generalize v.a3 = a3 at *
  generalize v.c1 = c1 at *
  generalize v.c2 = c2 at *
  generalize v.c3 = c3 at *
  have H1 := Lib.hid h1
  have HF := Lib.hid hf
  have HM := Lib.hid hm
  have HS := Lib.hid hs
  clear h1 hf hm hs
  go_enter Tryz.func61, Tryz.ntmps61
  go_wp2_with fail
  refine (HF.out _ _ H1.out.f1).mono ?_
  rintro e w1 ⟨rfl, hw⟩
  have f0 := hw.f1.cell 0
  have f1 := hw.f1.cell 1
  have f2 := hw.f1.cell 2
  have f3 := hw.f1.cell 3
  cases r1 with
  | false =>
    go_wp2_with fail
    go_ret
    exact ⟨rfl, hw.f1.drop⟩
  | true =>
    have HW := Lib.hid hw
    clear hw
    go_wp2_with fail
    refine (HM.out _ _ HW.out).mono ?_
    rintro e w2 ⟨rfl, hw⟩
    clear f0 f1 f2 f3 HW
    have f0 := hw.f1.cell 0
    have f1 := hw.f1.cell 1
    have f2 := hw.f1.cell 2
    have f3 := hw.f1.cell 3
    cases r2 with
    | false =>
      go_wp2_with fail
      go_ret
      exact ⟨rfl, hw.f1.drop⟩
    | true =>
      have HW := Lib.hid hw
      clear hw
      go_wp2_with fail
      refine (HS.out _ _ HW.out).mono ?_
      rintro e w3 ⟨rfl, hw⟩
      clear f0 f1 f2 f3 HW
      by_cases hbig : 480 < sz
      · have hbi : (480 : Int) < sz := by omega
        have HW := Lib.hid hw
        clear hw
        go_wp2_with fail
        go_ret
        refine ⟨ret_i64 ?_, HW.out.f1.drop⟩
        simp
      · have hbi : ¬ (480 : Int) < sz := by omega
        have HW := Lib.hid hw
        clear hw
        go_wp2_with fail
        go_ret
        refine ⟨ret_i64 ?_, HW.out.f1.drop⟩
        simp
theorem textB_len (s : ByteArray) : (textB s).length = s.size + 1 := by
  have : s.data.toList.length = s.size := rfl
  unfold textB
  rw [List.length_append, byN_len]; omega
theorem byN_one (n : Nat) : byN 1 n = [UInt8.ofNat n] := by simp [byN]
set_option maxHeartbeats 4000000 in
theorem xshort_any (s : ByteArray) (w : World) (hs : s.size ≤ 1000000000) (h : Own E w L) :
    Calls Tryz.prog 62 #[.string s] w fun e w' => ∃ b : ByteArray, e = .returned (.string b) ∧ b.data.toList = textB s ∧ Own E w' L := by
  obtain ⟨cb, hcb⟩ : ∃ c, c = UInt8.ofNat s.size := ⟨_, rfl⟩
  have h2 := h.alloc (.cells #[.int .u8 cb.toNat] U8)
  have hrd : RdC (w.alloc (.cells #[.int .u8 cb.toNat] U8)) (some ⟨w.heap.size, 0, none⟩) ([cb].map V8') := RdC.of_block h2.at_ _ (fun j u hu => by simpa [V8'] using hu)
  have hcv := sl_to_string (P := Tryz.prog) (src := BT) (dst := ST) (e := U8) (by kernel_rfl) (by kernel_rfl) (by kernel_rfl) (some ⟨w.heap.size, 0, none⟩) [cb] 1 1 rfl hrd
  have e1 : (s.size : Int) % 256 = (cb.toNat : Int) := by
    rw [hcb, UInt8.toNat_ofNat']; omega
  have e3 : ((⟨[cb].toArray⟩ : ByteArray) ++ s).data.toList = textB s := by
    rw [app_data]
    unfold textB
    rw [byN_one, ← hcb]
  have H2 := Lib.hid h2.drop
  have E3 := Lib.hid e3
  clear h h2 hrd e3 hcb
  go_enter Tryz.func62, Tryz.ntmps62
  go_wp2_with (with_reducible refine at_slot (k := some 7) ?_; refine wpList_conv_run (o := ⟨some 7, _, _, _, _, _⟩) hcv rfl rfl rfl ?_; clear hcv)
  go_ret
  exact ⟨_, rfl, E3.out, H2.out⟩
set_option maxRecDepth 100000 in
set_option maxHeartbeats 8000000 in
theorem xpage_any (v : Nv) (n : Nd) (w : World) (hb : n.bulk ≤ 4294967290) (hi : NdIn S v n) (h : Own E w (Hp.ro S :: L)) :
    Calls Tryz.prog 30 #[v.val n] w fun e w' => ∃ pv, e = .returned (.tuple #[pv, .int .i64 n.wrong]) ∧ Own E w' (Hp.page pv n.page :: Hp.ro S :: L) := by
  obtain ⟨a1, c1, a2, c2, a3, c3⟩ := v
  dsimp only [Nv.val]
  have h1 := (h.alloc (.cells #[.bool n.leaf, .slice a1 n.ks.length c1, .slice a2 n.vs.length c2, .slice a3 n.ls.length c3] NT)).alloc (.cells #[VI 0, VI 0, VI 0, .slice none 0 0, .string ⟨#[]⟩] PT)
  rw [alloc_size] at h1
  obtain ⟨g1, hg⟩ : ∃ g, g = w.heap.size := ⟨_, rfl⟩
  rw [← hg] at h1
  have hwr := xwrong_any ⟨a1, c1, a2, c2, a3, c3⟩ n _ (by omega) hi h1.f2
  obtain ⟨fs, hpt, hpr⟩ := pt_u
  by_cases h0 : n.wrong = 0
  · have hpg : n.page = ⟨if n.leaf then 1 else 2, 0, 0, n.ls, ⟨(n.ents n.ks.length).toArray⟩⟩ := if_pos h0
    obtain ⟨q1, q2, q3⟩ := Nd.right_len h0
    have hl3 : n.ls.length ≤ 4294967290 := by unfold Nd.bulk at hb; omega
    rw [h0] at hwr ⊢
    generalize n.page = pg at *
    have HPG := Lib.hid hpg
    have H1 := Lib.hid h1
    have Q2 := Lib.hid q2
    have Q3 := Lib.hid q3
    have hel := fun k => ents_len n k q2 (fun s hs hl => (q3 hl).2.2 s hs)
    have HEL := Lib.hid hel
    have Q1 := Lib.hid q1
    clear hel q1
    obtain ⟨r1, r2, r3, -, -, -, -, -, -⟩ := hi
    have R3 := Lib.hid r3
    clear h h1 hpg q2 q3 h0 hb r3
    generalize hents : n.ents = ents at *
    have hents0 : ents 0 = byN 1 n.ks.length := by rw [← hents]; simp [Nd.ents]
    have hentsS : ∀ k, ents (k + 1) = ents k ++ n.ent k := fun k => by rw [← hents]; exact n.ents_succ k
    have HE0 := Lib.hid hents0
    have HES := Lib.hid hentsS
    clear hents hents0 hentsS
    obtain ⟨cb, hcb⟩ : ∃ c, c = UInt8.ofNat n.ks.length := ⟨_, rfl⟩
    have e1 : (n.ks.length : Int) % 256 = (cb.toNat : Int) := by
      rw [hcb, UInt8.toNat_ofNat']; omega
    have HCB := Lib.hid hcb
    clear hcb
    go_enter Tryz.func30, Tryz.ntmps30
    go_wp2_with fail
    rw [← hg]
    clear hg
    refine hwr.mono ?_
    clear hwr H1
    rintro e w1 ⟨rfl, hw⟩
    have f1 : w1.cell? ⟨g1, 1, none⟩ = some (.slice a1 n.ks.length c1) := hw.f2.cell 1
    have h2 := hw.alloc (.cells #[.int .u8 cb.toNat] U8)
    have hrd : RdC (w1.alloc (.cells #[.int .u8 cb.toNat] U8)) (some ⟨w1.heap.size, 0, none⟩) ([cb].map V8') := RdC.of_block h2.at_ _ (fun j u hu => by simpa [V8'] using hu)
    have hcv := sl_to_string (P := Tryz.prog) (src := BT) (dst := ST) (e := U8) (by kernel_rfl) (by kernel_rfl) (by kernel_rfl) (some ⟨w1.heap.size, 0, none⟩) [cb] 1 1 rfl hrd
    have HW := Lib.hid h2.drop
    clear hw h2 hrd
    generalize hnk : n.ks.length = nk at *
    go_wp2_with (with_reducible refine at_slot (k := some 19) ?_; refine wpList_conv_run (o := ⟨some 19, _, _, _, _, _⟩) hcv rfl rfl rfl ?_; clear hcv)
    clear f1 e1
    go_loopw [5, 6] (fun sv i wr => ∃ (k : Nat) (b : ByteArray), k ≤ nk ∧ sv = .string b ∧ i = .int .i64 k ∧ b.data.toList = ents k ∧ Own E wr (Hp.ro S :: Hp.blk (g1 + 1) PT #[VI 0, VI 0, VI 0, .slice none 0 0, .string ⟨#[]⟩] :: Hp.blk g1 NT #[.bool n.leaf, .slice a1 nk c1, .slice a2 n.vs.length c2, .slice a3 n.ls.length c3] :: L)) (fun _ i _ => nk - (intOf i).toNat)
    case atStart => exact ⟨0, _, by omega, rfl, rfl, by rw [HE0.out, byN_one, ← HCB.out], HW.out⟩
    case round =>
      obtain ⟨k, b, hk, rfl, rfl, hbe, hw⟩ := hrel
      have HBE := Lib.hid hbe
      have hq1 := Q1.out
      have f1 : wr.cell? ⟨g1, 1, none⟩ = some (.slice a1 nk c1) := hw.f2.cell 1
      clear HW hbe
      by_cases hlt : k < nk
      · have hlti : (k : Int) < nk := by omega
        obtain ⟨x, b1, off, hx, rfl, hc⟩ := r1.get1 hlt
        have d1 := hw.rd (hc _ rfl)
        have hxg : n.ks.getD k ⟨#[]⟩ = x := by rw [List.getD_eq_getElem?_getD, hx]; rfl
        have HX := Lib.hid hxg
        have hsx : x.size ≤ 255 := Q2.out x (List.mem_of_getElem? hx)
        have HSX : Hid (x.size ≤ 1000000000) := Lib.hid (by omega)
        have hbs : b.size ≤ 1000000 := by
          have h1 := HEL.out k
          rw [← HBE.out] at h1
          have h2 : b.data.toList.length = b.size := rfl
          have h3 := Q1.out
          omega
        have HSX2 := Lib.hid hsx
        have HBS := Lib.hid hbs
        have HW := Lib.hid hw
        clear hx hxg hw hc
        go_wp2_with fail
        refine (xshort_any x _ HSX.out HW.out).mono ?_
        clear HW
        rintro e w4 ⟨bx, rfl, hbx, hw⟩
        have f0 : w4.cell? ⟨g1, 0, none⟩ = some (.bool n.leaf) := hw.f2.cell 0
        have f2 : w4.cell? ⟨g1, 2, none⟩ = some (.slice a2 n.vs.length c2) := hw.f2.cell 2
        have hxz : bx.size ≤ 1000 := by
          have h2 : bx.data.toList.length = bx.size := rfl
          have h3 : (textB x).length = x.size + 1 := textB_len x
          rw [hbx, h3] at h2
          have := HSX2.out
          omega
        have hbb2 : (b ++ bx).size ≤ 1001000 := by rw [ByteArray.size_append]; have := HBS.out; omega
        have hbb1 := HBS.out
        have HBX := Lib.hid hbx
        have HW4 := Lib.hid hw
        clear hw hbx f1 d1
        rcases (show n.leaf = false ∨ n.leaf = true by cases n.leaf <;> simp) with hl | hl
        · rw [hl] at f0
          have he : ents (k + 1) = (b ++ bx).data.toList := by rw [HES.out, Nd.ent, HX.out, hl, app_data, HBE.out, HBX.out]; simp
          have HE := Lib.hid he
          clear he hl
          go_wp2_with fail
          go_roundw
          case rel => exact ⟨k + 1, _, by omega, rfl, by go_num, HE.out.symm, HW4.out⟩
          case measure => simp [intOf]; omega
        · rw [hl] at f0
          obtain ⟨q4, -, q5⟩ := Q3.out hl
          have hlt2 : k < n.vs.length := by omega
          obtain ⟨y, b2, off2, hy, rfl, hd⟩ := r2.get1 hlt2
          have d2 := HW4.out.rd (hd _ rfl)
          have hyg : n.vs.getD k ⟨#[]⟩ = y := by rw [List.getD_eq_getElem?_getD, hy]; rfl
          have HY := Lib.hid hyg
          have HL := Lib.hid hl
          have hsy : y.size ≤ 255 := q5 y (List.mem_of_getElem? hy)
          have HSY : Hid (y.size ≤ 1000000000) := Lib.hid (by omega)
          have HSY2 := Lib.hid hsy
          have hlti : (k : Int) < n.vs.length := by omega
          clear hy hd q5 hl q4 hyg
          go_wp2_with fail
          refine (xshort_any y _ HSY.out HW4.out).mono ?_
          rintro e w5 ⟨bz, rfl, hbz, hw⟩
          have hyz : bz.size ≤ 1000 := by
            have h2 : bz.data.toList.length = bz.size := rfl
            have h3 : (textB y).length = y.size + 1 := textB_len y
            rw [hbz, h3] at h2
            have := HSY2.out
            omega
          have he : ents (k + 1) = ((b ++ bx) ++ bz).data.toList := by
            rw [HES.out, Nd.ent, HX.out, HL.out, HY.out, app_data, app_data, HBE.out, HBX.out, hbz]; simp
          have HE := Lib.hid he
          have HW5 := Lib.hid hw
          clear f0 f2 hw HW4 d2 he hbz
          go_wp2_with fail
          go_roundw
          case rel => exact ⟨k + 1, _, by omega, rfl, by go_num, HE.out.symm, HW5.out⟩
          case measure => simp [intOf]; omega
      · obtain rfl : nk = k := by omega
        have hlti : ¬ (nk : Int) < nk := by omega
        have hwo : Own E (wr.alloc (.cells #[VI 2, VI 0, VI 0, .slice none 0 0, .string b] PT)) (Hp.blk wr.heap.size PT #[VI 2, VI 0, VI 0, .slice none 0 0, .string b] :: Hp.ro S :: Hp.blk (g1 + 1) PT #[VI 0, VI 0, VI 0, .slice none 0 0, .string ⟨#[]⟩] :: Hp.blk g1 NT #[.bool n.leaf, .slice a1 nk c1, .slice a2 n.vs.length c2, .slice a3 n.ls.length c3] :: L) := hw.alloc _
        have hbb : b = ⟨(ents nk).toArray⟩ := bytes_ext _ _ HBE.out
        have HBB := Lib.hid hbb
        have HW := Lib.hid hwo
        clear hw hwo hbb hlt
        go_upto_region 12 with fail
        clear f1
        obtain ⟨gp, hgp⟩ : ∃ g, g = wr.heap.size := ⟨_, rfl⟩
        have h := HW.out
        rw [← hgp] at h ⊢
        clear hgp HW
        generalize World.alloc _ _ = wa at h ⊢
        have f0 : wa.cell? ⟨g1, 0, none⟩ = some (.bool n.leaf) := h.f3.cell 0
        have f3 : wa.cell? ⟨g1, 3, none⟩ = some (.slice a3 n.ls.length c3) := h.f3.cell 3
        obtain ⟨kd, hkd⟩ : ∃ kd : Int, kd = if n.leaf then 1 else 2 := ⟨_, rfl⟩
        have HKD := Lib.hid (show pg = ⟨kd, 0, 0, n.ls, b⟩ by rw [HPG.out, hkd, HBB.out])
        have hw : ∃ wb, (n.leaf = true ∧ wb = wa.setCell ⟨gp, 0, none⟩ (VI 1) ∨ n.leaf = false ∧ wb = wa) ∧ Own E wb (Hp.blk gp PT #[VI kd, VI 0, VI 0, .slice none 0 0, .string b] :: Hp.ro S :: Hp.blk (g1 + 1) PT #[VI 0, VI 0, VI 0, .slice none 0 0, .string ⟨#[]⟩] :: Hp.blk g1 NT #[.bool n.leaf, .slice a1 nk c1, .slice a2 n.vs.length c2, .slice a3 n.ls.length c3] :: L) := by
          cases hl : n.leaf with
          | true =>
            rw [hl] at hkd h
            subst hkd
            exact ⟨_, .inl ⟨rfl, rfl⟩, h.set 0 (VI 1)⟩
          | false =>
            rw [hl] at hkd h
            subst hkd
            exact ⟨_, .inr ⟨rfl, rfl⟩, h⟩
        obtain ⟨wb, hwb, h3⟩ := hw
        have c0 := h.cell 0
        have z0 := h.frozen 0
        have hrd := R3.out.rdC h3.f1
        obtain ⟨v6, wi, hap, h4⟩ := lst_append (P := Tryz.prog) (t := LIT) (ty := LIT) lit_u it_info (by rfl) (h3.emptyLst IT none) a3 n.ls.length c3 (n.ls.map VI) (List.length_map _) hrd (VI_one _) (by unfold maxLen; simp; omega) (by simp; omega)
        rw [List.nil_append] at h4
        obtain ⟨A6, q6, rfl, -⟩ := h4.lstSlice
        rw [List.length_map] at h4 hap
        have g3 := h3.cell 3
        have x3 := h4.f1.cell 3
        have y3 := h4.f1.frozen 3
        have h5 := h4.f1.set 3 (.slice A6 n.ls.length q6)
        have u0 := h5.cell 0
        have u1 := h5.cell 1
        have u2 := h5.cell 2
        have u3 := h5.cell 3
        have u4 := h5.cell 4
        have H := Lib.hid (show Own E _ (Hp.blk (g1 + 1) PT #[VI 0, VI 0, VI 0, .slice none 0 0, .string ⟨#[]⟩] :: Hp.blk gp PT #[VI kd, VI 0, VI 0, .slice A6 n.ls.length q6, .string b] :: Hp.ints (.slice A6 n.ls.length q6) n.ls :: Hp.ro S :: Hp.blk g1 NT #[.bool n.leaf, .slice a1 nk c1, .slice a2 n.vs.length c2, .slice a3 n.ls.length c3] :: L) from h5.f3)
        clear hkd hrd h h3 h4 h5
        rcases hwb with ⟨hl, rfl⟩ | ⟨hl, rfl⟩
        all_goals
          rw [hl] at f0
          clear hl
          go_wp2_with (first | (with_reducible refine at_slot (k := some 54) ?_; refine wpList_append_run (o := ⟨some 54, _, _, _, _, _⟩) hap rfl rfl rfl rfl ?_; clear hap) | (with_reducible refine at_slot (k := none) ?_; refine wpList_store_whole (o := ⟨none, _, _, _, _, _⟩) (cs := [VI 0, VI 0, VI 0, .slice none 0 0, .string ⟨#[]⟩]) (vs := [VI kd, VI 0, VI 0, .slice A6 n.ls.length q6, .string b]) H.out rfl (VI_all1 _ _ _ _ rfl _) (by kernel_rfl) rfl rfl rfl rfl ?_; intro w7 h))
          refine bodyPost_ret (results_ct rfl rfl h hpt hpr (by kernel_rfl)) rfl ?_
          refine ⟨_, rfl, ?_⟩
          rw [HKD.out]
          exact Own.toPage (p := ⟨kd, 0, 0, n.ls, b⟩) (h.drop.drop.f2.drop)
  · have hpg : n.page = Pg.nil := if_neg h0
    rw [hpg]
    have hw0 : ¬ n.wrong = 0 := h0
    clear hpg h0 h h1 hi hb
    generalize n.wrong = wn at *
    go_enter Tryz.func30, Tryz.ntmps30
    go_wp2_with fail
    rw [← hg]
    clear hg
    refine hwr.mono ?_
    clear hwr
    rintro e w1 ⟨rfl, hw⟩
    have HW := Lib.hid hw
    clear hw
    go_wp2_with (with_reducible refine at_slot (k := none) ?_; refine wpList_store_whole (o := ⟨none, _, _, _, _, _⟩) (cs := [VI 0, VI 0, VI 0, .slice none 0 0, .string ⟨#[]⟩]) (vs := [VI 0, VI 0, VI 0, .slice none 0 0, .string ⟨#[]⟩]) HW.out.f1 rfl (VI_all1 _ _ _ _ rfl _) (by kernel_rfl) rfl rfl rfl rfl ?_; intro w7 h7)
    refine bodyPost_ret (results_ct rfl rfl h7 hpt hpr (by kernel_rfl)) rfl ?_
    exact ⟨_, rfl, (h7.drop.f1.drop).nilPage⟩
end
end Go.Proofs.YtbclmmneiphcaaaGreatDoor
