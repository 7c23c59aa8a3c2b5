/- latchkeylaw14.RecordReads (printed by gen_reads2.py). -/
import Derived.Test.YtabibfabieghpaaGreatDoorPkz16
import Derived.Deep.Cut
namespace Go.Proofs.YtabibfabieghpaaGreatDoor
open Go.RowKit
theorem wpList_load_arrH {E : World} {L : List Hp} {ops : Array Oper} {rest : List Oper} {o : Oper} {a : Act} {w : World} {Q : Exit → Act → World → Prop} {g : Nat} {t : TypeId} {cs : Array Value} (h : Own E w (Hp.blk g t cs :: L)) (off : Nat) (vs : List Value) (hv : ∀ j u, vs[j]? = some u → cs[off + j]? = some u)
    {ty : TypeId} {d0 : TypeDesc} (hu : Tryz.prog.underlying ty = some d0) (hd0 : d0.isRow = true) (hi : (Tryz.prog.info? ty).map (·.size) = some vs.length) {x : Operand}
    (hgd : Region.wanted o (yielded ops a.tmps) = true) (ho : o.op = .load ty x) (hx : a.eval x = .pointer (some ⟨g, off, none⟩)) (hn : wpList Tryz.prog ops Q rest (a.put o.dst (.agg vs.toArray)) w) : wpList Tryz.prog ops Q (o :: rest) a w :=
  wpList_step fun _ hK => by rw [if_pos hgd]; exact wp_load_mid ty x ho g off hx vs d0 (h.range off vs hv) hu hd0 hi (hK _ _ hn)
section
variable {E : World} {L : List Hp}
theorem seen_lst14 {A : Option Addr} {n c : Nat} {xs : List ByteArray} {M : List Hp} (hs : ∀ w, Own E w L → Own E w (Hp.lst ST (.slice A n c) (xs.map Value.string) :: M)) : Seen E L A n xs := fun w h => by
  obtain ⟨a, ha, h2⟩ := (hs w h).opened
  exact (lst_rds ha).1.sub fun k o hk => h2.sub k o hk
set_option maxRecDepth 100000 in
set_option maxHeartbeats 16000000 in
theorem reads_any (k v s : ByteArray) (w : World) (hk : k.size ≤ 1000000000000000) (hv : v.size ≤ 1000000000000000) (hs : s.size ≤ 1000000000000000) (hG : Laid0 E L) (hM : Max0 E L) (h : Own E w L) :
    Calls Tryz.prog 9 #[.agg #[.string k, .string v], .string s] w fun ev w' => ev = .returned (.bool true) ∧ Own E w' L := by
  have H := Lib.hid (h.alloc (.cells #[.string k, .string v] ITT))
  obtain ⟨ddI, hdI, hrowI⟩ := itt_u
  have KA := Lib.hid (fun (wq : World) h => awake14_any (E := E) (L := Hp.blk w.heap.size ITT #[.string k, .string v] :: L) wq hG.cons h)
  have HG := Lib.hid hG
  have HM := Lib.hid hM
  obtain ⟨dclient, hdclient, hrowclient⟩ := clientt_u0
  have hIclient : (Tryz.prog.info? CLT).map (·.size) = some 11 := by kernel_rfl
  obtain ⟨qclient, eclient, nclient, aclient, bclient⟩ := client_both (E := E) k v hk hv
  have Nclient := Lib.hid nclient
  have Aclient := Lib.hid aclient
  have Bclient := Lib.hid bclient
  obtain ⟨dfam, hdfam, hrowfam⟩ := famt_u
  have hIfam : (Tryz.prog.info? FMT).map (·.size) = some 14 := by kernel_rfl
  obtain ⟨qfam, efam, nfam, afam, bfam⟩ := fam_both (E := E) k v hk hv
  have Nfam := Lib.hid nfam
  have Afam := Lib.hid afam
  have Bfam := Lib.hid bfam
  obtain ⟨dcode, hdcode, hrowcode⟩ := codet_u
  have hIcode : (Tryz.prog.info? CDT).map (·.size) = some 9 := by kernel_rfl
  obtain ⟨qcode, ecode, ncode, acode, bcode⟩ := code_both (E := E) k v hk hv
  have Ncode := Lib.hid ncode
  have Acode := Lib.hid acode
  have Bcode := Lib.hid bcode
  obtain ⟨dtok, hdtok, hrowtok⟩ := tokt_u
  have hItok : (Tryz.prog.info? TOKT).map (·.size) = some 9 := by kernel_rfl
  obtain ⟨Ytok, etok, ltok, otok, mtok, atok, btok⟩ := tok_both (E := E) k v hk hv
  have Ltok := Lib.hid ltok
  have Otok := Lib.hid otok
  have Mtok := Lib.hid mtok
  have Atok := Lib.hid atok
  have Btok := Lib.hid btok
  obtain ⟨dkey, hdkey, hrowkey⟩ := keyt_u
  have hIkey : (Tryz.prog.info? KEYT).map (·.size) = some 4 := by kernel_rfl
  obtain ⟨Ykey, ekey, lkey, okey, mkey, akey, bkey⟩ := key_both (E := E) k v hk hv
  have Lkey := Lib.hid lkey
  have Okey := Lib.hid okey
  have Mkey := Lib.hid mkey
  have Akey := Lib.hid akey
  have Bkey := Lib.hid bkey
  obtain ⟨devent, hdevent, hrowevent⟩ := evt_u
  have hIevent : (Tryz.prog.info? EVT).map (·.size) = some 5 := by kernel_rfl
  obtain ⟨Yevent, eevent, levent, oevent, mevent, aevent, bevent⟩ := event_both (E := E) k v hk hv
  have Levent := Lib.hid levent
  have Oevent := Lib.hid oevent
  have Mevent := Lib.hid mevent
  have Aevent := Lib.hid aevent
  have Bevent := Lib.hid bevent
  obtain ⟨dchain, hdchain, hrowchain⟩ := cht_u
  have hIchain : (Tryz.prog.info? CHT).map (·.size) = some 4 := by kernel_rfl
  obtain ⟨Ychain, echain, lchain, ochain, mchain, achain, bchain⟩ := chain_both (E := E) k v hk hv
  have Lchain := Lib.hid lchain
  have Ochain := Lib.hid ochain
  have Mchain := Lib.hid mchain
  have Achain := Lib.hid achain
  have Bchain := Lib.hid bchain
  obtain ⟨ai, bi, ci, di, ei, ax, bx⟩ := index_both (E := E) k v hk hv
  have AX := Lib.hid ax
  have BX := Lib.hid bx
  obtain ⟨an, bn, en, ao, bo⟩ := note_both (E := E) s hs
  have AN := Lib.hid ao
  have BN := Lib.hid bo
  clear h hG hM hk hv hs ax bx ao bo nclient aclient bclient nfam afam bfam ncode acode bcode ltok otok mtok atok btok lkey okey mkey akey bkey levent oevent mevent aevent bevent lchain ochain mchain achain bchain
  go_enter Tryz.func9, Tryz.ntmps9
  go_upto_region 2 with (first
    | ((with_reducible refine (KA.out _ H.out).mono ?_); clear KA H; rintro ev w1 ⟨rfl, h⟩; have H := Lib.hid h; clear h))
  go_cut [6, 7] from 53 (fun xc xe w' => ∃ (gclientA : Nat) (AclientA : Option Addr) (cclientA : Nat) (YclientA : List Value), xc = .pointer (some ⟨gclientA, 0, none⟩) ∧ xe = .int .i64 eclient ∧ YclientA = qclient.C AclientA cclientA ∧ YclientA.length = 11 ∧ Own E w' (Hp.blk w.heap.size ITT #[.string k, .string v] :: Hp.blk gclientA CLT YclientA.toArray :: Hp.lst ST (.slice AclientA qclient.xs.length cclientA) (qclient.xs.map Value.string) :: L))
  case first => as_aux_lemma =>
    go_wp2_with (first
      | ((with_reducible refine at_slot (k := some 55) ?_); refine wpList_load_arr (o := ⟨some 55, _, _, _, _, _⟩) H.out 0 [.string k, .string v] (fun jj u hu => by simpa using hu) hdI hrowI (by kernel_rfl) rfl rfl rfl ?_)
      | ((with_reducible refine (Aclient.out _ _ (HG.out.cons) (HM.out.cons) H.out).mono ?_); clear H; rintro ev w2 ⟨A, c, Y, hY, hl, h1, rfl, h⟩; have HY := Lib.hid hY; clear hY; have H := Lib.hid h; clear h)
      | ((with_reducible refine at_slot (k := none) ?_); refine wpList_store_whole (o := ⟨none, _, _, _, _, _⟩) (cs := [.string ⟨#[]⟩, .bool false, .bool false, .string ⟨#[]⟩, .string ⟨#[]⟩, .int .i64 0, .slice none 0 0, .int .i64 0, .int .i64 0, .int .i64 0, .int .i64 0]) (vs := Y) (H.out.alloc (.cells #[.string ⟨#[]⟩, .bool false, .bool false, .string ⟨#[]⟩, .string ⟨#[]⟩, .int .i64 0, .slice none 0 0, .int .i64 0, .int .i64 0, .int .i64 0, .int .i64 0] CLT)) hl.symm h1 (hIclient.trans (congrArg some hl.symm)) rfl rfl rfl rfl ?_; clear H; intro w3 h; have H := Lib.hid h; clear h))
    go_meet
    case rel => exact ⟨_, A, c, Y, rfl, rfl, HY.out, hl, H.out.f2⟩
  case rest => as_aux_lemma =>
    clear H
    obtain ⟨gclientA, AclientA, cclientA, YclientA, rfl, rfl, hYclientA, hlclientA, hw⟩ := hcut
    have H := Lib.hid hw
    have HYclientA := Lib.hid hYclientA
    clear hw hYclientA
    go_upto_region 3 with fail
    go_cut [8, 9] from 53 (fun xc xe w' => ∃ (gclientB : Nat) (AclientB : Option Addr) (cclientB : Nat) (YclientB : List Value), xc = .pointer (some ⟨gclientB, 0, none⟩) ∧ xe = .int .i64 eclient ∧ YclientB = qclient.C AclientB cclientB ∧ YclientB.length = 11 ∧ Own E w' (Hp.blk w.heap.size ITT #[.string k, .string v] :: Hp.blk gclientB CLT YclientB.toArray :: Hp.lst ST (.slice AclientB qclient.xs.length cclientB) (qclient.xs.map Value.string) :: Hp.blk gclientA CLT YclientA.toArray :: Hp.lst ST (.slice AclientA qclient.xs.length cclientA) (qclient.xs.map Value.string) :: L))
    case first => as_aux_lemma =>
      go_wp2_with (first
        | ((with_reducible refine at_slot (k := some 60) ?_); refine wpList_load_arr (o := ⟨some 60, _, _, _, _, _⟩) H.out 0 [.string k, .string v] (fun jj u hu => by simpa using hu) hdI hrowI (by kernel_rfl) rfl rfl rfl ?_)
        | ((with_reducible refine (Bclient.out _ _ (HG.out.cons.cons.cons) (HM.out.cons.cons.cons) H.out).mono ?_); clear H; rintro ev w2 ⟨A, c, Y, hY, hl, h1, rfl, h⟩; have HY := Lib.hid hY; clear hY; have H := Lib.hid h; clear h)
        | ((with_reducible refine at_slot (k := none) ?_); refine wpList_store_whole (o := ⟨none, _, _, _, _, _⟩) (cs := [.string ⟨#[]⟩, .bool false, .bool false, .string ⟨#[]⟩, .string ⟨#[]⟩, .int .i64 0, .slice none 0 0, .int .i64 0, .int .i64 0, .int .i64 0, .int .i64 0]) (vs := Y) (H.out.alloc (.cells #[.string ⟨#[]⟩, .bool false, .bool false, .string ⟨#[]⟩, .string ⟨#[]⟩, .int .i64 0, .slice none 0 0, .int .i64 0, .int .i64 0, .int .i64 0, .int .i64 0] CLT)) hl.symm h1 (hIclient.trans (congrArg some hl.symm)) rfl rfl rfl rfl ?_; clear H; intro w3 h; have H := Lib.hid h; clear h))
      go_meet
      case rel => exact ⟨_, A, c, Y, rfl, rfl, HY.out, hl, H.out.f2⟩
    case rest => as_aux_lemma =>
      clear H
      obtain ⟨gclientB, AclientB, cclientB, YclientB, rfl, rfl, hYclientB, hlclientB, hw⟩ := hcut
      have H := Lib.hid hw
      have HYclientB := Lib.hid hYclientB
      clear hw hYclientB
      go_upto_region 4 with fail
      go_cut [10, 11] from 53 (fun xc xe w' => ∃ (gfamA : Nat) (AfamA : Option Addr) (cfamA : Nat) (YfamA : List Value), xc = .pointer (some ⟨gfamA, 0, none⟩) ∧ xe = .int .i64 efam ∧ YfamA = qfam.C AfamA cfamA ∧ YfamA.length = 14 ∧ Own E w' (Hp.blk w.heap.size ITT #[.string k, .string v] :: Hp.blk gfamA FMT YfamA.toArray :: Hp.lst ST (.slice AfamA qfam.xs.length cfamA) (qfam.xs.map Value.string) :: Hp.blk gclientB CLT YclientB.toArray :: Hp.lst ST (.slice AclientB qclient.xs.length cclientB) (qclient.xs.map Value.string) :: Hp.blk gclientA CLT YclientA.toArray :: Hp.lst ST (.slice AclientA qclient.xs.length cclientA) (qclient.xs.map Value.string) :: L))
      case first => as_aux_lemma =>
        go_wp2_with (first
          | ((with_reducible refine at_slot (k := some 65) ?_); refine wpList_load_arr (o := ⟨some 65, _, _, _, _, _⟩) H.out 0 [.string k, .string v] (fun jj u hu => by simpa using hu) hdI hrowI (by kernel_rfl) rfl rfl rfl ?_)
          | ((with_reducible refine (Afam.out _ _ (HG.out.cons.cons.cons.cons.cons) (HM.out.cons.cons.cons.cons.cons) H.out).mono ?_); clear H; rintro ev w2 ⟨A, c, Y, hY, hl, h1, rfl, h⟩; have HY := Lib.hid hY; clear hY; have H := Lib.hid h; clear h)
          | ((with_reducible refine at_slot (k := none) ?_); refine wpList_store_whole (o := ⟨none, _, _, _, _, _⟩) (cs := [.int .i64 0, .string ⟨#[]⟩, .string ⟨#[]⟩, .slice none 0 0, .int .i64 0, .int .i64 0, .int .i64 0, .int .i64 0, .int .i64 0, .int .i64 0, .int .i64 0, .int .i64 0, .int .i64 0, .int .i64 0]) (vs := Y) (H.out.alloc (.cells #[.int .i64 0, .string ⟨#[]⟩, .string ⟨#[]⟩, .slice none 0 0, .int .i64 0, .int .i64 0, .int .i64 0, .int .i64 0, .int .i64 0, .int .i64 0, .int .i64 0, .int .i64 0, .int .i64 0, .int .i64 0] FMT)) hl.symm h1 (hIfam.trans (congrArg some hl.symm)) rfl rfl rfl rfl ?_; clear H; intro w3 h; have H := Lib.hid h; clear h))
        go_meet
        case rel => exact ⟨_, A, c, Y, rfl, rfl, HY.out, hl, H.out.f2⟩
      case rest => as_aux_lemma =>
        clear H
        obtain ⟨gfamA, AfamA, cfamA, YfamA, rfl, rfl, hYfamA, hlfamA, hw⟩ := hcut
        have H := Lib.hid hw
        have HYfamA := Lib.hid hYfamA
        clear hw hYfamA
        go_upto_region 5 with fail
        go_cut [12, 13] from 53 (fun xc xe w' => ∃ (gfamB : Nat) (AfamB : Option Addr) (cfamB : Nat) (YfamB : List Value), xc = .pointer (some ⟨gfamB, 0, none⟩) ∧ xe = .int .i64 efam ∧ YfamB = qfam.C AfamB cfamB ∧ YfamB.length = 14 ∧ Own E w' (Hp.blk w.heap.size ITT #[.string k, .string v] :: Hp.blk gfamB FMT YfamB.toArray :: Hp.lst ST (.slice AfamB qfam.xs.length cfamB) (qfam.xs.map Value.string) :: Hp.blk gfamA FMT YfamA.toArray :: Hp.lst ST (.slice AfamA qfam.xs.length cfamA) (qfam.xs.map Value.string) :: Hp.blk gclientB CLT YclientB.toArray :: Hp.lst ST (.slice AclientB qclient.xs.length cclientB) (qclient.xs.map Value.string) :: Hp.blk gclientA CLT YclientA.toArray :: Hp.lst ST (.slice AclientA qclient.xs.length cclientA) (qclient.xs.map Value.string) :: L))
        case first => as_aux_lemma =>
          go_wp2_with (first
            | ((with_reducible refine at_slot (k := some 70) ?_); refine wpList_load_arr (o := ⟨some 70, _, _, _, _, _⟩) H.out 0 [.string k, .string v] (fun jj u hu => by simpa using hu) hdI hrowI (by kernel_rfl) rfl rfl rfl ?_)
            | ((with_reducible refine (Bfam.out _ _ (HG.out.cons.cons.cons.cons.cons.cons.cons) (HM.out.cons.cons.cons.cons.cons.cons.cons) H.out).mono ?_); clear H; rintro ev w2 ⟨A, c, Y, hY, hl, h1, rfl, h⟩; have HY := Lib.hid hY; clear hY; have H := Lib.hid h; clear h)
            | ((with_reducible refine at_slot (k := none) ?_); refine wpList_store_whole (o := ⟨none, _, _, _, _, _⟩) (cs := [.int .i64 0, .string ⟨#[]⟩, .string ⟨#[]⟩, .slice none 0 0, .int .i64 0, .int .i64 0, .int .i64 0, .int .i64 0, .int .i64 0, .int .i64 0, .int .i64 0, .int .i64 0, .int .i64 0, .int .i64 0]) (vs := Y) (H.out.alloc (.cells #[.int .i64 0, .string ⟨#[]⟩, .string ⟨#[]⟩, .slice none 0 0, .int .i64 0, .int .i64 0, .int .i64 0, .int .i64 0, .int .i64 0, .int .i64 0, .int .i64 0, .int .i64 0, .int .i64 0, .int .i64 0] FMT)) hl.symm h1 (hIfam.trans (congrArg some hl.symm)) rfl rfl rfl rfl ?_; clear H; intro w3 h; have H := Lib.hid h; clear h))
          go_meet
          case rel => exact ⟨_, A, c, Y, rfl, rfl, HY.out, hl, H.out.f2⟩
        case rest => as_aux_lemma =>
          clear H
          obtain ⟨gfamB, AfamB, cfamB, YfamB, rfl, rfl, hYfamB, hlfamB, hw⟩ := hcut
          have H := Lib.hid hw
          have HYfamB := Lib.hid hYfamB
          clear hw hYfamB
          go_upto_region 6 with fail
          go_cut [14, 15] from 53 (fun xc xe w' => ∃ (gcodeA : Nat) (AcodeA : Option Addr) (ccodeA : Nat) (YcodeA : List Value), xc = .pointer (some ⟨gcodeA, 0, none⟩) ∧ xe = .int .i64 ecode ∧ YcodeA = qcode.C AcodeA ccodeA ∧ YcodeA.length = 9 ∧ Own E w' (Hp.blk w.heap.size ITT #[.string k, .string v] :: Hp.blk gcodeA CDT YcodeA.toArray :: Hp.lst ST (.slice AcodeA qcode.xs.length ccodeA) (qcode.xs.map Value.string) :: Hp.blk gfamB FMT YfamB.toArray :: Hp.lst ST (.slice AfamB qfam.xs.length cfamB) (qfam.xs.map Value.string) :: Hp.blk gfamA FMT YfamA.toArray :: Hp.lst ST (.slice AfamA qfam.xs.length cfamA) (qfam.xs.map Value.string) :: Hp.blk gclientB CLT YclientB.toArray :: Hp.lst ST (.slice AclientB qclient.xs.length cclientB) (qclient.xs.map Value.string) :: Hp.blk gclientA CLT YclientA.toArray :: Hp.lst ST (.slice AclientA qclient.xs.length cclientA) (qclient.xs.map Value.string) :: L))
          case first => as_aux_lemma =>
            go_wp2_with (first
              | ((with_reducible refine at_slot (k := some 75) ?_); refine wpList_load_arr (o := ⟨some 75, _, _, _, _, _⟩) H.out 0 [.string k, .string v] (fun jj u hu => by simpa using hu) hdI hrowI (by kernel_rfl) rfl rfl rfl ?_)
              | ((with_reducible refine (Acode.out _ _ (HG.out.cons.cons.cons.cons.cons.cons.cons.cons.cons) (HM.out.cons.cons.cons.cons.cons.cons.cons.cons.cons) H.out).mono ?_); clear H; rintro ev w2 ⟨A, c, Y, hY, hl, h1, rfl, h⟩; have HY := Lib.hid hY; clear hY; have H := Lib.hid h; clear h)
              | ((with_reducible refine at_slot (k := none) ?_); refine wpList_store_whole (o := ⟨none, _, _, _, _, _⟩) (cs := [.int .i64 0, .string ⟨#[]⟩, .string ⟨#[]⟩, .slice none 0 0, .string ⟨#[]⟩, .string ⟨#[]⟩, .int .i64 0, .int .i64 0, .int .i64 0]) (vs := Y) (H.out.alloc (.cells #[.int .i64 0, .string ⟨#[]⟩, .string ⟨#[]⟩, .slice none 0 0, .string ⟨#[]⟩, .string ⟨#[]⟩, .int .i64 0, .int .i64 0, .int .i64 0] CDT)) hl.symm h1 (hIcode.trans (congrArg some hl.symm)) rfl rfl rfl rfl ?_; clear H; intro w3 h; have H := Lib.hid h; clear h))
            go_meet
            case rel => exact ⟨_, A, c, Y, rfl, rfl, HY.out, hl, H.out.f2⟩
          case rest => as_aux_lemma =>
            clear H
            obtain ⟨gcodeA, AcodeA, ccodeA, YcodeA, rfl, rfl, hYcodeA, hlcodeA, hw⟩ := hcut
            have H := Lib.hid hw
            have HYcodeA := Lib.hid hYcodeA
            clear hw hYcodeA
            go_upto_region 7 with fail
            go_cut [16, 17] from 53 (fun xc xe w' => ∃ (gcodeB : Nat) (AcodeB : Option Addr) (ccodeB : Nat) (YcodeB : List Value), xc = .pointer (some ⟨gcodeB, 0, none⟩) ∧ xe = .int .i64 ecode ∧ YcodeB = qcode.C AcodeB ccodeB ∧ YcodeB.length = 9 ∧ Own E w' (Hp.blk w.heap.size ITT #[.string k, .string v] :: Hp.blk gcodeB CDT YcodeB.toArray :: Hp.lst ST (.slice AcodeB qcode.xs.length ccodeB) (qcode.xs.map Value.string) :: Hp.blk gcodeA CDT YcodeA.toArray :: Hp.lst ST (.slice AcodeA qcode.xs.length ccodeA) (qcode.xs.map Value.string) :: Hp.blk gfamB FMT YfamB.toArray :: Hp.lst ST (.slice AfamB qfam.xs.length cfamB) (qfam.xs.map Value.string) :: Hp.blk gfamA FMT YfamA.toArray :: Hp.lst ST (.slice AfamA qfam.xs.length cfamA) (qfam.xs.map Value.string) :: Hp.blk gclientB CLT YclientB.toArray :: Hp.lst ST (.slice AclientB qclient.xs.length cclientB) (qclient.xs.map Value.string) :: Hp.blk gclientA CLT YclientA.toArray :: Hp.lst ST (.slice AclientA qclient.xs.length cclientA) (qclient.xs.map Value.string) :: L))
            case first => as_aux_lemma =>
              go_wp2_with (first
                | ((with_reducible refine at_slot (k := some 80) ?_); refine wpList_load_arr (o := ⟨some 80, _, _, _, _, _⟩) H.out 0 [.string k, .string v] (fun jj u hu => by simpa using hu) hdI hrowI (by kernel_rfl) rfl rfl rfl ?_)
                | ((with_reducible refine (Bcode.out _ _ (HG.out.cons.cons.cons.cons.cons.cons.cons.cons.cons.cons.cons) (HM.out.cons.cons.cons.cons.cons.cons.cons.cons.cons.cons.cons) H.out).mono ?_); clear H; rintro ev w2 ⟨A, c, Y, hY, hl, h1, rfl, h⟩; have HY := Lib.hid hY; clear hY; have H := Lib.hid h; clear h)
                | ((with_reducible refine at_slot (k := none) ?_); refine wpList_store_whole (o := ⟨none, _, _, _, _, _⟩) (cs := [.int .i64 0, .string ⟨#[]⟩, .string ⟨#[]⟩, .slice none 0 0, .string ⟨#[]⟩, .string ⟨#[]⟩, .int .i64 0, .int .i64 0, .int .i64 0]) (vs := Y) (H.out.alloc (.cells #[.int .i64 0, .string ⟨#[]⟩, .string ⟨#[]⟩, .slice none 0 0, .string ⟨#[]⟩, .string ⟨#[]⟩, .int .i64 0, .int .i64 0, .int .i64 0] CDT)) hl.symm h1 (hIcode.trans (congrArg some hl.symm)) rfl rfl rfl rfl ?_; clear H; intro w3 h; have H := Lib.hid h; clear h))
              go_meet
              case rel => exact ⟨_, A, c, Y, rfl, rfl, HY.out, hl, H.out.f2⟩
            case rest => as_aux_lemma =>
              clear H
              obtain ⟨gcodeB, AcodeB, ccodeB, YcodeB, rfl, rfl, hYcodeB, hlcodeB, hw⟩ := hcut
              have H := Lib.hid hw
              have HYcodeB := Lib.hid hYcodeB
              clear hw hYcodeB
              go_upto_region 8 with fail
              go_cut [18] from 53 (fun x w' => x = .bool true ∧ Own E w' (Hp.blk w.heap.size ITT #[.string k, .string v] :: Hp.blk gcodeB CDT YcodeB.toArray :: Hp.lst ST (.slice AcodeB qcode.xs.length ccodeB) (qcode.xs.map Value.string) :: Hp.blk gcodeA CDT YcodeA.toArray :: Hp.lst ST (.slice AcodeA qcode.xs.length ccodeA) (qcode.xs.map Value.string) :: Hp.blk gfamB FMT YfamB.toArray :: Hp.lst ST (.slice AfamB qfam.xs.length cfamB) (qfam.xs.map Value.string) :: Hp.blk gfamA FMT YfamA.toArray :: Hp.lst ST (.slice AfamA qfam.xs.length cfamA) (qfam.xs.map Value.string) :: L))
              case first => as_aux_lemma =>
                have H2 : Hid (Own E _ (Hp.blk gclientA CLT YclientA.toArray :: Hp.blk gclientB CLT YclientB.toArray :: Hp.lst ST (.slice AclientA qclient.xs.length cclientA) (qclient.xs.map Value.string) :: Hp.lst ST (.slice AclientB qclient.xs.length cclientB) (qclient.xs.map Value.string) :: Hp.blk w.heap.size ITT #[.string k, .string v] :: Hp.blk gcodeB CDT YcodeB.toArray :: Hp.lst ST (.slice AcodeB qcode.xs.length ccodeB) (qcode.xs.map Value.string) :: Hp.blk gcodeA CDT YcodeA.toArray :: Hp.lst ST (.slice AcodeA qcode.xs.length ccodeA) (qcode.xs.map Value.string) :: Hp.blk gfamB FMT YfamB.toArray :: Hp.lst ST (.slice AfamB qfam.xs.length cfamB) (qfam.xs.map Value.string) :: Hp.blk gfamA FMT YfamA.toArray :: Hp.lst ST (.slice AfamA qfam.xs.length cfamA) (qfam.xs.map Value.string) :: L)) := Lib.hid (H.out.ac (by simp only [Hp.all] <;> ac_rfl))
                clear H
                go_wp2_with (first
                  | ((with_reducible refine at_slot (k := some 84) ?_); refine wpList_load_arr (o := ⟨some 84, _, _, _, _, _⟩) H2.out 0 YclientA (fun jj u hu => by simpa using hu) hdclient hrowclient (hIclient.trans (congrArg some hlclientA.symm)) rfl rfl rfl ?_)
                  | ((with_reducible refine at_slot (k := some 85) ?_); refine wpList_load_arr (o := ⟨some 85, _, _, _, _, _⟩) H2.out.f1 0 YclientB (fun jj u hu => by simpa using hu) hdclient hrowclient (hIclient.trans (congrArg some hlclientB.symm)) rfl rfl rfl ?_)
                  | ((with_reducible refine (client_alike qclient Nclient.out _ _ _ _ _ _ _ _ HYclientA.out HYclientB.out (seen_lst14 fun _ h => h.f2) (seen_lst14 fun _ h => h.f3) H2.out).mono ?_); clear H2; rintro ev w2 ⟨rfl, h⟩; have H2 := Lib.hid h; clear h))
                go_meet
                case rel => exact ⟨rfl, H2.out.drop.drop.drop.drop⟩
              case rest => as_aux_lemma =>
                clear H
                obtain ⟨rfl, hw⟩ := hcut
                have H := Lib.hid hw
                clear hw
                go_upto_region 9 with fail
                go_cut [19] from 53 (fun x w' => x = .bool true ∧ Own E w' (Hp.blk w.heap.size ITT #[.string k, .string v] :: Hp.blk gcodeB CDT YcodeB.toArray :: Hp.lst ST (.slice AcodeB qcode.xs.length ccodeB) (qcode.xs.map Value.string) :: Hp.blk gcodeA CDT YcodeA.toArray :: Hp.lst ST (.slice AcodeA qcode.xs.length ccodeA) (qcode.xs.map Value.string) :: L))
                case first => as_aux_lemma =>
                  have H2 : Hid (Own E _ (Hp.blk gfamA FMT YfamA.toArray :: Hp.blk gfamB FMT YfamB.toArray :: Hp.lst ST (.slice AfamA qfam.xs.length cfamA) (qfam.xs.map Value.string) :: Hp.lst ST (.slice AfamB qfam.xs.length cfamB) (qfam.xs.map Value.string) :: Hp.blk w.heap.size ITT #[.string k, .string v] :: Hp.blk gcodeB CDT YcodeB.toArray :: Hp.lst ST (.slice AcodeB qcode.xs.length ccodeB) (qcode.xs.map Value.string) :: Hp.blk gcodeA CDT YcodeA.toArray :: Hp.lst ST (.slice AcodeA qcode.xs.length ccodeA) (qcode.xs.map Value.string) :: L)) := Lib.hid (H.out.ac (by simp only [Hp.all] <;> ac_rfl))
                  clear H
                  go_wp2_with (first
                    | ((with_reducible refine at_slot (k := some 87) ?_); refine wpList_load_arr (o := ⟨some 87, _, _, _, _, _⟩) H2.out 0 YfamA (fun jj u hu => by simpa using hu) hdfam hrowfam (hIfam.trans (congrArg some hlfamA.symm)) rfl rfl rfl ?_)
                    | ((with_reducible refine at_slot (k := some 88) ?_); refine wpList_load_arr (o := ⟨some 88, _, _, _, _, _⟩) H2.out.f1 0 YfamB (fun jj u hu => by simpa using hu) hdfam hrowfam (hIfam.trans (congrArg some hlfamB.symm)) rfl rfl rfl ?_)
                    | ((with_reducible refine (fam_alike qfam Nfam.out _ _ _ _ _ _ _ _ HYfamA.out HYfamB.out (seen_lst14 fun _ h => h.f2) (seen_lst14 fun _ h => h.f3) H2.out).mono ?_); clear H2; rintro ev w2 ⟨rfl, h⟩; have H2 := Lib.hid h; clear h))
                  go_meet
                  case rel => exact ⟨rfl, H2.out.drop.drop.drop.drop⟩
                case rest => as_aux_lemma =>
                  clear H
                  obtain ⟨rfl, hw⟩ := hcut
                  have H := Lib.hid hw
                  clear hw
                  go_upto_region 10 with fail
                  go_cut [20] from 53 (fun x w' => x = .bool true ∧ Own E w' (Hp.blk w.heap.size ITT #[.string k, .string v] :: L))
                  case first => as_aux_lemma =>
                    have H2 : Hid (Own E _ (Hp.blk gcodeA CDT YcodeA.toArray :: Hp.blk gcodeB CDT YcodeB.toArray :: Hp.lst ST (.slice AcodeA qcode.xs.length ccodeA) (qcode.xs.map Value.string) :: Hp.lst ST (.slice AcodeB qcode.xs.length ccodeB) (qcode.xs.map Value.string) :: Hp.blk w.heap.size ITT #[.string k, .string v] :: L)) := Lib.hid (H.out.ac (by simp only [Hp.all] <;> ac_rfl))
                    clear H
                    go_wp2_with (first
                      | ((with_reducible refine at_slot (k := some 90) ?_); refine wpList_load_arr (o := ⟨some 90, _, _, _, _, _⟩) H2.out 0 YcodeA (fun jj u hu => by simpa using hu) hdcode hrowcode (hIcode.trans (congrArg some hlcodeA.symm)) rfl rfl rfl ?_)
                      | ((with_reducible refine at_slot (k := some 91) ?_); refine wpList_load_arr (o := ⟨some 91, _, _, _, _, _⟩) H2.out.f1 0 YcodeB (fun jj u hu => by simpa using hu) hdcode hrowcode (hIcode.trans (congrArg some hlcodeB.symm)) rfl rfl rfl ?_)
                      | ((with_reducible refine (code_alike qcode Ncode.out _ _ _ _ _ _ _ _ HYcodeA.out HYcodeB.out (seen_lst14 fun _ h => h.f2) (seen_lst14 fun _ h => h.f3) H2.out).mono ?_); clear H2; rintro ev w2 ⟨rfl, h⟩; have H2 := Lib.hid h; clear h))
                    go_meet
                    case rel => exact ⟨rfl, H2.out.drop.drop.drop.drop⟩
                  case rest => as_aux_lemma =>
                    clear H
                    obtain ⟨rfl, hw⟩ := hcut
                    have H := Lib.hid hw
                    clear hw
                    go_upto_region 13 with fail
                    go_cut [21, 22] from 53 (fun xc xe w' => ∃ gtokA : Nat, xc = .pointer (some ⟨gtokA, 0, none⟩) ∧ xe = .int .i64 etok ∧ Own E w' (Hp.blk w.heap.size ITT #[.string k, .string v] :: Hp.blk gtokA TOKT Ytok.toArray :: L))
                    case first => as_aux_lemma =>
                      go_wp2_with (first
                        | ((with_reducible refine at_slot (k := some 123) ?_); refine wpList_load_arr (o := ⟨some 123, _, _, _, _, _⟩) H.out 0 [.string k, .string v] (fun jj u hu => by simpa using hu) hdI hrowI (by kernel_rfl) rfl rfl rfl ?_)
                        | ((with_reducible refine (Atok.out _ _ (HG.out.cons) H.out).mono ?_); clear H; rintro ev w2 ⟨rfl, h⟩; have H := Lib.hid h; clear h)
                        | ((with_reducible refine at_slot (k := none) ?_); refine wpList_store_whole (o := ⟨none, _, _, _, _, _⟩) (cs := [.int .i64 0, .int .i64 0, .int .i64 0, .string ⟨#[]⟩, .int .i64 0, .bool false, .int .i64 0, .int .i64 0, .string ⟨#[]⟩]) (vs := Ytok) (H.out.alloc (.cells #[.int .i64 0, .int .i64 0, .int .i64 0, .string ⟨#[]⟩, .int .i64 0, .bool false, .int .i64 0, .int .i64 0, .string ⟨#[]⟩] TOKT)) Ltok.out.symm Otok.out (hItok.trans (congrArg some Ltok.out.symm)) rfl rfl rfl rfl ?_; clear H; intro w3 h; have H := Lib.hid h; clear h))
                      go_meet
                      case rel => exact ⟨_, rfl, rfl, H.out.f1⟩
                    case rest => as_aux_lemma =>
                      clear H
                      obtain ⟨gtokA, rfl, rfl, hw⟩ := hcut
                      have H := Lib.hid hw
                      clear hw
                      go_upto_region 14 with fail
                      go_cut [23, 24] from 53 (fun xc xe w' => ∃ gtokB : Nat, xc = .pointer (some ⟨gtokB, 0, none⟩) ∧ xe = .int .i64 etok ∧ Own E w' (Hp.blk w.heap.size ITT #[.string k, .string v] :: Hp.blk gtokB TOKT Ytok.toArray :: Hp.blk gtokA TOKT Ytok.toArray :: L))
                      case first => as_aux_lemma =>
                        go_wp2_with (first
                          | ((with_reducible refine at_slot (k := some 128) ?_); refine wpList_load_arr (o := ⟨some 128, _, _, _, _, _⟩) H.out 0 [.string k, .string v] (fun jj u hu => by simpa using hu) hdI hrowI (by kernel_rfl) rfl rfl rfl ?_)
                          | ((with_reducible refine (Btok.out _ _ (HG.out.cons.cons) H.out).mono ?_); clear H; rintro ev w2 ⟨rfl, h⟩; have H := Lib.hid h; clear h)
                          | ((with_reducible refine at_slot (k := none) ?_); refine wpList_store_whole (o := ⟨none, _, _, _, _, _⟩) (cs := [.int .i64 0, .int .i64 0, .int .i64 0, .string ⟨#[]⟩, .int .i64 0, .bool false, .int .i64 0, .int .i64 0, .string ⟨#[]⟩]) (vs := Ytok) (H.out.alloc (.cells #[.int .i64 0, .int .i64 0, .int .i64 0, .string ⟨#[]⟩, .int .i64 0, .bool false, .int .i64 0, .int .i64 0, .string ⟨#[]⟩] TOKT)) Ltok.out.symm Otok.out (hItok.trans (congrArg some Ltok.out.symm)) rfl rfl rfl rfl ?_; clear H; intro w3 h; have H := Lib.hid h; clear h))
                        go_meet
                        case rel => exact ⟨_, rfl, rfl, H.out.f1⟩
                      case rest => as_aux_lemma =>
                        clear H
                        obtain ⟨gtokB, rfl, rfl, hw⟩ := hcut
                        have H := Lib.hid hw
                        clear hw
                        go_upto_region 15 with fail
                        go_cut [25, 26] from 53 (fun xc xe w' => ∃ gkeyA : Nat, xc = .pointer (some ⟨gkeyA, 0, none⟩) ∧ xe = .int .i64 ekey ∧ Own E w' (Hp.blk w.heap.size ITT #[.string k, .string v] :: Hp.blk gkeyA KEYT Ykey.toArray :: Hp.blk gtokB TOKT Ytok.toArray :: Hp.blk gtokA TOKT Ytok.toArray :: L))
                        case first => as_aux_lemma =>
                          go_wp2_with (first
                            | ((with_reducible refine at_slot (k := some 133) ?_); refine wpList_load_arr (o := ⟨some 133, _, _, _, _, _⟩) H.out 0 [.string k, .string v] (fun jj u hu => by simpa using hu) hdI hrowI (by kernel_rfl) rfl rfl rfl ?_)
                            | ((with_reducible refine (Akey.out _ _ (HG.out.cons.cons.cons) H.out).mono ?_); clear H; rintro ev w2 ⟨rfl, h⟩; have H := Lib.hid h; clear h)
                            | ((with_reducible refine at_slot (k := none) ?_); refine wpList_store_whole (o := ⟨none, _, _, _, _, _⟩) (cs := [.int .i64 0, .string ⟨#[]⟩, .int .i64 0, .int .i64 0]) (vs := Ykey) (H.out.alloc (.cells #[.int .i64 0, .string ⟨#[]⟩, .int .i64 0, .int .i64 0] KEYT)) Lkey.out.symm Okey.out (hIkey.trans (congrArg some Lkey.out.symm)) rfl rfl rfl rfl ?_; clear H; intro w3 h; have H := Lib.hid h; clear h))
                          go_meet
                          case rel => exact ⟨_, rfl, rfl, H.out.f1⟩
                        case rest => as_aux_lemma =>
                          clear H
                          obtain ⟨gkeyA, rfl, rfl, hw⟩ := hcut
                          have H := Lib.hid hw
                          clear hw
                          go_upto_region 16 with fail
                          go_cut [27, 28] from 53 (fun xc xe w' => ∃ gkeyB : Nat, xc = .pointer (some ⟨gkeyB, 0, none⟩) ∧ xe = .int .i64 ekey ∧ Own E w' (Hp.blk w.heap.size ITT #[.string k, .string v] :: Hp.blk gkeyB KEYT Ykey.toArray :: Hp.blk gkeyA KEYT Ykey.toArray :: Hp.blk gtokB TOKT Ytok.toArray :: Hp.blk gtokA TOKT Ytok.toArray :: L))
                          case first => as_aux_lemma =>
                            go_wp2_with (first
                              | ((with_reducible refine at_slot (k := some 138) ?_); refine wpList_load_arr (o := ⟨some 138, _, _, _, _, _⟩) H.out 0 [.string k, .string v] (fun jj u hu => by simpa using hu) hdI hrowI (by kernel_rfl) rfl rfl rfl ?_)
                              | ((with_reducible refine (Bkey.out _ _ (HG.out.cons.cons.cons.cons) H.out).mono ?_); clear H; rintro ev w2 ⟨rfl, h⟩; have H := Lib.hid h; clear h)
                              | ((with_reducible refine at_slot (k := none) ?_); refine wpList_store_whole (o := ⟨none, _, _, _, _, _⟩) (cs := [.int .i64 0, .string ⟨#[]⟩, .int .i64 0, .int .i64 0]) (vs := Ykey) (H.out.alloc (.cells #[.int .i64 0, .string ⟨#[]⟩, .int .i64 0, .int .i64 0] KEYT)) Lkey.out.symm Okey.out (hIkey.trans (congrArg some Lkey.out.symm)) rfl rfl rfl rfl ?_; clear H; intro w3 h; have H := Lib.hid h; clear h))
                            go_meet
                            case rel => exact ⟨_, rfl, rfl, H.out.f1⟩
                          case rest => as_aux_lemma =>
                            clear H
                            obtain ⟨gkeyB, rfl, rfl, hw⟩ := hcut
                            have H := Lib.hid hw
                            clear hw
                            go_upto_region 17 with fail
                            go_cut [29, 30] from 53 (fun xc xe w' => ∃ geventA : Nat, xc = .pointer (some ⟨geventA, 0, none⟩) ∧ xe = .int .i64 eevent ∧ Own E w' (Hp.blk w.heap.size ITT #[.string k, .string v] :: Hp.blk geventA EVT Yevent.toArray :: Hp.blk gkeyB KEYT Ykey.toArray :: Hp.blk gkeyA KEYT Ykey.toArray :: Hp.blk gtokB TOKT Ytok.toArray :: Hp.blk gtokA TOKT Ytok.toArray :: L))
                            case first => as_aux_lemma =>
                              go_wp2_with (first
                                | ((with_reducible refine at_slot (k := some 143) ?_); refine wpList_load_arr (o := ⟨some 143, _, _, _, _, _⟩) H.out 0 [.string k, .string v] (fun jj u hu => by simpa using hu) hdI hrowI (by kernel_rfl) rfl rfl rfl ?_)
                                | ((with_reducible refine (Aevent.out _ _ (HG.out.cons.cons.cons.cons.cons) H.out).mono ?_); clear H; rintro ev w2 ⟨rfl, h⟩; have H := Lib.hid h; clear h)
                                | ((with_reducible refine at_slot (k := none) ?_); refine wpList_store_whole (o := ⟨none, _, _, _, _, _⟩) (cs := [.int .i64 0, .int .i64 0, .int .i64 0, .int .i64 0, .string ⟨#[]⟩]) (vs := Yevent) (H.out.alloc (.cells #[.int .i64 0, .int .i64 0, .int .i64 0, .int .i64 0, .string ⟨#[]⟩] EVT)) Levent.out.symm Oevent.out (hIevent.trans (congrArg some Levent.out.symm)) rfl rfl rfl rfl ?_; clear H; intro w3 h; have H := Lib.hid h; clear h))
                              go_meet
                              case rel => exact ⟨_, rfl, rfl, H.out.f1⟩
                            case rest => as_aux_lemma =>
                              clear H
                              obtain ⟨geventA, rfl, rfl, hw⟩ := hcut
                              have H := Lib.hid hw
                              clear hw
                              go_upto_region 18 with fail
                              go_cut [31, 32] from 53 (fun xc xe w' => ∃ geventB : Nat, xc = .pointer (some ⟨geventB, 0, none⟩) ∧ xe = .int .i64 eevent ∧ Own E w' (Hp.blk w.heap.size ITT #[.string k, .string v] :: Hp.blk geventB EVT Yevent.toArray :: Hp.blk geventA EVT Yevent.toArray :: Hp.blk gkeyB KEYT Ykey.toArray :: Hp.blk gkeyA KEYT Ykey.toArray :: Hp.blk gtokB TOKT Ytok.toArray :: Hp.blk gtokA TOKT Ytok.toArray :: L))
                              case first => as_aux_lemma =>
                                go_wp2_with (first
                                  | ((with_reducible refine at_slot (k := some 148) ?_); refine wpList_load_arr (o := ⟨some 148, _, _, _, _, _⟩) H.out 0 [.string k, .string v] (fun jj u hu => by simpa using hu) hdI hrowI (by kernel_rfl) rfl rfl rfl ?_)
                                  | ((with_reducible refine (Bevent.out _ _ (HG.out.cons.cons.cons.cons.cons.cons) H.out).mono ?_); clear H; rintro ev w2 ⟨rfl, h⟩; have H := Lib.hid h; clear h)
                                  | ((with_reducible refine at_slot (k := none) ?_); refine wpList_store_whole (o := ⟨none, _, _, _, _, _⟩) (cs := [.int .i64 0, .int .i64 0, .int .i64 0, .int .i64 0, .string ⟨#[]⟩]) (vs := Yevent) (H.out.alloc (.cells #[.int .i64 0, .int .i64 0, .int .i64 0, .int .i64 0, .string ⟨#[]⟩] EVT)) Levent.out.symm Oevent.out (hIevent.trans (congrArg some Levent.out.symm)) rfl rfl rfl rfl ?_; clear H; intro w3 h; have H := Lib.hid h; clear h))
                                go_meet
                                case rel => exact ⟨_, rfl, rfl, H.out.f1⟩
                              case rest => as_aux_lemma =>
                                clear H
                                obtain ⟨geventB, rfl, rfl, hw⟩ := hcut
                                have H := Lib.hid hw
                                clear hw
                                go_upto_region 19 with fail
                                go_cut [33, 34] from 53 (fun xc xe w' => ∃ gchainA : Nat, xc = .pointer (some ⟨gchainA, 0, none⟩) ∧ xe = .int .i64 echain ∧ Own E w' (Hp.blk w.heap.size ITT #[.string k, .string v] :: Hp.blk gchainA CHT Ychain.toArray :: Hp.blk geventB EVT Yevent.toArray :: Hp.blk geventA EVT Yevent.toArray :: Hp.blk gkeyB KEYT Ykey.toArray :: Hp.blk gkeyA KEYT Ykey.toArray :: Hp.blk gtokB TOKT Ytok.toArray :: Hp.blk gtokA TOKT Ytok.toArray :: L))
                                case first => as_aux_lemma =>
                                  go_wp2_with (first
                                    | ((with_reducible refine at_slot (k := some 153) ?_); refine wpList_load_arr (o := ⟨some 153, _, _, _, _, _⟩) H.out 0 [.string k, .string v] (fun jj u hu => by simpa using hu) hdI hrowI (by kernel_rfl) rfl rfl rfl ?_)
                                    | ((with_reducible refine (Achain.out _ _ (HG.out.cons.cons.cons.cons.cons.cons.cons) H.out).mono ?_); clear H; rintro ev w2 ⟨rfl, h⟩; have H := Lib.hid h; clear h)
                                    | ((with_reducible refine at_slot (k := none) ?_); refine wpList_store_whole (o := ⟨none, _, _, _, _, _⟩) (cs := [.int .i64 0, .int .i64 0, .string ⟨#[]⟩, .string ⟨#[]⟩]) (vs := Ychain) (H.out.alloc (.cells #[.int .i64 0, .int .i64 0, .string ⟨#[]⟩, .string ⟨#[]⟩] CHT)) Lchain.out.symm Ochain.out (hIchain.trans (congrArg some Lchain.out.symm)) rfl rfl rfl rfl ?_; clear H; intro w3 h; have H := Lib.hid h; clear h))
                                  go_meet
                                  case rel => exact ⟨_, rfl, rfl, H.out.f1⟩
                                case rest => as_aux_lemma =>
                                  clear H
                                  obtain ⟨gchainA, rfl, rfl, hw⟩ := hcut
                                  have H := Lib.hid hw
                                  clear hw
                                  go_upto_region 20 with fail
                                  go_cut [35, 36] from 53 (fun xc xe w' => ∃ gchainB : Nat, xc = .pointer (some ⟨gchainB, 0, none⟩) ∧ xe = .int .i64 echain ∧ Own E w' (Hp.blk w.heap.size ITT #[.string k, .string v] :: Hp.blk gchainB CHT Ychain.toArray :: Hp.blk gchainA CHT Ychain.toArray :: Hp.blk geventB EVT Yevent.toArray :: Hp.blk geventA EVT Yevent.toArray :: Hp.blk gkeyB KEYT Ykey.toArray :: Hp.blk gkeyA KEYT Ykey.toArray :: Hp.blk gtokB TOKT Ytok.toArray :: Hp.blk gtokA TOKT Ytok.toArray :: L))
                                  case first => as_aux_lemma =>
                                    go_wp2_with (first
                                      | ((with_reducible refine at_slot (k := some 158) ?_); refine wpList_load_arr (o := ⟨some 158, _, _, _, _, _⟩) H.out 0 [.string k, .string v] (fun jj u hu => by simpa using hu) hdI hrowI (by kernel_rfl) rfl rfl rfl ?_)
                                      | ((with_reducible refine (Bchain.out _ _ (HG.out.cons.cons.cons.cons.cons.cons.cons.cons) H.out).mono ?_); clear H; rintro ev w2 ⟨rfl, h⟩; have H := Lib.hid h; clear h)
                                      | ((with_reducible refine at_slot (k := none) ?_); refine wpList_store_whole (o := ⟨none, _, _, _, _, _⟩) (cs := [.int .i64 0, .int .i64 0, .string ⟨#[]⟩, .string ⟨#[]⟩]) (vs := Ychain) (H.out.alloc (.cells #[.int .i64 0, .int .i64 0, .string ⟨#[]⟩, .string ⟨#[]⟩] CHT)) Lchain.out.symm Ochain.out (hIchain.trans (congrArg some Lchain.out.symm)) rfl rfl rfl rfl ?_; clear H; intro w3 h; have H := Lib.hid h; clear h))
                                    go_meet
                                    case rel => exact ⟨_, rfl, rfl, H.out.f1⟩
                                  case rest => as_aux_lemma =>
                                    clear H
                                    obtain ⟨gchainB, rfl, rfl, hw⟩ := hcut
                                    have H := Lib.hid hw
                                    clear hw
                                    go_upto_region 21 with fail
                                    go_cut [199] from 53 (fun x w' => x = .bool false ∧ Own E w' (Hp.blk w.heap.size ITT #[.string k, .string v] :: L))
                                    case first => as_aux_lemma =>
                                      have mtok := Mtok.out
                                      have mkey := Mkey.out
                                      have mevent := Mevent.out
                                      have mchain := Mchain.out
                                      go_wp2_with (first
                                        | ((with_reducible refine at_slot (k := some 162) ?_); refine wpList_load_arrH (o := ⟨some 162, _, _, _, _, _⟩) H.out.f8 0 Ytok (fun jj u hu => by simpa using hu) hdtok hrowtok (hItok.trans (congrArg some Ltok.out.symm)) (by first | rfl | kernel_rfl) rfl rfl ?_)
                                        | ((with_reducible refine at_slot (k := some 163) ?_); refine wpList_load_arrH (o := ⟨some 163, _, _, _, _, _⟩) H.out.f7 0 Ytok (fun jj u hu => by simpa using hu) hdtok hrowtok (hItok.trans (congrArg some Ltok.out.symm)) (by first | rfl | kernel_rfl) rfl rfl ?_)
                                        | ((with_reducible refine at_slot (k := some 166) ?_); refine wpList_load_arrH (o := ⟨some 166, _, _, _, _, _⟩) H.out.f6 0 Ykey (fun jj u hu => by simpa using hu) hdkey hrowkey (hIkey.trans (congrArg some Lkey.out.symm)) (by first | rfl | kernel_rfl) rfl rfl ?_)
                                        | ((with_reducible refine at_slot (k := some 167) ?_); refine wpList_load_arrH (o := ⟨some 167, _, _, _, _, _⟩) H.out.f5 0 Ykey (fun jj u hu => by simpa using hu) hdkey hrowkey (hIkey.trans (congrArg some Lkey.out.symm)) (by first | rfl | kernel_rfl) rfl rfl ?_)
                                        | ((with_reducible refine at_slot (k := some 171) ?_); refine wpList_load_arrH (o := ⟨some 171, _, _, _, _, _⟩) H.out.f4 0 Yevent (fun jj u hu => by simpa using hu) hdevent hrowevent (hIevent.trans (congrArg some Levent.out.symm)) (by first | rfl | kernel_rfl) rfl rfl ?_)
                                        | ((with_reducible refine at_slot (k := some 172) ?_); refine wpList_load_arrH (o := ⟨some 172, _, _, _, _, _⟩) H.out.f3 0 Yevent (fun jj u hu => by simpa using hu) hdevent hrowevent (hIevent.trans (congrArg some Levent.out.symm)) (by first | rfl | kernel_rfl) rfl rfl ?_)
                                        | ((with_reducible refine at_slot (k := some 176) ?_); refine wpList_load_arrH (o := ⟨some 176, _, _, _, _, _⟩) H.out.f2 0 Ychain (fun jj u hu => by simpa using hu) hdchain hrowchain (hIchain.trans (congrArg some Lchain.out.symm)) (by first | rfl | kernel_rfl) rfl rfl ?_)
                                        | ((with_reducible refine at_slot (k := some 177) ?_); refine wpList_load_arrH (o := ⟨some 177, _, _, _, _, _⟩) H.out.f1 0 Ychain (fun jj u hu => by simpa using hu) hdchain hrowchain (hIchain.trans (congrArg some Lchain.out.symm)) (by first | rfl | kernel_rfl) rfl rfl ?_))
                                      go_meet
                                      case rel => exact ⟨rfl, H.out.f1.drop.f1.drop.f1.drop.f1.drop.f1.drop.f1.drop.f1.drop.f1.drop⟩
                                    case rest => as_aux_lemma =>
                                      clear H
                                      obtain ⟨rfl, hw⟩ := hcut
                                      have H := Lib.hid hw
                                      clear hw
                                      go_wp2_with (first
                                        | ((with_reducible refine at_slot (k := some 201) ?_); refine wpList_load_arr (o := ⟨some 201, _, _, _, _, _⟩) H.out 0 [.string k, .string v] (fun jj u hu => by simpa using hu) hdI hrowI (by kernel_rfl) rfl rfl rfl ?_)
                                        | ((with_reducible refine at_slot (k := some 209) ?_); refine wpList_load_arr (o := ⟨some 209, _, _, _, _, _⟩) H.out 0 [.string k, .string v] (fun jj u hu => by simpa using hu) hdI hrowI (by kernel_rfl) rfl rfl rfl ?_)
                                        | ((with_reducible refine (AX.out _ _ HG.out.cons H.out).mono ?_); clear AX H; rintro ev w2 ⟨rfl, h⟩; have H := Lib.hid h; clear h)
                                        | ((with_reducible refine (BX.out _ _ H.out).mono ?_); clear BX H; rintro ev w2 ⟨rfl, h⟩; have H := Lib.hid h; clear h)
                                        | ((with_reducible refine (AN.out _ _ HG.out.cons H.out).mono ?_); clear AN H; rintro ev w2 ⟨rfl, h⟩; have H := Lib.hid h; clear h)
                                        | ((with_reducible refine (BN.out _ _ H.out).mono ?_); clear BN H; rintro ev w2 ⟨rfl, h⟩; have H := Lib.hid h; clear h))
                                      go_ret
                                      exact ⟨rfl, H.out.drop⟩
end
end Go.Proofs.YtabibfabieghpaaGreatDoor
