/- record.ParseClient (printed by gen_pal.py): a pair that is a right client's is read as that, every other one is refused. -/
import Derived.Test.YtabibfabieghpaaGreatDoorPkz0
import Derived.Test.YtabibfabieghpaaGreatDoorPkClientP
namespace Go.Proofs.YtabibfabieghpaaGreatDoor
open Go.RowKit
structure ClientV where
  nm : ByteArray
  pu : Bool
  sw : Bool
  dh : ByteArray
  od : ByteArray
  ut : Int
  xs : List ByteArray
  ii : Int
  ab : Int
  gr : Int
  li : Int
def ClientV.R (f : ClientV) : ByteArray × ByteArray × Int := clientR f.nm f.pu f.sw f.dh f.od f.ut f.xs f.ii f.ab f.gr f.li
def ClientV.C (f : ClientV) (A : Option Addr) (c : Nat) : List Value := clientC f.nm f.pu f.sw f.dh f.od f.ut A f.xs.length c f.ii f.ab f.gr f.li
def clientKs : List Fk := [.num 1, .text, .text, .num 6, .text, .num 6, .num 6, .num 6, .num 6]
theorem rest_one (t : UInt8) (nm : ByteArray) : restB ((⟨#[t]⟩ : ByteArray) ++ nm) 1 = nm := by
  have h1 : (restB ((⟨#[t]⟩ : ByteArray) ++ nm) 1).data.toList = nm.data.toList := by
    rw [rest_data, app_data]
    rfl
  rw [bytes_ext _ _ h1, Array.toArray_toList]
/-- What the flags say. -/
theorem flags_back (a b : Bool) : (bits .and .i64 (flagV a 1 + flagV b 2) 1 != 0) = a ∧ (bits .and .i64 (flagV a 1 + flagV b 2) 2 != 0) = b := by
  cases a <;> cases b <;> exact ⟨by kernel_rfl, by kernel_rfl⟩
theorem client_reads {f : ClientV} {k v : ByteArray} (h : f.R = (k, v, 0)) : clientMay f.nm f.pu f.sw f.dh f.od f.ut f.xs f.ii f.ab f.gr f.li ∧ k = clientK f.nm ∧ readV clientKs v = ([.n (flagV f.pu 1 + flagV f.sw 2), .s f.dh, .s f.od, .n f.ut, .s (scTxt f.xs), .n f.ii, .n f.ab, .n f.gr, .n f.li], true) ∧ (parseV (scTxt f.xs)).1 = f.xs := by
  unfold ClientV.R clientR at h
  by_cases hm : clientMay f.nm f.pu f.sw f.dh f.od f.ut f.xs f.ii f.ab f.gr f.li
  · rw [if_pos hm] at h
    injection h with h1 h2
    injection h2 with h2 h3
    have hr := client_range hm
    refine ⟨hm, h1.symm, ?_, ?_⟩
    · rw [← h2]
      have hh := readV_printed (client_fits 0 0 0 hr)
      rw [client_printed 0 0 0 hr] at hh
      exact hh
    · rw [parse_print hm.2.1]
  · rw [if_neg hm] at h
    injection h with h1 h2
    injection h2 with h2 h3
    cases h3
theorem clientK_inj {a b : ByteArray} (h : clientK a = clientK b) : a = b := by
  have := congrArg (fun x => restB x 1) h
  unfold clientK at this
  rwa [rest_one, rest_one] at this
theorem client_inj {f g : ClientV} {k v : ByteArray} (h : f.R = (k, v, 0)) (h2 : g.R = (k, v, 0)) : f = g := by
  obtain ⟨-, a1, a2, a3⟩ := client_reads h
  obtain ⟨-, b1, b2, b3⟩ := client_reads h2
  rw [a1] at b1
  rw [a2] at b2
  obtain ⟨fnm, fpu, fsw, fdh, fod, fut, fxs, fii, fab, fgr, fli⟩ := f
  obtain ⟨gnm, gpu, gsw, gdh, god, gut, gxs, gii, gab, ggr, gli⟩ := g
  simp only [Prod.mk.injEq, List.cons.injEq, Fv.s.injEq, Fv.n.injEq, and_true] at a3 b1 b2 b3
  obtain rfl := clientK_inj b1
  obtain ⟨ef, rfl, rfl, rfl, es, rfl, rfl, rfl, rfl⟩ := b2
  obtain ⟨rfl, rfl⟩ := flags_inj ef
  rw [es, b3] at a3
  obtain rfl := a3
  rfl
theorem client_one (nm : ByteArray) (pu : Bool) (sw : Bool) (dh : ByteArray) (od : ByteArray) (ut : Int) (A : Option Addr) (n c : Nat) (ii : Int) (ab : Int) (gr : Int) (li : Int) : ∀ v ∈ clientC nm pu sw dh od ut A n c ii ab gr li, v.oneCell' = true := fun v hv => by
  simp only [clientC, List.mem_cons, List.not_mem_nil, or_false] at hv
  rcases hv with rfl | rfl | rfl | rfl | rfl | rfl | rfl | rfl | rfl | rfl | rfl <;> rfl
/-- Its fields as they are read. -/
def clientP (tb fl fb : Nat) (vs : List Value) : Hp := Hp.sep (Hp.sep (Hp.blk tb CLT #[.string ⟨#[]⟩, .bool false, .bool false, vs.getD 1 undef, vs.getD 2 undef, vs.getD 3 undef, .slice none 0 0, vs.getD 5 undef, vs.getD 6 undef, vs.getD 7 undef, vs.getD 8 undef]) (Hp.blk fl 3 #[vs.getD 0 undef])) (Hp.blk fb 9 #[vs.getD 4 undef])
theorem places_client {E : World} (tb fl fb : Nat) : Places E (clientP tb fl fb) [⟨fl, 0, none⟩, ⟨tb, 3, none⟩, ⟨tb, 4, none⟩, ⟨tb, 5, none⟩, ⟨fb, 0, none⟩, ⟨tb, 7, none⟩, ⟨tb, 8, none⟩, ⟨tb, 9, none⟩, ⟨tb, 10, none⟩] where
  set w vs i ad v M hl hi h := by
    obtain ⟨a0, a1, a2, a3, a4, a5, a6, a7, a8, rfl⟩ : ∃ a0 a1 a2 a3 a4 a5 a6 a7 a8, vs = [a0, a1, a2, a3, a4, a5, a6, a7, a8] := by
      match vs, hl with
      | [a0, a1, a2, a3, a4, a5, a6, a7, a8], _ => exact ⟨a0, a1, a2, a3, a4, a5, a6, a7, a8, rfl⟩
    have h := Own.sep2.1 (Own.sep2.1 h)
    match i, hi with
    | 0, hi =>
      obtain rfl : (⟨fl, 0, none⟩ : Addr) = ad := by simpa using hi
      obtain ⟨h1, h2, h3⟩ := h.f1.put1 0 v (show (0 : Nat) < 1 by omega)
      exact ⟨h1, h2, Own.sep2.2 (Own.sep2.2 h3.f1)⟩
    | 1, hi =>
      obtain rfl : (⟨tb, 3, none⟩ : Addr) = ad := by simpa using hi
      obtain ⟨h1, h2, h3⟩ := h.put1 3 v (show (3 : Nat) < 11 by omega)
      exact ⟨h1, h2, Own.sep2.2 (Own.sep2.2 h3)⟩
    | 2, hi =>
      obtain rfl : (⟨tb, 4, none⟩ : Addr) = ad := by simpa using hi
      obtain ⟨h1, h2, h3⟩ := h.put1 4 v (show (4 : Nat) < 11 by omega)
      exact ⟨h1, h2, Own.sep2.2 (Own.sep2.2 h3)⟩
    | 3, hi =>
      obtain rfl : (⟨tb, 5, none⟩ : Addr) = ad := by simpa using hi
      obtain ⟨h1, h2, h3⟩ := h.put1 5 v (show (5 : Nat) < 11 by omega)
      exact ⟨h1, h2, Own.sep2.2 (Own.sep2.2 h3)⟩
    | 4, hi =>
      obtain rfl : (⟨fb, 0, none⟩ : Addr) = ad := by simpa using hi
      obtain ⟨h1, h2, h3⟩ := h.f2.put1 0 v (show (0 : Nat) < 1 by omega)
      exact ⟨h1, h2, Own.sep2.2 (Own.sep2.2 h3.f2.f2)⟩
    | 5, hi =>
      obtain rfl : (⟨tb, 7, none⟩ : Addr) = ad := by simpa using hi
      obtain ⟨h1, h2, h3⟩ := h.put1 7 v (show (7 : Nat) < 11 by omega)
      exact ⟨h1, h2, Own.sep2.2 (Own.sep2.2 h3)⟩
    | 6, hi =>
      obtain rfl : (⟨tb, 8, none⟩ : Addr) = ad := by simpa using hi
      obtain ⟨h1, h2, h3⟩ := h.put1 8 v (show (8 : Nat) < 11 by omega)
      exact ⟨h1, h2, Own.sep2.2 (Own.sep2.2 h3)⟩
    | 7, hi =>
      obtain rfl : (⟨tb, 9, none⟩ : Addr) = ad := by simpa using hi
      obtain ⟨h1, h2, h3⟩ := h.put1 9 v (show (9 : Nat) < 11 by omega)
      exact ⟨h1, h2, Own.sep2.2 (Own.sep2.2 h3)⟩
    | 8, hi =>
      obtain rfl : (⟨tb, 10, none⟩ : Addr) = ad := by simpa using hi
      obtain ⟨h1, h2, h3⟩ := h.put1 10 v (show (10 : Nat) < 11 by omega)
      exact ⟨h1, h2, Own.sep2.2 (Own.sep2.2 h3)⟩
section
variable {E : World} {L : List Hp}
set_option maxRecDepth 20000 in
set_option maxHeartbeats 16000000 in
theorem parseclient_any (k v : ByteArray) (w : World) (hk : k.size ≤ 1000000000000000) (hv : v.size ≤ 1000000000000000) (hG : Laid0 E L) (hM : Max0 E L) (h : Own E w L) :
    Calls Tryz.prog 42 #[.agg #[.string k, .string v]] w fun ev w' => (∃ (f : ClientV) (A : Option Addr) (c : Nat), ev = .returned (.tuple #[.agg (f.C A c).toArray, .int .i64 0]) ∧ f.R = (k, v, 0) ∧ Own E w' (Hp.lst ST (.slice A f.xs.length c) (f.xs.map Value.string) :: L)) ∨
      (ev = .returned (.tuple #[.agg (clientC noB false false noB noB 0 none 0 0 0 0 0 0).toArray, .int .i64 141]) ∧ (∀ f : ClientV, f.R ≠ (k, v, 0)) ∧ Own E w' L) := by
  have h1 := h.alloc (.cells #[.string k, .string v] ITT)
  have h2 := h1.alloc (.cells (clientC ⟨#[]⟩ false false ⟨#[]⟩ ⟨#[]⟩ 0 none 0 0 0 0 0 0).toArray CLT)
  have h3 := h2.alloc (.cells (clientC ⟨#[]⟩ false false ⟨#[]⟩ ⟨#[]⟩ 0 none 0 0 0 0 0 0).toArray CLT)
  have h4 := h3.alloc (.cells #[.int .i64 0] 3)
  have h5 := h4.alloc (.cells #[.string ⟨#[]⟩] 9)
  rw [alloc_size, alloc_size, alloc_size, alloc_size] at h5
  have H3 := Lib.hid (show Own E _ (Hp.blk (w.heap.size + 1 + 1) CLT (clientC ⟨#[]⟩ false false ⟨#[]⟩ ⟨#[]⟩ 0 none 0 0 0 0 0 0).toArray :: Hp.blk (w.heap.size + 1 + 1 + 1) 3 #[.int .i64 0] :: Hp.blk (w.heap.size + 1 + 1 + 1 + 1) 9 #[.string ⟨#[]⟩] :: Hp.blk (w.heap.size + 1) CLT (clientC ⟨#[]⟩ false false ⟨#[]⟩ ⟨#[]⟩ 0 none 0 0 0 0 0 0).toArray :: Hp.blk w.heap.size ITT #[.string k, .string v] :: L) from h5.f1.f2)
  obtain ⟨dd, hd, hrow⟩ := clientt_u0
  have HC0 : Hid (∀ w' : World, Own E w' (Hp.blk (w.heap.size + 1 + 1) CLT (clientC ⟨#[]⟩ false false ⟨#[]⟩ ⟨#[]⟩ 0 none 0 0 0 0 0 0).toArray :: Hp.blk (w.heap.size + 1 + 1 + 1) 3 #[.int .i64 0] :: Hp.blk (w.heap.size + 1 + 1 + 1 + 1) 9 #[.string ⟨#[]⟩] :: Hp.blk (w.heap.size + 1) CLT (clientC ⟨#[]⟩ false false ⟨#[]⟩ ⟨#[]⟩ 0 none 0 0 0 0 0 0).toArray :: Hp.blk w.heap.size ITT #[.string k, .string v] :: L) → w'.cell? ⟨w.heap.size, 0, none⟩ = some (.string k) ∧ w'.cell? ⟨w.heap.size, 1, none⟩ = some (.string v)) := Lib.hid fun w' h => ⟨(h.f4.cell 0).trans rfl, (h.f4.cell 1).trans rfl⟩
  clear h h1 h2 h3 h4 h5
  by_cases hk0 : k.size = 0
  · have zk : k.toList.isEmpty = true := by rw [isEmpty_size, decide_eq_true hk0]
    have HN : Hid (∀ f : ClientV, f.R ≠ (k, v, 0)) := Lib.hid fun f hf => by
      have := (client_reads hf).2.1
      rw [this] at hk0
      unfold clientK at hk0
      rw [ByteArray.size_append] at hk0
      have e1 : (⟨#[99]⟩ : ByteArray).size = 1 := rfl
      omega
    clear hG hM hk hv hk0
    go_enter Tryz.func42, Tryz.ntmps42
    go_wp2_with fail
    have h := H3.out.drew
    clear H3
    refine wp_region_text [1] (fun w' => w'.cell? ⟨w.heap.size, 0, none⟩ = some (.string k)) (by kernel_rfl) ?_ (fun hS => ?_)
    · exact (HC0.out _ h).1
    refine gp 0 (some 9) ?_
    refine gl 1 (some 10) ?_
    refine gp 2 (some 11) ?_
    refine gp 3 (some 12) ?_
    refine gs 4 (some 13) ?_
    refine gs 5 (some 14) ?_
    refine gs 6 (some 15) ?_
    refine gs 7 (some 16) ?_
    refine gs 8 (some 17) ?_
    refine gp 9 (some 18) ?_
    refine wpAnyG_done (by kernel_rfl) ?_ _
    refine NoPanic.normal ?_
    have H3 := Lib.hid h.f3
    clear h
    go_wp2_with (with_reducible refine at_slot (k := none) ?_; refine wpList_store_whole (o := ⟨none, _, _, _, _, _⟩) (cs := (clientC ⟨#[]⟩ false false ⟨#[]⟩ ⟨#[]⟩ 0 none 0 0 0 0 0 0)) (vs := (clientC ⟨#[]⟩ false false ⟨#[]⟩ ⟨#[]⟩ 0 none 0 0 0 0 0 0)) H3.out rfl (client_one _ _ _ _ _ _ _ _ _ _ _ _ _) (by kernel_rfl) rfl rfl rfl rfl ?_; clear H3; intro w7 h; have H8 := Lib.hid h; clear h)
    refine bodyPost_ret (results_ct rfl rfl H8.out hd hrow (by kernel_rfl)) rfl ?_
    exact .inr ⟨rfl, HN.out, H8.out.drop.drop.drop.drop.drop⟩
  · have zk : k.toList.isEmpty = false := by rw [isEmpty_size, decide_eq_false hk0]
    have i1 : (1 : Int) ≤ k.size := by omega
    obtain ⟨fg, dh, od, ut, sT, ii, ab, gr, li, ok, hr⟩ : ∃ fg dh od ut sT ii ab gr li ok, readV clientKs v = ([.n fg, .s dh, .s od, .n ut, .s sT, .n ii, .n ab, .n gr, .n li], ok) := ⟨_, _, _, _, _, _, _, _, _, _, rfl⟩
    have hT : sT.size ≤ 4000000000 := by
      have h9 : ((readV clientKs v).1.getD 4 (.n 0)).str.size ≤ 255 := rText_size _ _
      rw [hr] at h9
      have h8 : sT.size ≤ 255 := h9
      omega
    obtain ⟨xs, hxs⟩ : ∃ xs, xs = (parseV sT).1 := ⟨_, rfl⟩
    obtain ⟨n, hn⟩ : ∃ n, n = xs.length := ⟨_, rfl⟩
    obtain ⟨pu, hpu⟩ : ∃ pu, (bits .and .i64 fg 1 != 0) = pu := ⟨_, rfl⟩
    obtain ⟨sw, hsw⟩ : ∃ sw, (bits .and .i64 fg 2 != 0) = sw := ⟨_, rfl⟩
    have HNO : Hid (∀ f : ClientV, f.R = (k, v, 0) → ok = true ∧ (clientR (restB k 1) pu sw dh od ut xs ii ab gr li) = (k, v, 0)) := Lib.hid fun f hf => by
      obtain ⟨-, e1, e2, e3⟩ := client_reads hf
      rw [hr] at e2
      obtain ⟨qnm, qpu, qsw, qdh, qod, qut, qxs, qii, qab, qgr, qli⟩ := f
      simp only [Prod.mk.injEq, List.cons.injEq, Fv.s.injEq, Fv.n.injEq, and_true] at e1 e2 e3
      obtain ⟨⟨ef, rfl, rfl, rfl, rfl, rfl, rfl, rfl, rfl⟩, rfl⟩ := e2
      rw [ef, (flags_back _ _).1] at hpu
      rw [ef, (flags_back _ _).2] at hsw
      subst hpu hsw
      refine ⟨rfl, ?_⟩
      have e4 : restB k 1 = qnm := by rw [e1]; exact rest_one 99 qnm
      rw [hxs, e3, e4]
      exact hf
    have HSZ : Hid (xs.length ≤ 8) := Lib.hid (by
      rw [hxs]
      rcases parse_right sT with ⟨-, h⟩ | ⟨h, -⟩
      · exact ((fit_iff _).1 (scErr_zero h).2.2).1
      · rw [h]; exact Nat.zero_le _)
    have KR : Hid (∀ (bb : Nat) (w3 : World), Own E w3 (Hp.blk bb FT ((clientFs (w.heap.size + 1 + 1) (w.heap.size + 1 + 1 + 1) (w.heap.size + 1 + 1 + 1 + 1)).flatMap enF).toArray :: Hp.blk (w.heap.size + 1 + 1) CLT (clientC ⟨#[]⟩ false false ⟨#[]⟩ ⟨#[]⟩ 0 none 0 0 0 0 0 0).toArray :: Hp.blk (w.heap.size + 1 + 1 + 1) 3 #[.int .i64 0] :: Hp.blk (w.heap.size + 1 + 1 + 1 + 1) 9 #[.string ⟨#[]⟩] :: Hp.blk (w.heap.size + 1) CLT (clientC ⟨#[]⟩ false false ⟨#[]⟩ ⟨#[]⟩ 0 none 0 0 0 0 0 0).toArray :: Hp.blk w.heap.size ITT #[.string k, .string v] :: L) →
        Calls Tryz.prog 67 #[.slice (some ⟨bb, 0, none⟩) 9 9, .string v] w3 fun ev w' => ev = .returned (.bool ok) ∧ Own E w' (Hp.blk (w.heap.size + 1 + 1) CLT (clientC ⟨#[]⟩ false false dh od ut none 0 0 ii ab gr li).toArray :: Hp.blk (w.heap.size + 1 + 1 + 1) 3 #[.int .i64 fg] :: Hp.blk (w.heap.size + 1 + 1 + 1 + 1) 9 #[.string sT] :: Hp.blk (w.heap.size + 1) CLT (clientC ⟨#[]⟩ false false ⟨#[]⟩ ⟨#[]⟩ 0 none 0 0 0 0 0 0).toArray :: Hp.blk w.heap.size ITT #[.string k, .string v] :: L)) := Lib.hid fun bb w3 h3 => by
      have h4 : Own E w3 (Hp.blk bb FT ((clientFs (w.heap.size + 1 + 1) (w.heap.size + 1 + 1 + 1) (w.heap.size + 1 + 1 + 1 + 1)).flatMap enF).toArray :: clientP (w.heap.size + 1 + 1) (w.heap.size + 1 + 1 + 1) (w.heap.size + 1 + 1 + 1 + 1) [.int .i64 0, .string ⟨#[]⟩, .string ⟨#[]⟩, .int .i64 0, .string ⟨#[]⟩, .int .i64 0, .int .i64 0, .int .i64 0, .int .i64 0] :: Hp.blk (w.heap.size + 1) CLT (clientC ⟨#[]⟩ false false ⟨#[]⟩ ⟨#[]⟩ 0 none 0 0 0 0 0 0).toArray :: Hp.blk w.heap.size ITT #[.string k, .string v] :: L) := (Own.sep2.2 (Own.sep2.2 h3.f3.f3.f3)).f1
      have hh := read_blk (E := E) bb 9 (clientFs (w.heap.size + 1 + 1) (w.heap.size + 1 + 1 + 1) (w.heap.size + 1 + 1 + 1 + 1)) v _ [.int .i64 0, .string ⟨#[]⟩, .string ⟨#[]⟩, .int .i64 0, .string ⟨#[]⟩, .int .i64 0, .int .i64 0, .int .i64 0, .int .i64 0] w3 rfl (by omega) hv (places_client _ _ _) rfl hG.cons.cons h4
      rw [show (clientFs (w.heap.size + 1 + 1) (w.heap.size + 1 + 1 + 1) (w.heap.size + 1 + 1 + 1 + 1)).map (·.1) = clientKs from rfl, hr] at hh
      refine hh.mono ?_
      rintro ev w' ⟨rfl, h⟩
      exact ⟨rfl, Own.sep2.1 (Own.sep2.1 h)⟩
    have KNM : Hid (∀ w3 : World, Own E w3 (Hp.blk (w.heap.size + 1 + 1) CLT (clientC (restB k 1) pu sw dh od ut none 0 0 ii ab gr li).toArray :: Hp.blk (w.heap.size + 1 + 1 + 1 + 1) 9 #[.string sT] :: Hp.blk (w.heap.size + 1) CLT (clientC ⟨#[]⟩ false false ⟨#[]⟩ ⟨#[]⟩ 0 none 0 0 0 0 0 0).toArray :: Hp.blk w.heap.size ITT #[.string k, .string v] :: L) → Calls Tryz.prog 94 #[.string sT] w3 fun ev w' => ∃ (A : Option Addr) (cc : Nat) (b : Bool), ev = .returned (.tuple #[.slice A n cc, .bool b]) ∧ Own E w' (Hp.lst ST (.slice A n cc) (xs.map Value.string) :: Hp.blk (w.heap.size + 1 + 1) CLT (clientC (restB k 1) pu sw dh od ut none 0 0 ii ab gr li).toArray :: Hp.blk (w.heap.size + 1 + 1 + 1 + 1) 9 #[.string sT] :: Hp.blk (w.heap.size + 1) CLT (clientC ⟨#[]⟩ false false ⟨#[]⟩ ⟨#[]⟩ 0 none 0 0 0 0 0 0).toArray :: Hp.blk w.heap.size ITT #[.string k, .string v] :: L)) := Lib.hid fun w3 h3 => by
      rw [hn, hxs]
      exact names_any sT w3 hT hM.cons.cons.cons.cons h3
    have HPR : Hid (∀ (A : Option Addr) (cc : Nat) (w3 : World), Own E w3 (Hp.blk (w.heap.size + 1 + 1) CLT (clientC (restB k 1) pu sw dh od ut A n cc ii ab gr li).toArray :: Hp.lst ST (.slice A n cc) (xs.map Value.string) :: Hp.blk (w.heap.size + 1 + 1 + 1 + 1) 9 #[.string sT] :: Hp.blk (w.heap.size + 1) CLT (clientC ⟨#[]⟩ false false ⟨#[]⟩ ⟨#[]⟩ 0 none 0 0 0 0 0 0).toArray :: Hp.blk w.heap.size ITT #[.string k, .string v] :: L) → Calls Tryz.prog 40 #[.agg (clientC (restB k 1) pu sw dh od ut A n cc ii ab gr li).toArray] w3 fun ev w' => ev = .returned (.tuple #[.agg #[.string (clientR (restB k 1) pu sw dh od ut xs ii ab gr li).1, .string (clientR (restB k 1) pu sw dh od ut xs ii ab gr li).2.1], .int .i64 (clientR (restB k 1) pu sw dh od ut xs ii ab gr li).2.2]) ∧ Own E w' (Hp.blk (w.heap.size + 1 + 1) CLT (clientC (restB k 1) pu sw dh od ut A n cc ii ab gr li).toArray :: Hp.lst ST (.slice A n cc) (xs.map Value.string) :: Hp.blk (w.heap.size + 1 + 1 + 1 + 1) 9 #[.string sT] :: Hp.blk (w.heap.size + 1) CLT (clientC ⟨#[]⟩ false false ⟨#[]⟩ ⟨#[]⟩ 0 none 0 0 0 0 0 0).toArray :: Hp.blk w.heap.size ITT #[.string k, .string v] :: L)) := Lib.hid fun A cc w3 h3 => by
      obtain ⟨a, h4, ha, hb⟩ := h3.f1.opens
      obtain ⟨hr, hc, -, -⟩ := lst_rds ha
      refine (printclient_any (restB k 1) pu sw dh od ut A n cc ii ab gr li xs w3 hr hc (by have := HSZ.out; omega) hG.cons.cons.cons.cons.cons h4).mono ?_
      rintro ev w' ⟨rfl, h⟩
      exact ⟨rfl, (hb _ _ h).f1⟩
    have HC1 : Hid (∀ w' : World, Own E w' (Hp.blk (w.heap.size + 1 + 1) CLT (clientC ⟨#[]⟩ false false dh od ut none 0 0 ii ab gr li).toArray :: Hp.blk (w.heap.size + 1 + 1 + 1) 3 #[.int .i64 fg] :: Hp.blk (w.heap.size + 1 + 1 + 1 + 1) 9 #[.string sT] :: Hp.blk (w.heap.size + 1) CLT (clientC ⟨#[]⟩ false false ⟨#[]⟩ ⟨#[]⟩ 0 none 0 0 0 0 0 0).toArray :: Hp.blk w.heap.size ITT #[.string k, .string v] :: L) → w'.cell? ⟨w.heap.size, 0, none⟩ = some (.string k) ∧ w'.cell? ⟨w.heap.size + 1 + 1 + 1, 0, none⟩ = some (.int .i64 fg)) := Lib.hid fun w' h => ⟨(h.f4.cell 0).trans rfl, (h.f1.cell 0).trans rfl⟩
    have HC2 : Hid (∀ w' : World, Own E w' (Hp.blk (w.heap.size + 1 + 1) CLT (clientC ⟨#[]⟩ false false dh od ut none 0 0 ii ab gr li).toArray :: Hp.blk (w.heap.size + 1 + 1 + 1) 3 #[.int .i64 fg] :: Hp.blk (w.heap.size + 1 + 1 + 1 + 1) 9 #[.string sT] :: Hp.blk (w.heap.size + 1) CLT (clientC ⟨#[]⟩ false false ⟨#[]⟩ ⟨#[]⟩ 0 none 0 0 0 0 0 0).toArray :: Hp.blk w.heap.size ITT #[.string k, .string v] :: L) → w'.cell? ⟨w.heap.size, 0, none⟩ = some (.string k) ∧ w'.cell? ⟨w.heap.size, 1, none⟩ = some (.string v)) := Lib.hid fun w' h => ⟨(h.f4.cell 0).trans rfl, (h.f4.cell 1).trans rfl⟩
    have HNX := Lib.hid hn
    clear hr hG hM hk hv hT hxs hn
    go_enter Tryz.func42, Tryz.ntmps42
    go_wp2_with fail
    have h := H3.out.drew
    clear H3
    refine wp_region_text [1, 6] (fun w' => w'.cell? ⟨w.heap.size, 0, none⟩ = some (.string k) ∧ w'.cell? ⟨w.heap.size, 1, none⟩ = some (.string v)) (by kernel_rfl) ?_ (fun hS => ?_)
    · exact HC0.out _ h
    refine gp 0 (some 9) ?_
    refine gl 1 (some 10) ?_
    refine gp 2 (some 11) ?_
    refine gp 3 (some 12) ?_
    refine gp 5 (some 14) ?_
    refine gl 6 (some 15) ?_
    refine gk 4 (some 13) (fun K hK => ?_)
    rw [if_pos (by rfl)]
    go_simp
    refine (clientfields_any _ _ _ _ h).mono ?_
    clear h
    rintro ev w2 ⟨bb, rfl, h⟩
    refine hK.out _ _ ?_ (fun hS => ?_)
    · exact HC0.out _ h.drop
    clear hK K
    try simp only [Act.put, List.setIfInBounds_toArray, List.set_cons_zero, List.set_cons_succ]
    refine gk 7 (some 16) (fun K hK => ?_)
    rw [if_pos (by rfl)]
    go_simp
    refine (KR.out _ _ h).mono ?_
    clear h
    rintro ev w2 ⟨rfl, h⟩
    refine hK.out _ _ ?_ (fun hS => ?_)
    · exact HC2.out _ h
    clear hK K
    try simp only [Act.put, List.setIfInBounds_toArray, List.set_cons_zero, List.set_cons_succ]
    refine gp 8 (some 17) ?_
    refine gp 9 (some 18) ?_
    refine wpAnyG_done (by kernel_rfl) ?_ _
    refine NoPanic.normal ?_
    cases ok with
    | false =>
      have HN : Hid (∀ f : ClientV, f.R ≠ (k, v, 0)) := Lib.hid fun f hf => by
        have := (HNO.out f hf).1
        cases this
      have H3 := Lib.hid h.f3
      clear h
      go_wp2_with (with_reducible refine at_slot (k := none) ?_; refine wpList_store_whole (o := ⟨none, _, _, _, _, _⟩) (cs := (clientC ⟨#[]⟩ false false ⟨#[]⟩ ⟨#[]⟩ 0 none 0 0 0 0 0 0)) (vs := (clientC ⟨#[]⟩ false false ⟨#[]⟩ ⟨#[]⟩ 0 none 0 0 0 0 0 0)) H3.out rfl (client_one _ _ _ _ _ _ _ _ _ _ _ _ _) (by kernel_rfl) rfl rfl rfl rfl ?_; clear H3; intro w7 h; have H8 := Lib.hid h; clear h)
      refine bodyPost_ret (results_ct rfl rfl H8.out hd hrow (by kernel_rfl)) rfl ?_
      exact .inr ⟨rfl, HN.out, H8.out.drop.drop.drop.drop.drop⟩
    | true =>
      have H3 := Lib.hid h
      clear h
      go_wp2_with fail
      have h := H3.out
      have ho0 : _ = some (Value.string ⟨#[]⟩) := (H3.out.cell 0).trans rfl
      have ho1 : _ = some (Value.bool false) := (H3.out.cell 1).trans rfl
      have ho2 : _ = some (Value.bool false) := (H3.out.cell 2).trans rfl
      have cf : _ = some (Value.string sT) := (H3.out.f2.cell 0).trans rfl
      have hfz0 := H3.out.frozen 0
      have hfz1 := H3.out.frozen 1
      have hfz2 := H3.out.frozen 2
      clear H3
      refine wp_region_text [1, 3, 6] (fun w' => w'.cell? ⟨w.heap.size, 0, none⟩ = some (.string k) ∧ w'.cell? ⟨w.heap.size + 1 + 1 + 1, 0, none⟩ = some (.int .i64 fg)) (by kernel_rfl) ?_ (fun hS => ?_)
      · exact HC1.out _ h.drew
      refine gp 0 (some 20) ?_
      refine gl 1 (some 21) ?_
      refine gq 2 (some 22) (.string (restB k 1)) ?_ ?_
      · intro w
        go_simp; first | done | rfl
      refine gl 3 (some 23) ?_
      refine gp 4 (some 24) ?_
      refine gq 5 (some 25) (.bool pu) ?_ ?_
      · intro w
        go_simp; first | done | rw [hpu]
      refine gl 6 (some 26) ?_
      refine gp 7 (some 27) ?_
      refine gq 8 (some 28) (.bool sw) ?_ ?_
      · intro w
        go_simp; first | done | rw [hsw]
      refine gp 9 (some 29) ?_
      refine wpAnyG_break (i := 10) (oi := ⟨none, _, _, _, _, _⟩) (by kernel_rfl) rfl (by kernel_rfl) (fun K hK => ?_)
      rw [if_pos (by rfl)]
      obtain ⟨-, -, hs⟩ := h.put1 0 (.string (restB k 1)) (show (0 : Nat) < 11 by omega)
      clear h
      have h := hs
      clear hs
      go_simp
      refine hK.out _ _ ?_
      clear hK K
      try simp only [Act.put]
      refine gp 11 (some 30) ?_
      refine wpAnyG_break (i := 12) (oi := ⟨none, _, _, _, _, _⟩) (by kernel_rfl) rfl (by kernel_rfl) (fun K hK => ?_)
      rw [if_pos (by rfl)]
      obtain ⟨-, -, hs⟩ := h.put1 1 (.bool pu) (show (1 : Nat) < 11 by omega)
      clear h
      have h := hs
      clear hs
      go_simp
      refine hK.out _ _ ?_
      clear hK K
      try simp only [Act.put]
      refine gp 13 (some 31) ?_
      refine wpAnyG_break (i := 14) (oi := ⟨none, _, _, _, _, _⟩) (by kernel_rfl) rfl (by kernel_rfl) (fun K hK => ?_)
      rw [if_pos (by rfl)]
      obtain ⟨-, -, hs⟩ := h.put1 2 (.bool sw) (show (2 : Nat) < 11 by omega)
      clear h
      have h := hs
      clear hs
      go_simp
      refine hK.out _ _ ?_
      clear hK K
      try simp only [Act.put]
      refine wpAnyG_done (by kernel_rfl) ?_ _
      refine NoPanic.normal ?_
      clear ho0 ho1 ho2 hfz0 hfz1 hfz2
      have h : Own E _ (Hp.blk (w.heap.size + 1 + 1) CLT (clientC (restB k 1) pu sw dh od ut none 0 0 ii ab gr li).toArray :: Hp.blk (w.heap.size + 1 + 1 + 1) 3 #[.int .i64 fg] :: Hp.blk (w.heap.size + 1 + 1 + 1 + 1) 9 #[.string sT] :: Hp.blk (w.heap.size + 1) CLT (clientC ⟨#[]⟩ false false ⟨#[]⟩ ⟨#[]⟩ 0 none 0 0 0 0 0 0).toArray :: Hp.blk w.heap.size ITT #[.string k, .string v] :: L) := h
      have H3 : Hid (Own E _ (Hp.blk (w.heap.size + 1 + 1) CLT (clientC (restB k 1) pu sw dh od ut none 0 0 ii ab gr li).toArray :: Hp.blk (w.heap.size + 1 + 1 + 1 + 1) 9 #[.string sT] :: Hp.blk (w.heap.size + 1) CLT (clientC ⟨#[]⟩ false false ⟨#[]⟩ ⟨#[]⟩ 0 none 0 0 0 0 0 0).toArray :: Hp.blk w.heap.size ITT #[.string k, .string v] :: L)) := Lib.hid h.drew.f1.drop
      clear h
      obtain ⟨x1, x2, er, hpr⟩ : ∃ x1 x2 er, (clientR (restB k 1) pu sw dh od ut xs ii ab gr li) = (x1, x2, er) := ⟨_, _, _, rfl⟩
      rw [hpr] at HPR HNO
      have HRR := Lib.hid hpr
      clear hpr
      by_cases he : er = 0
      · subst he
        by_cases hx : x1 = k ∧ x2 = v
        · have HY : Hid ((⟨(restB k 1), pu, sw, dh, od, ut, xs, ii, ab, gr, li⟩ : ClientV).R = (k, v, 0)) := Lib.hid (by
            show (clientR (restB k 1) pu sw dh od ut xs ii ab gr li) = _
            rw [HRR.out, hx.1, hx.2])
          have hq : ∀ w, (binOp .neq ITT (.agg #[.string x1, .string x2]) (.agg #[.string k, .string v])).run Tryz.prog w = .ok (.bool false) w := fun w => by rw [run_pair, decide_eq_true hx]; rfl
          clear hx HRR HNO
          go_wp2_with (first
            | ((with_reducible refine (KNM.out _ H3.out).mono ?_); clear H3; rintro ev w3 ⟨A, cc, bb, rfl, h⟩; obtain ⟨⟨old2, ho2⟩, hf2, hs⟩ := h.f1.put1 6 (.slice A n cc) (show (6 : Nat) < 11 by omega); have H3 : Hid (Own E _ (Hp.blk (w.heap.size + 1 + 1) CLT (clientC (restB k 1) pu sw dh od ut A n cc ii ab gr li).toArray :: Hp.lst ST (.slice A n cc) (xs.map Value.string) :: Hp.blk (w.heap.size + 1 + 1 + 1 + 1) 9 #[.string sT] :: Hp.blk (w.heap.size + 1) CLT (clientC ⟨#[]⟩ false false ⟨#[]⟩ ⟨#[]⟩ 0 none 0 0 0 0 0 0).toArray :: Hp.blk w.heap.size ITT #[.string k, .string v] :: L)) := Lib.hid hs; clear h hs)
            | (with_reducible refine at_slot (k := some 39) ?_; refine wpList_load_arr (o := ⟨some 39, _, _, _, _, _⟩) H3.out 0 (clientC (restB k 1) pu sw dh od ut A n cc ii ab gr li) (fun jj u hu => by simpa using hu) hd hrow (by kernel_rfl) rfl rfl rfl ?_)
            | (with_reducible refine (HPR.out _ _ _ H3.out).mono ?_; clear H3; rintro ev w2 ⟨rfl, h⟩; have H3 := Lib.hid (h.alloc (.cells #[.string x1, .string x2] ITT)); clear h; have p0 := H3.out.f5.cell 0; have p1 := H3.out.f5.cell 1; simp only [List.getElem?_toArray, List.getElem?_cons_zero, List.getElem?_cons_succ] at p0 p1)
            | (with_reducible refine at_slot (k := some 51) ?_; refine wpList_load_arr (o := ⟨some 51, _, _, _, _, _⟩) H3.out.f1 0 (clientC (restB k 1) pu sw dh od ut A n cc ii ab gr li) (fun jj u hu => by simpa using hu) hd hrow (by kernel_rfl) rfl rfl rfl ?_)
            | (with_reducible refine at_slot (k := none) ?_; refine wpList_store_whole (o := ⟨none, _, _, _, _, _⟩) (cs := (clientC ⟨#[]⟩ false false ⟨#[]⟩ ⟨#[]⟩ 0 none 0 0 0 0 0 0)) (vs := (clientC (restB k 1) pu sw dh od ut A n cc ii ab gr li)) H3.out.f4 rfl (client_one _ _ _ _ _ _ _ _ _ _ _ _ _) (by kernel_rfl) rfl rfl rfl rfl ?_; clear H3; intro w7 h; have H8 := Lib.hid h; clear h))
          refine bodyPost_ret (results_ct rfl rfl H8.out hd hrow (by kernel_rfl)) rfl ?_
          obtain rfl := HNX.out
          exact .inl ⟨⟨(restB k 1), pu, sw, dh, od, ut, xs, ii, ab, gr, li⟩, A, cc, rfl, HY.out, H8.out.drop.drop.drop.f1.drop.f1.drop⟩
        · have HN : Hid (∀ f : ClientV, f.R ≠ (k, v, 0)) := Lib.hid fun f hf => by
            have := (HNO.out f hf).2
            injection this with a b
            injection b with b c
            exact hx ⟨a, b⟩
          have hq : ∀ w, (binOp .neq ITT (.agg #[.string x1, .string x2]) (.agg #[.string k, .string v])).run Tryz.prog w = .ok (.bool true) w := fun w => by rw [run_pair, decide_eq_false hx]; rfl
          clear hx HRR HNO
          go_wp2_with (first
            | ((with_reducible refine (KNM.out _ H3.out).mono ?_); clear H3; rintro ev w3 ⟨A, cc, bb, rfl, h⟩; obtain ⟨⟨old2, ho2⟩, hf2, hs⟩ := h.f1.put1 6 (.slice A n cc) (show (6 : Nat) < 11 by omega); have H3 : Hid (Own E _ (Hp.blk (w.heap.size + 1 + 1) CLT (clientC (restB k 1) pu sw dh od ut A n cc ii ab gr li).toArray :: Hp.lst ST (.slice A n cc) (xs.map Value.string) :: Hp.blk (w.heap.size + 1 + 1 + 1 + 1) 9 #[.string sT] :: Hp.blk (w.heap.size + 1) CLT (clientC ⟨#[]⟩ false false ⟨#[]⟩ ⟨#[]⟩ 0 none 0 0 0 0 0 0).toArray :: Hp.blk w.heap.size ITT #[.string k, .string v] :: L)) := Lib.hid hs; clear h hs)
            | (with_reducible refine at_slot (k := some 39) ?_; refine wpList_load_arr (o := ⟨some 39, _, _, _, _, _⟩) H3.out 0 (clientC (restB k 1) pu sw dh od ut A n cc ii ab gr li) (fun jj u hu => by simpa using hu) hd hrow (by kernel_rfl) rfl rfl rfl ?_)
            | (with_reducible refine (HPR.out _ _ _ H3.out).mono ?_; clear H3; rintro ev w2 ⟨rfl, h⟩; have H3 := Lib.hid (h.alloc (.cells #[.string x1, .string x2] ITT)); clear h; have p0 := H3.out.f5.cell 0; have p1 := H3.out.f5.cell 1; simp only [List.getElem?_toArray, List.getElem?_cons_zero, List.getElem?_cons_succ] at p0 p1)
            | (with_reducible refine at_slot (k := some 51) ?_; refine wpList_load_arr (o := ⟨some 51, _, _, _, _, _⟩) H3.out.f1 0 (clientC (restB k 1) pu sw dh od ut A n cc ii ab gr li) (fun jj u hu => by simpa using hu) hd hrow (by kernel_rfl) rfl rfl rfl ?_)
            | (with_reducible refine at_slot (k := none) ?_; refine wpList_store_whole (o := ⟨none, _, _, _, _, _⟩) (cs := (clientC ⟨#[]⟩ false false ⟨#[]⟩ ⟨#[]⟩ 0 none 0 0 0 0 0 0)) (vs := (clientC ⟨#[]⟩ false false ⟨#[]⟩ ⟨#[]⟩ 0 none 0 0 0 0 0 0)) H3.out.f4 rfl (client_one _ _ _ _ _ _ _ _ _ _ _ _ _) (by kernel_rfl) rfl rfl rfl rfl ?_; clear H3; intro w7 h; have H8 := Lib.hid h; clear h))
          refine bodyPost_ret (results_ct rfl rfl H8.out hd hrow (by kernel_rfl)) rfl ?_
          exact .inr ⟨rfl, HN.out, H8.out.drop.drop.drop.drop.drop.drop⟩
      · have HN : Hid (∀ f : ClientV, f.R ≠ (k, v, 0)) := Lib.hid fun f hf => by
          have := (HNO.out f hf).2
          injection this with a b
          injection b with b c
          exact he c
        have hz : (er != 0) = true := by rw [bne_iff_ne]; exact he
        clear he HRR HNO
        go_wp2_with (first
          | ((with_reducible refine (KNM.out _ H3.out).mono ?_); clear H3; rintro ev w3 ⟨A, cc, bb, rfl, h⟩; obtain ⟨⟨old2, ho2⟩, hf2, hs⟩ := h.f1.put1 6 (.slice A n cc) (show (6 : Nat) < 11 by omega); have H3 : Hid (Own E _ (Hp.blk (w.heap.size + 1 + 1) CLT (clientC (restB k 1) pu sw dh od ut A n cc ii ab gr li).toArray :: Hp.lst ST (.slice A n cc) (xs.map Value.string) :: Hp.blk (w.heap.size + 1 + 1 + 1 + 1) 9 #[.string sT] :: Hp.blk (w.heap.size + 1) CLT (clientC ⟨#[]⟩ false false ⟨#[]⟩ ⟨#[]⟩ 0 none 0 0 0 0 0 0).toArray :: Hp.blk w.heap.size ITT #[.string k, .string v] :: L)) := Lib.hid hs; clear h hs)
          | (with_reducible refine at_slot (k := some 39) ?_; refine wpList_load_arr (o := ⟨some 39, _, _, _, _, _⟩) H3.out 0 (clientC (restB k 1) pu sw dh od ut A n cc ii ab gr li) (fun jj u hu => by simpa using hu) hd hrow (by kernel_rfl) rfl rfl rfl ?_)
          | (with_reducible refine (HPR.out _ _ _ H3.out).mono ?_; clear H3; rintro ev w2 ⟨rfl, h⟩; have H3 := Lib.hid (h.alloc (.cells #[.string x1, .string x2] ITT)); clear h; have p0 := H3.out.f5.cell 0; have p1 := H3.out.f5.cell 1; simp only [List.getElem?_toArray, List.getElem?_cons_zero, List.getElem?_cons_succ] at p0 p1)
          | (with_reducible refine at_slot (k := some 51) ?_; refine wpList_load_arr (o := ⟨some 51, _, _, _, _, _⟩) H3.out.f1 0 (clientC (restB k 1) pu sw dh od ut A n cc ii ab gr li) (fun jj u hu => by simpa using hu) hd hrow (by kernel_rfl) rfl rfl rfl ?_)
          | (with_reducible refine at_slot (k := none) ?_; refine wpList_store_whole (o := ⟨none, _, _, _, _, _⟩) (cs := (clientC ⟨#[]⟩ false false ⟨#[]⟩ ⟨#[]⟩ 0 none 0 0 0 0 0 0)) (vs := (clientC ⟨#[]⟩ false false ⟨#[]⟩ ⟨#[]⟩ 0 none 0 0 0 0 0 0)) H3.out.f4 rfl (client_one _ _ _ _ _ _ _ _ _ _ _ _ _) (by kernel_rfl) rfl rfl rfl rfl ?_; clear H3; intro w7 h; have H8 := Lib.hid h; clear h))
        refine bodyPost_ret (results_ct rfl rfl H8.out hd hrow (by kernel_rfl)) rfl ?_
        exact .inr ⟨rfl, HN.out, H8.out.drop.drop.drop.drop.drop.drop⟩
end
end Go.Proofs.YtabibfabieghpaaGreatDoor
