/- record.ParseFamily (begun by gen_paf.py fam): a pair that is a right record's is read as that, every other one is refused. -/
import Derived.Test.YtabibfabieghpaaGreatDoorPkz0
import Derived.Test.YtabibfabieghpaaGreatDoorPkz7
import Derived.Test.YtabibfabieghpaaGreatDoorPkz9
import Derived.Test.YtabibfabieghpaaGreatDoorPkz8
namespace Go.Proofs.YtabibfabieghpaaGreatDoor
open Go.RowKit
/- record.names -/
theorem front_len (s : ByteArray) (n : Nat) : (frontB s n).size ≤ n := by
  unfold frontB
  rw [ByteArray.size_extract]; omega
theorem rText_size (s : ByteArray) (e : Int) : (rText s e 255).1.size ≤ 255 := by
  unfold rText
  split
  · exact Nat.zero_le _
  split
  · exact Nat.zero_le _
  split
  · exact Nat.zero_le _
  split
  · exact Nat.zero_le _
  split
  · exact Nat.zero_le _
  · rename_i h1 h2 h3 h4 h5
    have e1 : ahead (255 : Int).toNat = 1 := rfl
    rw [e1] at h4 ⊢
    have h6 := front_len s (1 + numL (s.data.toList.take 1))
    have h7 : (255 : Int).toNat = 255 := rfl
    rw [h7] at h4
    generalize numL (s.data.toList.take 1) = q at *
    generalize frontB s (1 + q) = t at *
    show (restB t 1).size ≤ 255
    unfold restB
    rw [ByteArray.size_extract]; omega
section
variable {E : World} {L : List Hp}
theorem Own.opens {w : World} {A : Hp} (h : Own E w (A :: L)) : ∃ a, Own E w (Hp.ro a :: L) ∧ A a ∧ ∀ (M : List Hp) w', Own E w' (Hp.ro a :: M) → Own E w' (A :: M) := by
  obtain ⟨a, ha, h1⟩ := h.opened
  exact ⟨a, h1, ha, fun M w' h' => h'.imp fun x hx => by
    have hx' : x = a := hx
    rw [hx']; exact ha⟩
set_option maxRecDepth 20000 in
set_option maxHeartbeats 4000000 in
theorem names_any (s : ByteArray) (w : World) (hs : s.size ≤ 4000000000) (hM : Max0 E L) (h : Own E w L) :
    Calls Tryz.prog 94 #[.string s] w fun e w' => ∃ (A : Option Addr) (c : Nat) (b : Bool), e = .returned (.tuple #[.slice A (parseV s).1.length c, .bool b]) ∧ Own E w' (Hp.lst ST (.slice A (parseV s).1.length c) ((parseV s).1.map Value.string) :: L) := by
  have KP : Hid (∀ w, Own E w L → Calls Tryz.prog 128 #[.string s] w fun e w' => ∃ A c, e = .returned (.tuple #[.slice A (parseV s).1.length c, .int .i64 (parseV s).2]) ∧ Own E w' (Hp.lst ST (.slice A (parseV s).1.length c) ((parseV s).1.map Value.string) :: L)) := Lib.hid fun w h => by
    refine (scparse_any s w hs hM h).mono ?_
    rintro e w' ⟨v, rfl, h2⟩
    obtain ⟨A, c, rfl, -⟩ := h2.lstSlice
    rw [List.length_map] at h2 ⊢
    exact ⟨A, c, rfl, h2⟩
  have HPR := parse_right s
  have H := Lib.hid h
  clear h hM hs
  generalize parseV s = p at *
  obtain ⟨xs, er⟩ := p
  dsimp only at KP HPR ⊢
  by_cases h0 : er = 0
  · have hx : scErr xs = 0 := by
      rcases HPR with ⟨-, h⟩ | ⟨-, h⟩
      · exact h
      · omega
    have hn : xs.length ≤ 8 := by
      have := scErr_zero hx
      exact ((fit_iff xs).1 this.2.2).1
    have KT : Hid (∀ A c w, Own E w (Hp.lst ST (.slice A xs.length c) (xs.map Value.string) :: L) → Calls Tryz.prog 124 #[.slice A xs.length c] w fun e w' => e = .returned (.tuple #[.string (scTxt xs), .int .i64 (scErr xs)]) ∧ Own E w' (Hp.lst ST (.slice A xs.length c) (xs.map Value.string) :: L)) := Lib.hid fun A c w h => by
      obtain ⟨a, h1, ha, hb⟩ := h.opens
      obtain ⟨hr, hc, -, -⟩ := lst_rds ha
      refine (print_any A xs.length c xs w hr hc (by omega) h1).mono ?_
      rintro e w' ⟨rfl, h2⟩
      exact ⟨rfl, hb _ _ h2⟩
    clear HPR hx hn
    subst h0
    go_enter Tryz.func94, Tryz.ntmps94
    go_wp2_with (first
      | (with_reducible refine (KP.out _ H.out).mono ?_; clear KP H; rintro e w1 ⟨A, c, rfl, h⟩; have H1 := Lib.hid h; clear h)
      | (with_reducible refine (KT.out _ _ _ H1.out).mono ?_; clear KT H1; rintro e w2 ⟨rfl, h⟩; have H2 := Lib.hid h; clear h))
    go_ret2
    exact ⟨A, c, _, rfl, H2.out⟩
  · have hx : xs = [] := by
      rcases HPR with ⟨h, -⟩ | ⟨h, -⟩
      · exact absurd h h0
      · exact h
    have hz : (er != 0) = true := by rw [bne_iff_ne]; exact h0
    subst hx
    clear HPR h0
    go_enter Tryz.func94, Tryz.ntmps94
    go_wp2_with (with_reducible refine (KP.out _ H.out).mono ?_; clear KP H; rintro e w1 ⟨A, c, rfl, h⟩; have H1 := Lib.hid h.drop; clear h)
    go_ret2
    exact ⟨none, 0, _, rfl, H1.out.emptyLst ST none⟩
end
/- fam -/
structure FamV where
  id : Int
  cl : ByteArray
  su : ByteArray
  xs : List ByteArray
  cr : Int
  us : Int
  ii : Int
  ab : Int
  gr : Int
  ge : Int
  tk : Int
  st : Int
  en : Int
  co : Int
def FamV.R (f : FamV) : ByteArray × ByteArray × Int := famR f.id f.cl f.su f.xs f.cr f.us f.ii f.ab f.gr f.ge f.tk f.st f.en f.co
def FamV.C (f : FamV) (A : Option Addr) (c : Nat) : List Value := famC f.id f.cl f.su A f.xs.length c f.cr f.us f.ii f.ab f.gr f.ge f.tk f.st f.en f.co
def famKs : List Fk := [.text, .text, .text, .num 6, .num 6, .num 6, .num 6, .num 6, .num 4, .num 8, .num 1, .num 6, .num 8]
theorem fam_reads {f : FamV} {k v : ByteArray} (h : f.R = (k, v, 0)) : famMay f.id f.cl f.su f.xs f.cr f.us f.ii f.ab f.gr f.ge f.tk f.st f.en f.co ∧ numberV k ⟨#[102]⟩ 8 = (f.id, true) ∧ readV famKs v = ([.s f.cl, .s f.su, .s (scTxt f.xs), .n f.cr, .n f.us, .n f.ii, .n f.ab, .n f.gr, .n f.ge, .n f.tk, .n f.st, .n f.en, .n f.co], true) ∧ (parseV (scTxt f.xs)).1 = f.xs := by
  unfold FamV.R famR at h
  by_cases hm : famMay f.id f.cl f.su f.xs f.cr f.us f.ii f.ab f.gr f.ge f.tk f.st f.en f.co
  · rw [if_pos hm] at h
    injection h with h1 h2
    injection h2 with h2 h3
    have hr := fam_range hm
    refine ⟨hm, ?_, ?_, ?_⟩
    · rw [← h1]
      have c1 := hm.1
      exact number_back 102 8 f.id (by omega) (by omega) (by omega) (by show f.id < (256 : Int) ^ 8; omega) (by omega)
    · rw [← h2]
      have hh := readV_printed (fam_fits 0 0 hr)
      rw [fam_printed 0 0 hr] at hh
      exact hh
    · rw [parse_print hm.2.2.2.1]
  · rw [if_neg hm] at h
    injection h with h1 h2
    injection h2 with h2 h3
    cases h3
theorem fam_inj {f g : FamV} {k v : ByteArray} (h : f.R = (k, v, 0)) (h2 : g.R = (k, v, 0)) : f = g := by
  obtain ⟨-, a1, a2, a3⟩ := fam_reads h
  obtain ⟨-, b1, b2, b3⟩ := fam_reads h2
  rw [a1] at b1
  rw [a2] at b2
  obtain ⟨fid, fcl, fsu, fxs, fcr, fus, fii, fab, fgr, fge, ftk, fst, fen, fco⟩ := f
  obtain ⟨gid, gcl, gsu, gxs, gcr, gus, gii, gab, ggr, gge, gtk, gst, gen, gco⟩ := g
  simp only [Prod.mk.injEq, List.cons.injEq, Fv.s.injEq, Fv.n.injEq, and_true] at a3 b1 b2 b3
  obtain rfl := b1
  obtain ⟨rfl, rfl, es, rfl, rfl, rfl, rfl, rfl, rfl, rfl, rfl, rfl, rfl⟩ := b2
  rw [es, b3] at a3
  obtain rfl := a3
  rfl
theorem famt_u : ∃ d, Tryz.prog.underlying FMT = some d ∧ d.isRow = true := by
  cases e : Tryz.prog.underlying FMT with
  | none => exact absurd e (by rw [Tryz.underlying56]; simp)
  | some d => exact ⟨d, rfl, by rw [Tryz.underlying56] at e; injection e with e; subst e; rfl⟩
theorem fam_one (id : Int) (cl : ByteArray) (su : ByteArray) (A : Option Addr) (n c : Nat) (cr : Int) (us : Int) (ii : Int) (ab : Int) (gr : Int) (ge : Int) (tk : Int) (st : Int) (en : Int) (co : Int) : ∀ v ∈ famC id cl su A n c cr us ii ab gr ge tk st en co, v.oneCell' = true := fun v hv => by
  simp only [famC, List.mem_cons, List.not_mem_nil, or_false] at hv
  rcases hv with rfl | rfl | rfl | rfl | rfl | rfl | rfl | rfl | rfl | rfl | rfl | rfl | rfl | rfl <;> rfl
/-- Its fields as they are read. -/
def famP (tb fb : Nat) (vs : List Value) : Hp := Hp.sep (Hp.blk tb FMT #[.int .i64 0, vs.getD 0 undef, vs.getD 1 undef, .slice none 0 0, vs.getD 3 undef, vs.getD 4 undef, vs.getD 5 undef, vs.getD 6 undef, vs.getD 7 undef, vs.getD 8 undef, vs.getD 9 undef, vs.getD 10 undef, vs.getD 11 undef, vs.getD 12 undef]) (Hp.blk fb 9 #[vs.getD 2 undef])
theorem places_fam {E : World} (tb fb : Nat) : Places E (famP tb fb) [⟨tb, 1, none⟩, ⟨tb, 2, none⟩, ⟨fb, 0, none⟩, ⟨tb, 4, none⟩, ⟨tb, 5, none⟩, ⟨tb, 6, none⟩, ⟨tb, 7, none⟩, ⟨tb, 8, none⟩, ⟨tb, 9, none⟩, ⟨tb, 10, none⟩, ⟨tb, 11, none⟩, ⟨tb, 12, none⟩, ⟨tb, 13, none⟩] where
  set w vs i ad v M hl hi h := by
    obtain ⟨a0, a1, a2, a3, a4, a5, a6, a7, a8, a9, a10, a11, a12, rfl⟩ : ∃ a0 a1 a2 a3 a4 a5 a6 a7 a8 a9 a10 a11 a12, vs = [a0, a1, a2, a3, a4, a5, a6, a7, a8, a9, a10, a11, a12] := by
      match vs, hl with
      | [a0, a1, a2, a3, a4, a5, a6, a7, a8, a9, a10, a11, a12], _ => exact ⟨a0, a1, a2, a3, a4, a5, a6, a7, a8, a9, a10, a11, a12, rfl⟩
    have h := Own.sep2.1 h
    match i, hi with
    | 0, hi =>
      obtain rfl : (⟨tb, 1, none⟩ : Addr) = ad := by simpa using hi
      obtain ⟨h1, h2, h3⟩ := h.put1 1 v (show (1 : Nat) < 14 by omega)
      exact ⟨h1, h2, Own.sep2.2 h3⟩
    | 1, hi =>
      obtain rfl : (⟨tb, 2, none⟩ : Addr) = ad := by simpa using hi
      obtain ⟨h1, h2, h3⟩ := h.put1 2 v (show (2 : Nat) < 14 by omega)
      exact ⟨h1, h2, Own.sep2.2 h3⟩
    | 2, hi =>
      obtain rfl : (⟨fb, 0, none⟩ : Addr) = ad := by simpa using hi
      obtain ⟨h1, h2, h3⟩ := h.f1.put1 0 v (show (0 : Nat) < 1 by omega)
      exact ⟨h1, h2, Own.sep2.2 h3.f1⟩
    | 3, hi =>
      obtain rfl : (⟨tb, 4, none⟩ : Addr) = ad := by simpa using hi
      obtain ⟨h1, h2, h3⟩ := h.put1 4 v (show (4 : Nat) < 14 by omega)
      exact ⟨h1, h2, Own.sep2.2 h3⟩
    | 4, hi =>
      obtain rfl : (⟨tb, 5, none⟩ : Addr) = ad := by simpa using hi
      obtain ⟨h1, h2, h3⟩ := h.put1 5 v (show (5 : Nat) < 14 by omega)
      exact ⟨h1, h2, Own.sep2.2 h3⟩
    | 5, hi =>
      obtain rfl : (⟨tb, 6, none⟩ : Addr) = ad := by simpa using hi
      obtain ⟨h1, h2, h3⟩ := h.put1 6 v (show (6 : Nat) < 14 by omega)
      exact ⟨h1, h2, Own.sep2.2 h3⟩
    | 6, hi =>
      obtain rfl : (⟨tb, 7, none⟩ : Addr) = ad := by simpa using hi
      obtain ⟨h1, h2, h3⟩ := h.put1 7 v (show (7 : Nat) < 14 by omega)
      exact ⟨h1, h2, Own.sep2.2 h3⟩
    | 7, hi =>
      obtain rfl : (⟨tb, 8, none⟩ : Addr) = ad := by simpa using hi
      obtain ⟨h1, h2, h3⟩ := h.put1 8 v (show (8 : Nat) < 14 by omega)
      exact ⟨h1, h2, Own.sep2.2 h3⟩
    | 8, hi =>
      obtain rfl : (⟨tb, 9, none⟩ : Addr) = ad := by simpa using hi
      obtain ⟨h1, h2, h3⟩ := h.put1 9 v (show (9 : Nat) < 14 by omega)
      exact ⟨h1, h2, Own.sep2.2 h3⟩
    | 9, hi =>
      obtain rfl : (⟨tb, 10, none⟩ : Addr) = ad := by simpa using hi
      obtain ⟨h1, h2, h3⟩ := h.put1 10 v (show (10 : Nat) < 14 by omega)
      exact ⟨h1, h2, Own.sep2.2 h3⟩
    | 10, hi =>
      obtain rfl : (⟨tb, 11, none⟩ : Addr) = ad := by simpa using hi
      obtain ⟨h1, h2, h3⟩ := h.put1 11 v (show (11 : Nat) < 14 by omega)
      exact ⟨h1, h2, Own.sep2.2 h3⟩
    | 11, hi =>
      obtain rfl : (⟨tb, 12, none⟩ : Addr) = ad := by simpa using hi
      obtain ⟨h1, h2, h3⟩ := h.put1 12 v (show (12 : Nat) < 14 by omega)
      exact ⟨h1, h2, Own.sep2.2 h3⟩
    | 12, hi =>
      obtain rfl : (⟨tb, 13, none⟩ : Addr) = ad := by simpa using hi
      obtain ⟨h1, h2, h3⟩ := h.put1 13 v (show (13 : Nat) < 14 by omega)
      exact ⟨h1, h2, Own.sep2.2 h3⟩
section
variable {E : World} {L : List Hp}
set_option maxRecDepth 20000 in
set_option maxHeartbeats 16000000 in
theorem parsefam_any (k v : ByteArray) (w : World) (hk : k.size ≤ 1000000000000000) (hv : v.size ≤ 1000000000000000) (hG : Laid0 E L) (hM : Max0 E L) (h : Own E w L) :
    Calls Tryz.prog 48 #[.agg #[.string k, .string v]] w fun ev w' => (∃ (f : FamV) (A : Option Addr) (c : Nat), ev = .returned (.tuple #[.agg (f.C A c).toArray, .int .i64 0]) ∧ f.R = (k, v, 0) ∧ Own E w' (Hp.lst ST (.slice A f.xs.length c) (f.xs.map Value.string) :: L)) ∨
      (ev = .returned (.tuple #[.agg (famC 0 noB noB none 0 0 0 0 0 0 0 0 0 0 0 0).toArray, .int .i64 141]) ∧ (∀ f : FamV, f.R ≠ (k, v, 0)) ∧ Own E w' L) := by
  have h1 := h.alloc (.cells #[.string k, .string v] ITT)
  have h2 := h1.alloc (.cells (famC 0 ⟨#[]⟩ ⟨#[]⟩ none 0 0 0 0 0 0 0 0 0 0 0 0).toArray FMT)
  have h3 := h2.alloc (.cells (famC 0 ⟨#[]⟩ ⟨#[]⟩ none 0 0 0 0 0 0 0 0 0 0 0 0).toArray FMT)
  have h4 := h3.alloc (.cells #[.string ⟨#[]⟩] 9)
  rw [alloc_size, alloc_size, alloc_size] at h4
  have H3 := Lib.hid (show Own E _ (Hp.blk (w.heap.size + 1 + 1) FMT (famC 0 ⟨#[]⟩ ⟨#[]⟩ none 0 0 0 0 0 0 0 0 0 0 0 0).toArray :: Hp.blk (w.heap.size + 1 + 1 + 1) 9 #[.string ⟨#[]⟩] :: Hp.blk (w.heap.size + 1) FMT (famC 0 ⟨#[]⟩ ⟨#[]⟩ none 0 0 0 0 0 0 0 0 0 0 0 0).toArray :: Hp.blk w.heap.size ITT #[.string k, .string v] :: L) from h4.f1)
  obtain ⟨dd, hd, hrow⟩ := famt_u
  obtain ⟨z, nok, hq⟩ : ∃ z nok, numberV k ⟨#[102]⟩ 8 = (z, nok) := ⟨_, _, rfl⟩
  have KN : Hid (∀ w3 : World, Own E w3 (Hp.blk (w.heap.size + 1 + 1) FMT (famC 0 ⟨#[]⟩ ⟨#[]⟩ none 0 0 0 0 0 0 0 0 0 0 0 0).toArray :: Hp.blk (w.heap.size + 1 + 1 + 1) 9 #[.string ⟨#[]⟩] :: Hp.blk (w.heap.size + 1) FMT (famC 0 ⟨#[]⟩ ⟨#[]⟩ none 0 0 0 0 0 0 0 0 0 0 0 0).toArray :: Hp.blk w.heap.size ITT #[.string k, .string v] :: L) → Calls Tryz.prog 66 #[.string k, .string ⟨#[102]⟩, .int .i64 8] w3 fun ev w' => ev = .returned (.tuple #[.int .i64 z, .bool nok]) ∧ Own E w' (Hp.blk (w.heap.size + 1 + 1) FMT (famC 0 ⟨#[]⟩ ⟨#[]⟩ none 0 0 0 0 0 0 0 0 0 0 0 0).toArray :: Hp.blk (w.heap.size + 1 + 1 + 1) 9 #[.string ⟨#[]⟩] :: Hp.blk (w.heap.size + 1) FMT (famC 0 ⟨#[]⟩ ⟨#[]⟩ none 0 0 0 0 0 0 0 0 0 0 0 0).toArray :: Hp.blk w.heap.size ITT #[.string k, .string v] :: L)) := Lib.hid fun w3 h3 => by
    have hh := recnum_any (E := E) k ⟨#[102]⟩ 8 w3 hk hG.cons.cons.cons.cons h3
    rw [hq] at hh
    exact hh
  clear h h1 h2 h3 h4
  cases nok with
  | false =>
    have HN : Hid (∀ f : FamV, f.R ≠ (k, v, 0)) := Lib.hid fun f hf => by
      have := (fam_reads hf).2.1
      rw [hq] at this
      cases this
    clear hq hG hM hk hv
    go_enter Tryz.func48, Tryz.ntmps48
    go_wp2_with (refine (KN.out _ H3.out).mono ?_; clear H3; rintro ev w2 ⟨rfl, h⟩; have H3 := Lib.hid h; clear h)
    have h := H3.out.drew
    refine wp_region_text [] (fun _ => True) (by kernel_rfl) ?_ (fun hS => ?_)
    · trivial
    refine gp 0 (some 16) ?_
    refine gp 1 (some 17) ?_
    refine gp 2 (some 18) ?_
    refine gs 3 (some 19) ?_
    refine gs 4 (some 20) ?_
    refine gs 5 (some 21) ?_
    refine gs 6 (some 22) ?_
    refine gs 7 (some 23) ?_
    refine gp 8 (some 24) ?_
    refine wpAnyG_done (by kernel_rfl) ?_ _
    refine NoPanic.normal ?_
    clear H3
    have H3 := Lib.hid h.f2
    clear h
    go_wp2_with (with_reducible refine at_slot (k := none) ?_; refine wpList_store_whole (o := ⟨none, _, _, _, _, _⟩) (cs := (famC 0 ⟨#[]⟩ ⟨#[]⟩ none 0 0 0 0 0 0 0 0 0 0 0 0)) (vs := (famC 0 ⟨#[]⟩ ⟨#[]⟩ none 0 0 0 0 0 0 0 0 0 0 0 0)) H3.out rfl (fam_one _ _ _ _ _ _ _ _ _ _ _ _ _ _ _ _) (by kernel_rfl) rfl rfl rfl rfl ?_; clear H3; intro w7 h; have H8 := Lib.hid h; clear h)
    refine bodyPost_ret (results_ct rfl rfl H8.out hd hrow (by kernel_rfl)) rfl ?_
    exact .inr ⟨rfl, HN.out, H8.out.drop.drop.drop.drop⟩
  | true =>
    obtain ⟨cl, su, sT, cr, us, ii, ab, gr, ge, tk, st, en, co, ok, hr⟩ : ∃ cl su sT cr us ii ab gr ge tk st en co ok, readV famKs v = ([.s cl, .s su, .s sT, .n cr, .n us, .n ii, .n ab, .n gr, .n ge, .n tk, .n st, .n en, .n co], ok) := ⟨_, _, _, _, _, _, _, _, _, _, _, _, _, _, rfl⟩
    have hT : sT.size ≤ 4000000000 := by
      have h9 : ((readV famKs v).1.getD 2 (.n 0)).str.size ≤ 255 := rText_size _ _
      rw [hr] at h9
      have h8 : sT.size ≤ 255 := h9
      omega
    obtain ⟨xs, hxs⟩ : ∃ xs, xs = (parseV sT).1 := ⟨_, rfl⟩
    obtain ⟨n, hn⟩ : ∃ n, n = xs.length := ⟨_, rfl⟩
    have HNO : Hid (∀ f : FamV, f.R = (k, v, 0) → ok = true ∧ (famR z cl su xs cr us ii ab gr ge tk st en co) = (k, v, 0)) := Lib.hid fun f hf => by
      obtain ⟨-, e1, e2, e3⟩ := fam_reads hf
      rw [hq] at e1
      rw [hr] at e2
      obtain ⟨qid, qcl, qsu, qxs, qcr, qus, qii, qab, qgr, qge, qtk, qst, qen, qco⟩ := f
      simp only [Prod.mk.injEq, List.cons.injEq, Fv.s.injEq, Fv.n.injEq, and_true] at e1 e2 e3
      obtain rfl := e1
      obtain ⟨⟨rfl, rfl, rfl, rfl, rfl, rfl, rfl, rfl, rfl, rfl, rfl, rfl, rfl⟩, rfl⟩ := e2
      refine ⟨rfl, ?_⟩
      rw [hxs, e3]
      exact hf
    have HSZ : Hid (xs.length ≤ 8) := Lib.hid (by
      rw [hxs]
      rcases parse_right sT with ⟨-, h⟩ | ⟨h, -⟩
      · exact ((fit_iff _).1 (scErr_zero h).2.2).1
      · rw [h]; exact Nat.zero_le _)
    have KR : Hid (∀ (bb : Nat) (w3 : World), Own E w3 (Hp.blk bb FT ((famFs (w.heap.size + 1 + 1) (w.heap.size + 1 + 1 + 1)).flatMap enF).toArray :: Hp.blk (w.heap.size + 1 + 1) FMT (famC 0 ⟨#[]⟩ ⟨#[]⟩ none 0 0 0 0 0 0 0 0 0 0 0 0).toArray :: Hp.blk (w.heap.size + 1 + 1 + 1) 9 #[.string ⟨#[]⟩] :: Hp.blk (w.heap.size + 1) FMT (famC 0 ⟨#[]⟩ ⟨#[]⟩ none 0 0 0 0 0 0 0 0 0 0 0 0).toArray :: Hp.blk w.heap.size ITT #[.string k, .string v] :: L) →
        Calls Tryz.prog 67 #[.slice (some ⟨bb, 0, none⟩) 13 13, .string v] w3 fun ev w' => ev = .returned (.bool ok) ∧ Own E w' (Hp.blk (w.heap.size + 1 + 1) FMT (famC 0 cl su none 0 0 cr us ii ab gr ge tk st en co).toArray :: Hp.blk (w.heap.size + 1 + 1 + 1) 9 #[.string sT] :: Hp.blk (w.heap.size + 1) FMT (famC 0 ⟨#[]⟩ ⟨#[]⟩ none 0 0 0 0 0 0 0 0 0 0 0 0).toArray :: Hp.blk w.heap.size ITT #[.string k, .string v] :: L)) := Lib.hid fun bb w3 h3 => by
      have h4 : Own E w3 (Hp.blk bb FT ((famFs (w.heap.size + 1 + 1) (w.heap.size + 1 + 1 + 1)).flatMap enF).toArray :: famP (w.heap.size + 1 + 1) (w.heap.size + 1 + 1 + 1) [.string ⟨#[]⟩, .string ⟨#[]⟩, .string ⟨#[]⟩, .int .i64 0, .int .i64 0, .int .i64 0, .int .i64 0, .int .i64 0, .int .i64 0, .int .i64 0, .int .i64 0, .int .i64 0, .int .i64 0] :: Hp.blk (w.heap.size + 1) FMT (famC 0 ⟨#[]⟩ ⟨#[]⟩ none 0 0 0 0 0 0 0 0 0 0 0 0).toArray :: Hp.blk w.heap.size ITT #[.string k, .string v] :: L) := (Own.sep2.2 h3.f2.f2).f1
      have hh := read_blk (E := E) bb 13 (famFs (w.heap.size + 1 + 1) (w.heap.size + 1 + 1 + 1)) v _ [.string ⟨#[]⟩, .string ⟨#[]⟩, .string ⟨#[]⟩, .int .i64 0, .int .i64 0, .int .i64 0, .int .i64 0, .int .i64 0, .int .i64 0, .int .i64 0, .int .i64 0, .int .i64 0, .int .i64 0] w3 rfl (by omega) hv (places_fam _ _) rfl hG.cons.cons h4
      rw [show (famFs (w.heap.size + 1 + 1) (w.heap.size + 1 + 1 + 1)).map (·.1) = famKs from rfl, hr] at hh
      refine hh.mono ?_
      rintro ev w' ⟨rfl, h⟩
      exact ⟨rfl, Own.sep2.1 h⟩
    have KNM : Hid (∀ w3 : World, Own E w3 (Hp.blk (w.heap.size + 1 + 1) FMT (famC z cl su none 0 0 cr us ii ab gr ge tk st en co).toArray :: Hp.blk (w.heap.size + 1 + 1 + 1) 9 #[.string sT] :: Hp.blk (w.heap.size + 1) FMT (famC 0 ⟨#[]⟩ ⟨#[]⟩ none 0 0 0 0 0 0 0 0 0 0 0 0).toArray :: Hp.blk w.heap.size ITT #[.string k, .string v] :: L) → Calls Tryz.prog 94 #[.string sT] w3 fun ev w' => ∃ (A : Option Addr) (cc : Nat) (b : Bool), ev = .returned (.tuple #[.slice A n cc, .bool b]) ∧ Own E w' (Hp.lst ST (.slice A n cc) (xs.map Value.string) :: Hp.blk (w.heap.size + 1 + 1) FMT (famC z cl su none 0 0 cr us ii ab gr ge tk st en co).toArray :: Hp.blk (w.heap.size + 1 + 1 + 1) 9 #[.string sT] :: Hp.blk (w.heap.size + 1) FMT (famC 0 ⟨#[]⟩ ⟨#[]⟩ none 0 0 0 0 0 0 0 0 0 0 0 0).toArray :: Hp.blk w.heap.size ITT #[.string k, .string v] :: L)) := Lib.hid fun w3 h3 => by
      rw [hn, hxs]
      exact names_any sT w3 hT hM.cons.cons.cons.cons h3
    have HPR : Hid (∀ (A : Option Addr) (cc : Nat) (w3 : World), Own E w3 (Hp.blk (w.heap.size + 1 + 1) FMT (famC z cl su A n cc cr us ii ab gr ge tk st en co).toArray :: Hp.lst ST (.slice A n cc) (xs.map Value.string) :: Hp.blk (w.heap.size + 1 + 1 + 1) 9 #[.string sT] :: Hp.blk (w.heap.size + 1) FMT (famC 0 ⟨#[]⟩ ⟨#[]⟩ none 0 0 0 0 0 0 0 0 0 0 0 0).toArray :: Hp.blk w.heap.size ITT #[.string k, .string v] :: L) → Calls Tryz.prog 28 #[.agg (famC z cl su A n cc cr us ii ab gr ge tk st en co).toArray] w3 fun ev w' => ev = .returned (.tuple #[.agg #[.string (famR z cl su xs cr us ii ab gr ge tk st en co).1, .string (famR z cl su xs cr us ii ab gr ge tk st en co).2.1], .int .i64 (famR z cl su xs cr us ii ab gr ge tk st en co).2.2]) ∧ Own E w' (Hp.blk (w.heap.size + 1 + 1) FMT (famC z cl su A n cc cr us ii ab gr ge tk st en co).toArray :: Hp.lst ST (.slice A n cc) (xs.map Value.string) :: Hp.blk (w.heap.size + 1 + 1 + 1) 9 #[.string sT] :: Hp.blk (w.heap.size + 1) FMT (famC 0 ⟨#[]⟩ ⟨#[]⟩ none 0 0 0 0 0 0 0 0 0 0 0 0).toArray :: Hp.blk w.heap.size ITT #[.string k, .string v] :: L)) := Lib.hid fun A cc w3 h3 => by
      obtain ⟨a, h4, ha, hb⟩ := h3.f1.opens
      obtain ⟨hr, hc, -, -⟩ := lst_rds ha
      refine (printfam_any z cl su A n cc cr us ii ab gr ge tk st en co xs w3 hr hc (by have := HSZ.out; omega) hG.cons.cons.cons.cons.cons h4).mono ?_
      rintro ev w' ⟨rfl, h⟩
      exact ⟨rfl, (hb _ _ h).f1⟩
    have HC : Hid (∀ w' : World, Own E w' (Hp.blk (w.heap.size + 1 + 1) FMT (famC 0 ⟨#[]⟩ ⟨#[]⟩ none 0 0 0 0 0 0 0 0 0 0 0 0).toArray :: Hp.blk (w.heap.size + 1 + 1 + 1) 9 #[.string ⟨#[]⟩] :: Hp.blk (w.heap.size + 1) FMT (famC 0 ⟨#[]⟩ ⟨#[]⟩ none 0 0 0 0 0 0 0 0 0 0 0 0).toArray :: Hp.blk w.heap.size ITT #[.string k, .string v] :: L) → w'.cell? ⟨w.heap.size, 1, none⟩ = some (.string v)) := Lib.hid fun w' h => by rw [h.f3.cell 1]; rfl
    have HNX := Lib.hid hn
    clear hq hr hG hM hk hv hT hxs hn
    go_enter Tryz.func48, Tryz.ntmps48
    go_wp2_with (refine (KN.out _ H3.out).mono ?_; clear H3; rintro ev w2 ⟨rfl, h⟩; have H3 := Lib.hid h; clear h)
    have h := H3.out.drew
    clear H3
    refine wp_region_text [5] (fun w' => w'.cell? ⟨w.heap.size, 1, none⟩ = some (.string v)) (by kernel_rfl) ?_ (fun hS => ?_)
    · exact HC.out _ h
    refine gp 0 (some 16) ?_
    refine gp 1 (some 17) ?_
    refine gp 2 (some 18) ?_
    refine gp 4 (some 20) ?_
    refine gl 5 (some 21) ?_
    refine gk 3 (some 19) (fun K hK => ?_)
    rw [if_pos (by rfl)]
    go_simp
    refine (familyfields_any _ _ _ h).mono ?_
    clear h
    rintro ev w2 ⟨bb, rfl, h⟩
    refine hK.out _ _ ?_ (fun hS => ?_)
    · exact HC.out _ h.drop
    clear hK K
    try simp only [Act.put, List.setIfInBounds_toArray, List.set_cons_zero, List.set_cons_succ]
    refine wpAnyG_break (i := 6) (oi := ⟨some 22, _, _, _, _, _⟩) (by kernel_rfl) rfl (by kernel_rfl) (fun K hK => ?_)
    rw [if_pos (by rfl)]
    go_simp
    refine (KR.out _ _ h).mono ?_
    clear h
    rintro ev w2 ⟨rfl, h⟩
    refine hK.out _ _ ?_
    clear hK K
    try simp only [Act.put, List.setIfInBounds_toArray, List.set_cons_zero, List.set_cons_succ]
    refine gp 7 (some 23) ?_
    refine gp 8 (some 24) ?_
    refine wpAnyG_done (by kernel_rfl) ?_ _
    refine NoPanic.normal ?_
    cases ok with
    | false =>
      have HN : Hid (∀ f : FamV, f.R ≠ (k, v, 0)) := Lib.hid fun f hf => by
        have := (HNO.out f hf).1
        cases this
      have H3 := Lib.hid h.f2
      clear h
      go_wp2_with (with_reducible refine at_slot (k := none) ?_; refine wpList_store_whole (o := ⟨none, _, _, _, _, _⟩) (cs := (famC 0 ⟨#[]⟩ ⟨#[]⟩ none 0 0 0 0 0 0 0 0 0 0 0 0)) (vs := (famC 0 ⟨#[]⟩ ⟨#[]⟩ none 0 0 0 0 0 0 0 0 0 0 0 0)) H3.out rfl (fam_one _ _ _ _ _ _ _ _ _ _ _ _ _ _ _ _) (by kernel_rfl) rfl rfl rfl rfl ?_; clear H3; intro w7 h; have H8 := Lib.hid h; clear h)
      refine bodyPost_ret (results_ct rfl rfl H8.out hd hrow (by kernel_rfl)) rfl ?_
      exact .inr ⟨rfl, HN.out, H8.out.drop.drop.drop.drop⟩
    | true =>
      have cf := h.f1.cell 0
      simp only [List.getElem?_toArray, List.getElem?_cons_zero] at cf
      obtain ⟨⟨old, ho⟩, hf, hs⟩ := h.put1 0 (.int .i64 z) (show (0 : Nat) < 14 by omega)
      have hs : Own E _ (Hp.blk (w.heap.size + 1 + 1) FMT (famC z cl su none 0 0 cr us ii ab gr ge tk st en co).toArray :: Hp.blk (w.heap.size + 1 + 1 + 1) 9 #[.string sT] :: Hp.blk (w.heap.size + 1) FMT (famC 0 ⟨#[]⟩ ⟨#[]⟩ none 0 0 0 0 0 0 0 0 0 0 0 0).toArray :: Hp.blk w.heap.size ITT #[.string k, .string v] :: L) := hs
      have H3 := Lib.hid hs
      clear h hs
      obtain ⟨x1, x2, er, hpr⟩ : ∃ x1 x2 er, (famR z cl su xs cr us ii ab gr ge tk st en co) = (x1, x2, er) := ⟨_, _, _, rfl⟩
      rw [hpr] at HPR HNO
      have HRR := Lib.hid hpr
      clear hpr
      by_cases he : er = 0
      · subst he
        by_cases hx : x1 = k ∧ x2 = v
        · have HY : Hid ((⟨z, cl, su, xs, cr, us, ii, ab, gr, ge, tk, st, en, co⟩ : FamV).R = (k, v, 0)) := Lib.hid (by
            show (famR z cl su xs cr us ii ab gr ge tk st en co) = _
            rw [HRR.out, hx.1, hx.2])
          have hq : ∀ w, (binOp .neq ITT (.agg #[.string x1, .string x2]) (.agg #[.string k, .string v])).run Tryz.prog w = .ok (.bool false) w := fun w => by rw [run_pair, decide_eq_true hx]; rfl
          clear hx HRR HNO
          go_wp2_with (first
            | ((with_reducible refine (KNM.out _ H3.out).mono ?_); clear H3; rintro ev w3 ⟨A, cc, bb, rfl, h⟩; obtain ⟨⟨old2, ho2⟩, hf2, hs⟩ := h.f1.put1 3 (.slice A n cc) (show (3 : Nat) < 14 by omega); have H3 : Hid (Own E _ (Hp.blk (w.heap.size + 1 + 1) FMT (famC z cl su A n cc cr us ii ab gr ge tk st en co).toArray :: Hp.lst ST (.slice A n cc) (xs.map Value.string) :: Hp.blk (w.heap.size + 1 + 1 + 1) 9 #[.string sT] :: Hp.blk (w.heap.size + 1) FMT (famC 0 ⟨#[]⟩ ⟨#[]⟩ none 0 0 0 0 0 0 0 0 0 0 0 0).toArray :: Hp.blk w.heap.size ITT #[.string k, .string v] :: L)) := Lib.hid hs; clear h hs)
            | (with_reducible refine at_slot (k := some 35) ?_; refine wpList_load_arr (o := ⟨some 35, _, _, _, _, _⟩) H3.out 0 (famC z cl su A n cc cr us ii ab gr ge tk st en co) (fun jj u hu => by simpa using hu) hd hrow (by kernel_rfl) rfl rfl rfl ?_)
            | (with_reducible refine (HPR.out _ _ _ H3.out).mono ?_; clear H3; rintro ev w2 ⟨rfl, h⟩; have H3 := Lib.hid (h.alloc (.cells #[.string x1, .string x2] ITT)); clear h; have p0 := H3.out.f5.cell 0; have p1 := H3.out.f5.cell 1; simp only [List.getElem?_toArray, List.getElem?_cons_zero, List.getElem?_cons_succ] at p0 p1)
            | (with_reducible refine at_slot (k := some 47) ?_; refine wpList_load_arr (o := ⟨some 47, _, _, _, _, _⟩) H3.out.f1 0 (famC z cl su A n cc cr us ii ab gr ge tk st en co) (fun jj u hu => by simpa using hu) hd hrow (by kernel_rfl) rfl rfl rfl ?_)
            | (with_reducible refine at_slot (k := none) ?_; refine wpList_store_whole (o := ⟨none, _, _, _, _, _⟩) (cs := (famC 0 ⟨#[]⟩ ⟨#[]⟩ none 0 0 0 0 0 0 0 0 0 0 0 0)) (vs := (famC z cl su A n cc cr us ii ab gr ge tk st en co)) H3.out.f4 rfl (fam_one _ _ _ _ _ _ _ _ _ _ _ _ _ _ _ _) (by kernel_rfl) rfl rfl rfl rfl ?_; clear H3; intro w7 h; have H8 := Lib.hid h; clear h))
          refine bodyPost_ret (results_ct rfl rfl H8.out hd hrow (by kernel_rfl)) rfl ?_
          obtain rfl := HNX.out
          exact .inl ⟨⟨z, cl, su, xs, cr, us, ii, ab, gr, ge, tk, st, en, co⟩, A, cc, rfl, HY.out, H8.out.drop.drop.drop.f1.drop.f1.drop⟩
        · have HN : Hid (∀ f : FamV, f.R ≠ (k, v, 0)) := Lib.hid fun f hf => by
            have := (HNO.out f hf).2
            injection this with a b
            injection b with b c
            exact hx ⟨a, b⟩
          have hq : ∀ w, (binOp .neq ITT (.agg #[.string x1, .string x2]) (.agg #[.string k, .string v])).run Tryz.prog w = .ok (.bool true) w := fun w => by rw [run_pair, decide_eq_false hx]; rfl
          clear hx HRR HNO
          go_wp2_with (first
            | ((with_reducible refine (KNM.out _ H3.out).mono ?_); clear H3; rintro ev w3 ⟨A, cc, bb, rfl, h⟩; obtain ⟨⟨old2, ho2⟩, hf2, hs⟩ := h.f1.put1 3 (.slice A n cc) (show (3 : Nat) < 14 by omega); have H3 : Hid (Own E _ (Hp.blk (w.heap.size + 1 + 1) FMT (famC z cl su A n cc cr us ii ab gr ge tk st en co).toArray :: Hp.lst ST (.slice A n cc) (xs.map Value.string) :: Hp.blk (w.heap.size + 1 + 1 + 1) 9 #[.string sT] :: Hp.blk (w.heap.size + 1) FMT (famC 0 ⟨#[]⟩ ⟨#[]⟩ none 0 0 0 0 0 0 0 0 0 0 0 0).toArray :: Hp.blk w.heap.size ITT #[.string k, .string v] :: L)) := Lib.hid hs; clear h hs)
            | (with_reducible refine at_slot (k := some 35) ?_; refine wpList_load_arr (o := ⟨some 35, _, _, _, _, _⟩) H3.out 0 (famC z cl su A n cc cr us ii ab gr ge tk st en co) (fun jj u hu => by simpa using hu) hd hrow (by kernel_rfl) rfl rfl rfl ?_)
            | (with_reducible refine (HPR.out _ _ _ H3.out).mono ?_; clear H3; rintro ev w2 ⟨rfl, h⟩; have H3 := Lib.hid (h.alloc (.cells #[.string x1, .string x2] ITT)); clear h; have p0 := H3.out.f5.cell 0; have p1 := H3.out.f5.cell 1; simp only [List.getElem?_toArray, List.getElem?_cons_zero, List.getElem?_cons_succ] at p0 p1)
            | (with_reducible refine at_slot (k := some 47) ?_; refine wpList_load_arr (o := ⟨some 47, _, _, _, _, _⟩) H3.out.f1 0 (famC z cl su A n cc cr us ii ab gr ge tk st en co) (fun jj u hu => by simpa using hu) hd hrow (by kernel_rfl) rfl rfl rfl ?_)
            | (with_reducible refine at_slot (k := none) ?_; refine wpList_store_whole (o := ⟨none, _, _, _, _, _⟩) (cs := (famC 0 ⟨#[]⟩ ⟨#[]⟩ none 0 0 0 0 0 0 0 0 0 0 0 0)) (vs := (famC 0 ⟨#[]⟩ ⟨#[]⟩ none 0 0 0 0 0 0 0 0 0 0 0 0)) H3.out.f4 rfl (fam_one _ _ _ _ _ _ _ _ _ _ _ _ _ _ _ _) (by kernel_rfl) rfl rfl rfl rfl ?_; clear H3; intro w7 h; have H8 := Lib.hid h; clear h))
          refine bodyPost_ret (results_ct rfl rfl H8.out hd hrow (by kernel_rfl)) rfl ?_
          exact .inr ⟨rfl, HN.out, H8.out.drop.drop.drop.drop.drop.drop⟩
      · have HN : Hid (∀ f : FamV, f.R ≠ (k, v, 0)) := Lib.hid fun f hf => by
          have := (HNO.out f hf).2
          injection this with a b
          injection b with b c
          exact he c
        have hz : (er != 0) = true := by rw [bne_iff_ne]; exact he
        clear he HRR HNO
        go_wp2_with (first
          | ((with_reducible refine (KNM.out _ H3.out).mono ?_); clear H3; rintro ev w3 ⟨A, cc, bb, rfl, h⟩; obtain ⟨⟨old2, ho2⟩, hf2, hs⟩ := h.f1.put1 3 (.slice A n cc) (show (3 : Nat) < 14 by omega); have H3 : Hid (Own E _ (Hp.blk (w.heap.size + 1 + 1) FMT (famC z cl su A n cc cr us ii ab gr ge tk st en co).toArray :: Hp.lst ST (.slice A n cc) (xs.map Value.string) :: Hp.blk (w.heap.size + 1 + 1 + 1) 9 #[.string sT] :: Hp.blk (w.heap.size + 1) FMT (famC 0 ⟨#[]⟩ ⟨#[]⟩ none 0 0 0 0 0 0 0 0 0 0 0 0).toArray :: Hp.blk w.heap.size ITT #[.string k, .string v] :: L)) := Lib.hid hs; clear h hs)
          | (with_reducible refine at_slot (k := some 35) ?_; refine wpList_load_arr (o := ⟨some 35, _, _, _, _, _⟩) H3.out 0 (famC z cl su A n cc cr us ii ab gr ge tk st en co) (fun jj u hu => by simpa using hu) hd hrow (by kernel_rfl) rfl rfl rfl ?_)
          | (with_reducible refine (HPR.out _ _ _ H3.out).mono ?_; clear H3; rintro ev w2 ⟨rfl, h⟩; have H3 := Lib.hid (h.alloc (.cells #[.string x1, .string x2] ITT)); clear h; have p0 := H3.out.f5.cell 0; have p1 := H3.out.f5.cell 1; simp only [List.getElem?_toArray, List.getElem?_cons_zero, List.getElem?_cons_succ] at p0 p1)
          | (with_reducible refine at_slot (k := some 47) ?_; refine wpList_load_arr (o := ⟨some 47, _, _, _, _, _⟩) H3.out.f1 0 (famC z cl su A n cc cr us ii ab gr ge tk st en co) (fun jj u hu => by simpa using hu) hd hrow (by kernel_rfl) rfl rfl rfl ?_)
          | (with_reducible refine at_slot (k := none) ?_; refine wpList_store_whole (o := ⟨none, _, _, _, _, _⟩) (cs := (famC 0 ⟨#[]⟩ ⟨#[]⟩ none 0 0 0 0 0 0 0 0 0 0 0 0)) (vs := (famC 0 ⟨#[]⟩ ⟨#[]⟩ none 0 0 0 0 0 0 0 0 0 0 0 0)) H3.out.f4 rfl (fam_one _ _ _ _ _ _ _ _ _ _ _ _ _ _ _ _) (by kernel_rfl) rfl rfl rfl rfl ?_; clear H3; intro w7 h; have H8 := Lib.hid h; clear h))
        refine bodyPost_ret (results_ct rfl rfl H8.out hd hrow (by kernel_rfl)) rfl ?_
        exact .inr ⟨rfl, HN.out, H8.out.drop.drop.drop.drop.drop.drop⟩
end
end Go.Proofs.YtabibfabieghpaaGreatDoor
