/- ParseKey. ParseEvent (printed by gen_paevent.py out of PaKey). -/
import Derived.Test.YtabibfabieghpaaGreatDoorPkz0
import Derived.Test.YtabibfabieghpaaGreatDoorPkz8
namespace Go.Proofs.YtabibfabieghpaaGreatDoor
open Go.RowKit
abbrev KEYT : TypeId := 25
/-- The cells of a block behind its first. -/
theorem places_tail {E : World} (b : Nat) (t : TypeId) (z : Value) (n : Nat) : Places E (fun vs => Hp.blk b t (z :: vs).toArray) ((List.range n).map fun i => ⟨b, i + 1, none⟩) where
  set w vs i ad v M hl hi h := by
    have hlen : vs.length = n := by simpa using hl
    have hin : i < n := by
      have := (List.getElem?_eq_some_iff.1 hi).1
      simpa using this
    obtain rfl : (⟨b, i + 1, none⟩ : Addr) = ad := by simpa [List.getElem?_map, List.getElem?_range hin] using hi
    obtain ⟨h1, h2, h3⟩ := h.put1 (i + 1) v (by rw [List.size_toArray, List.length_cons]; omega)
    refine ⟨h1, h2, ?_⟩
    have e : (z :: vs).toArray.setIfInBounds (i + 1) v = (z :: vs.set i v).toArray := by simp
    rw [e] at h3
    exact h3
def keyKs : List Fk := [.raw 24, .num 6, .num 6]
def keyQ (k v : ByteArray) : List Value × Int :=
  if (numberV k ⟨#[107]⟩ 4).2 = true ∧ (readV keyKs v).2 = true ∧ keyR (numberV k ⟨#[107]⟩ 4).1 ((readV keyKs v).1.getD 0 (.n 0)).str ((readV keyKs v).1.getD 1 (.n 0)).num ((readV keyKs v).1.getD 2 (.n 0)).num = (k, v, 0) then
    ([.int .i64 (numberV k ⟨#[107]⟩ 4).1, .string ((readV keyKs v).1.getD 0 (.n 0)).str, .int .i64 ((readV keyKs v).1.getD 1 (.n 0)).num, .int .i64 ((readV keyKs v).1.getD 2 (.n 0)).num], 0)
  else ([.int .i64 0, .string noB, .int .i64 0, .int .i64 0], 141)
theorem keyt_u : ∃ d, Tryz.prog.underlying KEYT = some d ∧ d.isRow = true := by
  cases e : Tryz.prog.underlying KEYT with
  | none => exact absurd e (by rw [Tryz.underlying25]; simp)
  | some d => exact ⟨d, rfl, by rw [Tryz.underlying25] at e; injection e with e; subst e; rfl⟩
theorem key_one (g : Int) (s : ByteArray) (a b : Int) : ∀ v ∈ [Value.int .i64 g, .string s, .int .i64 a, .int .i64 b], v.oneCell' = true := fun v hv => by
  simp only [List.mem_cons, List.not_mem_nil, or_false] at hv
  rcases hv with rfl | rfl | rfl | rfl <;> rfl
section
variable {E : World} {L : List Hp}
set_option maxRecDepth 20000 in
set_option maxHeartbeats 8000000 in
theorem parsekey_any (k v : ByteArray) (w : World) (hk : k.size ≤ 1000000000000000) (hv : v.size ≤ 1000000000000000) (hG : Laid0 E L) (h : Own E w L) :
    Calls Tryz.prog 18 #[.agg #[.string k, .string v]] w fun ev w' => ev = .returned (.tuple #[.agg (keyQ k v).1.toArray, .int .i64 (keyQ k v).2]) ∧ Own E w' L := by
  have h1 := h.alloc (.cells #[.string k, .string v] ITT)
  have h2 := h1.alloc (.cells #[.int .i64 0, .string ⟨#[]⟩, .int .i64 0, .int .i64 0] KEYT)
  have h3 := h2.alloc (.cells #[.int .i64 0, .string ⟨#[]⟩, .int .i64 0, .int .i64 0] KEYT)
  rw [alloc_size, alloc_size] at h3
  have H3 := Lib.hid (show Own E _ (Hp.blk (w.heap.size + 1 + 1) KEYT #[.int .i64 0, .string ⟨#[]⟩, .int .i64 0, .int .i64 0] :: Hp.blk (w.heap.size + 1) KEYT #[.int .i64 0, .string ⟨#[]⟩, .int .i64 0, .int .i64 0] :: Hp.blk w.heap.size ITT #[.string k, .string v] :: L) from h3)
  obtain ⟨dd, hd, hrow⟩ := keyt_u
  obtain ⟨z, nok, hq⟩ : ∃ z nok, numberV k ⟨#[107]⟩ 4 = (z, nok) := ⟨_, _, rfl⟩
  have KN : Hid (∀ w3 : World, Own E w3 (Hp.blk (w.heap.size + 1 + 1) KEYT #[.int .i64 0, .string ⟨#[]⟩, .int .i64 0, .int .i64 0] :: Hp.blk (w.heap.size + 1) KEYT #[.int .i64 0, .string ⟨#[]⟩, .int .i64 0, .int .i64 0] :: Hp.blk w.heap.size ITT #[.string k, .string v] :: L) → Calls Tryz.prog 66 #[.string k, .string ⟨#[107]⟩, .int .i64 4] w3 fun ev w' => ev = .returned (.tuple #[.int .i64 z, .bool nok]) ∧ Own E w' (Hp.blk (w.heap.size + 1 + 1) KEYT #[.int .i64 0, .string ⟨#[]⟩, .int .i64 0, .int .i64 0] :: Hp.blk (w.heap.size + 1) KEYT #[.int .i64 0, .string ⟨#[]⟩, .int .i64 0, .int .i64 0] :: Hp.blk w.heap.size ITT #[.string k, .string v] :: L)) := Lib.hid fun w3 h3 => by
    have hh := recnum_any (E := E) k ⟨#[107]⟩ 4 w3 hk hG.cons.cons.cons h3
    rw [hq] at hh
    exact hh
  clear h h1 h2 h3
  cases nok with
  | false =>
    have HR : Hid (keyQ k v = ([.int .i64 0, .string noB, .int .i64 0, .int .i64 0], 141)) := Lib.hid (if_neg fun hm => by have := hm.1; rw [hq] at this; cases this)
    clear hq hG hk hv
    go_enter Tryz.func18, Tryz.ntmps18
    go_wp2_with (with_reducible refine (KN.out _ H3.out).mono ?_; clear H3; rintro ev w2 ⟨rfl, h⟩; have H3 := Lib.hid h; clear h)
    have h := H3.out.drew
    refine wp_region_text [] (fun _ => True) (by kernel_rfl) ?_ (fun hS => ?_)
    · trivial
    refine gp 0 (some 15) ?_
    refine gp 1 (some 16) ?_
    refine gp 2 (some 17) ?_
    refine gs 3 (some 18) ?_
    refine gs 4 (some 19) ?_
    refine gs 5 (some 20) ?_
    refine gs 6 (some 21) ?_
    refine gs 7 (some 22) ?_
    refine gp 8 (some 23) ?_
    refine wpAnyG_done (by kernel_rfl) ?_ _
    refine NoPanic.normal ?_
    clear H3
    have H3 := Lib.hid h.f1
    clear h
    go_wp2_with (with_reducible refine at_slot (k := none) ?_; refine wpList_store_whole (o := ⟨none, _, _, _, _, _⟩) (cs := [.int .i64 0, .string ⟨#[]⟩, .int .i64 0, .int .i64 0]) (vs := [.int .i64 0, .string ⟨#[]⟩, .int .i64 0, .int .i64 0]) H3.out rfl (key_one 0 ⟨#[]⟩ 0 0) (by kernel_rfl) rfl rfl rfl rfl ?_; clear H3; intro w7 h; have H8 := Lib.hid h; clear h)
    refine bodyPost_ret (results_ct rfl rfl H8.out hd hrow (by kernel_rfl)) rfl ?_
    exact ⟨by rw [HR.out]; rfl, H8.out.drop.drop.drop⟩
  | true =>
    obtain ⟨s, a, b, ok, hr⟩ : ∃ s a b ok, readV keyKs v = ([.s s, .n a, .n b], ok) := ⟨_, _, _, _, rfl⟩
    have KR : Hid (∀ (bb : Nat) (w3 : World), Own E w3 (Hp.blk bb FT ((keyFs (w.heap.size + 1 + 1)).flatMap enF).toArray :: Hp.blk (w.heap.size + 1 + 1) KEYT #[.int .i64 0, .string ⟨#[]⟩, .int .i64 0, .int .i64 0] :: Hp.blk (w.heap.size + 1) KEYT #[.int .i64 0, .string ⟨#[]⟩, .int .i64 0, .int .i64 0] :: Hp.blk w.heap.size ITT #[.string k, .string v] :: L) →
        Calls Tryz.prog 67 #[.slice (some ⟨bb, 0, none⟩) 3 3, .string v] w3 fun ev w' => ev = .returned (.bool ok) ∧ Own E w' (Hp.blk (w.heap.size + 1 + 1) KEYT #[.int .i64 0, .string s, .int .i64 a, .int .i64 b] :: Hp.blk (w.heap.size + 1) KEYT #[.int .i64 0, .string ⟨#[]⟩, .int .i64 0, .int .i64 0] :: Hp.blk w.heap.size ITT #[.string k, .string v] :: L)) := Lib.hid fun bb w3 h3 => by
      have hh := read_blk (E := E) bb 3 (keyFs (w.heap.size + 1 + 1)) v (fun vs => Hp.blk (w.heap.size + 1 + 1) KEYT (.int .i64 0 :: vs).toArray) [.string ⟨#[]⟩, .int .i64 0, .int .i64 0] w3 rfl (by omega) hv (places_tail _ _ _ 3) rfl hG.cons.cons h3
      rw [show (keyFs (w.heap.size + 1 + 1)).map (·.1) = keyKs from rfl, hr] at hh
      exact hh
    have HG := Lib.hid hG
    have HPR : Hid (∀ w3 : World, Own E w3 (Hp.blk (w.heap.size + 1 + 1) KEYT #[.int .i64 z, .string s, .int .i64 a, .int .i64 b] :: Hp.blk (w.heap.size + 1) KEYT #[.int .i64 0, .string ⟨#[]⟩, .int .i64 0, .int .i64 0] :: Hp.blk w.heap.size ITT #[.string k, .string v] :: L) → Calls Tryz.prog 16 #[.agg #[.int .i64 z, .string s, .int .i64 a, .int .i64 b]] w3 fun ev w' => ev = .returned (.tuple #[.agg #[.string (keyR z s a b).1, .string (keyR z s a b).2.1], .int .i64 (keyR z s a b).2.2]) ∧ Own E w' (Hp.blk (w.heap.size + 1 + 1) KEYT #[.int .i64 z, .string s, .int .i64 a, .int .i64 b] :: Hp.blk (w.heap.size + 1) KEYT #[.int .i64 0, .string ⟨#[]⟩, .int .i64 0, .int .i64 0] :: Hp.blk w.heap.size ITT #[.string k, .string v] :: L)) := Lib.hid fun w3 h3 => printkey_any z s a b w3 HG.out.cons.cons.cons h3
    have HQ : Hid (keyQ k v = if ok = true ∧ keyR z s a b = (k, v, 0) then ([.int .i64 z, .string s, .int .i64 a, .int .i64 b], 0) else ([.int .i64 0, .string noB, .int .i64 0, .int .i64 0], 141)) := Lib.hid (by
      unfold keyQ
      rw [hq, hr]
      show (if true = true ∧ ok = true ∧ keyR z s a b = (k, v, 0) then _ else _) = _
      by_cases hc : ok = true ∧ keyR z s a b = (k, v, 0)
      · rw [if_pos hc, if_pos ⟨rfl, hc⟩]; rfl
      · rw [if_neg hc, if_neg fun q => hc q.2])
    have HC : Hid (∀ w' : World, Own E w' (Hp.blk (w.heap.size + 1 + 1) KEYT #[.int .i64 0, .string ⟨#[]⟩, .int .i64 0, .int .i64 0] :: Hp.blk (w.heap.size + 1) KEYT #[.int .i64 0, .string ⟨#[]⟩, .int .i64 0, .int .i64 0] :: Hp.blk w.heap.size ITT #[.string k, .string v] :: L) → w'.cell? ⟨w.heap.size, 1, none⟩ = some (.string v)) := Lib.hid fun w' h => by rw [h.f2.cell 1]; rfl
    clear hq hr hG hk hv
    go_enter Tryz.func18, Tryz.ntmps18
    go_wp2_with (with_reducible refine (KN.out _ H3.out).mono ?_; clear H3; rintro ev w2 ⟨rfl, h⟩; have H3 := Lib.hid h; clear h)
    have h := H3.out.drew
    clear H3
    refine wp_region_text [5] (fun w' => w'.cell? ⟨w.heap.size, 1, none⟩ = some (.string v)) (by kernel_rfl) ?_ (fun hS => ?_)
    · exact HC.out _ h
    refine gp 0 (some 15) ?_
    refine gp 1 (some 16) ?_
    refine gp 2 (some 17) ?_
    refine gp 4 (some 19) ?_
    refine gl 5 (some 20) ?_
    refine gk 3 (some 18) (fun K hK => ?_)
    rw [if_pos (by rfl)]
    go_simp
    refine (keyfields_any _ _ h).mono ?_
    clear h
    rintro ev w2 ⟨bb, rfl, h⟩
    refine hK.out _ _ ?_ (fun hS => ?_)
    · exact HC.out _ h.drop
    clear hK K
    try simp only [Act.put, List.setIfInBounds_toArray, List.set_cons_zero, List.set_cons_succ]
    refine wpAnyG_break (i := 6) (oi := ⟨some 21, _, _, _, _, _⟩) (by kernel_rfl) rfl (by kernel_rfl) (fun K hK => ?_)
    rw [if_pos (by rfl)]
    go_simp
    refine (KR.out _ _ h).mono ?_
    clear h
    rintro ev w2 ⟨rfl, h⟩
    refine hK.out _ _ ?_
    clear hK K
    try simp only [Act.put, List.setIfInBounds_toArray, List.set_cons_zero, List.set_cons_succ]
    refine gp 7 (some 22) ?_
    refine gp 8 (some 23) ?_
    refine wpAnyG_done (by kernel_rfl) ?_ _
    refine NoPanic.normal ?_
    cases ok with
    | false =>
      have HR : Hid (keyQ k v = ([.int .i64 0, .string noB, .int .i64 0, .int .i64 0], 141)) := Lib.hid (by rw [HQ.out]; exact if_neg fun hm => by cases hm.1)
      have H3 := Lib.hid h.f1
      clear h
      go_wp2_with (with_reducible refine at_slot (k := none) ?_; refine wpList_store_whole (o := ⟨none, _, _, _, _, _⟩) (cs := [.int .i64 0, .string ⟨#[]⟩, .int .i64 0, .int .i64 0]) (vs := [.int .i64 0, .string ⟨#[]⟩, .int .i64 0, .int .i64 0]) H3.out rfl (key_one 0 ⟨#[]⟩ 0 0) (by kernel_rfl) rfl rfl rfl rfl ?_; clear H3; intro w7 h; have H8 := Lib.hid h; clear h)
      refine bodyPost_ret (results_ct rfl rfl H8.out hd hrow (by kernel_rfl)) rfl ?_
      exact ⟨by rw [HR.out]; rfl, H8.out.drop.drop.drop⟩
    | true =>
      obtain ⟨⟨old, ho⟩, hf, hs⟩ := h.put1 0 (.int .i64 z) (show (0 : Nat) < 4 by omega)
      have hs : Own E _ (Hp.blk (w.heap.size + 1 + 1) KEYT #[.int .i64 z, .string s, .int .i64 a, .int .i64 b] :: Hp.blk (w.heap.size + 1) KEYT #[.int .i64 0, .string ⟨#[]⟩, .int .i64 0, .int .i64 0] :: Hp.blk w.heap.size ITT #[.string k, .string v] :: L) := hs
      have H3 := Lib.hid hs
      clear h hs
      obtain ⟨x1, x2, er, hpr⟩ : ∃ x1 x2 er, keyR z s a b = (x1, x2, er) := ⟨_, _, _, rfl⟩
      rw [hpr] at HPR HQ
      clear hpr
      by_cases he : er = 0
      · subst he
        by_cases hx : x1 = k ∧ x2 = v
        · have HR : Hid (keyQ k v = ([.int .i64 z, .string s, .int .i64 a, .int .i64 b], 0)) := Lib.hid (by rw [HQ.out]; exact if_pos ⟨rfl, by rw [hx.1, hx.2]⟩)
          have hq : ∀ w, (binOp .neq ITT (.agg #[.string x1, .string x2]) (.agg #[.string k, .string v])).run Tryz.prog w = .ok (.bool false) w := fun w => by rw [run_pair, decide_eq_true hx]; rfl
          clear hx
          go_wp2_with (first
            | (with_reducible refine at_slot (k := some 28) ?_; refine wpList_load_arr (o := ⟨some 28, _, _, _, _, _⟩) H3.out 0 [.int .i64 z, .string s, .int .i64 a, .int .i64 b] (fun j u hu => by simpa using hu) hd hrow (by kernel_rfl) rfl rfl rfl ?_)
            | (with_reducible refine (HPR.out _ H3.out).mono ?_; clear H3; rintro ev w2 ⟨rfl, h⟩; have H3 := Lib.hid (h.alloc (.cells #[.string x1, .string x2] ITT)); clear h; have p0 := H3.out.f3.cell 0; have p1 := H3.out.f3.cell 1; simp only [List.getElem?_toArray, List.getElem?_cons_zero, List.getElem?_cons_succ] at p0 p1)
            | (with_reducible refine at_slot (k := some 40) ?_; refine wpList_load_arr (o := ⟨some 40, _, _, _, _, _⟩) H3.out.f1 0 [.int .i64 z, .string s, .int .i64 a, .int .i64 b] (fun j u hu => by simpa using hu) hd hrow (by kernel_rfl) rfl rfl rfl ?_)
            | (with_reducible refine at_slot (k := none) ?_; refine wpList_store_whole (o := ⟨none, _, _, _, _, _⟩) (cs := [.int .i64 0, .string ⟨#[]⟩, .int .i64 0, .int .i64 0]) (vs := [.int .i64 z, .string s, .int .i64 a, .int .i64 b]) H3.out.f2 rfl (key_one _ _ _ _) (by kernel_rfl) rfl rfl rfl rfl ?_; clear H3; intro w7 h; have H8 := Lib.hid h; clear h))
          refine bodyPost_ret (results_ct rfl rfl H8.out hd hrow (by kernel_rfl)) rfl ?_
          exact ⟨by rw [HR.out]; rfl, H8.out.drop.drop.drop.drop⟩
        · have HR : Hid (keyQ k v = ([.int .i64 0, .string noB, .int .i64 0, .int .i64 0], 141)) := Lib.hid (by rw [HQ.out]; exact if_neg fun hm => hx ⟨congrArg (·.1) hm.2, congrArg (·.2.1) hm.2⟩)
          have hq : ∀ w, (binOp .neq ITT (.agg #[.string x1, .string x2]) (.agg #[.string k, .string v])).run Tryz.prog w = .ok (.bool true) w := fun w => by rw [run_pair, decide_eq_false hx]; rfl
          clear hx
          go_wp2_with (first
            | (with_reducible refine at_slot (k := some 28) ?_; refine wpList_load_arr (o := ⟨some 28, _, _, _, _, _⟩) H3.out 0 [.int .i64 z, .string s, .int .i64 a, .int .i64 b] (fun j u hu => by simpa using hu) hd hrow (by kernel_rfl) rfl rfl rfl ?_)
            | (with_reducible refine (HPR.out _ H3.out).mono ?_; clear H3; rintro ev w2 ⟨rfl, h⟩; have H3 := Lib.hid (h.alloc (.cells #[.string x1, .string x2] ITT)); clear h; have p0 := H3.out.f3.cell 0; have p1 := H3.out.f3.cell 1; simp only [List.getElem?_toArray, List.getElem?_cons_zero, List.getElem?_cons_succ] at p0 p1)
            | (with_reducible refine at_slot (k := some 40) ?_; refine wpList_load_arr (o := ⟨some 40, _, _, _, _, _⟩) H3.out.f1 0 [.int .i64 z, .string s, .int .i64 a, .int .i64 b] (fun j u hu => by simpa using hu) hd hrow (by kernel_rfl) rfl rfl rfl ?_)
            | (with_reducible refine at_slot (k := none) ?_; refine wpList_store_whole (o := ⟨none, _, _, _, _, _⟩) (cs := [.int .i64 0, .string ⟨#[]⟩, .int .i64 0, .int .i64 0]) (vs := [.int .i64 0, .string ⟨#[]⟩, .int .i64 0, .int .i64 0]) H3.out.f2 rfl (key_one _ _ _ _) (by kernel_rfl) rfl rfl rfl rfl ?_; clear H3; intro w7 h; have H8 := Lib.hid h; clear h))
          refine bodyPost_ret (results_ct rfl rfl H8.out hd hrow (by kernel_rfl)) rfl ?_
          exact ⟨by rw [HR.out]; rfl, H8.out.drop.drop.drop.drop⟩
      · have HR : Hid (keyQ k v = ([.int .i64 0, .string noB, .int .i64 0, .int .i64 0], 141)) := Lib.hid (by rw [HQ.out]; exact if_neg fun hm => he (congrArg (·.2.2) hm.2))
        have hz : (er != 0) = true := by rw [bne_iff_ne]; exact he
        clear he
        go_wp2_with (first
          | (with_reducible refine at_slot (k := some 28) ?_; refine wpList_load_arr (o := ⟨some 28, _, _, _, _, _⟩) H3.out 0 [.int .i64 z, .string s, .int .i64 a, .int .i64 b] (fun j u hu => by simpa using hu) hd hrow (by kernel_rfl) rfl rfl rfl ?_)
          | (with_reducible refine (HPR.out _ H3.out).mono ?_; clear H3; rintro ev w2 ⟨rfl, h⟩; have H3 := Lib.hid (h.alloc (.cells #[.string x1, .string x2] ITT)); clear h; have p0 := H3.out.f3.cell 0; have p1 := H3.out.f3.cell 1; simp only [List.getElem?_toArray, List.getElem?_cons_zero, List.getElem?_cons_succ] at p0 p1)
          | (with_reducible refine at_slot (k := some 40) ?_; refine wpList_load_arr (o := ⟨some 40, _, _, _, _, _⟩) H3.out.f1 0 [.int .i64 z, .string s, .int .i64 a, .int .i64 b] (fun j u hu => by simpa using hu) hd hrow (by kernel_rfl) rfl rfl rfl ?_)
          | (with_reducible refine at_slot (k := none) ?_; refine wpList_store_whole (o := ⟨none, _, _, _, _, _⟩) (cs := [.int .i64 0, .string ⟨#[]⟩, .int .i64 0, .int .i64 0]) (vs := [.int .i64 0, .string ⟨#[]⟩, .int .i64 0, .int .i64 0]) H3.out.f2 rfl (key_one _ _ _ _) (by kernel_rfl) rfl rfl rfl rfl ?_; clear H3; intro w7 h; have H8 := Lib.hid h; clear h))
        refine bodyPost_ret (results_ct rfl rfl H8.out hd hrow (by kernel_rfl)) rfl ?_
        exact ⟨by rw [HR.out]; rfl, H8.out.drop.drop.drop.drop⟩
end
end Go.Proofs.YtabibfabieghpaaGreatDoor
namespace Go.Proofs.YtabibfabieghpaaGreatDoor
open Go.RowKit
abbrev EVT : TypeId := 27
def eventKs : List Fk := [.num 6, .num 1, .num 8, .text]
def eventQ (k v : ByteArray) : List Value × Int :=
  if (numberV k ⟨#[101]⟩ 8).2 = true ∧ (readV eventKs v).2 = true ∧ eventR (numberV k ⟨#[101]⟩ 8).1 ((readV eventKs v).1.getD 0 (.n 0)).num ((readV eventKs v).1.getD 1 (.n 0)).num ((readV eventKs v).1.getD 2 (.n 0)).num ((readV eventKs v).1.getD 3 (.n 0)).str = (k, v, 0) then
    ([.int .i64 (numberV k ⟨#[101]⟩ 8).1, .int .i64 ((readV eventKs v).1.getD 0 (.n 0)).num, .int .i64 ((readV eventKs v).1.getD 1 (.n 0)).num, .int .i64 ((readV eventKs v).1.getD 2 (.n 0)).num, .string ((readV eventKs v).1.getD 3 (.n 0)).str], 0)
  else ([.int .i64 0, .int .i64 0, .int .i64 0, .int .i64 0, .string noB], 141)
theorem evt_u : ∃ d, Tryz.prog.underlying EVT = some d ∧ d.isRow = true := by
  cases e : Tryz.prog.underlying EVT with
  | none => exact absurd e (by rw [Tryz.underlying27]; simp)
  | some d => exact ⟨d, rfl, by rw [Tryz.underlying27] at e; injection e with e; subst e; rfl⟩
theorem event_one (g a b c : Int) (s : ByteArray) : ∀ v ∈ [Value.int .i64 g, .int .i64 a, .int .i64 b, .int .i64 c, .string s], v.oneCell' = true := fun v hv => by
  simp only [List.mem_cons, List.not_mem_nil, or_false] at hv
  rcases hv with rfl | rfl | rfl | rfl | rfl <;> rfl
section
variable {E : World} {L : List Hp}
set_option maxRecDepth 20000 in
set_option maxHeartbeats 8000000 in
theorem parseevent_any (k v : ByteArray) (w : World) (hk : k.size ≤ 1000000000000000) (hv : v.size ≤ 1000000000000000) (hG : Laid0 E L) (h : Own E w L) :
    Calls Tryz.prog 21 #[.agg #[.string k, .string v]] w fun ev w' => ev = .returned (.tuple #[.agg (eventQ k v).1.toArray, .int .i64 (eventQ k v).2]) ∧ Own E w' L := by
  have h1 := h.alloc (.cells #[.string k, .string v] ITT)
  have h2 := h1.alloc (.cells #[.int .i64 0, .int .i64 0, .int .i64 0, .int .i64 0, .string ⟨#[]⟩] EVT)
  have h3 := h2.alloc (.cells #[.int .i64 0, .int .i64 0, .int .i64 0, .int .i64 0, .string ⟨#[]⟩] EVT)
  rw [alloc_size, alloc_size] at h3
  have H3 := Lib.hid (show Own E _ (Hp.blk (w.heap.size + 1 + 1) EVT #[.int .i64 0, .int .i64 0, .int .i64 0, .int .i64 0, .string ⟨#[]⟩] :: Hp.blk (w.heap.size + 1) EVT #[.int .i64 0, .int .i64 0, .int .i64 0, .int .i64 0, .string ⟨#[]⟩] :: Hp.blk w.heap.size ITT #[.string k, .string v] :: L) from h3)
  obtain ⟨dd, hd, hrow⟩ := evt_u
  obtain ⟨z, nok, hq⟩ : ∃ z nok, numberV k ⟨#[101]⟩ 8 = (z, nok) := ⟨_, _, rfl⟩
  have KN : Hid (∀ w3 : World, Own E w3 (Hp.blk (w.heap.size + 1 + 1) EVT #[.int .i64 0, .int .i64 0, .int .i64 0, .int .i64 0, .string ⟨#[]⟩] :: Hp.blk (w.heap.size + 1) EVT #[.int .i64 0, .int .i64 0, .int .i64 0, .int .i64 0, .string ⟨#[]⟩] :: Hp.blk w.heap.size ITT #[.string k, .string v] :: L) → Calls Tryz.prog 66 #[.string k, .string ⟨#[101]⟩, .int .i64 8] w3 fun ev w' => ev = .returned (.tuple #[.int .i64 z, .bool nok]) ∧ Own E w' (Hp.blk (w.heap.size + 1 + 1) EVT #[.int .i64 0, .int .i64 0, .int .i64 0, .int .i64 0, .string ⟨#[]⟩] :: Hp.blk (w.heap.size + 1) EVT #[.int .i64 0, .int .i64 0, .int .i64 0, .int .i64 0, .string ⟨#[]⟩] :: Hp.blk w.heap.size ITT #[.string k, .string v] :: L)) := Lib.hid fun w3 h3 => by
    have hh := recnum_any (E := E) k ⟨#[101]⟩ 8 w3 hk hG.cons.cons.cons h3
    rw [hq] at hh
    exact hh
  clear h h1 h2 h3
  cases nok with
  | false =>
    have HR : Hid (eventQ k v = ([.int .i64 0, .int .i64 0, .int .i64 0, .int .i64 0, .string noB], 141)) := Lib.hid (if_neg fun hm => by have := hm.1; rw [hq] at this; cases this)
    clear hq hG hk hv
    go_enter Tryz.func21, Tryz.ntmps21
    go_wp2_with (with_reducible refine (KN.out _ H3.out).mono ?_; clear H3; rintro ev w2 ⟨rfl, h⟩; have H3 := Lib.hid h; clear h)
    have h := H3.out.drew
    refine wp_region_text [] (fun _ => True) (by kernel_rfl) ?_ (fun hS => ?_)
    · trivial
    refine gp 0 (some 15) ?_
    refine gp 1 (some 16) ?_
    refine gp 2 (some 17) ?_
    refine gs 3 (some 18) ?_
    refine gs 4 (some 19) ?_
    refine gs 5 (some 20) ?_
    refine gs 6 (some 21) ?_
    refine gs 7 (some 22) ?_
    refine gp 8 (some 23) ?_
    refine wpAnyG_done (by kernel_rfl) ?_ _
    refine NoPanic.normal ?_
    clear H3
    have H3 := Lib.hid h.f1
    clear h
    go_wp2_with (with_reducible refine at_slot (k := none) ?_; refine wpList_store_whole (o := ⟨none, _, _, _, _, _⟩) (cs := [.int .i64 0, .int .i64 0, .int .i64 0, .int .i64 0, .string ⟨#[]⟩]) (vs := [.int .i64 0, .int .i64 0, .int .i64 0, .int .i64 0, .string ⟨#[]⟩]) H3.out rfl (event_one 0 0 0 0 ⟨#[]⟩) (by kernel_rfl) rfl rfl rfl rfl ?_; clear H3; intro w7 h; have H8 := Lib.hid h; clear h)
    refine bodyPost_ret (results_ct rfl rfl H8.out hd hrow (by kernel_rfl)) rfl ?_
    exact ⟨by rw [HR.out]; rfl, H8.out.drop.drop.drop⟩
  | true =>
    obtain ⟨t, n, j, s, ok, hr⟩ : ∃ t n j s ok, readV eventKs v = ([.n t, .n n, .n j, .s s], ok) := ⟨_, _, _, _, _, rfl⟩
    have KR : Hid (∀ (bb : Nat) (w3 : World), Own E w3 (Hp.blk bb FT ((eventFs (w.heap.size + 1 + 1)).flatMap enF).toArray :: Hp.blk (w.heap.size + 1 + 1) EVT #[.int .i64 0, .int .i64 0, .int .i64 0, .int .i64 0, .string ⟨#[]⟩] :: Hp.blk (w.heap.size + 1) EVT #[.int .i64 0, .int .i64 0, .int .i64 0, .int .i64 0, .string ⟨#[]⟩] :: Hp.blk w.heap.size ITT #[.string k, .string v] :: L) →
        Calls Tryz.prog 67 #[.slice (some ⟨bb, 0, none⟩) 4 4, .string v] w3 fun ev w' => ev = .returned (.bool ok) ∧ Own E w' (Hp.blk (w.heap.size + 1 + 1) EVT #[.int .i64 0, .int .i64 t, .int .i64 n, .int .i64 j, .string s] :: Hp.blk (w.heap.size + 1) EVT #[.int .i64 0, .int .i64 0, .int .i64 0, .int .i64 0, .string ⟨#[]⟩] :: Hp.blk w.heap.size ITT #[.string k, .string v] :: L)) := Lib.hid fun bb w3 h3 => by
      have hh := read_blk (E := E) bb 4 (eventFs (w.heap.size + 1 + 1)) v (fun vs => Hp.blk (w.heap.size + 1 + 1) EVT (.int .i64 0 :: vs).toArray) [.int .i64 0, .int .i64 0, .int .i64 0, .string ⟨#[]⟩] w3 rfl (by omega) hv (places_tail _ _ _ 4) rfl hG.cons.cons h3
      rw [show (eventFs (w.heap.size + 1 + 1)).map (·.1) = eventKs from rfl, hr] at hh
      exact hh
    have HG := Lib.hid hG
    have HPR : Hid (∀ w3 : World, Own E w3 (Hp.blk (w.heap.size + 1 + 1) EVT #[.int .i64 z, .int .i64 t, .int .i64 n, .int .i64 j, .string s] :: Hp.blk (w.heap.size + 1) EVT #[.int .i64 0, .int .i64 0, .int .i64 0, .int .i64 0, .string ⟨#[]⟩] :: Hp.blk w.heap.size ITT #[.string k, .string v] :: L) → Calls Tryz.prog 19 #[.agg #[.int .i64 z, .int .i64 t, .int .i64 n, .int .i64 j, .string s]] w3 fun ev w' => ev = .returned (.tuple #[.agg #[.string (eventR z t n j s).1, .string (eventR z t n j s).2.1], .int .i64 (eventR z t n j s).2.2]) ∧ Own E w' (Hp.blk (w.heap.size + 1 + 1) EVT #[.int .i64 z, .int .i64 t, .int .i64 n, .int .i64 j, .string s] :: Hp.blk (w.heap.size + 1) EVT #[.int .i64 0, .int .i64 0, .int .i64 0, .int .i64 0, .string ⟨#[]⟩] :: Hp.blk w.heap.size ITT #[.string k, .string v] :: L)) := Lib.hid fun w3 h3 => printevent_any z t n j s w3 HG.out.cons.cons.cons h3
    have HQ : Hid (eventQ k v = if ok = true ∧ eventR z t n j s = (k, v, 0) then ([.int .i64 z, .int .i64 t, .int .i64 n, .int .i64 j, .string s], 0) else ([.int .i64 0, .int .i64 0, .int .i64 0, .int .i64 0, .string noB], 141)) := Lib.hid (by
      unfold eventQ
      rw [hq, hr]
      show (if true = true ∧ ok = true ∧ eventR z t n j s = (k, v, 0) then _ else _) = _
      by_cases hc : ok = true ∧ eventR z t n j s = (k, v, 0)
      · rw [if_pos hc, if_pos ⟨rfl, hc⟩]; rfl
      · rw [if_neg hc, if_neg fun q => hc q.2])
    have HC : Hid (∀ w' : World, Own E w' (Hp.blk (w.heap.size + 1 + 1) EVT #[.int .i64 0, .int .i64 0, .int .i64 0, .int .i64 0, .string ⟨#[]⟩] :: Hp.blk (w.heap.size + 1) EVT #[.int .i64 0, .int .i64 0, .int .i64 0, .int .i64 0, .string ⟨#[]⟩] :: Hp.blk w.heap.size ITT #[.string k, .string v] :: L) → w'.cell? ⟨w.heap.size, 1, none⟩ = some (.string v)) := Lib.hid fun w' h => by rw [h.f2.cell 1]; rfl
    clear hq hr hG hk hv
    go_enter Tryz.func21, Tryz.ntmps21
    go_wp2_with (with_reducible refine (KN.out _ H3.out).mono ?_; clear H3; rintro ev w2 ⟨rfl, h⟩; have H3 := Lib.hid h; clear h)
    have h := H3.out.drew
    clear H3
    refine wp_region_text [5] (fun w' => w'.cell? ⟨w.heap.size, 1, none⟩ = some (.string v)) (by kernel_rfl) ?_ (fun hS => ?_)
    · exact HC.out _ h
    refine gp 0 (some 15) ?_
    refine gp 1 (some 16) ?_
    refine gp 2 (some 17) ?_
    refine gp 4 (some 19) ?_
    refine gl 5 (some 20) ?_
    refine gk 3 (some 18) (fun K hK => ?_)
    rw [if_pos (by rfl)]
    go_simp
    refine (eventfields_any _ _ h).mono ?_
    clear h
    rintro ev w2 ⟨bb, rfl, h⟩
    refine hK.out _ _ ?_ (fun hS => ?_)
    · exact HC.out _ h.drop
    clear hK K
    try simp only [Act.put, List.setIfInBounds_toArray, List.set_cons_zero, List.set_cons_succ]
    refine wpAnyG_break (i := 6) (oi := ⟨some 21, _, _, _, _, _⟩) (by kernel_rfl) rfl (by kernel_rfl) (fun K hK => ?_)
    rw [if_pos (by rfl)]
    go_simp
    refine (KR.out _ _ h).mono ?_
    clear h
    rintro ev w2 ⟨rfl, h⟩
    refine hK.out _ _ ?_
    clear hK K
    try simp only [Act.put, List.setIfInBounds_toArray, List.set_cons_zero, List.set_cons_succ]
    refine gp 7 (some 22) ?_
    refine gp 8 (some 23) ?_
    refine wpAnyG_done (by kernel_rfl) ?_ _
    refine NoPanic.normal ?_
    cases ok with
    | false =>
      have HR : Hid (eventQ k v = ([.int .i64 0, .int .i64 0, .int .i64 0, .int .i64 0, .string noB], 141)) := Lib.hid (by rw [HQ.out]; exact if_neg fun hm => by cases hm.1)
      have H3 := Lib.hid h.f1
      clear h
      go_wp2_with (with_reducible refine at_slot (k := none) ?_; refine wpList_store_whole (o := ⟨none, _, _, _, _, _⟩) (cs := [.int .i64 0, .int .i64 0, .int .i64 0, .int .i64 0, .string ⟨#[]⟩]) (vs := [.int .i64 0, .int .i64 0, .int .i64 0, .int .i64 0, .string ⟨#[]⟩]) H3.out rfl (event_one 0 0 0 0 ⟨#[]⟩) (by kernel_rfl) rfl rfl rfl rfl ?_; clear H3; intro w7 h; have H8 := Lib.hid h; clear h)
      refine bodyPost_ret (results_ct rfl rfl H8.out hd hrow (by kernel_rfl)) rfl ?_
      exact ⟨by rw [HR.out]; rfl, H8.out.drop.drop.drop⟩
    | true =>
      obtain ⟨⟨old, ho⟩, hf, hs⟩ := h.put1 0 (.int .i64 z) (show (0 : Nat) < 5 by omega)
      have hs : Own E _ (Hp.blk (w.heap.size + 1 + 1) EVT #[.int .i64 z, .int .i64 t, .int .i64 n, .int .i64 j, .string s] :: Hp.blk (w.heap.size + 1) EVT #[.int .i64 0, .int .i64 0, .int .i64 0, .int .i64 0, .string ⟨#[]⟩] :: Hp.blk w.heap.size ITT #[.string k, .string v] :: L) := hs
      have H3 := Lib.hid hs
      clear h hs
      obtain ⟨x1, x2, er, hpr⟩ : ∃ x1 x2 er, eventR z t n j s = (x1, x2, er) := ⟨_, _, _, rfl⟩
      rw [hpr] at HPR HQ
      clear hpr
      by_cases he : er = 0
      · subst he
        by_cases hx : x1 = k ∧ x2 = v
        · have HR : Hid (eventQ k v = ([.int .i64 z, .int .i64 t, .int .i64 n, .int .i64 j, .string s], 0)) := Lib.hid (by rw [HQ.out]; exact if_pos ⟨rfl, by rw [hx.1, hx.2]⟩)
          have hq : ∀ w, (binOp .neq ITT (.agg #[.string x1, .string x2]) (.agg #[.string k, .string v])).run Tryz.prog w = .ok (.bool false) w := fun w => by rw [run_pair, decide_eq_true hx]; rfl
          clear hx
          go_wp2_with (first
            | (with_reducible refine at_slot (k := some 28) ?_; refine wpList_load_arr (o := ⟨some 28, _, _, _, _, _⟩) H3.out 0 [.int .i64 z, .int .i64 t, .int .i64 n, .int .i64 j, .string s] (fun jj u hu => by simpa using hu) hd hrow (by kernel_rfl) rfl rfl rfl ?_)
            | (with_reducible refine (HPR.out _ H3.out).mono ?_; clear H3; rintro ev w2 ⟨rfl, h⟩; have H3 := Lib.hid (h.alloc (.cells #[.string x1, .string x2] ITT)); clear h; have p0 := H3.out.f3.cell 0; have p1 := H3.out.f3.cell 1; simp only [List.getElem?_toArray, List.getElem?_cons_zero, List.getElem?_cons_succ] at p0 p1)
            | (with_reducible refine at_slot (k := some 40) ?_; refine wpList_load_arr (o := ⟨some 40, _, _, _, _, _⟩) H3.out.f1 0 [.int .i64 z, .int .i64 t, .int .i64 n, .int .i64 j, .string s] (fun jj u hu => by simpa using hu) hd hrow (by kernel_rfl) rfl rfl rfl ?_)
            | (with_reducible refine at_slot (k := none) ?_; refine wpList_store_whole (o := ⟨none, _, _, _, _, _⟩) (cs := [.int .i64 0, .int .i64 0, .int .i64 0, .int .i64 0, .string ⟨#[]⟩]) (vs := [.int .i64 z, .int .i64 t, .int .i64 n, .int .i64 j, .string s]) H3.out.f2 rfl (event_one _ _ _ _ _) (by kernel_rfl) rfl rfl rfl rfl ?_; clear H3; intro w7 h; have H8 := Lib.hid h; clear h))
          refine bodyPost_ret (results_ct rfl rfl H8.out hd hrow (by kernel_rfl)) rfl ?_
          exact ⟨by rw [HR.out]; rfl, H8.out.drop.drop.drop.drop⟩
        · have HR : Hid (eventQ k v = ([.int .i64 0, .int .i64 0, .int .i64 0, .int .i64 0, .string noB], 141)) := Lib.hid (by rw [HQ.out]; exact if_neg fun hm => hx ⟨congrArg (·.1) hm.2, congrArg (·.2.1) hm.2⟩)
          have hq : ∀ w, (binOp .neq ITT (.agg #[.string x1, .string x2]) (.agg #[.string k, .string v])).run Tryz.prog w = .ok (.bool true) w := fun w => by rw [run_pair, decide_eq_false hx]; rfl
          clear hx
          go_wp2_with (first
            | (with_reducible refine at_slot (k := some 28) ?_; refine wpList_load_arr (o := ⟨some 28, _, _, _, _, _⟩) H3.out 0 [.int .i64 z, .int .i64 t, .int .i64 n, .int .i64 j, .string s] (fun jj u hu => by simpa using hu) hd hrow (by kernel_rfl) rfl rfl rfl ?_)
            | (with_reducible refine (HPR.out _ H3.out).mono ?_; clear H3; rintro ev w2 ⟨rfl, h⟩; have H3 := Lib.hid (h.alloc (.cells #[.string x1, .string x2] ITT)); clear h; have p0 := H3.out.f3.cell 0; have p1 := H3.out.f3.cell 1; simp only [List.getElem?_toArray, List.getElem?_cons_zero, List.getElem?_cons_succ] at p0 p1)
            | (with_reducible refine at_slot (k := some 40) ?_; refine wpList_load_arr (o := ⟨some 40, _, _, _, _, _⟩) H3.out.f1 0 [.int .i64 z, .int .i64 t, .int .i64 n, .int .i64 j, .string s] (fun jj u hu => by simpa using hu) hd hrow (by kernel_rfl) rfl rfl rfl ?_)
            | (with_reducible refine at_slot (k := none) ?_; refine wpList_store_whole (o := ⟨none, _, _, _, _, _⟩) (cs := [.int .i64 0, .int .i64 0, .int .i64 0, .int .i64 0, .string ⟨#[]⟩]) (vs := [.int .i64 0, .int .i64 0, .int .i64 0, .int .i64 0, .string ⟨#[]⟩]) H3.out.f2 rfl (event_one _ _ _ _ _) (by kernel_rfl) rfl rfl rfl rfl ?_; clear H3; intro w7 h; have H8 := Lib.hid h; clear h))
          refine bodyPost_ret (results_ct rfl rfl H8.out hd hrow (by kernel_rfl)) rfl ?_
          exact ⟨by rw [HR.out]; rfl, H8.out.drop.drop.drop.drop⟩
      · have HR : Hid (eventQ k v = ([.int .i64 0, .int .i64 0, .int .i64 0, .int .i64 0, .string noB], 141)) := Lib.hid (by rw [HQ.out]; exact if_neg fun hm => he (congrArg (·.2.2) hm.2))
        have hz : (er != 0) = true := by rw [bne_iff_ne]; exact he
        clear he
        go_wp2_with (first
          | (with_reducible refine at_slot (k := some 28) ?_; refine wpList_load_arr (o := ⟨some 28, _, _, _, _, _⟩) H3.out 0 [.int .i64 z, .int .i64 t, .int .i64 n, .int .i64 j, .string s] (fun jj u hu => by simpa using hu) hd hrow (by kernel_rfl) rfl rfl rfl ?_)
          | (with_reducible refine (HPR.out _ H3.out).mono ?_; clear H3; rintro ev w2 ⟨rfl, h⟩; have H3 := Lib.hid (h.alloc (.cells #[.string x1, .string x2] ITT)); clear h; have p0 := H3.out.f3.cell 0; have p1 := H3.out.f3.cell 1; simp only [List.getElem?_toArray, List.getElem?_cons_zero, List.getElem?_cons_succ] at p0 p1)
          | (with_reducible refine at_slot (k := some 40) ?_; refine wpList_load_arr (o := ⟨some 40, _, _, _, _, _⟩) H3.out.f1 0 [.int .i64 z, .int .i64 t, .int .i64 n, .int .i64 j, .string s] (fun jj u hu => by simpa using hu) hd hrow (by kernel_rfl) rfl rfl rfl ?_)
          | (with_reducible refine at_slot (k := none) ?_; refine wpList_store_whole (o := ⟨none, _, _, _, _, _⟩) (cs := [.int .i64 0, .int .i64 0, .int .i64 0, .int .i64 0, .string ⟨#[]⟩]) (vs := [.int .i64 0, .int .i64 0, .int .i64 0, .int .i64 0, .string ⟨#[]⟩]) H3.out.f2 rfl (event_one _ _ _ _ _) (by kernel_rfl) rfl rfl rfl rfl ?_; clear H3; intro w7 h; have H8 := Lib.hid h; clear h))
        refine bodyPost_ret (results_ct rfl rfl H8.out hd hrow (by kernel_rfl)) rfl ?_
        exact ⟨by rw [HR.out]; rfl, H8.out.drop.drop.drop.drop⟩
end
end Go.Proofs.YtabibfabieghpaaGreatDoor
