/- ParseChain. ParseNote. ParseToken (printed by gen_patok.py). Plain law of RecordSmall: what was printed is parsed back; what was not printed is refused. latchkeylaw14.key, awake. RecordSmall: the walk (begun). -/
import Derived.Test.YtabibfabieghpaaGreatDoorPkz0
import Derived.Test.YtabibfabieghpaaGreatDoorPkPaEvent
import Derived.Deep.Cut
namespace Go.Proofs.YtabibfabieghpaaGreatDoor
open Go.RowKit
abbrev CHT : TypeId := 29
/-- The cells of a block. -/
theorem places_all {E : World} (b : Nat) (t : TypeId) (n : Nat) : Places E (fun vs => Hp.blk b t vs.toArray) ((List.range n).map fun i => ⟨b, i, none⟩) where
  set w vs i ad v M hl hi h := by
    have hlen : vs.length = n := by simpa using hl
    have hin : i < n := by
      have := (List.getElem?_eq_some_iff.1 hi).1
      simpa using this
    obtain rfl : (⟨b, i, none⟩ : Addr) = ad := by simpa [List.getElem?_map, List.getElem?_range hin] using hi
    obtain ⟨h1, h2, h3⟩ := h.put1 i v (by rw [List.size_toArray]; omega)
    refine ⟨h1, h2, ?_⟩
    have e : vs.toArray.setIfInBounds i v = (vs.set i v).toArray := by simp
    rw [e] at h3
    exact h3
def chainKs : List Fk := [.num 8, .num 8, .raw 32, .raw 32]
def hB : ByteArray := ⟨#[104]⟩
def chainQ (k v : ByteArray) : List Value × Int :=
  if k = hB ∧ (readV chainKs v).2 = true ∧ (chainR ((readV chainKs v).1.getD 0 (.n 0)).num ((readV chainKs v).1.getD 1 (.n 0)).num ((readV chainKs v).1.getD 2 (.n 0)).str ((readV chainKs v).1.getD 3 (.n 0)).str).2.2 = 0 then
    ([.int .i64 ((readV chainKs v).1.getD 0 (.n 0)).num, .int .i64 ((readV chainKs v).1.getD 1 (.n 0)).num, .string ((readV chainKs v).1.getD 2 (.n 0)).str, .string ((readV chainKs v).1.getD 3 (.n 0)).str], 0)
  else ([.int .i64 0, .int .i64 0, .string noB, .string noB], 141)
theorem cht_u : ∃ d, Tryz.prog.underlying CHT = some d ∧ d.isRow = true := by
  cases e : Tryz.prog.underlying CHT with
  | none => exact absurd e (by rw [Tryz.underlying29]; simp)
  | some d => exact ⟨d, rfl, by rw [Tryz.underlying29] at e; injection e with e; subst e; rfl⟩
theorem chain_one (a b : Int) (s r : ByteArray) : ∀ v ∈ [Value.int .i64 a, .int .i64 b, .string s, .string r], v.oneCell' = true := fun v hv => by
  simp only [List.mem_cons, List.not_mem_nil, or_false] at hv
  rcases hv with rfl | rfl | rfl | rfl <;> rfl
section
variable {E : World} {L : List Hp}
set_option maxRecDepth 20000 in
set_option maxHeartbeats 8000000 in
theorem parsechain_any (k v : ByteArray) (w : World) (hv : v.size ≤ 1000000000000000) (hG : Laid0 E L) (h : Own E w L) :
    Calls Tryz.prog 24 #[.agg #[.string k, .string v]] w fun ev w' => ev = .returned (.tuple #[.agg (chainQ k v).1.toArray, .int .i64 (chainQ k v).2]) ∧ Own E w' L := by
  have h1 := h.alloc (.cells #[.string k, .string v] ITT)
  have h2 := h1.alloc (.cells #[.int .i64 0, .int .i64 0, .string ⟨#[]⟩, .string ⟨#[]⟩] CHT)
  have h3 := h2.alloc (.cells #[.int .i64 0, .int .i64 0, .string ⟨#[]⟩, .string ⟨#[]⟩] CHT)
  rw [alloc_size, alloc_size] at h3
  have H3 := Lib.hid (show Own E _ (Hp.blk (w.heap.size + 1 + 1) CHT #[.int .i64 0, .int .i64 0, .string ⟨#[]⟩, .string ⟨#[]⟩] :: Hp.blk (w.heap.size + 1) CHT #[.int .i64 0, .int .i64 0, .string ⟨#[]⟩, .string ⟨#[]⟩] :: Hp.blk w.heap.size ITT #[.string k, .string v] :: L) from h3)
  obtain ⟨dd, hd, hrow⟩ := cht_u
  have HC : Hid (∀ (w' : World) (A B : Hp), Own E w' (A :: B :: Hp.blk w.heap.size ITT #[.string k, .string v] :: L) → w'.cell? ⟨w.heap.size, 0, none⟩ = some (.string k) ∧ w'.cell? ⟨w.heap.size, 1, none⟩ = some (.string v)) := Lib.hid fun w' A B h => ⟨by rw [h.f2.cell 0]; rfl, by rw [h.f2.cell 1]; rfl⟩
  clear h h1 h2 h3
  by_cases hkk : k = hB
  · obtain ⟨a, b, s, r, ok, hr⟩ : ∃ a b s r ok, readV chainKs v = ([.n a, .n b, .s s, .s r], ok) := ⟨_, _, _, _, _, rfl⟩
    have KR : Hid (∀ (bb : Nat) (w3 : World), Own E w3 (Hp.blk bb FT ((chainFs (w.heap.size + 1 + 1)).flatMap enF).toArray :: Hp.blk (w.heap.size + 1 + 1) CHT #[.int .i64 0, .int .i64 0, .string ⟨#[]⟩, .string ⟨#[]⟩] :: Hp.blk (w.heap.size + 1) CHT #[.int .i64 0, .int .i64 0, .string ⟨#[]⟩, .string ⟨#[]⟩] :: Hp.blk w.heap.size ITT #[.string k, .string v] :: L) →
        Calls Tryz.prog 67 #[.slice (some ⟨bb, 0, none⟩) 4 4, .string v] w3 fun ev w' => ev = .returned (.bool ok) ∧ Own E w' (Hp.blk (w.heap.size + 1 + 1) CHT #[.int .i64 a, .int .i64 b, .string s, .string r] :: Hp.blk (w.heap.size + 1) CHT #[.int .i64 0, .int .i64 0, .string ⟨#[]⟩, .string ⟨#[]⟩] :: Hp.blk w.heap.size ITT #[.string k, .string v] :: L)) := Lib.hid fun bb w3 h3 => by
      have hh := read_blk (E := E) bb 4 (chainFs (w.heap.size + 1 + 1)) v (fun vs => Hp.blk (w.heap.size + 1 + 1) CHT vs.toArray) [.int .i64 0, .int .i64 0, .string ⟨#[]⟩, .string ⟨#[]⟩] w3 rfl (by omega) hv (places_all _ _ 4) rfl hG.cons.cons h3
      rw [show (chainFs (w.heap.size + 1 + 1)).map (·.1) = chainKs from rfl, hr] at hh
      exact hh
    have HG := Lib.hid hG
    have HPR : Hid (∀ w3 : World, Own E w3 (Hp.blk (w.heap.size + 1 + 1) CHT #[.int .i64 a, .int .i64 b, .string s, .string r] :: Hp.blk (w.heap.size + 1) CHT #[.int .i64 0, .int .i64 0, .string ⟨#[]⟩, .string ⟨#[]⟩] :: Hp.blk w.heap.size ITT #[.string k, .string v] :: L) → Calls Tryz.prog 22 #[.agg #[.int .i64 a, .int .i64 b, .string s, .string r]] w3 fun ev w' => ev = .returned (.tuple #[.agg #[.string (chainR a b s r).1, .string (chainR a b s r).2.1], .int .i64 (chainR a b s r).2.2]) ∧ Own E w' (Hp.blk (w.heap.size + 1 + 1) CHT #[.int .i64 a, .int .i64 b, .string s, .string r] :: Hp.blk (w.heap.size + 1) CHT #[.int .i64 0, .int .i64 0, .string ⟨#[]⟩, .string ⟨#[]⟩] :: Hp.blk w.heap.size ITT #[.string k, .string v] :: L)) := Lib.hid fun w3 h3 => printchain_any a b s r w3 HG.out.cons.cons.cons h3
    have HQ : Hid (chainQ k v = if ok = true ∧ (chainR a b s r).2.2 = 0 then ([.int .i64 a, .int .i64 b, .string s, .string r], 0) else ([.int .i64 0, .int .i64 0, .string noB, .string noB], 141)) := Lib.hid (by
      unfold chainQ
      rw [hr]
      show (if k = hB ∧ ok = true ∧ (chainR a b s r).2.2 = 0 then _ else _) = _
      by_cases hc : ok = true ∧ (chainR a b s r).2.2 = 0
      · rw [if_pos hc, if_pos ⟨hkk, hc⟩]; rfl
      · rw [if_neg hc, if_neg fun q => hc q.2])
    have hne : (k.toList == [104]) = true := by rw [hkk]; show ((⟨#[104]⟩ : ByteArray).toList == [104]) = true; rw [ByteArray.toList_eq]; rfl
    clear hr hG hv hkk
    go_enter Tryz.func24, Tryz.ntmps24
    go_wp2_with fail
    have h := H3.out.drew
    clear H3
    refine wp_region_text [1, 6] (fun w' => w'.cell? ⟨w.heap.size, 0, none⟩ = some (.string k) ∧ w'.cell? ⟨w.heap.size, 1, none⟩ = some (.string v)) (by kernel_rfl) ?_ (fun hS => ?_)
    · exact HC.out _ _ _ h
    refine gp 0 (some 7) ?_
    refine gm 1 (some 8) (.string k) ?_ ?_
    · intro w hS
      obtain ⟨b0, b1⟩ := hS; go_simp; first | done | with_reducible rfl
    refine gq 2 (some 9) (.bool false) ?_ ?_
    · intro w
      go_simp; first | done | with_reducible rfl
    refine gp 3 (some 10) ?_
    refine gp 5 (some 12) ?_
    refine gm 6 (some 13) (.string v) ?_ ?_
    · intro w hS
      obtain ⟨b0, b1⟩ := hS; go_simp; first | done | with_reducible rfl
    refine gk 4 (some 11) (fun K hK => ?_)
    rw [if_pos (by rfl)]
    go_simp
    refine (chainfields_any _ _ h).mono ?_
    clear h
    rintro ev w2 ⟨bb, rfl, h⟩
    refine hK.out _ _ ?_ (fun hS => ?_)
    · exact HC.out _ _ _ h.drop
    clear hK K
    try simp only [Act.put, List.setIfInBounds_toArray, List.set_cons_zero, List.set_cons_succ]
    refine gk 7 (some 14) (fun K hK => ?_)
    rw [if_pos (by rfl)]
    go_simp
    refine (KR.out _ _ h).mono ?_
    clear h
    rintro ev w2 ⟨rfl, h⟩
    refine hK.out _ _ ?_ (fun hS => ?_)
    · exact HC.out _ _ _ h
    clear hK K
    try simp only [Act.put, List.setIfInBounds_toArray, List.set_cons_zero, List.set_cons_succ]
    refine gp 8 (some 15) ?_
    refine gp 9 (some 16) ?_
    refine wpAnyG_done (by kernel_rfl) ?_ _
    refine NoPanic.normal ?_
    have hq := HQ.out
    cases ok with
    | false =>
      rw [if_neg (fun hm => by cases hm.1)] at hq
      have HR := Lib.hid hq
      have H3 := Lib.hid h.f1
      clear h hq
      go_wp2_with (with_reducible refine at_slot (k := none) ?_; refine wpList_store_whole (o := ⟨none, _, _, _, _, _⟩) (cs := [.int .i64 0, .int .i64 0, .string ⟨#[]⟩, .string ⟨#[]⟩]) (vs := [.int .i64 0, .int .i64 0, .string ⟨#[]⟩, .string ⟨#[]⟩]) H3.out rfl (chain_one _ _ _ _) (by kernel_rfl) rfl rfl rfl rfl ?_; clear H3; intro w7 h; have H8 := Lib.hid h; clear h)
      refine bodyPost_ret (results_ct rfl rfl H8.out hd hrow (by kernel_rfl)) rfl ?_
      exact ⟨by rw [HR.out]; rfl, H8.out.drop.drop.drop⟩
    | true =>
      have H3 := Lib.hid h
      clear h
      obtain ⟨x1, x2, er, hpr⟩ : ∃ x1 x2 er, chainR a b s r = (x1, x2, er) := ⟨_, _, _, rfl⟩
      rw [hpr] at HPR hq
      clear hpr HQ
      by_cases he : er = 0
      · subst he
        rw [if_pos ⟨rfl, rfl⟩] at hq
        have HR := Lib.hid hq
        clear hq
        go_wp2_with (first
          | (with_reducible refine at_slot (k := some 19) ?_; refine wpList_load_arr (o := ⟨some 19, _, _, _, _, _⟩) H3.out 0 [.int .i64 a, .int .i64 b, .string s, .string r] (fun jj u hu => by simpa using hu) hd hrow (by kernel_rfl) rfl rfl rfl ?_)
          | (with_reducible refine (HPR.out _ H3.out).mono ?_; clear H3; rintro ev w2 ⟨rfl, h⟩; have H3 := Lib.hid (h.alloc (.cells #[.string x1, .string x2] ITT)); clear h)
          | (with_reducible refine at_slot (k := some 26) ?_; refine wpList_load_arr (o := ⟨some 26, _, _, _, _, _⟩) H3.out.f1 0 [.int .i64 a, .int .i64 b, .string s, .string r] (fun jj u hu => by simpa using hu) hd hrow (by kernel_rfl) rfl rfl rfl ?_)
          | (with_reducible refine at_slot (k := none) ?_; refine wpList_store_whole (o := ⟨none, _, _, _, _, _⟩) (cs := [.int .i64 0, .int .i64 0, .string ⟨#[]⟩, .string ⟨#[]⟩]) (vs := [.int .i64 a, .int .i64 b, .string s, .string r]) H3.out.f2 rfl (chain_one _ _ _ _) (by kernel_rfl) rfl rfl rfl rfl ?_; clear H3; intro w7 h; have H8 := Lib.hid h; clear h))
        refine bodyPost_ret (results_ct rfl rfl H8.out hd hrow (by kernel_rfl)) rfl ?_
        exact ⟨by rw [HR.out]; rfl, H8.out.drop.drop.drop.drop⟩
      · rw [if_neg (fun hm => he hm.2)] at hq
        have HR := Lib.hid hq
        have hz : (er != 0) = true := by rw [bne_iff_ne]; exact he
        clear hq he
        go_wp2_with (first
          | (with_reducible refine at_slot (k := some 19) ?_; refine wpList_load_arr (o := ⟨some 19, _, _, _, _, _⟩) H3.out 0 [.int .i64 a, .int .i64 b, .string s, .string r] (fun jj u hu => by simpa using hu) hd hrow (by kernel_rfl) rfl rfl rfl ?_)
          | (with_reducible refine (HPR.out _ H3.out).mono ?_; clear H3; rintro ev w2 ⟨rfl, h⟩; have H3 := Lib.hid (h.alloc (.cells #[.string x1, .string x2] ITT)); clear h)
          | (with_reducible refine at_slot (k := none) ?_; refine wpList_store_whole (o := ⟨none, _, _, _, _, _⟩) (cs := [.int .i64 0, .int .i64 0, .string ⟨#[]⟩, .string ⟨#[]⟩]) (vs := [.int .i64 0, .int .i64 0, .string ⟨#[]⟩, .string ⟨#[]⟩]) H3.out.f2 rfl (chain_one _ _ _ _) (by kernel_rfl) rfl rfl rfl rfl ?_; clear H3; intro w7 h; have H8 := Lib.hid h; clear h))
        refine bodyPost_ret (results_ct rfl rfl H8.out hd hrow (by kernel_rfl)) rfl ?_
        exact ⟨by rw [HR.out]; rfl, H8.out.drop.drop.drop.drop⟩
  · have HR : Hid (chainQ k v = ([.int .i64 0, .int .i64 0, .string noB, .string noB], 141)) := Lib.hid (if_neg fun hm => hkk hm.1)
    have hne : (k.toList == [104]) = false := by
      rw [beq_eq_false_iff_ne]
      intro q
      rw [ByteArray.toList_eq] at q
      exact hkk (bytes_ext k _ q)
    clear hG hv hkk
    go_enter Tryz.func24, Tryz.ntmps24
    go_wp2_with fail
    have h := H3.out.drew
    clear H3
    refine wp_region_text [1] (fun w' => w'.cell? ⟨w.heap.size, 0, none⟩ = some (.string k) ∧ w'.cell? ⟨w.heap.size, 1, none⟩ = some (.string v)) (by kernel_rfl) ?_ (fun hS => ?_)
    · exact HC.out _ _ _ h
    refine gp 0 (some 7) ?_
    refine gm 1 (some 8) (.string k) ?_ ?_
    · intro w hS
      obtain ⟨b0, b1⟩ := hS; go_simp; first | done | with_reducible rfl
    refine gq 2 (some 9) (.bool true) ?_ ?_
    · intro w
      go_simp; first | done | with_reducible rfl
    refine gp 3 (some 10) ?_
    refine gs 4 (some 11) ?_
    refine gs 5 (some 12) ?_
    refine gs 6 (some 13) ?_
    refine gs 7 (some 14) ?_
    refine gs 8 (some 15) ?_
    refine gp 9 (some 16) ?_
    refine wpAnyG_done (by kernel_rfl) ?_ _
    refine NoPanic.normal ?_
    have H3 := Lib.hid h.f1
    clear h
    go_wp2_with (with_reducible refine at_slot (k := none) ?_; refine wpList_store_whole (o := ⟨none, _, _, _, _, _⟩) (cs := [.int .i64 0, .int .i64 0, .string ⟨#[]⟩, .string ⟨#[]⟩]) (vs := [.int .i64 0, .int .i64 0, .string ⟨#[]⟩, .string ⟨#[]⟩]) H3.out rfl (chain_one _ _ _ _) (by kernel_rfl) rfl rfl rfl rfl ?_; clear H3; intro w7 h; have H8 := Lib.hid h; clear h)
    refine bodyPost_ret (results_ct rfl rfl H8.out hd hrow (by kernel_rfl)) rfl ?_
    exact ⟨by rw [HR.out]; rfl, H8.out.drop.drop.drop⟩
end
end Go.Proofs.YtabibfabieghpaaGreatDoor
namespace Go.Proofs.YtabibfabieghpaaGreatDoor
open Go.RowKit
theorem Own.sep2 {E w : World} {A B : Hp} {L : List Hp} : Own E w (Hp.sep A B :: L) ↔ Own E w (A :: B :: L) := by
  unfold Own
  have e : Hp.all (Hp.sep A B :: L) = Hp.all (A :: B :: L) := Hp.sep_assoc A B (Hp.all L)
  rw [e]
theorem Own.sep3 {E w : World} {A B C : Hp} {L : List Hp} : Own E w (Hp.sep A (Hp.sep B C) :: L) ↔ Own E w (A :: B :: C :: L) := by
  rw [Own.sep2]
  constructor
  · intro h
    exact (Own.sep2.1 h.f1).f2
  · intro h
    exact (Own.sep2.2 (h.f2.f2)).f1
/-- Three blocks of one cell each. -/
def thr (x y z : Nat) (p q r : TypeId) (vs : List Value) : Hp := Hp.sep (Hp.blk x p #[vs.getD 0 undef]) (Hp.sep (Hp.blk y q #[vs.getD 1 undef]) (Hp.blk z r #[vs.getD 2 undef]))
theorem places_three {E : World} (x y z : Nat) (p q r : TypeId) : Places E (thr x y z p q r) [⟨x, 0, none⟩, ⟨y, 0, none⟩, ⟨z, 0, none⟩] where
  set w vs i ad v M hl hi h := by
    obtain ⟨a, b, c, rfl⟩ : ∃ a b c, vs = [a, b, c] := by
      match vs, hl with
      | [a, b, c], _ => exact ⟨a, b, c, rfl⟩
    have h := Own.sep3.1 h
    match i, hi with
    | 0, hi =>
      obtain rfl : (⟨x, 0, none⟩ : Addr) = ad := by simpa using hi
      obtain ⟨h1, h2, h3⟩ := h.put1 0 v (show (0 : Nat) < 1 by omega)
      exact ⟨h1, h2, Own.sep3.2 h3⟩
    | 1, hi =>
      obtain rfl : (⟨y, 0, none⟩ : Addr) = ad := by simpa using hi
      obtain ⟨h1, h2, h3⟩ := h.f1.put1 0 v (show (0 : Nat) < 1 by omega)
      exact ⟨h1, h2, Own.sep3.2 h3.f1⟩
    | 2, hi =>
      obtain rfl : (⟨z, 0, none⟩ : Addr) = ad := by simpa using hi
      obtain ⟨h1, h2, h3⟩ := h.f2.put1 0 v (show (0 : Nat) < 1 by omega)
      exact ⟨h1, h2, Own.sep3.2 h3.f2.f2⟩
def noteKs : List Fk := [.num 8, .num 6, .raw 2]
def noteQ (v : ByteArray) : Int × Int × Int :=
  if (readV noteKs v).2 = true ∧ noteR ((readV noteKs v).1.getD 0 (.n 0)).num ((readV noteKs v).1.getD 1 (.n 0)).num = (v, 0) then (((readV noteKs v).1.getD 0 (.n 0)).num, ((readV noteKs v).1.getD 1 (.n 0)).num, 0) else (0, 0, 141)
section
variable {E : World} {L : List Hp}
set_option maxRecDepth 20000 in
set_option maxHeartbeats 8000000 in
theorem parsenote_any (v : ByteArray) (w : World) (hv : v.size ≤ 1000000000000000) (hG : Laid0 E L) (h : Own E w L) :
    Calls Tryz.prog 27 #[.string v] w fun ev w' => ev = .returned (.tuple #[.int .i64 (noteQ v).1, .int .i64 (noteQ v).2.1, .int .i64 (noteQ v).2.2]) ∧ Own E w' L := by
  have h1 := h.alloc (.cells #[.int .i64 0] 3)
  have h2 := h1.alloc (.cells #[.int .i64 0] 3)
  have h3 := h2.alloc (.cells #[.string ⟨#[]⟩] 9)
  rw [alloc_size, alloc_size] at h3
  have H3 := Lib.hid (show Own E _ (Hp.blk w.heap.size 3 #[.int .i64 0] :: Hp.blk (w.heap.size + 1) 3 #[.int .i64 0] :: Hp.blk (w.heap.size + 1 + 1) 9 #[.string ⟨#[]⟩] :: L) from h3.f1.f2)
  obtain ⟨a, b, c, ok, hr⟩ : ∃ a b c ok, readV noteKs v = ([.n a, .n b, .s c], ok) := ⟨_, _, _, _, rfl⟩
  have KR : Hid (∀ (bb : Nat) (w3 : World), Own E w3 (Hp.blk bb FT ((noteFs w.heap.size (w.heap.size + 1) (w.heap.size + 1 + 1)).flatMap enF).toArray :: Hp.blk w.heap.size 3 #[.int .i64 0] :: Hp.blk (w.heap.size + 1) 3 #[.int .i64 0] :: Hp.blk (w.heap.size + 1 + 1) 9 #[.string ⟨#[]⟩] :: L) →
      Calls Tryz.prog 67 #[.slice (some ⟨bb, 0, none⟩) 3 3, .string v] w3 fun ev w' => ev = .returned (.bool ok) ∧ w'.cell? ⟨w.heap.size, 0, none⟩ = some (.int .i64 a) ∧ w'.cell? ⟨w.heap.size + 1, 0, none⟩ = some (.int .i64 b) ∧ Own E w' (Hp.blk w.heap.size 3 #[.int .i64 a] :: Hp.blk (w.heap.size + 1) 3 #[.int .i64 b] :: L)) := Lib.hid fun bb w3 h3 => by
    have h4 : Own E w3 (Hp.blk bb FT ((noteFs w.heap.size (w.heap.size + 1) (w.heap.size + 1 + 1)).flatMap enF).toArray :: thr w.heap.size (w.heap.size + 1) (w.heap.size + 1 + 1) 3 3 9 [.int .i64 0, .int .i64 0, .string ⟨#[]⟩] :: L) := (Own.sep3.2 h3.f3.f3.f3).f1
    have hh := read_blk (E := E) bb 3 (noteFs w.heap.size (w.heap.size + 1) (w.heap.size + 1 + 1)) v _ [.int .i64 0, .int .i64 0, .string ⟨#[]⟩] w3 rfl (by omega) hv (places_three _ _ _ _ _ _) rfl hG h4
    rw [show (noteFs w.heap.size (w.heap.size + 1) (w.heap.size + 1 + 1)).map (·.1) = noteKs from rfl, hr] at hh
    refine hh.mono ?_
    rintro ev w' ⟨rfl, h⟩
    have h := Own.sep3.1 h
    exact ⟨rfl, by rw [h.cell 0]; rfl, by rw [h.f1.cell 0]; rfl, h.f2.drop⟩
  have HG := Lib.hid hG
  have HQ : Hid (noteQ v = if ok = true ∧ noteR a b = (v, 0) then (a, b, 0) else (0, 0, 141)) := Lib.hid (by unfold noteQ; rw [hr]; rfl)
  have HPR : Hid (∀ w3 : World, Own E w3 (Hp.blk w.heap.size 3 #[.int .i64 a] :: Hp.blk (w.heap.size + 1) 3 #[.int .i64 b] :: L) → Calls Tryz.prog 25 #[.int .i64 a, .int .i64 b] w3 fun ev w' => ev = .returned (.tuple #[.string (noteR a b).1, .int .i64 (noteR a b).2]) ∧ w'.cell? ⟨w.heap.size, 0, none⟩ = some (.int .i64 a) ∧ w'.cell? ⟨w.heap.size + 1, 0, none⟩ = some (.int .i64 b) ∧ Own E w' L) := Lib.hid fun w3 h3 => (printnote_any a b w3 HG.out.cons.cons h3).mono fun ev w' he => ⟨he.1, by rw [he.2.cell 0]; rfl, by rw [he.2.f1.cell 0]; rfl, he.2.drop.drop⟩
  clear h h1 h2 h3 hr hG hv
  obtain ⟨x1, er, hpr⟩ : ∃ x1 er, noteR a b = (x1, er) := ⟨_, _, rfl⟩
  rw [hpr] at HPR HQ
  clear hpr
  have hq := HQ.out
  clear HQ
  cases ok with
  | false =>
    rw [if_neg (fun hm => by cases hm.1)] at hq
    have HR := Lib.hid hq
    clear hq
    go_enter Tryz.func27, Tryz.ntmps27
    go_wp2_with (first
      | (with_reducible refine (notefields_any _ _ _ _ H3.out).mono ?_; clear H3; rintro ev w2 ⟨bb, rfl, h⟩; have H3 := Lib.hid h; clear h)
      | (with_reducible refine (KR.out _ _ H3.out).mono ?_; clear H3; rintro ev w2 ⟨rfl, -, -, h⟩; have H3 := Lib.hid h; clear h))
    go_ret3
    exact ⟨by rw [HR.out]; rfl, H3.out.drop.drop⟩
  | true =>
    by_cases he : er = 0
    · subst he
      by_cases hx : x1 = v
      · subst hx
        rw [if_pos ⟨rfl, rfl⟩] at hq
        have HR := Lib.hid hq
        clear hq
        go_enter Tryz.func27, Tryz.ntmps27
        go_wp2_with (first
          | (with_reducible refine (notefields_any _ _ _ _ H3.out).mono ?_; clear H3; rintro ev w2 ⟨bb, rfl, h⟩; have H3 := Lib.hid h; clear h)
          | (with_reducible refine (KR.out _ _ H3.out).mono ?_; clear H3; rintro ev w2 ⟨rfl, c0, c1, h⟩; have H3 := Lib.hid h; clear h)
          | (with_reducible refine (HPR.out _ H3.out).mono ?_; clear H3; rintro ev w2 ⟨rfl, c0, c1, h⟩; have H3 := Lib.hid h; clear h))
        have h := H3.out.drew
        refine wp_region_text [0, 1] (fun w' => w'.cell? ⟨w.heap.size, 0, none⟩ = some (.int .i64 a) ∧ w'.cell? ⟨w.heap.size + 1, 0, none⟩ = some (.int .i64 b)) (by kernel_rfl) ?_ (fun hS => ?_)
        · exact ⟨c0, c1⟩
        refine gm 0 (some 27) (.int .i64 a) ?_ ?_
        · intro w hS
          obtain ⟨b0, b1⟩ := hS; go_simp; first | done | with_reducible rfl
        refine gm 1 (some 28) (.int .i64 b) ?_ ?_
        · intro w hS
          obtain ⟨b0, b1⟩ := hS; go_simp; first | done | with_reducible rfl
        refine gp 2 (some 2) ?_
        refine gp 3 (some 3) ?_
        refine gp 4 (some 4) ?_
        refine wpAnyG_done (by kernel_rfl) ?_ _
        refine NoPanic.normal ?_
        go_wp2_with fail
        go_ret3
        exact ⟨by rw [HR.out]; rfl, h⟩
      · rw [if_neg (fun hm => hx (congrArg (·.1) hm.2))] at hq
        have HR := Lib.hid hq
        have hn : (x1.toList == v.toList) = false := by rw [beq_str, decide_eq_false hx]
        clear hq hx
        go_enter Tryz.func27, Tryz.ntmps27
        go_wp2_with (first
          | (with_reducible refine (notefields_any _ _ _ _ H3.out).mono ?_; clear H3; rintro ev w2 ⟨bb, rfl, h⟩; have H3 := Lib.hid h; clear h)
          | (with_reducible refine (KR.out _ _ H3.out).mono ?_; clear H3; rintro ev w2 ⟨rfl, c0, c1, h⟩; have H3 := Lib.hid h; clear h)
          | (with_reducible refine (HPR.out _ H3.out).mono ?_; clear H3; rintro ev w2 ⟨rfl, c0, c1, h⟩; have H3 := Lib.hid h; clear h))
        go_ret3
        exact ⟨by rw [HR.out]; rfl, H3.out⟩
    · rw [if_neg (fun hm => he (congrArg (·.2) hm.2))] at hq
      have HR := Lib.hid hq
      have hz : (er != 0) = true := by rw [bne_iff_ne]; exact he
      clear hq he
      go_enter Tryz.func27, Tryz.ntmps27
      go_wp2_with (first
        | (with_reducible refine (notefields_any _ _ _ _ H3.out).mono ?_; clear H3; rintro ev w2 ⟨bb, rfl, h⟩; have H3 := Lib.hid h; clear h)
        | (with_reducible refine (KR.out _ _ H3.out).mono ?_; clear H3; rintro ev w2 ⟨rfl, c0, c1, h⟩; have H3 := Lib.hid h; clear h)
        | (with_reducible refine (HPR.out _ H3.out).mono ?_; clear H3; rintro ev w2 ⟨rfl, c0, c1, h⟩; have H3 := Lib.hid h; clear h))
      go_ret3
      exact ⟨by rw [HR.out]; rfl, H3.out⟩
end
end Go.Proofs.YtabibfabieghpaaGreatDoor
namespace Go.Proofs.YtabibfabieghpaaGreatDoor
open Go.RowKit
/-- A token's fields as they are read: seven cells of the token's block, one of the flag's. -/
def tokP (tb fb : Nat) (vs : List Value) : Hp := Hp.sep (Hp.blk tb TOKT #[.int .i64 0, vs.getD 0 undef, vs.getD 1 undef, vs.getD 2 undef, vs.getD 3 undef, .bool false, vs.getD 5 undef, vs.getD 6 undef, vs.getD 7 undef]) (Hp.blk fb 3 #[vs.getD 4 undef])
theorem places_tok {E : World} (tb fb : Nat) : Places E (tokP tb fb) [⟨tb, 1, none⟩, ⟨tb, 2, none⟩, ⟨tb, 3, none⟩, ⟨tb, 4, none⟩, ⟨fb, 0, none⟩, ⟨tb, 6, none⟩, ⟨tb, 7, none⟩, ⟨tb, 8, none⟩] where
  set w vs i ad v M hl hi h := by
    obtain ⟨a0, a1, a2, a3, a4, a5, a6, a7, rfl⟩ : ∃ a0 a1 a2 a3 a4 a5 a6 a7, vs = [a0, a1, a2, a3, a4, a5, a6, a7] := by
      match vs, hl with
      | [a0, a1, a2, a3, a4, a5, a6, a7], _ => exact ⟨a0, a1, a2, a3, a4, a5, a6, a7, rfl⟩
    have h := Own.sep2.1 h
    match i, hi with
    | 0, hi =>
      obtain rfl : (⟨tb, 1, none⟩ : Addr) = ad := by simpa using hi
      obtain ⟨h1, h2, h3⟩ := h.put1 1 v (show (1 : Nat) < 9 by omega)
      exact ⟨h1, h2, Own.sep2.2 h3⟩
    | 1, hi =>
      obtain rfl : (⟨tb, 2, none⟩ : Addr) = ad := by simpa using hi
      obtain ⟨h1, h2, h3⟩ := h.put1 2 v (show (2 : Nat) < 9 by omega)
      exact ⟨h1, h2, Own.sep2.2 h3⟩
    | 2, hi =>
      obtain rfl : (⟨tb, 3, none⟩ : Addr) = ad := by simpa using hi
      obtain ⟨h1, h2, h3⟩ := h.put1 3 v (show (3 : Nat) < 9 by omega)
      exact ⟨h1, h2, Own.sep2.2 h3⟩
    | 3, hi =>
      obtain rfl : (⟨tb, 4, none⟩ : Addr) = ad := by simpa using hi
      obtain ⟨h1, h2, h3⟩ := h.put1 4 v (show (4 : Nat) < 9 by omega)
      exact ⟨h1, h2, Own.sep2.2 h3⟩
    | 4, hi =>
      obtain rfl : (⟨fb, 0, none⟩ : Addr) = ad := by simpa using hi
      obtain ⟨h1, h2, h3⟩ := h.f1.put1 0 v (show (0 : Nat) < 1 by omega)
      exact ⟨h1, h2, Own.sep2.2 h3.f1⟩
    | 5, hi =>
      obtain rfl : (⟨tb, 6, none⟩ : Addr) = ad := by simpa using hi
      obtain ⟨h1, h2, h3⟩ := h.put1 6 v (show (6 : Nat) < 9 by omega)
      exact ⟨h1, h2, Own.sep2.2 h3⟩
    | 6, hi =>
      obtain rfl : (⟨tb, 7, none⟩ : Addr) = ad := by simpa using hi
      obtain ⟨h1, h2, h3⟩ := h.put1 7 v (show (7 : Nat) < 9 by omega)
      exact ⟨h1, h2, Own.sep2.2 h3⟩
    | 7, hi =>
      obtain rfl : (⟨tb, 8, none⟩ : Addr) = ad := by simpa using hi
      obtain ⟨h1, h2, h3⟩ := h.put1 8 v (show (8 : Nat) < 9 by omega)
      exact ⟨h1, h2, Own.sep2.2 h3⟩
def tokKs : List Fk := [.num 8, .num 4, .raw 32, .num 6, .num 1, .num 6, .num 8, .text]
def tokQ (k v : ByteArray) : List Value × Int :=
  if (numberV k ⟨#[116]⟩ 8).2 = true ∧ (readV tokKs v).2 = true ∧ tokR (numberV k ⟨#[116]⟩ 8).1 ((readV tokKs v).1.getD 0 (.n 0)).num ((readV tokKs v).1.getD 1 (.n 0)).num ((readV tokKs v).1.getD 2 (.n 0)).str ((readV tokKs v).1.getD 3 (.n 0)).num (((readV tokKs v).1.getD 4 (.n 0)).num == 1) ((readV tokKs v).1.getD 5 (.n 0)).num ((readV tokKs v).1.getD 6 (.n 0)).num ((readV tokKs v).1.getD 7 (.n 0)).str = (k, v, 0) then
    (tokC (numberV k ⟨#[116]⟩ 8).1 ((readV tokKs v).1.getD 0 (.n 0)).num ((readV tokKs v).1.getD 1 (.n 0)).num ((readV tokKs v).1.getD 2 (.n 0)).str ((readV tokKs v).1.getD 3 (.n 0)).num (((readV tokKs v).1.getD 4 (.n 0)).num == 1) ((readV tokKs v).1.getD 5 (.n 0)).num ((readV tokKs v).1.getD 6 (.n 0)).num ((readV tokKs v).1.getD 7 (.n 0)).str, 0)
  else ((tokC 0 0 0 noB 0 false 0 0 noB), 141)
theorem tokt_u : ∃ d, Tryz.prog.underlying TOKT = some d ∧ d.isRow = true := by
  cases e : Tryz.prog.underlying TOKT with
  | none => exact absurd e (by rw [Tryz.underlying23]; simp)
  | some d => exact ⟨d, rfl, by rw [Tryz.underlying23] at e; injection e with e; subst e; rfl⟩
theorem tok_one (a b c : Int) (s : ByteArray) (d : Int) (f : Bool) (e g : Int) (r : ByteArray) : ∀ v ∈ tokC a b c s d f e g r, v.oneCell' = true := fun v hv => by
  simp only [tokC, List.mem_cons, List.not_mem_nil, or_false] at hv
  rcases hv with rfl | rfl | rfl | rfl | rfl | rfl | rfl | rfl | rfl <;> rfl
section
variable {E : World} {L : List Hp}
set_option maxRecDepth 20000 in
set_option maxHeartbeats 8000000 in
theorem parsetok_any (k v : ByteArray) (w : World) (hk : k.size ≤ 1000000000000000) (hv : v.size ≤ 1000000000000000) (hG : Laid0 E L) (h : Own E w L) :
    Calls Tryz.prog 13 #[.agg #[.string k, .string v]] w fun ev w' => ev = .returned (.tuple #[.agg (tokQ k v).1.toArray, .int .i64 (tokQ k v).2]) ∧ Own E w' L := by
  have h1 := h.alloc (.cells #[.string k, .string v] ITT)
  have h2 := h1.alloc (.cells (tokC 0 0 0 ⟨#[]⟩ 0 false 0 0 ⟨#[]⟩).toArray TOKT)
  have h3 := h2.alloc (.cells (tokC 0 0 0 ⟨#[]⟩ 0 false 0 0 ⟨#[]⟩).toArray TOKT)
  have h4 := h3.alloc (.cells #[.int .i64 0] 3)
  rw [alloc_size, alloc_size, alloc_size] at h4
  have H3 := Lib.hid (show Own E _ (Hp.blk (w.heap.size + 1 + 1) TOKT (tokC 0 0 0 ⟨#[]⟩ 0 false 0 0 ⟨#[]⟩).toArray :: Hp.blk (w.heap.size + 1 + 1 + 1) 3 #[.int .i64 0] :: Hp.blk (w.heap.size + 1) TOKT (tokC 0 0 0 ⟨#[]⟩ 0 false 0 0 ⟨#[]⟩).toArray :: Hp.blk w.heap.size ITT #[.string k, .string v] :: L) from h4.f1)
  obtain ⟨dd, hd, hrow⟩ := tokt_u
  obtain ⟨z, nok, hq⟩ : ∃ z nok, numberV k ⟨#[116]⟩ 8 = (z, nok) := ⟨_, _, rfl⟩
  have KN : Hid (∀ w3 : World, Own E w3 (Hp.blk (w.heap.size + 1 + 1) TOKT (tokC 0 0 0 ⟨#[]⟩ 0 false 0 0 ⟨#[]⟩).toArray :: Hp.blk (w.heap.size + 1 + 1 + 1) 3 #[.int .i64 0] :: Hp.blk (w.heap.size + 1) TOKT (tokC 0 0 0 ⟨#[]⟩ 0 false 0 0 ⟨#[]⟩).toArray :: Hp.blk w.heap.size ITT #[.string k, .string v] :: L) → Calls Tryz.prog 66 #[.string k, .string ⟨#[116]⟩, .int .i64 8] w3 fun ev w' => ev = .returned (.tuple #[.int .i64 z, .bool nok]) ∧ Own E w' (Hp.blk (w.heap.size + 1 + 1) TOKT (tokC 0 0 0 ⟨#[]⟩ 0 false 0 0 ⟨#[]⟩).toArray :: Hp.blk (w.heap.size + 1 + 1 + 1) 3 #[.int .i64 0] :: Hp.blk (w.heap.size + 1) TOKT (tokC 0 0 0 ⟨#[]⟩ 0 false 0 0 ⟨#[]⟩).toArray :: Hp.blk w.heap.size ITT #[.string k, .string v] :: L)) := Lib.hid fun w3 h3 => by
    have hh := recnum_any (E := E) k ⟨#[116]⟩ 8 w3 hk hG.cons.cons.cons.cons h3
    rw [hq] at hh
    exact hh
  clear h h1 h2 h3 h4
  cases nok with
  | false =>
    have HR : Hid (tokQ k v = ((tokC 0 0 0 noB 0 false 0 0 noB), 141)) := Lib.hid (if_neg fun hm => by have := hm.1; rw [hq] at this; cases this)
    clear hq hG hk hv
    go_enter Tryz.func13, Tryz.ntmps13
    go_wp2_with (refine (KN.out _ H3.out).mono ?_; clear H3; rintro ev w2 ⟨rfl, h⟩; have H3 := Lib.hid h; clear h)
    have h := H3.out.drew
    refine wp_region_text [] (fun _ => True) (by kernel_rfl) ?_ (fun hS => ?_)
    · trivial
    refine gp 0 (some 16) ?_
    refine gp 1 (some 17) ?_
    refine gp 2 (some 18) ?_
    refine gs 3 (some 19) ?_
    refine gs 4 (some 20) ?_
    refine gs 5 (some 21) ?_
    refine gs 6 (some 22) ?_
    refine gs 7 (some 23) ?_
    refine gp 8 (some 24) ?_
    refine wpAnyG_done (by kernel_rfl) ?_ _
    refine NoPanic.normal ?_
    clear H3
    have H3 := Lib.hid h.f2
    clear h
    go_wp2_with (with_reducible refine at_slot (k := none) ?_; refine wpList_store_whole (o := ⟨none, _, _, _, _, _⟩) (cs := (tokC 0 0 0 ⟨#[]⟩ 0 false 0 0 ⟨#[]⟩)) (vs := (tokC 0 0 0 ⟨#[]⟩ 0 false 0 0 ⟨#[]⟩)) H3.out rfl (tok_one _ _ _ _ _ _ _ _ _) (by kernel_rfl) rfl rfl rfl rfl ?_; clear H3; intro w7 h; have H8 := Lib.hid h; clear h)
    refine bodyPost_ret (results_ct rfl rfl H8.out hd hrow (by kernel_rfl)) rfl ?_
    exact ⟨by rw [HR.out]; rfl, H8.out.drop.drop.drop.drop⟩
  | true =>
    obtain ⟨b, c, s, d, fl, e, g, r, ok, hr⟩ : ∃ b c s d fl e g r ok, readV tokKs v = ([.n b, .n c, .s s, .n d, .n fl, .n e, .n g, .s r], ok) := ⟨_, _, _, _, _, _, _, _, _, rfl⟩
    have KR : Hid (∀ (bb : Nat) (w3 : World), Own E w3 (Hp.blk bb FT ((tokenFs (w.heap.size + 1 + 1) (w.heap.size + 1 + 1 + 1)).flatMap enF).toArray :: Hp.blk (w.heap.size + 1 + 1) TOKT (tokC 0 0 0 ⟨#[]⟩ 0 false 0 0 ⟨#[]⟩).toArray :: Hp.blk (w.heap.size + 1 + 1 + 1) 3 #[.int .i64 0] :: Hp.blk (w.heap.size + 1) TOKT (tokC 0 0 0 ⟨#[]⟩ 0 false 0 0 ⟨#[]⟩).toArray :: Hp.blk w.heap.size ITT #[.string k, .string v] :: L) →
        Calls Tryz.prog 67 #[.slice (some ⟨bb, 0, none⟩) 8 8, .string v] w3 fun ev w' => ev = .returned (.bool ok) ∧ Own E w' (Hp.blk (w.heap.size + 1 + 1) TOKT (tokC 0 b c s d false e g r).toArray :: Hp.blk (w.heap.size + 1 + 1 + 1) 3 #[.int .i64 fl] :: Hp.blk (w.heap.size + 1) TOKT (tokC 0 0 0 ⟨#[]⟩ 0 false 0 0 ⟨#[]⟩).toArray :: Hp.blk w.heap.size ITT #[.string k, .string v] :: L)) := Lib.hid fun bb w3 h3 => by
      have h4 : Own E w3 (Hp.blk bb FT ((tokenFs (w.heap.size + 1 + 1) (w.heap.size + 1 + 1 + 1)).flatMap enF).toArray :: tokP (w.heap.size + 1 + 1) (w.heap.size + 1 + 1 + 1) [.int .i64 0, .int .i64 0, .string ⟨#[]⟩, .int .i64 0, .int .i64 0, .int .i64 0, .int .i64 0, .string ⟨#[]⟩] :: Hp.blk (w.heap.size + 1) TOKT (tokC 0 0 0 ⟨#[]⟩ 0 false 0 0 ⟨#[]⟩).toArray :: Hp.blk w.heap.size ITT #[.string k, .string v] :: L) := (Own.sep2.2 h3.f2.f2).f1
      have hh := read_blk (E := E) bb 8 (tokenFs (w.heap.size + 1 + 1) (w.heap.size + 1 + 1 + 1)) v _ [.int .i64 0, .int .i64 0, .string ⟨#[]⟩, .int .i64 0, .int .i64 0, .int .i64 0, .int .i64 0, .string ⟨#[]⟩] w3 rfl (by omega) hv (places_tok _ _) rfl hG.cons.cons h4
      rw [show (tokenFs (w.heap.size + 1 + 1) (w.heap.size + 1 + 1 + 1)).map (·.1) = tokKs from rfl, hr] at hh
      refine hh.mono ?_
      rintro ev w' ⟨rfl, h⟩
      exact ⟨rfl, Own.sep2.1 h⟩
    have HG := Lib.hid hG
    have HPR : Hid (∀ w3 : World, Own E w3 (Hp.blk (w.heap.size + 1 + 1) TOKT (tokC z b c s d (fl == 1) e g r).toArray :: Hp.blk (w.heap.size + 1 + 1 + 1) 3 #[.int .i64 fl] :: Hp.blk (w.heap.size + 1) TOKT (tokC 0 0 0 ⟨#[]⟩ 0 false 0 0 ⟨#[]⟩).toArray :: Hp.blk w.heap.size ITT #[.string k, .string v] :: L) → Calls Tryz.prog 11 #[.agg (tokC z b c s d (fl == 1) e g r).toArray] w3 fun ev w' => ev = .returned (.tuple #[.agg #[.string (tokR z b c s d (fl == 1) e g r).1, .string (tokR z b c s d (fl == 1) e g r).2.1], .int .i64 (tokR z b c s d (fl == 1) e g r).2.2]) ∧ Own E w' (Hp.blk (w.heap.size + 1 + 1) TOKT (tokC z b c s d (fl == 1) e g r).toArray :: Hp.blk (w.heap.size + 1 + 1 + 1) 3 #[.int .i64 fl] :: Hp.blk (w.heap.size + 1) TOKT (tokC 0 0 0 ⟨#[]⟩ 0 false 0 0 ⟨#[]⟩).toArray :: Hp.blk w.heap.size ITT #[.string k, .string v] :: L)) := Lib.hid fun w3 h3 => printtok_any z b c s d (fl == 1) e g r w3 HG.out.cons.cons.cons.cons h3
    have HQ : Hid (tokQ k v = if ok = true ∧ tokR z b c s d (fl == 1) e g r = (k, v, 0) then ((tokC z b c s d (fl == 1) e g r), 0) else ((tokC 0 0 0 noB 0 false 0 0 noB), 141)) := Lib.hid (by
      unfold tokQ
      rw [hq, hr]
      show (if true = true ∧ ok = true ∧ tokR z b c s d (fl == 1) e g r = (k, v, 0) then _ else _) = _
      by_cases hc : ok = true ∧ tokR z b c s d (fl == 1) e g r = (k, v, 0)
      · rw [if_pos hc, if_pos ⟨rfl, hc⟩]; rfl
      · rw [if_neg hc, if_neg fun q => hc q.2])
    have HC : Hid (∀ w' : World, Own E w' (Hp.blk (w.heap.size + 1 + 1) TOKT (tokC 0 0 0 ⟨#[]⟩ 0 false 0 0 ⟨#[]⟩).toArray :: Hp.blk (w.heap.size + 1 + 1 + 1) 3 #[.int .i64 0] :: Hp.blk (w.heap.size + 1) TOKT (tokC 0 0 0 ⟨#[]⟩ 0 false 0 0 ⟨#[]⟩).toArray :: Hp.blk w.heap.size ITT #[.string k, .string v] :: L) → w'.cell? ⟨w.heap.size, 1, none⟩ = some (.string v)) := Lib.hid fun w' h => by rw [h.f3.cell 1]; rfl
    clear hq hr hG hk hv
    go_enter Tryz.func13, Tryz.ntmps13
    go_wp2_with (refine (KN.out _ H3.out).mono ?_; clear H3; rintro ev w2 ⟨rfl, h⟩; have H3 := Lib.hid h; clear h)
    have h := H3.out.drew
    clear H3
    refine wp_region_text [5] (fun w' => w'.cell? ⟨w.heap.size, 1, none⟩ = some (.string v)) (by kernel_rfl) ?_ (fun hS => ?_)
    · exact HC.out _ h
    refine gp 0 (some 16) ?_
    refine gp 1 (some 17) ?_
    refine gp 2 (some 18) ?_
    refine gp 4 (some 20) ?_
    refine gl 5 (some 21) ?_
    refine gk 3 (some 19) (fun K hK => ?_)
    rw [if_pos (by rfl)]
    go_simp
    refine (tokenfields_any _ _ _ h).mono ?_
    clear h
    rintro ev w2 ⟨bb, rfl, h⟩
    refine hK.out _ _ ?_ (fun hS => ?_)
    · exact HC.out _ h.drop
    clear hK K
    try simp only [Act.put, List.setIfInBounds_toArray, List.set_cons_zero, List.set_cons_succ]
    refine wpAnyG_break (i := 6) (oi := ⟨some 22, _, _, _, _, _⟩) (by kernel_rfl) rfl (by kernel_rfl) (fun K hK => ?_)
    rw [if_pos (by rfl)]
    go_simp
    refine (KR.out _ _ h).mono ?_
    clear h
    rintro ev w2 ⟨rfl, h⟩
    refine hK.out _ _ ?_
    clear hK K
    try simp only [Act.put, List.setIfInBounds_toArray, List.set_cons_zero, List.set_cons_succ]
    refine gp 7 (some 23) ?_
    refine gp 8 (some 24) ?_
    refine wpAnyG_done (by kernel_rfl) ?_ _
    refine NoPanic.normal ?_
    cases ok with
    | false =>
      have HR : Hid (tokQ k v = ((tokC 0 0 0 noB 0 false 0 0 noB), 141)) := Lib.hid (by rw [HQ.out]; exact if_neg fun hm => by cases hm.1)
      have H3 := Lib.hid h.f2
      clear h
      go_wp2_with (with_reducible refine at_slot (k := none) ?_; refine wpList_store_whole (o := ⟨none, _, _, _, _, _⟩) (cs := (tokC 0 0 0 ⟨#[]⟩ 0 false 0 0 ⟨#[]⟩)) (vs := (tokC 0 0 0 ⟨#[]⟩ 0 false 0 0 ⟨#[]⟩)) H3.out rfl (tok_one _ _ _ _ _ _ _ _ _) (by kernel_rfl) rfl rfl rfl rfl ?_; clear H3; intro w7 h; have H8 := Lib.hid h; clear h)
      refine bodyPost_ret (results_ct rfl rfl H8.out hd hrow (by kernel_rfl)) rfl ?_
      exact ⟨by rw [HR.out]; rfl, H8.out.drop.drop.drop.drop⟩
    | true =>
      have cf := h.f1.cell 0
      simp only [List.getElem?_toArray, List.getElem?_cons_zero] at cf
      obtain ⟨⟨old, ho⟩, hf, hs⟩ := h.put1 0 (.int .i64 z) (show (0 : Nat) < 9 by omega)
      obtain ⟨⟨old2, ho2⟩, hf2, hs⟩ := hs.put1 5 (.bool (fl == 1)) (show (5 : Nat) < 9 by omega)
      have hs : Own E _ (Hp.blk (w.heap.size + 1 + 1) TOKT (tokC z b c s d (fl == 1) e g r).toArray :: Hp.blk (w.heap.size + 1 + 1 + 1) 3 #[.int .i64 fl] :: Hp.blk (w.heap.size + 1) TOKT (tokC 0 0 0 ⟨#[]⟩ 0 false 0 0 ⟨#[]⟩).toArray :: Hp.blk w.heap.size ITT #[.string k, .string v] :: L) := hs
      have H3 := Lib.hid hs
      clear h hs
      obtain ⟨x1, x2, er, hpr⟩ : ∃ x1 x2 er, tokR z b c s d (fl == 1) e g r = (x1, x2, er) := ⟨_, _, _, rfl⟩
      rw [hpr] at HPR HQ
      clear hpr
      by_cases he : er = 0
      · subst he
        by_cases hx : x1 = k ∧ x2 = v
        · have HR : Hid (tokQ k v = ((tokC z b c s d (fl == 1) e g r), 0)) := Lib.hid (by rw [HQ.out]; exact if_pos ⟨rfl, by rw [hx.1, hx.2]⟩)
          have hq : ∀ w, (binOp .neq ITT (.agg #[.string x1, .string x2]) (.agg #[.string k, .string v])).run Tryz.prog w = .ok (.bool false) w := fun w => by rw [run_pair, decide_eq_true hx]; rfl
          clear hx
          go_wp2_with (first
            | (with_reducible refine at_slot (k := some 32) ?_; refine wpList_load_arr (o := ⟨some 32, _, _, _, _, _⟩) H3.out 0 (tokC z b c s d (fl == 1) e g r) (fun jj u hu => by simpa using hu) hd hrow (by kernel_rfl) rfl rfl rfl ?_)
            | (refine (HPR.out _ H3.out).mono ?_; clear H3; rintro ev w2 ⟨rfl, h⟩; have H3 := Lib.hid (h.alloc (.cells #[.string x1, .string x2] ITT)); clear h; have p0 := H3.out.f4.cell 0; have p1 := H3.out.f4.cell 1; simp only [List.getElem?_toArray, List.getElem?_cons_zero, List.getElem?_cons_succ] at p0 p1)
            | (with_reducible refine at_slot (k := some 44) ?_; refine wpList_load_arr (o := ⟨some 44, _, _, _, _, _⟩) H3.out.f1 0 (tokC z b c s d (fl == 1) e g r) (fun jj u hu => by simpa using hu) hd hrow (by kernel_rfl) rfl rfl rfl ?_)
            | (with_reducible refine at_slot (k := none) ?_; refine wpList_store_whole (o := ⟨none, _, _, _, _, _⟩) (cs := (tokC 0 0 0 ⟨#[]⟩ 0 false 0 0 ⟨#[]⟩)) (vs := (tokC z b c s d (fl == 1) e g r)) H3.out.f3 rfl (tok_one _ _ _ _ _ _ _ _ _) (by kernel_rfl) rfl rfl rfl rfl ?_; clear H3; intro w7 h; have H8 := Lib.hid h; clear h))
          refine bodyPost_ret (results_ct rfl rfl H8.out hd hrow (by kernel_rfl)) rfl ?_
          exact ⟨by rw [HR.out]; rfl, H8.out.drop.drop.drop.drop.drop⟩
        · have HR : Hid (tokQ k v = ((tokC 0 0 0 noB 0 false 0 0 noB), 141)) := Lib.hid (by rw [HQ.out]; exact if_neg fun hm => hx ⟨congrArg (·.1) hm.2, congrArg (·.2.1) hm.2⟩)
          have hq : ∀ w, (binOp .neq ITT (.agg #[.string x1, .string x2]) (.agg #[.string k, .string v])).run Tryz.prog w = .ok (.bool true) w := fun w => by rw [run_pair, decide_eq_false hx]; rfl
          clear hx
          go_wp2_with (first
            | (with_reducible refine at_slot (k := some 32) ?_; refine wpList_load_arr (o := ⟨some 32, _, _, _, _, _⟩) H3.out 0 (tokC z b c s d (fl == 1) e g r) (fun jj u hu => by simpa using hu) hd hrow (by kernel_rfl) rfl rfl rfl ?_)
            | (refine (HPR.out _ H3.out).mono ?_; clear H3; rintro ev w2 ⟨rfl, h⟩; have H3 := Lib.hid (h.alloc (.cells #[.string x1, .string x2] ITT)); clear h; have p0 := H3.out.f4.cell 0; have p1 := H3.out.f4.cell 1; simp only [List.getElem?_toArray, List.getElem?_cons_zero, List.getElem?_cons_succ] at p0 p1)
            | (with_reducible refine at_slot (k := some 44) ?_; refine wpList_load_arr (o := ⟨some 44, _, _, _, _, _⟩) H3.out.f1 0 (tokC z b c s d (fl == 1) e g r) (fun jj u hu => by simpa using hu) hd hrow (by kernel_rfl) rfl rfl rfl ?_)
            | (with_reducible refine at_slot (k := none) ?_; refine wpList_store_whole (o := ⟨none, _, _, _, _, _⟩) (cs := (tokC 0 0 0 ⟨#[]⟩ 0 false 0 0 ⟨#[]⟩)) (vs := (tokC 0 0 0 ⟨#[]⟩ 0 false 0 0 ⟨#[]⟩)) H3.out.f3 rfl (tok_one _ _ _ _ _ _ _ _ _) (by kernel_rfl) rfl rfl rfl rfl ?_; clear H3; intro w7 h; have H8 := Lib.hid h; clear h))
          refine bodyPost_ret (results_ct rfl rfl H8.out hd hrow (by kernel_rfl)) rfl ?_
          exact ⟨by rw [HR.out]; rfl, H8.out.drop.drop.drop.drop.drop⟩
      · have HR : Hid (tokQ k v = ((tokC 0 0 0 noB 0 false 0 0 noB), 141)) := Lib.hid (by rw [HQ.out]; exact if_neg fun hm => he (congrArg (·.2.2) hm.2))
        have hz : (er != 0) = true := by rw [bne_iff_ne]; exact he
        clear he
        go_wp2_with (first
          | (with_reducible refine at_slot (k := some 32) ?_; refine wpList_load_arr (o := ⟨some 32, _, _, _, _, _⟩) H3.out 0 (tokC z b c s d (fl == 1) e g r) (fun jj u hu => by simpa using hu) hd hrow (by kernel_rfl) rfl rfl rfl ?_)
          | (refine (HPR.out _ H3.out).mono ?_; clear H3; rintro ev w2 ⟨rfl, h⟩; have H3 := Lib.hid (h.alloc (.cells #[.string x1, .string x2] ITT)); clear h; have p0 := H3.out.f4.cell 0; have p1 := H3.out.f4.cell 1; simp only [List.getElem?_toArray, List.getElem?_cons_zero, List.getElem?_cons_succ] at p0 p1)
          | (with_reducible refine at_slot (k := some 44) ?_; refine wpList_load_arr (o := ⟨some 44, _, _, _, _, _⟩) H3.out.f1 0 (tokC z b c s d (fl == 1) e g r) (fun jj u hu => by simpa using hu) hd hrow (by kernel_rfl) rfl rfl rfl ?_)
          | (with_reducible refine at_slot (k := none) ?_; refine wpList_store_whole (o := ⟨none, _, _, _, _, _⟩) (cs := (tokC 0 0 0 ⟨#[]⟩ 0 false 0 0 ⟨#[]⟩)) (vs := (tokC 0 0 0 ⟨#[]⟩ 0 false 0 0 ⟨#[]⟩)) H3.out.f3 rfl (tok_one _ _ _ _ _ _ _ _ _) (by kernel_rfl) rfl rfl rfl rfl ?_; clear H3; intro w7 h; have H8 := Lib.hid h; clear h))
        refine bodyPost_ret (results_ct rfl rfl H8.out hd hrow (by kernel_rfl)) rfl ?_
        exact ⟨by rw [HR.out]; rfl, H8.out.drop.drop.drop.drop.drop⟩
end
end Go.Proofs.YtabibfabieghpaaGreatDoor
namespace Go.Proofs.YtabibfabieghpaaGreatDoor
open Go.RowKit
theorem number_back (t : UInt8) (k : Nat) (z : Int) (h1 : 1 ≤ k) (h2 : k ≤ 8) (h3 : 0 ≤ z) (h4 : z < 256 ^ k) (h5 : z ≤ 9223372036854775807) : numberV ⟨(t :: byN k z.toNat).toArray⟩ ⟨#[t]⟩ k = (z, true) := by
  have hf : ∀ f ∈ [((.num k, .n z) : Fk × Fv)], fits1 f := fun f hf => by
    rw [List.mem_singleton] at hf
    subst hf
    exact ⟨h1, h2, h3, h4, h5⟩
  have hp : Lib.hasPrefix (t :: byN k z.toNat) [t] = true := by unfold Lib.hasPrefix; simp
  have ht : Lib.trimPrefix (t :: byN k z.toNat) [t] = byN k z.toNat := by unfold Lib.trimPrefix; rw [hp]; rfl
  have hr := readV_printed hf
  rw [printed_fits hf, show [((.num k, .n z) : Fk × Fv)].flatMap bytesF = byN k z.toNat by simp [bytesF, Fv.num]] at hr
  unfold numberV
  show (if Lib.hasPrefix (t :: byN k z.toNat) [t] = true then _ else _) = _
  rw [if_pos hp]
  show ((((readV [.num k] ⟨(Lib.trimPrefix (t :: byN k z.toNat) [t]).toArray⟩).1.getD 0 (.n 0)).num), (readV [.num k] ⟨(Lib.trimPrefix (t :: byN k z.toNat) [t]).toArray⟩).2) = _
  rw [ht, show [Fk.num k] = [((.num k, .n z) : Fk × Fv)].map (·.1) from rfl, hr]
  rfl
theorem key_back (g : Int) (s : ByteArray) (a b : Int) (h : keyMay g s a b) : keyQ (keyK g s a b) (keyV g s a b) = ([.int .i64 g, .string s, .int .i64 a, .int .i64 b], 0) := by
  have e1 : numberV (keyK g s a b) ⟨#[107]⟩ 4 = (g, true) := by
    obtain ⟨c1, -⟩ := h
    exact number_back 107 4 g (by omega) (by omega) (by omega) (by show g < (256 : Int) ^ 4; omega) (by omega)
  have e2 : readV keyKs (keyV g s a b) = ([.s s, .n a, .n b], true) := by
    have hh := readV_printed (key_fits 0 g s a b h)
    rw [key_printed 0 g s a b h] at hh
    exact hh
  unfold keyQ
  rw [e1, e2]
  exact if_pos ⟨rfl, rfl, if_pos h⟩
theorem event_back (i t k j : Int) (s : ByteArray) (h : eventMay i t k j s) : eventQ (eventK i t k j s) (eventV i t k j s) = ([.int .i64 i, .int .i64 t, .int .i64 k, .int .i64 j, .string s], 0) := by
  have e1 : numberV (eventK i t k j s) ⟨#[101]⟩ 8 = (i, true) := by
    obtain ⟨c1, -⟩ := h
    exact number_back 101 8 i (by omega) (by omega) (by omega) (by show i < (256 : Int) ^ 8; omega) (by omega)
  have e2 : readV eventKs (eventV i t k j s) = ([.n t, .n k, .n j, .s s], true) := by
    have hh := readV_printed (event_fits 0 i t k j s h)
    rw [event_printed 0 i t k j s h] at hh
    exact hh
  unfold eventQ
  rw [e1, e2]
  exact if_pos ⟨rfl, rfl, if_pos h⟩
theorem chain_back (a b : Int) (s r : ByteArray) (h : chainMay a b s r) : chainQ (chainK a b s r) (chainV a b s r) = ([.int .i64 a, .int .i64 b, .string s, .string r], 0) := by
  have e2 : readV chainKs (chainV a b s r) = ([.n a, .n b, .s s, .s r], true) := by
    have hh := readV_printed (chain_fits 0 a b s r h)
    rw [chain_printed 0 a b s r h] at hh
    exact hh
  have e3 : (chainR a b s r).2.2 = 0 := by unfold chainR; rw [if_pos h]
  unfold chainQ
  rw [e2]
  exact if_pos ⟨rfl, rfl, e3⟩
theorem note_back (a b : Int) (h : noteMay a b) : noteQ (noteV a b) = (a, b, 0) := by
  have e2 : ∃ c, readV noteKs (noteV a b) = ([.n a, .n b, .s c], true) := by
    have hh := readV_printed (note_fits 0 0 0 a b h)
    rw [note_printed 0 0 0 a b h] at hh
    exact ⟨_, hh⟩
  obtain ⟨c, e2⟩ := e2
  unfold noteQ
  rw [e2]
  exact if_pos ⟨rfl, if_pos h⟩
theorem tok_back (a b c : Int) (s : ByteArray) (d : Int) (f : Bool) (e g : Int) (r : ByteArray) (h : tokMay a b c s d f e g r) : tokQ (tokK a) (tokV b c s d f e g r) = (tokC a b c s d f e g r, 0) := by
  have e1 : numberV (tokK a) ⟨#[116]⟩ 8 = (a, true) := by
    obtain ⟨c1, -⟩ := h
    exact number_back 116 8 a (by omega) (by omega) (by omega) (by show a < (256 : Int) ^ 8; omega) (by omega)
  have e2 : readV tokKs (tokV b c s d f e g r) = ([.n b, .n c, .s s, .n d, .n (flagV f 1), .n e, .n g, .s r], true) := by
    have hh := readV_printed (tok_fits 0 0 h)
    rw [tok_printed 0 0 h] at hh
    exact hh
  have e3 : (flagV f 1 == 1) = f := by cases f <;> rfl
  unfold tokQ
  rw [e1, e2]
  show (if true = true ∧ true = true ∧ tokR a b c s d (flagV f 1 == 1) e g r = (tokK a, tokV b c s d f e g r, 0) then (tokC a b c s d (flagV f 1 == 1) e g r, (0 : Int)) else _) = _
  rw [e3]
  exact if_pos ⟨rfl, rfl, if_pos h⟩
end Go.Proofs.YtabibfabieghpaaGreatDoor
namespace Go.Proofs.YtabibfabieghpaaGreatDoor
open Go.RowKit
def abcB : ByteArray := ⟨#[97, 98, 99, 100, 101, 102, 103, 104, 105, 106, 107, 108, 109, 110, 111, 112, 113, 114, 115, 116, 117, 118, 119, 120]⟩
section
variable {E : World} {L : List Hp}
set_option maxRecDepth 20000 in
theorem key14_any (g : Int) (w : World) (h : Own E w L) : Calls Tryz.prog 57 #[.int .i64 g] w fun ev w' => ev = .returned (.agg #[.int .i64 g, .string abcB, .int .i64 5, .int .i64 9]) ∧ Own E w' L := by
  obtain ⟨dd, hd, hrow⟩ := keyt_u
  have H3 := Lib.hid (h.alloc (.cells #[.int .i64 0, .string ⟨#[]⟩, .int .i64 0, .int .i64 0] KEYT))
  clear h
  go_enter Tryz.func57, Tryz.ntmps57
  go_wp2_with (with_reducible refine at_slot (k := none) ?_; refine wpList_store_whole (o := ⟨none, _, _, _, _, _⟩) (cs := [.int .i64 0, .string ⟨#[]⟩, .int .i64 0, .int .i64 0]) (vs := [.int .i64 g, .string abcB, .int .i64 5, .int .i64 9]) H3.out rfl (key_one _ _ _ _) (by kernel_rfl) rfl rfl rfl rfl ?_; clear H3; intro w7 h; have H8 := Lib.hid h; clear h)
  refine bodyPost_ret (results_arr rfl rfl H8.out hd hrow (by kernel_rfl)) rfl ?_
  exact ⟨rfl, H8.out.drop⟩
def k7K : ByteArray := ⟨#[107, 0, 0, 0, 7]⟩
theorem k7_may : keyMay 7 abcB 5 9 := ⟨by omega, rfl, by omega, by omega, by omega⟩
theorem k7_K : keyK 7 abcB 5 9 = k7K := rfl
theorem k7_size : (keyV 7 abcB 5 9).size = 36 := rfl
set_option maxRecDepth 20000 in
set_option maxHeartbeats 8000000 in
theorem awake14_any (w : World) (hG : Laid0 E L) (h : Own E w L) : Calls Tryz.prog 10 #[] w fun ev w' => ev = .returned (.bool true) ∧ Own E w' L := by
  obtain ⟨dd, hd, hrow⟩ := keyt_u
  have HG := Lib.hid hG
  have q1 : keyR 7 abcB 5 9 = (k7K, keyV 7 abcB 5 9, 0) := by rw [← k7_K]; exact if_pos k7_may
  have q2 : keyR 0 abcB 5 9 = (noB, noB, 140) := if_neg fun h => absurd h.1.1 (by decide)
  have q3 := key_back 7 abcB 5 9 k7_may
  rw [k7_K] at q3
  have hsz := k7_size
  have hsi : ((keyV 7 abcB 5 9).size : Int) = 36 := by rw [hsz]; rfl
  have P1 : Hid (∀ (M : List Hp) (w : World), Laid0 E M → Own E w M → Calls Tryz.prog 16 #[.agg #[.int .i64 7, .string abcB, .int .i64 5, .int .i64 9]] w fun ev w' => ev = .returned (.tuple #[.agg #[.string k7K, .string (keyV 7 abcB 5 9)], .int .i64 0]) ∧ Own E w' M) := Lib.hid fun M w hG h => by
    have hh := printkey_any 7 abcB 5 9 w hG h
    rw [q1] at hh
    exact hh
  have P2 : Hid (∀ (M : List Hp) (w : World), Laid0 E M → Own E w M → Calls Tryz.prog 16 #[.agg #[.int .i64 0, .string abcB, .int .i64 5, .int .i64 9]] w fun ev w' => ev = .returned (.tuple #[.agg #[.string noB, .string noB], .int .i64 140]) ∧ Own E w' M) := Lib.hid fun M w hG h => by
    have hh := printkey_any 0 abcB 5 9 w hG h
    rw [q2] at hh
    exact hh
  have P3 : Hid (∀ (M : List Hp) (w : World), Laid0 E M → Own E w M → Calls Tryz.prog 18 #[.agg #[.string k7K, .string (keyV 7 abcB 5 9)]] w fun ev w' => ev = .returned (.tuple #[.agg #[.int .i64 7, .string abcB, .int .i64 5, .int .i64 9], .int .i64 0]) ∧ Own E w' M) := Lib.hid fun M w hG h => by
    have hh := parsekey_any k7K (keyV 7 abcB 5 9) w (by decide) (by omega) hG h
    rw [q3] at hh
    exact hh
  have H3 := Lib.hid h
  clear h hG q1 q2 q3 hsz
  generalize keyV 7 abcB 5 9 = v7 at *
  go_enter Tryz.func10, Tryz.ntmps10
  go_wp2_with (first
    | (refine (key14_any _ _ H3.out).mono ?_; clear H3; rintro ev w2 ⟨rfl, h⟩; have H3 := Lib.hid h; clear h)
    | (with_reducible refine (P1.out _ _ HG.out H3.out).mono ?_; clear H3 P1; rintro ev wA ⟨rfl, h⟩; have H3 := Lib.hid (h.alloc (.cells #[.string k7K, .string v7] ITT)); clear h)
    | (with_reducible refine (P3.out _ _ HG.out.cons H3.out).mono ?_; clear H3 P3; rintro ev wB ⟨rfl, h⟩; have H3 := Lib.hid (h.alloc (.cells #[.int .i64 7, .string abcB, .int .i64 5, .int .i64 9] KEYT)); clear h)
    | (with_reducible refine (P2.out _ _ HG.out.cons.cons H3.out).mono ?_; clear H3 P2; rintro ev wC ⟨rfl, h⟩; have H3 := Lib.hid (h.alloc (.cells #[.string noB, .string noB] ITT)); clear h))
  have HC : Hid (∀ w' : World, Own E w' (Hp.blk wC.heap.size ITT #[.string noB, .string noB] :: Hp.blk wB.heap.size KEYT #[.int .i64 7, .string abcB, .int .i64 5, .int .i64 9] :: Hp.blk wA.heap.size ITT #[.string k7K, .string v7] :: L) → w'.cell? ⟨wA.heap.size, 0, none⟩ = some (.string k7K) ∧ w'.cell? ⟨wA.heap.size, 1, none⟩ = some (.string v7) ∧ w'.rangeAt wB.heap.size 0 [.int .i64 7, .string abcB, .int .i64 5, .int .i64 9]) := Lib.hid fun w' h => ⟨by rw [h.f2.cell 0]; rfl, by rw [h.f2.cell 1]; rfl, h.f1.range 0 _ (fun j u hu => by simpa using hu)⟩
  have h : Own E _ (Hp.blk wC.heap.size ITT #[.string noB, .string noB] :: Hp.blk wB.heap.size KEYT #[.int .i64 7, .string abcB, .int .i64 5, .int .i64 9] :: Hp.blk wA.heap.size ITT #[.string k7K, .string v7] :: L) := H3.out.drew
  clear H3
  have he : (k7K.toList == [107, 0, 0, 0, 7]) = true := by rw [ByteArray.toList_eq]; rfl
  have hkq : ∀ w, (binOp .eql KEYT (.agg #[.int .i64 7, .string abcB, .int .i64 5, .int .i64 9]) (.agg #[.int .i64 7, .string abcB, .int .i64 5, .int .i64 9])).run Tryz.prog w = .ok (.bool true) w := fun w => by rw [run_eql_struct, eq_key]; rfl
  refine wp_region_text [12, 17, 22] (fun w' => w'.cell? ⟨wA.heap.size, 0, none⟩ = some (.string k7K) ∧ w'.cell? ⟨wA.heap.size, 1, none⟩ = some (.string v7) ∧ w'.rangeAt wB.heap.size 0 [.int .i64 7, .string abcB, .int .i64 5, .int .i64 9]) (by kernel_rfl) ?_ (fun hS => ?_)
  · exact HC.out _ h
  refine gp 0 (some 22) ?_
  refine gp 1 (some 23) ?_
  refine gp 2 (some 24) ?_
  refine gp 3 (some 25) ?_
  refine gp 4 (some 26) ?_
  refine gp 5 (some 27) ?_
  refine gp 6 (some 28) ?_
  refine gp 7 (some 29) ?_
  refine gp 8 (some 30) ?_
  refine gp 9 (some 31) ?_
  refine gp 10 (some 32) ?_
  refine gp 11 (some 33) ?_
  refine gm 12 (some 34) (.string k7K) ?_ ?_
  · intro w hS
    obtain ⟨b0, b1, b2⟩ := hS; go_simp; first | done | with_reducible rfl
  refine gp 13 (some 35) ?_
  refine gp 14 (some 36) ?_
  refine gp 15 (some 37) ?_
  refine gp 16 (some 38) ?_
  refine gm 17 (some 39) (.string v7) ?_ ?_
  · intro w hS
    obtain ⟨b0, b1, b2⟩ := hS; go_simp; first | done | with_reducible rfl
  refine gp 18 (some 40) ?_
  refine gp 19 (some 41) ?_
  refine gp 20 (some 42) ?_
  refine gp 21 (some 43) ?_
  refine gm 22 (some 44) (.agg #[.int .i64 7, .string abcB, .int .i64 5, .int .i64 9]) ?_ ?_
  · intro w hS
    exact exec_load_mid KEYT (.tmp 3) rfl wB.heap.size 0 (by rfl) [.int .i64 7, .string abcB, .int .i64 5, .int .i64 9] _ hS.2.2 Tryz.underlying25 rfl (by kernel_rfl)
  refine gk 23 (some 45) (fun K hK => ?_)
  rw [if_pos (by rfl)]
  go_simp
  refine (key14_any _ _ h).mono ?_
  clear h
  rintro ev w2 ⟨rfl, h⟩
  refine hK.out _ _ ?_ (fun hS => ?_)
  · exact HC.out _ h
  clear hK K
  try simp only [Act.put, List.setIfInBounds_toArray, List.set_cons_zero, List.set_cons_succ]
  refine gq 24 (some 46) (.bool true) ?_ ?_
  · intro w
    have hq := hkq w; go_simp; first | done | with_reducible rfl
  refine gp 25 (some 47) ?_
  refine gp 26 (some 0) ?_
  refine wpAnyG_done (by kernel_rfl) ?_ _
  refine NoPanic.normal ?_
  go_wp2_with fail
  go_ret
  exact ⟨rfl, h.drop.drop.drop⟩
end
end Go.Proofs.YtabibfabieghpaaGreatDoor
namespace Go.Proofs.YtabibfabieghpaaGreatDoor
open Go.RowKit
end Go.Proofs.YtabibfabieghpaaGreatDoor
