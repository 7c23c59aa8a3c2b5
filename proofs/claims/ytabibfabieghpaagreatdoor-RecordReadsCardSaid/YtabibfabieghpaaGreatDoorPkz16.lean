/- Both read any pair alike: every kind of record in one form (printed by gen_reads1.py). More places of a list of memory parts. No program in sight. -/
import Derived.Test.YtabibfabieghpaaGreatDoorPkXPaFam
import Derived.Test.YtabibfabieghpaaGreatDoorPkXPaCode
import Derived.Test.YtabibfabieghpaaGreatDoorPkXPaClient
import Derived.Test.YtabibfabieghpaaGreatDoorPkz13
import Derived.Test.YtabibfabieghpaaGreatDoorPkXPa4
import Derived.Test.YtabibfabieghpaaGreatDoorPkz14
import Derived.Test.YtabibfabieghpaaGreatDoorPkXIdx
import Derived.Test.YtabibfabieghpaaGreatDoorPkz0
namespace Go.Proofs.YtabibfabieghpaaGreatDoor
open Go.RowKit
section
variable {E : World}
abbrev Answ (E : World) (PARSE : FuncId) (n : Nat) (k v : ByteArray) (xs : List ByteArray) (C : Option Addr → Nat → List Value) (e : Int) : Prop :=
  ∀ (w : World) (M : List Hp), Laid0 E M → Max0 E M → Own E w M → Calls Tryz.prog PARSE #[.agg #[.string k, .string v]] w fun ev w' => ∃ (A : Option Addr) (c : Nat) (Y : List Value), Y = C A c ∧ Y.length = n ∧ (∀ u ∈ Y, u.oneCell' = true) ∧ ev = .returned (.tuple #[.agg Y.toArray, .int .i64 e]) ∧ Own E w' (Hp.lst ST (.slice A xs.length c) (xs.map Value.string) :: M)
abbrev Answ0 (E : World) (PARSE : FuncId) (k v : ByteArray) (Y : List Value) (e : Int) : Prop :=
  ∀ (w : World) (M : List Hp), Laid0 E M → Own E w M → Calls Tryz.prog PARSE #[.agg #[.string k, .string v]] w fun ev w' => ev = .returned (.tuple #[.agg Y.toArray, .int .i64 e]) ∧ Own E w' M
def ClientV.zero : ClientV := ⟨noB, false, false, noB, noB, 0, [], 0, 0, 0, 0⟩
theorem client_both (k v : ByteArray) (hk : k.size ≤ 1000000000000000) (hv : v.size ≤ 1000000000000000) : ∃ (q : ClientV) (e : Int), q.xs.length ≤ 8 ∧ Answ E 42 11 k v q.xs q.C e ∧ Answ E 43 11 k v q.xs q.C e := by
  by_cases hq : ∃ f : ClientV, f.R = (k, v, 0)
  · obtain ⟨q, hq⟩ := hq
    refine ⟨q, 0, ((fit_iff _).1 (scErr_zero (client_reads hq).1.2.1).2.2).1, fun w M hG hM h => ?_, fun w M hG hM h => ?_⟩
    · refine (parseclient_any k v w hk hv hG hM h).mono ?_
      rintro ev w' (⟨f, A, c, rfl, hf, h⟩ | ⟨-, hno, -⟩)
      · obtain rfl := client_inj hf hq
        exact ⟨A, c, _, rfl, rfl, client_one _ _ _ _ _ _ _ _ _ _ _ _ _, rfl, h⟩
      · exact absurd hq (hno q)
    · refine (xparseclient_any k v w hk h).mono ?_
      rintro ev w' (⟨f, A, c, rfl, hf, h⟩ | ⟨-, hno, -⟩)
      · obtain rfl := client_inj hf hq
        exact ⟨A, c, _, rfl, rfl, client_one _ _ _ _ _ _ _ _ _ _ _ _ _, rfl, h⟩
      · exact absurd hq (hno q)
  · refine ⟨ClientV.zero, 141, Nat.zero_le _, fun w M hG hM h => ?_, fun w M hG hM h => ?_⟩
    · refine (parseclient_any k v w hk hv hG hM h).mono ?_
      rintro ev w' (⟨f, A, c, -, hf, -⟩ | ⟨rfl, -, h⟩)
      · exact absurd ⟨f, hf⟩ hq
      · exact ⟨none, 0, _, rfl, rfl, client_one _ _ _ _ _ _ _ _ _ _ _ _ _, rfl, h.emptyLst ST none⟩
    · refine (xparseclient_any k v w hk h).mono ?_
      rintro ev w' (⟨f, A, c, -, hf, -⟩ | ⟨rfl, -, h⟩)
      · exact absurd ⟨f, hf⟩ hq
      · exact ⟨none, 0, _, rfl, rfl, client_one _ _ _ _ _ _ _ _ _ _ _ _ _, rfl, h.emptyLst ST none⟩
theorem client_alike (q : ClientV) (hn : q.xs.length ≤ 8) (A B : Option Addr) (c d : Nat) (Y1 Y2 : List Value) (w : World) (M : List Hp) (h1 : Y1 = q.C A c) (h2 : Y2 = q.C B d) (hA : Seen E M A q.xs.length q.xs) (hB : Seen E M B q.xs.length q.xs) (h : Own E w M) :
    Calls Tryz.prog 44 #[.agg Y1.toArray, .agg Y2.toArray] w fun ev w' => ev = .returned (.bool true) ∧ Own E w' M := by
  rw [h1, h2]
  exact sameclient_any q.nm q.pu q.sw q.dh q.od q.ut A B _ c _ d q.ii q.ab q.gr q.li q.xs w hA hB (by omega) h
def FamV.zero : FamV := ⟨0, noB, noB, [], 0, 0, 0, 0, 0, 0, 0, 0, 0, 0⟩
theorem fam_both (k v : ByteArray) (hk : k.size ≤ 1000000000000000) (hv : v.size ≤ 1000000000000000) : ∃ (q : FamV) (e : Int), q.xs.length ≤ 8 ∧ Answ E 48 14 k v q.xs q.C e ∧ Answ E 49 14 k v q.xs q.C e := by
  by_cases hq : ∃ f : FamV, f.R = (k, v, 0)
  · obtain ⟨q, hq⟩ := hq
    refine ⟨q, 0, ((fit_iff _).1 (scErr_zero (fam_reads hq).1.2.2.2.1).2.2).1, fun w M hG hM h => ?_, fun w M hG hM h => ?_⟩
    · refine (parsefam_any k v w hk hv hG hM h).mono ?_
      rintro ev w' (⟨f, A, c, rfl, hf, h⟩ | ⟨-, hno, -⟩)
      · obtain rfl := fam_inj hf hq
        exact ⟨A, c, _, rfl, rfl, fam_one _ _ _ _ _ _ _ _ _ _ _ _ _ _ _ _, rfl, h⟩
      · exact absurd hq (hno q)
    · refine (xparsefam_any k v w hk h).mono ?_
      rintro ev w' (⟨f, A, c, rfl, hf, h⟩ | ⟨-, hno, -⟩)
      · obtain rfl := fam_inj hf hq
        exact ⟨A, c, _, rfl, rfl, fam_one _ _ _ _ _ _ _ _ _ _ _ _ _ _ _ _, rfl, h⟩
      · exact absurd hq (hno q)
  · refine ⟨FamV.zero, 141, Nat.zero_le _, fun w M hG hM h => ?_, fun w M hG hM h => ?_⟩
    · refine (parsefam_any k v w hk hv hG hM h).mono ?_
      rintro ev w' (⟨f, A, c, -, hf, -⟩ | ⟨rfl, -, h⟩)
      · exact absurd ⟨f, hf⟩ hq
      · exact ⟨none, 0, _, rfl, rfl, fam_one _ _ _ _ _ _ _ _ _ _ _ _ _ _ _ _, rfl, h.emptyLst ST none⟩
    · refine (xparsefam_any k v w hk h).mono ?_
      rintro ev w' (⟨f, A, c, -, hf, -⟩ | ⟨rfl, -, h⟩)
      · exact absurd ⟨f, hf⟩ hq
      · exact ⟨none, 0, _, rfl, rfl, fam_one _ _ _ _ _ _ _ _ _ _ _ _ _ _ _ _, rfl, h.emptyLst ST none⟩
theorem fam_alike (q : FamV) (hn : q.xs.length ≤ 8) (A B : Option Addr) (c d : Nat) (Y1 Y2 : List Value) (w : World) (M : List Hp) (h1 : Y1 = q.C A c) (h2 : Y2 = q.C B d) (hA : Seen E M A q.xs.length q.xs) (hB : Seen E M B q.xs.length q.xs) (h : Own E w M) :
    Calls Tryz.prog 50 #[.agg Y1.toArray, .agg Y2.toArray] w fun ev w' => ev = .returned (.bool true) ∧ Own E w' M := by
  rw [h1, h2]
  exact samefam_any q.id q.cl q.su A B _ c _ d q.cr q.us q.ii q.ab q.gr q.ge q.tk q.st q.en q.co q.xs w hA hB (by omega) h
def CodeV.zero : CodeV := ⟨0, noB, noB, [], noB, noB, 0, 0, 0⟩
theorem code_both (k v : ByteArray) (hk : k.size ≤ 1000000000000000) (hv : v.size ≤ 1000000000000000) : ∃ (q : CodeV) (e : Int), q.xs.length ≤ 8 ∧ Answ E 36 9 k v q.xs q.C e ∧ Answ E 37 9 k v q.xs q.C e := by
  by_cases hq : ∃ f : CodeV, f.R = (k, v, 0)
  · obtain ⟨q, hq⟩ := hq
    refine ⟨q, 0, ((fit_iff _).1 (scErr_zero (code_reads hq).1.2.2.2.1).2.2).1, fun w M hG hM h => ?_, fun w M hG hM h => ?_⟩
    · refine (parsecode_any k v w hk hv hG hM h).mono ?_
      rintro ev w' (⟨f, A, c, rfl, hf, h⟩ | ⟨-, hno, -⟩)
      · obtain rfl := code_inj hf hq
        exact ⟨A, c, _, rfl, rfl, code_one _ _ _ _ _ _ _ _ _ _ _, rfl, h⟩
      · exact absurd hq (hno q)
    · refine (xparsecode_any k v w hk h).mono ?_
      rintro ev w' (⟨f, A, c, rfl, hf, h⟩ | ⟨-, hno, -⟩)
      · obtain rfl := code_inj hf hq
        exact ⟨A, c, _, rfl, rfl, code_one _ _ _ _ _ _ _ _ _ _ _, rfl, h⟩
      · exact absurd hq (hno q)
  · refine ⟨CodeV.zero, 141, Nat.zero_le _, fun w M hG hM h => ?_, fun w M hG hM h => ?_⟩
    · refine (parsecode_any k v w hk hv hG hM h).mono ?_
      rintro ev w' (⟨f, A, c, -, hf, -⟩ | ⟨rfl, -, h⟩)
      · exact absurd ⟨f, hf⟩ hq
      · exact ⟨none, 0, _, rfl, rfl, code_one _ _ _ _ _ _ _ _ _ _ _, rfl, h.emptyLst ST none⟩
    · refine (xparsecode_any k v w hk h).mono ?_
      rintro ev w' (⟨f, A, c, -, hf, -⟩ | ⟨rfl, -, h⟩)
      · exact absurd ⟨f, hf⟩ hq
      · exact ⟨none, 0, _, rfl, rfl, code_one _ _ _ _ _ _ _ _ _ _ _, rfl, h.emptyLst ST none⟩
theorem code_alike (q : CodeV) (hn : q.xs.length ≤ 8) (A B : Option Addr) (c d : Nat) (Y1 Y2 : List Value) (w : World) (M : List Hp) (h1 : Y1 = q.C A c) (h2 : Y2 = q.C B d) (hA : Seen E M A q.xs.length q.xs) (hB : Seen E M B q.xs.length q.xs) (h : Own E w M) :
    Calls Tryz.prog 38 #[.agg Y1.toArray, .agg Y2.toArray] w fun ev w' => ev = .returned (.bool true) ∧ Own E w' M := by
  rw [h1, h2]
  exact samecode_any q.id q.cl q.su A B _ c _ d q.dh q.dc q.ut q.st q.fa q.xs w hA hB (by omega) h
theorem tok_both (k v : ByteArray) (hk : k.size ≤ 1000000000000000) (hv : v.size ≤ 1000000000000000) : ∃ (Y : List Value) (e : Int), Y.length = 9 ∧ (∀ u ∈ Y, u.oneCell' = true) ∧ (∀ w, (binOp .neq TOKT (.agg Y.toArray) (.agg Y.toArray)).run Tryz.prog w = .ok (.bool false) w) ∧ Answ0 E 13 k v Y e ∧ Answ0 E 51 k v Y e := by
  have hback : ∀ a b c s d f e g r, tokR a b c s d f e g r = (k, v, 0) → tokQ k v = tokQ (tokK a) (tokV b c s d f e g r) ∧ tokMay a b c s d f e g r := fun a b c s d f e g r hr => by
    unfold tokR at hr
    split at hr
    · rename_i hm
      injection hr with q1 q2
      injection q2 with q2 q3
      exact ⟨by rw [← q1, ← q2], hm⟩
    · injection hr with q1 q2
      injection q2 with q2 q3
      cases q3
  refine ⟨(tokQ k v).1, (tokQ k v).2, ?_, ?_, ?_, fun w M hG h => parsetok_any k v w hk hv hG h, fun w M _ h => ?_⟩
  · unfold tokQ; split <;> rfl
  · unfold tokQ; split <;> exact tok_one _ _ _ _ _ _ _ _ _
  · intro w
    rw [run_neq_struct]
    unfold tokQ
    split
    · rw [show _ = _ from eq_tok _ _ _ _ _ _ _ _ _]; rfl
    · rw [show _ = _ from eq_tok _ _ _ _ _ _ _ _ _]; rfl
  · refine (xparsetok_any k v w hk h).mono ?_
    rintro ev w' ⟨⟨a, b, c, s, d, f, e, g, r, rfl, hr⟩ | ⟨rfl, hno⟩, h⟩
    · obtain ⟨q1, hm⟩ := hback a b c s d f e g r hr
      rw [q1, tok_back a b c s d f e g r hm]
      exact ⟨rfl, h⟩
    ·
      have hn : tokQ k v = ((tokC 0 0 0 noB 0 false 0 0 noB), 141) := if_neg fun hc => hno _ _ _ _ _ _ _ _ _ hc.2.2
      rw [hn]
      exact ⟨rfl, h⟩
theorem key_both (k v : ByteArray) (hk : k.size ≤ 1000000000000000) (hv : v.size ≤ 1000000000000000) : ∃ (Y : List Value) (e : Int), Y.length = 4 ∧ (∀ u ∈ Y, u.oneCell' = true) ∧ (∀ w, (binOp .neq KEYT (.agg Y.toArray) (.agg Y.toArray)).run Tryz.prog w = .ok (.bool false) w) ∧ Answ0 E 18 k v Y e ∧ Answ0 E 52 k v Y e := by
  have hback : ∀ g s a b, keyR g s a b = (k, v, 0) → keyQ k v = keyQ (keyK g s a b) (keyV g s a b) ∧ keyMay g s a b := fun g s a b hr => by
    unfold keyR at hr
    split at hr
    · rename_i hm
      injection hr with q1 q2
      injection q2 with q2 q3
      exact ⟨by rw [← q1, ← q2], hm⟩
    · injection hr with q1 q2
      injection q2 with q2 q3
      cases q3
  refine ⟨(keyQ k v).1, (keyQ k v).2, ?_, ?_, ?_, fun w M hG h => parsekey_any k v w hk hv hG h, fun w M _ h => ?_⟩
  · unfold keyQ; split <;> rfl
  · unfold keyQ; split <;> exact key_one _ _ _ _
  · intro w
    rw [run_neq_struct]
    unfold keyQ
    split
    · rw [show _ = _ from eq_key _ _ _ _]; rfl
    · rw [show _ = _ from eq_key _ _ _ _]; rfl
  · refine (xparsekey_any k v w hk h).mono ?_
    rintro ev w' ⟨⟨g, s, a, b, rfl, hr⟩ | ⟨rfl, hno⟩, h⟩
    · obtain ⟨q1, hm⟩ := hback g s a b hr
      rw [q1, key_back g s a b hm]
      exact ⟨rfl, h⟩
    ·
      have hn : keyQ k v = ([.int .i64 0, .string noB, .int .i64 0, .int .i64 0], 141) := if_neg fun hc => hno _ _ _ _ hc.2.2
      rw [hn]
      exact ⟨rfl, h⟩
theorem event_both (k v : ByteArray) (hk : k.size ≤ 1000000000000000) (hv : v.size ≤ 1000000000000000) : ∃ (Y : List Value) (e : Int), Y.length = 5 ∧ (∀ u ∈ Y, u.oneCell' = true) ∧ (∀ w, (binOp .neq EVT (.agg Y.toArray) (.agg Y.toArray)).run Tryz.prog w = .ok (.bool false) w) ∧ Answ0 E 21 k v Y e ∧ Answ0 E 53 k v Y e := by
  have hback : ∀ i t q j s, eventR i t q j s = (k, v, 0) → eventQ k v = eventQ (eventK i t q j s) (eventV i t q j s) ∧ eventMay i t q j s := fun i t q j s hr => by
    unfold eventR at hr
    split at hr
    · rename_i hm
      injection hr with q1 q2
      injection q2 with q2 q3
      exact ⟨by rw [← q1, ← q2], hm⟩
    · injection hr with q1 q2
      injection q2 with q2 q3
      cases q3
  refine ⟨(eventQ k v).1, (eventQ k v).2, ?_, ?_, ?_, fun w M hG h => parseevent_any k v w hk hv hG h, fun w M _ h => ?_⟩
  · unfold eventQ; split <;> rfl
  · unfold eventQ; split <;> exact event_one _ _ _ _ _
  · intro w
    rw [run_neq_struct]
    unfold eventQ
    split
    · rw [show _ = _ from eq_event _ _ _ _ _]; rfl
    · rw [show _ = _ from eq_event _ _ _ _ _]; rfl
  · refine (xparseevent_any k v w hk h).mono ?_
    rintro ev w' ⟨⟨i, t, q, j, s, rfl, hr⟩ | ⟨rfl, hno⟩, h⟩
    · obtain ⟨q1, hm⟩ := hback i t q j s hr
      rw [q1, event_back i t q j s hm]
      exact ⟨rfl, h⟩
    ·
      have hn : eventQ k v = ([.int .i64 0, .int .i64 0, .int .i64 0, .int .i64 0, .string noB], 141) := if_neg fun hc => hno _ _ _ _ _ hc.2.2
      rw [hn]
      exact ⟨rfl, h⟩
theorem chain_both (k v : ByteArray) (hk : k.size ≤ 1000000000000000) (hv : v.size ≤ 1000000000000000) : ∃ (Y : List Value) (e : Int), Y.length = 4 ∧ (∀ u ∈ Y, u.oneCell' = true) ∧ (∀ w, (binOp .neq CHT (.agg Y.toArray) (.agg Y.toArray)).run Tryz.prog w = .ok (.bool false) w) ∧ Answ0 E 24 k v Y e ∧ Answ0 E 54 k v Y e := by
  have hback : ∀ a b s r, chainR a b s r = (k, v, 0) → chainQ k v = chainQ (chainK a b s r) (chainV a b s r) ∧ chainMay a b s r := fun a b s r hr => by
    unfold chainR at hr
    split at hr
    · rename_i hm
      injection hr with q1 q2
      injection q2 with q2 q3
      exact ⟨by rw [← q1, ← q2], hm⟩
    · injection hr with q1 q2
      injection q2 with q2 q3
      cases q3
  refine ⟨(chainQ k v).1, (chainQ k v).2, ?_, ?_, ?_, fun w M hG h => parsechain_any k v w hv hG h, fun w M _ h => ?_⟩
  · unfold chainQ; split <;> rfl
  · unfold chainQ; split <;> exact chain_one _ _ _ _
  · intro w
    rw [run_neq_struct]
    unfold chainQ
    split
    · rw [show _ = _ from eq_chain _ _ _ _]; rfl
    · rw [show _ = _ from eq_chain _ _ _ _]; rfl
  · refine (xparsechain_any k v w hk h).mono ?_
    rintro ev w' ⟨⟨a, b, s, r, rfl, hr⟩ | ⟨rfl, hno⟩, h⟩
    · obtain ⟨q1, hm⟩ := hback a b s r hr
      rw [q1, chain_back a b s r hm]
      exact ⟨rfl, h⟩
    ·
      have hn : chainQ k v = ([.int .i64 0, .int .i64 0, .string noB, .string noB], 141) := by
        obtain ⟨a, b, s, r, ok, hr⟩ : ∃ a b s r ok, readV chainKs v = ([.n a, .n b, .s s, .s r], ok) := ⟨_, _, _, _, _, rfl⟩
        unfold chainQ
        rw [hr]
        refine if_neg ?_
        rintro ⟨rfl, hok, hR⟩
        have hok : ok = true := hok
        have hR2 : (chainR a b s r).2.2 = 0 := hR
        clear hR
        subst hok
        refine hno a b s r ?_
        have hm : chainMay a b s r := by
          by_cases hm : chainMay a b s r
          · exact hm
          · unfold chainR at hR2
            rw [if_neg hm] at hR2
            cases hR2
        have hv2 : chainV a b s r = v := by
          have h3 := (readV_inv (ks := chainKs) (fun k hk => by
            simp only [chainKs, List.mem_cons, List.not_mem_nil, or_false] at hk
            rcases hk with rfl | rfl | rfl | rfl
            · exact ⟨by omega, by omega⟩
            · exact ⟨by omega, by omega⟩
            · trivial
            · trivial) hr).1
          have h4 : v.data.toList = byN 8 a.toNat ++ (byN 8 b.toNat ++ (s.data.toList ++ (r.data.toList ++ []))) := h3
          unfold chainV
          exact (fl_mk _ (by rw [h4]; simp)).symm
        unfold chainR
        rw [if_pos hm, hv2]
        rfl
      rw [hn]
      exact ⟨rfl, h⟩
/-- What a text reads as, as a note. -/
theorem note_both (s : ByteArray) (hs : s.size ≤ 1000000000000000) : ∃ a b e : Int, (∀ (w : World) (M : List Hp), Laid0 E M → Own E w M → Calls Tryz.prog 27 #[.string s] w fun ev w' => ev = .returned (.tuple #[.int .i64 a, .int .i64 b, .int .i64 e]) ∧ Own E w' M) ∧
    (∀ (w : World) (M : List Hp), Own E w M → Calls Tryz.prog 56 #[.string s] w fun ev w' => ev = .returned (.tuple #[.int .i64 a, .int .i64 b, .int .i64 e]) ∧ Own E w' M) := by
  refine ⟨(noteQ s).1, (noteQ s).2.1, (noteQ s).2.2, fun w M hG h => parsenote_any s w hs hG h, fun w M h => ?_⟩
  refine (xparsenote_any s w h).mono ?_
  rintro ev w' ⟨⟨a, b, rfl, hr⟩ | ⟨rfl, hno⟩, h⟩
  · have hr2 := hr
    unfold noteR at hr2
    split at hr2
    · rename_i hm
      injection hr2 with q1 _
      rw [← q1, note_back a b hm]
      exact ⟨rfl, h⟩
    · injection hr2 with _ q2
      cases q2
  · have hn : noteQ s = (0, 0, 141) := if_neg fun hc => hno _ _ hc.2
    rw [hn]
    exact ⟨rfl, h⟩
theorem idx_one {k v : ByteArray} {t u : ByteArray × Int × Int × ByteArray} (h : IdxR k v t) (h2 : IdxR k v u) : t = u := by
  rcases h with ⟨a, b, c, x1, x2, x3, e, ev, rfl⟩ | ⟨fin, id, x1, x2, e, ev, rfl⟩ | ⟨su, id, hn, x2, e, ev, rfl⟩
  · rcases h2 with ⟨a', b', c', y1, y2, y3, e', ev', rfl⟩ | ⟨fin', id', -, -, e', -, -⟩ | ⟨su', id', -, -, e', -, -⟩
    · have e3 : (⟨(byN 8 b.toNat ++ byN 4 c.toNat).toArray⟩ : ByteArray) = ⟨(byN 8 b'.toNat ++ byN 4 c'.toNat).toArray⟩ := by
        have := congrArg (fun y => y.data.toList.tail) (e.symm.trans e')
        have h3 : byN 8 b.toNat ++ byN 4 c.toNat = byN 8 b'.toNat ++ byN 4 c'.toNat := by simpa [ofK] using this
        rw [h3]
      have r1 := read_two 8 4 b c (by omega) (by omega)
      rw [e3, read_two 8 4 b' c' (by omega) (by omega)] at r1
      simp only [Prod.mk.injEq, List.cons.injEq, Fv.n.injEq, and_true] at r1
      rw [← ev, ← ev', r1.1, r1.2]
    · have := congrArg (fun y => y.data.toList.head?) (e.symm.trans e')
      simp [ofK, exK] at this
    · have := congrArg (fun y => y.data.toList.head?) (e.symm.trans e')
      simp [ofK, suK] at this
  · rcases h2 with ⟨a', b', c', -, -, -, e', -, -⟩ | ⟨fin', id', y1, y2, e', ev', rfl⟩ | ⟨su', id', -, -, e', -, -⟩
    · have := congrArg (fun y => y.data.toList.head?) (e.symm.trans e')
      simp [ofK, exK] at this
    · have e3 : (⟨(byN 6 fin.toNat ++ byN 8 id.toNat).toArray⟩ : ByteArray) = ⟨(byN 6 fin'.toNat ++ byN 8 id'.toNat).toArray⟩ := by
        have := congrArg (fun y => y.data.toList.tail) (e.symm.trans e')
        have h3 : byN 6 fin.toNat ++ byN 8 id.toNat = byN 6 fin'.toNat ++ byN 8 id'.toNat := by simpa [exK] using this
        rw [h3]
      have r1 := read_two 6 8 fin id (by omega) (by omega)
      rw [e3, read_two 6 8 fin' id' (by omega) (by omega)] at r1
      simp only [Prod.mk.injEq, List.cons.injEq, Fv.n.injEq, and_true] at r1
      rw [r1.1, r1.2]
    · have := congrArg (fun y => y.data.toList.head?) (e.symm.trans e')
      simp [exK, suK] at this
  · rcases h2 with ⟨a', b', c', -, -, -, e', -, -⟩ | ⟨fin', id', -, -, e', -, -⟩ | ⟨su', id', hn', y2, e', ev', rfl⟩
    · have := congrArg (fun y => y.data.toList.head?) (e.symm.trans e')
      simp [ofK, suK] at this
    · have := congrArg (fun y => y.data.toList.head?) (e.symm.trans e')
      simp [exK, suK] at this
    · have e3 : su.data.toList ++ 0 :: byN 8 id.toNat = su'.data.toList ++ 0 :: byN 8 id'.toNat := by
        have := congrArg (fun y => y.data.toList.tail) (e.symm.trans e')
        simpa [suK] using this
      have i1 := index_nought su.data.toList (byN 8 id.toNat) (name_no0 hn)
      have i2 := index_nought su'.data.toList (byN 8 id'.toNat) (name_no0 hn')
      rw [e3, i2] at i1
      have hl : su'.data.toList.length = su.data.toList.length := by omega
      obtain ⟨q1, q2⟩ := List.append_inj e3 hl.symm
      injection q2 with _ q2
      have r1 := read_one 8 id (by omega)
      rw [q2, read_one 8 id' (by omega)] at r1
      simp only [Prod.mk.injEq, List.cons.injEq, Fv.n.injEq, and_true] at r1
      have q3 : su = su' := (bytes_ext su _ q1).trans (bytes_ext su' _ rfl).symm
      rw [q3, r1]
theorem index_both (k v : ByteArray) (hk : k.size ≤ 1000000000000000) (hv : v.size ≤ 1000000000000000) : ∃ (a : ByteArray) (b c : Int) (d : ByteArray) (e : Int), (∀ (w : World) (M : List Hp), Laid0 E M → Own E w M → Calls Tryz.prog 31 #[.agg #[.string k, .string v]] w fun ev w' => ev = .returned (.tuple #[.string a, .int .i64 b, .int .i64 c, .string d, .int .i64 e]) ∧ Own E w' M) ∧
    (∀ (w : World) (M : List Hp), Own E w M → Calls Tryz.prog 55 #[.agg #[.string k, .string v]] w fun ev w' => ev = .returned (.tuple #[.string a, .int .i64 b, .int .i64 c, .string d, .int .i64 e]) ∧ Own E w' M) := by
  by_cases hr : ∃ t, IdxR k v t
  · obtain ⟨t, ht⟩ := hr
    refine ⟨t.1, t.2.1, t.2.2.1, t.2.2.2, 0, fun w M hG h => ?_, fun w M h => ?_⟩
    · refine (pidx_any k v w hk hv hG h).mono ?_
      rintro ev w' ⟨⟨u, hu, rfl⟩ | ⟨hno, -⟩, h⟩
      · rw [idx_one hu ht]; exact ⟨rfl, h⟩
      · exact absurd ht (hno t)
    · refine (xidx_any k v w hk hv h).mono ?_
      rintro ev w' ⟨⟨u, hu, rfl⟩ | ⟨hno, -⟩, h⟩
      · rw [idx_one hu ht]; exact ⟨rfl, h⟩
      · exact absurd ht (hno t)
  · refine ⟨⟨#[]⟩, 0, 0, ⟨#[]⟩, 141, fun w M hG h => ?_, fun w M h => ?_⟩
    · refine (pidx_any k v w hk hv hG h).mono ?_
      rintro ev w' ⟨⟨u, hu, rfl⟩ | ⟨hno, rfl⟩, h⟩
      · exact absurd ⟨u, hu⟩ hr
      · exact ⟨rfl, h⟩
    · refine (xidx_any k v w hk hv h).mono ?_
      rintro ev w' ⟨⟨u, hu, rfl⟩ | ⟨hno, rfl⟩, h⟩
      · exact absurd ⟨u, hu⟩ hr
      · exact ⟨rfl, h⟩
end
end Go.Proofs.YtabibfabieghpaaGreatDoor
namespace Go.Proofs.YtabibfabieghpaaGreatDoor
section
variable {E w : World} {L : List Hp} {A A1 A2 A3 A4 A5 A6 A7 A8 A9 A10 A11 A12 A13 A14 A15 : Hp}
theorem Own.f8 (h : Own E w (A1 :: A2 :: A3 :: A4 :: A5 :: A6 :: A7 :: A8 :: A :: L)) : Own E w (A :: A1 :: A2 :: A3 :: A4 :: A5 :: A6 :: A7 :: A8 :: L) := h.perm (perm_mid A [A1, A2, A3, A4, A5, A6, A7, A8])
theorem Own.f9 (h : Own E w (A1 :: A2 :: A3 :: A4 :: A5 :: A6 :: A7 :: A8 :: A9 :: A :: L)) : Own E w (A :: A1 :: A2 :: A3 :: A4 :: A5 :: A6 :: A7 :: A8 :: A9 :: L) := h.perm (perm_mid A [A1, A2, A3, A4, A5, A6, A7, A8, A9])
theorem Own.f10 (h : Own E w (A1 :: A2 :: A3 :: A4 :: A5 :: A6 :: A7 :: A8 :: A9 :: A10 :: A :: L)) : Own E w (A :: A1 :: A2 :: A3 :: A4 :: A5 :: A6 :: A7 :: A8 :: A9 :: A10 :: L) := h.perm (perm_mid A [A1, A2, A3, A4, A5, A6, A7, A8, A9, A10])
theorem Own.f11 (h : Own E w (A1 :: A2 :: A3 :: A4 :: A5 :: A6 :: A7 :: A8 :: A9 :: A10 :: A11 :: A :: L)) : Own E w (A :: A1 :: A2 :: A3 :: A4 :: A5 :: A6 :: A7 :: A8 :: A9 :: A10 :: A11 :: L) := h.perm (perm_mid A [A1, A2, A3, A4, A5, A6, A7, A8, A9, A10, A11])
theorem Own.f12 (h : Own E w (A1 :: A2 :: A3 :: A4 :: A5 :: A6 :: A7 :: A8 :: A9 :: A10 :: A11 :: A12 :: A :: L)) : Own E w (A :: A1 :: A2 :: A3 :: A4 :: A5 :: A6 :: A7 :: A8 :: A9 :: A10 :: A11 :: A12 :: L) := h.perm (perm_mid A [A1, A2, A3, A4, A5, A6, A7, A8, A9, A10, A11, A12])
theorem Own.f13 (h : Own E w (A1 :: A2 :: A3 :: A4 :: A5 :: A6 :: A7 :: A8 :: A9 :: A10 :: A11 :: A12 :: A13 :: A :: L)) : Own E w (A :: A1 :: A2 :: A3 :: A4 :: A5 :: A6 :: A7 :: A8 :: A9 :: A10 :: A11 :: A12 :: A13 :: L) := h.perm (perm_mid A [A1, A2, A3, A4, A5, A6, A7, A8, A9, A10, A11, A12, A13])
theorem Own.f14 (h : Own E w (A1 :: A2 :: A3 :: A4 :: A5 :: A6 :: A7 :: A8 :: A9 :: A10 :: A11 :: A12 :: A13 :: A14 :: A :: L)) : Own E w (A :: A1 :: A2 :: A3 :: A4 :: A5 :: A6 :: A7 :: A8 :: A9 :: A10 :: A11 :: A12 :: A13 :: A14 :: L) := h.perm (perm_mid A [A1, A2, A3, A4, A5, A6, A7, A8, A9, A10, A11, A12, A13, A14])
theorem Own.f15 (h : Own E w (A1 :: A2 :: A3 :: A4 :: A5 :: A6 :: A7 :: A8 :: A9 :: A10 :: A11 :: A12 :: A13 :: A14 :: A15 :: A :: L)) : Own E w (A :: A1 :: A2 :: A3 :: A4 :: A5 :: A6 :: A7 :: A8 :: A9 :: A10 :: A11 :: A12 :: A13 :: A14 :: A15 :: L) := h.perm (perm_mid A [A1, A2, A3, A4, A5, A6, A7, A8, A9, A10, A11, A12, A13, A14, A15])
end
end Go.Proofs.YtabibfabieghpaaGreatDoor
