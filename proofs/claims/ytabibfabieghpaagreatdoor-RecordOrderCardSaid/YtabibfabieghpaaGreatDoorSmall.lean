/- Plain law of RecordSmall: what was printed is parsed back; what was not printed is refused. latchkeylaw14.key, awake. RecordSmall: the walk (begun). -/
import Derived.Test.YtabibfabieghpaaGreatDoorPaTok
import Derived.Deep.Cut
namespace Go.Proofs.YtabibfabieghpaaGreatDoor
open Go.RowKit
theorem number_back (t : UInt8) (k : Nat) (z : Int) (h1 : 1 ≤ k) (h2 : k ≤ 8) (h3 : 0 ≤ z) (h4 : z < 256 ^ k) (h5 : z ≤ 9223372036854775807) : numberV ⟨(t :: byN k z.toNat).toArray⟩ ⟨#[t]⟩ k = (z, true) := by
  have hf : ∀ f ∈ [((.num k, .n z) : Fk × Fv)], fits1 f := fun f hf => by
    rw [List.mem_singleton] at hf
    subst hf
    exact ⟨h1, h2, h3, h4, h5⟩
  have hp : Lib.hasPrefix (t :: byN k z.toNat) [t] = true := by unfold Lib.hasPrefix; simp
  have ht : Lib.trimPrefix (t :: byN k z.toNat) [t] = byN k z.toNat := by unfold Lib.trimPrefix; rw [hp]; rfl
  have hr := readV_printed hf
  rw [printed_fits hf, show [((.num k, .n z) : Fk × Fv)].flatMap bytesF = byN k z.toNat by simp [bytesF, Fv.num]] at hr
  unfold numberV
  show (if Lib.hasPrefix (t :: byN k z.toNat) [t] = true then _ else _) = _
  rw [if_pos hp]
  show ((((readV [.num k] ⟨(Lib.trimPrefix (t :: byN k z.toNat) [t]).toArray⟩).1.getD 0 (.n 0)).num), (readV [.num k] ⟨(Lib.trimPrefix (t :: byN k z.toNat) [t]).toArray⟩).2) = _
  rw [ht, show [Fk.num k] = [((.num k, .n z) : Fk × Fv)].map (·.1) from rfl, hr]
  rfl
theorem number_none (t : UInt8) (k : Nat) : (numberV noB ⟨#[t]⟩ k).2 = false := rfl
theorem key_back (g : Int) (s : ByteArray) (a b : Int) (h : keyMay g s a b) : keyQ (keyK g s a b) (keyV g s a b) = ([.int .i64 g, .string s, .int .i64 a, .int .i64 b], 0) := by
  have e1 : numberV (keyK g s a b) ⟨#[107]⟩ 4 = (g, true) := by
    obtain ⟨c1, -⟩ := h
    exact number_back 107 4 g (by omega) (by omega) (by omega) (by show g < (256 : Int) ^ 4; omega) (by omega)
  have e2 : readV keyKs (keyV g s a b) = ([.s s, .n a, .n b], true) := by
    have hh := readV_printed (key_fits 0 g s a b h)
    rw [key_printed 0 g s a b h] at hh
    exact hh
  unfold keyQ
  rw [e1, e2]
  exact if_pos ⟨rfl, rfl, if_pos h⟩
theorem event_back (i t k j : Int) (s : ByteArray) (h : eventMay i t k j s) : eventQ (eventK i t k j s) (eventV i t k j s) = ([.int .i64 i, .int .i64 t, .int .i64 k, .int .i64 j, .string s], 0) := by
  have e1 : numberV (eventK i t k j s) ⟨#[101]⟩ 8 = (i, true) := by
    obtain ⟨c1, -⟩ := h
    exact number_back 101 8 i (by omega) (by omega) (by omega) (by show i < (256 : Int) ^ 8; omega) (by omega)
  have e2 : readV eventKs (eventV i t k j s) = ([.n t, .n k, .n j, .s s], true) := by
    have hh := readV_printed (event_fits 0 i t k j s h)
    rw [event_printed 0 i t k j s h] at hh
    exact hh
  unfold eventQ
  rw [e1, e2]
  exact if_pos ⟨rfl, rfl, if_pos h⟩
theorem chain_back (a b : Int) (s r : ByteArray) (h : chainMay a b s r) : chainQ (chainK a b s r) (chainV a b s r) = ([.int .i64 a, .int .i64 b, .string s, .string r], 0) := by
  have e2 : readV chainKs (chainV a b s r) = ([.n a, .n b, .s s, .s r], true) := by
    have hh := readV_printed (chain_fits 0 a b s r h)
    rw [chain_printed 0 a b s r h] at hh
    exact hh
  have e3 : (chainR a b s r).2.2 = 0 := by unfold chainR; rw [if_pos h]
  unfold chainQ
  rw [e2]
  exact if_pos ⟨rfl, rfl, e3⟩
theorem note_back (a b : Int) (h : noteMay a b) : noteQ (noteV a b) = (a, b, 0) := by
  have e2 : ∃ c, readV noteKs (noteV a b) = ([.n a, .n b, .s c], true) := by
    have hh := readV_printed (note_fits 0 0 0 a b h)
    rw [note_printed 0 0 0 a b h] at hh
    exact ⟨_, hh⟩
  obtain ⟨c, e2⟩ := e2
  unfold noteQ
  rw [e2]
  exact if_pos ⟨rfl, if_pos h⟩
theorem tok_back (a b c : Int) (s : ByteArray) (d : Int) (f : Bool) (e g : Int) (r : ByteArray) (h : tokMay a b c s d f e g r) : tokQ (tokK a) (tokV b c s d f e g r) = (tokC a b c s d f e g r, 0) := by
  have e1 : numberV (tokK a) ⟨#[116]⟩ 8 = (a, true) := by
    obtain ⟨c1, -⟩ := h
    exact number_back 116 8 a (by omega) (by omega) (by omega) (by show a < (256 : Int) ^ 8; omega) (by omega)
  have e2 : readV tokKs (tokV b c s d f e g r) = ([.n b, .n c, .s s, .n d, .n (flagV f 1), .n e, .n g, .s r], true) := by
    have hh := readV_printed (tok_fits 0 0 h)
    rw [tok_printed 0 0 h] at hh
    exact hh
  have e3 : (flagV f 1 == 1) = f := by cases f <;> rfl
  unfold tokQ
  rw [e1, e2]
  show (if true = true ∧ true = true ∧ tokR a b c s d (flagV f 1 == 1) e g r = (tokK a, tokV b c s d f e g r, 0) then (tokC a b c s d (flagV f 1 == 1) e g r, (0 : Int)) else _) = _
  rw [e3]
  exact if_pos ⟨rfl, rfl, if_pos h⟩
theorem key_none : keyQ noB noB = ([.int .i64 0, .string noB, .int .i64 0, .int .i64 0], 141) := if_neg fun h => by cases h.1
theorem event_none : eventQ noB noB = ([.int .i64 0, .int .i64 0, .int .i64 0, .int .i64 0, .string noB], 141) := if_neg fun h => by cases h.1
theorem chain_none : chainQ noB noB = ([.int .i64 0, .int .i64 0, .string noB, .string noB], 141) := if_neg fun h => absurd (congrArg ByteArray.size h.1) (by decide)
theorem note_none : noteQ noB = (0, 0, 141) := if_neg fun h => absurd h.1 (by decide)
theorem tok_none : tokQ noB noB = (tokC 0 0 0 noB 0 false 0 0 noB, 141) := if_neg fun h => by cases h.1
end Go.Proofs.YtabibfabieghpaaGreatDoor
namespace Go.Proofs.YtabibfabieghpaaGreatDoor
open Go.RowKit
def abcB : ByteArray := ⟨#[97, 98, 99, 100, 101, 102, 103, 104, 105, 106, 107, 108, 109, 110, 111, 112, 113, 114, 115, 116, 117, 118, 119, 120]⟩
section
variable {E : World} {L : List Hp}
set_option maxRecDepth 20000 in
theorem key14_any (g : Int) (w : World) (h : Own E w L) : Calls Tryz.prog 57 #[.int .i64 g] w fun ev w' => ev = .returned (.agg #[.int .i64 g, .string abcB, .int .i64 5, .int .i64 9]) ∧ Own E w' L := by
  obtain ⟨dd, hd, hrow⟩ := keyt_u
  have H3 := Lib.hid (h.alloc (.cells #[.int .i64 0, .string ⟨#[]⟩, .int .i64 0, .int .i64 0] KEYT))
  clear h
  go_enter Tryz.func57, Tryz.ntmps57
  go_wp2_with (with_reducible refine at_slot (k := none) ?_; refine wpList_store_whole (o := ⟨none, _, _, _, _, _⟩) (cs := [.int .i64 0, .string ⟨#[]⟩, .int .i64 0, .int .i64 0]) (vs := [.int .i64 g, .string abcB, .int .i64 5, .int .i64 9]) H3.out rfl (key_one _ _ _ _) (by kernel_rfl) rfl rfl rfl rfl ?_; clear H3; intro w7 h; have H8 := Lib.hid h; clear h)
  refine bodyPost_ret (results_arr rfl rfl H8.out hd hrow (by kernel_rfl)) rfl ?_
  exact ⟨rfl, H8.out.drop⟩
def k7K : ByteArray := ⟨#[107, 0, 0, 0, 7]⟩
theorem k7_may : keyMay 7 abcB 5 9 := ⟨by omega, rfl, by omega, by omega, by omega⟩
theorem k7_K : keyK 7 abcB 5 9 = k7K := rfl
theorem k7_size : (keyV 7 abcB 5 9).size = 36 := rfl
set_option maxRecDepth 20000 in
set_option maxHeartbeats 8000000 in
theorem awake14_any (w : World) (hG : Laid0 E L) (h : Own E w L) : Calls Tryz.prog 10 #[] w fun ev w' => ev = .returned (.bool true) ∧ Own E w' L := by
  obtain ⟨dd, hd, hrow⟩ := keyt_u
  have HG := Lib.hid hG
  have q1 : keyR 7 abcB 5 9 = (k7K, keyV 7 abcB 5 9, 0) := by rw [← k7_K]; exact if_pos k7_may
  have q2 : keyR 0 abcB 5 9 = (noB, noB, 140) := if_neg fun h => absurd h.1.1 (by decide)
  have q3 := key_back 7 abcB 5 9 k7_may
  rw [k7_K] at q3
  have hsz := k7_size
  have hsi : ((keyV 7 abcB 5 9).size : Int) = 36 := by rw [hsz]; rfl
  have P1 : Hid (∀ (M : List Hp) (w : World), Laid0 E M → Own E w M → Calls Tryz.prog 16 #[.agg #[.int .i64 7, .string abcB, .int .i64 5, .int .i64 9]] w fun ev w' => ev = .returned (.tuple #[.agg #[.string k7K, .string (keyV 7 abcB 5 9)], .int .i64 0]) ∧ Own E w' M) := Lib.hid fun M w hG h => by
    have hh := printkey_any 7 abcB 5 9 w hG h
    rw [q1] at hh
    exact hh
  have P2 : Hid (∀ (M : List Hp) (w : World), Laid0 E M → Own E w M → Calls Tryz.prog 16 #[.agg #[.int .i64 0, .string abcB, .int .i64 5, .int .i64 9]] w fun ev w' => ev = .returned (.tuple #[.agg #[.string noB, .string noB], .int .i64 140]) ∧ Own E w' M) := Lib.hid fun M w hG h => by
    have hh := printkey_any 0 abcB 5 9 w hG h
    rw [q2] at hh
    exact hh
  have P3 : Hid (∀ (M : List Hp) (w : World), Laid0 E M → Own E w M → Calls Tryz.prog 18 #[.agg #[.string k7K, .string (keyV 7 abcB 5 9)]] w fun ev w' => ev = .returned (.tuple #[.agg #[.int .i64 7, .string abcB, .int .i64 5, .int .i64 9], .int .i64 0]) ∧ Own E w' M) := Lib.hid fun M w hG h => by
    have hh := parsekey_any k7K (keyV 7 abcB 5 9) w (by decide) (by omega) hG h
    rw [q3] at hh
    exact hh
  have H3 := Lib.hid h
  clear h hG q1 q2 q3 hsz
  generalize keyV 7 abcB 5 9 = v7 at *
  go_enter Tryz.func10, Tryz.ntmps10
  go_wp2_with (first
    | (refine (key14_any _ _ H3.out).mono ?_; clear H3; rintro ev w2 ⟨rfl, h⟩; have H3 := Lib.hid h; clear h)
    | (with_reducible refine (P1.out _ _ HG.out H3.out).mono ?_; clear H3 P1; rintro ev wA ⟨rfl, h⟩; have H3 := Lib.hid (h.alloc (.cells #[.string k7K, .string v7] ITT)); clear h)
    | (with_reducible refine (P3.out _ _ HG.out.cons H3.out).mono ?_; clear H3 P3; rintro ev wB ⟨rfl, h⟩; have H3 := Lib.hid (h.alloc (.cells #[.int .i64 7, .string abcB, .int .i64 5, .int .i64 9] KEYT)); clear h)
    | (with_reducible refine (P2.out _ _ HG.out.cons.cons H3.out).mono ?_; clear H3 P2; rintro ev wC ⟨rfl, h⟩; have H3 := Lib.hid (h.alloc (.cells #[.string noB, .string noB] ITT)); clear h))
  have HC : Hid (∀ w' : World, Own E w' (Hp.blk wC.heap.size ITT #[.string noB, .string noB] :: Hp.blk wB.heap.size KEYT #[.int .i64 7, .string abcB, .int .i64 5, .int .i64 9] :: Hp.blk wA.heap.size ITT #[.string k7K, .string v7] :: L) → w'.cell? ⟨wA.heap.size, 0, none⟩ = some (.string k7K) ∧ w'.cell? ⟨wA.heap.size, 1, none⟩ = some (.string v7) ∧ w'.rangeAt wB.heap.size 0 [.int .i64 7, .string abcB, .int .i64 5, .int .i64 9]) := Lib.hid fun w' h => ⟨by rw [h.f2.cell 0]; rfl, by rw [h.f2.cell 1]; rfl, h.f1.range 0 _ (fun j u hu => by simpa using hu)⟩
  have h : Own E _ (Hp.blk wC.heap.size ITT #[.string noB, .string noB] :: Hp.blk wB.heap.size KEYT #[.int .i64 7, .string abcB, .int .i64 5, .int .i64 9] :: Hp.blk wA.heap.size ITT #[.string k7K, .string v7] :: L) := H3.out.drew
  clear H3
  have he : (k7K.toList == [107, 0, 0, 0, 7]) = true := by rw [ByteArray.toList_eq]; rfl
  have hkq : ∀ w, (binOp .eql KEYT (.agg #[.int .i64 7, .string abcB, .int .i64 5, .int .i64 9]) (.agg #[.int .i64 7, .string abcB, .int .i64 5, .int .i64 9])).run Tryz.prog w = .ok (.bool true) w := fun w => by rw [run_eql_struct, eq_key]; rfl
  refine wp_region_text [12, 17, 22] (fun w' => w'.cell? ⟨wA.heap.size, 0, none⟩ = some (.string k7K) ∧ w'.cell? ⟨wA.heap.size, 1, none⟩ = some (.string v7) ∧ w'.rangeAt wB.heap.size 0 [.int .i64 7, .string abcB, .int .i64 5, .int .i64 9]) (by kernel_rfl) ?_ (fun hS => ?_)
  · exact HC.out _ h
  refine wpAnyG_pure (i := 0) (oi := ⟨some 22, _, _, _, _, _⟩) (v := ?_) rfl (by kernel_rfl) (by kernel_rfl) (by kernel_rfl) (by rfl) (fun _ _ _ h => h) (by rfl) ?_ ?_
  rotate_left
  · intro w
    go_simp
    first | done | with_reducible rfl
  try simp only [Act.put, List.setIfInBounds_toArray, List.set_cons_zero, List.set_cons_succ]
  refine wpAnyG_pure (i := 1) (oi := ⟨some 23, _, _, _, _, _⟩) (v := ?_) rfl (by kernel_rfl) (by kernel_rfl) (by kernel_rfl) (by rfl) (fun _ _ _ h => h) (by rfl) ?_ ?_
  rotate_left
  · intro w
    go_simp
    first | done | with_reducible rfl
  try simp only [Act.put, List.setIfInBounds_toArray, List.set_cons_zero, List.set_cons_succ]
  refine wpAnyG_pure (i := 2) (oi := ⟨some 24, _, _, _, _, _⟩) (v := ?_) rfl (by kernel_rfl) (by kernel_rfl) (by kernel_rfl) (by rfl) (fun _ _ _ h => h) (by rfl) ?_ ?_
  rotate_left
  · intro w
    go_simp
    first | done | with_reducible rfl
  try simp only [Act.put, List.setIfInBounds_toArray, List.set_cons_zero, List.set_cons_succ]
  refine wpAnyG_pure (i := 3) (oi := ⟨some 25, _, _, _, _, _⟩) (v := ?_) rfl (by kernel_rfl) (by kernel_rfl) (by kernel_rfl) (by rfl) (fun _ _ _ h => h) (by rfl) ?_ ?_
  rotate_left
  · intro w
    go_simp
    first | done | with_reducible rfl
  try simp only [Act.put, List.setIfInBounds_toArray, List.set_cons_zero, List.set_cons_succ]
  refine wpAnyG_pure (i := 4) (oi := ⟨some 26, _, _, _, _, _⟩) (v := ?_) rfl (by kernel_rfl) (by kernel_rfl) (by kernel_rfl) (by rfl) (fun _ _ _ h => h) (by rfl) ?_ ?_
  rotate_left
  · intro w
    go_simp
    first | done | with_reducible rfl
  try simp only [Act.put, List.setIfInBounds_toArray, List.set_cons_zero, List.set_cons_succ]
  refine wpAnyG_pure (i := 5) (oi := ⟨some 27, _, _, _, _, _⟩) (v := ?_) rfl (by kernel_rfl) (by kernel_rfl) (by kernel_rfl) (by rfl) (fun _ _ _ h => h) (by rfl) ?_ ?_
  rotate_left
  · intro w
    go_simp
    first | done | with_reducible rfl
  try simp only [Act.put, List.setIfInBounds_toArray, List.set_cons_zero, List.set_cons_succ]
  refine wpAnyG_pure (i := 6) (oi := ⟨some 28, _, _, _, _, _⟩) (v := ?_) rfl (by kernel_rfl) (by kernel_rfl) (by kernel_rfl) (by rfl) (fun _ _ _ h => h) (by rfl) ?_ ?_
  rotate_left
  · intro w
    go_simp
    first | done | with_reducible rfl
  try simp only [Act.put, List.setIfInBounds_toArray, List.set_cons_zero, List.set_cons_succ]
  refine wpAnyG_pure (i := 7) (oi := ⟨some 29, _, _, _, _, _⟩) (v := ?_) rfl (by kernel_rfl) (by kernel_rfl) (by kernel_rfl) (by rfl) (fun _ _ _ h => h) (by rfl) ?_ ?_
  rotate_left
  · intro w
    go_simp
    first | done | with_reducible rfl
  try simp only [Act.put, List.setIfInBounds_toArray, List.set_cons_zero, List.set_cons_succ]
  refine wpAnyG_pure (i := 8) (oi := ⟨some 30, _, _, _, _, _⟩) (v := ?_) rfl (by kernel_rfl) (by kernel_rfl) (by kernel_rfl) (by rfl) (fun _ _ _ h => h) (by rfl) ?_ ?_
  rotate_left
  · intro w
    go_simp
    first | done | with_reducible rfl
  try simp only [Act.put, List.setIfInBounds_toArray, List.set_cons_zero, List.set_cons_succ]
  refine wpAnyG_pure (i := 9) (oi := ⟨some 31, _, _, _, _, _⟩) (v := ?_) rfl (by kernel_rfl) (by kernel_rfl) (by kernel_rfl) (by rfl) (fun _ _ _ h => h) (by rfl) ?_ ?_
  rotate_left
  · intro w
    go_simp
    first | done | with_reducible rfl
  try simp only [Act.put, List.setIfInBounds_toArray, List.set_cons_zero, List.set_cons_succ]
  refine wpAnyG_pure (i := 10) (oi := ⟨some 32, _, _, _, _, _⟩) (v := ?_) rfl (by kernel_rfl) (by kernel_rfl) (by kernel_rfl) (by rfl) (fun _ _ _ h => h) (by rfl) ?_ ?_
  rotate_left
  · intro w
    go_simp
    first | done | with_reducible rfl
  try simp only [Act.put, List.setIfInBounds_toArray, List.set_cons_zero, List.set_cons_succ]
  refine wpAnyG_pure (i := 11) (oi := ⟨some 33, _, _, _, _, _⟩) (v := ?_) rfl (by kernel_rfl) (by kernel_rfl) (by kernel_rfl) (by rfl) (fun _ _ _ h => h) (by rfl) ?_ ?_
  rotate_left
  · intro w
    go_simp
    first | done | with_reducible rfl
  try simp only [Act.put, List.setIfInBounds_toArray, List.set_cons_zero, List.set_cons_succ]
  refine wpAnyG_load (i := 12) (oi := ⟨some 34, _, _, _, _, _⟩) (v := (.string k7K)) rfl (by kernel_rfl) (by kernel_rfl) (by kernel_rfl) (by rfl) (fun _ _ _ h => h) (by rfl) ?_ (by assumption) ?_
  · intro w hS
    obtain ⟨b0, b1, b2⟩ := hS; go_simp; first | done | with_reducible rfl
  try simp only [Act.put, List.setIfInBounds_toArray, List.set_cons_zero, List.set_cons_succ]
  refine wpAnyG_pure (i := 13) (oi := ⟨some 35, _, _, _, _, _⟩) (v := ?_) rfl (by kernel_rfl) (by kernel_rfl) (by kernel_rfl) (by rfl) (fun _ _ _ h => h) (by rfl) ?_ ?_
  rotate_left
  · intro w
    go_simp
    first | done | with_reducible rfl
  try simp only [Act.put, List.setIfInBounds_toArray, List.set_cons_zero, List.set_cons_succ]
  refine wpAnyG_pure (i := 14) (oi := ⟨some 36, _, _, _, _, _⟩) (v := ?_) rfl (by kernel_rfl) (by kernel_rfl) (by kernel_rfl) (by rfl) (fun _ _ _ h => h) (by rfl) ?_ ?_
  rotate_left
  · intro w
    go_simp
    first | done | with_reducible rfl
  try simp only [Act.put, List.setIfInBounds_toArray, List.set_cons_zero, List.set_cons_succ]
  refine wpAnyG_pure (i := 15) (oi := ⟨some 37, _, _, _, _, _⟩) (v := ?_) rfl (by kernel_rfl) (by kernel_rfl) (by kernel_rfl) (by rfl) (fun _ _ _ h => h) (by rfl) ?_ ?_
  rotate_left
  · intro w
    go_simp
    first | done | with_reducible rfl
  try simp only [Act.put, List.setIfInBounds_toArray, List.set_cons_zero, List.set_cons_succ]
  refine wpAnyG_pure (i := 16) (oi := ⟨some 38, _, _, _, _, _⟩) (v := ?_) rfl (by kernel_rfl) (by kernel_rfl) (by kernel_rfl) (by rfl) (fun _ _ _ h => h) (by rfl) ?_ ?_
  rotate_left
  · intro w
    go_simp
    first | done | with_reducible rfl
  try simp only [Act.put, List.setIfInBounds_toArray, List.set_cons_zero, List.set_cons_succ]
  refine wpAnyG_load (i := 17) (oi := ⟨some 39, _, _, _, _, _⟩) (v := (.string v7)) rfl (by kernel_rfl) (by kernel_rfl) (by kernel_rfl) (by rfl) (fun _ _ _ h => h) (by rfl) ?_ (by assumption) ?_
  · intro w hS
    obtain ⟨b0, b1, b2⟩ := hS; go_simp; first | done | with_reducible rfl
  try simp only [Act.put, List.setIfInBounds_toArray, List.set_cons_zero, List.set_cons_succ]
  refine wpAnyG_pure (i := 18) (oi := ⟨some 40, _, _, _, _, _⟩) (v := ?_) rfl (by kernel_rfl) (by kernel_rfl) (by kernel_rfl) (by rfl) (fun _ _ _ h => h) (by rfl) ?_ ?_
  rotate_left
  · intro w
    go_simp
    first | done | with_reducible rfl
  try simp only [Act.put, List.setIfInBounds_toArray, List.set_cons_zero, List.set_cons_succ]
  refine wpAnyG_pure (i := 19) (oi := ⟨some 41, _, _, _, _, _⟩) (v := ?_) rfl (by kernel_rfl) (by kernel_rfl) (by kernel_rfl) (by rfl) (fun _ _ _ h => h) (by rfl) ?_ ?_
  rotate_left
  · intro w
    go_simp
    first | done | with_reducible rfl
  try simp only [Act.put, List.setIfInBounds_toArray, List.set_cons_zero, List.set_cons_succ]
  refine wpAnyG_pure (i := 20) (oi := ⟨some 42, _, _, _, _, _⟩) (v := ?_) rfl (by kernel_rfl) (by kernel_rfl) (by kernel_rfl) (by rfl) (fun _ _ _ h => h) (by rfl) ?_ ?_
  rotate_left
  · intro w
    go_simp
    first | done | with_reducible rfl
  try simp only [Act.put, List.setIfInBounds_toArray, List.set_cons_zero, List.set_cons_succ]
  refine wpAnyG_pure (i := 21) (oi := ⟨some 43, _, _, _, _, _⟩) (v := ?_) rfl (by kernel_rfl) (by kernel_rfl) (by kernel_rfl) (by rfl) (fun _ _ _ h => h) (by rfl) ?_ ?_
  rotate_left
  · intro w
    go_simp
    first | done | with_reducible rfl
  try simp only [Act.put, List.setIfInBounds_toArray, List.set_cons_zero, List.set_cons_succ]
  refine wpAnyG_load (i := 22) (oi := ⟨some 44, _, _, _, _, _⟩) (v := (.agg #[.int .i64 7, .string abcB, .int .i64 5, .int .i64 9])) rfl (by kernel_rfl) (by kernel_rfl) (by kernel_rfl) (by rfl) (fun _ _ _ h => h) (by rfl) ?_ (by assumption) ?_
  · intro w hS
    exact exec_load_mid KEYT (.tmp 3) rfl wB.heap.size 0 (by rfl) [.int .i64 7, .string abcB, .int .i64 5, .int .i64 9] _ hS.2.2 Tryz.underlying25 rfl (by kernel_rfl)
  try simp only [Act.put, List.setIfInBounds_toArray, List.set_cons_zero, List.set_cons_succ]
  refine wpAnyG_keep (i := 23) (oi := ⟨some 45, _, _, _, _, _⟩) (by kernel_rfl) rfl (fun K hK => ?_)
  rw [if_pos (by rfl)]
  go_simp
  refine (key14_any _ _ h).mono ?_
  clear h
  rintro ev w2 ⟨rfl, h⟩
  refine hK.out _ _ ?_ (fun hS => ?_)
  · exact HC.out _ h
  clear hK K
  try simp only [Act.put, List.setIfInBounds_toArray, List.set_cons_zero, List.set_cons_succ]
  refine wpAnyG_pure (i := 24) (oi := ⟨some 46, _, _, _, _, _⟩) (v := (.bool true)) rfl (by kernel_rfl) (by kernel_rfl) (by kernel_rfl) (by rfl) (fun _ _ _ h => h) (by rfl) ?_ ?_
  · intro w
    have hq := hkq w; go_simp; first | done | with_reducible rfl
  try simp only [Act.put, List.setIfInBounds_toArray, List.set_cons_zero, List.set_cons_succ]
  refine wpAnyG_pure (i := 25) (oi := ⟨some 47, _, _, _, _, _⟩) (v := ?_) rfl (by kernel_rfl) (by kernel_rfl) (by kernel_rfl) (by rfl) (fun _ _ _ h => h) (by rfl) ?_ ?_
  rotate_left
  · intro w
    go_simp
    first | done | with_reducible rfl
  try simp only [Act.put, List.setIfInBounds_toArray, List.set_cons_zero, List.set_cons_succ]
  refine wpAnyG_pure (i := 26) (oi := ⟨some 0, _, _, _, _, _⟩) (v := ?_) rfl (by kernel_rfl) (by kernel_rfl) (by kernel_rfl) (by rfl) (fun _ _ _ h => h) (by rfl) ?_ ?_
  rotate_left
  · intro w
    go_simp
    first | done | with_reducible rfl
  try simp only [Act.put, List.setIfInBounds_toArray, List.set_cons_zero]
  refine wpAnyG_done (by kernel_rfl) ?_ _
  refine NoPanic.normal ?_
  go_wp2_with fail
  go_ret
  exact ⟨rfl, h.drop.drop.drop⟩
end
end Go.Proofs.YtabibfabieghpaaGreatDoor
namespace Go.Proofs.YtabibfabieghpaaGreatDoor
open Go.RowKit
/-- Token: what the law sees of it. -/
theorem tok_sees (a b c : Int) (s : ByteArray) (d : Int) (f : Bool) (e g : Int) (r : ByteArray) : ∃ x1 x2 er x3 x4 y1 y2 y3 y4 y5 y6 y7 y8 y9 te, tokR a b c s d f e g r = (x1, x2, er) ∧ ofR a b c s d f e g r = (x3, x4, er) ∧ tokQ x1 x2 = (tokC y1 y2 y3 y4 y5 y6 y7 y8 y9, te) ∧ x1.size ≤ 1000000000000 ∧ x2.size ≤ 1000000000000 ∧
    ((er = 0 ∧ te = 0 ∧ y1 = a ∧ y2 = b ∧ y3 = c ∧ y4 = s ∧ y5 = d ∧ y6 = f ∧ y7 = e ∧ y8 = g ∧ y9 = r) ∨ (er = 140 ∧ te = 141)) := by
  by_cases h : tokMay a b c s d f e g r
  · refine ⟨tokK a, tokV b c s d f e g r, 0, ofK b c, ofV a, a, b, c, s, d, f, e, g, r, 0, if_pos h, if_pos h, tok_back a b c s d f e g r h, ?_, ?_, .inl ⟨rfl, rfl, rfl, rfl, rfl, rfl, rfl, rfl, rfl, rfl, rfl⟩⟩
    · unfold tokK
      rw [fl_size, List.length_cons, byN_len]; omega
    · obtain ⟨-, -, -, c4, -, -, -, c8⟩ := tok_range h
      unfold tokV
      rw [fl_size]
      have e1 : s.data.toList.length = 32 := c4
      have e2 : r.data.toList.length = r.size := rfl
      simp only [List.length_append, byN_len, e1, e2]
      omega
  · exact ⟨noB, noB, 140, noB, noB, 0, 0, 0, noB, 0, false, 0, 0, noB, 141, if_neg h, if_neg h, tok_none, by decide, by decide, .inr ⟨rfl, rfl⟩⟩
theorem key_sees (g : Int) (s : ByteArray) (a b : Int) : ∃ x1 x2 er y1 y2 y3 y4 te, keyR g s a b = (x1, x2, er) ∧ keyQ x1 x2 = ([.int .i64 y1, .string y2, .int .i64 y3, .int .i64 y4], te) ∧ x1.size ≤ 1000000000000 ∧ x2.size ≤ 1000000000000 ∧
    ((er = 0 ∧ te = 0 ∧ y1 = g ∧ y2 = s ∧ y3 = a ∧ y4 = b) ∨ (er = 140 ∧ te = 141)) := by
  by_cases h : keyMay g s a b
  · refine ⟨keyK g s a b, keyV g s a b, 0, g, s, a, b, 0, if_pos h, key_back g s a b h, ?_, ?_, .inl ⟨rfl, rfl, rfl, rfl, rfl, rfl⟩⟩
    · unfold keyK
      rw [fl_size, List.length_cons, byN_len]; omega
    · have e1 : s.data.toList.length = 24 := h.2.1
      unfold keyV
      rw [fl_size]
      simp only [List.length_append, byN_len, e1]
      omega
  · exact ⟨noB, noB, 140, 0, noB, 0, 0, 141, if_neg h, key_none, by decide, by decide, .inr ⟨rfl, rfl⟩⟩
theorem event_sees (i t k j : Int) (s : ByteArray) : ∃ x1 x2 er y1 y2 y3 y4 y5 te, eventR i t k j s = (x1, x2, er) ∧ eventQ x1 x2 = ([.int .i64 y1, .int .i64 y2, .int .i64 y3, .int .i64 y4, .string y5], te) ∧ x1.size ≤ 1000000000000 ∧ x2.size ≤ 1000000000000 ∧
    ((er = 0 ∧ te = 0 ∧ y1 = i ∧ y2 = t ∧ y3 = k ∧ y4 = j ∧ y5 = s) ∨ (er = 140 ∧ te = 141)) := by
  by_cases h : eventMay i t k j s
  · refine ⟨eventK i t k j s, eventV i t k j s, 0, i, t, k, j, s, 0, if_pos h, event_back i t k j s h, ?_, ?_, .inl ⟨rfl, rfl, rfl, rfl, rfl, rfl, rfl⟩⟩
    · unfold eventK
      rw [fl_size, List.length_cons, byN_len]; omega
    · have e0 : s.size ≤ 16 := by
        rcases h.2.2.2.2 with q | q
        · omega
        · exact name_size s q
      have e1 : s.data.toList.length = s.size := rfl
      unfold eventV
      rw [fl_size]
      simp only [List.length_append, byN_len, e1]
      omega
  · exact ⟨noB, noB, 140, 0, 0, 0, 0, noB, 141, if_neg h, event_none, by decide, by decide, .inr ⟨rfl, rfl⟩⟩
theorem chain_sees (a b : Int) (s r : ByteArray) : ∃ x1 x2 er y1 y2 y3 y4 te, chainR a b s r = (x1, x2, er) ∧ chainQ x1 x2 = ([.int .i64 y1, .int .i64 y2, .string y3, .string y4], te) ∧ x2.size ≤ 1000000000000 ∧
    ((er = 0 ∧ te = 0 ∧ y1 = a ∧ y2 = b ∧ y3 = s ∧ y4 = r) ∨ (er = 140 ∧ te = 141)) := by
  by_cases h : chainMay a b s r
  · refine ⟨chainK a b s r, chainV a b s r, 0, a, b, s, r, 0, if_pos h, chain_back a b s r h, ?_, .inl ⟨rfl, rfl, rfl, rfl, rfl, rfl⟩⟩
    have e1 : s.data.toList.length = 32 := h.2.2.2.2.1
    have e2 : r.data.toList.length = 32 := h.2.2.2.2.2
    unfold chainV
    rw [fl_size]
    simp only [List.length_append, byN_len, e1, e2]
    omega
  · exact ⟨noB, noB, 140, 0, 0, noB, noB, 141, if_neg h, chain_none, by decide, .inr ⟨rfl, rfl⟩⟩
theorem note_sees (a b : Int) : ∃ x er y1 y2 te, noteR a b = (x, er) ∧ noteQ x = (y1, y2, te) ∧ x.size ≤ 1000000000000 ∧ ((er = 0 ∧ te = 0 ∧ y1 = a ∧ y2 = b) ∨ (er = 140 ∧ te = 141)) := by
  by_cases h : noteMay a b
  · refine ⟨noteV a b, 0, a, b, 0, if_pos h, note_back a b h, ?_, .inl ⟨rfl, rfl, rfl, rfl⟩⟩
    unfold noteV
    rw [fl_size]
    simp only [List.length_append, byN_len]
    decide
  · exact ⟨noB, 140, 0, 0, 141, if_neg h, note_none, by decide, .inr ⟨rfl, rfl⟩⟩
end Go.Proofs.YtabibfabieghpaaGreatDoor
