/- latchkeyref10.wrong, short, Page, cut, Parse. -/
import Derived.Test.YtbclmmneiphcaaaGreatDoorXPg
import Derived.Test.YtbclmmneiphcaaaGreatDoorParse
import Derived.Test.YtbclmmneiphcaaaGreatDoorLst2
import Derived.OwnWalk
namespace Go.Proofs.YtbclmmneiphcaaaGreatDoor
open Go.RowKit
/- THE PLAIN LAW: a text off the front; the row of texts. -/
/-- a text off the front, or none -/
def cutB (s : ByteArray) : Option (ByteArray × ByteArray) := if (rText s 0 255).2.2 = 0 then some ((rText s 0 255).1, (rText s 0 255).2.1) else none
theorem first_lt (s : ByteArray) : numL (s.data.toList.take 1) < 256 := by
  have hl := numL_lt (s.data.toList.take 1)
  have hl2 : (s.data.toList.take 1).length ≤ 1 := by simp; omega
  have : 256 ^ (s.data.toList.take 1).length ≤ 256 ^ 1 := Nat.pow_le_pow_right (by omega) hl2
  omega
theorem cutB_none {s : ByteArray} (h : s.size = 0 ∨ s.size - 1 < numL (s.data.toList.take 1)) : cutB s = none := by
  have ha : ahead (255 : Int).toNat = 1 := by decide
  have hf := first_lt s
  unfold cutB rText
  rw [ha]
  rw [if_neg (show ¬ (0 : Int) ≠ 0 by omega), if_neg (show ¬ ((255 : Int) < 0 ∨ 65535 < (255 : Int)) by omega)]
  by_cases h1 : s.size < 1
  · rw [if_pos h1]; rfl
  · rw [if_neg h1, if_neg (show ¬ (255 : Int).toNat < numL (s.data.toList.take 1) by show ¬ 255 < _; omega), if_pos (show s.size < 1 + numL (s.data.toList.take 1) by omega)]; rfl
theorem cutB_some {s : ByteArray} (h : ¬ (s.size = 0 ∨ s.size - 1 < numL (s.data.toList.take 1))) :
    cutB s = some (restB (frontB s (1 + numL (s.data.toList.take 1))) 1, restB s (1 + numL (s.data.toList.take 1))) := by
  have ha : ahead (255 : Int).toNat = 1 := by decide
  have hf := first_lt s
  unfold cutB rText
  rw [ha]
  rw [if_neg (show ¬ (0 : Int) ≠ 0 by omega), if_neg (show ¬ ((255 : Int) < 0 ∨ 65535 < (255 : Int)) by omega)]
  rw [if_neg (show ¬ s.size < 1 by omega), if_neg (show ¬ (255 : Int).toNat < numL (s.data.toList.take 1) by show ¬ 255 < _; omega), if_neg (show ¬ s.size < 1 + numL (s.data.toList.take 1) by omega)]
  rfl
theorem rText_of {s t r : ByteArray} (h : cutB s = some (t, r)) : rText s 0 255 = (t, r, 0) := by
  unfold cutB at h
  split at h
  · rename_i h0
    injection h with h
    injection h with h1 h2
    rw [← h1, ← h2]
    exact Prod.ext rfl (Prod.ext rfl h0)
  · cases h
theorem rText_bad {s : ByteArray} (h : cutB s = none) : (rText s 0 255).2.2 ≠ 0 := by
  unfold cutB at h
  split at h
  · cases h
  · assumption
theorem rText_err {s : ByteArray} {e : Int} (he : e ≠ 0) : rText s e 255 = (⟨#[]⟩, s, e) := if_pos he
theorem pStep_err {leaf : Bool} {st : PState} (h : st.2.2.2 ≠ 0) : (pStep leaf st).2.2.2 ≠ 0 := by
  unfold pStep
  cases leaf
  · simp only [Bool.false_eq_true, if_false]; rw [rText_err h]; exact h
  · simp only [if_true]; rw [rText_err h, rText_err h]; exact h
theorem pRun_err {leaf : Bool} {s : ByteArray} {e : Int} {k n : Nat} (hk : k ≤ n) (h : (pRun leaf s e k).2.2.2 ≠ 0) : (pRun leaf s e n).2.2.2 ≠ 0 := by
  induction n with
  | zero => obtain rfl : k = 0 := by omega
            exact h
  | succ n ih =>
    rcases Nat.lt_or_ge n k with h1 | h1
    · obtain rfl : k = n + 1 := by omega
      exact h
    · exact pStep_err (ih h1)
theorem pRun_inner {s r t r2 : ByteArray} {k : Nat} {ks vs : List ByteArray} (h : pRun false s 0 k = (ks, vs, r, 0)) (hc : cutB r = some (t, r2)) : pRun false s 0 (k + 1) = (ks ++ [t], vs, r2, 0) := by
  show pStep false (pRun false s 0 k) = _
  rw [h]
  unfold pStep
  simp only [Bool.false_eq_true, if_false]
  rw [rText_of hc]
theorem pRun_leaf {s r t r2 t2 r3 : ByteArray} {k : Nat} {ks vs : List ByteArray} (h : pRun true s 0 k = (ks, vs, r, 0)) (hc : cutB r = some (t, r2)) (hc2 : cutB r2 = some (t2, r3)) : pRun true s 0 (k + 1) = (ks ++ [t], vs ++ [t2], r3, 0) := by
  show pStep true (pRun true s 0 k) = _
  rw [h]
  unfold pStep
  simp only [if_true]
  rw [rText_of hc]
  dsimp only
  rw [rText_of hc2]
theorem pRun_bad1 {leaf : Bool} {s r : ByteArray} {k : Nat} {ks vs : List ByteArray} (h : pRun leaf s 0 k = (ks, vs, r, 0)) (hc : cutB r = none) : (pRun leaf s 0 (k + 1)).2.2.2 ≠ 0 := by
  have hb := rText_bad hc
  show (pStep leaf (pRun leaf s 0 k)).2.2.2 ≠ 0
  rw [h]
  unfold pStep
  cases leaf
  · simp only [Bool.false_eq_true, if_false]; exact hb
  · simp only [if_true]; rw [rText_err hb]; exact hb
theorem pRun_bad2 {s r t r2 : ByteArray} {k : Nat} {ks vs : List ByteArray} (h : pRun true s 0 k = (ks, vs, r, 0)) (hc : cutB r = some (t, r2)) (hc2 : cutB r2 = none) : (pRun true s 0 (k + 1)).2.2.2 ≠ 0 := by
  have hb := rText_bad hc2
  show (pStep true (pRun true s 0 k)).2.2.2 ≠ 0
  rw [h]
  unfold pStep
  simp only [if_true]
  rw [rText_of hc]
  exact hb
theorem rDone_zero {s : ByteArray} {e : Int} : rDone s e = 0 ↔ (e = 0 ∧ s.size = 0) := by
  unfold rDone
  split
  · rename_i h; exact ⟨fun h1 => absurd h1 h, fun h1 => absurd h1.1 h⟩
  · rename_i h
    split
    · rename_i h2; exact ⟨fun _ => ⟨by omega, h2⟩, fun _ => rfl⟩
    · rename_i h2; exact ⟨fun h1 => (by cases h1), fun h1 => absurd h1.2 h2⟩
theorem Pg.bad_err {p : Pg} (h : p.last.2.2.2 ≠ 0) : p.bad = true := decide_eq_true (.inl fun h1 => h (rDone_zero.1 h1).1)
theorem Pg.bad_kind {p : Pg} (h : p.kind ≠ 1 ∧ p.kind ≠ 2) : p.bad = true := decide_eq_true (.inr (.inl h))
theorem Pg.bad_empty {p : Pg} (h : p.body.size = 0) : p.bad = true := by
  refine Pg.bad_err ?_
  have e : rNum p.body 0 1 = (0, p.body, 22) := by
    unfold rNum
    rw [if_neg (by omega), if_neg (by omega), if_pos (by omega)]
  unfold Pg.last
  rw [e]
  show (22 : Int) ≠ 0
  decide
/-- the number of keys that a page says -/
theorem Pg.last_of {p : Pg} (h : ¬ p.body.size = 0) : p.last = pRun p.leaf (restB p.body 1) 0 (numL (p.body.data.toList.take 1)) := by
  have hf := first_lt p.body
  have e : rNum p.body 0 1 = (((numL (p.body.data.toList.take 1) : Nat) : Int), restB p.body 1, 0) := by
    unfold rNum
    rw [if_neg (by omega), if_neg (by omega), if_neg (by omega), if_neg (by show ¬ _ ≤ numL (p.body.data.toList.take 1); omega)]
    rfl
  unfold Pg.last
  rw [e]
  rfl
theorem Pg.bad_of {p : Pg} {ks vs : List ByteArray} {r : ByteArray} (hk : p.kind = 1 ∨ p.kind = 2) (hl : p.last = (ks, vs, r, 0)) : p.bad = decide (r.size ≠ 0 ∨ (⟨p.leaf, ks, vs, p.links⟩ : Nd).wrong ≠ 0) := by
  have e : p.read = ⟨p.leaf, ks, vs, p.links⟩ := by unfold Pg.read; rw [hl]
  unfold Pg.bad
  rw [e, hl]
  congr 1
  refine propext ⟨?_, ?_⟩
  · rintro (h | h | h)
    · refine .inl fun h0 => h (rDone_zero.2 ⟨rfl, h0⟩)
    · omega
    · exact .inr h
  · rintro (h | h)
    · exact .inl fun h0 => h (rDone_zero.1 h0).2
    · exact .inr (.inr h)
section
variable {E : World} {S : Ph} {L : List Hp}
theorem first_num (s : ByteArray) (h : ¬ s.size = 0) : ((s.data.toList.getD 0 0).toNat : Int) = ((numL (s.data.toList.take 1) : Nat) : Int) := by
  have hl : s.data.toList.length = s.size := rfl
  match hs : s.data.toList, hl with
  | [], hl => simp at hl; omega
  | a :: l, _ => simp [numL]
set_option maxHeartbeats 4000000 in
theorem xcut_any (s : ByteArray) (w : World) (hs : s.size ≤ 1000000000000) :
    Calls Tryz.prog 63 #[.string s] w fun e w' => ((cutB s = none ∧ e = .returned (.tuple #[.string ⟨#[]⟩, .string ⟨#[]⟩, .bool false]) ∧ w = w') ∨ (∃ t r, cutB s = some (t, r) ∧ e = .returned (.tuple #[.string t, .string r, .bool true]) ∧ (w' = w ∨ w' = w.drew))) := by
  by_cases h0 : s.size = 0
  · have hc := cutB_none (s := s) (.inl h0)
    have he : s.toList.isEmpty = true := by
      rw [ByteArray.toList_eq]
      have : s.data.toList.length = s.size := rfl
      exact List.isEmpty_iff.2 (List.eq_nil_of_length_eq_zero (by omega))
    have HC := Lib.hid hc
    clear hc
    go_enter Tryz.func63, Tryz.ntmps63
    go_wp2_with fail
    go_ret3
    exact .inl ⟨HC.out, rfl, rfl⟩
  · have he := text_some h0
    have hix := byte_index s 0 0 rfl (by omega)
    rw [first_num s h0] at hix
    have hf := first_lt s
    have hn := cutB_none (s := s)
    have hsm := cutB_some (s := s)
    obtain ⟨q, hq⟩ : ∃ q, q = numL (s.data.toList.take 1) := ⟨_, rfl⟩
    rw [← hq] at hix hf hn hsm
    have j0 : IntKind.i64.wrap ((s.size : Int) - 1) = ((s.size - 1 : Nat) : Int) := by rw [IntWalk.i64_in _ (by omega)]; omega
    have jq : IntKind.i64.wrap (q : Int) = (q : Int) := IntWalk.i64_in _ (by omega)
    obtain ⟨z1, hz1⟩ : ∃ z, z = s.size - 1 := ⟨_, rfl⟩
    rw [← hz1] at j0
    by_cases hc : s.size - 1 < q
    · have hci : (z1 : Int) < q := by omega
      have HC := Lib.hid (hn (.inr hc))
      clear hn hsm hq hc hz1 hf
      go_enter Tryz.func63, Tryz.ntmps63
      go_wp2_with fail
      go_ret3
      exact .inl ⟨HC.out, rfl, rfl⟩
    · have hci : ¬ (z1 : Int) < q := by omega
      have HC := Lib.hid (hsm (by omega))
      have j1 : IntKind.i64.wrap (1 + (q : Int)) = ((1 + q : Nat) : Int) := by rw [IntWalk.i64_in _ (by omega)]; omega
      obtain ⟨n, hnn⟩ : ∃ n, n = 1 + q := ⟨_, rfl⟩
      rw [← hnn] at j1 HC
      have k1 : (1 : Int) ≤ n := by omega
      have k2 : (n : Int) ≤ s.size := by omega
      have k3 : (0 : Int) ≤ n := by omega
      have ht : s.extract 1 n = restB (frontB s n) 1 := by
        apply ByteArray.ext
        apply Array.ext'
        rw [rest_data, front_data, Lib.extract_data]
        simp [List.drop_take]
      have HT := Lib.hid ht
      clear hn hsm hq hc hz1 hf hnn ht
      go_enter Tryz.func63, Tryz.ntmps63
      go_wp2_with fail
      refine wp_region_text [] (fun _ => True) (by kernel_rfl) ?_ (fun hS => ?_)
      · trivial
      refine wpAnyG_pure (i := 0) (oi := ⟨some 21, _, _, _, _, _⟩) (v := ?_) rfl (by kernel_rfl) (by kernel_rfl) (by kernel_rfl) (by rfl) (fun _ _ _ h => h) (by rfl) ?_ ?_
      rotate_left
      · intro w
        go_simp
        first | done | with_reducible rfl
      try simp only [Act.put, List.setIfInBounds_toArray, List.set_cons_zero, List.set_cons_succ]
      refine wpAnyG_pure (i := 1) (oi := ⟨some 22, _, _, _, _, _⟩) (v := ?_) rfl (by kernel_rfl) (by kernel_rfl) (by kernel_rfl) (by rfl) (fun _ _ _ h => h) (by rfl) ?_ ?_
      rotate_left
      · intro w
        go_simp
        first | done | with_reducible rfl
      try simp only [Act.put, List.setIfInBounds_toArray, List.set_cons_zero, List.set_cons_succ]
      refine wpAnyG_pure (i := 2) (oi := ⟨some 23, _, _, _, _, _⟩) (v := ?_) rfl (by kernel_rfl) (by kernel_rfl) (by kernel_rfl) (by rfl) (fun _ _ _ h => h) (by rfl) ?_ ?_
      rotate_left
      · intro w
        go_simp
        first | done | with_reducible rfl
      try simp only [Act.put, List.setIfInBounds_toArray, List.set_cons_zero, List.set_cons_succ]
      refine wpAnyG_pure (i := 3) (oi := ⟨some 24, _, _, _, _, _⟩) (v := ?_) rfl (by kernel_rfl) (by kernel_rfl) (by kernel_rfl) (by rfl) (fun _ _ _ h => h) (by rfl) ?_ ?_
      rotate_left
      · intro w
        go_simp
        first | done | with_reducible rfl
      try simp only [Act.put, List.setIfInBounds_toArray, List.set_cons_zero, List.set_cons_succ]
      refine wpAnyG_pure (i := 4) (oi := ⟨some 25, _, _, _, _, _⟩) (v := ?_) rfl (by kernel_rfl) (by kernel_rfl) (by kernel_rfl) (by rfl) (fun _ _ _ h => h) (by rfl) ?_ ?_
      rotate_left
      · intro w
        go_simp
        first | done | with_reducible rfl
      try simp only [Act.put, List.setIfInBounds_toArray, List.set_cons_zero, List.set_cons_succ]
      refine wpAnyG_pure (i := 5) (oi := ⟨some 26, _, _, _, _, _⟩) (v := ?_) rfl (by kernel_rfl) (by kernel_rfl) (by kernel_rfl) (by rfl) (fun _ _ _ h => h) (by rfl) ?_ ?_
      rotate_left
      · intro w
        go_simp
        first | done | with_reducible rfl
      try simp only [Act.put, List.setIfInBounds_toArray, List.set_cons_zero, List.set_cons_succ]
      refine wpAnyG_pure (i := 6) (oi := ⟨some 2, _, _, _, _, _⟩) (v := ?_) rfl (by kernel_rfl) (by kernel_rfl) (by kernel_rfl) (by rfl) (fun _ _ _ h => h) (by rfl) ?_ ?_
      rotate_left
      · intro w
        go_simp
        first | done | with_reducible rfl
      try simp only [Act.put, List.setIfInBounds_toArray, List.set_cons_zero, List.set_cons_succ]
      refine wpAnyG_pure (i := 7) (oi := ⟨some 3, _, _, _, _, _⟩) (v := ?_) rfl (by kernel_rfl) (by kernel_rfl) (by kernel_rfl) (by rfl) (fun _ _ _ h => h) (by rfl) ?_ ?_
      rotate_left
      · intro w
        go_simp
        first | done | with_reducible rfl
      try simp only [Act.put, List.setIfInBounds_toArray, List.set_cons_zero, List.set_cons_succ]
      refine wpAnyG_pure (i := 8) (oi := ⟨some 4, _, _, _, _, _⟩) (v := ?_) rfl (by kernel_rfl) (by kernel_rfl) (by kernel_rfl) (by rfl) (fun _ _ _ h => h) (by rfl) ?_ ?_
      rotate_left
      · intro w
        go_simp
        first | done | with_reducible rfl
      try simp only [Act.put, List.setIfInBounds_toArray, List.set_cons_zero, List.set_cons_succ]
      refine wpAnyG_done (by kernel_rfl) ?_ _
      refine NoPanic.normal ?_
      go_wp2_with fail
      go_ret3
      have hc2 := HC.out
      rw [← HT.out] at hc2
      first | exact .inr ⟨_, _, hc2, rfl, .inr rfl⟩ | exact .inr ⟨_, _, hc2, rfl, .inl rfl⟩
theorem xcutg_any (s : ByteArray) (w : World) (hs : s.size ≤ 1000000000000) (h : Own E w L) :
    Calls Tryz.prog 63 #[.string s] w fun e w' => ((cutB s = none ∧ e = .returned (.tuple #[.string ⟨#[]⟩, .string ⟨#[]⟩, .bool false])) ∨ (∃ t r, cutB s = some (t, r) ∧ e = .returned (.tuple #[.string t, .string r, .bool true]))) ∧ Own E w' L := by
  refine (xcut_any s w hs).mono ?_
  rintro e w' (⟨h1, rfl, rfl⟩ | ⟨t, r, h1, rfl, rfl | rfl⟩)
  · exact ⟨.inl ⟨h1, rfl⟩, h⟩
  · exact ⟨.inr ⟨t, r, h1, rfl⟩, h⟩
  · exact ⟨.inr ⟨t, r, h1, rfl⟩, h.drew⟩
theorem cutB_size {s t r : ByteArray} (h : cutB s = some (t, r)) : t.size ≤ 255 ∧ r.size ≤ s.size := by
  have h1 := rText_size s 0
  rw [rText_of h] at h1
  exact h1
set_option maxRecDepth 100000 in
set_option maxHeartbeats 8000000 in
theorem xparse_any (A : Option Addr) (c : Nat) (p : Pg) (w : World) (hb : p.links.length ≤ 4000000000) (hbs : p.body.size ≤ 1000000000000) (hr : Rds S 1 en64 A p.links.length p.links) (h : Own E w (Hp.ro S :: L)) :
    Calls Tryz.prog 33 #[p.val A c] w fun e w' => ∃ nv, e = .returned (.tuple #[nv, .int .i64 p.wrong]) ∧ Own E w' (Hp.node nv p.node :: Hp.ro S :: L) := by
  have h1 : Own E _ (Hp.blk (w.heap.size + 1) NT #[.bool false, .slice none 0 0, .slice none 0 0, .slice none 0 0] :: Hp.blk w.heap.size PT #[VI p.kind, VI p.number, VI p.birth, .slice A p.links.length c, .string p.body] :: Hp.ro S :: L) := h.alloc2 _ _
  obtain ⟨g, hg⟩ : ∃ g, g = w.heap.size := ⟨_, rfl⟩
  rw [← hg] at h1
  obtain ⟨nt, hnt, hnr⟩ := nt_u
  have hbad : p.bad = true → p.wrong = 100 ∧ p.node = Nd.nil := fun hb => ⟨if_pos hb, if_pos hb⟩
  have hgood : p.bad = false → p.wrong = 0 ∧ p.node = p.read := fun hb => ⟨by unfold Pg.wrong; rw [hb]; rfl, by unfold Pg.node; rw [hb]; rfl⟩
  have hb0 := fun h => hbad (Pg.bad_empty (p := p) h)
  have hbk := fun h => hbad (Pg.bad_kind (p := p) h)
  generalize hpw : p.wrong = pw at *
  generalize hpn : p.node = pn at *
  have H := Lib.hid h1
  have HBAD := Lib.hid hbad
  have HGOOD := Lib.hid hgood
  clear h h1 hbad hgood hpw hpn
  by_cases k0 : p.body.size = 0
  · obtain ⟨rfl, rfl⟩ := hb0 k0
    have he : p.body.toList.isEmpty = true := by
      rw [ByteArray.toList_eq]
      have : p.body.data.toList.length = p.body.size := rfl
      exact List.isEmpty_iff.2 (List.eq_nil_of_length_eq_zero (by omega))
    clear hb0 hbk
    go_enter Tryz.func33, Tryz.ntmps33
    go_wp2_with fail
    rw [← hg]
    refine bodyPost_ret (results_ct rfl rfl H.out hnt hnr (by kernel_rfl)) rfl ?_
    exact ⟨_, rfl, (H.out.drop.drop).nilNode⟩
  by_cases kk : p.kind ≠ 1 ∧ p.kind ≠ 2
  · obtain ⟨rfl, rfl⟩ := hbk kk
    have he := text_some k0
    have kk1 : (p.kind != 1) = true := by simp [kk.1]
    have kk2 : (p.kind != 2) = true := by simp [kk.2]
    clear hb0 hbk kk
    go_enter Tryz.func33, Tryz.ntmps33
    go_wp2_with fail
    rw [← hg]
    refine bodyPost_ret (results_ct rfl rfl H.out hnt hnr (by kernel_rfl)) rfl ?_
    exact ⟨_, rfl, (H.out.drop.drop).nilNode⟩
  have hk12 : p.kind = 1 ∨ p.kind = 2 := by omega
  have he := text_some k0
  have hlast := Pg.last_of (p := p) k0
  have hbo := fun ks vs r => Pg.bad_of (p := p) (ks := ks) (vs := vs) (r := r) hk12
  have hbe := Pg.bad_err (p := p)
  have hix := byte_index p.body 0 0 rfl (by omega)
  rw [first_num p.body k0] at hix
  have hN := first_lt p.body
  have hread : p.read = ⟨p.leaf, p.last.1, p.last.2.1, p.links⟩ := rfl
  obtain ⟨N, hNe⟩ : ∃ N, N = numL (p.body.data.toList.take 1) := ⟨_, rfl⟩
  rw [← hNe] at hix hN hlast
  obtain ⟨leaf, hlf⟩ : ∃ l, l = p.leaf := ⟨_, rfl⟩
  have z1 : (p.kind == 1) = leaf := by rw [hlf]; unfold Pg.leaf; by_cases hk : p.kind = 1 <;> simp [hk]
  have z2 : (p.kind == 2) = !leaf := by rw [hlf]; unfold Pg.leaf; rcases hk12 with hk | hk <;> simp [hk]
  have z3 : (p.kind != 1) = !leaf := by rw [← z1]; rfl
  have z4 : (p.kind != 2) = leaf := by rw [bne, z2, Bool.not_not]
  rw [← hlf] at hlast hbo hread
  obtain ⟨s0, hs0⟩ : ∃ s, s = restB p.body 1 := ⟨_, rfl⟩
  rw [← hs0] at hlast
  have hs0b : s0.size ≤ 1000000000000 := by rw [hs0, rest_size]; omega
  have k1 : (1 : Int) ≤ p.body.size := by omega
  have HLAST := Lib.hid hlast
  have HBO := Lib.hid hbo
  have HBE := Lib.hid hbe
  have HREAD := Lib.hid hread
  have HS0 := Lib.hid hs0
  have HKK := Lib.hid hk12
  clear hb0 hbk kk k0 hlast hbo hbe hread hlf hNe hs0 hk12
  cases leaf with
  | true =>
    go_enter Tryz.func33, Tryz.ntmps33
    go_upto_region 4 with fail
    have h1 := H.out.alloc (.cells #[.bool true, .slice none 0 0, .slice none 0 0, .slice none 0 0] NT)
    rw [alloc_size, alloc_size] at h1
    rw [← hg] at h1 ⊢
    clear hg
    obtain ⟨g4, hg4⟩ : ∃ x, x = g + 1 + 1 := ⟨_, rfl⟩
    rw [← hg4] at h1 ⊢
    have h : Own E _ (Hp.blk g4 NT #[.bool true, .slice none 0 0, .slice none 0 0, .slice none 0 0] :: Hp.blk (g + 1) NT #[.bool false, .slice none 0 0, .slice none 0 0, .slice none 0 0] :: Hp.blk g PT #[VI p.kind, VI p.number, VI p.birth, .slice A p.links.length c, .string p.body] :: Hp.ro S :: L) := h1
    generalize World.alloc _ _ = wa at h ⊢
    clear h1 hg4 H z1 z2 z3 z4
    have p3 : wa.cell? ⟨g, 3, none⟩ = some (.slice A p.links.length c) := h.f2.cell 3
    have p4 : wa.cell? ⟨g, 4, none⟩ = some (.string p.body) := h.f2.cell 4
    have c3 := h.cell 3
    have hrd := hr.rdC h.f3
    obtain ⟨v6, wi, hap, h4⟩ := lst_append (P := Tryz.prog) (t := LIT) (ty := LIT) lit_u it_info (by rfl) (h.emptyLst IT none) A p.links.length c (p.links.map VI) (by rw [List.length_map]) hrd (VI_one _) (by unfold maxLen; simp; omega) (by simp; omega)
    rw [List.nil_append] at h4
    obtain ⟨A6, q6, rfl, -⟩ := h4.lstSlice
    rw [List.length_map] at h4 hap
    have x3 := h4.f1.cell 3
    have y3 := h4.f1.frozen 3
    have h5 := h4.f1.set 3 (.slice A6 p.links.length q6)
    have p5 : (wi.setCell ⟨g4, 3, none⟩ (.slice A6 p.links.length q6)).cell? ⟨g, 4, none⟩ = some (.string p.body) := h5.f3.cell 4
    have H := Lib.hid (show Own E _ (Hp.blk g4 NT #[.bool true, .slice none 0 0, .slice none 0 0, .slice A6 p.links.length q6] :: Hp.ints (.slice A6 p.links.length q6) p.links :: Hp.blk (g + 1) NT #[.bool false, .slice none 0 0, .slice none 0 0, .slice none 0 0] :: Hp.blk g PT #[VI p.kind, VI p.number, VI p.birth, .slice A p.links.length c, .string p.body] :: Hp.ro S :: L) from h5)
    clear hrd h h4 h5
    have hsr : p.body.extract 1 p.body.size = s0 := HS0.out.symm
    go_wp2_with (with_reducible refine at_slot (k := some 36) ?_; refine wpList_append_run (o := ⟨some 36, _, _, _, _, _⟩) hap rfl rfl rfl rfl ?_; clear hap)
    clear p3 p4 c3 x3 y3 p5
    generalize World.setCell _ _ _ = wb at H ⊢
    go_loopw [5, 6] (fun rv i wr => ∃ (k : Nat) (ks vs : List ByteArray) (r : ByteArray) (kv vv : Value), k ≤ N ∧ rv = .string r ∧ i = .int .i64 k ∧ pRun true s0 0 k = (ks, vs, r, 0) ∧ Own E wr (Hp.blk g4 NT #[.bool true, kv, vv, .slice A6 p.links.length q6] :: Hp.strs kv ks :: Hp.strs vv vs :: Hp.ints (.slice A6 p.links.length q6) p.links :: Hp.blk (g + 1) NT #[.bool false, .slice none 0 0, .slice none 0 0, .slice none 0 0] :: Hp.blk g PT #[VI p.kind, VI p.number, VI p.birth, .slice A p.links.length c, .string p.body] :: Hp.ro S :: L)) (fun _ i _ => N - (intOf i).toNat)
    case atStart => exact ⟨0, [], [], s0, .slice none 0 0, .slice none 0 0, by omega, rfl, rfl, rfl, ((H.out.emptyLst ST none).emptyLst ST none).f2⟩
    case round =>
      obtain ⟨k, ks, vs, r, kv, vv, hk, rfl, rfl, hpr, hw⟩ := hrel
      have hfac := pRun_facts true s0 0 k
      rw [hpr] at hfac
      obtain ⟨f1, f2, -, -, f5⟩ := hfac
      dsimp only at f1 f2 f5
      have hrb : r.size ≤ 1000000000000 := by omega
      have hkl : ks.length ≤ 255 := by omega
      have hvl : vs.length ≤ 255 := by simp at f2; omega
      clear f1 f2 f5
      have HPR := Lib.hid hpr
      clear H hpr
      obtain ⟨Ak, ck, rfl, -⟩ := hw.f1.lstSlice
      obtain ⟨Av, cv, rfl, -⟩ := hw.f2.lstSlice
      rw [List.length_map, List.length_map] at hw
      have p4 : wr.cell? ⟨g, 4, none⟩ = some (.string p.body) := hw.f5.cell 4
      by_cases hlt : k < N
      · have hlti : (k : Int) < N := by omega
        have H := Lib.hid hw
        clear hw
        go_wp2_with fail
        refine (xcutg_any r _ hrb H.out).mono ?_
        clear H p4
        rintro e w1 ⟨(⟨hc, rfl⟩ | ⟨x, r2, hc, rfl⟩), h⟩
        · have hbd := HBE.out (by rw [HLAST.out]; exact pRun_err hlt (pRun_bad1 HPR.out hc))
          obtain ⟨rfl, rfl⟩ := HBAD.out hbd
          have H := Lib.hid (show Own E _ (Hp.blk (g + 1) NT #[.bool false, .slice none 0 0, .slice none 0 0, .slice none 0 0] :: Hp.blk g PT #[VI p.kind, VI p.number, VI p.birth, .slice A p.links.length c, .string p.body] :: Hp.blk g4 NT #[.bool true, .slice Ak ks.length ck, .slice Av vs.length cv, .slice A6 p.links.length q6] :: Hp.strs (.slice Ak ks.length ck) ks :: Hp.strs (.slice Av vs.length cv) vs :: Hp.ints (.slice A6 p.links.length q6) p.links :: Hp.ro S :: L) from h.ac (by simp only [Hp.all] <;> ac_rfl))
          clear h hbd hc HBAD HGOOD HBE HBO HREAD HLAST
          go_wp2_with (with_reducible refine at_slot (k := none) ?_; refine wpList_store_whole (o := ⟨none, _, _, _, _, _⟩) (cs := [.bool false, .slice none 0 0, .slice none 0 0, .slice none 0 0]) (vs := [.bool false, .slice none 0 0, .slice none 0 0, .slice none 0 0]) H.out rfl (ND_all1 _ _ _ _ rfl rfl rfl) (by kernel_rfl) rfl rfl rfl rfl ?_; intro w7 h7)
          refine bodyPost_ret (results_ct rfl rfl h7 hnt hnr (by kernel_rfl)) rfl ?_
          exact ⟨_, rfl, (h7.drop.drop.drop.drop.drop.drop).nilNode⟩
        · have hr2 := (cutB_size hc).2
          have HCU := Lib.hid hc
          clear hc
          have b1 : w1.cell? ⟨g4, 1, none⟩ = some (.slice Ak ks.length ck) := h.cell 1
          have h := (show Own E _ (Hp.strs (.slice Ak ks.length ck) ks :: Hp.blk g4 NT #[.bool true, .slice Ak ks.length ck, .slice Av vs.length cv, .slice A6 p.links.length q6] :: Hp.strs (.slice Av vs.length cv) vs :: Hp.ints (.slice A6 p.links.length q6) p.links :: Hp.blk (g + 1) NT #[.bool false, .slice none 0 0, .slice none 0 0, .slice none 0 0] :: Hp.blk g PT #[VI p.kind, VI p.number, VI p.birth, .slice A p.links.length c, .string p.body] :: Hp.ro S :: L) from h.ac (by simp only [Hp.all] <;> ac_rfl))
          obtain ⟨v1, w1x, hap, h⟩ := lst_append_new (P := Tryz.prog) (t := LST) (ty := LST) lst_u st_info (by rfl) h #[.string x] 1 rfl (VS_one [x]) (by unfold maxLen; rw [List.length_map]; omega) (by rw [List.length_map]; omega)
          have e9 : ks.map VS ++ (#[Value.string x] : Array Value).toList = (ks ++ [x]).map VS := by simp
          rw [e9] at h
          clear e9
          obtain ⟨A1, q1, rfl, -⟩ := h.lstSlice
          have l9 : ((ks ++ [x]).map VS).length = ks.length + 1 := by simp
          rw [l9] at h hap
          clear l9
          have d1 := h.f1.cell 1
          have d2 := h.f1.frozen 1
          have h : Own E _ (Hp.blk g4 NT #[.bool true, .slice A1 (ks.length + 1) q1, .slice Av vs.length cv, .slice A6 p.links.length q6] :: Hp.strs (.slice A1 (ks.length + 1) q1) (ks ++ [x]) :: Hp.strs (.slice Av vs.length cv) vs :: Hp.ints (.slice A6 p.links.length q6) p.links :: Hp.blk (g + 1) NT #[.bool false, .slice none 0 0, .slice none 0 0, .slice none 0 0] :: Hp.blk g PT #[VI p.kind, VI p.number, VI p.birth, .slice A p.links.length c, .string p.body] :: Hp.ro S :: L) := h.f1.set 1 (.slice A1 (ks.length + 1) q1)
          have d3 := h.cell 0
          have H := Lib.hid h
          repeat clear h
          go_wp2_with (with_reducible refine at_slot (k := some 63) ?_; refine wpList_append_run (o := ⟨some 63, _, _, _, _, _⟩) hap rfl rfl rfl rfl ?_; clear hap)
          clear b1 d1 d2 d3
          refine (xcutg_any r2 _ (by omega) H.out).mono ?_
          clear H
          rintro e w2 ⟨(⟨hc, rfl⟩ | ⟨y, r3, hc, rfl⟩), h⟩
          · have hbd := HBE.out (by rw [HLAST.out]; exact pRun_err hlt (pRun_bad2 HPR.out HCU.out hc))
            obtain ⟨rfl, rfl⟩ := HBAD.out hbd
            have H := Lib.hid (show Own E _ (Hp.blk (g + 1) NT #[.bool false, .slice none 0 0, .slice none 0 0, .slice none 0 0] :: Hp.blk g PT #[VI p.kind, VI p.number, VI p.birth, .slice A p.links.length c, .string p.body] :: Hp.blk g4 NT #[.bool true, .slice A1 (ks.length + 1) q1, .slice Av vs.length cv, .slice A6 p.links.length q6] :: Hp.strs (.slice A1 (ks.length + 1) q1) (ks ++ [x]) :: Hp.strs (.slice Av vs.length cv) vs :: Hp.ints (.slice A6 p.links.length q6) p.links :: Hp.ro S :: L) from h.ac (by simp only [Hp.all] <;> ac_rfl))
            clear h hbd hc HBAD HGOOD HBE HBO HREAD HLAST
            go_wp2_with (with_reducible refine at_slot (k := none) ?_; refine wpList_store_whole (o := ⟨none, _, _, _, _, _⟩) (cs := [.bool false, .slice none 0 0, .slice none 0 0, .slice none 0 0]) (vs := [.bool false, .slice none 0 0, .slice none 0 0, .slice none 0 0]) H.out rfl (ND_all1 _ _ _ _ rfl rfl rfl) (by kernel_rfl) rfl rfl rfl rfl ?_; intro w7 h7)
            refine bodyPost_ret (results_ct rfl rfl h7 hnt hnr (by kernel_rfl)) rfl ?_
            exact ⟨_, rfl, (h7.drop.drop.drop.drop.drop.drop).nilNode⟩
          · have hr3 := (cutB_size hc).2
            have HCV := Lib.hid hc
            clear hc
            have b1 : w2.cell? ⟨g4, 2, none⟩ = some (.slice Av vs.length cv) := h.cell 2
            have h := (show Own E _ (Hp.strs (.slice Av vs.length cv) vs :: Hp.blk g4 NT #[.bool true, .slice A1 (ks.length + 1) q1, .slice Av vs.length cv, .slice A6 p.links.length q6] :: Hp.strs (.slice A1 (ks.length + 1) q1) (ks ++ [x]) :: Hp.ints (.slice A6 p.links.length q6) p.links :: Hp.blk (g + 1) NT #[.bool false, .slice none 0 0, .slice none 0 0, .slice none 0 0] :: Hp.blk g PT #[VI p.kind, VI p.number, VI p.birth, .slice A p.links.length c, .string p.body] :: Hp.ro S :: L) from h.ac (by simp only [Hp.all] <;> ac_rfl))
            obtain ⟨v2, w2x, hap, h⟩ := lst_append_new (P := Tryz.prog) (t := LST) (ty := LST) lst_u st_info (by rfl) h #[.string y] 1 rfl (VS_one [y]) (by unfold maxLen; rw [List.length_map]; omega) (by rw [List.length_map]; omega)
            have e9 : vs.map VS ++ (#[Value.string y] : Array Value).toList = (vs ++ [y]).map VS := by simp
            rw [e9] at h
            clear e9
            obtain ⟨A2, q2, rfl, -⟩ := h.lstSlice
            have l9 : ((vs ++ [y]).map VS).length = vs.length + 1 := by simp
            rw [l9] at h hap
            clear l9
            have d1 := h.f1.cell 2
            have d2 := h.f1.frozen 2
            have h : Own E _ (Hp.blk g4 NT #[.bool true, .slice A1 (ks.length + 1) q1, .slice A2 (vs.length + 1) q2, .slice A6 p.links.length q6] :: Hp.strs (.slice A2 (vs.length + 1) q2) (vs ++ [y]) :: Hp.strs (.slice A1 (ks.length + 1) q1) (ks ++ [x]) :: Hp.ints (.slice A6 p.links.length q6) p.links :: Hp.blk (g + 1) NT #[.bool false, .slice none 0 0, .slice none 0 0, .slice none 0 0] :: Hp.blk g PT #[VI p.kind, VI p.number, VI p.birth, .slice A p.links.length c, .string p.body] :: Hp.ro S :: L) := h.f1.set 2 (.slice A2 (vs.length + 1) q2)
            have H := Lib.hid h
            repeat clear h
            go_wp2_with (with_reducible refine at_slot (k := some 81) ?_; refine wpList_append_run (o := ⟨some 81, _, _, _, _, _⟩) hap rfl rfl rfl rfl ?_; clear hap)
            clear b1 d1 d2
            have hnx := pRun_leaf HPR.out HCU.out HCV.out
            have HNX := Lib.hid hnx
            clear hnx
            go_roundw
            case rel => exact ⟨k + 1, _, _, _, _, _, by omega, rfl, by go_num, HNX.out, H.out.ac (by simp only [Hp.all] <;> ac_rfl)⟩
            case measure => simp [intOf]; omega
      · obtain rfl : N = k := by omega
        have hlti : ¬ (N : Int) < N := by omega
        have hl := HLAST.out
        rw [HPR.out] at hl
        have hbd := HBO.out ks vs r hl
        have hrd := HREAD.out
        rw [hl] at hrd
        dsimp only at hrd
        have h := Own.toNode (n := ⟨true, ks, vs, p.links⟩) (show Own E wr (Hp.strs (.slice Ak ks.length ck) ks :: Hp.strs (.slice Av vs.length cv) vs :: Hp.ints (.slice A6 p.links.length q6) p.links :: Hp.ro S :: Hp.blk g4 NT #[.bool true, .slice Ak ks.length ck, .slice Av vs.length cv, .slice A6 p.links.length q6] :: Hp.blk (g + 1) NT #[.bool false, .slice none 0 0, .slice none 0 0, .slice none 0 0] :: Hp.blk g PT #[VI p.kind, VI p.number, VI p.birth, .slice A p.links.length c, .string p.body] :: L) from hw.ac (by simp only [Hp.all] <;> ac_rfl))
        obtain ⟨a, hA, hd, h⟩ := h.lend
        obtain ⟨qq, e1, hin⟩ := node_in hA
        have hbulk : (⟨true, ks, vs, p.links⟩ : Nd).bulk ≤ 4294967296 := by
          have hfac := pRun_facts true s0 0 N
          rw [HPR.out] at hfac
          obtain ⟨f1, f2, f3, f4, -⟩ := hfac
          dsimp only at f1 f2 f3 f4
          have f2 : vs.length ≤ N := by rw [f2]; split <;> omega
          show sumSz ks + sumSz vs + ks.length + vs.length + p.links.length ≤ 4294967296
          omega
        have kw := fun w M hw => xwrong_any (E := E) (S := Ph.join a S) (L := M) qq ⟨true, ks, vs, p.links⟩ w hbulk (hin.sub Ph.join_l) hw
        rw [← e1] at kw
        have KW := Lib.hid kw
        have HA := Lib.hid (And.intro hA hd)
        obtain ⟨u0, u1, u2, u3⟩ : wr.cell? ⟨g4, 0, none⟩ = some (.bool true) ∧ wr.cell? ⟨g4, 1, none⟩ = some (.slice Ak ks.length ck) ∧ wr.cell? ⟨g4, 2, none⟩ = some (.slice Av vs.length cv) ∧ wr.cell? ⟨g4, 3, none⟩ = some (.slice A6 p.links.length q6) := ⟨h.f1.cell 0, h.f1.cell 1, h.f1.cell 2, h.f1.cell 3⟩
        have H := Lib.hid h
        clear hw h hA hd hin e1 kw hlt hk hl
        go_wp2_with fail
        with_reducible refine (KW.out _ _ H.out).mono ?_
        clear H KW u0 u1 u2 u3 p4
        rintro e w2 ⟨rfl, h⟩
        have h := Own.give HA.out.1 HA.out.2 h
        clear HA
        obtain ⟨wn, hwn⟩ : ∃ x, x = (⟨true, ks, vs, p.links⟩ : Nd).wrong := ⟨_, rfl⟩
        rw [← hwn] at hbd ⊢
        have HBD := Lib.hid hbd
        have HRD := Lib.hid hrd
        clear hbd hrd hwn
        have h : Own E _ (Hp.blk (g + 1) NT #[.bool false, .slice none 0 0, .slice none 0 0, .slice none 0 0] :: Hp.blk g PT #[VI p.kind, VI p.number, VI p.birth, .slice A p.links.length c, .string p.body] :: Hp.blk g4 NT #[.bool true, .slice Ak ks.length ck, .slice Av vs.length cv, .slice A6 p.links.length q6] :: Hp.node (.agg #[.bool true, .slice Ak ks.length ck, .slice Av vs.length cv, .slice A6 p.links.length q6]) ⟨true, ks, vs, p.links⟩ :: Hp.ro S :: L) := h.ac (by simp only [Hp.all] <;> ac_rfl)
        by_cases hgd : r.size ≠ 0 ∨ wn ≠ 0
        · have hbt : p.bad = true := by rw [HBD.out]; exact decide_eq_true hgd
          obtain ⟨rfl, rfl⟩ := HBAD.out hbt
          have H := Lib.hid (show Own E _ (Hp.blk (g + 1) NT #[.bool false, .slice none 0 0, .slice none 0 0, .slice none 0 0] :: Hp.blk g PT #[VI p.kind, VI p.number, VI p.birth, .slice A p.links.length c, .string p.body] :: Hp.blk g4 NT #[.bool true, .slice Ak ks.length ck, .slice Av vs.length cv, .slice A6 p.links.length q6] :: Hp.node (.agg #[.bool true, .slice Ak ks.length ck, .slice Av vs.length cv, .slice A6 p.links.length q6]) ⟨true, ks, vs, p.links⟩ :: Hp.ro S :: L) from h)
          clear h hbt HBAD HGOOD HBE HBO HREAD HLAST HBD HRD
          by_cases hr0 : r.size = 0
          · have hwz : ¬ wn = 0 := hgd.resolve_left (fun h => h hr0)
            have hre : r.toList.isEmpty = true := by
              rw [ByteArray.toList_eq]
              have : r.data.toList.length = r.size := rfl
              exact List.isEmpty_iff.2 (List.eq_nil_of_length_eq_zero (by omega))
            clear hgd hr0
            go_wp2_with (with_reducible refine at_slot (k := none) ?_; refine wpList_store_whole (o := ⟨none, _, _, _, _, _⟩) (cs := [.bool false, .slice none 0 0, .slice none 0 0, .slice none 0 0]) (vs := [.bool false, .slice none 0 0, .slice none 0 0, .slice none 0 0]) H.out rfl (ND_all1 _ _ _ _ rfl rfl rfl) (by kernel_rfl) rfl rfl rfl rfl ?_; intro w7 h7)
            refine bodyPost_ret (results_ct rfl rfl h7 hnt hnr (by kernel_rfl)) rfl ?_
            exact ⟨_, rfl, (h7.drop.drop.drop.drop).nilNode⟩
          · have hre := text_some hr0
            clear hgd hr0
            go_wp2_with (with_reducible refine at_slot (k := none) ?_; refine wpList_store_whole (o := ⟨none, _, _, _, _, _⟩) (cs := [.bool false, .slice none 0 0, .slice none 0 0, .slice none 0 0]) (vs := [.bool false, .slice none 0 0, .slice none 0 0, .slice none 0 0]) H.out rfl (ND_all1 _ _ _ _ rfl rfl rfl) (by kernel_rfl) rfl rfl rfl rfl ?_; intro w7 h7)
            refine bodyPost_ret (results_ct rfl rfl h7 hnt hnr (by kernel_rfl)) rfl ?_
            exact ⟨_, rfl, (h7.drop.drop.drop.drop).nilNode⟩
        · have hbf : p.bad = false := by rw [HBD.out]; exact decide_eq_false hgd
          obtain ⟨rfl, hpn⟩ := HGOOD.out hbf
          rw [HRD.out] at hpn
          subst hpn
          obtain rfl : wn = 0 := Decidable.byContradiction fun hx => hgd (.inr hx)
          have hr0 : r.size = 0 := Decidable.byContradiction fun hx => hgd (.inl hx)
          have hre : r.toList.isEmpty = true := by
            rw [ByteArray.toList_eq]
            have : r.data.toList.length = r.size := rfl
            exact List.isEmpty_iff.2 (List.eq_nil_of_length_eq_zero (by omega))
          obtain ⟨u0, u1, u2, u3⟩ : w2.cell? ⟨g4, 0, none⟩ = some (.bool true) ∧ w2.cell? ⟨g4, 1, none⟩ = some (.slice Ak ks.length ck) ∧ w2.cell? ⟨g4, 2, none⟩ = some (.slice Av vs.length cv) ∧ w2.cell? ⟨g4, 3, none⟩ = some (.slice A6 p.links.length q6) := ⟨h.f2.cell 0, h.f2.cell 1, h.f2.cell 2, h.f2.cell 3⟩
          have H := Lib.hid h
          clear h hbf hgd HBAD HGOOD HBE HBO HREAD HLAST HBD HRD hr0
          go_wp2_with (with_reducible refine at_slot (k := none) ?_; refine wpList_store_whole (o := ⟨none, _, _, _, _, _⟩) (cs := [.bool false, .slice none 0 0, .slice none 0 0, .slice none 0 0]) (vs := [.bool true, .slice Ak ks.length ck, .slice Av vs.length cv, .slice A6 p.links.length q6]) H.out rfl (ND_all1 _ _ _ _ rfl rfl rfl) (by kernel_rfl) rfl rfl rfl rfl ?_; intro w7 h7)
          refine bodyPost_ret (results_ct rfl rfl h7 hnt hnr (by kernel_rfl)) rfl ?_
          exact ⟨_, rfl, h7.drop.drop.drop⟩
  | false =>
    go_enter Tryz.func33, Tryz.ntmps33
    go_upto_region 4 with fail
    have h1 := H.out.alloc (.cells #[.bool false, .slice none 0 0, .slice none 0 0, .slice none 0 0] NT)
    rw [alloc_size, alloc_size] at h1
    rw [← hg] at h1 ⊢
    clear hg
    obtain ⟨g4, hg4⟩ : ∃ x, x = g + 1 + 1 := ⟨_, rfl⟩
    rw [← hg4] at h1 ⊢
    have h : Own E _ (Hp.blk g4 NT #[.bool false, .slice none 0 0, .slice none 0 0, .slice none 0 0] :: Hp.blk (g + 1) NT #[.bool false, .slice none 0 0, .slice none 0 0, .slice none 0 0] :: Hp.blk g PT #[VI p.kind, VI p.number, VI p.birth, .slice A p.links.length c, .string p.body] :: Hp.ro S :: L) := h1
    generalize World.alloc _ _ = wa at h ⊢
    clear h1 hg4 H z1 z2 z3 z4
    have p3 : wa.cell? ⟨g, 3, none⟩ = some (.slice A p.links.length c) := h.f2.cell 3
    have p4 : wa.cell? ⟨g, 4, none⟩ = some (.string p.body) := h.f2.cell 4
    have c3 := h.cell 3
    have hrd := hr.rdC h.f3
    obtain ⟨v6, wi, hap, h4⟩ := lst_append (P := Tryz.prog) (t := LIT) (ty := LIT) lit_u it_info (by rfl) (h.emptyLst IT none) A p.links.length c (p.links.map VI) (by rw [List.length_map]) hrd (VI_one _) (by unfold maxLen; simp; omega) (by simp; omega)
    rw [List.nil_append] at h4
    obtain ⟨A6, q6, rfl, -⟩ := h4.lstSlice
    rw [List.length_map] at h4 hap
    have x3 := h4.f1.cell 3
    have y3 := h4.f1.frozen 3
    have h5 := h4.f1.set 3 (.slice A6 p.links.length q6)
    have p5 : (wi.setCell ⟨g4, 3, none⟩ (.slice A6 p.links.length q6)).cell? ⟨g, 4, none⟩ = some (.string p.body) := h5.f3.cell 4
    have H := Lib.hid (show Own E _ (Hp.blk g4 NT #[.bool false, .slice none 0 0, .slice none 0 0, .slice A6 p.links.length q6] :: Hp.ints (.slice A6 p.links.length q6) p.links :: Hp.blk (g + 1) NT #[.bool false, .slice none 0 0, .slice none 0 0, .slice none 0 0] :: Hp.blk g PT #[VI p.kind, VI p.number, VI p.birth, .slice A p.links.length c, .string p.body] :: Hp.ro S :: L) from h5)
    clear hrd h h4 h5
    have hsr : p.body.extract 1 p.body.size = s0 := HS0.out.symm
    go_wp2_with (with_reducible refine at_slot (k := some 36) ?_; refine wpList_append_run (o := ⟨some 36, _, _, _, _, _⟩) hap rfl rfl rfl rfl ?_; clear hap)
    clear p3 p4 c3 x3 y3 p5
    generalize World.setCell _ _ _ = wb at H ⊢
    go_loopw [5, 6] (fun rv i wr => ∃ (k : Nat) (ks vs : List ByteArray) (r : ByteArray) (kv vv : Value), k ≤ N ∧ rv = .string r ∧ i = .int .i64 k ∧ pRun false s0 0 k = (ks, vs, r, 0) ∧ Own E wr (Hp.blk g4 NT #[.bool false, kv, vv, .slice A6 p.links.length q6] :: Hp.strs kv ks :: Hp.strs vv vs :: Hp.ints (.slice A6 p.links.length q6) p.links :: Hp.blk (g + 1) NT #[.bool false, .slice none 0 0, .slice none 0 0, .slice none 0 0] :: Hp.blk g PT #[VI p.kind, VI p.number, VI p.birth, .slice A p.links.length c, .string p.body] :: Hp.ro S :: L)) (fun _ i _ => N - (intOf i).toNat)
    case atStart => exact ⟨0, [], [], s0, .slice none 0 0, .slice none 0 0, by omega, rfl, rfl, rfl, ((H.out.emptyLst ST none).emptyLst ST none).f2⟩
    case round =>
      obtain ⟨k, ks, vs, r, kv, vv, hk, rfl, rfl, hpr, hw⟩ := hrel
      have hfac := pRun_facts false s0 0 k
      rw [hpr] at hfac
      obtain ⟨f1, f2, -, -, f5⟩ := hfac
      dsimp only at f1 f2 f5
      have hrb : r.size ≤ 1000000000000 := by omega
      have hkl : ks.length ≤ 255 := by omega
      have hvl : vs.length ≤ 255 := by simp at f2; rw [f2]; exact Nat.zero_le _
      clear f1 f2 f5
      have HPR := Lib.hid hpr
      clear H hpr
      obtain ⟨Ak, ck, rfl, -⟩ := hw.f1.lstSlice
      obtain ⟨Av, cv, rfl, -⟩ := hw.f2.lstSlice
      rw [List.length_map, List.length_map] at hw
      have p4 : wr.cell? ⟨g, 4, none⟩ = some (.string p.body) := hw.f5.cell 4
      by_cases hlt : k < N
      · have hlti : (k : Int) < N := by omega
        have H := Lib.hid hw
        clear hw
        go_wp2_with fail
        refine (xcutg_any r _ hrb H.out).mono ?_
        clear H p4
        rintro e w1 ⟨(⟨hc, rfl⟩ | ⟨x, r2, hc, rfl⟩), h⟩
        · have hbd := HBE.out (by rw [HLAST.out]; exact pRun_err hlt (pRun_bad1 HPR.out hc))
          obtain ⟨rfl, rfl⟩ := HBAD.out hbd
          have H := Lib.hid (show Own E _ (Hp.blk (g + 1) NT #[.bool false, .slice none 0 0, .slice none 0 0, .slice none 0 0] :: Hp.blk g PT #[VI p.kind, VI p.number, VI p.birth, .slice A p.links.length c, .string p.body] :: Hp.blk g4 NT #[.bool false, .slice Ak ks.length ck, .slice Av vs.length cv, .slice A6 p.links.length q6] :: Hp.strs (.slice Ak ks.length ck) ks :: Hp.strs (.slice Av vs.length cv) vs :: Hp.ints (.slice A6 p.links.length q6) p.links :: Hp.ro S :: L) from h.ac (by simp only [Hp.all] <;> ac_rfl))
          clear h hbd hc HBAD HGOOD HBE HBO HREAD HLAST
          go_wp2_with (with_reducible refine at_slot (k := none) ?_; refine wpList_store_whole (o := ⟨none, _, _, _, _, _⟩) (cs := [.bool false, .slice none 0 0, .slice none 0 0, .slice none 0 0]) (vs := [.bool false, .slice none 0 0, .slice none 0 0, .slice none 0 0]) H.out rfl (ND_all1 _ _ _ _ rfl rfl rfl) (by kernel_rfl) rfl rfl rfl rfl ?_; intro w7 h7)
          refine bodyPost_ret (results_ct rfl rfl h7 hnt hnr (by kernel_rfl)) rfl ?_
          exact ⟨_, rfl, (h7.drop.drop.drop.drop.drop.drop).nilNode⟩
        · have hr2 := (cutB_size hc).2
          have HCU := Lib.hid hc
          clear hc
          have b1 : w1.cell? ⟨g4, 1, none⟩ = some (.slice Ak ks.length ck) := h.cell 1
          have h := (show Own E _ (Hp.strs (.slice Ak ks.length ck) ks :: Hp.blk g4 NT #[.bool false, .slice Ak ks.length ck, .slice Av vs.length cv, .slice A6 p.links.length q6] :: Hp.strs (.slice Av vs.length cv) vs :: Hp.ints (.slice A6 p.links.length q6) p.links :: Hp.blk (g + 1) NT #[.bool false, .slice none 0 0, .slice none 0 0, .slice none 0 0] :: Hp.blk g PT #[VI p.kind, VI p.number, VI p.birth, .slice A p.links.length c, .string p.body] :: Hp.ro S :: L) from h.ac (by simp only [Hp.all] <;> ac_rfl))
          obtain ⟨v1, w1x, hap, h⟩ := lst_append_new (P := Tryz.prog) (t := LST) (ty := LST) lst_u st_info (by rfl) h #[.string x] 1 rfl (VS_one [x]) (by unfold maxLen; rw [List.length_map]; omega) (by rw [List.length_map]; omega)
          have e9 : ks.map VS ++ (#[Value.string x] : Array Value).toList = (ks ++ [x]).map VS := by simp
          rw [e9] at h
          clear e9
          obtain ⟨A1, q1, rfl, -⟩ := h.lstSlice
          have l9 : ((ks ++ [x]).map VS).length = ks.length + 1 := by simp
          rw [l9] at h hap
          clear l9
          have d1 := h.f1.cell 1
          have d2 := h.f1.frozen 1
          have h : Own E _ (Hp.blk g4 NT #[.bool false, .slice A1 (ks.length + 1) q1, .slice Av vs.length cv, .slice A6 p.links.length q6] :: Hp.strs (.slice A1 (ks.length + 1) q1) (ks ++ [x]) :: Hp.strs (.slice Av vs.length cv) vs :: Hp.ints (.slice A6 p.links.length q6) p.links :: Hp.blk (g + 1) NT #[.bool false, .slice none 0 0, .slice none 0 0, .slice none 0 0] :: Hp.blk g PT #[VI p.kind, VI p.number, VI p.birth, .slice A p.links.length c, .string p.body] :: Hp.ro S :: L) := h.f1.set 1 (.slice A1 (ks.length + 1) q1)
          have d3 := h.cell 0
          have H := Lib.hid h
          repeat clear h
          go_wp2_with (with_reducible refine at_slot (k := some 63) ?_; refine wpList_append_run (o := ⟨some 63, _, _, _, _, _⟩) hap rfl rfl rfl rfl ?_; clear hap)
          clear b1 d1 d2 d3
          have hnx := pRun_inner HPR.out HCU.out
          have HNX := Lib.hid hnx
          clear hnx
          go_roundw
          case rel => exact ⟨k + 1, _, _, _, _, _, by omega, rfl, by go_num, HNX.out, H.out⟩
          case measure => simp [intOf]; omega
      · obtain rfl : N = k := by omega
        have hlti : ¬ (N : Int) < N := by omega
        have hl := HLAST.out
        rw [HPR.out] at hl
        have hbd := HBO.out ks vs r hl
        have hrd := HREAD.out
        rw [hl] at hrd
        dsimp only at hrd
        have h := Own.toNode (n := ⟨false, ks, vs, p.links⟩) (show Own E wr (Hp.strs (.slice Ak ks.length ck) ks :: Hp.strs (.slice Av vs.length cv) vs :: Hp.ints (.slice A6 p.links.length q6) p.links :: Hp.ro S :: Hp.blk g4 NT #[.bool false, .slice Ak ks.length ck, .slice Av vs.length cv, .slice A6 p.links.length q6] :: Hp.blk (g + 1) NT #[.bool false, .slice none 0 0, .slice none 0 0, .slice none 0 0] :: Hp.blk g PT #[VI p.kind, VI p.number, VI p.birth, .slice A p.links.length c, .string p.body] :: L) from hw.ac (by simp only [Hp.all] <;> ac_rfl))
        obtain ⟨a, hA, hd, h⟩ := h.lend
        obtain ⟨qq, e1, hin⟩ := node_in hA
        have hbulk : (⟨false, ks, vs, p.links⟩ : Nd).bulk ≤ 4294967296 := by
          have hfac := pRun_facts false s0 0 N
          rw [HPR.out] at hfac
          obtain ⟨f1, f2, f3, f4, -⟩ := hfac
          dsimp only at f1 f2 f3 f4
          have f2 : vs.length ≤ N := by rw [f2]; split <;> omega
          show sumSz ks + sumSz vs + ks.length + vs.length + p.links.length ≤ 4294967296
          omega
        have kw := fun w M hw => xwrong_any (E := E) (S := Ph.join a S) (L := M) qq ⟨false, ks, vs, p.links⟩ w hbulk (hin.sub Ph.join_l) hw
        rw [← e1] at kw
        have KW := Lib.hid kw
        have HA := Lib.hid (And.intro hA hd)
        obtain ⟨u0, u1, u2, u3⟩ : wr.cell? ⟨g4, 0, none⟩ = some (.bool false) ∧ wr.cell? ⟨g4, 1, none⟩ = some (.slice Ak ks.length ck) ∧ wr.cell? ⟨g4, 2, none⟩ = some (.slice Av vs.length cv) ∧ wr.cell? ⟨g4, 3, none⟩ = some (.slice A6 p.links.length q6) := ⟨h.f1.cell 0, h.f1.cell 1, h.f1.cell 2, h.f1.cell 3⟩
        have H := Lib.hid h
        clear hw h hA hd hin e1 kw hlt hk hl
        go_wp2_with fail
        with_reducible refine (KW.out _ _ H.out).mono ?_
        clear H KW u0 u1 u2 u3 p4
        rintro e w2 ⟨rfl, h⟩
        have h := Own.give HA.out.1 HA.out.2 h
        clear HA
        obtain ⟨wn, hwn⟩ : ∃ x, x = (⟨false, ks, vs, p.links⟩ : Nd).wrong := ⟨_, rfl⟩
        rw [← hwn] at hbd ⊢
        have HBD := Lib.hid hbd
        have HRD := Lib.hid hrd
        clear hbd hrd hwn
        have h : Own E _ (Hp.blk (g + 1) NT #[.bool false, .slice none 0 0, .slice none 0 0, .slice none 0 0] :: Hp.blk g PT #[VI p.kind, VI p.number, VI p.birth, .slice A p.links.length c, .string p.body] :: Hp.blk g4 NT #[.bool false, .slice Ak ks.length ck, .slice Av vs.length cv, .slice A6 p.links.length q6] :: Hp.node (.agg #[.bool false, .slice Ak ks.length ck, .slice Av vs.length cv, .slice A6 p.links.length q6]) ⟨false, ks, vs, p.links⟩ :: Hp.ro S :: L) := h.ac (by simp only [Hp.all] <;> ac_rfl)
        by_cases hgd : r.size ≠ 0 ∨ wn ≠ 0
        · have hbt : p.bad = true := by rw [HBD.out]; exact decide_eq_true hgd
          obtain ⟨rfl, rfl⟩ := HBAD.out hbt
          have H := Lib.hid (show Own E _ (Hp.blk (g + 1) NT #[.bool false, .slice none 0 0, .slice none 0 0, .slice none 0 0] :: Hp.blk g PT #[VI p.kind, VI p.number, VI p.birth, .slice A p.links.length c, .string p.body] :: Hp.blk g4 NT #[.bool false, .slice Ak ks.length ck, .slice Av vs.length cv, .slice A6 p.links.length q6] :: Hp.node (.agg #[.bool false, .slice Ak ks.length ck, .slice Av vs.length cv, .slice A6 p.links.length q6]) ⟨false, ks, vs, p.links⟩ :: Hp.ro S :: L) from h)
          clear h hbt HBAD HGOOD HBE HBO HREAD HLAST HBD HRD
          by_cases hr0 : r.size = 0
          · have hwz : ¬ wn = 0 := hgd.resolve_left (fun h => h hr0)
            have hre : r.toList.isEmpty = true := by
              rw [ByteArray.toList_eq]
              have : r.data.toList.length = r.size := rfl
              exact List.isEmpty_iff.2 (List.eq_nil_of_length_eq_zero (by omega))
            clear hgd hr0
            go_wp2_with (with_reducible refine at_slot (k := none) ?_; refine wpList_store_whole (o := ⟨none, _, _, _, _, _⟩) (cs := [.bool false, .slice none 0 0, .slice none 0 0, .slice none 0 0]) (vs := [.bool false, .slice none 0 0, .slice none 0 0, .slice none 0 0]) H.out rfl (ND_all1 _ _ _ _ rfl rfl rfl) (by kernel_rfl) rfl rfl rfl rfl ?_; intro w7 h7)
            refine bodyPost_ret (results_ct rfl rfl h7 hnt hnr (by kernel_rfl)) rfl ?_
            exact ⟨_, rfl, (h7.drop.drop.drop.drop).nilNode⟩
          · have hre := text_some hr0
            clear hgd hr0
            go_wp2_with (with_reducible refine at_slot (k := none) ?_; refine wpList_store_whole (o := ⟨none, _, _, _, _, _⟩) (cs := [.bool false, .slice none 0 0, .slice none 0 0, .slice none 0 0]) (vs := [.bool false, .slice none 0 0, .slice none 0 0, .slice none 0 0]) H.out rfl (ND_all1 _ _ _ _ rfl rfl rfl) (by kernel_rfl) rfl rfl rfl rfl ?_; intro w7 h7)
            refine bodyPost_ret (results_ct rfl rfl h7 hnt hnr (by kernel_rfl)) rfl ?_
            exact ⟨_, rfl, (h7.drop.drop.drop.drop).nilNode⟩
        · have hbf : p.bad = false := by rw [HBD.out]; exact decide_eq_false hgd
          obtain ⟨rfl, hpn⟩ := HGOOD.out hbf
          rw [HRD.out] at hpn
          subst hpn
          obtain rfl : wn = 0 := Decidable.byContradiction fun hx => hgd (.inr hx)
          have hr0 : r.size = 0 := Decidable.byContradiction fun hx => hgd (.inl hx)
          have hre : r.toList.isEmpty = true := by
            rw [ByteArray.toList_eq]
            have : r.data.toList.length = r.size := rfl
            exact List.isEmpty_iff.2 (List.eq_nil_of_length_eq_zero (by omega))
          obtain ⟨u0, u1, u2, u3⟩ : w2.cell? ⟨g4, 0, none⟩ = some (.bool false) ∧ w2.cell? ⟨g4, 1, none⟩ = some (.slice Ak ks.length ck) ∧ w2.cell? ⟨g4, 2, none⟩ = some (.slice Av vs.length cv) ∧ w2.cell? ⟨g4, 3, none⟩ = some (.slice A6 p.links.length q6) := ⟨h.f2.cell 0, h.f2.cell 1, h.f2.cell 2, h.f2.cell 3⟩
          have H := Lib.hid h
          clear h hbf hgd HBAD HGOOD HBE HBO HREAD HLAST HBD HRD hr0
          go_wp2_with (with_reducible refine at_slot (k := none) ?_; refine wpList_store_whole (o := ⟨none, _, _, _, _, _⟩) (cs := [.bool false, .slice none 0 0, .slice none 0 0, .slice none 0 0]) (vs := [.bool false, .slice Ak ks.length ck, .slice Av vs.length cv, .slice A6 p.links.length q6]) H.out rfl (ND_all1 _ _ _ _ rfl rfl rfl) (by kernel_rfl) rfl rfl rfl rfl ?_; intro w7 h7)
          refine bodyPost_ret (results_ct rfl rfl h7 hnt hnr (by kernel_rfl)) rfl ?_
          exact ⟨_, rfl, h7.drop.drop.drop⟩

end
end Go.Proofs.YtbclmmneiphcaaaGreatDoor
