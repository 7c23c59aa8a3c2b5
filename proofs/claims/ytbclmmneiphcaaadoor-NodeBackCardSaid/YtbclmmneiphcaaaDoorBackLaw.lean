/- NodeBack in plain Lean: a right node comes back from its page; a page that is read is laid down as it was. -/
import Derived.Test.YtbclmmneiphcaaaDoorParse
import Derived.Test.YtbclmmneiphcaaaDoorMade0
namespace Go.Proofs.YtbclmmneiphcaaaDoor
open Go.RowKit
theorem mkb (s : ByteArray) : (⟨s.data.toList.toArray⟩ : ByteArray) = s := rfl
theorem mkb_inj {l : List UInt8} {s : ByteArray} (h : s.data.toList = l) : s = ⟨l.toArray⟩ := by subst h; rfl
theorem numL_one (k : Nat) (hk : k ≤ 255) : numL (byN 1 k) = k := by
  show 0 * 256 + (UInt8.ofNat (k / 256 ^ 0)).toNat = k
  rw [UInt8.toNat_ofNat', Nat.pow_zero, Nat.div_one]; omega
theorem byN_one {l : List UInt8} (h : l.length = 1) : byN 1 (numL l) = l := by
  match l, h with
  | [c], _ =>
    have e : numL [c] = c.toNat := by show 0 * 256 + c.toNat = _; omega
    rw [e]
    show [UInt8.ofNat (c.toNat / 256 ^ 0)] = [c]
    rw [Nat.pow_zero, Nat.div_one, UInt8.ofNat_toNat]
theorem ahead255 : ahead (255 : Int).toNat = 1 := by decide
theorem textB_len (t : ByteArray) : (textB t).length = 1 + t.size := by
  unfold textB
  rw [List.length_append, byN_len]; rfl
theorem text_back (t : ByteArray) (R : List UInt8) (ht : t.size ≤ 255) : rText ⟨(textB t ++ R).toArray⟩ 0 255 = (t, ⟨R.toArray⟩, 0) := by
  have hd : (⟨(textB t ++ R).toArray⟩ : ByteArray).data.toList = textB t ++ R := rfl
  have hz : (⟨(textB t ++ R).toArray⟩ : ByteArray).size = 1 + t.size + R.length := by
    show (textB t ++ R).toArray.size = _
    rw [List.size_toArray, List.length_append, textB_len]
  have ht1 : (textB t ++ R).take 1 = byN 1 t.size := by
    unfold textB
    rw [List.append_assoc]
    exact List.take_left' (byN_len _ _)
  unfold rText
  rw [ahead255, hd, ht1, numL_one _ ht, hz, if_neg (by omega), if_neg (by omega), if_neg (by omega), if_neg (show ¬ (255 : Int).toNat < t.size by show ¬ 255 < _; omega), if_neg (by omega)]
  refine Prod.ext ?_ (Prod.ext ?_ rfl)
  · refine (mkb_inj (l := t.data.toList) ?_).trans (mkb t)
    rw [rest_data, front_data, hd, List.take_left' (textB_len t)]
    unfold textB
    exact List.drop_left' (byN_len _ _)
  · refine mkb_inj ?_
    rw [rest_data, hd]
    exact List.drop_left' (textB_len t)
theorem text_again {s t r : ByteArray} (h : rText s 0 255 = (t, r, 0)) : s.data.toList = textB t ++ r.data.toList ∧ t.size ≤ 255 := by
  have hl : s.data.toList.length = s.size := rfl
  unfold rText at h
  rw [ahead255, if_neg (by omega), if_neg (by omega)] at h
  by_cases h1 : s.size < 1
  · rw [if_pos h1] at h; cases (Prod.mk.inj (Prod.mk.inj h).2).2
  rw [if_neg h1] at h
  by_cases h2 : (255 : Int).toNat < numL (s.data.toList.take 1)
  · rw [if_pos h2] at h; cases (Prod.mk.inj (Prod.mk.inj h).2).2
  rw [if_neg h2] at h
  by_cases h3 : s.size < 1 + numL (s.data.toList.take 1)
  · rw [if_pos h3] at h; cases (Prod.mk.inj (Prod.mk.inj h).2).2
  rw [if_neg h3] at h
  have h2' : ¬ 255 < numL (s.data.toList.take 1) := h2
  obtain ⟨m, hm⟩ : ∃ m, m = numL (s.data.toList.take 1) := ⟨_, rfl⟩
  have hb := byN_one (l := s.data.toList.take 1) (by rw [List.length_take]; omega)
  rw [← hm] at h h2' h3 hb
  obtain ⟨e1, e2⟩ := Prod.mk.inj h
  obtain ⟨e2, -⟩ := Prod.mk.inj e2
  have ht : t.data.toList = (s.data.toList.take (1 + m)).drop 1 := by rw [← e1, rest_data, front_data]
  have hts : t.size = m := by
    show t.data.toList.length = m
    rw [ht, List.length_drop, List.length_take, hl]; omega
  have hr : r.data.toList = s.data.toList.drop (1 + m) := by rw [← e2, rest_data]
  refine ⟨?_, by omega⟩
  unfold textB
  rw [hts, hb, ht, hr]
  have e4 : (s.data.toList.take (1 + m)).take 1 = s.data.toList.take 1 := by rw [List.take_take, Nat.min_eq_left (by omega)]
  rw [← e4, List.take_append_drop, List.take_append_drop]
theorem rText_wrong {s : ByteArray} {e : Int} (he : e ≠ 0) : rText s e 255 = (⟨#[]⟩, s, e) := if_pos he
/- FORWARD -/
def Nd.tailE (n : Nd) (k m : Nat) : List UInt8 := (List.range' k m).flatMap n.ent
theorem tailE_succ (n : Nd) (k m : Nat) : n.tailE k (m + 1) = n.ent k ++ n.tailE (k + 1) m := by
  unfold Nd.tailE
  rw [List.range'_succ, List.flatMap_cons]
theorem ents_tail (n : Nd) : n.ents n.ks.length = byN 1 n.ks.length ++ n.tailE 0 n.ks.length := by
  unfold Nd.ents Nd.tailE
  rw [List.range_eq_range']
theorem run_back (n : Nd) (hk : ∀ s ∈ n.ks, s.size ≤ 255) (hv : n.leaf = true → n.vs.length = n.ks.length ∧ ∀ s ∈ n.vs, s.size ≤ 255) : ∀ k, k ≤ n.ks.length →
    pRun n.leaf ⟨(n.tailE 0 n.ks.length).toArray⟩ 0 k = (n.ks.take k, if n.leaf then n.vs.take k else [], ⟨(n.tailE k (n.ks.length - k)).toArray⟩, 0)
  | 0, _ => by
    show (([], [], _, 0) : PState) = _
    cases n.leaf <;> rfl
  | k + 1, hle => by
    have ih := run_back n hk hv k (by omega)
    show pStep n.leaf (pRun n.leaf _ 0 k) = _
    rw [ih]
    obtain ⟨x, hx⟩ : ∃ x, n.ks[k]? = some x := ⟨n.ks[k], List.getElem?_eq_getElem (by omega)⟩
    have hxs := hk x (List.mem_of_getElem? hx)
    have e1 : n.ks.length - k = (n.ks.length - (k + 1)) + 1 := by omega
    have e2 : n.ks.getD k ⟨#[]⟩ = x := by rw [List.getD_eq_getElem?_getD, hx]; rfl
    rw [e1, tailE_succ]
    unfold pStep Nd.ent
    rw [e2]
    cases hlf : n.leaf with
    | false =>
      simp only [Bool.false_eq_true, if_false, List.append_nil]
      rw [text_back x _ hxs, List.take_add_one, hx]
      rfl
    | true =>
      obtain ⟨hl, hvs⟩ := hv hlf
      obtain ⟨y, hy⟩ : ∃ y, n.vs[k]? = some y := ⟨n.vs[k], List.getElem?_eq_getElem (by omega)⟩
      have hys := hvs y (List.mem_of_getElem? hy)
      have e3 : n.vs.getD k ⟨#[]⟩ = y := by rw [List.getD_eq_getElem?_getD, hy]; rfl
      simp only [if_true]
      rw [e3, List.append_assoc, text_back x _ hxs]
      dsimp only
      rw [text_back y _ hys, List.take_add_one, hx, List.take_add_one, hy]
      rfl
/-- A right node comes back, whatever number and birth its page is given. -/
theorem back_read (n : Nd) (hw : n.wrong = 0) (hm : n.leaf = false → n.vs = []) (a b : Int) :
    (⟨n.page.kind, a, b, n.page.links, n.page.body⟩ : Pg).node = n ∧ (⟨n.page.kind, a, b, n.page.links, n.page.body⟩ : Pg).wrong = 0 := by
  obtain ⟨q1, q2, q3⟩ := Nd.right_len hw
  have hp : n.page = ⟨if n.leaf then 1 else 2, 0, 0, n.ls, ⟨(n.ents n.ks.length).toArray⟩⟩ := if_pos hw
  rw [hp]
  generalize hpe : (⟨if n.leaf then 1 else 2, a, b, n.ls, ⟨(n.ents n.ks.length).toArray⟩⟩ : Pg) = p
  have hlf : p.leaf = n.leaf := by
    rw [← hpe]
    unfold Pg.leaf
    cases n.leaf <;> rfl
  have hkd : p.kind = 1 ∨ p.kind = 2 := by
    rw [← hpe]
    cases n.leaf
    · exact .inr rfl
    · exact .inl rfl
  have hbd : p.body = ⟨(byN 1 n.ks.length ++ n.tailE 0 n.ks.length).toArray⟩ := by rw [← hpe, ← ents_tail]
  have hls : p.links = n.ls := by rw [← hpe]
  have hnum : rNum p.body 0 1 = ((n.ks.length : Int), ⟨(n.tailE 0 n.ks.length).toArray⟩, 0) := by
    have hd : p.body.data.toList = byN 1 n.ks.length ++ n.tailE 0 n.ks.length := by rw [hbd]
    have hz : p.body.size = 1 + (n.tailE 0 n.ks.length).length := by
      show p.body.data.toList.length = _
      rw [hd, List.length_append, byN_len]
    have e1 : p.body.data.toList.take (1 : Int).toNat = byN 1 n.ks.length := by
      rw [hd]; exact List.take_left' (byN_len _ _)
    unfold rNum
    rw [if_neg (by omega), if_neg (by omega), if_neg (by omega), e1, numL_one _ q1, if_neg (by omega)]
    refine Prod.ext rfl (Prod.ext ?_ rfl)
    refine mkb_inj ?_
    rw [rest_data, hd]
    exact List.drop_left' (byN_len _ _)
  have hlast : p.last = (n.ks, n.vs, ⟨#[]⟩, 0) := by
    unfold Pg.last
    rw [hnum]
    dsimp only
    rw [Int.toNat_natCast, hlf, run_back n q2 (fun h => ⟨(q3 h).1, (q3 h).2.2⟩) _ (Nat.le_refl _), Nat.sub_self, List.take_length]
    have e3 : (⟨(n.tailE n.ks.length 0).toArray⟩ : ByteArray) = ⟨#[]⟩ := rfl
    rw [e3]
    cases hl : n.leaf with
    | true => rw [if_pos rfl, List.take_of_length_le (by rw [(q3 hl).1]; omega)]
    | false => rw [if_neg (by decide), hm hl]
  have hread : p.read = n := by
    unfold Pg.read
    rw [hlast, hlf, hls]
  have hbad : p.bad = false := by
    unfold Pg.bad
    rw [decide_eq_false_iff_not, hread, hlast]
    have h9 : rDone (⟨#[]⟩ : ByteArray) 0 = 0 := rfl
    rintro (h | h | h)
    · exact h h9
    · omega
    · exact h hw
  unfold Pg.node Pg.wrong
  rw [hbad]
  exact ⟨hread, rfl⟩
/-- How long a right node's page is. -/
theorem tail_sum (n : Nd) (hv : n.leaf = true → n.vs.length = n.ks.length) : ∀ m k, k + m = n.ks.length →
    (n.tailE k m).length + (sumSz (n.ks.take k) + k + if n.leaf then sumSz (n.vs.take k) + k else 0) = sumSz n.ks + n.ks.length + if n.leaf then sumSz n.vs + n.vs.length else 0
  | 0, k, h => by
    have e0 : (n.tailE k 0).length = 0 := rfl
    obtain rfl : k = n.ks.length := by omega
    rw [e0, List.take_length]
    cases hl : n.leaf with
    | true => rw [if_pos rfl, if_pos rfl, List.take_of_length_le (by rw [hv hl]; omega), hv hl]; omega
    | false => simp
  | m + 1, k, h => by
    have ih := tail_sum n hv m (k + 1) (by omega)
    obtain ⟨x, hx⟩ : ∃ x, n.ks[k]? = some x := ⟨n.ks[k], List.getElem?_eq_getElem (by omega)⟩
    have e2 : n.ks.getD k ⟨#[]⟩ = x := by rw [List.getD_eq_getElem?_getD, hx]; rfl
    rw [sumSz_take n.ks k x hx] at ih
    rw [tailE_succ, List.length_append]
    unfold Nd.ent
    rw [e2, List.length_append, textB_len]
    cases hl : n.leaf with
    | true =>
      have hvl := hv hl
      obtain ⟨y, hy⟩ : ∃ y, n.vs[k]? = some y := ⟨n.vs[k], List.getElem?_eq_getElem (by omega)⟩
      have e3 : n.vs.getD k ⟨#[]⟩ = y := by rw [List.getD_eq_getElem?_getD, hy]; rfl
      rw [hl, if_pos rfl, if_pos rfl, sumSz_take n.vs k y hy] at ih
      rw [if_pos rfl, if_pos rfl, if_pos rfl, e3, textB_len]
      omega
    | false =>
      rw [hl, if_neg (by decide), if_neg (by decide)] at ih
      rw [if_neg (by decide), if_neg (by decide), if_neg (by decide), List.length_nil]
      omega
theorem page_size (n : Nd) (hw : n.wrong = 0) : n.page.body.size + 4 * n.page.links.length = 1 + n.size ∧ n.size ≤ 480 ∧ n.page.number = 0 ∧ n.page.birth = 0 := by
  obtain ⟨-, -, hs⟩ := Nd.wrong_zero hw
  obtain ⟨q1, q2, q3⟩ := Nd.right_len hw
  have hp : n.page = ⟨if n.leaf then 1 else 2, 0, 0, n.ls, ⟨(n.ents n.ks.length).toArray⟩⟩ := if_pos hw
  have h1 := tail_sum n (fun h => (q3 h).1) n.ks.length 0 (by omega)
  rw [hp]
  refine ⟨?_, hs, rfl, rfl⟩
  show (n.ents n.ks.length).toArray.size + 4 * n.ls.length = _
  rw [List.size_toArray, ents_tail, List.length_append, byN_len]
  unfold Nd.size
  cases hl : n.leaf with
  | true =>
    obtain ⟨h2, h3, -⟩ := q3 hl
    rw [hl, if_pos rfl, if_pos rfl] at h1
    rw [if_pos rfl, h3, h2, List.length_nil]
    simp only [List.take_zero, sumSz_nil] at h1
    omega
  | false =>
    rw [hl, if_neg (by decide), if_neg (by decide)] at h1
    rw [if_neg (by decide)]
    simp only [List.take_zero, sumSz_nil] at h1
    omega
/- BACKWARD -/
theorem flatMap_same {α β : Type} {f g : α → List β} : ∀ {l : List α}, (∀ i ∈ l, f i = g i) → l.flatMap f = l.flatMap g
  | [], _ => rfl
  | a :: l, h => by rw [List.flatMap_cons, List.flatMap_cons, h a (List.mem_cons_self ..), flatMap_same fun i hi => h i (List.mem_cons_of_mem _ hi)]
theorem pStep_wrong {leaf : Bool} {st : PState} (h : st.2.2.2 ≠ 0) : (pStep leaf st).2.2.2 ≠ 0 := by
  unfold pStep
  cases leaf
  · simp only [Bool.false_eq_true, if_false]; rw [rText_wrong h]; exact h
  · simp only [if_true]; rw [rText_wrong h, rText_wrong h]; exact h
theorem getD_app_left {l : List ByteArray} {x : ByteArray} {i : Nat} (h : i < l.length) : (l ++ [x]).getD i ⟨#[]⟩ = l.getD i ⟨#[]⟩ := by
  rw [List.getD_eq_getElem?_getD, List.getElem?_append_left h, List.getD_eq_getElem?_getD]
theorem getD_app_last {l : List ByteArray} {x : ByteArray} {i : Nat} (h : i = l.length) : (l ++ [x]).getD i ⟨#[]⟩ = x := by
  rw [List.getD_eq_getElem?_getD, List.getElem?_append_right (by omega), h, Nat.sub_self]; rfl
theorem run_again (leaf : Bool) (s : ByteArray) (ls : List Int) : ∀ k, (pRun leaf s 0 k).2.2.2 = 0 →
    s.data.toList = (List.range k).flatMap (Nd.ent ⟨leaf, (pRun leaf s 0 k).1, (pRun leaf s 0 k).2.1, ls⟩) ++ (pRun leaf s 0 k).2.2.1.data.toList
  | 0, _ => by simp [pRun]
  | k + 1, h => by
    obtain ⟨l1, l2, -⟩ := pRun_facts leaf s 0 k
    have h0 : (pRun leaf s 0 k).2.2.2 = 0 := by
      by_cases h1 : (pRun leaf s 0 k).2.2.2 = 0
      · exact h1
      · exact absurd h (pStep_wrong h1)
    have ih := run_again leaf s ls k h0
    have hst : pRun leaf s 0 (k + 1) = pStep leaf (pRun leaf s 0 k) := rfl
    rw [hst] at h ⊢
    generalize pRun leaf s 0 k = st at *
    obtain ⟨K, V, r, e⟩ := st
    dsimp only at h0 l1 l2 ih
    subst h0
    have hr : (rText r 0 255).2.2 = 0 := by
      by_cases h1 : (rText r 0 255).2.2 = 0
      · exact h1
      · exfalso
        unfold pStep at h
        cases leaf
        · simp only [Bool.false_eq_true, if_false] at h; exact h1 h
        · simp only [if_true] at h; rw [rText_wrong h1] at h; exact h1 h
    obtain ⟨t, r2, e1⟩ : ∃ t r2, rText r 0 255 = (t, r2, 0) := ⟨_, _, Prod.ext rfl (Prod.ext rfl hr)⟩
    have ha := (text_again e1).1
    unfold pStep at h ⊢
    cases leaf with
    | false =>
      simp only [Bool.false_eq_true, if_false] at h l2 ih ⊢
      rw [e1]
      dsimp only
      have hc : (List.range k).flatMap (Nd.ent ⟨false, K ++ [t], V, ls⟩) = (List.range k).flatMap (Nd.ent ⟨false, K, V, ls⟩) := by
        refine flatMap_same fun i hi => ?_
        have := List.mem_range.1 hi
        unfold Nd.ent
        rw [getD_app_left (by omega)]
      have hcl : Nd.ent ⟨false, K ++ [t], V, ls⟩ k = textB t := by
        unfold Nd.ent
        rw [getD_app_last l1.symm]
        simp
      rw [List.range_succ, List.flatMap_append, hc, List.flatMap_singleton, hcl, List.append_assoc, ← ha]
      exact ih
    | true =>
      simp only [if_true] at h l2 ih ⊢
      rw [e1] at h ⊢
      dsimp only at h ⊢
      obtain ⟨t2, r3, e2⟩ : ∃ t2 r3, rText r2 0 255 = (t2, r3, 0) := ⟨_, _, Prod.ext rfl (Prod.ext rfl h)⟩
      have hb := (text_again e2).1
      rw [e2]
      dsimp only
      have hc : (List.range k).flatMap (Nd.ent ⟨true, K ++ [t], V ++ [t2], ls⟩) = (List.range k).flatMap (Nd.ent ⟨true, K, V, ls⟩) := by
        refine flatMap_same fun i hi => ?_
        have := List.mem_range.1 hi
        unfold Nd.ent
        rw [getD_app_left (by omega), if_pos rfl, if_pos rfl, getD_app_left (by omega)]
      have hcl : Nd.ent ⟨true, K ++ [t], V ++ [t2], ls⟩ k = textB t ++ textB t2 := by
        unfold Nd.ent
        rw [getD_app_last l1.symm, if_pos rfl, getD_app_last l2.symm]
      rw [List.range_succ, List.flatMap_append, hc, List.flatMap_singleton, hcl, List.append_assoc, List.append_assoc, ← hb, ← ha]
      exact ih
/-- A page that is read is laid down as it was. -/
theorem again_page (p : Pg) (hb : p.bad = false) : p.read.wrong = 0 ∧ p.read.page = ⟨p.kind, 0, 0, p.links, p.body⟩ := by
  unfold Pg.bad at hb
  rw [decide_eq_false_iff_not] at hb
  have h1 : rDone p.last.2.2.1 p.last.2.2.2 = 0 := by
    by_cases h : rDone p.last.2.2.1 p.last.2.2.2 = 0
    · exact h
    · exact absurd (.inl h) hb
  have h2 : p.kind = 1 ∨ p.kind = 2 := by omega
  have h3 : p.read.wrong = 0 := by
    by_cases h : p.read.wrong = 0
    · exact h
    · exact absurd (.inr (.inr h)) hb
  refine ⟨h3, ?_⟩
  have hp : p.read.page = ⟨if p.read.leaf then 1 else 2, 0, 0, p.read.ls, ⟨(p.read.ents p.read.ks.length).toArray⟩⟩ := if_pos h3
  rw [hp]
  have hd : p.last.2.2.2 = 0 ∧ p.last.2.2.1.size = 0 := by
    unfold rDone at h1
    split at h1
    · rename_i h; exact absurd h1 h
    · split at h1
      · rename_i h4 h5; exact ⟨by omega, h5⟩
      · cases h1
  obtain ⟨d1, d2⟩ := hd
  have hn0 : (rNum p.body 0 1).2.2 = 0 := by
    by_cases h : (rNum p.body 0 1).2.2 = 0
    · exact h
    · exfalso
      have : ∀ k, (pRun p.leaf (rNum p.body 0 1).2.1 (rNum p.body 0 1).2.2 k).2.2.2 ≠ 0 := fun k => by
        induction k with
        | zero => exact h
        | succ k ih => exact pStep_wrong ih
      exact this _ d1
  have hnum : p.body.data.toList = byN 1 (rNum p.body 0 1).1.toNat ++ (rNum p.body 0 1).2.1.data.toList := by
    have hl : p.body.data.toList.length = p.body.size := rfl
    unfold rNum at hn0 ⊢
    rw [if_neg (by omega), if_neg (by omega)] at hn0 ⊢
    by_cases h4 : (p.body.size : Int) < 1
    · rw [if_pos h4] at hn0; cases hn0
    rw [if_neg h4] at hn0 ⊢
    by_cases h5 : 9223372036854775808 ≤ numL (p.body.data.toList.take (1 : Int).toNat)
    · rw [if_pos h5] at hn0; cases hn0
    rw [if_neg h5]
    dsimp only
    have e1 : (1 : Int).toNat = 1 := rfl
    rw [rest_data, Int.toNat_natCast, e1, byN_one (by rw [List.length_take]; omega), List.take_append_drop]
  have hks : p.read.ks.length = (rNum p.body 0 1).1.toNat := (pRun_facts p.leaf (rNum p.body 0 1).2.1 (rNum p.body 0 1).2.2 (rNum p.body 0 1).1.toNat).1
  have hra := run_again p.leaf (rNum p.body 0 1).2.1 p.links (rNum p.body 0 1).1.toNat (by rw [← hn0]; rw [hn0]; unfold Pg.last at d1; rw [hn0] at d1; exact d1)
  have hlast : p.last = pRun p.leaf (rNum p.body 0 1).2.1 0 (rNum p.body 0 1).1.toNat := by unfold Pg.last; rw [hn0]
  rw [← hlast] at hra
  have he : p.last.2.2.1.data.toList = [] := List.eq_nil_of_length_eq_zero d2
  rw [he, List.append_nil] at hra
  have hkind : (if p.read.leaf = true then (1 : Int) else 2) = p.kind := by
    show (if p.leaf = true then (1 : Int) else 2) = _
    unfold Pg.leaf
    rcases h2 with h | h <;> rw [h] <;> rfl
  rw [hkind]
  have hbody : (⟨(p.read.ents p.read.ks.length).toArray⟩ : ByteArray) = p.body := by
    refine (mkb_inj ?_).symm
    unfold Nd.ents
    rw [hks, hnum, hra]
    rfl
  rw [hbody]
  rfl
end Go.Proofs.YtbclmmneiphcaaaDoor
