/- NodeBack in plain Lean: a right node comes back from its page; a page that is read is laid down as it was. latchkeylaw10.NodeBack. -/
import Derived.Test.YtbclmmneiphcaaaDoorParse
import Derived.Test.YtbclmmneiphcaaaDoorMade0
import Derived.Test.YtbclmmneiphcaaaDoorMade3
namespace Go.Proofs.YtbclmmneiphcaaaDoor
open Go.RowKit
theorem mkb (s : ByteArray) : (⟨s.data.toList.toArray⟩ : ByteArray) = s := rfl
theorem mkb_inj {l : List UInt8} {s : ByteArray} (h : s.data.toList = l) : s = ⟨l.toArray⟩ := by subst h; rfl
theorem numL_one (k : Nat) (hk : k ≤ 255) : numL (byN 1 k) = k := by
  show 0 * 256 + (UInt8.ofNat (k / 256 ^ 0)).toNat = k
  rw [UInt8.toNat_ofNat', Nat.pow_zero, Nat.div_one]; omega
theorem byN_one {l : List UInt8} (h : l.length = 1) : byN 1 (numL l) = l := by
  match l, h with
  | [c], _ =>
    have e : numL [c] = c.toNat := by show 0 * 256 + c.toNat = _; omega
    rw [e]
    show [UInt8.ofNat (c.toNat / 256 ^ 0)] = [c]
    rw [Nat.pow_zero, Nat.div_one, UInt8.ofNat_toNat]
theorem ahead255 : ahead (255 : Int).toNat = 1 := by decide
theorem textB_len (t : ByteArray) : (textB t).length = 1 + t.size := by
  unfold textB
  rw [List.length_append, byN_len]; rfl
theorem text_back (t : ByteArray) (R : List UInt8) (ht : t.size ≤ 255) : rText ⟨(textB t ++ R).toArray⟩ 0 255 = (t, ⟨R.toArray⟩, 0) := by
  have hd : (⟨(textB t ++ R).toArray⟩ : ByteArray).data.toList = textB t ++ R := rfl
  have hz : (⟨(textB t ++ R).toArray⟩ : ByteArray).size = 1 + t.size + R.length := by
    show (textB t ++ R).toArray.size = _
    rw [List.size_toArray, List.length_append, textB_len]
  have ht1 : (textB t ++ R).take 1 = byN 1 t.size := by
    unfold textB
    rw [List.append_assoc]
    exact List.take_left' (byN_len _ _)
  unfold rText
  rw [ahead255, hd, ht1, numL_one _ ht, hz, if_neg (by omega), if_neg (by omega), if_neg (by omega), if_neg (show ¬ (255 : Int).toNat < t.size by show ¬ 255 < _; omega), if_neg (by omega)]
  refine Prod.ext ?_ (Prod.ext ?_ rfl)
  · refine (mkb_inj (l := t.data.toList) ?_).trans (mkb t)
    rw [rest_data, front_data, hd, List.take_left' (textB_len t)]
    unfold textB
    exact List.drop_left' (byN_len _ _)
  · refine mkb_inj ?_
    rw [rest_data, hd]
    exact List.drop_left' (textB_len t)
theorem text_again {s t r : ByteArray} (h : rText s 0 255 = (t, r, 0)) : s.data.toList = textB t ++ r.data.toList ∧ t.size ≤ 255 := by
  have hl : s.data.toList.length = s.size := rfl
  unfold rText at h
  rw [ahead255, if_neg (by omega), if_neg (by omega)] at h
  by_cases h1 : s.size < 1
  · rw [if_pos h1] at h; cases (Prod.mk.inj (Prod.mk.inj h).2).2
  rw [if_neg h1] at h
  by_cases h2 : (255 : Int).toNat < numL (s.data.toList.take 1)
  · rw [if_pos h2] at h; cases (Prod.mk.inj (Prod.mk.inj h).2).2
  rw [if_neg h2] at h
  by_cases h3 : s.size < 1 + numL (s.data.toList.take 1)
  · rw [if_pos h3] at h; cases (Prod.mk.inj (Prod.mk.inj h).2).2
  rw [if_neg h3] at h
  have h2' : ¬ 255 < numL (s.data.toList.take 1) := h2
  obtain ⟨m, hm⟩ : ∃ m, m = numL (s.data.toList.take 1) := ⟨_, rfl⟩
  have hb := byN_one (l := s.data.toList.take 1) (by rw [List.length_take]; omega)
  rw [← hm] at h h2' h3 hb
  obtain ⟨e1, e2⟩ := Prod.mk.inj h
  obtain ⟨e2, -⟩ := Prod.mk.inj e2
  have ht : t.data.toList = (s.data.toList.take (1 + m)).drop 1 := by rw [← e1, rest_data, front_data]
  have hts : t.size = m := by
    show t.data.toList.length = m
    rw [ht, List.length_drop, List.length_take, hl]; omega
  have hr : r.data.toList = s.data.toList.drop (1 + m) := by rw [← e2, rest_data]
  refine ⟨?_, by omega⟩
  unfold textB
  rw [hts, hb, ht, hr]
  have e4 : (s.data.toList.take (1 + m)).take 1 = s.data.toList.take 1 := by rw [List.take_take, Nat.min_eq_left (by omega)]
  rw [← e4, List.take_append_drop, List.take_append_drop]
theorem rText_wrong {s : ByteArray} {e : Int} (he : e ≠ 0) : rText s e 255 = (⟨#[]⟩, s, e) := if_pos he
/- FORWARD -/
def Nd.tailE (n : Nd) (k m : Nat) : List UInt8 := (List.range' k m).flatMap n.ent
theorem tailE_succ (n : Nd) (k m : Nat) : n.tailE k (m + 1) = n.ent k ++ n.tailE (k + 1) m := by
  unfold Nd.tailE
  rw [List.range'_succ, List.flatMap_cons]
theorem ents_tail (n : Nd) : n.ents n.ks.length = byN 1 n.ks.length ++ n.tailE 0 n.ks.length := by
  unfold Nd.ents Nd.tailE
  rw [List.range_eq_range']
theorem run_back (n : Nd) (hk : ∀ s ∈ n.ks, s.size ≤ 255) (hv : n.leaf = true → n.vs.length = n.ks.length ∧ ∀ s ∈ n.vs, s.size ≤ 255) : ∀ k, k ≤ n.ks.length →
    pRun n.leaf ⟨(n.tailE 0 n.ks.length).toArray⟩ 0 k = (n.ks.take k, if n.leaf then n.vs.take k else [], ⟨(n.tailE k (n.ks.length - k)).toArray⟩, 0)
  | 0, _ => by
    show (([], [], _, 0) : PState) = _
    cases n.leaf <;> rfl
  | k + 1, hle => by
    have ih := run_back n hk hv k (by omega)
    show pStep n.leaf (pRun n.leaf _ 0 k) = _
    rw [ih]
    obtain ⟨x, hx⟩ : ∃ x, n.ks[k]? = some x := ⟨n.ks[k], List.getElem?_eq_getElem (by omega)⟩
    have hxs := hk x (List.mem_of_getElem? hx)
    have e1 : n.ks.length - k = (n.ks.length - (k + 1)) + 1 := by omega
    have e2 : n.ks.getD k ⟨#[]⟩ = x := by rw [List.getD_eq_getElem?_getD, hx]; rfl
    rw [e1, tailE_succ]
    unfold pStep Nd.ent
    rw [e2]
    cases hlf : n.leaf with
    | false =>
      simp only [Bool.false_eq_true, if_false, List.append_nil]
      rw [text_back x _ hxs, List.take_add_one, hx]
      rfl
    | true =>
      obtain ⟨hl, hvs⟩ := hv hlf
      obtain ⟨y, hy⟩ : ∃ y, n.vs[k]? = some y := ⟨n.vs[k], List.getElem?_eq_getElem (by omega)⟩
      have hys := hvs y (List.mem_of_getElem? hy)
      have e3 : n.vs.getD k ⟨#[]⟩ = y := by rw [List.getD_eq_getElem?_getD, hy]; rfl
      simp only [if_true]
      rw [e3, List.append_assoc, text_back x _ hxs]
      dsimp only
      rw [text_back y _ hys, List.take_add_one, hx, List.take_add_one, hy]
      rfl
/-- A right node comes back, whatever number and birth its page is given. -/
theorem back_read (n : Nd) (hw : n.wrong = 0) (hm : n.leaf = false → n.vs = []) (a b : Int) :
    (⟨n.page.kind, a, b, n.page.links, n.page.body⟩ : Pg).node = n ∧ (⟨n.page.kind, a, b, n.page.links, n.page.body⟩ : Pg).wrong = 0 := by
  obtain ⟨q1, q2, q3⟩ := Nd.right_len hw
  have hp : n.page = ⟨if n.leaf then 1 else 2, 0, 0, n.ls, ⟨(n.ents n.ks.length).toArray⟩⟩ := if_pos hw
  rw [hp]
  generalize hpe : (⟨if n.leaf then 1 else 2, a, b, n.ls, ⟨(n.ents n.ks.length).toArray⟩⟩ : Pg) = p
  have hlf : p.leaf = n.leaf := by
    rw [← hpe]
    unfold Pg.leaf
    cases n.leaf <;> rfl
  have hkd : p.kind = 1 ∨ p.kind = 2 := by
    rw [← hpe]
    cases n.leaf
    · exact .inr rfl
    · exact .inl rfl
  have hbd : p.body = ⟨(byN 1 n.ks.length ++ n.tailE 0 n.ks.length).toArray⟩ := by rw [← hpe, ← ents_tail]
  have hls : p.links = n.ls := by rw [← hpe]
  have hnum : rNum p.body 0 1 = ((n.ks.length : Int), ⟨(n.tailE 0 n.ks.length).toArray⟩, 0) := by
    have hd : p.body.data.toList = byN 1 n.ks.length ++ n.tailE 0 n.ks.length := by rw [hbd]
    have hz : p.body.size = 1 + (n.tailE 0 n.ks.length).length := by
      show p.body.data.toList.length = _
      rw [hd, List.length_append, byN_len]
    have e1 : p.body.data.toList.take (1 : Int).toNat = byN 1 n.ks.length := by
      rw [hd]; exact List.take_left' (byN_len _ _)
    unfold rNum
    rw [if_neg (by omega), if_neg (by omega), if_neg (by omega), e1, numL_one _ q1, if_neg (by omega)]
    refine Prod.ext rfl (Prod.ext ?_ rfl)
    refine mkb_inj ?_
    rw [rest_data, hd]
    exact List.drop_left' (byN_len _ _)
  have hlast : p.last = (n.ks, n.vs, ⟨#[]⟩, 0) := by
    unfold Pg.last
    rw [hnum]
    dsimp only
    rw [Int.toNat_natCast, hlf, run_back n q2 (fun h => ⟨(q3 h).1, (q3 h).2.2⟩) _ (Nat.le_refl _), Nat.sub_self, List.take_length]
    have e3 : (⟨(n.tailE n.ks.length 0).toArray⟩ : ByteArray) = ⟨#[]⟩ := rfl
    rw [e3]
    cases hl : n.leaf with
    | true => rw [if_pos rfl, List.take_of_length_le (by rw [(q3 hl).1]; omega)]
    | false => rw [if_neg (by decide), hm hl]
  have hread : p.read = n := by
    unfold Pg.read
    rw [hlast, hlf, hls]
  have hbad : p.bad = false := by
    unfold Pg.bad
    rw [decide_eq_false_iff_not, hread, hlast]
    have h9 : rDone (⟨#[]⟩ : ByteArray) 0 = 0 := rfl
    rintro (h | h | h)
    · exact h h9
    · omega
    · exact h hw
  unfold Pg.node Pg.wrong
  rw [hbad]
  exact ⟨hread, rfl⟩
/-- How long a right node's page is. -/
theorem tail_sum (n : Nd) (hv : n.leaf = true → n.vs.length = n.ks.length) : ∀ m k, k + m = n.ks.length →
    (n.tailE k m).length + (sumSz (n.ks.take k) + k + if n.leaf then sumSz (n.vs.take k) + k else 0) = sumSz n.ks + n.ks.length + if n.leaf then sumSz n.vs + n.vs.length else 0
  | 0, k, h => by
    have e0 : (n.tailE k 0).length = 0 := rfl
    obtain rfl : k = n.ks.length := by omega
    rw [e0, List.take_length]
    cases hl : n.leaf with
    | true => rw [if_pos rfl, if_pos rfl, List.take_of_length_le (by rw [hv hl]; omega), hv hl]; omega
    | false => simp
  | m + 1, k, h => by
    have ih := tail_sum n hv m (k + 1) (by omega)
    obtain ⟨x, hx⟩ : ∃ x, n.ks[k]? = some x := ⟨n.ks[k], List.getElem?_eq_getElem (by omega)⟩
    have e2 : n.ks.getD k ⟨#[]⟩ = x := by rw [List.getD_eq_getElem?_getD, hx]; rfl
    rw [sumSz_take n.ks k x hx] at ih
    rw [tailE_succ, List.length_append]
    unfold Nd.ent
    rw [e2, List.length_append, textB_len]
    cases hl : n.leaf with
    | true =>
      have hvl := hv hl
      obtain ⟨y, hy⟩ : ∃ y, n.vs[k]? = some y := ⟨n.vs[k], List.getElem?_eq_getElem (by omega)⟩
      have e3 : n.vs.getD k ⟨#[]⟩ = y := by rw [List.getD_eq_getElem?_getD, hy]; rfl
      rw [hl, if_pos rfl, if_pos rfl, sumSz_take n.vs k y hy] at ih
      rw [if_pos rfl, if_pos rfl, if_pos rfl, e3, textB_len]
      omega
    | false =>
      rw [hl, if_neg (by decide), if_neg (by decide)] at ih
      rw [if_neg (by decide), if_neg (by decide), if_neg (by decide), List.length_nil]
      omega
theorem page_size (n : Nd) (hw : n.wrong = 0) : n.page.body.size + 4 * n.page.links.length = 1 + n.size ∧ n.size ≤ 480 ∧ n.page.number = 0 ∧ n.page.birth = 0 := by
  obtain ⟨-, -, hs⟩ := Nd.wrong_zero hw
  obtain ⟨q1, q2, q3⟩ := Nd.right_len hw
  have hp : n.page = ⟨if n.leaf then 1 else 2, 0, 0, n.ls, ⟨(n.ents n.ks.length).toArray⟩⟩ := if_pos hw
  have h1 := tail_sum n (fun h => (q3 h).1) n.ks.length 0 (by omega)
  rw [hp]
  refine ⟨?_, hs, rfl, rfl⟩
  show (n.ents n.ks.length).toArray.size + 4 * n.ls.length = _
  rw [List.size_toArray, ents_tail, List.length_append, byN_len]
  unfold Nd.size
  cases hl : n.leaf with
  | true =>
    obtain ⟨h2, h3, -⟩ := q3 hl
    rw [hl, if_pos rfl, if_pos rfl] at h1
    rw [if_pos rfl, h3, h2, List.length_nil]
    simp only [List.take_zero, sumSz_nil] at h1
    omega
  | false =>
    rw [hl, if_neg (by decide), if_neg (by decide)] at h1
    rw [if_neg (by decide)]
    simp only [List.take_zero, sumSz_nil] at h1
    omega
/- BACKWARD -/
theorem flatMap_same {α β : Type} {f g : α → List β} : ∀ {l : List α}, (∀ i ∈ l, f i = g i) → l.flatMap f = l.flatMap g
  | [], _ => rfl
  | a :: l, h => by rw [List.flatMap_cons, List.flatMap_cons, h a (List.mem_cons_self ..), flatMap_same fun i hi => h i (List.mem_cons_of_mem _ hi)]
theorem pStep_wrong {leaf : Bool} {st : PState} (h : st.2.2.2 ≠ 0) : (pStep leaf st).2.2.2 ≠ 0 := by
  unfold pStep
  cases leaf
  · simp only [Bool.false_eq_true, if_false]; rw [rText_wrong h]; exact h
  · simp only [if_true]; rw [rText_wrong h, rText_wrong h]; exact h
theorem getD_app_left {l : List ByteArray} {x : ByteArray} {i : Nat} (h : i < l.length) : (l ++ [x]).getD i ⟨#[]⟩ = l.getD i ⟨#[]⟩ := by
  rw [List.getD_eq_getElem?_getD, List.getElem?_append_left h, List.getD_eq_getElem?_getD]
theorem getD_app_last {l : List ByteArray} {x : ByteArray} {i : Nat} (h : i = l.length) : (l ++ [x]).getD i ⟨#[]⟩ = x := by
  rw [List.getD_eq_getElem?_getD, List.getElem?_append_right (by omega), h, Nat.sub_self]; rfl
theorem run_again (leaf : Bool) (s : ByteArray) (ls : List Int) : ∀ k, (pRun leaf s 0 k).2.2.2 = 0 →
    s.data.toList = (List.range k).flatMap (Nd.ent ⟨leaf, (pRun leaf s 0 k).1, (pRun leaf s 0 k).2.1, ls⟩) ++ (pRun leaf s 0 k).2.2.1.data.toList
  | 0, _ => by simp [pRun]
  | k + 1, h => by
    obtain ⟨l1, l2, -⟩ := pRun_facts leaf s 0 k
    have h0 : (pRun leaf s 0 k).2.2.2 = 0 := by
      by_cases h1 : (pRun leaf s 0 k).2.2.2 = 0
      · exact h1
      · exact absurd h (pStep_wrong h1)
    have ih := run_again leaf s ls k h0
    have hst : pRun leaf s 0 (k + 1) = pStep leaf (pRun leaf s 0 k) := rfl
    rw [hst] at h ⊢
    generalize pRun leaf s 0 k = st at *
    obtain ⟨K, V, r, e⟩ := st
    dsimp only at h0 l1 l2 ih
    subst h0
    have hr : (rText r 0 255).2.2 = 0 := by
      by_cases h1 : (rText r 0 255).2.2 = 0
      · exact h1
      · exfalso
        unfold pStep at h
        cases leaf
        · simp only [Bool.false_eq_true, if_false] at h; exact h1 h
        · simp only [if_true] at h; rw [rText_wrong h1] at h; exact h1 h
    obtain ⟨t, r2, e1⟩ : ∃ t r2, rText r 0 255 = (t, r2, 0) := ⟨_, _, Prod.ext rfl (Prod.ext rfl hr)⟩
    have ha := (text_again e1).1
    unfold pStep at h ⊢
    cases leaf with
    | false =>
      simp only [Bool.false_eq_true, if_false] at h l2 ih ⊢
      rw [e1]
      dsimp only
      have hc : (List.range k).flatMap (Nd.ent ⟨false, K ++ [t], V, ls⟩) = (List.range k).flatMap (Nd.ent ⟨false, K, V, ls⟩) := by
        refine flatMap_same fun i hi => ?_
        have := List.mem_range.1 hi
        unfold Nd.ent
        rw [getD_app_left (by omega)]
      have hcl : Nd.ent ⟨false, K ++ [t], V, ls⟩ k = textB t := by
        unfold Nd.ent
        rw [getD_app_last l1.symm]
        simp
      rw [List.range_succ, List.flatMap_append, hc, List.flatMap_singleton, hcl, List.append_assoc, ← ha]
      exact ih
    | true =>
      simp only [if_true] at h l2 ih ⊢
      rw [e1] at h ⊢
      dsimp only at h ⊢
      obtain ⟨t2, r3, e2⟩ : ∃ t2 r3, rText r2 0 255 = (t2, r3, 0) := ⟨_, _, Prod.ext rfl (Prod.ext rfl h)⟩
      have hb := (text_again e2).1
      rw [e2]
      dsimp only
      have hc : (List.range k).flatMap (Nd.ent ⟨true, K ++ [t], V ++ [t2], ls⟩) = (List.range k).flatMap (Nd.ent ⟨true, K, V, ls⟩) := by
        refine flatMap_same fun i hi => ?_
        have := List.mem_range.1 hi
        unfold Nd.ent
        rw [getD_app_left (by omega), if_pos rfl, if_pos rfl, getD_app_left (by omega)]
      have hcl : Nd.ent ⟨true, K ++ [t], V ++ [t2], ls⟩ k = textB t ++ textB t2 := by
        unfold Nd.ent
        rw [getD_app_last l1.symm, if_pos rfl, getD_app_last l2.symm]
      rw [List.range_succ, List.flatMap_append, hc, List.flatMap_singleton, hcl, List.append_assoc, List.append_assoc, ← hb, ← ha]
      exact ih
/-- A page that is read is laid down as it was. -/
theorem again_page (p : Pg) (hb : p.bad = false) : p.read.wrong = 0 ∧ p.read.page = ⟨p.kind, 0, 0, p.links, p.body⟩ := by
  unfold Pg.bad at hb
  rw [decide_eq_false_iff_not] at hb
  have h1 : rDone p.last.2.2.1 p.last.2.2.2 = 0 := by
    by_cases h : rDone p.last.2.2.1 p.last.2.2.2 = 0
    · exact h
    · exact absurd (.inl h) hb
  have h2 : p.kind = 1 ∨ p.kind = 2 := by omega
  have h3 : p.read.wrong = 0 := by
    by_cases h : p.read.wrong = 0
    · exact h
    · exact absurd (.inr (.inr h)) hb
  refine ⟨h3, ?_⟩
  have hp : p.read.page = ⟨if p.read.leaf then 1 else 2, 0, 0, p.read.ls, ⟨(p.read.ents p.read.ks.length).toArray⟩⟩ := if_pos h3
  rw [hp]
  have hd : p.last.2.2.2 = 0 ∧ p.last.2.2.1.size = 0 := by
    unfold rDone at h1
    split at h1
    · rename_i h; exact absurd h1 h
    · split at h1
      · rename_i h4 h5; exact ⟨by omega, h5⟩
      · cases h1
  obtain ⟨d1, d2⟩ := hd
  have hn0 : (rNum p.body 0 1).2.2 = 0 := by
    by_cases h : (rNum p.body 0 1).2.2 = 0
    · exact h
    · exfalso
      have : ∀ k, (pRun p.leaf (rNum p.body 0 1).2.1 (rNum p.body 0 1).2.2 k).2.2.2 ≠ 0 := fun k => by
        induction k with
        | zero => exact h
        | succ k ih => exact pStep_wrong ih
      exact this _ d1
  have hnum : p.body.data.toList = byN 1 (rNum p.body 0 1).1.toNat ++ (rNum p.body 0 1).2.1.data.toList := by
    have hl : p.body.data.toList.length = p.body.size := rfl
    unfold rNum at hn0 ⊢
    rw [if_neg (by omega), if_neg (by omega)] at hn0 ⊢
    by_cases h4 : (p.body.size : Int) < 1
    · rw [if_pos h4] at hn0; cases hn0
    rw [if_neg h4] at hn0 ⊢
    by_cases h5 : 9223372036854775808 ≤ numL (p.body.data.toList.take (1 : Int).toNat)
    · rw [if_pos h5] at hn0; cases hn0
    rw [if_neg h5]
    dsimp only
    have e1 : (1 : Int).toNat = 1 := rfl
    rw [rest_data, Int.toNat_natCast, e1, byN_one (by rw [List.length_take]; omega), List.take_append_drop]
  have hks : p.read.ks.length = (rNum p.body 0 1).1.toNat := (pRun_facts p.leaf (rNum p.body 0 1).2.1 (rNum p.body 0 1).2.2 (rNum p.body 0 1).1.toNat).1
  have hra := run_again p.leaf (rNum p.body 0 1).2.1 p.links (rNum p.body 0 1).1.toNat (by rw [← hn0]; rw [hn0]; unfold Pg.last at d1; rw [hn0] at d1; exact d1)
  have hlast : p.last = pRun p.leaf (rNum p.body 0 1).2.1 0 (rNum p.body 0 1).1.toNat := by unfold Pg.last; rw [hn0]
  rw [← hlast] at hra
  have he : p.last.2.2.1.data.toList = [] := List.eq_nil_of_length_eq_zero d2
  rw [he, List.append_nil] at hra
  have hkind : (if p.read.leaf = true then (1 : Int) else 2) = p.kind := by
    show (if p.leaf = true then (1 : Int) else 2) = _
    unfold Pg.leaf
    rcases h2 with h | h <;> rw [h] <;> rfl
  rw [hkind]
  have hbody : (⟨(p.read.ents p.read.ks.length).toArray⟩ : ByteArray) = p.body := by
    refine (mkb_inj ?_).symm
    unfold Nd.ents
    rw [hks, hnum, hra]
    rfl
  rw [hbody]
  rfl
end Go.Proofs.YtbclmmneiphcaaaDoor
namespace Go.Proofs.YtbclmmneiphcaaaDoor
open Go.RowKit
section
variable {E : World} {S : Ph} {L : List Hp}
theorem Laid0.grow {T : Ph} (h : Laid0 E (Hp.ro S :: L)) (hs : ∀ k o, S k = some o → T k = some o) : Laid0 E (Hp.ro T :: L) := fun w hw => h w (hw.shrink hs)
theorem Laid0.skip {A B : Hp} (h : Laid0 E (A :: L)) : Laid0 E (A :: B :: L) := fun w hw => h w hw.f1.drop
theorem pageweigh_any (A : Option Addr) (c : Nat) (p : Pg) (w : World) (h1 : p.links.length ≤ 1000000000000000000) (h2 : p.body.size ≤ 1000000000000000000) (h : Own E w L) :
    Calls Tryd.prog 22 #[p.val A c] w fun e w' => (∃ z : Nat, z ≤ 4294967294 ∧ (z ≤ 2147483647 → z = p.links.length + p.body.size) ∧ e = .returned (.int .i64 z)) ∧ Own E w' L := by
  have H := Lib.hid (h.alloc (.cells #[VI p.kind, VI p.number, VI p.birth, .slice A p.links.length c, .string p.body] PT)).drop
  have k1 := fun w => addsup_any p.links.length p.body.size w h1 h2
  clear h
  go_enter Tryd.func22, Tryd.ntmps22
  go_wp2_with fail
  refine (k1 _).mono ?_
  rintro e w1 ⟨rfl, z, hz, hz2, rfl⟩
  have HZ := Lib.hid hz2
  clear hz2
  go_wp2_with fail
  go_ret
  exact ⟨⟨z, hz, HZ.out, rfl⟩, H.out⟩
/-- A page that came out is lent. -/
theorem Own.lendPage {w : World} {v : Value} {p : Pg} (h : Own E w (Hp.page v p :: Hp.ro S :: L)) : ∃ (T : Ph) (A : Option Addr) (c : Nat), (∀ k o, S k = some o → T k = some o) ∧ v = p.val A c ∧ Rds T 1 en64 A p.links.length p.links ∧ Own E w (Hp.ro T :: L) := by
  obtain ⟨a, rfl, h2⟩ := h.ofPage
  obtain ⟨A, c, rfl, -⟩ := h2.lstSlice
  rw [List.length_map] at h2 ⊢
  obtain ⟨x, hx, hd, h3⟩ := h2.lend
  exact ⟨_, A, c, Ph.join_r hd, rfl, (lst_rds hx).1.sub Ph.join_l, h3⟩
theorem bulk_right {n : Nd} (h : n.wrong = 0) : n.bulk ≤ 480 := by
  obtain ⟨h1, -, h3⟩ := Nd.wrong_zero h
  unfold Nd.formed at h1
  unfold Nd.size at h3
  unfold Nd.bulk
  cases hl : n.leaf with
  | true =>
    rw [hl, if_pos rfl] at h1 h3
    simp only [Bool.and_eq_true, decide_eq_true_eq] at h1
    omega
  | false =>
    rw [hl, if_neg (by decide)] at h1 h3
    simp only [Bool.and_eq_true, decide_eq_true_eq] at h1
    have : n.vs = [] := List.eq_nil_of_length_eq_zero h1.1.2.2
    rw [this, sumSz_nil, List.length_nil]
    omega
abbrev Pg.cs (A : Option Addr) (c : Nat) (p : Pg) : List Value := [VI p.kind, VI p.number, VI p.birth, .slice A p.links.length c, .string p.body]
set_option maxRecDepth 100000 in
set_option maxHeartbeats 8000000 in
theorem nodeback_any (leaf : Bool) (A : Option Addr) (n c : Nat) (xs : List Cel) (PA : Option Addr) (pc : Nat) (p : Pg) (w : World) (hn : n ≤ 1000000000000000000) (hsm : ∀ x ∈ xs, x.key.size ≤ 1000000000000000000 ∧ x.value.size ≤ 1000000000000000000)
    (hkd : ∀ x ∈ xs, -9223372036854775808 ≤ x.kid ∧ x.kid ≤ 9223372036854775807) (hr : Rds S 3 enCel A n xs) (hp1 : p.links.length ≤ 1000000000000000000) (hp2 : p.body.size ≤ 1000000000000000000) (hpr : Rds S 1 en64 PA p.links.length p.links)
    (hG : Laid0 E (Hp.ro S :: L)) (h : Own E w (Hp.ro S :: L)) :
    Calls Tryd.prog 5 #[.bool leaf, .slice A n c, p.val PA pc] w fun e w' => e = .returned (.bool true) ∧ Own E w' (Hp.ro S :: L) := by
  have kc := fun w M hw => cellsweigh_any (E := E) (S := S) (L := M) A n c xs w hn hsm hr hw
  have kpw := fun w M hw => pageweigh_any (E := E) (L := M) PA pc p w (by omega) (by omega) hw
  have km := fun w M hw => made_any (E := E) (S := S) (L := M) leaf A n c xs 0 480 w hn (by omega) (by omega) (by omega) hkd hr hw
  have h1 : Own E _ (Hp.blk w.heap.size PT (Pg.cs PA pc p).toArray :: Hp.ro S :: L) := h.alloc _
  obtain ⟨g, hg⟩ : ∃ g, g = w.heap.size := ⟨_, rfl⟩
  rw [← hg] at h1
  have H1 := Lib.hid h1
  have KC := Lib.hid kc
  have KPW := Lib.hid kpw
  have KM := Lib.hid km
  have HG := Lib.hid hG
  have HPR := Lib.hid hpr
  clear h h1 kc kpw km hG hpr hp1 hp2 hn hsm hkd hr
  go_enter Tryd.func5, Tryd.ntmps5
  go_wp2_with fail
  rw [← hg]
  clear hg
  have h := H1.out.drew
  clear H1
  refine wp_region_text [2] (fun w' => w'.rangeAt g 0 (Pg.cs PA pc p)) (by kernel_rfl) ?_ (fun hS => ?_)
  · exact h.blkRange
  refine wpAnyG_pure (i := 0) (oi := ⟨some 19, _, _, _, _, _⟩) (v := ?_) rfl (by kernel_rfl) (by kernel_rfl) (by kernel_rfl) (by rfl) (fun _ _ _ h => h) (by rfl) ?_ ?_
  rotate_left
  · intro w
    go_simp
    first | done | with_reducible rfl
  try simp only [Act.put, List.setIfInBounds_toArray, List.set_cons_zero, List.set_cons_succ]
  refine wpAnyG_load (i := 2) (oi := ⟨some 21, _, _, _, _, _⟩) (v := (p.val PA pc)) rfl (by kernel_rfl) (by kernel_rfl) (by kernel_rfl) (by rfl) (fun _ _ _ h => h) (by rfl) ?_ (by assumption) ?_
  · intro w hS
    exact exec_load_mid PT (.tmp 5) rfl g 0 (by rfl) (Pg.cs PA pc p) _ hS Tryd.underlying45 rfl (by kernel_rfl)
  try simp only [Act.put, List.setIfInBounds_toArray, List.set_cons_zero, List.set_cons_succ]
  refine wpAnyG_keep (i := 1) (oi := ⟨some 20, _, _, _, _, _⟩) (by kernel_rfl) rfl (fun K hK => ?_)
  rw [if_pos (by rfl)]
  go_simp
  refine (KC.out _ _ h.f1).mono ?_
  rintro e w1 ⟨⟨z1, hz1, rfl⟩, h⟩
  refine hK.out _ _ ?_ (fun hS => ?_)
  · exact h.f1.blkRange
  clear hK K
  try simp only [Act.put, List.setIfInBounds_toArray, List.set_cons_zero, List.set_cons_succ]
  refine wpAnyG_keep (i := 3) (oi := ⟨some 22, _, _, _, _, _⟩) (by kernel_rfl) rfl (fun K hK => ?_)
  rw [if_pos (by rfl)]
  go_simp
  refine (KPW.out _ _ h).mono ?_
  rintro e w2 ⟨⟨z2, hz2, hy2, rfl⟩, h⟩
  have HY2 := Lib.hid hy2
  clear hy2
  refine hK.out _ _ ?_ (fun hS => ?_)
  · exact h.f1.blkRange
  clear hK K
  try simp only [Act.put, List.setIfInBounds_toArray, List.set_cons_zero, List.set_cons_succ]
  refine wpAnyG_keep (i := 4) (oi := ⟨some 23, _, _, _, _, _⟩) (by kernel_rfl) rfl (fun K hK => ?_)
  rw [if_pos (by rfl)]
  go_simp
  refine (addsup_any z1 z2 _ (by omega) (by omega)).mono ?_
  rintro e w3 ⟨rfl, z3, hz3, hy3, rfl⟩
  have HY3 := Lib.hid hy3
  clear hy3
  refine hK.out _ _ ?_ (fun hS => ?_)
  · exact h.f1.blkRange
  clear hK K
  try simp only [Act.put, List.setIfInBounds_toArray, List.set_cons_zero, List.set_cons_succ]
  refine wpAnyG_pure (i := 5) (oi := ⟨some 24, _, _, _, _, _⟩) (v := ?_) rfl (by kernel_rfl) (by kernel_rfl) (by kernel_rfl) (by rfl) (fun _ _ _ h => h) (by rfl) ?_ ?_
  rotate_left
  · intro w
    go_simp
    first | done | with_reducible rfl
  try simp only [Act.put, List.setIfInBounds_toArray, List.set_cons_zero, List.set_cons_succ]
  refine wpAnyG_done (by kernel_rfl) ?_ _
  refine NoPanic.normal ?_
  have H := Lib.hid h
  clear h KC KPW hz1
  by_cases hc : 2147483647 < z3
  · have hci : (2147483647 : Int) < z3 := by omega
    go_wp2_with fail
    go_ret
    exact ⟨rfl, H.out.f1.drop⟩
  have hci : ¬ (2147483647 : Int) < z3 := by omega
  have hpp : p.links.length ≤ 4294960000 ∧ p.body.size ≤ 1000000000000 := by
    have e3 := HY3.out (by omega)
    have e2 := HY2.out (by omega)
    omega
  have HP1 := Lib.hid hpp.1
  have HP2 := Lib.hid hpp.2
  clear hc hz3 hpp HY2 HY3
  go_wp2_with fail
  refine (awake_any _ HG.out.skip H.out).mono ?_
  rintro e w4 ⟨rfl, h⟩
  have H2 := Lib.hid h
  clear h H
  go_wp2_with fail
  refine (KM.out _ _ H2.out).mono ?_
  rintro e w5 ⟨T, q, m, rfl, hm, hne, -, h⟩
  have hw0 := hm.ok.right hne
  have hbk := hm.ok.few
  have hvs : m.leaf = false → m.vs = [] := fun hl => (hm.ok.iform (by rw [← hm.ok.lf]; exact hl)).1
  have HBR := Lib.hid (fun a b => back_read m hw0 hvs a b)
  have hps := page_size m hw0
  have ha := h.alloc (.cells (q.cs m).toArray NT)
  obtain ⟨g8, hg8⟩ : ∃ g, g = w5.heap.size := ⟨_, rfl⟩
  rw [← hg8] at ha
  have kpg := fun w M hw => page_any (E := E) (S := T) (L := M) q m w (by omega) hm.inn hw
  rw [hw0] at kpg
  have KPG := Lib.hid kpg
  have HMI := Lib.hid hm.inn
  have HSUB := Lib.hid hm.sub
  have HPS := Lib.hid hps
  have H := Lib.hid ha
  clear h ha H2 KM hm hne hw0 hvs hps kpg
  go_wp2_with fail
  try rw [← hg8]
  clear hg8
  refine (KPG.out _ _ H.out.f1).mono ?_
  rintro e w6 ⟨pv, rfl, h⟩
  obtain ⟨T2, A2, c2, s2, rfl, hr2, hh⟩ := h.lendPage
  clear h
  generalize m.page = pg at *
  obtain ⟨kd, nm, br, ls, bd⟩ := pg
  obtain ⟨p1, p2, rfl, rfl⟩ := HPS.out
  dsimp only at p1 hr2
  dsimp only at HBR
  have hlb : bd.size + 4 * ls.length ≤ 481 := by omega
  have hlb1 : ls.length ≤ 481 := by omega
  have kp1 := fun w M hG hw => parse_any (E := E) (S := T2) (L := M) A2 c2 ⟨kd, 0, 0, ls, bd⟩ w hG (by show ls.length ≤ _; omega) (by show bd.size ≤ _; omega) hr2 hw
  rw [(HBR.out 0 0).1, (HBR.out 0 0).2] at kp1
  have KP1 := Lib.hid kp1
  have ha := hh.alloc (.cells (Pg.cs A2 c2 ⟨kd, 0, 0, ls, bd⟩).toArray PT)
  obtain ⟨g9, hg9⟩ : ∃ g, g = w6.heap.size := ⟨_, rfl⟩
  rw [← hg9] at ha
  have HR2 := Lib.hid hr2
  have HS2 := Lib.hid s2
  have HL := Lib.hid hlb
  have H2 := Lib.hid ha
  clear hh ha kp1 hr2 s2 p1 p2 HPS H KPG hlb hlb1
  go_wp2_with fail
  try rw [← hg9]
  clear hg9
  have hsub2 : ∀ k o, S k = some o → T2 k = some o := fun k o hk => HS2.out k o (HSUB.out k o hk)
  refine (KP1.out _ _ (((((HG.out.grow hsub2).skip).skip).skip)) H2.out.f1).mono ?_
  rintro e w7 ⟨nv, rfl, h⟩
  obtain ⟨T3, q3, s3, rfl, i3, h⟩ := h.lendAny
  have hsub3 : ∀ k o, S k = some o → T3 k = some o := fun k o hk => s3 k o (hsub2 k o hk)
  have hin3 := HMI.out.sub (fun k o hk => s3 k o (HS2.out k o hk))
  have kn := fun w M hw => nodes_same (E := E) (S := T3) (L := M) q3 q m w (by omega) i3 hin3 hw
  have hr3 := HR2.out.sub s3
  have ha := h.alloc (.cells (q3.cs m).toArray NT)
  obtain ⟨g11, hg11⟩ : ∃ g, g = w7.heap.size := ⟨_, rfl⟩
  rw [← hg11] at ha
  have KN := Lib.hid kn
  have HR3 := Lib.hid hr3
  have HIN3 := Lib.hid hin3
  have HSUB3 := Lib.hid hsub3
  have H3 := Lib.hid ha
  have c8 : (w7.alloc (.cells (q3.cs m).toArray NT)).rangeAt g8 0 (q.cs m) := (show Own E _ (Hp.blk g8 NT (q.cs m).toArray :: _) from ha.f3).blkRange
  obtain ⟨k0, k1, k2, k3⟩ : (w7.alloc (.cells (q3.cs m).toArray NT)).cell? ⟨g8, 0, none⟩ = some (.bool m.leaf) ∧ (w7.alloc (.cells (q3.cs m).toArray NT)).cell? ⟨g8, 1, none⟩ = some (.slice q.a1 m.ks.length q.c1) ∧ (w7.alloc (.cells (q3.cs m).toArray NT)).cell? ⟨g8, 2, none⟩ = some (.slice q.a2 m.vs.length q.c2) ∧ (w7.alloc (.cells (q3.cs m).toArray NT)).cell? ⟨g8, 3, none⟩ = some (.slice q.a3 m.ls.length q.c3) := ⟨c8 0 _ rfl, c8 1 _ rfl, c8 2 _ rfl, c8 3 _ rfl⟩
  clear h ha kn hr3 hin3 hsub3 hsub2 s3 i3 H2 KP1 HR2 HMI HS2 HSUB c8
  go_wp2_with fail
  try rw [← hg11]
  clear hg11
  refine (KN.out _ _ H3.out.f1).mono ?_
  rintro e w8 ⟨rfl, h⟩
  clear k0 k1 k2 k3 H3
  have h : Own E w8 (Hp.blk g9 PT (Pg.cs A2 c2 ⟨kd, 0, 0, ls, bd⟩).toArray :: Hp.ro T3 :: Hp.blk g11 NT (q3.cs m).toArray :: Hp.blk g8 NT (q.cs m).toArray :: Hp.blk g PT (Pg.cs PA pc p).toArray :: L) := h.f2
  have c0 : w8.cell? ⟨g9, 0, none⟩ = some (VI kd) := h.cell 0
  have c1 : w8.cell? ⟨g9, 1, none⟩ = some (VI 0) := h.cell 1
  have c2' : w8.cell? ⟨g9, 2, none⟩ = some (VI 0) := h.cell 2
  have c3 : w8.cell? ⟨g9, 3, none⟩ = some (.slice A2 ls.length c2) := h.cell 3
  have c4 : w8.cell? ⟨g9, 4, none⟩ = some (.string bd) := h.cell 4
  have f1 := h.frozen 1
  have f2 := h.frozen 2
  have hg := h.f4
  have d1 : w8.cell? ⟨g, 1, none⟩ = some (VI p.number) := hg.cell 1
  have d2 : w8.cell? ⟨g, 2, none⟩ = some (VI p.birth) := hg.cell 2
  have hne : g9 ≠ g := (h.f4.b1).ne
  have hs := (h.set 1 (VI p.number)).set 2 (VI p.birth)
  have kp2 := fun w M hG hw => parse_any (E := E) (S := T3) (L := M) A2 c2 ⟨kd, p.number, p.birth, ls, bd⟩ w hG (by show ls.length ≤ _; have := HL.out; omega) (by show bd.size ≤ _; have := HL.out; omega) HR3.out hw
  rw [(HBR.out p.number p.birth).1, (HBR.out p.number p.birth).2] at kp2
  have KP2 := Lib.hid kp2
  have HS := Lib.hid hs
  obtain ⟨l4, hl4⟩ : ∃ l4 : Nat, l4 = 4 * ls.length := ⟨_, rfl⟩
  have hlx := HL.out
  have j1 : IntKind.i64.wrap (4 * (ls.length : Int)) = (l4 : Int) := by rw [IntWalk.i64_in _ (by omega)]; omega
  have j2 : IntKind.i64.wrap ((bd.size : Int) + (l4 : Int)) = (bd.size : Int) + (l4 : Int) := IntWalk.i64_in _ (by omega)
  have j3 : ¬ (481 : Int) < (bd.size : Int) + (l4 : Int) := by omega
  clear h hg hs kp2 KN hlx hl4 HBR
  go_wp2_with fail
  refine (KP2.out _ _ ((HG.out.grow HSUB3.out).skip.skip.skip.skip) HS.out.f1).mono ?_
  rintro e w9 ⟨nv, rfl, h⟩
  obtain ⟨T4, q4, s4, rfl, i4, hh⟩ := h.lendAny
  clear h c0 c1 c2' c3 c4 f1 f2 d1 d2 hne HS KP2 j1 j2 j3
  have hin4 := HIN3.out.sub s4
  have kn := fun w M hw => nodes_same (E := E) (S := T4) (L := M) q4 q m w (by omega) i4 hin4 hw
  have KN := Lib.hid kn
  have HSUB4 := Lib.hid (fun k o hk => s4 k o (HSUB3.out k o hk))
  have HH := Lib.hid (show Own E w9 (Hp.blk g11 NT (q3.cs m).toArray :: Hp.ro T4 :: Hp.blk g9 PT _ :: Hp.blk g8 NT (q.cs m).toArray :: Hp.blk g PT (Pg.cs PA pc p).toArray :: L) from hh.f2)
  have hcc : ∀ w0 B, Own E w0 (Hp.blk g11 NT (q4.cs m).toArray :: Hp.ro T4 :: B :: Hp.blk g8 NT (q.cs m).toArray :: Hp.blk g PT (Pg.cs PA pc p).toArray :: L) → Hid (Own E w0 (Hp.ro T4 :: Hp.blk g8 NT (q.cs m).toArray :: Hp.blk g PT (Pg.cs PA pc p).toArray :: L)) ∧
      w0.cell? ⟨g11, 0, none⟩ = some (.bool m.leaf) ∧ w0.cell? ⟨g11, 1, none⟩ = some (.slice q4.a1 m.ks.length q4.c1) ∧ w0.cell? ⟨g11, 2, none⟩ = some (.slice q4.a2 m.vs.length q4.c2) ∧ w0.cell? ⟨g11, 3, none⟩ = some (.slice q4.a3 m.ls.length q4.c3) ∧
      w0.cell? ⟨g8, 0, none⟩ = some (.bool m.leaf) ∧ w0.cell? ⟨g8, 1, none⟩ = some (.slice q.a1 m.ks.length q.c1) ∧ w0.cell? ⟨g8, 2, none⟩ = some (.slice q.a2 m.vs.length q.c2) ∧ w0.cell? ⟨g8, 3, none⟩ = some (.slice q.a3 m.ls.length q.c3) := fun w0 B hw =>
    ⟨Lib.hid (hw.f2.drop.drop), hw.cell 0, hw.cell 1, hw.cell 2, hw.cell 3, hw.f3.cell 0, hw.f3.cell 1, hw.f3.cell 2, hw.f3.cell 3⟩
  have HCC := Lib.hid hcc
  clear hh s4 i4 hin4 kn hcc HIN3 HSUB3 HR3 HL
  go_wp2_with (with_reducible refine at_slot (k := none) ?_; refine wpList_store_whole (o := ⟨none, _, _, _, _, _⟩) (cs := q3.cs m) (vs := q4.cs m) HH.out rfl (ND_all1 _ _ _ _ rfl rfl rfl) (by kernel_rfl) rfl rfl rfl rfl ?_; intro w10 h; obtain ⟨H10, e0, e1, e2, e3, k0, k1, k2, k3⟩ := HCC.out _ _ h; clear h)
  refine (KN.out _ _ H10.out).mono ?_
  rintro e w11 ⟨rfl, h⟩
  have kp3 := fun w M hG hw => parse_any (E := E) (S := T4) (L := M) PA pc p w hG HP1.out HP2.out (HPR.out.sub HSUB4.out) hw
  have KP3 := Lib.hid kp3
  have hg : Own E w11 (Hp.blk g PT (Pg.cs PA pc p).toArray :: Hp.ro T4 :: L) := h.f1.drop.f1
  have hpc : ∀ w0, (∃ M, Own E w0 (Hp.blk g PT (Pg.cs PA pc p).toArray :: M)) → w0.cell? ⟨g, 0, none⟩ = some (VI p.kind) ∧ w0.cell? ⟨g, 1, none⟩ = some (VI p.number) ∧ w0.cell? ⟨g, 2, none⟩ = some (VI p.birth) ∧ w0.cell? ⟨g, 3, none⟩ = some (.slice PA p.links.length pc) ∧ w0.cell? ⟨g, 4, none⟩ = some (.string p.body) := fun w0 hw => by
    obtain ⟨_, hw⟩ := hw
    exact ⟨hw.cell 0, hw.cell 1, hw.cell 2, hw.cell 3, hw.cell 4⟩
  have HPC := Lib.hid hpc
  obtain ⟨d0, d1, d2, d3, d4⟩ := HPC.out _ ⟨_, hg⟩
  have H := Lib.hid hg
  clear h kp3 hg hpc e0 e1 e2 e3 k0 k1 k2 k3 H10 HCC HH KN
  go_wp2_with fail
  refine (KP3.out _ _ (HG.out.grow HSUB4.out).skip H.out.f1).mono ?_
  rintro e w12 ⟨nv, rfl, h⟩
  clear d0 d1 d2 d3 d4 H
  by_cases hb : p.bad = true
  · have e1 : p.node = Nd.nil := if_pos hb
    have e2 : p.wrong = 100 := if_pos hb
    rw [e1] at h
    rw [e2]
    obtain ⟨T5, q5, s5, rfl, i5, hh⟩ := h.lendAny
    have HA := Lib.hid (hh.alloc (.cells (q5.cs Nd.nil).toArray NT))
    have HS5 := Lib.hid s5
    clear h hh e1 e2 i5 s5
    go_wp2_with fail
    go_ret
    exact ⟨rfl, (HA.out.drop.f1.drop).shrink (fun k o hk => HS5.out k o (HSUB4.out k o hk))⟩
  · have hb' : p.bad = false := by simpa using hb
    have e1 : p.node = p.read := if_neg hb
    have e2 : p.wrong = 0 := if_neg hb
    obtain ⟨e3, e4⟩ := again_page p hb'
    rw [e1] at h
    rw [e2]
    obtain ⟨T5, q5, s5, rfl, i5, hh⟩ := h.lendAny
    have kg := fun w M hw => page_any (E := E) (S := T5) (L := M) q5 p.read w (by have := bulk_right e3; omega) i5 hw
    rw [e3, e4] at kg
    have KG := Lib.hid kg
    have HS5 := Lib.hid (fun k o hk => s5 k o (HSUB4.out k o hk))
    have HA := Lib.hid (hh.alloc (.cells (q5.cs p.read).toArray NT))
    clear h hh e1 e2 e3 e4 i5 s5 kg hb hb'
    generalize p.read = r at *
    go_wp2_with fail
    refine (KG.out _ _ HA.out.f1).mono ?_
    rintro e w13 ⟨pv, rfl, h⟩
    obtain ⟨T6, A6, c6, s6, rfl, hr6, hh⟩ := h.lendPage
    dsimp only at hr6
    have hg : Own E w13 (Hp.blk g PT (Pg.cs PA pc p).toArray :: Hp.ro T6 :: L) := hh.f1.drop.f1
    have ha := hg.alloc (.cells (Pg.cs A6 c6 ⟨p.kind, p.number, p.birth, p.links, p.body⟩).toArray PT)
    obtain ⟨d0, d1, d2, d3, d4⟩ := HPC.out (w13.alloc (.cells (Pg.cs A6 c6 ⟨p.kind, 0, 0, p.links, p.body⟩).toArray PT)) ⟨_, (hg.alloc _).f1⟩
    obtain ⟨y0, y1, y2, y3, y4⟩ := HPC.out (w13.alloc (.cells (Pg.cs A6 c6 ⟨p.kind, p.number, 0, p.links, p.body⟩).toArray PT)) ⟨_, (hg.alloc _).f1⟩
    obtain ⟨x0, x1, x2, x3, x4⟩ := HPC.out (w13.alloc (.cells (Pg.cs A6 c6 ⟨p.kind, p.number, p.birth, p.links, p.body⟩).toArray PT)) ⟨_, ha.f1⟩
    have ks := fun w M hw => pages_same (E := E) (S := T6) (L := M) A6 PA c6 pc p w (by have := HP1.out; omega) hr6 ((HPR.out.sub HS5.out).sub s6) hw
    have KS := Lib.hid ks
    have HS6 := Lib.hid (fun k o hk => s6 k o (HS5.out k o hk))
    have HS := Lib.hid ha
    clear h hh hg ha ks hr6 s6 HA KG
    go_wp2_with fail
    refine (KS.out _ _ HS.out.f2).mono ?_
    rintro e w14 ⟨rfl, h⟩
    have HF := Lib.hid ((h.f1.drop.f1.drop).shrink (fun k o hk => HS6.out k o hk))
    clear h HS d0 d1 d2 d3 d4 x0 x1 x2 x3 x4 y0 y1 y2 y3 y4
    go_wp2_with fail
    go_ret
    exact ⟨rfl, HF.out⟩
end
end Go.Proofs.YtbclmmneiphcaaaDoor
