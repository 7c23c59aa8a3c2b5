/- Nodes that are made of raw cells, in plain Lean: their form; what is put in keeps it. -/
import Derived.Test.YtbclmmneiphcaaaDoorNdOk
import Derived.Test.YtbclmmneiphcaaaDoorSearch
namespace Go.Proofs.YtbclmmneiphcaaaDoor
open Go.RowKit
/-- A raw cell. -/
structure Cel where
  key : ByteArray
  value : ByteArray
  kid : Int
def shortB (s : ByteArray) (n : Nat) : ByteArray := if n < s.size then s.extract 0 n else s
theorem shortB_size (s : ByteArray) (n : Nat) : (shortB s n).size ≤ n := by
  unfold shortB
  split
  · rw [ByteArray.size_extract]; omega
  · omega
theorem shortB_le (s : ByteArray) (n : Nat) : (shortB s n).size ≤ s.size := by
  unfold shortB
  split
  · rw [ByteArray.size_extract]; omega
  · omega
def keyB (s : ByteArray) : ByteArray := if (shortB s 36).size = 0 then ⟨#[107]⟩ else shortB s 36
theorem keyB_ok (s : ByteArray) : isKeyB (keyB s) = true := by
  have h := shortB_size s 36
  unfold keyB
  split
  · rfl
  · unfold isKeyB
    rw [decide_eq_true_eq]
    omega
/-- Size, by the law's own words. -/
def Nd.sizeW (n : Nd) : Nat := 4 * n.ls.length + (sumSz n.ks + n.ks.length) + (sumSz n.vs + n.vs.length)
def insAt {α : Type} (l : List α) (i : Nat) (x : α) : List α := l.take i ++ [x] ++ l.drop i
theorem insAt_len {α : Type} (l : List α) (i : Nat) (x : α) : (insAt l i x).length = l.length + 1 := by
  unfold insAt
  simp only [List.length_append, List.length_take, List.length_drop, List.length_cons, List.length_nil]; omega
theorem insAt_mem {α : Type} {l : List α} {i : Nat} {x y : α} : y ∈ insAt l i x ↔ y = x ∨ y ∈ l := by
  unfold insAt
  have h : l = l.take i ++ l.drop i := (List.take_append_drop i l).symm
  constructor
  · intro h1
    rcases List.mem_append.1 h1 with h1 | h1
    · rcases List.mem_append.1 h1 with h1 | h1
      · exact .inr (List.mem_of_mem_take h1)
      · exact .inl (List.mem_singleton.1 h1)
    · exact .inr (List.mem_of_mem_drop h1)
  · rintro (rfl | h1)
    · exact List.mem_append.2 (.inl (List.mem_append.2 (.inr (List.mem_singleton.2 rfl))))
    · rw [h] at h1
      rcases List.mem_append.1 h1 with h1 | h1
      · exact List.mem_append.2 (.inl (List.mem_append.2 (.inl h1)))
      · exact List.mem_append.2 (.inr h1)
theorem sumSz_ins (l : List ByteArray) (i : Nat) (x : ByteArray) : sumSz (insAt l i x) = sumSz l + x.size := by
  unfold insAt
  have h : sumSz l = sumSz (l.take i) + sumSz (l.drop i) := by rw [← sumSz_app, List.take_append_drop]
  rw [sumSz_app, sumSz_app, h]
  simp only [sumSz, List.map_cons, List.map_nil, List.sum_cons, List.sum_nil]; omega
/- RISING KEYS, PAIR BY PAIR -/
theorem rises_pair : ∀ {l : List ByteArray}, risesB l = true → l.Pairwise fun a b => slt a b = true
  | [], _ => List.Pairwise.nil
  | [a], _ => List.pairwise_singleton _ _
  | a :: b :: l, h => by
    have h0 : (slt a b && risesB (b :: l)) = true := h
    rw [Bool.and_eq_true] at h0
    have ih := rises_pair h0.2
    refine List.pairwise_cons.2 ⟨fun y hy => ?_, ih⟩
    rcases List.mem_cons.1 hy with rfl | hy
    · exact h0.1
    · exact slt_trans h0.1 ((List.pairwise_cons.1 ih).1 y hy)
theorem pair_rises : ∀ {l : List ByteArray}, (l.Pairwise fun a b => slt a b = true) → risesB l = true
  | [], _ => rfl
  | [_], _ => rfl
  | a :: b :: l, h => by
    have h1 := List.pairwise_cons.1 h
    show (slt a b && risesB (b :: l)) = true
    rw [h1.1 b (List.mem_cons_self ..), pair_rises h1.2]; rfl
theorem ins_rises {l : List ByteArray} {key : ByteArray} (hr : risesB l = true) (hn : isAt l (plN l key) key = false) : risesB (insAt l (plN l key) key) = true := by
  have hp := rises_pair hr
  have hle := plN_le l key
  obtain ⟨i, hi⟩ : ∃ i, i = plN l key := ⟨_, rfl⟩
  have hsplit : (l.take i ++ l.drop i).Pairwise fun a b => slt a b = true := by rw [List.take_append_drop]; exact hp
  obtain ⟨h1, h2, h3⟩ := List.pairwise_append.1 hsplit
  have ht : ∀ a ∈ l.take i, slt a key = true := fun a ha => by
    obtain ⟨j, hj, rfl⟩ := List.getElem_of_mem ha
    rw [List.length_take] at hj
    rw [List.getElem_take]
    exact plN_lt (xs := l) (i := j) (by omega) (List.getElem?_eq_getElem (by omega))
  have hd : ∀ b ∈ l.drop i, slt key b = true := fun b hb => by
    obtain ⟨j, hj, rfl⟩ := List.getElem_of_mem hb
    rw [List.length_drop] at hj
    rw [List.getElem_drop]
    have hx : l[i + j]? = some l[i + j] := List.getElem?_eq_getElem (by omega)
    have hge := plN_ge (key := key) hr (i := i + j) (by omega) hx
    have hne : l[i + j] ≠ key := fun he => by
      by_cases hj0 : j = 0
      · subst hj0
        have : isAt l (plN l key) key = true := by
          rw [← hi]
          exact (isAt_some (x := l[i + 0]) hx).2 he
        rw [hn] at this
        cases this
      · have hxi : l[i]? = some l[i] := List.getElem?_eq_getElem (by omega)
        have h4 : slt l[i] l[i + j] = true := List.pairwise_iff_getElem.1 hp i (i + j) (by omega) (by omega) (by omega)
        rw [he] at h4
        have h5 := plN_at (xs := l) (key := key) (x := l[i]) (by rw [← hi]; exact hxi)
        rw [h4] at h5
        cases h5
    rcases slt_tri l[i + j] key with ⟨ha, -⟩ | ⟨-, -, ha, -⟩ | ⟨-, ha, -⟩
    · rw [ha] at hge; cases hge
    · exact absurd ha hne
    · exact ha
  rw [← hi]
  unfold insAt
  refine pair_rises (List.pairwise_append.2 ⟨List.pairwise_append.2 ⟨h1, List.pairwise_singleton _ _, fun a ha b hb => ?_⟩, h2, fun a ha b hb => ?_⟩)
  · rw [List.mem_singleton.1 hb]; exact ht a ha
  · rcases List.mem_append.1 ha with ha | ha
    · exact h3 a ha b hb
    · rw [List.mem_singleton.1 ha]; exact hd b hb
/- KIDS -/
/-- The j-th kid lies in the j-th thousand. -/
def KidsOk (l : List Int) : Prop := ∀ (j : Nat) (k : Int), l[j]? = some k → 2 + 1000 * (j : Int) ≤ k ∧ k ≤ 2 + 1000 * (j : Int) + 999
theorem KidsOk.app {l : List Int} (h : KidsOk l) {k : Int} (h1 : 2 + 1000 * (l.length : Int) ≤ k) (h2 : k ≤ 2 + 1000 * (l.length : Int) + 999) : KidsOk (l ++ [k]) := by
  intro j x hx
  rcases Nat.lt_trichotomy j l.length with hj | hj | hj
  · rw [List.getElem?_append_left hj] at hx
    exact h j x hx
  · subst hj
    rw [List.getElem?_append_right (Nat.le_refl _), Nat.sub_self] at hx
    injection hx with hx
    subst hx
    exact ⟨h1, h2⟩
  · rw [List.getElem?_append_right (by omega)] at hx
    rw [List.getElem?_eq_none (by simp; omega)] at hx
    cases hx
theorem KidsOk.kids {l : List Int} (h : KidsOk l) (hl : l.length ≤ 4000) : kidsB l = true := by
  unfold kidsB
  rw [Bool.and_eq_true, List.all_eq_true, decide_eq_true_eq]
  refine ⟨fun k hk => ?_, ?_⟩
  · obtain ⟨j, hj, rfl⟩ := List.getElem_of_mem hk
    have h1 := h j _ (List.getElem?_eq_getElem hj)
    unfold kidB
    rw [decide_eq_true_eq]
    omega
  · rw [List.nodup_iff_pairwise_ne] 
    refine List.pairwise_iff_getElem.2 fun i j hi hj hij => ?_
    have h1 := h i _ (List.getElem?_eq_getElem hi)
    have h2 := h j _ (List.getElem?_eq_getElem hj)
    omega
/-- A node that is made of cells, so far. -/
structure MadeOk (n : Nd) (leaf : Bool) (most : Nat) : Prop where
  lf : n.leaf = leaf
  keys : ∀ s ∈ n.ks, isKeyB s = true
  rise : risesB n.ks = true
  lform : leaf = true → n.vs.length = n.ks.length ∧ n.ls = [] ∧ ∀ s ∈ n.vs, s.size ≤ 200
  iform : leaf = false → n.vs = [] ∧ n.ls.length = n.ks.length + 1 ∧ KidsOk n.ls
  sz : n.sizeW ≤ most
theorem MadeOk.size {n : Nd} {leaf : Bool} {most : Nat} (h : MadeOk n leaf most) : n.size = n.sizeW := by
  unfold Nd.size Nd.sizeW
  rw [h.lf]
  cases leaf with
  | true =>
    obtain ⟨h1, h2, -⟩ := h.lform rfl
    rw [if_pos rfl, h1, h2, List.length_nil]; omega
  | false =>
    obtain ⟨h1, h2, -⟩ := h.iform rfl
    rw [if_neg (by decide), h1, sumSz_nil, List.length_nil]; omega
theorem MadeOk.few {n : Nd} {leaf : Bool} {most : Nat} (h : MadeOk n leaf most) : n.ks.length ≤ most ∧ n.vs.length ≤ most ∧ n.ls.length ≤ most ∧ n.bulk ≤ 2 * most := by
  have := h.sz
  unfold Nd.sizeW at this
  unfold Nd.bulk
  omega
/-- A cell is put in. -/
def Nd.more (n : Nd) (c : Cel) : Nat := if n.leaf then 2 + (keyB c.key).size + (shortB c.value 200).size else 5 + (keyB c.key).size
def newKid (n : Nd) (q : Nat) : Int := 2 + 1000 * (n.ls.length : Int) + (q : Int)
def Nd.put1 (n : Nd) (c : Cel) (q : Nat) : Nd :=
  if n.leaf then ⟨true, insAt n.ks (plN n.ks (keyB c.key)) (keyB c.key), insAt n.vs (plN n.ks (keyB c.key)) (shortB c.value 200), []⟩
  else ⟨false, insAt n.ks (plN n.ks (keyB c.key)) (keyB c.key), [], n.ls ++ [newKid n q]⟩
def Nd.withC (n : Nd) (c : Cel) (q : Nat) (most : Nat) : Nd := if isAt n.ks (plN n.ks (keyB c.key)) (keyB c.key) = true ∨ most < n.sizeW + n.more c then n else n.put1 c q
theorem MadeOk.put1 {n : Nd} {leaf : Bool} {most : Nat} (h : MadeOk n leaf most) (c : Cel) (q : Nat) (hq : q < 1000) (hn : isAt n.ks (plN n.ks (keyB c.key)) (keyB c.key) = false) (hs : n.sizeW + n.more c ≤ most) : MadeOk (n.put1 c q) leaf most ∧ (n.put1 c q).sizeW = n.sizeW + n.more c ∧ (∀ s, s ∈ (n.put1 c q).ks ↔ s = keyB c.key ∨ s ∈ n.ks) := by
  have hk := keyB_ok c.key
  obtain ⟨lf, keys, rise, lform, iform, sz⟩ := h
  obtain ⟨lf0, ks, vs, ls⟩ := n
  dsimp only at lf keys rise lform iform hn
  subst lf
  have hr := ins_rises rise hn
  have hkm : ∀ s ∈ insAt ks (plN ks (keyB c.key)) (keyB c.key), isKeyB s = true := fun s hs => by
    rcases insAt_mem.1 hs with rfl | hs
    · exact hk
    · exact keys s hs
  cases lf0 with
  | true =>
    obtain ⟨h1, h2, h3⟩ := lform rfl
    have he : (⟨true, ks, vs, ls⟩ : Nd).put1 c q = ⟨true, insAt ks (plN ks (keyB c.key)) (keyB c.key), insAt vs (plN ks (keyB c.key)) (shortB c.value 200), []⟩ := rfl
    have hm : (⟨true, ks, vs, ls⟩ : Nd).more c = 2 + (keyB c.key).size + (shortB c.value 200).size := rfl
    rw [hm] at hs ⊢
    rw [he]
    have hz : (⟨true, insAt ks (plN ks (keyB c.key)) (keyB c.key), insAt vs (plN ks (keyB c.key)) (shortB c.value 200), []⟩ : Nd).sizeW = (⟨true, ks, vs, ls⟩ : Nd).sizeW + (2 + (keyB c.key).size + (shortB c.value 200).size) := by
      unfold Nd.sizeW
      dsimp only
      rw [sumSz_ins, sumSz_ins, insAt_len, insAt_len, h2]; omega
    refine ⟨⟨rfl, hkm, hr, fun _ => ⟨?_, rfl, fun s hs => ?_⟩, fun hf => (by cases hf), by rw [hz]; exact hs⟩, hz, fun s => insAt_mem⟩
    · dsimp only; rw [insAt_len, insAt_len, h1]
    · rcases insAt_mem.1 hs with rfl | hs
      · exact shortB_size _ _
      · exact h3 s hs
  | false =>
    obtain ⟨h1, h2, h3⟩ := iform rfl
    have he : (⟨false, ks, vs, ls⟩ : Nd).put1 c q = ⟨false, insAt ks (plN ks (keyB c.key)) (keyB c.key), [], ls ++ [2 + 1000 * (ls.length : Int) + (q : Int)]⟩ := rfl
    have hm : (⟨false, ks, vs, ls⟩ : Nd).more c = 5 + (keyB c.key).size := rfl
    rw [hm] at hs ⊢
    rw [he]
    have hz : (⟨false, insAt ks (plN ks (keyB c.key)) (keyB c.key), [], ls ++ [2 + 1000 * (ls.length : Int) + (q : Int)]⟩ : Nd).sizeW = (⟨false, ks, vs, ls⟩ : Nd).sizeW + (5 + (keyB c.key).size) := by
      unfold Nd.sizeW
      dsimp only
      rw [sumSz_ins, insAt_len, List.length_append, h1]
      simp only [List.length_cons, List.length_nil, sumSz_nil]; omega
    refine ⟨⟨rfl, hkm, hr, fun hf => (by cases hf), fun _ => ⟨rfl, ?_, h3.app (by omega) (by omega)⟩, by rw [hz]; exact hs⟩, hz, fun s => insAt_mem⟩
    dsimp only
    rw [insAt_len, List.length_append, h2]; rfl
theorem MadeOk.with {n : Nd} {leaf : Bool} {most : Nat} (h : MadeOk n leaf most) (c : Cel) (q : Nat) (hq : q < 1000) : MadeOk (n.withC c q most) leaf most := by
  unfold Nd.withC
  split
  · exact h
  · rename_i hc
    have h1 : isAt n.ks (plN n.ks (keyB c.key)) (keyB c.key) = false := by
      cases hh : isAt n.ks (plN n.ks (keyB c.key)) (keyB c.key)
      · rfl
      · exact absurd (.inl hh) hc
    exact (h.put1 c q hq h1 (by omega)).1
/-- A made node with keys is right, if it fits. -/
theorem MadeOk.formed {n : Nd} {leaf : Bool} {most : Nat} (h : MadeOk n leaf most) (hk : n.ks ≠ []) (hm : most ≤ 3000) : n.formed 1 = true ∧ mayB n.ks = true := by
  have hl : 1 ≤ n.ks.length := by
    cases hks : n.ks
    · exact absurd hks hk
    · simp
  refine ⟨?_, ?_⟩
  · unfold Nd.formed
    rw [h.lf]
    cases leaf with
    | true =>
      obtain ⟨h1, h2, h3⟩ := h.lform rfl
      rw [if_pos rfl, Bool.and_eq_true, decide_eq_true_eq, List.all_eq_true]
      exact ⟨⟨hl, h1, by rw [h2]; rfl⟩, fun s hs => decide_eq_true (h3 s hs)⟩
    | false =>
      obtain ⟨h1, h2, h3⟩ := h.iform rfl
      have hf := h.few
      rw [if_neg (by decide), Bool.and_eq_true, decide_eq_true_eq]
      exact ⟨⟨hl, h2, by rw [h1]; rfl⟩, h3.kids (by omega)⟩
  · unfold mayB
    rw [Bool.and_eq_true, List.all_eq_true]
    exact ⟨h.keys, h.rise⟩
theorem MadeOk.right {n : Nd} {leaf : Bool} (h : MadeOk n leaf 480) (hk : n.ks ≠ []) : n.wrong = 0 := by
  obtain ⟨h1, h2⟩ := h.formed hk (by omega)
  have h3 := h.size
  have h4 := h.sz
  unfold Nd.wrong
  rw [if_pos h1, if_pos h2, if_neg (by omega)]
/-- The first node. -/
def Nd.start (leaf : Bool) : Nd := ⟨leaf, [], [], if leaf then [] else [2]⟩
theorem MadeOk.start (leaf : Bool) (most : Nat) (hm : 4 ≤ most) : MadeOk (Nd.start leaf) leaf most := by
  refine ⟨rfl, fun _ h => (by cases h), rfl, ?_, ?_, ?_⟩
  · rintro rfl; exact ⟨rfl, rfl, fun _ h => (by cases h)⟩
  · rintro rfl
    refine ⟨rfl, rfl, ?_⟩
    intro j k hj
    match j, hj with
    | 0, hj => injection hj with hj; subst hj; omega
  · cases leaf
    · show 4 * 1 + (0 + 0) + (0 + 0) ≤ most; omega
    · show 4 * 0 + (0 + 0) + (0 + 0) ≤ most; omega
end Go.Proofs.YtbclmmneiphcaaaDoor
