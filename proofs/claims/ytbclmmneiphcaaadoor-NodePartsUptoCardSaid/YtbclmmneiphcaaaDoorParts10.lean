/- NodeParts in plain Lean: the best cut leaves enough on both sides; the parts are right, and put together they are the node again. latchkeylaw10.below, above, NodeParts. -/
import Derived.Test.YtbclmmneiphcaaaDoorSplit
import Derived.Test.YtbclmmneiphcaaaDoorMade0
import Derived.Test.YtbclmmneiphcaaaDoorBack10
namespace Go.Proofs.YtbclmmneiphcaaaDoor
open Go.RowKit
theorem getD_some {l : List ByteArray} {i : Nat} {x : ByteArray} (h : l[i]? = some x) : l.getD i ⟨#[]⟩ = x := by rw [List.getD_eq_getElem?_getD, h]; rfl
/-- What lies between two keys. -/
theorem between_ok {x y : ByteArray} (h : slt x y = true) (hy : y.size ≤ 36) : slt x (betweenV x y) = true ∧ slt y (betweenV x y) = false ∧ 1 ≤ (betweenV x y).size ∧ (betweenV x y).size ≤ 36 := by
  have e0 : betweenV x y = y.extract 0 (cpl x.data.toList y.data.toList + 1) := if_pos h
  obtain ⟨hm1, -⟩ := cpl_end x.data.toList y.data.toList h
  have hm1' : cpl x.data.toList y.data.toList < y.size := hm1
  rw [e0]
  refine ⟨by unfold slt; rw [extract_front]; exact cpl_high _ _ h, by unfold slt; rw [extract_front]; exact less_pre _ _, ?_, ?_⟩ <;> rw [ByteArray.size_extract] <;> omega
/- SIZES OF PARTS -/
/-- What an entry weighs. -/
def Nd.w1 (n : Nd) (j : Nat) : Nat := if n.leaf then 2 + (n.ks.getD j ⟨#[]⟩).size + (n.vs.getD j ⟨#[]⟩).size else 5 + (n.ks.getD j ⟨#[]⟩).size
/-- What the first entries weigh. -/
def Nd.pw (n : Nd) : Nat → Nat
  | 0 => 0
  | j + 1 => n.pw j + n.w1 j
theorem pw_leaf {n : Nd} (hl : n.leaf = true) (hv : n.vs.length = n.ks.length) : ∀ j, j ≤ n.ks.length → n.pw j = sumSz (n.ks.take j) + sumSz (n.vs.take j) + 2 * j
  | 0, _ => by simp [Nd.pw, sumSz]
  | j + 1, hj => by
    have ih := pw_leaf hl hv j (by omega)
    have hx : n.ks[j]? = some n.ks[j] := List.getElem?_eq_getElem (by omega)
    have hy : n.vs[j]? = some n.vs[j] := List.getElem?_eq_getElem (by omega)
    show n.pw j + n.w1 j = _
    rw [ih, sumSz_take n.ks j _ hx, sumSz_take n.vs j _ hy]
    unfold Nd.w1
    rw [if_pos hl, getD_some hx, getD_some hy]; omega
theorem pw_inner {n : Nd} (hl : n.leaf = false) : ∀ j, j ≤ n.ks.length → n.pw j = sumSz (n.ks.take j) + 5 * j
  | 0, _ => by simp [Nd.pw, sumSz]
  | j + 1, hj => by
    have ih := pw_inner hl j (by omega)
    have hx : n.ks[j]? = some n.ks[j] := List.getElem?_eq_getElem (by omega)
    show n.pw j + n.w1 j = _
    rw [ih, sumSz_take n.ks j _ hx]
    unfold Nd.w1
    rw [hl, if_neg (by decide), getD_some hx]; omega
theorem sumSz_split (l : List ByteArray) (j : Nat) : sumSz l = sumSz (l.take j) + sumSz (l.drop j) := by rw [← sumSz_app, List.take_append_drop]
theorem leaf_sizes {n : Nd} (hl : n.leaf = true) (hv : n.vs.length = n.ks.length) {j : Nat} (hj : j ≤ n.ks.length) : (n.lo j).size = n.pw j ∧ (n.hi j).size + n.pw j = n.size ∧ n.size = n.pw n.ks.length := by
  have h1 := pw_leaf hl hv j hj
  have h2 := pw_leaf hl hv n.ks.length (Nat.le_refl _)
  have s1 := sumSz_split n.ks j
  have s2 := sumSz_split n.vs j
  have e1 : n.lo j = ⟨true, n.ks.take j, n.vs.take j, []⟩ := if_pos hl
  have e2 : n.hi j = ⟨true, n.ks.drop j, n.vs.drop j, []⟩ := if_pos hl
  rw [List.take_length, List.take_of_length_le (by omega)] at h2
  rw [e1, e2]
  unfold Nd.size
  rw [if_pos hl]
  dsimp only
  rw [if_pos rfl, if_pos rfl, List.length_take, List.length_take, List.length_drop, List.length_drop]
  refine ⟨?_, ?_, ?_⟩ <;> omega
theorem inner_sizes {n : Nd} (hl : n.leaf = false) (hv : n.ls.length = n.ks.length + 1) {j : Nat} (hj : j < n.ks.length) : (n.lo j).size = 4 + n.pw j ∧ (n.hi j).size + n.pw (j + 1) = n.size ∧ n.size = 4 + n.pw n.ks.length := by
  have h1 := pw_inner hl j (by omega)
  have h3 := pw_inner hl (j + 1) (by omega)
  have h2 := pw_inner hl n.ks.length (Nat.le_refl _)
  have s1 := sumSz_split n.ks (j + 1)
  have e1 : n.lo j = ⟨false, n.ks.take j, [], n.ls.take (j + 1)⟩ := if_neg (by rw [hl]; decide)
  have e2 : n.hi j = ⟨false, n.ks.drop (j + 1), [], n.ls.drop (j + 1)⟩ := if_neg (by rw [hl]; decide)
  rw [List.take_length] at h2
  rw [e1, e2]
  unfold Nd.size
  rw [hl, if_neg Bool.false_ne_true]
  dsimp only
  rw [if_neg (by decide), if_neg (by decide), List.length_take, List.length_take, List.length_drop, List.length_drop]
  refine ⟨?_, ?_, ?_⟩ <;> omega
theorem cutRun_best (n : Nd) : ∀ k j, 1 ≤ j → j ≤ k → n.gr (cutRun n k) ≤ n.gr j
  | 0, j, h1, h2 => by omega
  | k + 1, j, h1, h2 => by
    show n.gr (if k = 0 ∨ n.gr (k + 1) < n.gr (cutRun n k) then k + 1 else cutRun n k) ≤ _
    by_cases hk : k = 0
    · rw [if_pos (.inl hk)]
      obtain rfl : j = k + 1 := by omega
      exact Nat.le_refl _
    · have ih := fun h => cutRun_best n k j h1 h
      by_cases hc : n.gr (k + 1) < n.gr (cutRun n k)
      · rw [if_pos (.inr hc)]
        rcases Nat.lt_or_ge k j with h | h
        · obtain rfl : j = k + 1 := by omega
          exact Nat.le_refl _
        · have := ih h; omega
      · rw [if_neg (by rintro (h | h); exact hk h; exact hc h)]
        rcases Nat.lt_or_ge k j with h | h
        · obtain rfl : j = k + 1 := by omega
          omega
        · exact ih h
/-- A first place that has passed a bound. -/
theorem first_past (f : Nat → Nat) (B : Nat) : ∀ m, B ≤ f m → f 0 < B → ∃ i, 1 ≤ i ∧ i ≤ m ∧ B ≤ f i ∧ f (i - 1) < B
  | 0, h1, h2 => by omega
  | m + 1, h1, h2 => by
    by_cases h : B ≤ f m
    · obtain ⟨i, a, b, c, d⟩ := first_past f B m h h2
      exact ⟨i, a, by omega, c, d⟩
    · exact ⟨m + 1, by omega, Nat.le_refl _, h1, by show f m < B; omega⟩
theorem pw_step (n : Nd) {i : Nat} (h : 1 ≤ i) : n.pw i = n.pw (i - 1) + n.w1 (i - 1) := by
  obtain ⟨j, rfl⟩ : ∃ j, i = j + 1 := ⟨i - 1, by omega⟩
  rfl
theorem pw_mono (n : Nd) {i j : Nat} (h : i ≤ j) : n.pw i ≤ n.pw j := by
  induction j with
  | zero => obtain rfl : i = 0 := by omega
            exact Nat.le_refl _
  | succ j ih =>
    rcases Nat.lt_or_ge j i with h1 | h1
    · obtain rfl : i = j + 1 := by omega
      exact Nat.le_refl _
    · have := ih h1
      have e : n.pw (j + 1) = n.pw j + n.w1 j := rfl
      omega
/-- How the best cut parts a node. -/
theorem cut_sizes {n : Nd} {leaf : Bool} (h : MadeOk n leaf 718) (h1 : 481 ≤ n.size) (hs : Splits n) : 120 ≤ (n.lo n.cut).size ∧ (n.lo n.cut).size ≤ 480 ∧ 120 ≤ (n.hi n.cut).size ∧ (n.hi n.cut).size ≤ 480 := by
  have hc := hs.cut
  have hl := hs.last
  have hk := hs.k3
  have h2 := hs.s2
  have hbest := fun j a b => cutRun_best n n.lastP j a b
  have hcut : n.cut = cutRun n n.lastP := rfl
  rw [← hcut] at hbest
  have hks : ∀ j, (n.ks.getD j ⟨#[]⟩).size ≤ 36 := fun j => by
    rw [List.getD_eq_getElem?_getD]
    cases e : n.ks[j]? with
    | none => show (0 : Nat) ≤ 36; omega
    | some x =>
      have := h.keys x (List.mem_of_getElem? e)
      unfold isKeyB at this
      exact (of_decide_eq_true this).2
  have hP : n.lastP = if n.leaf then n.ks.length - 1 else n.ks.length - 2 := rfl
  have hlf := h.lf
  cases leaf with
  | true =>
    obtain ⟨hv, -, hv2⟩ := h.lform rfl
    rw [hlf, if_pos rfl] at hP
    have hvs : ∀ j, (n.vs.getD j ⟨#[]⟩).size ≤ 200 := fun j => by
      rw [List.getD_eq_getElem?_getD]
      cases e : n.vs[j]? with
      | none => show (0 : Nat) ≤ 200; omega
      | some x => exact hv2 x (List.mem_of_getElem? e)
    have hw : ∀ j, n.w1 j ≤ 238 := fun j => by
      have a := hks j
      have b := hvs j
      unfold Nd.w1
      rw [hlf, if_pos rfl]; omega
    obtain ⟨a1, a2, a3⟩ := leaf_sizes hlf hv (j := n.cut) (by omega)
    obtain ⟨i, i1, i2, i3, i4⟩ := first_past n.pw ((n.size + 1) / 2) n.ks.length (by omega) (by show 0 < _; omega)
    have hst := pw_step n i1
    have hwi := hw (i - 1)
    -- the place i, or the one ahead of it
    have key : ∃ j, 1 ≤ j ∧ j ≤ n.lastP ∧ 2 * n.pw j ≤ n.size + 239 ∧ n.size ≤ 2 * n.pw j + 239 := by
      by_cases hb : 2 * n.pw i ≤ n.size + 239
      · refine ⟨i, i1, ?_, hb, by omega⟩
        rcases Nat.lt_or_ge i n.ks.length with h | h
        · omega
        · have := pw_mono n h; omega
      · refine ⟨i - 1, ?_, by omega, by omega, by omega⟩
        rcases Nat.eq_zero_or_pos (i - 1) with h | h
        · rw [h] at hst hwi; have e0 : n.pw 0 = 0 := rfl; omega
        · exact h
    obtain ⟨j, j1, j2, j3, j4⟩ := key
    have hg := hbest j j1 j2
    obtain ⟨b1, b2, -⟩ := leaf_sizes hlf hv (j := j) (by omega)
    unfold Nd.gr at hg
    omega
  | false =>
    obtain ⟨-, hv, -⟩ := h.iform rfl
    rw [hlf, if_neg (by decide)] at hP
    have hw : ∀ j, 5 ≤ n.w1 j ∧ n.w1 j ≤ 41 := fun j => by
      have a := hks j
      unfold Nd.w1
      rw [hlf, if_neg (by decide)]; omega
    obtain ⟨a1, a2, a3⟩ := inner_sizes hlf hv (j := n.cut) (by omega)
    obtain ⟨i, i1, i2, i3, i4⟩ := first_past n.pw ((n.size + 1) / 2 - 4) n.ks.length (by omega) (by show 0 < _; omega)
    have hst := pw_step n i1
    have hwi := hw (i - 1)
    have p0 : n.pw 0 = 0 := rfl
    have p1 : n.pw 1 = 0 + n.w1 0 := rfl
    have hw0 := hw 0
    have hlast := pw_step n (i := n.ks.length) (by omega)
    have hwl := hw (n.ks.length - 1)
    have j1 : 1 ≤ i - 1 := by
      rcases Nat.lt_or_ge i 2 with h | h
      · obtain rfl : i = 1 := by omega
        omega
      · omega
    have j2 : i ≤ n.ks.length - 1 := by
      rcases Nat.lt_or_ge i n.ks.length with h | h
      · omega
      · obtain rfl : i = n.ks.length := by omega
        omega
    have hg := hbest (i - 1) j1 (by omega)
    obtain ⟨b1, b2, -⟩ := inner_sizes hlf hv (j := i - 1) (by omega)
    have e1 : i - 1 + 1 = i := by omega
    rw [e1] at b2
    have hst2 : n.pw (n.cut + 1) = n.pw n.cut + n.w1 n.cut := rfl
    have hwc := hw n.cut
    unfold Nd.gr at hg
    omega
/- THE PARTS ARE RIGHT -/
theorem pair_take {l : List ByteArray} (h : risesB l = true) (j : Nat) : risesB (l.take j) = true := pair_rises ((rises_pair h).sublist (List.take_sublist j l))
theorem pair_drop {l : List ByteArray} (h : risesB l = true) (j : Nat) : risesB (l.drop j) = true := pair_rises ((rises_pair h).sublist (List.drop_sublist j l))
theorem formed_sizeW {n : Nd} {m : Nat} (h : n.formed m = true) : n.sizeW = n.size := by
  unfold Nd.formed at h
  unfold Nd.sizeW Nd.size
  cases hl : n.leaf with
  | true =>
    rw [hl, if_pos rfl] at h
    simp only [Bool.and_eq_true, decide_eq_true_eq] at h
    rw [if_pos rfl]; omega
  | false =>
    rw [hl, if_neg (by decide)] at h
    simp only [Bool.and_eq_true, decide_eq_true_eq] at h
    have : n.vs = [] := List.eq_nil_of_length_eq_zero h.1.2.2
    rw [if_neg (by decide), this, sumSz_nil, List.length_nil]; omega
theorem wrong_of {n : Nd} (h1 : n.formed 1 = true) (h2 : mayB n.ks = true) (h3 : n.size ≤ 480) : n.wrong = 0 := by
  unfold Nd.wrong
  rw [if_pos h1, if_pos h2, if_neg (by omega)]
theorem formed_zero {n : Nd} (h : n.formed 1 = true) : n.formed 0 = true := by
  unfold Nd.formed at h ⊢
  cases hl : n.leaf with
  | true =>
    rw [hl, if_pos rfl] at h
    simp only [Bool.and_eq_true, decide_eq_true_eq] at h
    rw [if_pos rfl]
    simp only [Bool.and_eq_true, decide_eq_true_eq]
    exact ⟨⟨by omega, h.1.2⟩, h.2⟩
  | false => rw [hl, if_neg (by decide)] at h; rw [if_neg (by decide)]; exact h
/-- All that NodeParts says of a made node. -/
structure Parted (n : Nd) (leaf : Bool) : Prop where
  e : n.splitE = 0
  k1 : 1 ≤ n.spK.size
  k2 : n.spK.size ≤ 36
  la : n.spA.leaf = leaf
  lb : n.spB.leaf = leaf
  below : ∀ s ∈ n.spA.ks, slt s n.spK = true
  above : ∀ s ∈ n.spB.ks, slt s n.spK = false ∧ (leaf = false → s ≠ n.spK)
  wa : n.spA.wrong = 0
  wb : n.spB.wrong = 0
  za : n.spA.sizeW = n.spA.size ∧ 120 ≤ n.spA.size ∧ n.spA.size ≤ 480
  zb : n.spB.sizeW = n.spB.size ∧ 120 ≤ n.spB.size ∧ n.spB.size ≤ 480
  je : joinE n.spA n.spK n.spB = 0
  jn : n.spA.join n.spK n.spB = n
theorem parted {n : Nd} {leaf : Bool} (h : MadeOk n leaf 718) (hne : n.ks ≠ []) (hsz : 481 ≤ n.sizeW) : Parted n leaf := by
  obtain ⟨hf, hm⟩ := h.formed hne (by omega)
  have hz := h.size
  have hmost := h.sz
  have hw : n.wrong = 102 := by
    unfold Nd.wrong
    rw [if_pos hf, if_pos hm, if_pos (by omega)]
  have he : n.splitE = 0 := by
    unfold Nd.splitE
    rw [if_neg (by rw [hw]; omega), if_neg (by omega)]
  have hs := splits_of he
  obtain ⟨z1, z2, z3, z4⟩ := cut_sizes h (by omega) hs
  have hc := hs.cut
  have hl := hs.last
  have hk := hs.k3
  have eA : n.spA = n.lo n.cut := if_pos he
  have eB : n.spB = n.hi n.cut := if_pos he
  have eK : n.spK = n.mid n.cut := if_pos he
  have hP : n.lastP = if n.leaf then n.ks.length - 1 else n.ks.length - 2 := rfl
  have hkeys : ∀ s ∈ n.ks, 1 ≤ s.size ∧ s.size ≤ 36 := fun s hs => by
    have := h.keys s hs
    unfold isKeyB at this
    exact of_decide_eq_true this
  have hpair := List.pairwise_iff_getElem.1 (rises_pair h.rise)
  generalize n.cut = i at *
  have hi : i < n.ks.length := by omega
  have hx : n.ks[i - 1]? = some n.ks[i - 1] := List.getElem?_eq_getElem (by omega)
  have hy : n.ks[i]? = some n.ks[i] := List.getElem?_eq_getElem hi
  have hkx := hkeys _ (List.mem_of_getElem? hx)
  have hky := hkeys _ (List.mem_of_getElem? hy)
  have hlf := h.lf
  have mayT : ∀ j, mayB (n.ks.take j) = true := fun j => by
    unfold mayB
    rw [Bool.and_eq_true, List.all_eq_true]
    exact ⟨fun s hs => h.keys s (List.mem_of_mem_take hs), pair_take h.rise j⟩
  have mayD : ∀ j, mayB (n.ks.drop j) = true := fun j => by
    unfold mayB
    rw [Bool.and_eq_true, List.all_eq_true]
    exact ⟨fun s hs => h.keys s (List.mem_of_mem_drop hs), pair_drop h.rise j⟩
  cases leaf with
  | true =>
    obtain ⟨hv, hls, hv2⟩ := h.lform rfl
    rw [hlf, if_pos rfl] at hP
    have e1 : n.lo i = ⟨true, n.ks.take i, n.vs.take i, []⟩ := if_pos hlf
    have e2 : n.hi i = ⟨true, n.ks.drop i, n.vs.drop i, []⟩ := if_pos hlf
    have e3 : n.mid i = betweenV n.ks[i - 1] n.ks[i] := by
      unfold Nd.mid
      rw [if_pos hlf, getD_some hx, getD_some hy]
    obtain ⟨b1, b2, b3, b4⟩ := between_ok (hpair (i - 1) i (by omega) hi (by omega)) hky.2
    rw [← e3] at b1 b2 b3 b4
    have fa : (⟨true, n.ks.take i, n.vs.take i, []⟩ : Nd).formed 1 = true := by
      unfold Nd.formed
      rw [if_pos rfl, Bool.and_eq_true, decide_eq_true_eq, List.all_eq_true]
      dsimp only
      rw [List.length_take, List.length_take]
      exact ⟨⟨by omega, by omega, rfl⟩, fun s hs => decide_eq_true (hv2 s (List.mem_of_mem_take hs))⟩
    have fb : (⟨true, n.ks.drop i, n.vs.drop i, []⟩ : Nd).formed 1 = true := by
      unfold Nd.formed
      rw [if_pos rfl, Bool.and_eq_true, decide_eq_true_eq, List.all_eq_true]
      dsimp only
      rw [List.length_drop, List.length_drop]
      exact ⟨⟨by omega, by omega, rfl⟩, fun s hs => decide_eq_true (hv2 s (List.mem_of_mem_drop hs))⟩
    have hbel : ∀ s ∈ n.ks.take i, slt s (n.mid i) = true := fun s hs => by
      obtain ⟨j, hj, rfl⟩ := List.getElem_of_mem hs
      rw [List.length_take] at hj
      rw [List.getElem_take]
      rcases Nat.lt_or_ge j (i - 1) with hj2 | hj2
      · exact slt_trans (hpair j (i - 1) (by omega) (by omega) hj2) b1
      · obtain rfl : j = i - 1 := by omega
        exact b1
    have habo : ∀ s ∈ n.ks.drop i, slt s (n.mid i) = false := fun s hs => by
      obtain ⟨j, hj, rfl⟩ := List.getElem_of_mem hs
      rw [List.length_drop] at hj
      rw [List.getElem_drop]
      rcases Nat.eq_zero_or_pos j with hj2 | hj2
      · subst hj2; exact b2
      · have h5 := hpair i (i + j) hi (by omega) (by omega)
        cases h6 : slt n.ks[i + j] (n.mid i) with
        | false => rfl
        | true => rw [slt_trans h5 h6] at b2; cases b2
    rw [e1] at eA z1 z2
    rw [e2] at eB z3 z4
    have hap : apartB n.spA n.spK n.spB = true := by
      rw [eA, eB, eK]
      unfold apartB
      dsimp only
      rw [Bool.and_eq_true]
      refine ⟨?_, ?_⟩
      · cases hg : (n.ks.take i).getLast? with
        | none => rfl
        | some x => exact hbel x (List.mem_of_getLast? hg)
      · cases hg : (n.ks.drop i)[0]? with
        | none => rfl
        | some y =>
          have h7 := habo y (List.mem_of_getElem? hg)
          have h8 : n.ks[i]? = some y := by rw [List.getElem?_drop] at hg; exact hg
          rw [hy] at h8
          injection h8 with h8
          rw [← h8]
          show (slt (n.mid i) n.ks[i] || (true && !slt n.ks[i] (n.mid i))) = true
          rw [b2]; simp
    have hput : n.spA.put n.spK n.spB = n := by
      rw [eA, eB]
      unfold Nd.put
      rw [if_pos rfl]
      dsimp only
      rw [List.take_append_drop, List.take_append_drop]
      obtain ⟨a, b, c, d⟩ := n
      dsimp only at hlf hls
      subst hlf hls
      rfl
    have hkd : kidsB (n.spA.put n.spK n.spB).ls = true := by rw [hput, hls]; rfl
    have hje : joinE n.spA n.spK n.spB = 0 := by
      unfold joinE
      rw [if_neg (by rw [eA, eB]; exact fun hn => hn ⟨formed_zero fa, formed_zero fb, z2, z4⟩),
        if_neg (by rw [eA, eB, eK]; exact fun hn => hn ⟨mayT i, mayD i, by unfold isKeyB; exact decide_eq_true ⟨b3, b4⟩⟩),
        if_neg (by exact fun hn => hn ⟨by rw [eA, eB], hap⟩), if_neg (by rw [hkd]; decide), if_neg (by rw [hput]; omega)]
    refine ⟨he, by rw [eK]; exact b3, by rw [eK]; exact b4, by rw [eA], by rw [eB], by rw [eA, eK]; exact hbel, ?_, by rw [eA]; exact wrong_of fa (mayT i) z2, by rw [eB]; exact wrong_of fb (mayD i) z4, by rw [eA]; exact ⟨formed_sizeW fa, z1, z2⟩, by rw [eB]; exact ⟨formed_sizeW fb, z3, z4⟩, hje, ?_⟩
    · rw [eB, eK]; exact fun s hs => ⟨habo s hs, fun hc => by cases hc⟩
    · unfold Nd.join; rw [if_pos hje]; exact hput
  | false =>
    obtain ⟨hv, hls, hkid⟩ := h.iform rfl
    rw [hlf, if_neg (by decide)] at hP
    have e1 : n.lo i = ⟨false, n.ks.take i, [], n.ls.take (i + 1)⟩ := if_neg (by rw [hlf]; decide)
    have e2 : n.hi i = ⟨false, n.ks.drop (i + 1), [], n.ls.drop (i + 1)⟩ := if_neg (by rw [hlf]; decide)
    have e3 : n.mid i = n.ks[i] := by
      unfold Nd.mid
      rw [hlf, if_neg (by decide), getD_some hy]
    have hkk := hkid.kids (by have := h.few; omega)
    have hkB := hkk
    unfold kidsB at hkB
    rw [Bool.and_eq_true, List.all_eq_true, decide_eq_true_eq] at hkB
    have fa : (⟨false, n.ks.take i, [], n.ls.take (i + 1)⟩ : Nd).formed 1 = true := by
      unfold Nd.formed
      rw [if_neg Bool.false_ne_true, Bool.and_eq_true, decide_eq_true_eq]
      dsimp only
      rw [List.length_take, List.length_take]
      refine ⟨⟨by omega, by omega, rfl⟩, ?_⟩
      unfold kidsB
      rw [Bool.and_eq_true, List.all_eq_true, decide_eq_true_eq]
      exact ⟨fun k hk => hkB.1 k (List.mem_of_mem_take hk), hkB.2.sublist (List.take_sublist _ _)⟩
    have fb : (⟨false, n.ks.drop (i + 1), [], n.ls.drop (i + 1)⟩ : Nd).formed 1 = true := by
      unfold Nd.formed
      rw [if_neg Bool.false_ne_true, Bool.and_eq_true, decide_eq_true_eq]
      dsimp only
      rw [List.length_drop, List.length_drop]
      refine ⟨⟨by omega, by omega, rfl⟩, ?_⟩
      unfold kidsB
      rw [Bool.and_eq_true, List.all_eq_true, decide_eq_true_eq]
      exact ⟨fun k hk => hkB.1 k (List.mem_of_mem_drop hk), hkB.2.sublist (List.drop_sublist _ _)⟩
    have hbel : ∀ s ∈ n.ks.take i, slt s n.ks[i] = true := fun s hs => by
      obtain ⟨j, hj, rfl⟩ := List.getElem_of_mem hs
      rw [List.length_take] at hj
      rw [List.getElem_take]
      exact hpair j i (by omega) hi (by omega)
    have habo : ∀ s ∈ n.ks.drop (i + 1), slt n.ks[i] s = true := fun s hs => by
      obtain ⟨j, hj, rfl⟩ := List.getElem_of_mem hs
      rw [List.length_drop] at hj
      rw [List.getElem_drop]
      exact hpair i (i + 1 + j) hi (by omega) (by omega)
    rw [e1] at eA z1 z2
    rw [e2] at eB z3 z4
    rw [e3] at eK
    have hap : apartB n.spA n.spK n.spB = true := by
      rw [eA, eB, eK]
      unfold apartB
      dsimp only
      rw [Bool.and_eq_true]
      refine ⟨?_, ?_⟩
      · cases hg : (n.ks.take i).getLast? with
        | none => rfl
        | some x => exact hbel x (List.mem_of_getLast? hg)
      · cases hg : (n.ks.drop (i + 1))[0]? with
        | none => rfl
        | some y =>
          show (slt n.ks[i] y || _) = true
          rw [habo y (List.mem_of_getElem? hg)]; rfl
    have hput : n.spA.put n.spK n.spB = n := by
      rw [eA, eB, eK]
      unfold Nd.put
      rw [if_neg Bool.false_ne_true]
      dsimp only
      rw [List.take_append_drop, List.append_assoc, List.singleton_append, ← List.drop_eq_getElem_cons hi, List.take_append_drop]
      obtain ⟨a, b, c, d⟩ := n
      dsimp only at hlf hv
      subst hlf hv
      rfl
    have hje : joinE n.spA n.spK n.spB = 0 := by
      unfold joinE
      rw [if_neg (by rw [eA, eB]; exact fun hn => hn ⟨formed_zero fa, formed_zero fb, z2, z4⟩),
        if_neg (by rw [eA, eB, eK]; exact fun hn => hn ⟨mayT i, mayD _, by unfold isKeyB; exact decide_eq_true hky⟩),
        if_neg (by exact fun hn => hn ⟨by rw [eA, eB], hap⟩), if_neg (by rw [hput, hkk]; decide), if_neg (by rw [hput]; omega)]
    refine ⟨he, by rw [eK]; exact hky.1, by rw [eK]; exact hky.2, by rw [eA], by rw [eB], by rw [eA, eK]; exact hbel, ?_, by rw [eA]; exact wrong_of fa (mayT i) z2, by rw [eB]; exact wrong_of fb (mayD _) z4, by rw [eA]; exact ⟨formed_sizeW fa, z1, z2⟩, by rw [eB]; exact ⟨formed_sizeW fb, z3, z4⟩, hje, ?_⟩
    · rw [eB, eK]
      intro s hs
      have h5 := habo s hs
      exact ⟨slt_asymm h5, fun _ h6 => by rw [h6, slt_irrefl] at h5; cases h5⟩
    · unfold Nd.join; rw [if_pos hje]; exact hput
end Go.Proofs.YtbclmmneiphcaaaDoor
namespace Go.Proofs.YtbclmmneiphcaaaDoor
open Go.RowKit
theorem ne_beq {x key : ByteArray} (h : x ≠ key) : (x.toList == key.toList) = false := by
  rw [ByteArray.toList_eq, ByteArray.toList_eq, beq_eq_false_iff_ne]
  exact fun e => h (str_eq_of e)
section
variable {E : World} {S : Ph} {L : List Hp}
set_option maxRecDepth 100000 in
set_option maxHeartbeats 2000000 in
theorem below_any (A : Option Addr) (n c : Nat) (xs : List ByteArray) (key : ByteArray) (w : World) (hn : n ≤ 1000000000000000000) (hb : ∀ s ∈ xs, slt s key = true) (hr : Rds S 1 enStr A n xs) (h : Own E w (Hp.ro S :: L)) :
    Calls Tryd.prog 30 #[.slice A n c, .string key] w fun e w' => e = .returned (.bool true) ∧ Own E w' (Hp.ro S :: L) := by
  have HB := Lib.hid hb
  clear hb
  go_enter Tryd.func30, Tryd.ntmps30
  go_wp2_with fail
  go_loopw [5] (fun i wr => ∃ k : Nat, k ≤ n ∧ i = .int .i64 k ∧ Own E wr (Hp.ro S :: L)) (fun i _ => n - (intOf i).toNat)
  case atStart => exact ⟨0, by omega, rfl, h⟩
  case round =>
    obtain ⟨k, hk, rfl, hw⟩ := hrel
    clear h
    by_cases hlt : k < n
    · obtain ⟨x, b, off, hx, rfl, hc⟩ := hr.get1 hlt
      have hs := HB.out x (List.mem_of_getElem? hx)
      have z1 : Op.bytesLess x.toList key.toList = true := by rw [slt_walk]; exact hs
      have z2 : Op.bytesLess key.toList x.toList = false := by rw [slt_walk]; exact slt_asymm hs
      have z3 : (x.toList == key.toList) = false := by
        rw [ByteArray.toList_eq, ByteArray.toList_eq, beq_eq_false_iff_ne]
        exact fun e => Tx.lt_ne hs e
      have c1 := hw.rd (hc _ rfl)
      have hkn : (k : Int) < n := by omega
      have HW := Lib.hid hw
      clear hx hc hw hs
      go_wp2_with fail
      go_roundw
      case rel => exact ⟨k + 1, by omega, by go_num, HW.out⟩
      case measure => simp [intOf]; omega
    · have HW := Lib.hid hw
      have hkn : ¬ (k : Int) < n := by omega
      clear hw
      go_wp2_with fail
      go_ret
      exact ⟨rfl, HW.out⟩
set_option maxRecDepth 100000 in
set_option maxHeartbeats 2000000 in
theorem above_any (A : Option Addr) (n c : Nat) (xs : List ByteArray) (key : ByteArray) (leaf : Bool) (w : World) (hn : n ≤ 1000000000000000000) (hb : ∀ s ∈ xs, slt s key = false ∧ (leaf = false → s ≠ key)) (hr : Rds S 1 enStr A n xs) (h : Own E w (Hp.ro S :: L)) :
    Calls Tryd.prog 31 #[.slice A n c, .string key, .bool leaf] w fun e w' => e = .returned (.bool true) ∧ Own E w' (Hp.ro S :: L) := by
  have HB := Lib.hid hb
  clear hb
  cases leaf with
  | true =>
    go_enter Tryd.func31, Tryd.ntmps31
    go_wp2_with fail
    go_loopw [7] (fun i wr => ∃ k : Nat, k ≤ n ∧ i = .int .i64 k ∧ Own E wr (Hp.ro S :: L)) (fun i _ => n - (intOf i).toNat)
    case atStart => exact ⟨0, by omega, rfl, h⟩
    case round =>
      obtain ⟨k, hk, rfl, hw⟩ := hrel
      clear h
      by_cases hlt : k < n
      · obtain ⟨x, b, off, hx, rfl, hc⟩ := hr.get1 hlt
        obtain ⟨hs, hs2⟩ := HB.out x (List.mem_of_getElem? hx)
        have z1 : Op.bytesLess x.toList key.toList = false := by rw [slt_walk]; exact hs
        skip
        have c1 := hw.rd (hc _ rfl)
        have hkn : (k : Int) < n := by omega
        have HW := Lib.hid hw
        clear hx hc hw hs hs2
        go_wp2_with fail
        go_roundw
        case rel => exact ⟨k + 1, by omega, by go_num, HW.out⟩
        case measure => simp [intOf]; omega
      · have HW := Lib.hid hw
        have hkn : ¬ (k : Int) < n := by omega
        clear hw
        go_wp2_with fail
        go_ret
        exact ⟨rfl, HW.out⟩
  | false =>
    go_enter Tryd.func31, Tryd.ntmps31
    go_wp2_with fail
    go_loopw [7] (fun i wr => ∃ k : Nat, k ≤ n ∧ i = .int .i64 k ∧ Own E wr (Hp.ro S :: L)) (fun i _ => n - (intOf i).toNat)
    case atStart => exact ⟨0, by omega, rfl, h⟩
    case round =>
      obtain ⟨k, hk, rfl, hw⟩ := hrel
      clear h
      by_cases hlt : k < n
      · obtain ⟨x, b, off, hx, rfl, hc⟩ := hr.get1 hlt
        obtain ⟨hs, hs2⟩ := HB.out x (List.mem_of_getElem? hx)
        have z1 : Op.bytesLess x.toList key.toList = false := by rw [slt_walk]; exact hs
        have z3 := ne_beq (hs2 (by trivial))
        have c1 := hw.rd (hc _ rfl)
        have hkn : (k : Int) < n := by omega
        have HW := Lib.hid hw
        clear hx hc hw hs hs2
        go_wp2_with fail
        go_roundw
        case rel => exact ⟨k + 1, by omega, by go_num, HW.out⟩
        case measure => simp [intOf]; omega
      · have HW := Lib.hid hw
        have hkn : ¬ (k : Int) < n := by omega
        clear hw
        go_wp2_with fail
        go_ret
        exact ⟨rfl, HW.out⟩
set_option maxRecDepth 100000 in
set_option maxHeartbeats 8000000 in
theorem nodeparts_any (leaf : Bool) (A : Option Addr) (n c : Nat) (xs : List Cel) (big : Int) (w : World) (hbig : -9223372036854775808 ≤ big ∧ big ≤ 9223372036854775807) (hn : n ≤ 1000000000000000000) (hsm : ∀ x ∈ xs, x.key.size ≤ 1000000000000000000 ∧ x.value.size ≤ 1000000000000000000)
    (hkd : ∀ x ∈ xs, -9223372036854775808 ≤ x.kid ∧ x.kid ≤ 9223372036854775807) (hr : Rds S 3 enCel A n xs) (hG : Laid0 E (Hp.ro S :: L)) (h : Own E w (Hp.ro S :: L)) :
    Calls Tryd.prog 6 #[.bool leaf, .slice A n c, .int .i64 big] w fun e w' => e = .returned (.bool true) ∧ Own E w' (Hp.ro S :: L) := by
  have kc := fun w M hw => cellsweigh_any (E := E) (S := S) (L := M) A n c xs w hn hsm hr hw
  have km := fun least w M hl hw => made_any (E := E) (S := S) (L := M) leaf A n c xs least 718 w hn hl (by omega) (by omega) hkd hr hw
  have kp := fun w => pick10_any big 200 w hbig (by omega) (by omega)
  have KC := Lib.hid kc
  have KM := Lib.hid km
  have KP := Lib.hid kp
  have HG := Lib.hid hG
  have H := Lib.hid h
  clear h kc km kp hG hn hsm hkd hr hbig
  go_enter Tryd.func6, Tryd.ntmps6
  go_wp2_with fail
  refine (KC.out _ _ H.out).mono ?_
  rintro e w1 ⟨⟨z1, hz1, rfl⟩, h⟩
  have H1 := Lib.hid h
  clear h H KC hz1
  by_cases hc : 2147483647 < z1
  · have hci : (2147483647 : Int) < z1 := by omega
    go_wp2_with fail
    go_ret
    exact ⟨rfl, H1.out⟩
  have hci : ¬ (2147483647 : Int) < z1 := by omega
  clear hc
  go_wp2_with fail
  refine (awake_any _ HG.out H1.out).mono ?_
  rintro e w2 ⟨rfl, h⟩
  have H := Lib.hid h
  clear h H1
  go_wp2_with fail
  refine (KP.out _).mono ?_
  rintro e w3 ⟨pk, hpk, rfl, rfl⟩
  obtain ⟨lst, hlst⟩ : ∃ x : Nat, x = 481 + pk := ⟨_, rfl⟩
  have j1 : IntKind.i64.wrap (481 + (pk : Int)) = (lst : Int) := by rw [IntWalk.i64_in _ (by omega)]; omega
  have hl1 : 481 ≤ lst ∧ lst + 28 ≤ 718 := by omega
  obtain ⟨hl1, hl2⟩ := hl1
  clear hlst hpk
  go_wp2_with fail
  refine (KM.out lst _ _ hl2 H.out).mono ?_
  rintro e w5 ⟨T, q, m, rfl, hm, hne, hle, h⟩
  have hpt := parted hm.ok hne (by omega)
  have hbk := hm.ok.few
  have ksp := fun w M hw => split_any (E := E) (S := T) (L := M) q m w (by omega) hm.inn hw
  rw [hpt.e] at ksp
  have hb1 : m.spA.bulk ≤ 1436 ∧ m.spB.bulk ≤ 1436 := by
    have e1 : m.spA = m.lo m.cut := if_pos hpt.e
    have e2 : m.spB = m.hi m.cut := if_pos hpt.e
    have b1 := lo_bulk m m.cut
    have b2 := hi_bulk m m.cut
    rw [e1, e2]; omega
  obtain ⟨hb1, hb2⟩ := hb1
  have ha := h.alloc (.cells (q.cs m).toArray NT)
  obtain ⟨g9, hg9⟩ : ∃ g, g = w5.heap.size := ⟨_, rfl⟩
  rw [← hg9] at ha
  have KSP := Lib.hid ksp
  have HMI := Lib.hid hm.inn
  have HSUB := Lib.hid hm.sub
  have HA := Lib.hid ha
  obtain ⟨pe, pk1, pk2, pla, plb, pbel, pabo, pwa, pwb, pza, pzb, pje, pjn⟩ := hpt
  clear h ha ksp hm hne hle H KM KP pe
  go_wp2_with fail
  try rw [← hg9]
  clear hg9
  refine (KSP.out _ _ HA.out.f1).mono ?_
  rintro e w6 ⟨lv, hv, rfl, h⟩
  obtain ⟨T2, qa, qb, s2, rfl, rfl, ia, ib, hh⟩ := h.lend2
  have ha := (hh.alloc (.cells (qa.cs m.spA).toArray NT)).alloc (.cells (qb.cs m.spB).toArray NT)
  rw [alloc_size] at ha
  obtain ⟨g10, hg10⟩ : ∃ g, g = w6.heap.size := ⟨_, rfl⟩
  rw [← hg10] at ha
  have h2 : Own E _ (Hp.ro T2 :: Hp.blk (g10 + 1) NT (qb.cs m.spB).toArray :: Hp.blk g10 NT (qa.cs m.spA).toArray :: Hp.blk g9 NT (q.cs m).toArray :: L) := ha.f2
  have hin := HMI.out.sub s2.sub
  have HSUB2 := Lib.hid (fun k o hk => s2.sub k o (HSUB.out k o hk))
  have HIN := Lib.hid hin
  have H := Lib.hid h2
  have hm9 : m.bulk ≤ 1436 := by omega
  clear h hh ha h2 hin s2 HMI HSUB HA KSP hbk
  generalize m.spA = A at *
  generalize m.spB = B at *
  generalize m.spK = K at *
  have PBEL := Lib.hid pbel
  have PABO := Lib.hid pabo
  have PJN := Lib.hid pjn
  have kbel := fun w M hw => below_any (E := E) (S := T2) (L := M) qa.a1 A.ks.length qa.c1 A.ks K w (by unfold Nd.bulk at hb1; omega) PBEL.out ia.r1 hw
  have kabo := fun w M hw => above_any (E := E) (S := T2) (L := M) qb.a1 B.ks.length qb.c1 B.ks K leaf w (by unfold Nd.bulk at hb2; omega) PABO.out ib.r1 hw
  have kpa := fun w M hw => page_any (E := E) (S := T2) (L := M) qa A w (by omega) ia hw
  have kpb := fun w M hw => page_any (E := E) (S := T2) (L := M) qb B w (by omega) ib hw
  rw [pwa] at kpa
  rw [pwb] at kpb
  have ksa := fun w M hw => lsize_any (E := E) (S := T2) (L := M) qa A w (by omega) ia hw
  have ksb := fun w M hw => lsize_any (E := E) (S := T2) (L := M) qb B w (by omega) ib hw
  rw [pza.1] at ksa
  rw [pzb.1] at ksb
  have kj := fun w M hw => join_any (E := E) (S := T2) (L := M) qa qb A K B w (by omega) (by omega) (by omega) ia ib hw
  rw [pje, PJN.out] at kj
  have KBEL := Lib.hid kbel
  have KABO := Lib.hid kabo
  have KPA := Lib.hid kpa
  have KPB := Lib.hid kpb
  have KSA := Lib.hid ksa
  have KSB := Lib.hid ksb
  have KJ := Lib.hid kj
  obtain ⟨za, hza⟩ : ∃ x, x = A.size := ⟨_, rfl⟩
  obtain ⟨zb, hzb⟩ : ∃ x, x = B.size := ⟨_, rfl⟩
  rw [← hza] at pza KSA
  rw [← hzb] at pzb KSB
  have x1 : ¬ (K.size : Int) < 1 := by omega
  have x2 : ¬ (36 : Int) < K.size := by omega
  have y1 : ¬ (za : Int) < 120 := by omega
  have y2 : ¬ (zb : Int) < 120 := by omega
  have y3 : ¬ (480 : Int) < za := by omega
  have y4 : ¬ (480 : Int) < zb := by omega
  have u1 : (A.leaf == leaf) = true := by rw [pla]; simp
  have u2 : (A.leaf != leaf) = false := by rw [pla]; simp
  have v1 : (B.leaf == leaf) = true := by rw [plb]; simp
  have v2 : (B.leaf != leaf) = false := by rw [plb]; simp
  have hcc : ∀ w0 M, Own E w0 (Hp.ro T2 :: Hp.blk (g10 + 1) NT (qb.cs B).toArray :: Hp.blk g10 NT (qa.cs A).toArray :: Hp.blk g9 NT (q.cs m).toArray :: M) →
      w0.cell? ⟨g10, 0, none⟩ = some (.bool A.leaf) ∧ w0.cell? ⟨g10, 1, none⟩ = some (.slice qa.a1 A.ks.length qa.c1) ∧ w0.cell? ⟨g10, 2, none⟩ = some (.slice qa.a2 A.vs.length qa.c2) ∧ w0.cell? ⟨g10, 3, none⟩ = some (.slice qa.a3 A.ls.length qa.c3) ∧
      w0.cell? ⟨g10 + 1, 0, none⟩ = some (.bool B.leaf) ∧ w0.cell? ⟨g10 + 1, 1, none⟩ = some (.slice qb.a1 B.ks.length qb.c1) ∧ w0.cell? ⟨g10 + 1, 2, none⟩ = some (.slice qb.a2 B.vs.length qb.c2) ∧ w0.cell? ⟨g10 + 1, 3, none⟩ = some (.slice qb.a3 B.ls.length qb.c3) ∧
      w0.cell? ⟨g9, 0, none⟩ = some (.bool m.leaf) ∧ w0.cell? ⟨g9, 1, none⟩ = some (.slice q.a1 m.ks.length q.c1) ∧ w0.cell? ⟨g9, 2, none⟩ = some (.slice q.a2 m.vs.length q.c2) ∧ w0.cell? ⟨g9, 3, none⟩ = some (.slice q.a3 m.ls.length q.c3) := fun w0 M hw =>
    ⟨hw.f2.cell 0, hw.f2.cell 1, hw.f2.cell 2, hw.f2.cell 3, hw.f1.cell 0, hw.f1.cell 1, hw.f1.cell 2, hw.f1.cell 3, hw.f3.cell 0, hw.f3.cell 1, hw.f3.cell 2, hw.f3.cell 3⟩
  have HCC := Lib.hid hcc
  clear kbel kabo kpa kpb ksa ksb kj hcc pla plb pbel pabo pwa pwb pza pzb pje pjn PBEL PABO PJN ia ib hza hzb pk1 pk2 hb1 hb2
  go_wp2_with fail
  try rw [← hg10]
  clear hg10
  refine (KBEL.out _ _ H.out).mono ?_
  rintro e w7 ⟨rfl, h⟩
  clear H
  obtain ⟨a0, a1, a2, a3, b0, b1, b2, b3, m0, m1, m2, m3⟩ := HCC.out _ _ h
  have H := Lib.hid h
  clear h
  go_wp2_with fail
  refine (KABO.out _ _ H.out).mono ?_
  rintro e w8 ⟨rfl, h⟩
  clear a0 a1 a2 a3 b0 b1 b2 b3 m0 m1 m2 m3
  clear H
  obtain ⟨a0, a1, a2, a3, b0, b1, b2, b3, m0, m1, m2, m3⟩ := HCC.out _ _ h
  have H := Lib.hid h
  clear h
  go_wp2_with fail
  refine (KPA.out _ _ H.out).mono ?_
  rintro e w9 ⟨pv, rfl, h⟩
  clear a0 a1 a2 a3 b0 b1 b2 b3 m0 m1 m2 m3
  obtain ⟨ap, rfl, hh⟩ := h.ofPage
  obtain ⟨Ap, cp, rfl, -⟩ := hh.lstSlice
  rw [List.length_map] at hh
  try rw [List.length_map]
  clear h H
  have h := (hh.drop.alloc (.cells #[VI A.page.kind, VI A.page.number, VI A.page.birth, .slice Ap A.page.links.length cp, .string A.page.body] PT)).drop
  obtain ⟨a0, a1, a2, a3, b0, b1, b2, b3, m0, m1, m2, m3⟩ := HCC.out _ _ h
  have H := Lib.hid h
  clear h hh
  go_wp2_with fail
  refine (KPB.out _ _ H.out).mono ?_
  rintro e w10 ⟨pv, rfl, h⟩
  clear a0 a1 a2 a3 b0 b1 b2 b3 m0 m1 m2 m3
  obtain ⟨ap, rfl, hh⟩ := h.ofPage
  obtain ⟨Ap, cp, rfl, -⟩ := hh.lstSlice
  rw [List.length_map] at hh
  try rw [List.length_map]
  clear h H
  have h := (hh.drop.alloc (.cells #[VI B.page.kind, VI B.page.number, VI B.page.birth, .slice Ap B.page.links.length cp, .string B.page.body] PT)).drop
  obtain ⟨a0, a1, a2, a3, b0, b1, b2, b3, m0, m1, m2, m3⟩ := HCC.out _ _ h
  have H := Lib.hid h
  clear h hh
  go_wp2_with fail
  refine (KSA.out _ _ H.out).mono ?_
  rintro e w11 ⟨rfl, h⟩
  clear a0 a1 a2 a3 b0 b1 b2 b3 m0 m1 m2 m3
  clear H
  obtain ⟨a0, a1, a2, a3, b0, b1, b2, b3, m0, m1, m2, m3⟩ := HCC.out _ _ h
  have H := Lib.hid h
  clear h
  go_wp2_with fail
  refine (KSB.out _ _ H.out).mono ?_
  rintro e w12 ⟨rfl, h⟩
  clear a0 a1 a2 a3 b0 b1 b2 b3 m0 m1 m2 m3
  clear H
  obtain ⟨a0, a1, a2, a3, b0, b1, b2, b3, m0, m1, m2, m3⟩ := HCC.out _ _ h
  have H := Lib.hid h
  clear h
  go_wp2_with fail
  refine (KSA.out _ _ H.out).mono ?_
  rintro e w13 ⟨rfl, h⟩
  clear a0 a1 a2 a3 b0 b1 b2 b3 m0 m1 m2 m3
  clear H
  obtain ⟨a0, a1, a2, a3, b0, b1, b2, b3, m0, m1, m2, m3⟩ := HCC.out _ _ h
  have H := Lib.hid h
  clear h
  go_wp2_with fail
  refine (KSB.out _ _ H.out).mono ?_
  rintro e w14 ⟨rfl, h⟩
  clear a0 a1 a2 a3 b0 b1 b2 b3 m0 m1 m2 m3
  clear H
  obtain ⟨a0, a1, a2, a3, b0, b1, b2, b3, m0, m1, m2, m3⟩ := HCC.out _ _ h
  have H := Lib.hid h
  clear h
  go_wp2_with fail
  refine (KJ.out _ _ H.out).mono ?_
  rintro e w15 ⟨nv, rfl, h⟩
  clear a0 a1 a2 a3 b0 b1 b2 b3 m0 m1 m2 m3
  obtain ⟨T5, q5, s5, rfl, i5, hh⟩ := h.lendAny
  have kn := fun w M hw => nodes_same (E := E) (S := T5) (L := M) q5 q m w (by have := hm9; omega) i5 (HIN.out.sub s5) hw
  have KN := Lib.hid kn
  have HS5 := Lib.hid (fun k o hk => s5 k o (HSUB2.out k o hk))
  have h2 := hh.alloc (.cells (q5.cs m).toArray NT)
  have hm3 := h2.f4
  have m0 : (w15.alloc (.cells (q5.cs m).toArray NT)).cell? ⟨g9, 0, none⟩ = some (.bool m.leaf) := hm3.cell 0
  have m1 : (w15.alloc (.cells (q5.cs m).toArray NT)).cell? ⟨g9, 1, none⟩ = some (.slice q.a1 m.ks.length q.c1) := hm3.cell 1
  have m2 : (w15.alloc (.cells (q5.cs m).toArray NT)).cell? ⟨g9, 2, none⟩ = some (.slice q.a2 m.vs.length q.c2) := hm3.cell 2
  have m3 : (w15.alloc (.cells (q5.cs m).toArray NT)).cell? ⟨g9, 3, none⟩ = some (.slice q.a3 m.ls.length q.c3) := hm3.cell 3
  have H2 := Lib.hid h2.f1
  clear h H hh kn h2 hm3 s5 i5
  go_wp2_with fail
  refine (KN.out _ _ H2.out).mono ?_
  rintro e w16 ⟨rfl, h⟩
  have HF := Lib.hid ((h.f4.drop.f3.drop.f2.drop.f1.drop).shrink (fun k o hk => HS5.out k o hk))
  clear h m0 m1 m2 m3 H2
  go_wp2_with fail
  go_ret
  exact ⟨rfl, HF.out⟩
end
end Go.Proofs.YtbclmmneiphcaaaDoor
