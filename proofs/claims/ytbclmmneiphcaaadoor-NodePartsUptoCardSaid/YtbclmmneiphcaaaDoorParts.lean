/- A node cut at a place: node.parts, latchkeyref10.parts (printed by gen_parts.py). latchkeyref10.parts (printed by gen_parts.py). -/
import Derived.Test.YtbclmmneiphcaaaDoorJoin2
import Derived.Test.YtbclmmneiphcaaaDoorXForm
import Derived.Test.YtbclmmneiphcaaaDoorLst2
import Derived.Test.YtbclmmneiphcaaaDoorFar
namespace Go.Proofs.YtbclmmneiphcaaaDoor
open Go.RowKit
/-- A part stands in a list of parts. -/
def HasP (A : Hp) (L : List Hp) : Prop := A ∈ L
instance hasHere {A : Hp} {L : List Hp} : Nonempty (HasP A (A :: L)) := ⟨List.mem_cons_self ..⟩
instance hasThere {A B : Hp} {L : List Hp} [i : Nonempty (HasP A L)] : Nonempty (HasP A (B :: L)) := ⟨i.elim fun h => List.mem_cons_of_mem _ h⟩
theorem Own.has {E w : World} {A : Hp} {L : List Hp} [i : Nonempty (HasP A L)] (h : Own E w L) : ∃ M, Own E w (A :: M) := by
  obtain ⟨q⟩ := i
  obtain ⟨s, t, rfl⟩ := List.append_of_mem q
  exact ⟨s ++ t, h.perm (perm_mid A s)⟩
/-- Both sides of a cut. -/
def Nd.lo (n : Nd) (i : Nat) : Nd := if n.leaf then ⟨true, n.ks.take i, n.vs.take i, []⟩ else ⟨false, n.ks.take i, [], n.ls.take (i + 1)⟩
def Nd.hi (n : Nd) (i : Nat) : Nd := if n.leaf then ⟨true, n.ks.drop i, n.vs.drop i, []⟩ else ⟨false, n.ks.drop (i + 1), [], n.ls.drop (i + 1)⟩
/-- The key between. -/
def Nd.mid (n : Nd) (i : Nat) : ByteArray := if n.leaf then betweenV (n.ks.getD (i - 1) ⟨#[]⟩) (n.ks.getD i ⟨#[]⟩) else n.ks.getD i ⟨#[]⟩
theorem take_all_drop {α : Type} (l : List α) (i n : Nat) (h : n = l.length) : (l.drop i).take (n - i) = l.drop i := List.take_of_length_le (by rw [List.length_drop]; omega)
theorem sumSz_mem : ∀ {l : List ByteArray} {s : ByteArray}, s ∈ l → s.size ≤ sumSz l
  | a :: l, s, h => by
    have e : sumSz (a :: l) = a.size + sumSz l := by simp [sumSz]
    rw [e]
    rcases List.mem_cons.1 h with rfl | h
    · omega
    · have := sumSz_mem h; omega
section
variable {E : World} {S : Ph} {L : List Hp}
theorem pre_str (A : Option Addr) (n c k : Nat) (l : List ByteArray) (w : World) (hn : n ≤ 4294967296) (hc : n ≤ c) (hk : k ≤ n) (hr : Rds S 1 enStr A n l) (h : Own E w (Hp.ro S :: L)) :
    Calls Tryd.prog 85 #[.slice A n c, .int .i64 0, .int .i64 k] w fun e w' => ∃ A' c', e = .returned (.slice A' k c') ∧ Own E w' (Hp.strs (.slice A' k c') (l.take k) :: Hp.ro S :: L) := by
  have hl := hr.1
  refine (own_str A n c 0 k l w hn hc (by omega) hk hr h).mono ?_
  rintro e w' ⟨v, rfl, h⟩
  obtain ⟨A', c', rfl, -⟩ := h.lstSlice
  have e1 : ((List.drop 0 l).take (k - 0)) = l.take k := by rw [List.drop_zero, Nat.sub_zero]
  rw [e1] at h ⊢
  have e2 : ((l.take k).map VS).length = k := by rw [List.length_map, List.length_take]; omega
  rw [e2] at h ⊢
  exact ⟨A', c', rfl, h⟩
theorem suf_str (A : Option Addr) (n c i m : Nat) (l : List ByteArray) (w : World) (hn : n ≤ 4294967296) (hc : n ≤ c) (hi : i ≤ n) (hm : m = n - i) (hr : Rds S 1 enStr A n l) (h : Own E w (Hp.ro S :: L)) :
    Calls Tryd.prog 85 #[.slice A n c, .int .i64 i, .int .i64 n] w fun e w' => ∃ A' c', e = .returned (.slice A' m c') ∧ Own E w' (Hp.strs (.slice A' m c') (l.drop i) :: Hp.ro S :: L) := by
  have hl := hr.1
  subst hm
  refine (own_str A n c i n l w hn hc hi (by omega) hr h).mono ?_
  rintro e w' ⟨v, rfl, h⟩
  obtain ⟨A', c', rfl, -⟩ := h.lstSlice
  rw [take_all_drop l i n hl.symm] at h ⊢
  have e2 : ((l.drop i).map VS).length = n - i := by rw [List.length_map, List.length_drop]; omega
  rw [e2] at h ⊢
  exact ⟨A', c', rfl, h⟩
theorem pre_int (A : Option Addr) (n c k : Nat) (l : List Int) (w : World) (hn : n ≤ 4294967296) (hc : n ≤ c) (hk : k ≤ n) (hr : Rds S 1 en64 A n l) (h : Own E w (Hp.ro S :: L)) :
    Calls Tryd.prog 86 #[.slice A n c, .int .i64 0, .int .i64 k] w fun e w' => ∃ A' c', e = .returned (.slice A' k c') ∧ Own E w' (Hp.ints (.slice A' k c') (l.take k) :: Hp.ro S :: L) := by
  have hl := hr.1
  refine (own_int A n c 0 k l w hn hc (by omega) hk hr h).mono ?_
  rintro e w' ⟨v, rfl, h⟩
  obtain ⟨A', c', rfl, -⟩ := h.lstSlice
  have e1 : ((List.drop 0 l).take (k - 0)) = l.take k := by rw [List.drop_zero, Nat.sub_zero]
  rw [e1] at h ⊢
  have e2 : ((l.take k).map VI).length = k := by rw [List.length_map, List.length_take]; omega
  rw [e2] at h ⊢
  exact ⟨A', c', rfl, h⟩
theorem suf_int (A : Option Addr) (n c i m : Nat) (l : List Int) (w : World) (hn : n ≤ 4294967296) (hc : n ≤ c) (hi : i ≤ n) (hm : m = n - i) (hr : Rds S 1 en64 A n l) (h : Own E w (Hp.ro S :: L)) :
    Calls Tryd.prog 86 #[.slice A n c, .int .i64 i, .int .i64 n] w fun e w' => ∃ A' c', e = .returned (.slice A' m c') ∧ Own E w' (Hp.ints (.slice A' m c') (l.drop i) :: Hp.ro S :: L) := by
  have hl := hr.1
  subst hm
  refine (own_int A n c i n l w hn hc hi (by omega) hr h).mono ?_
  rintro e w' ⟨v, rfl, h⟩
  obtain ⟨A', c', rfl, -⟩ := h.lstSlice
  rw [take_all_drop l i n hl.symm] at h ⊢
  have e2 : ((l.drop i).map VI).length = n - i := by rw [List.length_map, List.length_drop]; omega
  rw [e2] at h ⊢
  exact ⟨A', c', rfl, h⟩
set_option maxRecDepth 100000 in
set_option maxHeartbeats 8000000 in
theorem parts_any (v : Nv) (n : Nd) (i : Nat) (w : World) (hb : n.bulk ≤ 4294967290) (hi1 : 1 ≤ i) (hi2 : i < n.ks.length) (hform : if n.leaf then n.vs.length = n.ks.length else n.ls.length = n.ks.length + 1 ∧ i + 1 < n.ks.length) (hi : NdIn S v n) (h : Own E w (Hp.ro S :: L)) :
    Calls Tryd.prog 60 #[v.val n, .int .i64 i] w fun e w' => ∃ lv hv, e = .returned (.tuple #[lv, .string (n.mid i), hv]) ∧ Own E w' (Hp.node lv (n.lo i) :: Hp.node hv (n.hi i) :: Hp.ro S :: L) := by
  obtain ⟨a1, c1, a2, c2, a3, c3⟩ := v
  obtain ⟨leaf, ks, vs, ls⟩ := n
  obtain ⟨l1, l2, l3⟩ : ks.length ≤ 4294967290 ∧ vs.length ≤ 4294967290 ∧ ls.length ≤ 4294967290 := by
    have : sumSz ks + sumSz vs + ks.length + vs.length + ls.length ≤ 4294967290 := hb
    omega
  have hsb : ∀ s ∈ ks, s.size ≤ 4294967290 := fun s hs => by
    have h1 : sumSz ks + sumSz vs + ks.length + vs.length + ls.length ≤ 4294967290 := hb
    have h2 := sumSz_mem hs
    omega
  obtain ⟨r1, r2, r3, m1, m2, m3, -, -, -⟩ := hi
  dsimp only [Nv.val] at *
  obtain ⟨x, b, off, hx, rfl, hcx⟩ := r1.get1 (show i - 1 < ks.length by omega)
  obtain ⟨y, b', off', hy, hbe, hcy⟩ := r1.get1 hi2
  injection hbe with hbe
  injection hbe with e1 e2
  subst e1 e2
  have hxs := hsb x (List.mem_of_getElem? hx)
  have hys := hsb y (List.mem_of_getElem? hy)
  have ex : ks.getD (i - 1) ⟨#[]⟩ = x := by rw [List.getD_eq_getElem?_getD, hx]; rfl
  have ey : ks.getD i ⟨#[]⟩ = y := by rw [List.getD_eq_getElem?_getD, hy]; rfl
  have h1 : Own E _ (Hp.blk (w.heap.size + 2) NT #[.bool false, .slice none 0 0, .slice none 0 0, .slice none 0 0] :: Hp.blk (w.heap.size + 1) NT #[.bool false, .slice none 0 0, .slice none 0 0, .slice none 0 0] :: Hp.blk w.heap.size NT #[.bool leaf, .slice (some ⟨b, off, none⟩) ks.length c1, .slice a2 vs.length c2, .slice a3 ls.length c3] :: Hp.ro S :: L) := h.alloc3 _ _ _
  obtain ⟨g, hg⟩ : ∃ g, g = w.heap.size := ⟨_, rfl⟩
  rw [← hg] at h1
  have hcell : ∀ w', (∃ L', Own E w' (Hp.blk g NT #[.bool leaf, .slice (some ⟨b, off, none⟩) ks.length c1, .slice a2 vs.length c2, .slice a3 ls.length c3] :: L')) → (∃ L', Own E w' (Hp.ro S :: L')) → w'.cell? ⟨g, 1, none⟩ = some (.slice (some ⟨b, off, none⟩) ks.length c1) ∧ w'.cell? ⟨g, 2, none⟩ = some (.slice a2 vs.length c2) ∧ w'.cell? ⟨g, 3, none⟩ = some (.slice a3 ls.length c3) ∧ w'.cell? ⟨b, off + (i - 1), none⟩ = some (.string x) ∧ w'.cell? ⟨b, off + i, none⟩ = some (.string y) := fun w' hw hw2 => by
    obtain ⟨_, hw⟩ := hw
    obtain ⟨_, hw2⟩ := hw2
    exact ⟨hw.cell 1, hw.cell 2, hw.cell 3, hw2.rd (hcx _ rfl), hw2.rd (hcy _ rfl)⟩
  have HC := Lib.hid hcell
  have j1 : IntKind.i64.wrap ((i : Int) - 1) = ((i - 1 : Nat) : Int) := by rw [IntWalk.i64_in _ (by omega)]; omega
  have j2 : IntKind.i64.wrap ((i : Int) + 1) = ((i + 1 : Nat) : Int) := by rw [IntWalk.i64_in _ (by omega)]; omega
  have j3 : IntKind.i64.wrap ((ks.length : Int) + 1) = ((ks.length + 1 : Nat) : Int) := by rw [IntWalk.i64_in _ (by omega)]; omega
  have j4 : ((i - 1 : Nat) : Int) < ks.length := by omega
  have j5 : (i : Int) < ks.length := by omega
  have j6 : (0 : Int) ≤ ((i - 1 : Nat) : Int) := by omega
  have j7 : (0 : Int) ≤ (i : Int) := by omega
  have H := Lib.hid h1
  obtain ⟨nt, hnt, hnr⟩ := nt_u
  clear h h1 hcell hb hsb hcx hcy
  have h0 : (⟨leaf, ks, vs, ls⟩ : Nd).lo i = if leaf then ⟨true, ks.take i, vs.take i, []⟩ else ⟨false, ks.take i, [], ls.take (i + 1)⟩ := rfl
  have h9 : (⟨leaf, ks, vs, ls⟩ : Nd).hi i = if leaf then ⟨true, ks.drop i, vs.drop i, []⟩ else ⟨false, ks.drop (i + 1), [], ls.drop (i + 1)⟩ := rfl
  have h8 : (⟨leaf, ks, vs, ls⟩ : Nd).mid i = if leaf then betweenV x y else y := by
    show (if leaf then betweenV (ks.getD (i - 1) ⟨#[]⟩) (ks.getD i ⟨#[]⟩) else ks.getD i ⟨#[]⟩) = _
    rw [ex, ey]
  rw [h0, h9, h8]
  clear h0 h9 h8 ex ey
  cases leaf with
  | true =>
    have hvl : vs.length = ks.length := hform
    rw [hvl] at r2 H HC m2 l2 ⊢
    clear hform
    simp only [if_true]
    go_enter Tryd.func60, Tryd.ntmps60
    go_wp2_with fail
    rw [← hg]
    clear hg
    have h := H.out.drew
    clear H
    refine wp_region_text [1, 5, 10, 14, 16, 19, 22, 27] (fun w' => w'.cell? ⟨g, 1, none⟩ = some (.slice (some ⟨b, off, none⟩) ks.length c1) ∧ w'.cell? ⟨g, 2, none⟩ = some (.slice a2 ks.length c2) ∧ w'.cell? ⟨g, 3, none⟩ = some (.slice a3 ls.length c3) ∧ w'.cell? ⟨b, off + (i - 1), none⟩ = some (.string x) ∧ w'.cell? ⟨b, off + i, none⟩ = some (.string y)) (by kernel_rfl) ?_ (fun hS => ?_)
    · exact HC.out _ h.has h.has
    refine wpAnyG_pure (i := 0) (oi := ⟨some 13, _, _, _, _, _⟩) (v := ?_) rfl (by kernel_rfl) (by kernel_rfl) (by kernel_rfl) (by rfl) (fun _ _ _ h => h) (by rfl) ?_ ?_
    rotate_left
    · intro w
      go_simp
      first | done | with_reducible rfl
    try simp only [Act.put, List.setIfInBounds_toArray, List.set_cons_zero, List.set_cons_succ]
    refine wpAnyG_load (i := 1) (oi := ⟨some 14, _, _, _, _, _⟩) (v := ?_) rfl (by kernel_rfl) (by kernel_rfl) (by kernel_rfl) (by rfl) (fun _ _ _ h => h) (by rfl) ?_ (by assumption) ?_
    rotate_left
    · intro w hS
      try dsimp only at hS
      go_simp
      first | done | with_reducible rfl
    try simp only [Act.put, List.setIfInBounds_toArray, List.set_cons_zero, List.set_cons_succ]
    refine wpAnyG_pure (i := 2) (oi := ⟨some 15, _, _, _, _, _⟩) (v := ?_) rfl (by kernel_rfl) (by kernel_rfl) (by kernel_rfl) (by rfl) (fun _ _ _ h => h) (by rfl) ?_ ?_
    rotate_left
    · intro w
      go_simp
      first | done | with_reducible rfl
    try simp only [Act.put, List.setIfInBounds_toArray, List.set_cons_zero, List.set_cons_succ]
    refine wpAnyG_pure (i := 4) (oi := ⟨some 17, _, _, _, _, _⟩) (v := ?_) rfl (by kernel_rfl) (by kernel_rfl) (by kernel_rfl) (by rfl) (fun _ _ _ h => h) (by rfl) ?_ ?_
    rotate_left
    · intro w
      go_simp
      first | done | with_reducible rfl
    try simp only [Act.put, List.setIfInBounds_toArray, List.set_cons_zero, List.set_cons_succ]
    refine wpAnyG_load (i := 5) (oi := ⟨some 18, _, _, _, _, _⟩) (v := ?_) rfl (by kernel_rfl) (by kernel_rfl) (by kernel_rfl) (by rfl) (fun _ _ _ h => h) (by rfl) ?_ (by assumption) ?_
    rotate_left
    · intro w hS
      try dsimp only at hS
      go_simp
      first | done | with_reducible rfl
    try simp only [Act.put, List.setIfInBounds_toArray, List.set_cons_zero, List.set_cons_succ]
    refine wpAnyG_pure (i := 6) (oi := ⟨some 19, _, _, _, _, _⟩) (v := ?_) rfl (by kernel_rfl) (by kernel_rfl) (by kernel_rfl) (by rfl) (fun _ _ _ h => h) (by rfl) ?_ ?_
    rotate_left
    · intro w
      go_simp
      first | done | with_reducible rfl
    try simp only [Act.put, List.setIfInBounds_toArray, List.set_cons_zero, List.set_cons_succ]
    refine wpAnyG_pure (i := 9) (oi := ⟨some 22, _, _, _, _, _⟩) (v := ?_) rfl (by kernel_rfl) (by kernel_rfl) (by kernel_rfl) (by rfl) (fun _ _ _ h => h) (by rfl) ?_ ?_
    rotate_left
    · intro w
      go_simp
      first | done | with_reducible rfl
    try simp only [Act.put, List.setIfInBounds_toArray, List.set_cons_zero, List.set_cons_succ]
    refine wpAnyG_load (i := 10) (oi := ⟨some 23, _, _, _, _, _⟩) (v := ?_) rfl (by kernel_rfl) (by kernel_rfl) (by kernel_rfl) (by rfl) (fun _ _ _ h => h) (by rfl) ?_ (by assumption) ?_
    rotate_left
    · intro w hS
      try dsimp only at hS
      go_simp
      first | done | with_reducible rfl
    try simp only [Act.put, List.setIfInBounds_toArray, List.set_cons_zero, List.set_cons_succ]
    refine wpAnyG_pure (i := 11) (oi := ⟨some 24, _, _, _, _, _⟩) (v := ?_) rfl (by kernel_rfl) (by kernel_rfl) (by kernel_rfl) (by rfl) (fun _ _ _ h => h) (by rfl) ?_ ?_
    rotate_left
    · intro w
      go_simp
      first | done | with_reducible rfl
    try simp only [Act.put, List.setIfInBounds_toArray, List.set_cons_zero, List.set_cons_succ]
    refine wpAnyG_pure (i := 12) (oi := ⟨some 25, _, _, _, _, _⟩) (v := ?_) rfl (by kernel_rfl) (by kernel_rfl) (by kernel_rfl) (by rfl) (fun _ _ _ h => h) (by rfl) ?_ ?_
    rotate_left
    · intro w
      go_simp
      first | done | with_reducible rfl
    try simp only [Act.put, List.setIfInBounds_toArray, List.set_cons_zero, List.set_cons_succ]
    refine wpAnyG_pure (i := 13) (oi := ⟨some 26, _, _, _, _, _⟩) (v := ?_) rfl (by kernel_rfl) (by kernel_rfl) (by kernel_rfl) (by rfl) (fun _ _ _ h => h) (by rfl) ?_ ?_
    rotate_left
    · intro w
      go_simp
      first | done | with_reducible rfl
    try simp only [Act.put, List.setIfInBounds_toArray, List.set_cons_zero, List.set_cons_succ]
    refine wpAnyG_load (i := 14) (oi := ⟨some 27, _, _, _, _, _⟩) (v := ?_) rfl (by kernel_rfl) (by kernel_rfl) (by kernel_rfl) (by rfl) (fun _ _ _ h => h) (by rfl) ?_ (by assumption) ?_
    rotate_left
    · intro w hS
      try dsimp only at hS
      go_simp
      first | done | with_reducible rfl
    try simp only [Act.put, List.setIfInBounds_toArray, List.set_cons_zero, List.set_cons_succ]
    refine wpAnyG_pure (i := 15) (oi := ⟨some 28, _, _, _, _, _⟩) (v := ?_) rfl (by kernel_rfl) (by kernel_rfl) (by kernel_rfl) (by rfl) (fun _ _ _ h => h) (by rfl) ?_ ?_
    rotate_left
    · intro w
      go_simp
      first | done | with_reducible rfl
    try simp only [Act.put, List.setIfInBounds_toArray, List.set_cons_zero, List.set_cons_succ]
    refine wpAnyG_load (i := 16) (oi := ⟨some 29, _, _, _, _, _⟩) (v := ?_) rfl (by kernel_rfl) (by kernel_rfl) (by kernel_rfl) (by rfl) (fun _ _ _ h => h) (by rfl) ?_ (by assumption) ?_
    rotate_left
    · intro w hS
      try dsimp only at hS
      go_simp
      first | done | with_reducible rfl
    try simp only [Act.put, List.setIfInBounds_toArray, List.set_cons_zero, List.set_cons_succ]
    refine wpAnyG_pure (i := 17) (oi := ⟨some 30, _, _, _, _, _⟩) (v := ?_) rfl (by kernel_rfl) (by kernel_rfl) (by kernel_rfl) (by rfl) (fun _ _ _ h => h) (by rfl) ?_ ?_
    rotate_left
    · intro w
      go_simp
      first | done | with_reducible rfl
    try simp only [Act.put, List.setIfInBounds_toArray, List.set_cons_zero, List.set_cons_succ]
    refine wpAnyG_pure (i := 18) (oi := ⟨some 31, _, _, _, _, _⟩) (v := ?_) rfl (by kernel_rfl) (by kernel_rfl) (by kernel_rfl) (by rfl) (fun _ _ _ h => h) (by rfl) ?_ ?_
    rotate_left
    · intro w
      go_simp
      first | done | with_reducible rfl
    try simp only [Act.put, List.setIfInBounds_toArray, List.set_cons_zero, List.set_cons_succ]
    refine wpAnyG_load (i := 19) (oi := ⟨some 32, _, _, _, _, _⟩) (v := ?_) rfl (by kernel_rfl) (by kernel_rfl) (by kernel_rfl) (by rfl) (fun _ _ _ h => h) (by rfl) ?_ (by assumption) ?_
    rotate_left
    · intro w hS
      try dsimp only at hS
      go_simp
      first | done | with_reducible rfl
    try simp only [Act.put, List.setIfInBounds_toArray, List.set_cons_zero, List.set_cons_succ]
    refine wpAnyG_pure (i := 21) (oi := ⟨some 34, _, _, _, _, _⟩) (v := ?_) rfl (by kernel_rfl) (by kernel_rfl) (by kernel_rfl) (by rfl) (fun _ _ _ h => h) (by rfl) ?_ ?_
    rotate_left
    · intro w
      go_simp
      first | done | with_reducible rfl
    try simp only [Act.put, List.setIfInBounds_toArray, List.set_cons_zero, List.set_cons_succ]
    refine wpAnyG_load (i := 22) (oi := ⟨some 35, _, _, _, _, _⟩) (v := ?_) rfl (by kernel_rfl) (by kernel_rfl) (by kernel_rfl) (by rfl) (fun _ _ _ h => h) (by rfl) ?_ (by assumption) ?_
    rotate_left
    · intro w hS
      try dsimp only at hS
      go_simp
      first | done | with_reducible rfl
    try simp only [Act.put, List.setIfInBounds_toArray, List.set_cons_zero, List.set_cons_succ]
    refine wpAnyG_pure (i := 23) (oi := ⟨some 36, _, _, _, _, _⟩) (v := ?_) rfl (by kernel_rfl) (by kernel_rfl) (by kernel_rfl) (by rfl) (fun _ _ _ h => h) (by rfl) ?_ ?_
    rotate_left
    · intro w
      go_simp
      first | done | with_reducible rfl
    try simp only [Act.put, List.setIfInBounds_toArray, List.set_cons_zero, List.set_cons_succ]
    refine wpAnyG_pure (i := 24) (oi := ⟨some 37, _, _, _, _, _⟩) (v := ?_) rfl (by kernel_rfl) (by kernel_rfl) (by kernel_rfl) (by rfl) (fun _ _ _ h => h) (by rfl) ?_ ?_
    rotate_left
    · intro w
      go_simp
      first | done | with_reducible rfl
    try simp only [Act.put, List.setIfInBounds_toArray, List.set_cons_zero, List.set_cons_succ]
    refine wpAnyG_pure (i := 26) (oi := ⟨some 39, _, _, _, _, _⟩) (v := ?_) rfl (by kernel_rfl) (by kernel_rfl) (by kernel_rfl) (by rfl) (fun _ _ _ h => h) (by rfl) ?_ ?_
    rotate_left
    · intro w
      go_simp
      first | done | with_reducible rfl
    try simp only [Act.put, List.setIfInBounds_toArray, List.set_cons_zero, List.set_cons_succ]
    refine wpAnyG_load (i := 27) (oi := ⟨some 40, _, _, _, _, _⟩) (v := ?_) rfl (by kernel_rfl) (by kernel_rfl) (by kernel_rfl) (by rfl) (fun _ _ _ h => h) (by rfl) ?_ (by assumption) ?_
    rotate_left
    · intro w hS
      try dsimp only at hS
      go_simp
      first | done | with_reducible rfl
    try simp only [Act.put, List.setIfInBounds_toArray, List.set_cons_zero, List.set_cons_succ]
    refine wpAnyG_pure (i := 28) (oi := ⟨some 41, _, _, _, _, _⟩) (v := ?_) rfl (by kernel_rfl) (by kernel_rfl) (by kernel_rfl) (by rfl) (fun _ _ _ h => h) (by rfl) ?_ ?_
    rotate_left
    · intro w
      go_simp
      first | done | with_reducible rfl
    try simp only [Act.put, List.setIfInBounds_toArray, List.set_cons_zero, List.set_cons_succ]
    refine wpAnyG_pure (i := 29) (oi := ⟨some 42, _, _, _, _, _⟩) (v := ?_) rfl (by kernel_rfl) (by kernel_rfl) (by kernel_rfl) (by rfl) (fun _ _ _ h => h) (by rfl) ?_ ?_
    rotate_left
    · intro w
      go_simp
      first | done | with_reducible rfl
    try simp only [Act.put, List.setIfInBounds_toArray, List.set_cons_zero, List.set_cons_succ]
    refine wpAnyG_keep (i := 3) (oi := ⟨some 16, _, _, _, _, _⟩) (by kernel_rfl) rfl (fun K hK => ?_)
    rw [if_pos (by rfl)]
    go_simp
    first | have h := (h : Own _ _ (Hp.ro S :: _)) | have h := (h.f1 : Own _ _ (Hp.ro S :: _)) | have h := (h.f2 : Own _ _ (Hp.ro S :: _)) | have h := (h.f3 : Own _ _ (Hp.ro S :: _)) | have h := (h.f4 : Own _ _ (Hp.ro S :: _)) | have h := (h.f5 : Own _ _ (Hp.ro S :: _)) | have h := (h.f6 : Own _ _ (Hp.ro S :: _)) | have h := (h.f7 : Own _ _ (Hp.ro S :: _)) | have h := (h.f8 : Own _ _ (Hp.ro S :: _)) | have h := (h.f9 : Own _ _ (Hp.ro S :: _)) | have h := (h.f10 : Own _ _ (Hp.ro S :: _)) | have h := (h.f11 : Own _ _ (Hp.ro S :: _)) | have h := (h.f12 : Own _ _ (Hp.ro S :: _)) | have h := (h.f13 : Own _ _ (Hp.ro S :: _)) | have h := (h.f14 : Own _ _ (Hp.ro S :: _)) | have h := (h.f15 : Own _ _ (Hp.ro S :: _))
    refine (pre_str (some ⟨b, off, none⟩) ks.length c1 i ks _ (by omega) (by omega) (by omega) r1 h).mono ?_
    rintro e w1 ⟨A1, q1, rfl, h⟩
    refine hK.out _ _ ?_ (fun hS => ?_)
    · exact HC.out _ h.has h.has
    clear hK K
    try simp only [Act.put, List.setIfInBounds_toArray, List.set_cons_zero, List.set_cons_succ]
    refine wpAnyG_keep (i := 7) (oi := ⟨some 20, _, _, _, _, _⟩) (by kernel_rfl) rfl (fun K hK => ?_)
    rw [if_pos (by rfl)]
    go_simp
    first | have h := (h : Own _ _ (Hp.ro S :: _)) | have h := (h.f1 : Own _ _ (Hp.ro S :: _)) | have h := (h.f2 : Own _ _ (Hp.ro S :: _)) | have h := (h.f3 : Own _ _ (Hp.ro S :: _)) | have h := (h.f4 : Own _ _ (Hp.ro S :: _)) | have h := (h.f5 : Own _ _ (Hp.ro S :: _)) | have h := (h.f6 : Own _ _ (Hp.ro S :: _)) | have h := (h.f7 : Own _ _ (Hp.ro S :: _)) | have h := (h.f8 : Own _ _ (Hp.ro S :: _)) | have h := (h.f9 : Own _ _ (Hp.ro S :: _)) | have h := (h.f10 : Own _ _ (Hp.ro S :: _)) | have h := (h.f11 : Own _ _ (Hp.ro S :: _)) | have h := (h.f12 : Own _ _ (Hp.ro S :: _)) | have h := (h.f13 : Own _ _ (Hp.ro S :: _)) | have h := (h.f14 : Own _ _ (Hp.ro S :: _)) | have h := (h.f15 : Own _ _ (Hp.ro S :: _))
    refine (pre_str a2 ks.length c2 i vs _ (by omega) (by omega) (by omega) r2 h).mono ?_
    rintro e w2 ⟨A2, q2, rfl, h⟩
    refine hK.out _ _ ?_ (fun hS => ?_)
    · exact HC.out _ h.has h.has
    clear hK K
    try simp only [Act.put, List.setIfInBounds_toArray, List.set_cons_zero, List.set_cons_succ]
    refine wpAnyG_pure (i := 8) (oi := ⟨some 21, _, _, _, _, _⟩) (v := ?_) rfl (by kernel_rfl) (by kernel_rfl) (by kernel_rfl) (by rfl) (fun _ _ _ h => h) (by rfl) ?_ ?_
    rotate_left
    · intro w
      go_simp
      first | done | with_reducible rfl
    try simp only [Act.put, List.setIfInBounds_toArray, List.set_cons_zero, List.set_cons_succ]
    refine wpAnyG_keep (i := 20) (oi := ⟨some 33, _, _, _, _, _⟩) (by kernel_rfl) rfl (fun K hK => ?_)
    rw [if_pos (by rfl)]
    go_simp
    refine (between_any x y _ (by omega) h).mono ?_
    rintro e w3 ⟨rfl, h⟩
    refine hK.out _ _ ?_ (fun hS => ?_)
    · exact HC.out _ h.has h.has
    clear hK K
    try simp only [Act.put, List.setIfInBounds_toArray, List.set_cons_zero, List.set_cons_succ]
    refine wpAnyG_keep (i := 25) (oi := ⟨some 38, _, _, _, _, _⟩) (by kernel_rfl) rfl (fun K hK => ?_)
    rw [if_pos (by rfl)]
    go_simp
    first | have h := (h : Own _ _ (Hp.ro S :: _)) | have h := (h.f1 : Own _ _ (Hp.ro S :: _)) | have h := (h.f2 : Own _ _ (Hp.ro S :: _)) | have h := (h.f3 : Own _ _ (Hp.ro S :: _)) | have h := (h.f4 : Own _ _ (Hp.ro S :: _)) | have h := (h.f5 : Own _ _ (Hp.ro S :: _)) | have h := (h.f6 : Own _ _ (Hp.ro S :: _)) | have h := (h.f7 : Own _ _ (Hp.ro S :: _)) | have h := (h.f8 : Own _ _ (Hp.ro S :: _)) | have h := (h.f9 : Own _ _ (Hp.ro S :: _)) | have h := (h.f10 : Own _ _ (Hp.ro S :: _)) | have h := (h.f11 : Own _ _ (Hp.ro S :: _)) | have h := (h.f12 : Own _ _ (Hp.ro S :: _)) | have h := (h.f13 : Own _ _ (Hp.ro S :: _)) | have h := (h.f14 : Own _ _ (Hp.ro S :: _)) | have h := (h.f15 : Own _ _ (Hp.ro S :: _))
    refine (suf_str (some ⟨b, off, none⟩) ks.length c1 i (ks.length - i) ks _ (by omega) (by omega) (by omega) (by omega) r1 h).mono ?_
    rintro e w4 ⟨A4, q4, rfl, h⟩
    refine hK.out _ _ ?_ (fun hS => ?_)
    · exact HC.out _ h.has h.has
    clear hK K
    try simp only [Act.put, List.setIfInBounds_toArray, List.set_cons_zero, List.set_cons_succ]
    refine wpAnyG_keep (i := 30) (oi := ⟨some 43, _, _, _, _, _⟩) (by kernel_rfl) rfl (fun K hK => ?_)
    rw [if_pos (by rfl)]
    go_simp
    first | have h := (h : Own _ _ (Hp.ro S :: _)) | have h := (h.f1 : Own _ _ (Hp.ro S :: _)) | have h := (h.f2 : Own _ _ (Hp.ro S :: _)) | have h := (h.f3 : Own _ _ (Hp.ro S :: _)) | have h := (h.f4 : Own _ _ (Hp.ro S :: _)) | have h := (h.f5 : Own _ _ (Hp.ro S :: _)) | have h := (h.f6 : Own _ _ (Hp.ro S :: _)) | have h := (h.f7 : Own _ _ (Hp.ro S :: _)) | have h := (h.f8 : Own _ _ (Hp.ro S :: _)) | have h := (h.f9 : Own _ _ (Hp.ro S :: _)) | have h := (h.f10 : Own _ _ (Hp.ro S :: _)) | have h := (h.f11 : Own _ _ (Hp.ro S :: _)) | have h := (h.f12 : Own _ _ (Hp.ro S :: _)) | have h := (h.f13 : Own _ _ (Hp.ro S :: _)) | have h := (h.f14 : Own _ _ (Hp.ro S :: _)) | have h := (h.f15 : Own _ _ (Hp.ro S :: _))
    refine (suf_str a2 ks.length c2 i (ks.length - i) vs _ (by omega) (by omega) (by omega) (by omega) r2 h).mono ?_
    rintro e w5 ⟨A5, q5, rfl, h⟩
    refine hK.out _ _ ?_ (fun hS => ?_)
    · exact HC.out _ h.has h.has
    clear hK K
    try simp only [Act.put, List.setIfInBounds_toArray, List.set_cons_zero, List.set_cons_succ]
    refine wpAnyG_pure (i := 31) (oi := ⟨some 44, _, _, _, _, _⟩) (v := ?_) rfl (by kernel_rfl) (by kernel_rfl) (by kernel_rfl) (by rfl) (fun _ _ _ h => h) (by rfl) ?_ ?_
    rotate_left
    · intro w
      go_simp
      first | done | with_reducible rfl
    try simp only [Act.put, List.setIfInBounds_toArray, List.set_cons_zero, List.set_cons_succ]
    refine wpAnyG_keep (i := 32) (oi := ⟨none, _, _, _, _, _⟩) (by kernel_rfl) rfl (fun K hK => ?_)
    rw [if_pos (by rfl)]
    first | have h := (h : Own _ _ (Hp.blk (g + 1) NT _ :: _)) | have h := (h.f1 : Own _ _ (Hp.blk (g + 1) NT _ :: _)) | have h := (h.f2 : Own _ _ (Hp.blk (g + 1) NT _ :: _)) | have h := (h.f3 : Own _ _ (Hp.blk (g + 1) NT _ :: _)) | have h := (h.f4 : Own _ _ (Hp.blk (g + 1) NT _ :: _)) | have h := (h.f5 : Own _ _ (Hp.blk (g + 1) NT _ :: _)) | have h := (h.f6 : Own _ _ (Hp.blk (g + 1) NT _ :: _)) | have h := (h.f7 : Own _ _ (Hp.blk (g + 1) NT _ :: _)) | have h := (h.f8 : Own _ _ (Hp.blk (g + 1) NT _ :: _)) | have h := (h.f9 : Own _ _ (Hp.blk (g + 1) NT _ :: _)) | have h := (h.f10 : Own _ _ (Hp.blk (g + 1) NT _ :: _)) | have h := (h.f11 : Own _ _ (Hp.blk (g + 1) NT _ :: _)) | have h := (h.f12 : Own _ _ (Hp.blk (g + 1) NT _ :: _)) | have h := (h.f13 : Own _ _ (Hp.blk (g + 1) NT _ :: _)) | have h := (h.f14 : Own _ _ (Hp.blk (g + 1) NT _ :: _)) | have h := (h.f15 : Own _ _ (Hp.blk (g + 1) NT _ :: _))
    refine wp_store_whole (cs := [.bool false, .slice none 0 0, .slice none 0 0, .slice none 0 0]) (vs := [.bool true, .slice A1 i q1, .slice A2 i q2, .slice none 0 0]) h rfl (ND_all1 _ _ _ _ rfl rfl rfl) (by kernel_rfl) rfl rfl rfl (fun w9 h => ?_)
    refine hK.out _ _ ?_ (fun hS => ?_)
    · exact HC.out _ h.has h.has
    clear hK K
    try simp only [Act.put]
    refine wpAnyG_pure (i := 33) (oi := ⟨some 5, _, _, _, _, _⟩) (v := ?_) rfl (by kernel_rfl) (by kernel_rfl) (by kernel_rfl) (by rfl) (fun _ _ _ h => h) (by rfl) ?_ ?_
    rotate_left
    · intro w
      go_simp
      first | done | with_reducible rfl
    try simp only [Act.put, List.setIfInBounds_toArray, List.set_cons_zero, List.set_cons_succ]
    refine wpAnyG_keep (i := 34) (oi := ⟨none, _, _, _, _, _⟩) (by kernel_rfl) rfl (fun K hK => ?_)
    rw [if_pos (by rfl)]
    first | have h := (h : Own _ _ (Hp.blk (g + 2) NT _ :: _)) | have h := (h.f1 : Own _ _ (Hp.blk (g + 2) NT _ :: _)) | have h := (h.f2 : Own _ _ (Hp.blk (g + 2) NT _ :: _)) | have h := (h.f3 : Own _ _ (Hp.blk (g + 2) NT _ :: _)) | have h := (h.f4 : Own _ _ (Hp.blk (g + 2) NT _ :: _)) | have h := (h.f5 : Own _ _ (Hp.blk (g + 2) NT _ :: _)) | have h := (h.f6 : Own _ _ (Hp.blk (g + 2) NT _ :: _)) | have h := (h.f7 : Own _ _ (Hp.blk (g + 2) NT _ :: _)) | have h := (h.f8 : Own _ _ (Hp.blk (g + 2) NT _ :: _)) | have h := (h.f9 : Own _ _ (Hp.blk (g + 2) NT _ :: _)) | have h := (h.f10 : Own _ _ (Hp.blk (g + 2) NT _ :: _)) | have h := (h.f11 : Own _ _ (Hp.blk (g + 2) NT _ :: _)) | have h := (h.f12 : Own _ _ (Hp.blk (g + 2) NT _ :: _)) | have h := (h.f13 : Own _ _ (Hp.blk (g + 2) NT _ :: _)) | have h := (h.f14 : Own _ _ (Hp.blk (g + 2) NT _ :: _)) | have h := (h.f15 : Own _ _ (Hp.blk (g + 2) NT _ :: _))
    refine wp_store_whole (cs := [.bool false, .slice none 0 0, .slice none 0 0, .slice none 0 0]) (vs := [.bool true, .slice A4 (ks.length - i) q4, .slice A5 (ks.length - i) q5, .slice none 0 0]) h rfl (ND_all1 _ _ _ _ rfl rfl rfl) (by kernel_rfl) rfl rfl rfl (fun w9 h => ?_)
    refine hK.out _ _ ?_ (fun hS => ?_)
    · exact HC.out _ h.has h.has
    clear hK K
    try simp only [Act.put]
    refine wpAnyG_done (by kernel_rfl) ?_ _
    refine NoPanic.normal ?_
    go_wp2_with fail
    first | have h := (h : Own _ _ (Hp.blk (g + 2) NT _ :: _)) | have h := (h.f1 : Own _ _ (Hp.blk (g + 2) NT _ :: _)) | have h := (h.f2 : Own _ _ (Hp.blk (g + 2) NT _ :: _)) | have h := (h.f3 : Own _ _ (Hp.blk (g + 2) NT _ :: _)) | have h := (h.f4 : Own _ _ (Hp.blk (g + 2) NT _ :: _)) | have h := (h.f5 : Own _ _ (Hp.blk (g + 2) NT _ :: _)) | have h := (h.f6 : Own _ _ (Hp.blk (g + 2) NT _ :: _)) | have h := (h.f7 : Own _ _ (Hp.blk (g + 2) NT _ :: _)) | have h := (h.f8 : Own _ _ (Hp.blk (g + 2) NT _ :: _)) | have h := (h.f9 : Own _ _ (Hp.blk (g + 2) NT _ :: _)) | have h := (h.f10 : Own _ _ (Hp.blk (g + 2) NT _ :: _)) | have h := (h.f11 : Own _ _ (Hp.blk (g + 2) NT _ :: _)) | have h := (h.f12 : Own _ _ (Hp.blk (g + 2) NT _ :: _)) | have h := (h.f13 : Own _ _ (Hp.blk (g + 2) NT _ :: _)) | have h := (h.f14 : Own _ _ (Hp.blk (g + 2) NT _ :: _)) | have h := (h.f15 : Own _ _ (Hp.blk (g + 2) NT _ :: _))
    first | have h := (h : Own _ _ (Hp.blk (g + 1) NT _ :: _)) | have h := (h.f1 : Own _ _ (Hp.blk (g + 1) NT _ :: _)) | have h := (h.f2 : Own _ _ (Hp.blk (g + 1) NT _ :: _)) | have h := (h.f3 : Own _ _ (Hp.blk (g + 1) NT _ :: _)) | have h := (h.f4 : Own _ _ (Hp.blk (g + 1) NT _ :: _)) | have h := (h.f5 : Own _ _ (Hp.blk (g + 1) NT _ :: _)) | have h := (h.f6 : Own _ _ (Hp.blk (g + 1) NT _ :: _)) | have h := (h.f7 : Own _ _ (Hp.blk (g + 1) NT _ :: _)) | have h := (h.f8 : Own _ _ (Hp.blk (g + 1) NT _ :: _)) | have h := (h.f9 : Own _ _ (Hp.blk (g + 1) NT _ :: _)) | have h := (h.f10 : Own _ _ (Hp.blk (g + 1) NT _ :: _)) | have h := (h.f11 : Own _ _ (Hp.blk (g + 1) NT _ :: _)) | have h := (h.f12 : Own _ _ (Hp.blk (g + 1) NT _ :: _)) | have h := (h.f13 : Own _ _ (Hp.blk (g + 1) NT _ :: _)) | have h := (h.f14 : Own _ _ (Hp.blk (g + 1) NT _ :: _)) | have h := (h.f15 : Own _ _ (Hp.blk (g + 1) NT _ :: _))
    refine bodyPost_ret (results_ctc rfl rfl rfl h hnt hnr (by kernel_rfl) (by kernel_rfl)) rfl ?_
    refine ⟨_, _, rfl, ?_⟩
    have h := h.drop.drop
    first | have h := (h : Own _ _ (Hp.blk g NT _ :: _)) | have h := (h.f1 : Own _ _ (Hp.blk g NT _ :: _)) | have h := (h.f2 : Own _ _ (Hp.blk g NT _ :: _)) | have h := (h.f3 : Own _ _ (Hp.blk g NT _ :: _)) | have h := (h.f4 : Own _ _ (Hp.blk g NT _ :: _)) | have h := (h.f5 : Own _ _ (Hp.blk g NT _ :: _)) | have h := (h.f6 : Own _ _ (Hp.blk g NT _ :: _)) | have h := (h.f7 : Own _ _ (Hp.blk g NT _ :: _)) | have h := (h.f8 : Own _ _ (Hp.blk g NT _ :: _)) | have h := (h.f9 : Own _ _ (Hp.blk g NT _ :: _)) | have h := (h.f10 : Own _ _ (Hp.blk g NT _ :: _)) | have h := (h.f11 : Own _ _ (Hp.blk g NT _ :: _)) | have h := (h.f12 : Own _ _ (Hp.blk g NT _ :: _)) | have h := (h.f13 : Own _ _ (Hp.blk g NT _ :: _)) | have h := (h.f14 : Own _ _ (Hp.blk g NT _ :: _)) | have h := (h.f15 : Own _ _ (Hp.blk g NT _ :: _))
    have h := h.drop
    first | have h := (h : Own _ _ (Hp.strs (.slice A5 _ q5) _ :: _)) | have h := (h.f1 : Own _ _ (Hp.strs (.slice A5 _ q5) _ :: _)) | have h := (h.f2 : Own _ _ (Hp.strs (.slice A5 _ q5) _ :: _)) | have h := (h.f3 : Own _ _ (Hp.strs (.slice A5 _ q5) _ :: _)) | have h := (h.f4 : Own _ _ (Hp.strs (.slice A5 _ q5) _ :: _)) | have h := (h.f5 : Own _ _ (Hp.strs (.slice A5 _ q5) _ :: _)) | have h := (h.f6 : Own _ _ (Hp.strs (.slice A5 _ q5) _ :: _)) | have h := (h.f7 : Own _ _ (Hp.strs (.slice A5 _ q5) _ :: _)) | have h := (h.f8 : Own _ _ (Hp.strs (.slice A5 _ q5) _ :: _)) | have h := (h.f9 : Own _ _ (Hp.strs (.slice A5 _ q5) _ :: _)) | have h := (h.f10 : Own _ _ (Hp.strs (.slice A5 _ q5) _ :: _)) | have h := (h.f11 : Own _ _ (Hp.strs (.slice A5 _ q5) _ :: _)) | have h := (h.f12 : Own _ _ (Hp.strs (.slice A5 _ q5) _ :: _)) | have h := (h.f13 : Own _ _ (Hp.strs (.slice A5 _ q5) _ :: _)) | have h := (h.f14 : Own _ _ (Hp.strs (.slice A5 _ q5) _ :: _)) | have h := (h.f15 : Own _ _ (Hp.strs (.slice A5 _ q5) _ :: _))
    first | have h := (h : Own _ _ (Hp.strs (.slice A4 _ q4) _ :: _)) | have h := (h.f1 : Own _ _ (Hp.strs (.slice A4 _ q4) _ :: _)) | have h := (h.f2 : Own _ _ (Hp.strs (.slice A4 _ q4) _ :: _)) | have h := (h.f3 : Own _ _ (Hp.strs (.slice A4 _ q4) _ :: _)) | have h := (h.f4 : Own _ _ (Hp.strs (.slice A4 _ q4) _ :: _)) | have h := (h.f5 : Own _ _ (Hp.strs (.slice A4 _ q4) _ :: _)) | have h := (h.f6 : Own _ _ (Hp.strs (.slice A4 _ q4) _ :: _)) | have h := (h.f7 : Own _ _ (Hp.strs (.slice A4 _ q4) _ :: _)) | have h := (h.f8 : Own _ _ (Hp.strs (.slice A4 _ q4) _ :: _)) | have h := (h.f9 : Own _ _ (Hp.strs (.slice A4 _ q4) _ :: _)) | have h := (h.f10 : Own _ _ (Hp.strs (.slice A4 _ q4) _ :: _)) | have h := (h.f11 : Own _ _ (Hp.strs (.slice A4 _ q4) _ :: _)) | have h := (h.f12 : Own _ _ (Hp.strs (.slice A4 _ q4) _ :: _)) | have h := (h.f13 : Own _ _ (Hp.strs (.slice A4 _ q4) _ :: _)) | have h := (h.f14 : Own _ _ (Hp.strs (.slice A4 _ q4) _ :: _)) | have h := (h.f15 : Own _ _ (Hp.strs (.slice A4 _ q4) _ :: _))
    have h := h.emptyLst IT none
    have h := Own.toNode (n := ⟨true, ks.drop i, vs.drop i, []⟩) h.b2
    first | have h := (h : Own _ _ (Hp.strs (.slice A2 _ q2) _ :: _)) | have h := (h.f1 : Own _ _ (Hp.strs (.slice A2 _ q2) _ :: _)) | have h := (h.f2 : Own _ _ (Hp.strs (.slice A2 _ q2) _ :: _)) | have h := (h.f3 : Own _ _ (Hp.strs (.slice A2 _ q2) _ :: _)) | have h := (h.f4 : Own _ _ (Hp.strs (.slice A2 _ q2) _ :: _)) | have h := (h.f5 : Own _ _ (Hp.strs (.slice A2 _ q2) _ :: _)) | have h := (h.f6 : Own _ _ (Hp.strs (.slice A2 _ q2) _ :: _)) | have h := (h.f7 : Own _ _ (Hp.strs (.slice A2 _ q2) _ :: _)) | have h := (h.f8 : Own _ _ (Hp.strs (.slice A2 _ q2) _ :: _)) | have h := (h.f9 : Own _ _ (Hp.strs (.slice A2 _ q2) _ :: _)) | have h := (h.f10 : Own _ _ (Hp.strs (.slice A2 _ q2) _ :: _)) | have h := (h.f11 : Own _ _ (Hp.strs (.slice A2 _ q2) _ :: _)) | have h := (h.f12 : Own _ _ (Hp.strs (.slice A2 _ q2) _ :: _)) | have h := (h.f13 : Own _ _ (Hp.strs (.slice A2 _ q2) _ :: _)) | have h := (h.f14 : Own _ _ (Hp.strs (.slice A2 _ q2) _ :: _)) | have h := (h.f15 : Own _ _ (Hp.strs (.slice A2 _ q2) _ :: _))
    first | have h := (h : Own _ _ (Hp.strs (.slice A1 _ q1) _ :: _)) | have h := (h.f1 : Own _ _ (Hp.strs (.slice A1 _ q1) _ :: _)) | have h := (h.f2 : Own _ _ (Hp.strs (.slice A1 _ q1) _ :: _)) | have h := (h.f3 : Own _ _ (Hp.strs (.slice A1 _ q1) _ :: _)) | have h := (h.f4 : Own _ _ (Hp.strs (.slice A1 _ q1) _ :: _)) | have h := (h.f5 : Own _ _ (Hp.strs (.slice A1 _ q1) _ :: _)) | have h := (h.f6 : Own _ _ (Hp.strs (.slice A1 _ q1) _ :: _)) | have h := (h.f7 : Own _ _ (Hp.strs (.slice A1 _ q1) _ :: _)) | have h := (h.f8 : Own _ _ (Hp.strs (.slice A1 _ q1) _ :: _)) | have h := (h.f9 : Own _ _ (Hp.strs (.slice A1 _ q1) _ :: _)) | have h := (h.f10 : Own _ _ (Hp.strs (.slice A1 _ q1) _ :: _)) | have h := (h.f11 : Own _ _ (Hp.strs (.slice A1 _ q1) _ :: _)) | have h := (h.f12 : Own _ _ (Hp.strs (.slice A1 _ q1) _ :: _)) | have h := (h.f13 : Own _ _ (Hp.strs (.slice A1 _ q1) _ :: _)) | have h := (h.f14 : Own _ _ (Hp.strs (.slice A1 _ q1) _ :: _)) | have h := (h.f15 : Own _ _ (Hp.strs (.slice A1 _ q1) _ :: _))
    have h := h.emptyLst IT none
    have h := Own.toNode (n := ⟨true, ks.take i, vs.take i, []⟩) h.b2
    exact h
  | false =>
    have hll : ls.length = ks.length + 1 := hform.1
    have hi3 : i + 1 < ks.length := hform.2
    have j8 : ((i + 1 : Nat) : Int) < ks.length := by omega
    have j9 : (0 : Int) ≤ ((i + 1 : Nat) : Int) := by omega
    rw [hll] at r3 H HC m3 l3 ⊢
    clear hform
    simp only [Bool.false_eq_true, if_false]
    go_enter Tryd.func60, Tryd.ntmps60
    go_wp2_with fail
    rw [← hg]
    clear hg
    have h := H.out.drew
    clear H
    refine wp_region_text [1, 5, 11, 14, 16, 22] (fun w' => w'.cell? ⟨g, 1, none⟩ = some (.slice (some ⟨b, off, none⟩) ks.length c1) ∧ w'.cell? ⟨g, 2, none⟩ = some (.slice a2 vs.length c2) ∧ w'.cell? ⟨g, 3, none⟩ = some (.slice a3 (ks.length + 1) c3) ∧ w'.cell? ⟨b, off + (i - 1), none⟩ = some (.string x) ∧ w'.cell? ⟨b, off + i, none⟩ = some (.string y)) (by kernel_rfl) ?_ (fun hS => ?_)
    · exact HC.out _ h.has h.has
    refine wpAnyG_pure (i := 0) (oi := ⟨some 45, _, _, _, _, _⟩) (v := ?_) rfl (by kernel_rfl) (by kernel_rfl) (by kernel_rfl) (by rfl) (fun _ _ _ h => h) (by rfl) ?_ ?_
    rotate_left
    · intro w
      go_simp
      first | done | with_reducible rfl
    try simp only [Act.put, List.setIfInBounds_toArray, List.set_cons_zero, List.set_cons_succ]
    refine wpAnyG_load (i := 1) (oi := ⟨some 46, _, _, _, _, _⟩) (v := ?_) rfl (by kernel_rfl) (by kernel_rfl) (by kernel_rfl) (by rfl) (fun _ _ _ h => h) (by rfl) ?_ (by assumption) ?_
    rotate_left
    · intro w hS
      try dsimp only at hS
      go_simp
      first | done | with_reducible rfl
    try simp only [Act.put, List.setIfInBounds_toArray, List.set_cons_zero, List.set_cons_succ]
    refine wpAnyG_pure (i := 2) (oi := ⟨some 47, _, _, _, _, _⟩) (v := ?_) rfl (by kernel_rfl) (by kernel_rfl) (by kernel_rfl) (by rfl) (fun _ _ _ h => h) (by rfl) ?_ ?_
    rotate_left
    · intro w
      go_simp
      first | done | with_reducible rfl
    try simp only [Act.put, List.setIfInBounds_toArray, List.set_cons_zero, List.set_cons_succ]
    refine wpAnyG_pure (i := 4) (oi := ⟨some 49, _, _, _, _, _⟩) (v := ?_) rfl (by kernel_rfl) (by kernel_rfl) (by kernel_rfl) (by rfl) (fun _ _ _ h => h) (by rfl) ?_ ?_
    rotate_left
    · intro w
      go_simp
      first | done | with_reducible rfl
    try simp only [Act.put, List.setIfInBounds_toArray, List.set_cons_zero, List.set_cons_succ]
    refine wpAnyG_load (i := 5) (oi := ⟨some 50, _, _, _, _, _⟩) (v := ?_) rfl (by kernel_rfl) (by kernel_rfl) (by kernel_rfl) (by rfl) (fun _ _ _ h => h) (by rfl) ?_ (by assumption) ?_
    rotate_left
    · intro w hS
      try dsimp only at hS
      go_simp
      first | done | with_reducible rfl
    try simp only [Act.put, List.setIfInBounds_toArray, List.set_cons_zero, List.set_cons_succ]
    refine wpAnyG_pure (i := 6) (oi := ⟨some 51, _, _, _, _, _⟩) (v := ?_) rfl (by kernel_rfl) (by kernel_rfl) (by kernel_rfl) (by rfl) (fun _ _ _ h => h) (by rfl) ?_ ?_
    rotate_left
    · intro w
      go_simp
      first | done | with_reducible rfl
    try simp only [Act.put, List.setIfInBounds_toArray, List.set_cons_zero, List.set_cons_succ]
    refine wpAnyG_pure (i := 7) (oi := ⟨some 52, _, _, _, _, _⟩) (v := ?_) rfl (by kernel_rfl) (by kernel_rfl) (by kernel_rfl) (by rfl) (fun _ _ _ h => h) (by rfl) ?_ ?_
    rotate_left
    · intro w
      go_simp
      first | done | with_reducible rfl
    try simp only [Act.put, List.setIfInBounds_toArray, List.set_cons_zero, List.set_cons_succ]
    refine wpAnyG_pure (i := 10) (oi := ⟨some 55, _, _, _, _, _⟩) (v := ?_) rfl (by kernel_rfl) (by kernel_rfl) (by kernel_rfl) (by rfl) (fun _ _ _ h => h) (by rfl) ?_ ?_
    rotate_left
    · intro w
      go_simp
      first | done | with_reducible rfl
    try simp only [Act.put, List.setIfInBounds_toArray, List.set_cons_zero, List.set_cons_succ]
    refine wpAnyG_load (i := 11) (oi := ⟨some 56, _, _, _, _, _⟩) (v := ?_) rfl (by kernel_rfl) (by kernel_rfl) (by kernel_rfl) (by rfl) (fun _ _ _ h => h) (by rfl) ?_ (by assumption) ?_
    rotate_left
    · intro w hS
      try dsimp only at hS
      go_simp
      first | done | with_reducible rfl
    try simp only [Act.put, List.setIfInBounds_toArray, List.set_cons_zero, List.set_cons_succ]
    refine wpAnyG_pure (i := 12) (oi := ⟨some 57, _, _, _, _, _⟩) (v := ?_) rfl (by kernel_rfl) (by kernel_rfl) (by kernel_rfl) (by rfl) (fun _ _ _ h => h) (by rfl) ?_ ?_
    rotate_left
    · intro w
      go_simp
      first | done | with_reducible rfl
    try simp only [Act.put, List.setIfInBounds_toArray, List.set_cons_zero, List.set_cons_succ]
    refine wpAnyG_pure (i := 13) (oi := ⟨some 58, _, _, _, _, _⟩) (v := ?_) rfl (by kernel_rfl) (by kernel_rfl) (by kernel_rfl) (by rfl) (fun _ _ _ h => h) (by rfl) ?_ ?_
    rotate_left
    · intro w
      go_simp
      first | done | with_reducible rfl
    try simp only [Act.put, List.setIfInBounds_toArray, List.set_cons_zero, List.set_cons_succ]
    refine wpAnyG_load (i := 14) (oi := ⟨some 59, _, _, _, _, _⟩) (v := ?_) rfl (by kernel_rfl) (by kernel_rfl) (by kernel_rfl) (by rfl) (fun _ _ _ h => h) (by rfl) ?_ (by assumption) ?_
    rotate_left
    · intro w hS
      try dsimp only at hS
      go_simp
      first | done | with_reducible rfl
    try simp only [Act.put, List.setIfInBounds_toArray, List.set_cons_zero, List.set_cons_succ]
    refine wpAnyG_pure (i := 15) (oi := ⟨some 60, _, _, _, _, _⟩) (v := ?_) rfl (by kernel_rfl) (by kernel_rfl) (by kernel_rfl) (by rfl) (fun _ _ _ h => h) (by rfl) ?_ ?_
    rotate_left
    · intro w
      go_simp
      first | done | with_reducible rfl
    try simp only [Act.put, List.setIfInBounds_toArray, List.set_cons_zero, List.set_cons_succ]
    refine wpAnyG_load (i := 16) (oi := ⟨some 61, _, _, _, _, _⟩) (v := ?_) rfl (by kernel_rfl) (by kernel_rfl) (by kernel_rfl) (by rfl) (fun _ _ _ h => h) (by rfl) ?_ (by assumption) ?_
    rotate_left
    · intro w hS
      try dsimp only at hS
      go_simp
      first | done | with_reducible rfl
    try simp only [Act.put, List.setIfInBounds_toArray, List.set_cons_zero, List.set_cons_succ]
    refine wpAnyG_pure (i := 17) (oi := ⟨some 62, _, _, _, _, _⟩) (v := ?_) rfl (by kernel_rfl) (by kernel_rfl) (by kernel_rfl) (by rfl) (fun _ _ _ h => h) (by rfl) ?_ ?_
    rotate_left
    · intro w
      go_simp
      first | done | with_reducible rfl
    try simp only [Act.put, List.setIfInBounds_toArray, List.set_cons_zero, List.set_cons_succ]
    refine wpAnyG_pure (i := 18) (oi := ⟨some 63, _, _, _, _, _⟩) (v := ?_) rfl (by kernel_rfl) (by kernel_rfl) (by kernel_rfl) (by rfl) (fun _ _ _ h => h) (by rfl) ?_ ?_
    rotate_left
    · intro w
      go_simp
      first | done | with_reducible rfl
    try simp only [Act.put, List.setIfInBounds_toArray, List.set_cons_zero, List.set_cons_succ]
    refine wpAnyG_pure (i := 19) (oi := ⟨some 64, _, _, _, _, _⟩) (v := ?_) rfl (by kernel_rfl) (by kernel_rfl) (by kernel_rfl) (by rfl) (fun _ _ _ h => h) (by rfl) ?_ ?_
    rotate_left
    · intro w
      go_simp
      first | done | with_reducible rfl
    try simp only [Act.put, List.setIfInBounds_toArray, List.set_cons_zero, List.set_cons_succ]
    refine wpAnyG_pure (i := 21) (oi := ⟨some 66, _, _, _, _, _⟩) (v := ?_) rfl (by kernel_rfl) (by kernel_rfl) (by kernel_rfl) (by rfl) (fun _ _ _ h => h) (by rfl) ?_ ?_
    rotate_left
    · intro w
      go_simp
      first | done | with_reducible rfl
    try simp only [Act.put, List.setIfInBounds_toArray, List.set_cons_zero, List.set_cons_succ]
    refine wpAnyG_load (i := 22) (oi := ⟨some 67, _, _, _, _, _⟩) (v := ?_) rfl (by kernel_rfl) (by kernel_rfl) (by kernel_rfl) (by rfl) (fun _ _ _ h => h) (by rfl) ?_ (by assumption) ?_
    rotate_left
    · intro w hS
      try dsimp only at hS
      go_simp
      first | done | with_reducible rfl
    try simp only [Act.put, List.setIfInBounds_toArray, List.set_cons_zero, List.set_cons_succ]
    refine wpAnyG_pure (i := 23) (oi := ⟨some 68, _, _, _, _, _⟩) (v := ?_) rfl (by kernel_rfl) (by kernel_rfl) (by kernel_rfl) (by rfl) (fun _ _ _ h => h) (by rfl) ?_ ?_
    rotate_left
    · intro w
      go_simp
      first | done | with_reducible rfl
    try simp only [Act.put, List.setIfInBounds_toArray, List.set_cons_zero, List.set_cons_succ]
    refine wpAnyG_pure (i := 24) (oi := ⟨some 69, _, _, _, _, _⟩) (v := ?_) rfl (by kernel_rfl) (by kernel_rfl) (by kernel_rfl) (by rfl) (fun _ _ _ h => h) (by rfl) ?_ ?_
    rotate_left
    · intro w
      go_simp
      first | done | with_reducible rfl
    try simp only [Act.put, List.setIfInBounds_toArray, List.set_cons_zero, List.set_cons_succ]
    refine wpAnyG_pure (i := 25) (oi := ⟨some 70, _, _, _, _, _⟩) (v := ?_) rfl (by kernel_rfl) (by kernel_rfl) (by kernel_rfl) (by rfl) (fun _ _ _ h => h) (by rfl) ?_ ?_
    rotate_left
    · intro w
      go_simp
      first | done | with_reducible rfl
    try simp only [Act.put, List.setIfInBounds_toArray, List.set_cons_zero, List.set_cons_succ]
    refine wpAnyG_pure (i := 26) (oi := ⟨some 71, _, _, _, _, _⟩) (v := ?_) rfl (by kernel_rfl) (by kernel_rfl) (by kernel_rfl) (by rfl) (fun _ _ _ h => h) (by rfl) ?_ ?_
    rotate_left
    · intro w
      go_simp
      first | done | with_reducible rfl
    try simp only [Act.put, List.setIfInBounds_toArray, List.set_cons_zero, List.set_cons_succ]
    refine wpAnyG_keep (i := 3) (oi := ⟨some 48, _, _, _, _, _⟩) (by kernel_rfl) rfl (fun K hK => ?_)
    rw [if_pos (by rfl)]
    go_simp
    first | have h := (h : Own _ _ (Hp.ro S :: _)) | have h := (h.f1 : Own _ _ (Hp.ro S :: _)) | have h := (h.f2 : Own _ _ (Hp.ro S :: _)) | have h := (h.f3 : Own _ _ (Hp.ro S :: _)) | have h := (h.f4 : Own _ _ (Hp.ro S :: _)) | have h := (h.f5 : Own _ _ (Hp.ro S :: _)) | have h := (h.f6 : Own _ _ (Hp.ro S :: _)) | have h := (h.f7 : Own _ _ (Hp.ro S :: _)) | have h := (h.f8 : Own _ _ (Hp.ro S :: _)) | have h := (h.f9 : Own _ _ (Hp.ro S :: _)) | have h := (h.f10 : Own _ _ (Hp.ro S :: _)) | have h := (h.f11 : Own _ _ (Hp.ro S :: _)) | have h := (h.f12 : Own _ _ (Hp.ro S :: _)) | have h := (h.f13 : Own _ _ (Hp.ro S :: _)) | have h := (h.f14 : Own _ _ (Hp.ro S :: _)) | have h := (h.f15 : Own _ _ (Hp.ro S :: _))
    refine (pre_str (some ⟨b, off, none⟩) ks.length c1 i ks _ (by omega) (by omega) (by omega) r1 h).mono ?_
    rintro e w1 ⟨A1, q1, rfl, h⟩
    refine hK.out _ _ ?_ (fun hS => ?_)
    · exact HC.out _ h.has h.has
    clear hK K
    try simp only [Act.put, List.setIfInBounds_toArray, List.set_cons_zero, List.set_cons_succ]
    refine wpAnyG_keep (i := 8) (oi := ⟨some 53, _, _, _, _, _⟩) (by kernel_rfl) rfl (fun K hK => ?_)
    rw [if_pos (by rfl)]
    go_simp
    first | have h := (h : Own _ _ (Hp.ro S :: _)) | have h := (h.f1 : Own _ _ (Hp.ro S :: _)) | have h := (h.f2 : Own _ _ (Hp.ro S :: _)) | have h := (h.f3 : Own _ _ (Hp.ro S :: _)) | have h := (h.f4 : Own _ _ (Hp.ro S :: _)) | have h := (h.f5 : Own _ _ (Hp.ro S :: _)) | have h := (h.f6 : Own _ _ (Hp.ro S :: _)) | have h := (h.f7 : Own _ _ (Hp.ro S :: _)) | have h := (h.f8 : Own _ _ (Hp.ro S :: _)) | have h := (h.f9 : Own _ _ (Hp.ro S :: _)) | have h := (h.f10 : Own _ _ (Hp.ro S :: _)) | have h := (h.f11 : Own _ _ (Hp.ro S :: _)) | have h := (h.f12 : Own _ _ (Hp.ro S :: _)) | have h := (h.f13 : Own _ _ (Hp.ro S :: _)) | have h := (h.f14 : Own _ _ (Hp.ro S :: _)) | have h := (h.f15 : Own _ _ (Hp.ro S :: _))
    refine (pre_int a3 (ks.length + 1) c3 (i + 1) ls _ (by omega) (by omega) (by omega) r3 h).mono ?_
    rintro e w2 ⟨A2, q2, rfl, h⟩
    refine hK.out _ _ ?_ (fun hS => ?_)
    · exact HC.out _ h.has h.has
    clear hK K
    try simp only [Act.put, List.setIfInBounds_toArray, List.set_cons_zero, List.set_cons_succ]
    refine wpAnyG_pure (i := 9) (oi := ⟨some 54, _, _, _, _, _⟩) (v := ?_) rfl (by kernel_rfl) (by kernel_rfl) (by kernel_rfl) (by rfl) (fun _ _ _ h => h) (by rfl) ?_ ?_
    rotate_left
    · intro w
      go_simp
      first | done | with_reducible rfl
    try simp only [Act.put, List.setIfInBounds_toArray, List.set_cons_zero, List.set_cons_succ]
    refine wpAnyG_keep (i := 20) (oi := ⟨some 65, _, _, _, _, _⟩) (by kernel_rfl) rfl (fun K hK => ?_)
    rw [if_pos (by rfl)]
    go_simp
    first | have h := (h : Own _ _ (Hp.ro S :: _)) | have h := (h.f1 : Own _ _ (Hp.ro S :: _)) | have h := (h.f2 : Own _ _ (Hp.ro S :: _)) | have h := (h.f3 : Own _ _ (Hp.ro S :: _)) | have h := (h.f4 : Own _ _ (Hp.ro S :: _)) | have h := (h.f5 : Own _ _ (Hp.ro S :: _)) | have h := (h.f6 : Own _ _ (Hp.ro S :: _)) | have h := (h.f7 : Own _ _ (Hp.ro S :: _)) | have h := (h.f8 : Own _ _ (Hp.ro S :: _)) | have h := (h.f9 : Own _ _ (Hp.ro S :: _)) | have h := (h.f10 : Own _ _ (Hp.ro S :: _)) | have h := (h.f11 : Own _ _ (Hp.ro S :: _)) | have h := (h.f12 : Own _ _ (Hp.ro S :: _)) | have h := (h.f13 : Own _ _ (Hp.ro S :: _)) | have h := (h.f14 : Own _ _ (Hp.ro S :: _)) | have h := (h.f15 : Own _ _ (Hp.ro S :: _))
    refine (suf_str (some ⟨b, off, none⟩) ks.length c1 (i + 1) (ks.length - (i + 1)) ks _ (by omega) (by omega) (by omega) (by omega) r1 h).mono ?_
    rintro e w4 ⟨A4, q4, rfl, h⟩
    refine hK.out _ _ ?_ (fun hS => ?_)
    · exact HC.out _ h.has h.has
    clear hK K
    try simp only [Act.put, List.setIfInBounds_toArray, List.set_cons_zero, List.set_cons_succ]
    refine wpAnyG_keep (i := 27) (oi := ⟨some 72, _, _, _, _, _⟩) (by kernel_rfl) rfl (fun K hK => ?_)
    rw [if_pos (by rfl)]
    go_simp
    first | have h := (h : Own _ _ (Hp.ro S :: _)) | have h := (h.f1 : Own _ _ (Hp.ro S :: _)) | have h := (h.f2 : Own _ _ (Hp.ro S :: _)) | have h := (h.f3 : Own _ _ (Hp.ro S :: _)) | have h := (h.f4 : Own _ _ (Hp.ro S :: _)) | have h := (h.f5 : Own _ _ (Hp.ro S :: _)) | have h := (h.f6 : Own _ _ (Hp.ro S :: _)) | have h := (h.f7 : Own _ _ (Hp.ro S :: _)) | have h := (h.f8 : Own _ _ (Hp.ro S :: _)) | have h := (h.f9 : Own _ _ (Hp.ro S :: _)) | have h := (h.f10 : Own _ _ (Hp.ro S :: _)) | have h := (h.f11 : Own _ _ (Hp.ro S :: _)) | have h := (h.f12 : Own _ _ (Hp.ro S :: _)) | have h := (h.f13 : Own _ _ (Hp.ro S :: _)) | have h := (h.f14 : Own _ _ (Hp.ro S :: _)) | have h := (h.f15 : Own _ _ (Hp.ro S :: _))
    refine (suf_int a3 (ks.length + 1) c3 (i + 1) (ks.length - i) ls _ (by omega) (by omega) (by omega) (by omega) r3 h).mono ?_
    rintro e w5 ⟨A5, q5, rfl, h⟩
    refine hK.out _ _ ?_ (fun hS => ?_)
    · exact HC.out _ h.has h.has
    clear hK K
    try simp only [Act.put, List.setIfInBounds_toArray, List.set_cons_zero, List.set_cons_succ]
    refine wpAnyG_pure (i := 28) (oi := ⟨some 73, _, _, _, _, _⟩) (v := ?_) rfl (by kernel_rfl) (by kernel_rfl) (by kernel_rfl) (by rfl) (fun _ _ _ h => h) (by rfl) ?_ ?_
    rotate_left
    · intro w
      go_simp
      first | done | with_reducible rfl
    try simp only [Act.put, List.setIfInBounds_toArray, List.set_cons_zero, List.set_cons_succ]
    refine wpAnyG_keep (i := 29) (oi := ⟨none, _, _, _, _, _⟩) (by kernel_rfl) rfl (fun K hK => ?_)
    rw [if_pos (by rfl)]
    first | have h := (h : Own _ _ (Hp.blk (g + 1) NT _ :: _)) | have h := (h.f1 : Own _ _ (Hp.blk (g + 1) NT _ :: _)) | have h := (h.f2 : Own _ _ (Hp.blk (g + 1) NT _ :: _)) | have h := (h.f3 : Own _ _ (Hp.blk (g + 1) NT _ :: _)) | have h := (h.f4 : Own _ _ (Hp.blk (g + 1) NT _ :: _)) | have h := (h.f5 : Own _ _ (Hp.blk (g + 1) NT _ :: _)) | have h := (h.f6 : Own _ _ (Hp.blk (g + 1) NT _ :: _)) | have h := (h.f7 : Own _ _ (Hp.blk (g + 1) NT _ :: _)) | have h := (h.f8 : Own _ _ (Hp.blk (g + 1) NT _ :: _)) | have h := (h.f9 : Own _ _ (Hp.blk (g + 1) NT _ :: _)) | have h := (h.f10 : Own _ _ (Hp.blk (g + 1) NT _ :: _)) | have h := (h.f11 : Own _ _ (Hp.blk (g + 1) NT _ :: _)) | have h := (h.f12 : Own _ _ (Hp.blk (g + 1) NT _ :: _)) | have h := (h.f13 : Own _ _ (Hp.blk (g + 1) NT _ :: _)) | have h := (h.f14 : Own _ _ (Hp.blk (g + 1) NT _ :: _)) | have h := (h.f15 : Own _ _ (Hp.blk (g + 1) NT _ :: _))
    refine wp_store_whole (cs := [.bool false, .slice none 0 0, .slice none 0 0, .slice none 0 0]) (vs := [.bool false, .slice A1 i q1, .slice none 0 0, .slice A2 (i + 1) q2]) h rfl (ND_all1 _ _ _ _ rfl rfl rfl) (by kernel_rfl) rfl rfl rfl (fun w9 h => ?_)
    refine hK.out _ _ ?_ (fun hS => ?_)
    · exact HC.out _ h.has h.has
    clear hK K
    try simp only [Act.put]
    refine wpAnyG_pure (i := 30) (oi := ⟨some 5, _, _, _, _, _⟩) (v := ?_) rfl (by kernel_rfl) (by kernel_rfl) (by kernel_rfl) (by rfl) (fun _ _ _ h => h) (by rfl) ?_ ?_
    rotate_left
    · intro w
      go_simp
      first | done | with_reducible rfl
    try simp only [Act.put, List.setIfInBounds_toArray, List.set_cons_zero, List.set_cons_succ]
    refine wpAnyG_keep (i := 31) (oi := ⟨none, _, _, _, _, _⟩) (by kernel_rfl) rfl (fun K hK => ?_)
    rw [if_pos (by rfl)]
    first | have h := (h : Own _ _ (Hp.blk (g + 2) NT _ :: _)) | have h := (h.f1 : Own _ _ (Hp.blk (g + 2) NT _ :: _)) | have h := (h.f2 : Own _ _ (Hp.blk (g + 2) NT _ :: _)) | have h := (h.f3 : Own _ _ (Hp.blk (g + 2) NT _ :: _)) | have h := (h.f4 : Own _ _ (Hp.blk (g + 2) NT _ :: _)) | have h := (h.f5 : Own _ _ (Hp.blk (g + 2) NT _ :: _)) | have h := (h.f6 : Own _ _ (Hp.blk (g + 2) NT _ :: _)) | have h := (h.f7 : Own _ _ (Hp.blk (g + 2) NT _ :: _)) | have h := (h.f8 : Own _ _ (Hp.blk (g + 2) NT _ :: _)) | have h := (h.f9 : Own _ _ (Hp.blk (g + 2) NT _ :: _)) | have h := (h.f10 : Own _ _ (Hp.blk (g + 2) NT _ :: _)) | have h := (h.f11 : Own _ _ (Hp.blk (g + 2) NT _ :: _)) | have h := (h.f12 : Own _ _ (Hp.blk (g + 2) NT _ :: _)) | have h := (h.f13 : Own _ _ (Hp.blk (g + 2) NT _ :: _)) | have h := (h.f14 : Own _ _ (Hp.blk (g + 2) NT _ :: _)) | have h := (h.f15 : Own _ _ (Hp.blk (g + 2) NT _ :: _))
    refine wp_store_whole (cs := [.bool false, .slice none 0 0, .slice none 0 0, .slice none 0 0]) (vs := [.bool false, .slice A4 (ks.length - (i + 1)) q4, .slice none 0 0, .slice A5 (ks.length - i) q5]) h rfl (ND_all1 _ _ _ _ rfl rfl rfl) (by kernel_rfl) rfl rfl rfl (fun w9 h => ?_)
    refine hK.out _ _ ?_ (fun hS => ?_)
    · exact HC.out _ h.has h.has
    clear hK K
    try simp only [Act.put]
    refine wpAnyG_done (by kernel_rfl) ?_ _
    refine NoPanic.normal ?_
    go_wp2_with fail
    first | have h := (h : Own _ _ (Hp.blk (g + 2) NT _ :: _)) | have h := (h.f1 : Own _ _ (Hp.blk (g + 2) NT _ :: _)) | have h := (h.f2 : Own _ _ (Hp.blk (g + 2) NT _ :: _)) | have h := (h.f3 : Own _ _ (Hp.blk (g + 2) NT _ :: _)) | have h := (h.f4 : Own _ _ (Hp.blk (g + 2) NT _ :: _)) | have h := (h.f5 : Own _ _ (Hp.blk (g + 2) NT _ :: _)) | have h := (h.f6 : Own _ _ (Hp.blk (g + 2) NT _ :: _)) | have h := (h.f7 : Own _ _ (Hp.blk (g + 2) NT _ :: _)) | have h := (h.f8 : Own _ _ (Hp.blk (g + 2) NT _ :: _)) | have h := (h.f9 : Own _ _ (Hp.blk (g + 2) NT _ :: _)) | have h := (h.f10 : Own _ _ (Hp.blk (g + 2) NT _ :: _)) | have h := (h.f11 : Own _ _ (Hp.blk (g + 2) NT _ :: _)) | have h := (h.f12 : Own _ _ (Hp.blk (g + 2) NT _ :: _)) | have h := (h.f13 : Own _ _ (Hp.blk (g + 2) NT _ :: _)) | have h := (h.f14 : Own _ _ (Hp.blk (g + 2) NT _ :: _)) | have h := (h.f15 : Own _ _ (Hp.blk (g + 2) NT _ :: _))
    first | have h := (h : Own _ _ (Hp.blk (g + 1) NT _ :: _)) | have h := (h.f1 : Own _ _ (Hp.blk (g + 1) NT _ :: _)) | have h := (h.f2 : Own _ _ (Hp.blk (g + 1) NT _ :: _)) | have h := (h.f3 : Own _ _ (Hp.blk (g + 1) NT _ :: _)) | have h := (h.f4 : Own _ _ (Hp.blk (g + 1) NT _ :: _)) | have h := (h.f5 : Own _ _ (Hp.blk (g + 1) NT _ :: _)) | have h := (h.f6 : Own _ _ (Hp.blk (g + 1) NT _ :: _)) | have h := (h.f7 : Own _ _ (Hp.blk (g + 1) NT _ :: _)) | have h := (h.f8 : Own _ _ (Hp.blk (g + 1) NT _ :: _)) | have h := (h.f9 : Own _ _ (Hp.blk (g + 1) NT _ :: _)) | have h := (h.f10 : Own _ _ (Hp.blk (g + 1) NT _ :: _)) | have h := (h.f11 : Own _ _ (Hp.blk (g + 1) NT _ :: _)) | have h := (h.f12 : Own _ _ (Hp.blk (g + 1) NT _ :: _)) | have h := (h.f13 : Own _ _ (Hp.blk (g + 1) NT _ :: _)) | have h := (h.f14 : Own _ _ (Hp.blk (g + 1) NT _ :: _)) | have h := (h.f15 : Own _ _ (Hp.blk (g + 1) NT _ :: _))
    refine bodyPost_ret (results_ctc rfl rfl rfl h hnt hnr (by kernel_rfl) (by kernel_rfl)) rfl ?_
    refine ⟨_, _, rfl, ?_⟩
    have h := h.drop.drop
    first | have h := (h : Own _ _ (Hp.blk g NT _ :: _)) | have h := (h.f1 : Own _ _ (Hp.blk g NT _ :: _)) | have h := (h.f2 : Own _ _ (Hp.blk g NT _ :: _)) | have h := (h.f3 : Own _ _ (Hp.blk g NT _ :: _)) | have h := (h.f4 : Own _ _ (Hp.blk g NT _ :: _)) | have h := (h.f5 : Own _ _ (Hp.blk g NT _ :: _)) | have h := (h.f6 : Own _ _ (Hp.blk g NT _ :: _)) | have h := (h.f7 : Own _ _ (Hp.blk g NT _ :: _)) | have h := (h.f8 : Own _ _ (Hp.blk g NT _ :: _)) | have h := (h.f9 : Own _ _ (Hp.blk g NT _ :: _)) | have h := (h.f10 : Own _ _ (Hp.blk g NT _ :: _)) | have h := (h.f11 : Own _ _ (Hp.blk g NT _ :: _)) | have h := (h.f12 : Own _ _ (Hp.blk g NT _ :: _)) | have h := (h.f13 : Own _ _ (Hp.blk g NT _ :: _)) | have h := (h.f14 : Own _ _ (Hp.blk g NT _ :: _)) | have h := (h.f15 : Own _ _ (Hp.blk g NT _ :: _))
    have h := h.drop
    first | have h := (h : Own _ _ (Hp.ints (.slice A5 _ q5) _ :: _)) | have h := (h.f1 : Own _ _ (Hp.ints (.slice A5 _ q5) _ :: _)) | have h := (h.f2 : Own _ _ (Hp.ints (.slice A5 _ q5) _ :: _)) | have h := (h.f3 : Own _ _ (Hp.ints (.slice A5 _ q5) _ :: _)) | have h := (h.f4 : Own _ _ (Hp.ints (.slice A5 _ q5) _ :: _)) | have h := (h.f5 : Own _ _ (Hp.ints (.slice A5 _ q5) _ :: _)) | have h := (h.f6 : Own _ _ (Hp.ints (.slice A5 _ q5) _ :: _)) | have h := (h.f7 : Own _ _ (Hp.ints (.slice A5 _ q5) _ :: _)) | have h := (h.f8 : Own _ _ (Hp.ints (.slice A5 _ q5) _ :: _)) | have h := (h.f9 : Own _ _ (Hp.ints (.slice A5 _ q5) _ :: _)) | have h := (h.f10 : Own _ _ (Hp.ints (.slice A5 _ q5) _ :: _)) | have h := (h.f11 : Own _ _ (Hp.ints (.slice A5 _ q5) _ :: _)) | have h := (h.f12 : Own _ _ (Hp.ints (.slice A5 _ q5) _ :: _)) | have h := (h.f13 : Own _ _ (Hp.ints (.slice A5 _ q5) _ :: _)) | have h := (h.f14 : Own _ _ (Hp.ints (.slice A5 _ q5) _ :: _)) | have h := (h.f15 : Own _ _ (Hp.ints (.slice A5 _ q5) _ :: _))
    have h := h.emptyLst ST none
    first | have h := (h : Own _ _ (Hp.strs (.slice A4 _ q4) _ :: _)) | have h := (h.f1 : Own _ _ (Hp.strs (.slice A4 _ q4) _ :: _)) | have h := (h.f2 : Own _ _ (Hp.strs (.slice A4 _ q4) _ :: _)) | have h := (h.f3 : Own _ _ (Hp.strs (.slice A4 _ q4) _ :: _)) | have h := (h.f4 : Own _ _ (Hp.strs (.slice A4 _ q4) _ :: _)) | have h := (h.f5 : Own _ _ (Hp.strs (.slice A4 _ q4) _ :: _)) | have h := (h.f6 : Own _ _ (Hp.strs (.slice A4 _ q4) _ :: _)) | have h := (h.f7 : Own _ _ (Hp.strs (.slice A4 _ q4) _ :: _)) | have h := (h.f8 : Own _ _ (Hp.strs (.slice A4 _ q4) _ :: _)) | have h := (h.f9 : Own _ _ (Hp.strs (.slice A4 _ q4) _ :: _)) | have h := (h.f10 : Own _ _ (Hp.strs (.slice A4 _ q4) _ :: _)) | have h := (h.f11 : Own _ _ (Hp.strs (.slice A4 _ q4) _ :: _)) | have h := (h.f12 : Own _ _ (Hp.strs (.slice A4 _ q4) _ :: _)) | have h := (h.f13 : Own _ _ (Hp.strs (.slice A4 _ q4) _ :: _)) | have h := (h.f14 : Own _ _ (Hp.strs (.slice A4 _ q4) _ :: _)) | have h := (h.f15 : Own _ _ (Hp.strs (.slice A4 _ q4) _ :: _))
    have h := Own.toNode (n := ⟨false, ks.drop (i + 1), [], ls.drop (i + 1)⟩) h
    first | have h := (h : Own _ _ (Hp.ints (.slice A2 _ q2) _ :: _)) | have h := (h.f1 : Own _ _ (Hp.ints (.slice A2 _ q2) _ :: _)) | have h := (h.f2 : Own _ _ (Hp.ints (.slice A2 _ q2) _ :: _)) | have h := (h.f3 : Own _ _ (Hp.ints (.slice A2 _ q2) _ :: _)) | have h := (h.f4 : Own _ _ (Hp.ints (.slice A2 _ q2) _ :: _)) | have h := (h.f5 : Own _ _ (Hp.ints (.slice A2 _ q2) _ :: _)) | have h := (h.f6 : Own _ _ (Hp.ints (.slice A2 _ q2) _ :: _)) | have h := (h.f7 : Own _ _ (Hp.ints (.slice A2 _ q2) _ :: _)) | have h := (h.f8 : Own _ _ (Hp.ints (.slice A2 _ q2) _ :: _)) | have h := (h.f9 : Own _ _ (Hp.ints (.slice A2 _ q2) _ :: _)) | have h := (h.f10 : Own _ _ (Hp.ints (.slice A2 _ q2) _ :: _)) | have h := (h.f11 : Own _ _ (Hp.ints (.slice A2 _ q2) _ :: _)) | have h := (h.f12 : Own _ _ (Hp.ints (.slice A2 _ q2) _ :: _)) | have h := (h.f13 : Own _ _ (Hp.ints (.slice A2 _ q2) _ :: _)) | have h := (h.f14 : Own _ _ (Hp.ints (.slice A2 _ q2) _ :: _)) | have h := (h.f15 : Own _ _ (Hp.ints (.slice A2 _ q2) _ :: _))
    have h := h.emptyLst ST none
    first | have h := (h : Own _ _ (Hp.strs (.slice A1 _ q1) _ :: _)) | have h := (h.f1 : Own _ _ (Hp.strs (.slice A1 _ q1) _ :: _)) | have h := (h.f2 : Own _ _ (Hp.strs (.slice A1 _ q1) _ :: _)) | have h := (h.f3 : Own _ _ (Hp.strs (.slice A1 _ q1) _ :: _)) | have h := (h.f4 : Own _ _ (Hp.strs (.slice A1 _ q1) _ :: _)) | have h := (h.f5 : Own _ _ (Hp.strs (.slice A1 _ q1) _ :: _)) | have h := (h.f6 : Own _ _ (Hp.strs (.slice A1 _ q1) _ :: _)) | have h := (h.f7 : Own _ _ (Hp.strs (.slice A1 _ q1) _ :: _)) | have h := (h.f8 : Own _ _ (Hp.strs (.slice A1 _ q1) _ :: _)) | have h := (h.f9 : Own _ _ (Hp.strs (.slice A1 _ q1) _ :: _)) | have h := (h.f10 : Own _ _ (Hp.strs (.slice A1 _ q1) _ :: _)) | have h := (h.f11 : Own _ _ (Hp.strs (.slice A1 _ q1) _ :: _)) | have h := (h.f12 : Own _ _ (Hp.strs (.slice A1 _ q1) _ :: _)) | have h := (h.f13 : Own _ _ (Hp.strs (.slice A1 _ q1) _ :: _)) | have h := (h.f14 : Own _ _ (Hp.strs (.slice A1 _ q1) _ :: _)) | have h := (h.f15 : Own _ _ (Hp.strs (.slice A1 _ q1) _ :: _))
    have h := Own.toNode (n := ⟨false, ks.take i, [], ls.take (i + 1)⟩) h
    exact h
end
end Go.Proofs.YtbclmmneiphcaaaDoor
namespace Go.Proofs.YtbclmmneiphcaaaDoor
open Go.RowKit
section
variable {E : World} {S : Ph} {L : List Hp}
end
end Go.Proofs.YtbclmmneiphcaaaDoor
