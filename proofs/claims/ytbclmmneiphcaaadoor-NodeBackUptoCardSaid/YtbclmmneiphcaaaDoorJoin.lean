/- node.apart, node.Join. -/
import Derived.Test.YtbclmmneiphcaaaDoorFind
namespace Go.Proofs.YtbclmmneiphcaaaDoor
open Go.RowKit
/-- Do the keys stand on their sides? -/
def apartB (a : Nd) (key : ByteArray) (b : Nd) : Bool :=
  (match a.ks.getLast? with | some x => slt x key | none => true) && (match b.ks[0]? with | some y => slt key y || (b.leaf && !slt y key) | none => true)
/-- What Join makes of two that fit. -/
def Nd.put (a : Nd) (key : ByteArray) (b : Nd) : Nd := if a.leaf then ⟨true, a.ks ++ b.ks, a.vs ++ b.vs, []⟩ else ⟨false, a.ks ++ [key] ++ b.ks, [], a.ls ++ b.ls⟩
/-- Join: why not. -/
def joinE (a : Nd) (key : ByteArray) (b : Nd) : Int :=
  if ¬ (a.formed 0 = true ∧ b.formed 0 = true ∧ a.size ≤ 480 ∧ b.size ≤ 480) then 100
  else if ¬ (mayB a.ks = true ∧ mayB b.ks = true ∧ isKeyB key = true) then 101
  else if ¬ (a.leaf = b.leaf ∧ apartB a key b = true) then 103
  else if kidsB (a.put key b).ls = false then 103
  else if 718 < (a.put key b).size then 102 else 0
def Nd.join (a : Nd) (key : ByteArray) (b : Nd) : Nd := if joinE a key b = 0 then a.put key b else Nd.nil
section
variable {E : World} {S : Ph} {L : List Hp}
set_option maxRecDepth 100000 in
set_option maxHeartbeats 2000000 in
theorem apart_any (v u : Nv) (a : Nd) (key : ByteArray) (b : Nd) (w : World) (hb : a.bulk ≤ 1125899906842624) (hb2 : b.bulk ≤ 1125899906842624) (hi : NdIn S v a) (hj : NdIn S u b) (h : Own E w (Hp.ro S :: L)) :
    Calls Tryd.prog 65 #[v.val a, .string key, u.val b] w fun e w' => e = .returned (.bool (apartB a key b)) ∧ Own E w' (Hp.ro S :: L) := by
  obtain ⟨a1, c1, a2, c2, a3, c3⟩ := v
  obtain ⟨b1, d1, b2, d2, b3, d3⟩ := u
  obtain ⟨leaf, ks, vs, ls⟩ := a
  obtain ⟨leaf2, ks2, vs2, ls2⟩ := b
  obtain ⟨l1, l2, l3⟩ := Nd.lens hb
  obtain ⟨m1, m2, m3⟩ := Nd.lens hb2
  obtain ⟨r1, -, -, -, -, -, -, -, -⟩ := hi
  obtain ⟨s1, -, -, -, -, -, -, -, -⟩ := hj
  dsimp only [Nv.val] at *
  have e0 : apartB ⟨leaf, ks, vs, ls⟩ key ⟨leaf2, ks2, vs2, ls2⟩ = ((match ks.getLast? with | some x => slt x key | none => true) && (match ks2[0]? with | some y => slt key y || (leaf2 && !slt y key) | none => true)) := rfl
  rw [e0]
  have h1 : Own E _ (Hp.blk (w.heap.size + 1) NT #[.bool leaf2, .slice b1 ks2.length d1, .slice b2 vs2.length d2, .slice b3 ls2.length d3] :: Hp.blk w.heap.size NT #[.bool leaf, .slice a1 ks.length c1, .slice a2 vs.length c2, .slice a3 ls.length c3] :: Hp.ro S :: L) := h.alloc2 _ _
  have hd := h1.drop.drop
  -- what is read
  rcases (show (ks.length = 0 ∧ (match ks.getLast? with | some x => slt x key | none => true) = true) ∨ ∃ (x : ByteArray) (g off : Nat), 0 < ks.length ∧ a1 = some ⟨g, off, none⟩ ∧ S.cell ⟨g, off + (ks.length - 1), none⟩ = some (.string x) ∧ (match ks.getLast? with | some x => slt x key | none => true) = slt x key by
    by_cases h0 : 0 < ks.length
    · obtain ⟨x, g, off, hx, hA, hc⟩ := r1.get1 (show ks.length - 1 < ks.length by omega)
      refine .inr ⟨x, g, off, h0, hA, hc _ rfl, ?_⟩
      rw [List.getLast?_eq_getElem?, hx]
    · have : ks = [] := List.eq_nil_of_length_eq_zero (by omega)
      subst this
      exact .inl ⟨rfl, rfl⟩) with ⟨k0, ke⟩ | ⟨x, g1, off1, k0, rfl, kc, ke⟩
  all_goals rcases (show (ks2.length = 0 ∧ (match ks2[0]? with | some y => slt key y || (leaf2 && !slt y key) | none => true) = true) ∨ ∃ (y : ByteArray) (g off : Nat), 0 < ks2.length ∧ b1 = some ⟨g, off, none⟩ ∧ S.cell ⟨g, off, none⟩ = some (.string y) ∧ (match ks2[0]? with | some y => slt key y || (leaf2 && !slt y key) | none => true) = (slt key y || (leaf2 && !slt y key)) by
    by_cases h0 : 0 < ks2.length
    · obtain ⟨y, g, off, hy, hB, hc⟩ := s1.get1 h0
      exact .inr ⟨y, g, off, h0, hB, hc _ rfl, by rw [hy]⟩
    · have : ks2 = [] := List.eq_nil_of_length_eq_zero (by omega)
      subst this
      exact .inl ⟨rfl, rfl⟩) with ⟨k1, ke2⟩ | ⟨y, g2, off2, k1, rfl, kc2, ke2⟩
  all_goals
    rw [ke, ke2]
    try have cx := hd.rd kc
    try have cy := hd.rd kc2
    clear ke ke2 r1 s1 hb hb2 e0 h
    generalize ks.length = nk at *
    generalize ks2.length = nk2 at *
    generalize vs.length = nv at *
    generalize ls.length = nl at *
    generalize vs2.length = nv2 at *
    generalize ls2.length = nl2 at *
  · subst k0 k1
    have HD := Lib.hid hd
    clear hd h1
    go_enter Tryd.func65, Tryd.ntmps65
    go_wp2_with fail
    go_ret
    exact ⟨rfl, HD.out⟩
  · subst k0
    have k2 : ¬ (nk2 : Int) = 0 := by omega
    have k3 : ¬ nk2 = 0 := by omega
    have k3b : ((nk2 : Int) == 0) = false := by simp; omega
    have k4 : (0 : Int) < nk2 := by omega
    have HD := Lib.hid hd
    clear hd h1 kc2
    cases leaf2
    all_goals
      rcases slt_tri key y with ⟨z1, z2, z3, z4, z5, z6, z7⟩ | ⟨z1, z2, z3, z4, z5, z6, z7⟩ | ⟨z1, z2, z3, z4, z5, z6, z7⟩
      all_goals
        rw [z1, z2]
        clear z1 z2 z3
        go_enter Tryd.func65, Tryd.ntmps65
        go_wp2_with fail
        go_ret
        exact ⟨rfl, HD.out⟩
  · subst k1
    have k2 : (0 : Int) < nk := by omega
    have k5 : IntKind.i64.wrap ((nk : Int) - 1) = (nk : Int) - 1 := IntWalk.i64_in _ (by omega)
    have k6 : (0 : Int) ≤ (nk : Int) - 1 := by omega
    have k7 : ((nk : Int) - 1).toNat = nk - 1 := by omega
    have k8 : (nk : Int) - 1 < nk := by omega
    have HD := Lib.hid hd
    clear hd h1 kc
    rcases slt_tri x key with ⟨z1, z2, z3, z4, z5, z6, z7⟩ | ⟨z1, z2, z3, z4, z5, z6, z7⟩ | ⟨z1, z2, z3, z4, z5, z6, z7⟩
    all_goals
      rw [z1]
      clear z1 z2 z3
      go_enter Tryd.func65, Tryd.ntmps65
      go_wp2_with fail
      go_ret
      exact ⟨rfl, HD.out⟩
  · have k2 : (0 : Int) < nk := by omega
    have k5 : IntKind.i64.wrap ((nk : Int) - 1) = (nk : Int) - 1 := IntWalk.i64_in _ (by omega)
    have k6 : (0 : Int) ≤ (nk : Int) - 1 := by omega
    have k7 : ((nk : Int) - 1).toNat = nk - 1 := by omega
    have k8 : (nk : Int) - 1 < nk := by omega
    have k9 : ¬ (nk2 : Int) = 0 := by omega
    have k3 : ¬ nk2 = 0 := by omega
    have k3b : ((nk2 : Int) == 0) = false := by simp; omega
    have k4 : (0 : Int) < nk2 := by omega
    have HD := Lib.hid hd
    clear hd h1 kc kc2
    rcases slt_tri x key with ⟨z1, z2, z3, z4, z5, z6, z7⟩ | ⟨z1, z2, z3, z4, z5, z6, z7⟩ | ⟨z1, z2, z3, z4, z5, z6, z7⟩
    · rw [z1]
      clear z1 z2 z3
      cases leaf2
      all_goals
        rcases slt_tri key y with ⟨y1, y2, y3, y4, y5, y6, y7⟩ | ⟨y1, y2, y3, y4, y5, y6, y7⟩ | ⟨y1, y2, y3, y4, y5, y6, y7⟩
        all_goals
          rw [y1, y2]
          clear y1 y2 y3
          go_enter Tryd.func65, Tryd.ntmps65
          go_wp2_with fail
          go_ret
          exact ⟨rfl, HD.out⟩
    all_goals
      rw [z1, Bool.false_and]
      clear z1 z2 z3
      go_enter Tryd.func65, Tryd.ntmps65
      go_wp2_with fail
      go_ret
      exact ⟨rfl, HD.out⟩
end
end Go.Proofs.YtbclmmneiphcaaaDoor
