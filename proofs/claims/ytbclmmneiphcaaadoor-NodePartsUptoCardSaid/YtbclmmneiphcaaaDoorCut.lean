/- The place at which a node is parted, in plain Lean; node.ends.greater, node.cut. -/
import Derived.Test.YtbclmmneiphcaaaDoorParts
import Derived.Laws.StructEq
namespace Go.Proofs.YtbclmmneiphcaaaDoor
open Go.RowKit
def Nd.gr (n : Nd) (i : Nat) : Nat := max (n.lo i).size (n.hi i).size
/-- The best of the first k places. -/
def cutRun (n : Nd) : Nat → Nat
  | 0 => 1
  | k + 1 => if k = 0 ∨ n.gr (k + 1) < n.gr (cutRun n k) then k + 1 else cutRun n k
def Nd.lastP (n : Nd) : Nat := if n.leaf then n.ks.length - 1 else n.ks.length - 2
def Nd.cut (n : Nd) : Nat := cutRun n n.lastP
theorem cutRun_in (n : Nd) : ∀ k, 1 ≤ cutRun n k ∧ cutRun n k ≤ max k 1
  | 0 => ⟨Nat.le_refl _, by show 1 ≤ max 0 1; omega⟩
  | k + 1 => by
    have := cutRun_in n k
    show 1 ≤ (if k = 0 ∨ n.gr (k + 1) < n.gr (cutRun n k) then k + 1 else cutRun n k) ∧ (if k = 0 ∨ n.gr (k + 1) < n.gr (cutRun n k) then k + 1 else cutRun n k) ≤ _
    split <;> omega
theorem sumSz_tk (l : List ByteArray) (k : Nat) : sumSz (l.take k) ≤ sumSz l := sumSz_le l k
theorem sumSz_dr (l : List ByteArray) (k : Nat) : sumSz (l.drop k) ≤ sumSz l := by
  have := sumSz_app (l.take k) (l.drop k)
  rw [List.take_append_drop] at this; omega
theorem lo_bulk (n : Nd) (i : Nat) : (n.lo i).bulk ≤ n.bulk := by
  have h1 := sumSz_tk n.ks i
  have h2 := sumSz_tk n.vs i
  unfold Nd.lo Nd.bulk
  split
  · simp only [List.length_take, List.length_nil]; omega
  · simp only [List.length_take, List.length_nil, sumSz_nil]; omega
theorem hi_bulk (n : Nd) (i : Nat) : (n.hi i).bulk ≤ n.bulk := by
  have h1 := sumSz_dr n.ks i
  have h2 := sumSz_dr n.vs i
  have h3 := sumSz_dr n.ks (i + 1)
  unfold Nd.hi Nd.bulk
  split
  · simp only [List.length_drop, List.length_nil]; omega
  · simp only [List.length_drop, List.length_nil, sumSz_nil]; omega
theorem lo_pos (n : Nd) (i : Nat) (h1 : 1 ≤ i) (h2 : i < n.ks.length) : 0 < (n.lo i).size := by
  unfold Nd.lo Nd.size
  split
  · simp only [if_true, List.length_take]; omega
  · simp only [Bool.false_eq_true, if_false, List.length_take]; omega
abbrev ENDT : TypeId := 110
section
variable {w : World}
theorem run_ends (a b c d : Int) : (binOp .eql ENDT (.agg #[.int .i64 a, .int .i64 b]) (.agg #[.int .i64 c, .int .i64 d])).run Tryd.prog w = .ok (.bool (a == c && b == d)) w := by
  rw [run_eql_struct]
  have hu : (Tryd.prog).underlying ENDT = some (.struct ((Tryd.prog).fieldsOf ENDT)) := by kernel_rfl
  rw [run_equalIn_struct w 9999 ENDT _ _ hu (by kernel_rfl)]
  have hf : ((Tryd.prog).fieldsOf ENDT).toList = [⟨"left", 3, 0, false, "", "latchkey/node", 0⟩, ⟨"right", 3, 1, false, "", "latchkey/node", 8⟩] := by kernel_rfl
  rw [hf]
  have hi : (Tryd.prog).underlying 3 = some (.int .i64) := by kernel_rfl
  cases h1 : a == c <;> cases h2 : b == d <;> simp [Op.eqFields, part, run_equalIn_int, hi, h1, h2]
end
theorem two_one (a b : Int) : ∀ v ∈ [Value.int .i64 a, Value.int .i64 b], v.oneCell' = true := by
  simp only [List.mem_cons, List.not_mem_nil, or_false]
  rintro v (rfl | rfl) <;> rfl
section
variable {E : World} {S : Ph} {L : List Hp}
theorem Own.lend2 {w : World} {lv hv : Value} {n1 n2 : Nd} (h : Own E w (Hp.node lv n1 :: Hp.node hv n2 :: Hp.ro S :: L)) : ∃ (T : Ph) (q1 q2 : Nv), Ext S T ∧ lv = q1.val n1 ∧ hv = q2.val n2 ∧ NdIn T q1 n1 ∧ NdIn T q2 n2 ∧ Own E w (Hp.ro T :: L) := by
  have h : Own E w (Hp.node hv n2 :: Hp.ro S :: Hp.node lv n1 :: L) := h.ac (by simp only [Hp.all] <;> ac_rfl)
  obtain ⟨a, hA, hd, h2⟩ := h.lend
  obtain ⟨q2, e2, hin2⟩ := node_in hA
  obtain ⟨a1, hA1, hd1, h3⟩ := h2.f1.lend
  obtain ⟨q1, e1, hin1⟩ := node_in hA1
  exact ⟨_, q1, q2, (Ext.of hd).trans (Ext.of hd1), e1, e2, hin1.sub Ph.join_l, (hin2.sub Ph.join_l).sub (Ph.join_r hd1), h3⟩
theorem greater_any (a b : Nat) (w : World) (h : Own E w L) :
    Calls Tryd.prog 87 #[.agg #[.int .i64 a, .int .i64 b]] w fun e w' => e = .returned (.int .i64 (max a b : Nat)) ∧ Own E w' L := by
  have h1 := (h.alloc (.cells #[.int .i64 a, .int .i64 b] ENDT)).drop
  obtain ⟨m, hm⟩ : ∃ m, m = max a b := ⟨_, rfl⟩
  rw [← hm]
  have j5 : (if (a : Int) < (b : Int) then Value.int .i64 (b : Int) else Value.int .i64 (a : Int)) = Value.int .i64 (m : Int) := by split <;> (congr 1; omega)
  have j6 : (if (a : Int) < (b : Int) then (b : Int) else (a : Int)) = (m : Int) := by split <;> omega
  have j7 : (if a < b then (b : Int) else (a : Int)) = (m : Int) := by split <;> omega
  have H := Lib.hid h1
  clear h h1 hm
  go_enter Tryd.func87, Tryd.ntmps87
  go_wp2_with fail
  go_ret
  exact ⟨by first | rfl | (apply ret_i64; first | rfl | omega), H.out⟩
set_option maxRecDepth 100000 in
set_option maxHeartbeats 8000000 in
theorem cut_any (v : Nv) (n : Nd) (w : World) (hb : n.bulk ≤ 4294967290) (hl2 : 2 ≤ n.ks.length) (hform : if n.leaf then n.vs.length = n.ks.length else n.ls.length = n.ks.length + 1) (hi : NdIn S v n) (h : Own E w (Hp.ro S :: L)) :
    Calls Tryd.prog 61 #[v.val n] w fun e w' => e = .returned (.int .i64 (n.cut : Nat)) ∧ Own E w' (Hp.ro S :: L) := by
  have kp : ∀ i w M, 1 ≤ i → i ≤ n.lastP → Own E w (Hp.ro S :: M) → Calls Tryd.prog 60 #[v.val n, .int .i64 i] w fun e w' => ∃ lv hv, e = .returned (.tuple #[lv, .string (n.mid i), hv]) ∧ Own E w' (Hp.node lv (n.lo i) :: Hp.node hv (n.hi i) :: Hp.ro S :: M) := fun i w M h1 h2 hw => by
    have h3 : n.lastP = if n.leaf then n.ks.length - 1 else n.ks.length - 2 := rfl
    refine parts_any v n i w hb h1 (by rw [h3] at h2; split at h2 <;> omega) ?_ hi hw
    split
    · rename_i hlf; rw [if_pos hlf] at hform; exact hform
    · rename_i hlf; rw [if_neg hlf] at hform; rw [h3, if_neg hlf] at h2; exact ⟨hform, by omega⟩
  have hlb : ∀ i, (n.lo i).bulk ≤ 4294967290 := fun i => Nat.le_trans (lo_bulk n i) hb
  have hhb : ∀ i, (n.hi i).bulk ≤ 4294967290 := fun i => Nat.le_trans (hi_bulk n i) hb
  have hpos : ∀ i, 1 ≤ i → i ≤ n.lastP → 0 < (n.lo i).size := fun i h1 h2 => lo_pos n i h1 (by
    have h3 : n.lastP = if n.leaf then n.ks.length - 1 else n.ks.length - 2 := rfl
    rw [h3] at h2; split at h2 <;> omega)
  have hin := cutRun_in n
  have hcut : n.cut = cutRun n n.lastP := rfl
  have hlast : n.lastP = if n.leaf then n.ks.length - 1 else n.ks.length - 2 := rfl
  have hstep : ∀ k, cutRun n (k + 1) = if k = 0 ∨ n.gr (k + 1) < n.gr (cutRun n k) then k + 1 else cutRun n k := fun _ => rfl
  have hkb : n.ks.length ≤ 4294967290 := by unfold Nd.bulk at hb; omega
  rw [hcut]
  obtain ⟨last, hlst⟩ : ∃ x, x = n.lastP := ⟨_, rfl⟩
  rw [← hlst] at kp hpos hlast ⊢
  clear hcut hb hform hi hlst
  have KP := Lib.hid kp
  have HLB := Lib.hid hlb
  have HHB := Lib.hid hhb
  have HPOS := Lib.hid hpos
  have HIN := Lib.hid hin
  have HST := Lib.hid hstep
  clear kp hlb hhb hpos hin hstep
  obtain ⟨a1, c1, a2, c2, a3, c3⟩ := v
  have h1 : Own E _ (Hp.blk w.heap.size NT #[.bool n.leaf, .slice a1 n.ks.length c1, .slice a2 n.vs.length c2, .slice a3 n.ls.length c3] :: Hp.ro S :: L) := h.alloc _
  have h2 := (h1.alloc (.cells #[.int .i64 0, .int .i64 0] ENDT)).alloc (.cells #[.int .i64 0, .int .i64 0] ENDT)
  rw [alloc_size, alloc_size] at h2
  obtain ⟨g, hg⟩ : ∃ g, g = w.heap.size := ⟨_, rfl⟩
  rw [← hg] at h2
  have H := Lib.hid h2
  clear h h1 h2
  dsimp only [Nv.val] at *
  generalize hnl : n.leaf = leaf at *
  generalize hnk : n.ks.length = nk at *
  generalize n.vs.length = nv at *
  generalize n.ls.length = nlz at *
  have j1 : IntKind.i64.wrap ((nk : Int) - 1) = ((nk - 1 : Nat) : Int) := by rw [IntWalk.i64_in _ (by omega)]; omega
  have j2 : IntKind.i64.wrap (((nk - 1 : Nat) : Int) - 1) = ((nk - 2 : Nat) : Int) := by rw [IntWalk.i64_in _ (by omega)]; omega
  obtain ⟨x1, hx1⟩ : ∃ x, x = nk - 1 := ⟨_, rfl⟩
  obtain ⟨x2, hx2⟩ : ∃ x, x = nk - 2 := ⟨_, rfl⟩
  rw [← hx1] at j1 j2
  rw [← hx2] at j2
  rw [← hx1, ← hx2] at hlast
  have HX := Lib.hid (And.intro hx1 hx2)
  have hlb2 : last ≤ 4294967290 := by rw [hlast]; split <;> omega
  clear hx1 hx2
  go_enter Tryd.func61, Tryd.ntmps61
  go_upto_if 18 with fail
  go_cut [3] from 51 (fun x w' => x = .int .i64 last ∧ w' = w.alloc (.cells #[.bool leaf, .slice a1 nk c1, .slice a2 nv c2, .slice a3 nlz c3] NT))
  case first =>
    cases leaf with
    | true =>
      obtain rfl : last = x1 := hlast
      go_wp2_with fail
      go_meet
      case rel => exact ⟨rfl, rfl⟩
    | false =>
      obtain rfl : last = x2 := hlast
      go_wp2_with fail
      go_meet
      case rel => exact ⟨rfl, rfl⟩
  obtain ⟨rfl, rfl⟩ := hcut
  go_wp2_with fail
  rw [← hg]
  clear hg
  obtain ⟨gz, hgz⟩ : ∃ x, x = g + 1 + 1 := ⟨_, rfl⟩
  obtain ⟨gn, hgn⟩ : ∃ x, x = g + 1 := ⟨_, rfl⟩
  rw [← hgz] at H ⊢
  rw [← hgn] at H ⊢
  clear hgz hgn hlast j1 j2 hkb hl2 hnl hnk
  go_loopw [6, 7] (fun at_ i wr => ∃ k aa bl br : Nat, k ≤ last ∧ i = .int .i64 ((k : Int) + 1) ∧ at_ = .int .i64 aa ∧ aa = cutRun n k ∧ ((k = 0 ∧ bl = 0 ∧ br = 0) ∨ (1 ≤ k ∧ bl = (n.lo aa).size ∧ br = (n.hi aa).size)) ∧ Own E wr (Hp.blk gz ENDT #[.int .i64 bl, .int .i64 br] :: Hp.blk gn ENDT #[.int .i64 0, .int .i64 0] :: Hp.blk g NT #[.bool leaf, .slice a1 nk c1, .slice a2 nv c2, .slice a3 nlz c3] :: Hp.ro S :: L)) (fun _ i _ => last + 1 - (intOf i).toNat)
  case atStart => exact ⟨0, 1, 0, 0, by omega, rfl, rfl, rfl, .inl ⟨rfl, rfl, rfl⟩, H.out⟩
  case round =>
    obtain ⟨k, aa, bl, br, hk, rfl, rfl, haa, hbest, hw⟩ := hrel
    have HAA := Lib.hid haa
    have HBEST := Lib.hid hbest
    have f0 : wr.cell? ⟨g, 0, none⟩ = some (.bool leaf) := hw.f2.cell 0
    have f1 : wr.cell? ⟨g, 1, none⟩ = some (.slice a1 nk c1) := hw.f2.cell 1
    have f2 : wr.cell? ⟨g, 2, none⟩ = some (.slice a2 nv c2) := hw.f2.cell 2
    have f3 : wr.cell? ⟨g, 3, none⟩ = some (.slice a3 nlz c3) := hw.f2.cell 3
    clear H haa hbest
    by_cases hlt : k < last
    · have hlti : (k : Int) + 1 ≤ last := by omega
      have hbl := HLB.out (k + 1)
      have hbh := HHB.out (k + 1)
      have hps := HPOS.out (k + 1) (by omega) (by omega)
      have kp := fun w M hw => KP.out (k + 1) w M (by omega) (by omega) hw
      have hst := HST.out k
      have hgr : n.gr (k + 1) = max (n.lo (k + 1)).size (n.hi (k + 1)).size := rfl
      obtain ⟨k1, hk1⟩ : ∃ k1, k1 = k + 1 := ⟨_, rfl⟩
      rw [← hk1] at hbl hbh hps kp hst hgr
      have e1 : (k : Int) + 1 = (k1 : Int) := by omega
      rw [e1] at hlti ⊢
      have HK1 := Lib.hid (And.intro hk1 e1)
      have KK := Lib.hid kp
      have HSTK := Lib.hid hst
      have HGR := Lib.hid hgr
      have H := Lib.hid hw
      clear hk1 e1 kp hst hgr hw
      go_wp2_with fail
      with_reducible refine (KK.out _ _ H.out.f3).mono ?_
      clear f0 f1 f2 f3 H
      rintro e w1 ⟨lv, hv, rfl, h⟩
      obtain ⟨T, q1, q2, hx, rfl, rfl, in1, in2, h⟩ := h.lend2
      have HXT := Lib.hid hx
      have h2 := (h.alloc (.cells #[.bool (n.lo k1).leaf, .slice q1.a1 (n.lo k1).ks.length q1.c1, .slice q1.a2 (n.lo k1).vs.length q1.c2, .slice q1.a3 (n.lo k1).ls.length q1.c3] NT)).alloc (.cells #[.bool (n.hi k1).leaf, .slice q2.a1 (n.hi k1).ks.length q2.c1, .slice q2.a2 (n.hi k1).vs.length q2.c2, .slice q2.a3 (n.hi k1).ls.length q2.c3] NT)
      rw [alloc_size] at h2
      have hs1 := fun w M hw => size_any (E := E) (S := T) (L := M) q1 (n.lo k1) w (by omega) in1 hw
      have hs2 := fun w M hw => size_any (E := E) (S := T) (L := M) q2 (n.hi k1) w (by omega) in2 hw
      have hz1 : (n.lo k1).size ≤ 5 * 4294967290 := Nat.le_trans (Nd.size_le _) (by omega)
      have hz2 : (n.hi k1).size ≤ 5 * 4294967290 := Nat.le_trans (Nd.size_le _) (by omega)
      have HS1 := Lib.hid hs1
      have HS2 := Lib.hid hs2
      obtain ⟨gl, hgl⟩ : ∃ x, x = w1.heap.size := ⟨_, rfl⟩
      rw [← hgl] at h2
      have H := Lib.hid h2
      clear h h2 hs1 hs2 hx in1 in2 hbl hbh
      -- ROUND
      go_wp2_with fail
      rw [← hgl]
      clear hgl
      have HC : Hid (∀ w', (∃ L', Own E w' (Hp.blk gl NT #[.bool (n.lo k1).leaf, .slice q1.a1 (n.lo k1).ks.length q1.c1, .slice q1.a2 (n.lo k1).vs.length q1.c2, .slice q1.a3 (n.lo k1).ls.length q1.c3] :: L')) → (∃ L', Own E w' (Hp.blk (gl + 1) NT #[.bool (n.hi k1).leaf, .slice q2.a1 (n.hi k1).ks.length q2.c1, .slice q2.a2 (n.hi k1).vs.length q2.c2, .slice q2.a3 (n.hi k1).ls.length q2.c3] :: L')) → w'.rangeAt gl 0 [.bool (n.lo k1).leaf, .slice q1.a1 (n.lo k1).ks.length q1.c1, .slice q1.a2 (n.lo k1).vs.length q1.c2, .slice q1.a3 (n.lo k1).ls.length q1.c3] ∧ w'.rangeAt (gl + 1) 0 [.bool (n.hi k1).leaf, .slice q2.a1 (n.hi k1).ks.length q2.c1, .slice q2.a2 (n.hi k1).vs.length q2.c2, .slice q2.a3 (n.hi k1).ls.length q2.c3]) := Lib.hid fun w' h3 h4 => by
        obtain ⟨_, h3⟩ := h3
        obtain ⟨_, h4⟩ := h4
        exact ⟨h3.range 0 _ (fun j u hu => by simpa using hu), h4.range 0 _ (fun j u hu => by simpa using hu)⟩
      go_cut [11] from 51 (fun x w' => ∃ ge : Nat, x = .pointer (some ⟨ge, 0, none⟩) ∧ Own E w' (Hp.blk ge ENDT #[.int .i64 (n.lo k1).size, .int .i64 (n.hi k1).size] :: Hp.ro T :: Hp.blk gz ENDT #[.int .i64 bl, .int .i64 br] :: Hp.blk gn ENDT #[.int .i64 0, .int .i64 0] :: Hp.blk g NT #[.bool leaf, .slice a1 nk c1, .slice a2 nv c2, .slice a3 nlz c3] :: L))
      case first =>
        have h : Own E _ (Hp.blk gl NT #[.bool (n.lo k1).leaf, .slice q1.a1 (n.lo k1).ks.length q1.c1, .slice q1.a2 (n.lo k1).vs.length q1.c2, .slice q1.a3 (n.lo k1).ls.length q1.c3] :: Hp.blk (gl + 1) NT #[.bool (n.hi k1).leaf, .slice q2.a1 (n.hi k1).ks.length q2.c1, .slice q2.a2 (n.hi k1).vs.length q2.c2, .slice q2.a3 (n.hi k1).ls.length q2.c3] :: Hp.ro T :: Hp.blk gz ENDT #[.int .i64 bl, .int .i64 br] :: Hp.blk gn ENDT #[.int .i64 0, .int .i64 0] :: Hp.blk g NT #[.bool leaf, .slice a1 nk c1, .slice a2 nv c2, .slice a3 nlz c3] :: L) := H.out.drew.ac (by unfold Hp.blk; simp only [Hp.all] <;> ac_rfl)
        clear H
        refine wp_region_text [0, 2] (fun w' => w'.rangeAt gl 0 [.bool (n.lo k1).leaf, .slice q1.a1 (n.lo k1).ks.length q1.c1, .slice q1.a2 (n.lo k1).vs.length q1.c2, .slice q1.a3 (n.lo k1).ls.length q1.c3] ∧ w'.rangeAt (gl + 1) 0 [.bool (n.hi k1).leaf, .slice q2.a1 (n.hi k1).ks.length q2.c1, .slice q2.a2 (n.hi k1).vs.length q2.c2, .slice q2.a3 (n.hi k1).ls.length q2.c3]) (by kernel_rfl) ?_ (fun hS => ?_)
        · exact HC.out _ h.has h.has
        refine wpAnyG_load (i := 0) (oi := ⟨some 33, _, _, _, _, _⟩) (v := (.agg #[.bool (n.lo k1).leaf, .slice q1.a1 (n.lo k1).ks.length q1.c1, .slice q1.a2 (n.lo k1).vs.length q1.c2, .slice q1.a3 (n.lo k1).ls.length q1.c3])) rfl (by kernel_rfl) (by kernel_rfl) (by kernel_rfl) (by rfl) (fun _ _ _ h => h) (by rfl) ?_ (by assumption) ?_
        · intro w hS
          exact exec_load_mid NT (.tmp 8) rfl gl 0 (by rfl) [.bool (n.lo k1).leaf, .slice q1.a1 (n.lo k1).ks.length q1.c1, .slice q1.a2 (n.lo k1).vs.length q1.c2, .slice q1.a3 (n.lo k1).ls.length q1.c3] _ hS.1 Tryd.underlying25 rfl (by kernel_rfl)
        try simp only [Act.put, List.setIfInBounds_toArray, List.set_cons_zero, List.set_cons_succ]
        refine wpAnyG_load (i := 2) (oi := ⟨some 35, _, _, _, _, _⟩) (v := (.agg #[.bool (n.hi k1).leaf, .slice q2.a1 (n.hi k1).ks.length q2.c1, .slice q2.a2 (n.hi k1).vs.length q2.c2, .slice q2.a3 (n.hi k1).ls.length q2.c3])) rfl (by kernel_rfl) (by kernel_rfl) (by kernel_rfl) (by rfl) (fun _ _ _ h => h) (by rfl) ?_ (by assumption) ?_
        · intro w hS
          exact exec_load_mid NT (.tmp 10) rfl (gl + 1) 0 (by rfl) [.bool (n.hi k1).leaf, .slice q2.a1 (n.hi k1).ks.length q2.c1, .slice q2.a2 (n.hi k1).vs.length q2.c2, .slice q2.a3 (n.hi k1).ls.length q2.c3] _ hS.2 Tryd.underlying25 rfl (by kernel_rfl)
        try simp only [Act.put, List.setIfInBounds_toArray, List.set_cons_zero, List.set_cons_succ]
        refine wpAnyG_two (i := 1) (oi := ⟨some 34, _, _, _, _, _⟩) (j := 5) (oj := ⟨some 11, _, _, _, _, _⟩) (by kernel_rfl) rfl rfl (fun K hK => ?_) (fun K hK => ?_)
        · skip
          rw [if_pos (by rfl)]
          go_simp
          first | have h := (h : Own _ _ (Hp.ro T :: _)) | have h := (h.f1 : Own _ _ (Hp.ro T :: _)) | have h := (h.f2 : Own _ _ (Hp.ro T :: _)) | have h := (h.f3 : Own _ _ (Hp.ro T :: _)) | have h := (h.f4 : Own _ _ (Hp.ro T :: _)) | have h := (h.f5 : Own _ _ (Hp.ro T :: _)) | have h := (h.f6 : Own _ _ (Hp.ro T :: _)) | have h := (h.f7 : Own _ _ (Hp.ro T :: _)) | have h := (h.f8 : Own _ _ (Hp.ro T :: _)) | have h := (h.f9 : Own _ _ (Hp.ro T :: _)) | have h := (h.f10 : Own _ _ (Hp.ro T :: _)) | have h := (h.f11 : Own _ _ (Hp.ro T :: _)) | have h := (h.f12 : Own _ _ (Hp.ro T :: _)) | have h := (h.f13 : Own _ _ (Hp.ro T :: _)) | have h := (h.f14 : Own _ _ (Hp.ro T :: _)) | have h := (h.f15 : Own _ _ (Hp.ro T :: _))
          refine (HS1.out _ _ h).mono ?_
          rintro e w5 ⟨rfl, h⟩
          refine hK.out _ _ ?_ (fun hS => ?_)
          · exact HC.out _ h.has h.has
          clear hK K
          try simp only [Act.put, List.setIfInBounds_toArray, List.set_cons_zero, List.set_cons_succ]
          refine wpAnyG_two (i := 3) (oi := ⟨some 36, _, _, _, _, _⟩) (j := 5) (oj := ⟨some 11, _, _, _, _, _⟩) (by kernel_rfl) rfl rfl (fun K hK => ?_) (fun K hK => ?_)
          · skip
            rw [if_pos (by rfl)]
            go_simp
            first | have h := (h : Own _ _ (Hp.ro T :: _)) | have h := (h.f1 : Own _ _ (Hp.ro T :: _)) | have h := (h.f2 : Own _ _ (Hp.ro T :: _)) | have h := (h.f3 : Own _ _ (Hp.ro T :: _)) | have h := (h.f4 : Own _ _ (Hp.ro T :: _)) | have h := (h.f5 : Own _ _ (Hp.ro T :: _)) | have h := (h.f6 : Own _ _ (Hp.ro T :: _)) | have h := (h.f7 : Own _ _ (Hp.ro T :: _)) | have h := (h.f8 : Own _ _ (Hp.ro T :: _)) | have h := (h.f9 : Own _ _ (Hp.ro T :: _)) | have h := (h.f10 : Own _ _ (Hp.ro T :: _)) | have h := (h.f11 : Own _ _ (Hp.ro T :: _)) | have h := (h.f12 : Own _ _ (Hp.ro T :: _)) | have h := (h.f13 : Own _ _ (Hp.ro T :: _)) | have h := (h.f14 : Own _ _ (Hp.ro T :: _)) | have h := (h.f15 : Own _ _ (Hp.ro T :: _))
            refine (HS2.out _ _ h).mono ?_
            rintro e w6 ⟨rfl, h⟩
            refine hK.out _ _ ?_ (fun hS => ?_)
            · exact HC.out _ h.has h.has
            clear hK K
            try simp only [Act.put, List.setIfInBounds_toArray, List.set_cons_zero, List.set_cons_succ]
            refine wpAnyG_pure (i := 4) (oi := ⟨some 37, _, _, _, _, _⟩) (v := ?_) rfl (by kernel_rfl) (by kernel_rfl) (by kernel_rfl) (by rfl) (fun _ _ _ h => h) (by rfl) ?_ ?_
            rotate_left
            · intro w
              go_simp
              first | done | with_reducible rfl
            try simp only [Act.put, List.setIfInBounds_toArray, List.set_cons_zero, List.set_cons_succ]
            refine wpAnyG_keep (i := 5) (oi := ⟨some 11, _, _, _, _, _⟩) (by kernel_rfl) rfl (fun K hK => ?_)
            rw [if_pos (by rfl)]
            refine wp_alloc_own (cs := #[.int .i64 0, .int .i64 0]) (T := ENDT) h (by go_simp) (fun ge w8 h => ?_)
            refine hK.out _ _ ?_ (fun hS => ?_)
            · exact HC.out _ h.has h.has
            clear hK K
            try simp only [Act.put, List.setIfInBounds_toArray, List.set_cons_zero, List.set_cons_succ]
            refine wpAnyG_keep (i := 6) (oi := ⟨none, _, _, _, _, _⟩) (by kernel_rfl) rfl (fun K hK => ?_)
            rw [if_pos (by rfl)]
            first | have h := (h : Own _ _ (Hp.blk ge ENDT _ :: _)) | have h := (h.f1 : Own _ _ (Hp.blk ge ENDT _ :: _)) | have h := (h.f2 : Own _ _ (Hp.blk ge ENDT _ :: _)) | have h := (h.f3 : Own _ _ (Hp.blk ge ENDT _ :: _)) | have h := (h.f4 : Own _ _ (Hp.blk ge ENDT _ :: _)) | have h := (h.f5 : Own _ _ (Hp.blk ge ENDT _ :: _)) | have h := (h.f6 : Own _ _ (Hp.blk ge ENDT _ :: _)) | have h := (h.f7 : Own _ _ (Hp.blk ge ENDT _ :: _)) | have h := (h.f8 : Own _ _ (Hp.blk ge ENDT _ :: _)) | have h := (h.f9 : Own _ _ (Hp.blk ge ENDT _ :: _)) | have h := (h.f10 : Own _ _ (Hp.blk ge ENDT _ :: _)) | have h := (h.f11 : Own _ _ (Hp.blk ge ENDT _ :: _)) | have h := (h.f12 : Own _ _ (Hp.blk ge ENDT _ :: _)) | have h := (h.f13 : Own _ _ (Hp.blk ge ENDT _ :: _)) | have h := (h.f14 : Own _ _ (Hp.blk ge ENDT _ :: _)) | have h := (h.f15 : Own _ _ (Hp.blk ge ENDT _ :: _))
            refine wp_store_whole (cs := [.int .i64 0, .int .i64 0]) (vs := [.int .i64 (n.lo k1).size, .int .i64 (n.hi k1).size]) h rfl (two_one _ _) (by kernel_rfl) rfl rfl rfl (fun w9 h => ?_)
            refine hK.out _ _ ?_ (fun hS => ?_)
            · exact HC.out _ h.has h.has
            clear hK K
            try simp only [Act.put]
            refine wpAnyG_done (by kernel_rfl) ?_ _
            refine NoPanic.normal ?_
            go_wp2_with fail
            go_meet
            case rel =>
              first | have h := (h : Own _ _ (Hp.blk (gl + 1) NT _ :: _)) | have h := (h.f1 : Own _ _ (Hp.blk (gl + 1) NT _ :: _)) | have h := (h.f2 : Own _ _ (Hp.blk (gl + 1) NT _ :: _)) | have h := (h.f3 : Own _ _ (Hp.blk (gl + 1) NT _ :: _)) | have h := (h.f4 : Own _ _ (Hp.blk (gl + 1) NT _ :: _)) | have h := (h.f5 : Own _ _ (Hp.blk (gl + 1) NT _ :: _)) | have h := (h.f6 : Own _ _ (Hp.blk (gl + 1) NT _ :: _)) | have h := (h.f7 : Own _ _ (Hp.blk (gl + 1) NT _ :: _)) | have h := (h.f8 : Own _ _ (Hp.blk (gl + 1) NT _ :: _)) | have h := (h.f9 : Own _ _ (Hp.blk (gl + 1) NT _ :: _)) | have h := (h.f10 : Own _ _ (Hp.blk (gl + 1) NT _ :: _)) | have h := (h.f11 : Own _ _ (Hp.blk (gl + 1) NT _ :: _)) | have h := (h.f12 : Own _ _ (Hp.blk (gl + 1) NT _ :: _)) | have h := (h.f13 : Own _ _ (Hp.blk (gl + 1) NT _ :: _)) | have h := (h.f14 : Own _ _ (Hp.blk (gl + 1) NT _ :: _)) | have h := (h.f15 : Own _ _ (Hp.blk (gl + 1) NT _ :: _))
              have h := h.drop
              first | have h := (h : Own _ _ (Hp.blk gl NT _ :: _)) | have h := (h.f1 : Own _ _ (Hp.blk gl NT _ :: _)) | have h := (h.f2 : Own _ _ (Hp.blk gl NT _ :: _)) | have h := (h.f3 : Own _ _ (Hp.blk gl NT _ :: _)) | have h := (h.f4 : Own _ _ (Hp.blk gl NT _ :: _)) | have h := (h.f5 : Own _ _ (Hp.blk gl NT _ :: _)) | have h := (h.f6 : Own _ _ (Hp.blk gl NT _ :: _)) | have h := (h.f7 : Own _ _ (Hp.blk gl NT _ :: _)) | have h := (h.f8 : Own _ _ (Hp.blk gl NT _ :: _)) | have h := (h.f9 : Own _ _ (Hp.blk gl NT _ :: _)) | have h := (h.f10 : Own _ _ (Hp.blk gl NT _ :: _)) | have h := (h.f11 : Own _ _ (Hp.blk gl NT _ :: _)) | have h := (h.f12 : Own _ _ (Hp.blk gl NT _ :: _)) | have h := (h.f13 : Own _ _ (Hp.blk gl NT _ :: _)) | have h := (h.f14 : Own _ _ (Hp.blk gl NT _ :: _)) | have h := (h.f15 : Own _ _ (Hp.blk gl NT _ :: _))
              have h := h.drop
              exact ⟨ge, rfl, h.ac (by simp only [Hp.all] <;> ac_rfl)⟩
          · skip
            rw [if_pos (by rfl)]
            refine wp_alloc_own (cs := #[.int .i64 0, .int .i64 0]) (T := ENDT) h (by go_simp) (fun ge w8 h => ?_)
            refine hK.out _ _ ?_ (fun hS => ?_)
            · exact HC.out _ h.has h.has
            clear hK K
            try simp only [Act.put, List.setIfInBounds_toArray, List.set_cons_zero, List.set_cons_succ]
            refine wpAnyG_keep (i := 3) (oi := ⟨some 36, _, _, _, _, _⟩) (by kernel_rfl) rfl (fun K hK => ?_)
            rw [if_pos (by rfl)]
            go_simp
            first | have h := (h : Own _ _ (Hp.ro T :: _)) | have h := (h.f1 : Own _ _ (Hp.ro T :: _)) | have h := (h.f2 : Own _ _ (Hp.ro T :: _)) | have h := (h.f3 : Own _ _ (Hp.ro T :: _)) | have h := (h.f4 : Own _ _ (Hp.ro T :: _)) | have h := (h.f5 : Own _ _ (Hp.ro T :: _)) | have h := (h.f6 : Own _ _ (Hp.ro T :: _)) | have h := (h.f7 : Own _ _ (Hp.ro T :: _)) | have h := (h.f8 : Own _ _ (Hp.ro T :: _)) | have h := (h.f9 : Own _ _ (Hp.ro T :: _)) | have h := (h.f10 : Own _ _ (Hp.ro T :: _)) | have h := (h.f11 : Own _ _ (Hp.ro T :: _)) | have h := (h.f12 : Own _ _ (Hp.ro T :: _)) | have h := (h.f13 : Own _ _ (Hp.ro T :: _)) | have h := (h.f14 : Own _ _ (Hp.ro T :: _)) | have h := (h.f15 : Own _ _ (Hp.ro T :: _))
            refine (HS2.out _ _ h).mono ?_
            rintro e w6 ⟨rfl, h⟩
            refine hK.out _ _ ?_ (fun hS => ?_)
            · exact HC.out _ h.has h.has
            clear hK K
            try simp only [Act.put, List.setIfInBounds_toArray, List.set_cons_zero, List.set_cons_succ]
            refine wpAnyG_pure (i := 4) (oi := ⟨some 37, _, _, _, _, _⟩) (v := ?_) rfl (by kernel_rfl) (by kernel_rfl) (by kernel_rfl) (by rfl) (fun _ _ _ h => h) (by rfl) ?_ ?_
            rotate_left
            · intro w
              go_simp
              first | done | with_reducible rfl
            try simp only [Act.put, List.setIfInBounds_toArray, List.set_cons_zero, List.set_cons_succ]
            refine wpAnyG_keep (i := 6) (oi := ⟨none, _, _, _, _, _⟩) (by kernel_rfl) rfl (fun K hK => ?_)
            rw [if_pos (by rfl)]
            first | have h := (h : Own _ _ (Hp.blk ge ENDT _ :: _)) | have h := (h.f1 : Own _ _ (Hp.blk ge ENDT _ :: _)) | have h := (h.f2 : Own _ _ (Hp.blk ge ENDT _ :: _)) | have h := (h.f3 : Own _ _ (Hp.blk ge ENDT _ :: _)) | have h := (h.f4 : Own _ _ (Hp.blk ge ENDT _ :: _)) | have h := (h.f5 : Own _ _ (Hp.blk ge ENDT _ :: _)) | have h := (h.f6 : Own _ _ (Hp.blk ge ENDT _ :: _)) | have h := (h.f7 : Own _ _ (Hp.blk ge ENDT _ :: _)) | have h := (h.f8 : Own _ _ (Hp.blk ge ENDT _ :: _)) | have h := (h.f9 : Own _ _ (Hp.blk ge ENDT _ :: _)) | have h := (h.f10 : Own _ _ (Hp.blk ge ENDT _ :: _)) | have h := (h.f11 : Own _ _ (Hp.blk ge ENDT _ :: _)) | have h := (h.f12 : Own _ _ (Hp.blk ge ENDT _ :: _)) | have h := (h.f13 : Own _ _ (Hp.blk ge ENDT _ :: _)) | have h := (h.f14 : Own _ _ (Hp.blk ge ENDT _ :: _)) | have h := (h.f15 : Own _ _ (Hp.blk ge ENDT _ :: _))
            refine wp_store_whole (cs := [.int .i64 0, .int .i64 0]) (vs := [.int .i64 (n.lo k1).size, .int .i64 (n.hi k1).size]) h rfl (two_one _ _) (by kernel_rfl) rfl rfl rfl (fun w9 h => ?_)
            refine hK.out _ _ ?_ (fun hS => ?_)
            · exact HC.out _ h.has h.has
            clear hK K
            try simp only [Act.put]
            refine wpAnyG_done (by kernel_rfl) ?_ _
            refine NoPanic.normal ?_
            go_wp2_with fail
            go_meet
            case rel =>
              first | have h := (h : Own _ _ (Hp.blk (gl + 1) NT _ :: _)) | have h := (h.f1 : Own _ _ (Hp.blk (gl + 1) NT _ :: _)) | have h := (h.f2 : Own _ _ (Hp.blk (gl + 1) NT _ :: _)) | have h := (h.f3 : Own _ _ (Hp.blk (gl + 1) NT _ :: _)) | have h := (h.f4 : Own _ _ (Hp.blk (gl + 1) NT _ :: _)) | have h := (h.f5 : Own _ _ (Hp.blk (gl + 1) NT _ :: _)) | have h := (h.f6 : Own _ _ (Hp.blk (gl + 1) NT _ :: _)) | have h := (h.f7 : Own _ _ (Hp.blk (gl + 1) NT _ :: _)) | have h := (h.f8 : Own _ _ (Hp.blk (gl + 1) NT _ :: _)) | have h := (h.f9 : Own _ _ (Hp.blk (gl + 1) NT _ :: _)) | have h := (h.f10 : Own _ _ (Hp.blk (gl + 1) NT _ :: _)) | have h := (h.f11 : Own _ _ (Hp.blk (gl + 1) NT _ :: _)) | have h := (h.f12 : Own _ _ (Hp.blk (gl + 1) NT _ :: _)) | have h := (h.f13 : Own _ _ (Hp.blk (gl + 1) NT _ :: _)) | have h := (h.f14 : Own _ _ (Hp.blk (gl + 1) NT _ :: _)) | have h := (h.f15 : Own _ _ (Hp.blk (gl + 1) NT _ :: _))
              have h := h.drop
              first | have h := (h : Own _ _ (Hp.blk gl NT _ :: _)) | have h := (h.f1 : Own _ _ (Hp.blk gl NT _ :: _)) | have h := (h.f2 : Own _ _ (Hp.blk gl NT _ :: _)) | have h := (h.f3 : Own _ _ (Hp.blk gl NT _ :: _)) | have h := (h.f4 : Own _ _ (Hp.blk gl NT _ :: _)) | have h := (h.f5 : Own _ _ (Hp.blk gl NT _ :: _)) | have h := (h.f6 : Own _ _ (Hp.blk gl NT _ :: _)) | have h := (h.f7 : Own _ _ (Hp.blk gl NT _ :: _)) | have h := (h.f8 : Own _ _ (Hp.blk gl NT _ :: _)) | have h := (h.f9 : Own _ _ (Hp.blk gl NT _ :: _)) | have h := (h.f10 : Own _ _ (Hp.blk gl NT _ :: _)) | have h := (h.f11 : Own _ _ (Hp.blk gl NT _ :: _)) | have h := (h.f12 : Own _ _ (Hp.blk gl NT _ :: _)) | have h := (h.f13 : Own _ _ (Hp.blk gl NT _ :: _)) | have h := (h.f14 : Own _ _ (Hp.blk gl NT _ :: _)) | have h := (h.f15 : Own _ _ (Hp.blk gl NT _ :: _))
              have h := h.drop
              exact ⟨ge, rfl, h.ac (by simp only [Hp.all] <;> ac_rfl)⟩
        · skip
          rw [if_pos (by rfl)]
          refine wp_alloc_own (cs := #[.int .i64 0, .int .i64 0]) (T := ENDT) h (by go_simp) (fun ge w8 h => ?_)
          refine hK.out _ _ ?_ (fun hS => ?_)
          · exact HC.out _ h.has h.has
          clear hK K
          try simp only [Act.put, List.setIfInBounds_toArray, List.set_cons_zero, List.set_cons_succ]
          refine wpAnyG_keep (i := 1) (oi := ⟨some 34, _, _, _, _, _⟩) (by kernel_rfl) rfl (fun K hK => ?_)
          rw [if_pos (by rfl)]
          go_simp
          first | have h := (h : Own _ _ (Hp.ro T :: _)) | have h := (h.f1 : Own _ _ (Hp.ro T :: _)) | have h := (h.f2 : Own _ _ (Hp.ro T :: _)) | have h := (h.f3 : Own _ _ (Hp.ro T :: _)) | have h := (h.f4 : Own _ _ (Hp.ro T :: _)) | have h := (h.f5 : Own _ _ (Hp.ro T :: _)) | have h := (h.f6 : Own _ _ (Hp.ro T :: _)) | have h := (h.f7 : Own _ _ (Hp.ro T :: _)) | have h := (h.f8 : Own _ _ (Hp.ro T :: _)) | have h := (h.f9 : Own _ _ (Hp.ro T :: _)) | have h := (h.f10 : Own _ _ (Hp.ro T :: _)) | have h := (h.f11 : Own _ _ (Hp.ro T :: _)) | have h := (h.f12 : Own _ _ (Hp.ro T :: _)) | have h := (h.f13 : Own _ _ (Hp.ro T :: _)) | have h := (h.f14 : Own _ _ (Hp.ro T :: _)) | have h := (h.f15 : Own _ _ (Hp.ro T :: _))
          refine (HS1.out _ _ h).mono ?_
          rintro e w5 ⟨rfl, h⟩
          refine hK.out _ _ ?_ (fun hS => ?_)
          · exact HC.out _ h.has h.has
          clear hK K
          try simp only [Act.put, List.setIfInBounds_toArray, List.set_cons_zero, List.set_cons_succ]
          refine wpAnyG_keep (i := 3) (oi := ⟨some 36, _, _, _, _, _⟩) (by kernel_rfl) rfl (fun K hK => ?_)
          rw [if_pos (by rfl)]
          go_simp
          first | have h := (h : Own _ _ (Hp.ro T :: _)) | have h := (h.f1 : Own _ _ (Hp.ro T :: _)) | have h := (h.f2 : Own _ _ (Hp.ro T :: _)) | have h := (h.f3 : Own _ _ (Hp.ro T :: _)) | have h := (h.f4 : Own _ _ (Hp.ro T :: _)) | have h := (h.f5 : Own _ _ (Hp.ro T :: _)) | have h := (h.f6 : Own _ _ (Hp.ro T :: _)) | have h := (h.f7 : Own _ _ (Hp.ro T :: _)) | have h := (h.f8 : Own _ _ (Hp.ro T :: _)) | have h := (h.f9 : Own _ _ (Hp.ro T :: _)) | have h := (h.f10 : Own _ _ (Hp.ro T :: _)) | have h := (h.f11 : Own _ _ (Hp.ro T :: _)) | have h := (h.f12 : Own _ _ (Hp.ro T :: _)) | have h := (h.f13 : Own _ _ (Hp.ro T :: _)) | have h := (h.f14 : Own _ _ (Hp.ro T :: _)) | have h := (h.f15 : Own _ _ (Hp.ro T :: _))
          refine (HS2.out _ _ h).mono ?_
          rintro e w6 ⟨rfl, h⟩
          refine hK.out _ _ ?_ (fun hS => ?_)
          · exact HC.out _ h.has h.has
          clear hK K
          try simp only [Act.put, List.setIfInBounds_toArray, List.set_cons_zero, List.set_cons_succ]
          refine wpAnyG_pure (i := 4) (oi := ⟨some 37, _, _, _, _, _⟩) (v := ?_) rfl (by kernel_rfl) (by kernel_rfl) (by kernel_rfl) (by rfl) (fun _ _ _ h => h) (by rfl) ?_ ?_
          rotate_left
          · intro w
            go_simp
            first | done | with_reducible rfl
          try simp only [Act.put, List.setIfInBounds_toArray, List.set_cons_zero, List.set_cons_succ]
          refine wpAnyG_keep (i := 6) (oi := ⟨none, _, _, _, _, _⟩) (by kernel_rfl) rfl (fun K hK => ?_)
          rw [if_pos (by rfl)]
          first | have h := (h : Own _ _ (Hp.blk ge ENDT _ :: _)) | have h := (h.f1 : Own _ _ (Hp.blk ge ENDT _ :: _)) | have h := (h.f2 : Own _ _ (Hp.blk ge ENDT _ :: _)) | have h := (h.f3 : Own _ _ (Hp.blk ge ENDT _ :: _)) | have h := (h.f4 : Own _ _ (Hp.blk ge ENDT _ :: _)) | have h := (h.f5 : Own _ _ (Hp.blk ge ENDT _ :: _)) | have h := (h.f6 : Own _ _ (Hp.blk ge ENDT _ :: _)) | have h := (h.f7 : Own _ _ (Hp.blk ge ENDT _ :: _)) | have h := (h.f8 : Own _ _ (Hp.blk ge ENDT _ :: _)) | have h := (h.f9 : Own _ _ (Hp.blk ge ENDT _ :: _)) | have h := (h.f10 : Own _ _ (Hp.blk ge ENDT _ :: _)) | have h := (h.f11 : Own _ _ (Hp.blk ge ENDT _ :: _)) | have h := (h.f12 : Own _ _ (Hp.blk ge ENDT _ :: _)) | have h := (h.f13 : Own _ _ (Hp.blk ge ENDT _ :: _)) | have h := (h.f14 : Own _ _ (Hp.blk ge ENDT _ :: _)) | have h := (h.f15 : Own _ _ (Hp.blk ge ENDT _ :: _))
          refine wp_store_whole (cs := [.int .i64 0, .int .i64 0]) (vs := [.int .i64 (n.lo k1).size, .int .i64 (n.hi k1).size]) h rfl (two_one _ _) (by kernel_rfl) rfl rfl rfl (fun w9 h => ?_)
          refine hK.out _ _ ?_ (fun hS => ?_)
          · exact HC.out _ h.has h.has
          clear hK K
          try simp only [Act.put]
          refine wpAnyG_done (by kernel_rfl) ?_ _
          refine NoPanic.normal ?_
          go_wp2_with fail
          go_meet
          case rel =>
            first | have h := (h : Own _ _ (Hp.blk (gl + 1) NT _ :: _)) | have h := (h.f1 : Own _ _ (Hp.blk (gl + 1) NT _ :: _)) | have h := (h.f2 : Own _ _ (Hp.blk (gl + 1) NT _ :: _)) | have h := (h.f3 : Own _ _ (Hp.blk (gl + 1) NT _ :: _)) | have h := (h.f4 : Own _ _ (Hp.blk (gl + 1) NT _ :: _)) | have h := (h.f5 : Own _ _ (Hp.blk (gl + 1) NT _ :: _)) | have h := (h.f6 : Own _ _ (Hp.blk (gl + 1) NT _ :: _)) | have h := (h.f7 : Own _ _ (Hp.blk (gl + 1) NT _ :: _)) | have h := (h.f8 : Own _ _ (Hp.blk (gl + 1) NT _ :: _)) | have h := (h.f9 : Own _ _ (Hp.blk (gl + 1) NT _ :: _)) | have h := (h.f10 : Own _ _ (Hp.blk (gl + 1) NT _ :: _)) | have h := (h.f11 : Own _ _ (Hp.blk (gl + 1) NT _ :: _)) | have h := (h.f12 : Own _ _ (Hp.blk (gl + 1) NT _ :: _)) | have h := (h.f13 : Own _ _ (Hp.blk (gl + 1) NT _ :: _)) | have h := (h.f14 : Own _ _ (Hp.blk (gl + 1) NT _ :: _)) | have h := (h.f15 : Own _ _ (Hp.blk (gl + 1) NT _ :: _))
            have h := h.drop
            first | have h := (h : Own _ _ (Hp.blk gl NT _ :: _)) | have h := (h.f1 : Own _ _ (Hp.blk gl NT _ :: _)) | have h := (h.f2 : Own _ _ (Hp.blk gl NT _ :: _)) | have h := (h.f3 : Own _ _ (Hp.blk gl NT _ :: _)) | have h := (h.f4 : Own _ _ (Hp.blk gl NT _ :: _)) | have h := (h.f5 : Own _ _ (Hp.blk gl NT _ :: _)) | have h := (h.f6 : Own _ _ (Hp.blk gl NT _ :: _)) | have h := (h.f7 : Own _ _ (Hp.blk gl NT _ :: _)) | have h := (h.f8 : Own _ _ (Hp.blk gl NT _ :: _)) | have h := (h.f9 : Own _ _ (Hp.blk gl NT _ :: _)) | have h := (h.f10 : Own _ _ (Hp.blk gl NT _ :: _)) | have h := (h.f11 : Own _ _ (Hp.blk gl NT _ :: _)) | have h := (h.f12 : Own _ _ (Hp.blk gl NT _ :: _)) | have h := (h.f13 : Own _ _ (Hp.blk gl NT _ :: _)) | have h := (h.f14 : Own _ _ (Hp.blk gl NT _ :: _)) | have h := (h.f15 : Own _ _ (Hp.blk gl NT _ :: _))
            have h := h.drop
            exact ⟨ge, rfl, h.ac (by simp only [Hp.all] <;> ac_rfl)⟩
      obtain ⟨ge, rfl, hw⟩ := hcut
      have hw := hw.f1.back HXT.out
      clear H HC HS1 HS2 HXT
      obtain ⟨s1, hs1⟩ : ∃ s, s = (n.lo k1).size := ⟨_, rfl⟩
      obtain ⟨s2, hs2⟩ : ∃ s, s = (n.hi k1).size := ⟨_, rfl⟩
      rw [← hs1, ← hs2] at hw
      rw [← hs1] at hps hz1
      rw [← hs2] at hz2
      have HS12 := Lib.hid (And.intro hs1 hs2)
      have HC : Hid (∀ w', (∃ L', Own E w' (Hp.blk gz ENDT #[.int .i64 bl, .int .i64 br] :: L')) → (∃ L', Own E w' (Hp.blk gn ENDT #[.int .i64 0, .int .i64 0] :: L')) → (∃ L', Own E w' (Hp.blk ge ENDT #[.int .i64 s1, .int .i64 s2] :: L')) → w'.rangeAt gz 0 [.int .i64 bl, .int .i64 br] ∧ w'.rangeAt gn 0 [.int .i64 0, .int .i64 0] ∧ w'.rangeAt ge 0 [.int .i64 s1, .int .i64 s2]) := Lib.hid fun w' h2 h3 h4 => by
        obtain ⟨_, h2⟩ := h2
        obtain ⟨_, h3⟩ := h3
        obtain ⟨_, h4⟩ := h4
        exact ⟨h2.range 0 _ (fun j u hu => by simpa using hu), h3.range 0 _ (fun j u hu => by simpa using hu), h4.range 0 _ (fun j u hu => by simpa using hu)⟩
      have h : Own E wc (Hp.blk gz ENDT #[.int .i64 bl, .int .i64 br] :: Hp.blk ge ENDT #[.int .i64 s1, .int .i64 s2] :: Hp.blk gn ENDT #[.int .i64 0, .int .i64 0] :: Hp.blk g NT #[.bool leaf, .slice a1 nk c1, .slice a2 nv c2, .slice a3 nlz c3] :: Hp.ro S :: L) := hw.ac (by simp only [Hp.all] <;> ac_rfl)
      have H := Lib.hid h.drew
      clear h hw hs1 hs2
      go_wp2_with fail
      have h := H.out
      clear H
      rcases (show (k = 0 ∧ bl = 0 ∧ br = 0) ∨ (1 ≤ k ∧ 0 < bl ∧ max bl br = n.gr aa) from by
        rcases HBEST.out with hb | ⟨hb, rfl, rfl⟩
        · exact .inl hb
        · have hq := HIN.out k
          rw [← HAA.out] at hq
          exact .inr ⟨hb, HPOS.out aa hq.1 (by omega), rfl⟩) with ⟨hk0, rfl, rfl⟩ | ⟨hk0, hbp, hmx⟩
      · skip
        refine wp_region_text [0, 1] (fun w' => w'.rangeAt gz 0 [.int .i64 0, .int .i64 0] ∧ w'.rangeAt gn 0 [.int .i64 0, .int .i64 0] ∧ w'.rangeAt ge 0 [.int .i64 s1, .int .i64 s2]) (by kernel_rfl) ?_ (fun hS => ?_)
        · exact HC.out _ h.has h.has h.has
        refine wpAnyG_load (i := 0) (oi := ⟨some 38, _, _, _, _, _⟩) (v := (.agg #[.int .i64 0, .int .i64 0])) rfl (by kernel_rfl) (by kernel_rfl) (by kernel_rfl) (by rfl) (fun _ _ _ h => h) (by rfl) ?_ (by assumption) ?_
        · intro w hS
          exact exec_load_mid ENDT (.tmp 5) rfl gz 0 (by rfl) [.int .i64 0, .int .i64 0] _ hS.1 Tryd.underlying110 rfl (by kernel_rfl)
        try simp only [Act.put, List.setIfInBounds_toArray, List.set_cons_zero, List.set_cons_succ]
        refine wpAnyG_load (i := 1) (oi := ⟨some 39, _, _, _, _, _⟩) (v := (.agg #[.int .i64 0, .int .i64 0])) rfl (by kernel_rfl) (by kernel_rfl) (by kernel_rfl) (by rfl) (fun _ _ _ h => h) (by rfl) ?_ (by assumption) ?_
        · intro w hS
          exact exec_load_mid ENDT (.tmp 4) rfl gn 0 (by rfl) [.int .i64 0, .int .i64 0] _ hS.2.1 Tryd.underlying110 rfl (by kernel_rfl)
        try simp only [Act.put, List.setIfInBounds_toArray, List.set_cons_zero, List.set_cons_succ]
        refine wpAnyG_pure (i := 2) (oi := ⟨some 40, _, _, _, _, _⟩) (v := (.bool true)) rfl (by kernel_rfl) (by kernel_rfl) (by kernel_rfl) (by rfl) (fun _ _ _ h => h) (by rfl) ?_ ?_
        · intro w
          have hq := run_ends (w := w) 0 0 0 0; go_simp
        try simp only [Act.put, List.setIfInBounds_toArray, List.set_cons_zero, List.set_cons_succ]
        refine wpAnyG_pure (i := 3) (oi := ⟨some 41, _, _, _, _, _⟩) (v := ?_) rfl (by kernel_rfl) (by kernel_rfl) (by kernel_rfl) (by rfl) (fun _ _ _ h => h) (by rfl) ?_ ?_
        rotate_left
        · intro w
          go_simp
          first | done | with_reducible rfl
        try simp only [Act.put, List.setIfInBounds_toArray, List.set_cons_zero, List.set_cons_succ]
        refine wpAnyG_skip (i := 4) (oi := ⟨some 42, _, _, _, _, _⟩) rfl (by kernel_rfl) (by kernel_rfl) (by kernel_rfl) (by rfl) (fun _ _ _ h => h) (by rfl) ?_
        try simp only [Act.put, List.setIfInBounds_toArray, List.set_cons_zero, List.set_cons_succ]
        refine wpAnyG_skip (i := 5) (oi := ⟨some 43, _, _, _, _, _⟩) rfl (by kernel_rfl) (by kernel_rfl) (by kernel_rfl) (by rfl) (fun _ _ _ h => h) (by rfl) ?_
        try simp only [Act.put, List.setIfInBounds_toArray, List.set_cons_zero, List.set_cons_succ]
        refine wpAnyG_skip (i := 6) (oi := ⟨some 44, _, _, _, _, _⟩) rfl (by kernel_rfl) (by kernel_rfl) (by kernel_rfl) (by rfl) (fun _ _ _ h => h) (by rfl) ?_
        try simp only [Act.put, List.setIfInBounds_toArray, List.set_cons_zero, List.set_cons_succ]
        refine wpAnyG_skip (i := 7) (oi := ⟨some 45, _, _, _, _, _⟩) rfl (by kernel_rfl) (by kernel_rfl) (by kernel_rfl) (by rfl) (fun _ _ _ h => h) (by rfl) ?_
        try simp only [Act.put, List.setIfInBounds_toArray, List.set_cons_zero, List.set_cons_succ]
        refine wpAnyG_skip (i := 8) (oi := ⟨some 46, _, _, _, _, _⟩) rfl (by kernel_rfl) (by kernel_rfl) (by kernel_rfl) (by rfl) (fun _ _ _ h => h) (by rfl) ?_
        try simp only [Act.put, List.setIfInBounds_toArray, List.set_cons_zero, List.set_cons_succ]
        refine wpAnyG_pure (i := 9) (oi := ⟨some 47, _, _, _, _, _⟩) (v := ?_) rfl (by kernel_rfl) (by kernel_rfl) (by kernel_rfl) (by rfl) (fun _ _ _ h => h) (by rfl) ?_ ?_
        rotate_left
        · intro w
          go_simp
          first | done | with_reducible rfl
        try simp only [Act.put, List.setIfInBounds_toArray, List.set_cons_zero, List.set_cons_succ]
        refine wpAnyG_done (by kernel_rfl) ?_ _
        refine NoPanic.normal ?_
        have H := Lib.hid h
        clear h
        have p0 : _ = some (Value.int .i64 s1) := H.out.f1.cell 0
        have p1 : _ = some (Value.int .i64 s2) := H.out.f1.cell 1
        go_wp2_with (with_reducible refine at_slot (k := none) ?_; refine wpList_store_whole (o := ⟨none, _, _, _, _, _⟩) (cs := [.int .i64 0, .int .i64 0]) (vs := [.int .i64 s1, .int .i64 s2]) H.out rfl (two_one _ _) (by kernel_rfl) rfl rfl rfl rfl ?_; intro w7 h7)
        have H7 := Lib.hid (h7.f1.drop : Own E w7 (Hp.blk gz ENDT #[.int .i64 s1, .int .i64 s2] :: Hp.blk gn ENDT #[.int .i64 0, .int .i64 0] :: Hp.blk g NT #[.bool leaf, .slice a1 nk c1, .slice a2 nv c2, .slice a3 nlz c3] :: Hp.ro S :: L))
        clear h7 H
        go_roundw
        case rel =>
          obtain ⟨e1, e2⟩ := HK1.out
          refine ⟨k1, k1, s1, s2, by omega, by go_num, rfl, ?_, .inr ⟨by omega, HS12.out.1, HS12.out.2⟩, H7.out⟩
          rw [HSTK.out, if_pos (.inl hk0)]
        case measure => simp [intOf]; omega
      · obtain ⟨ga, hga⟩ : ∃ x, x = n.gr k1 := ⟨_, rfl⟩
        obtain ⟨gb, hgb⟩ : ∃ x, x = n.gr aa := ⟨_, rfl⟩
        have hma : max s1 s2 = ga := by rw [hga, HGR.out, ← HS12.out.1, ← HS12.out.2]
        have hmb : max bl br = gb := by rw [hmx, hgb]
        have HMA := Lib.hid hma
        have HMB := Lib.hid hmb
        have z0 : ((bl : Int) == 0 && (br : Int) == 0) = false := by
          have : ((bl : Int) == 0) = false := by rw [beq_eq_false_iff_ne]; omega
          rw [this]; rfl
        have hq : ∀ w, (binOp .eql ENDT (.agg #[.int .i64 bl, .int .i64 br]) (.agg #[.int .i64 0, .int .i64 0])).run Tryd.prog w = .ok (.bool false) w := fun w => by rw [run_ends, z0]
        by_cases hgl : n.gr k1 < n.gr aa
        · have hgi : (ga : Int) < gb := by omega
          rw [← HAA.out] at HSTK
          have HGG := Lib.hid (And.intro hga hgb)
          clear hga hgb hmx hma hmb z0
          refine wp_region_text [0, 1, 4, 6] (fun w' => w'.rangeAt gz 0 [.int .i64 bl, .int .i64 br] ∧ w'.rangeAt gn 0 [.int .i64 0, .int .i64 0] ∧ w'.rangeAt ge 0 [.int .i64 s1, .int .i64 s2]) (by kernel_rfl) ?_ (fun hS => ?_)
          · exact HC.out _ h.has h.has h.has
          refine wpAnyG_load (i := 0) (oi := ⟨some 38, _, _, _, _, _⟩) (v := (.agg #[.int .i64 bl, .int .i64 br])) rfl (by kernel_rfl) (by kernel_rfl) (by kernel_rfl) (by rfl) (fun _ _ _ h => h) (by rfl) ?_ (by assumption) ?_
          · intro w hS
            exact exec_load_mid ENDT (.tmp 5) rfl gz 0 (by rfl) [.int .i64 bl, .int .i64 br] _ hS.1 Tryd.underlying110 rfl (by kernel_rfl)
          try simp only [Act.put, List.setIfInBounds_toArray, List.set_cons_zero, List.set_cons_succ]
          refine wpAnyG_load (i := 1) (oi := ⟨some 39, _, _, _, _, _⟩) (v := (.agg #[.int .i64 0, .int .i64 0])) rfl (by kernel_rfl) (by kernel_rfl) (by kernel_rfl) (by rfl) (fun _ _ _ h => h) (by rfl) ?_ (by assumption) ?_
          · intro w hS
            exact exec_load_mid ENDT (.tmp 4) rfl gn 0 (by rfl) [.int .i64 0, .int .i64 0] _ hS.2.1 Tryd.underlying110 rfl (by kernel_rfl)
          try simp only [Act.put, List.setIfInBounds_toArray, List.set_cons_zero, List.set_cons_succ]
          refine wpAnyG_pure (i := 2) (oi := ⟨some 40, _, _, _, _, _⟩) (v := (.bool false)) rfl (by kernel_rfl) (by kernel_rfl) (by kernel_rfl) (by rfl) (fun _ _ _ h => h) (by rfl) ?_ ?_
          · intro w
            go_simp
          try simp only [Act.put, List.setIfInBounds_toArray, List.set_cons_zero, List.set_cons_succ]
          refine wpAnyG_pure (i := 3) (oi := ⟨some 41, _, _, _, _, _⟩) (v := ?_) rfl (by kernel_rfl) (by kernel_rfl) (by kernel_rfl) (by rfl) (fun _ _ _ h => h) (by rfl) ?_ ?_
          rotate_left
          · intro w
            go_simp
            first | done | with_reducible rfl
          try simp only [Act.put, List.setIfInBounds_toArray, List.set_cons_zero, List.set_cons_succ]
          refine wpAnyG_load (i := 4) (oi := ⟨some 42, _, _, _, _, _⟩) (v := (.agg #[.int .i64 s1, .int .i64 s2])) rfl (by kernel_rfl) (by kernel_rfl) (by kernel_rfl) (by rfl) (fun _ _ _ h => h) (by rfl) ?_ (by assumption) ?_
          · intro w hS
            exact exec_load_mid ENDT (.tmp 11) rfl ge 0 (by rfl) [.int .i64 s1, .int .i64 s2] _ hS.2.2 Tryd.underlying110 rfl (by kernel_rfl)
          try simp only [Act.put, List.setIfInBounds_toArray, List.set_cons_zero, List.set_cons_succ]
          refine wpAnyG_load (i := 6) (oi := ⟨some 44, _, _, _, _, _⟩) (v := (.agg #[.int .i64 bl, .int .i64 br])) rfl (by kernel_rfl) (by kernel_rfl) (by kernel_rfl) (by rfl) (fun _ _ _ h => h) (by rfl) ?_ (by assumption) ?_
          · intro w hS
            exact exec_load_mid ENDT (.tmp 5) rfl gz 0 (by rfl) [.int .i64 bl, .int .i64 br] _ hS.1 Tryd.underlying110 rfl (by kernel_rfl)
          try simp only [Act.put, List.setIfInBounds_toArray, List.set_cons_zero, List.set_cons_succ]
          refine wpAnyG_keep (i := 5) (oi := ⟨some 43, _, _, _, _, _⟩) (by kernel_rfl) rfl (fun K hK => ?_)
          rw [if_pos (by rfl)]
          go_simp
          refine (greater_any s1 s2 _ h).mono ?_
          rintro e w5 ⟨rfl, h⟩
          rw [HMA.out]
          refine hK.out _ _ ?_ (fun hS => ?_)
          · exact HC.out _ h.has h.has h.has
          clear hK K
          try simp only [Act.put, List.setIfInBounds_toArray, List.set_cons_zero, List.set_cons_succ]
          refine wpAnyG_keep (i := 7) (oi := ⟨some 45, _, _, _, _, _⟩) (by kernel_rfl) rfl (fun K hK => ?_)
          rw [if_pos (by rfl)]
          go_simp
          refine (greater_any bl br _ h).mono ?_
          rintro e w6 ⟨rfl, h⟩
          rw [HMB.out]
          refine hK.out _ _ ?_ (fun hS => ?_)
          · exact HC.out _ h.has h.has h.has
          clear hK K
          try simp only [Act.put, List.setIfInBounds_toArray, List.set_cons_zero, List.set_cons_succ]
          refine wpAnyG_pure (i := 8) (oi := ⟨some 46, _, _, _, _, _⟩) (v := ?_) rfl (by kernel_rfl) (by kernel_rfl) (by kernel_rfl) (by rfl) (fun _ _ _ h => h) (by rfl) ?_ ?_
          rotate_left
          · intro w
            go_simp
            first | done | with_reducible rfl
          try simp only [Act.put, List.setIfInBounds_toArray, List.set_cons_zero, List.set_cons_succ]
          refine wpAnyG_pure (i := 9) (oi := ⟨some 47, _, _, _, _, _⟩) (v := ?_) rfl (by kernel_rfl) (by kernel_rfl) (by kernel_rfl) (by rfl) (fun _ _ _ h => h) (by rfl) ?_ ?_
          rotate_left
          · intro w
            go_simp
            first | done | with_reducible rfl
          try simp only [Act.put, List.setIfInBounds_toArray, List.set_cons_zero, List.set_cons_succ]
          refine wpAnyG_done (by kernel_rfl) ?_ _
          refine NoPanic.normal ?_
          have H := Lib.hid h
          clear h
          have p0 : _ = some (Value.int .i64 s1) := H.out.f1.cell 0
          have p1 : _ = some (Value.int .i64 s2) := H.out.f1.cell 1
          go_wp2_with (with_reducible refine at_slot (k := none) ?_; refine wpList_store_whole (o := ⟨none, _, _, _, _, _⟩) (cs := [.int .i64 bl, .int .i64 br]) (vs := [.int .i64 s1, .int .i64 s2]) H.out rfl (two_one _ _) (by kernel_rfl) rfl rfl rfl rfl ?_; intro w7 h7)
          have H7 := Lib.hid (h7.f1.drop : Own E w7 (Hp.blk gz ENDT #[.int .i64 s1, .int .i64 s2] :: Hp.blk gn ENDT #[.int .i64 0, .int .i64 0] :: Hp.blk g NT #[.bool leaf, .slice a1 nk c1, .slice a2 nv c2, .slice a3 nlz c3] :: Hp.ro S :: L))
          clear h7 H
          go_roundw
          case rel =>
            obtain ⟨e1, e2⟩ := HK1.out
            refine ⟨k1, k1, s1, s2, by omega, by go_num, rfl, ?_, .inr ⟨by omega, HS12.out.1, HS12.out.2⟩, H7.out⟩
            rw [HSTK.out, if_pos (.inr hgl)]
          case measure => simp [intOf]; omega
        · have hgi : ¬ (ga : Int) < gb := by omega
          rw [← HAA.out] at HSTK
          clear hga hgb hmx hma hmb z0
          refine wp_region_text [0, 1, 4, 6] (fun w' => w'.rangeAt gz 0 [.int .i64 bl, .int .i64 br] ∧ w'.rangeAt gn 0 [.int .i64 0, .int .i64 0] ∧ w'.rangeAt ge 0 [.int .i64 s1, .int .i64 s2]) (by kernel_rfl) ?_ (fun hS => ?_)
          · exact HC.out _ h.has h.has h.has
          refine wpAnyG_load (i := 0) (oi := ⟨some 38, _, _, _, _, _⟩) (v := (.agg #[.int .i64 bl, .int .i64 br])) rfl (by kernel_rfl) (by kernel_rfl) (by kernel_rfl) (by rfl) (fun _ _ _ h => h) (by rfl) ?_ (by assumption) ?_
          · intro w hS
            exact exec_load_mid ENDT (.tmp 5) rfl gz 0 (by rfl) [.int .i64 bl, .int .i64 br] _ hS.1 Tryd.underlying110 rfl (by kernel_rfl)
          try simp only [Act.put, List.setIfInBounds_toArray, List.set_cons_zero, List.set_cons_succ]
          refine wpAnyG_load (i := 1) (oi := ⟨some 39, _, _, _, _, _⟩) (v := (.agg #[.int .i64 0, .int .i64 0])) rfl (by kernel_rfl) (by kernel_rfl) (by kernel_rfl) (by rfl) (fun _ _ _ h => h) (by rfl) ?_ (by assumption) ?_
          · intro w hS
            exact exec_load_mid ENDT (.tmp 4) rfl gn 0 (by rfl) [.int .i64 0, .int .i64 0] _ hS.2.1 Tryd.underlying110 rfl (by kernel_rfl)
          try simp only [Act.put, List.setIfInBounds_toArray, List.set_cons_zero, List.set_cons_succ]
          refine wpAnyG_pure (i := 2) (oi := ⟨some 40, _, _, _, _, _⟩) (v := (.bool false)) rfl (by kernel_rfl) (by kernel_rfl) (by kernel_rfl) (by rfl) (fun _ _ _ h => h) (by rfl) ?_ ?_
          · intro w
            go_simp
          try simp only [Act.put, List.setIfInBounds_toArray, List.set_cons_zero, List.set_cons_succ]
          refine wpAnyG_pure (i := 3) (oi := ⟨some 41, _, _, _, _, _⟩) (v := ?_) rfl (by kernel_rfl) (by kernel_rfl) (by kernel_rfl) (by rfl) (fun _ _ _ h => h) (by rfl) ?_ ?_
          rotate_left
          · intro w
            go_simp
            first | done | with_reducible rfl
          try simp only [Act.put, List.setIfInBounds_toArray, List.set_cons_zero, List.set_cons_succ]
          refine wpAnyG_load (i := 4) (oi := ⟨some 42, _, _, _, _, _⟩) (v := (.agg #[.int .i64 s1, .int .i64 s2])) rfl (by kernel_rfl) (by kernel_rfl) (by kernel_rfl) (by rfl) (fun _ _ _ h => h) (by rfl) ?_ (by assumption) ?_
          · intro w hS
            exact exec_load_mid ENDT (.tmp 11) rfl ge 0 (by rfl) [.int .i64 s1, .int .i64 s2] _ hS.2.2 Tryd.underlying110 rfl (by kernel_rfl)
          try simp only [Act.put, List.setIfInBounds_toArray, List.set_cons_zero, List.set_cons_succ]
          refine wpAnyG_load (i := 6) (oi := ⟨some 44, _, _, _, _, _⟩) (v := (.agg #[.int .i64 bl, .int .i64 br])) rfl (by kernel_rfl) (by kernel_rfl) (by kernel_rfl) (by rfl) (fun _ _ _ h => h) (by rfl) ?_ (by assumption) ?_
          · intro w hS
            exact exec_load_mid ENDT (.tmp 5) rfl gz 0 (by rfl) [.int .i64 bl, .int .i64 br] _ hS.1 Tryd.underlying110 rfl (by kernel_rfl)
          try simp only [Act.put, List.setIfInBounds_toArray, List.set_cons_zero, List.set_cons_succ]
          refine wpAnyG_keep (i := 5) (oi := ⟨some 43, _, _, _, _, _⟩) (by kernel_rfl) rfl (fun K hK => ?_)
          rw [if_pos (by rfl)]
          go_simp
          refine (greater_any s1 s2 _ h).mono ?_
          rintro e w5 ⟨rfl, h⟩
          rw [HMA.out]
          refine hK.out _ _ ?_ (fun hS => ?_)
          · exact HC.out _ h.has h.has h.has
          clear hK K
          try simp only [Act.put, List.setIfInBounds_toArray, List.set_cons_zero, List.set_cons_succ]
          refine wpAnyG_keep (i := 7) (oi := ⟨some 45, _, _, _, _, _⟩) (by kernel_rfl) rfl (fun K hK => ?_)
          rw [if_pos (by rfl)]
          go_simp
          refine (greater_any bl br _ h).mono ?_
          rintro e w6 ⟨rfl, h⟩
          rw [HMB.out]
          refine hK.out _ _ ?_ (fun hS => ?_)
          · exact HC.out _ h.has h.has h.has
          clear hK K
          try simp only [Act.put, List.setIfInBounds_toArray, List.set_cons_zero, List.set_cons_succ]
          refine wpAnyG_pure (i := 8) (oi := ⟨some 46, _, _, _, _, _⟩) (v := ?_) rfl (by kernel_rfl) (by kernel_rfl) (by kernel_rfl) (by rfl) (fun _ _ _ h => h) (by rfl) ?_ ?_
          rotate_left
          · intro w
            go_simp
            first | done | with_reducible rfl
          try simp only [Act.put, List.setIfInBounds_toArray, List.set_cons_zero, List.set_cons_succ]
          refine wpAnyG_pure (i := 9) (oi := ⟨some 47, _, _, _, _, _⟩) (v := ?_) rfl (by kernel_rfl) (by kernel_rfl) (by kernel_rfl) (by rfl) (fun _ _ _ h => h) (by rfl) ?_ ?_
          rotate_left
          · intro w
            go_simp
            first | done | with_reducible rfl
          try simp only [Act.put, List.setIfInBounds_toArray, List.set_cons_zero, List.set_cons_succ]
          refine wpAnyG_done (by kernel_rfl) ?_ _
          refine NoPanic.normal ?_
          have H := Lib.hid (h.f1.drop : Own E _ (Hp.blk gz ENDT #[.int .i64 bl, .int .i64 br] :: Hp.blk gn ENDT #[.int .i64 0, .int .i64 0] :: Hp.blk g NT #[.bool leaf, .slice a1 nk c1, .slice a2 nv c2, .slice a3 nlz c3] :: Hp.ro S :: L))
          clear h
          go_wp2_with fail
          go_roundw
          case rel =>
            obtain ⟨e1, e2⟩ := HK1.out
            have hb := HBEST.out
            refine ⟨k1, aa, bl, br, by omega, by go_num, rfl, ?_, .inr ⟨by omega, ?_⟩, H.out⟩
            · rw [HSTK.out, if_neg (fun h => h.elim (fun h => by omega) hgl)]
            · rcases hb with ⟨h, _⟩ | ⟨_, h⟩
              · omega
              · exact h
          case measure => simp [intOf]; omega
    · obtain rfl : last = k := by omega
      have hlti : ¬ (last : Int) + 1 ≤ last := by omega
      have hr : aa = cutRun n last := HAA.out
      have H := Lib.hid hw.drop.drop.drop
      clear hw f0 f1 f2 f3 hlt hk HAA HBEST
      subst hr
      go_wp2_with fail
      go_ret
      exact ⟨rfl, H.out⟩
end
end Go.Proofs.YtbclmmneiphcaaaDoor
