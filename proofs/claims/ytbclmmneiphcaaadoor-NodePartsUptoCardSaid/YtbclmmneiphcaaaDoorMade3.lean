/- latchkeylaw10.cellsWeigh, made, below, above. latchkeylaw10.made. -/
import Derived.Test.YtbclmmneiphcaaaDoorMade2
import Derived.Test.YtbclmmneiphcaaaDoorBook1
namespace Go.Proofs.YtbclmmneiphcaaaDoor
open Go.RowKit
theorem Own.shrink {E w : World} {S T : Ph} {L : List Hp} (h : Own E w (Hp.ro T :: L)) (hs : ∀ k o, S k = some o → T k = some o) : Own E w (Hp.ro S :: L) := by
  obtain ⟨h1, h2, h3, _, hx, a, b, hd, rfl, hA, hL⟩ := h
  have hA' : a = T := hA
  subst hA'
  have hne : ∀ k, S k ≠ none → b k = none := fun k hk => by
    cases hsk : S k with
    | none => exact absurd hsk hk
    | some o =>
      rcases hd k with e | e
      · rw [hs k o hsk] at e; cases e
      · exact e
  refine ⟨h1, h2, h3, Ph.join S b, fun k o hk => ?_, S, b, fun k => ?_, rfl, rfl, hL⟩
  · unfold Ph.join at hk
    cases hsk : S k with
    | some o' =>
      rw [hsk] at hk
      simp at hk
      subst hk
      exact hx k _ (Ph.join_some (hs k _ hsk))
    | none =>
      rw [hsk] at hk
      simp at hk
      refine hx k o ?_
      rw [Ph.join_comm hd]
      exact Ph.join_some hk
  · cases hsk : S k with
    | none => exact .inl rfl
    | some o => exact .inr (hne k (by rw [hsk]; simp))
abbrev enCel (c : Cel) : List Value := [.string c.key, .string c.value, .int .i64 c.kid]
/- COUNTING: different texts of a list weigh no more than the list. -/
theorem weigh_sub : ∀ {l m : List ByteArray}, l.Nodup → (∀ a ∈ l, a ∈ m) → sumSz l + l.length ≤ sumSz m + m.length
  | [], _, _, _ => by simp [sumSz]
  | a :: l, m, hn, hs => by
    have h1 := List.nodup_cons.1 hn
    obtain ⟨p, q, rfl⟩ := List.append_of_mem (hs a (List.mem_cons_self ..))
    have h3 := weigh_sub (m := p ++ q) h1.2 fun b hb => by
      have hne : b ≠ a := fun e => h1.1 (e ▸ hb)
      rcases List.mem_append.1 (hs b (List.mem_cons_of_mem _ hb)) with h | h
      · exact List.mem_append.2 (.inl h)
      · rcases List.mem_cons.1 h with h | h
        · exact absurd h hne
        · exact List.mem_append.2 (.inr h)
    have e : sumSz (a :: l) = a.size + sumSz l := by simp [sumSz]
    have e2 : sumSz (a :: q) = a.size + sumSz q := by simp [sumSz]
    rw [sumSz_app, List.length_append] at h3
    rw [e, sumSz_app, e2, List.length_append, List.length_cons, List.length_cons]; omega
/-- The keys of cells of its own. -/
def moreKey (k : Nat) : ByteArray := ⟨#[109, 111, 114, 101, UInt8.ofNat k]⟩
abbrev twenty : ByteArray := ⟨#[116, 119, 101, 110, 116, 121, 32, 98, 121, 116, 101, 115, 32, 111, 114, 32, 115, 111, 32, 46, 46]⟩
def moreCel (k : Nat) : Cel := ⟨moreKey k, twenty, 0⟩
theorem moreKey_inj {i j : Nat} (hi : i < 256) (hj : j < 256) (h : moreKey i = moreKey j) : i = j := by
  unfold moreKey at h
  injection h with h
  have h2 := congrArg (fun a : Array UInt8 => a[4]?) h
  simp only [List.getElem?_toArray, List.getElem?_cons_succ, List.getElem?_cons_zero] at h2
  injection h2 with h2
  have h3 := congrArg UInt8.toNat h2
  rw [UInt8.toNat_ofNat', UInt8.toNat_ofNat'] at h3
  omega
theorem more_nodup (k : Nat) (hk : k ≤ 256) : ((List.range k).map moreKey).Nodup := by
  rw [List.nodup_iff_pairwise_ne, List.pairwise_map]
  refine List.Pairwise.imp_of_mem (fun {a b} ha hb hab => ?_) (List.nodup_iff_pairwise_ne.1 List.nodup_range)
  exact fun e => hab (moreKey_inj (by have := List.mem_range.1 ha; omega) (by have := List.mem_range.1 hb; omega) e)
theorem more_sum (k : Nat) : sumSz ((List.range k).map moreKey) = 5 * k := by
  induction k with
  | zero => rfl
  | succ k ih =>
    rw [List.range_succ, List.map_append, sumSz_app, ih]
    show 5 * k + 5 = _
    omega
/-- So long as cells of its own are put in, there are more to come. -/
theorem more_few {n : Nd} {k : Nat} (hk : k ≤ 256) (hm : ∀ j, j < k → moreKey j ∈ n.ks) (hs : n.sizeW ≤ 1000) : k < 256 := by
  have h1 := weigh_sub (more_nodup k hk) (m := n.ks) fun a ha => by
    obtain ⟨j, hj, rfl⟩ := List.mem_map.1 ha
    exact hm j (List.mem_range.1 hj)
  rw [more_sum, List.length_map, List.length_range] at h1
  unfold Nd.sizeW at hs
  omega
theorem keyB_more (k : Nat) : keyB (moreKey k) = moreKey k := rfl
theorem more_le (n : Nd) (k : Nat) : n.more (moreCel k) ≤ 28 := by
  unfold Nd.more moreCel
  rw [keyB_more]
  show (if n.leaf then 2 + 5 + 21 else 5 + 5) ≤ 28
  split <;> omega
/-- A round of its own: the key is there then. -/
theorem more_in {n : Nd} {leaf : Bool} {most : Nat} (h : MadeOk n leaf most) (k q : Nat) (hq : q < 1000) (hs : n.sizeW + 28 ≤ most) : moreKey k ∈ (n.withC (moreCel k) q most).ks ∧ ∀ s ∈ n.ks, s ∈ (n.withC (moreCel k) q most).ks := by
  have hl := more_le n k
  unfold Nd.withC
  split
  · rename_i hc
    rcases hc with hc | hc
    · refine ⟨?_, fun s hs => hs⟩
      have hc2 : isAt n.ks (plN n.ks (moreKey k)) (moreKey k) = true := hc
      cases hx : n.ks[plN n.ks (moreKey k)]? with
      | none => rw [isAt_none hx] at hc2; cases hc2
      | some x =>
        have := (isAt_some hx).1 hc2
        subst this
        exact List.mem_of_getElem? hx
    · omega
  · rename_i hc
    have h1 : isAt n.ks (plN n.ks (keyB (moreCel k).key)) (keyB (moreCel k).key) = false := by
      cases hh : isAt n.ks (plN n.ks (keyB (moreCel k).key)) (keyB (moreCel k).key)
      · rfl
      · exact absurd (.inl hh) hc
    have h2 := (h.put1 (moreCel k) q hq h1 (by omega)).2.2
    exact ⟨(h2 _).2 (.inl rfl), fun s hs => (h2 s).2 (.inr hs)⟩
section
variable {E : World} {S : Ph} {L : List Hp}
set_option maxRecDepth 100000 in
set_option maxHeartbeats 4000000 in
theorem cellsweigh_any (A : Option Addr) (n c : Nat) (xs : List Cel) (w : World) (hn : n ≤ 1000000000000000000) (hsm : ∀ x ∈ xs, x.key.size ≤ 1000000000000000000 ∧ x.value.size ≤ 1000000000000000000) (hr : Rds S 3 enCel A n xs) (h : Own E w (Hp.ro S :: L)) :
    Calls Tryd.prog 21 #[.slice A n c] w fun e w' => (∃ z : Nat, z ≤ 4294967294 ∧ e = .returned (.int .i64 z)) ∧ Own E w' (Hp.ro S :: L) := by
  have HSM := Lib.hid hsm
  clear hsm
  go_enter Tryd.func21, Tryd.ntmps21
  go_wp2_with fail
  refine (addsup_any 0 n _ (by omega) hn).mono ?_
  rintro e w1 ⟨rfl, z0, hz0, -, rfl⟩
  go_wp2_with fail
  go_loopw [3, 4] (fun a i wr => ∃ k z : Nat, k ≤ n ∧ i = .int .i64 k ∧ a = .int .i64 z ∧ z ≤ 4294967294 ∧ Own E wr (Hp.ro S :: L)) (fun _ i _ => n - (intOf i).toNat)
  case atStart => exact ⟨0, z0, by omega, rfl, rfl, hz0, h⟩
  case round =>
    obtain ⟨k, z, hk, rfl, rfl, hz, hw⟩ := hrel
    clear h
    by_cases hlt : k < n
    · by_cases hb : z ≤ 2147483647
      · have hbi : (z : Int) ≤ 2147483647 := by omega
        obtain ⟨x, b, off, hx, rfl, hc⟩ := hr.get hlt
        have hd := hw.drew
        have c1 := hd.rd (hc 0 _ rfl)
        have c2 := hd.rd (hc 1 _ rfl)
        obtain ⟨hxs1, hxs2⟩ := HSM.out x (List.mem_of_getElem? hx)
        have HX1 := Lib.hid hxs1
        have HX2 := Lib.hid hxs2
        have HD := Lib.hid hd
        have hkn : (k : Int) < n := by omega
        clear hc hx hxs1 hxs2 hw hd
        go_wp2_with fail
        refine wp_region_text [5, 12] (fun w' => w'.cell? ⟨b, off + k * 3, none⟩ = some (.string x.key) ∧ w'.cell? ⟨b, off + k * 3 + 1, none⟩ = some (.string x.value)) (by kernel_rfl) ?_ (fun hS => ?_)
        · exact ⟨c1, c2⟩
        refine wpAnyG_pure (i := 0) (oi := ⟨some 18, _, _, _, _, _⟩) (v := ?_) rfl (by kernel_rfl) (by kernel_rfl) (by kernel_rfl) (by rfl) (fun _ _ _ h => h) (by rfl) ?_ ?_
        rotate_left
        · intro w
          go_simp
          first | done | with_reducible rfl
        try simp only [Act.put, List.setIfInBounds_toArray, List.set_cons_zero, List.set_cons_succ]
        refine wpAnyG_pure (i := 1) (oi := ⟨some 19, _, _, _, _, _⟩) (v := ?_) rfl (by kernel_rfl) (by kernel_rfl) (by kernel_rfl) (by rfl) (fun _ _ _ h => h) (by rfl) ?_ ?_
        rotate_left
        · intro w
          go_simp
          first | done | with_reducible rfl
        try simp only [Act.put, List.setIfInBounds_toArray, List.set_cons_zero, List.set_cons_succ]
        refine wpAnyG_pure (i := 2) (oi := ⟨some 20, _, _, _, _, _⟩) (v := ?_) rfl (by kernel_rfl) (by kernel_rfl) (by kernel_rfl) (by rfl) (fun _ _ _ h => h) (by rfl) ?_ ?_
        rotate_left
        · intro w
          go_simp
          first | done | with_reducible rfl
        try simp only [Act.put, List.setIfInBounds_toArray, List.set_cons_zero, List.set_cons_succ]
        refine wpAnyG_pure (i := 3) (oi := ⟨some 21, _, _, _, _, _⟩) (v := ?_) rfl (by kernel_rfl) (by kernel_rfl) (by kernel_rfl) (by rfl) (fun _ _ _ h => h) (by rfl) ?_ ?_
        rotate_left
        · intro w
          go_simp
          first | done | with_reducible rfl
        try simp only [Act.put, List.setIfInBounds_toArray, List.set_cons_zero, List.set_cons_succ]
        refine wpAnyG_pure (i := 4) (oi := ⟨some 22, _, _, _, _, _⟩) (v := ?_) rfl (by kernel_rfl) (by kernel_rfl) (by kernel_rfl) (by rfl) (fun _ _ _ h => h) (by rfl) ?_ ?_
        rotate_left
        · intro w
          go_simp
          first | done | with_reducible rfl
        try simp only [Act.put, List.setIfInBounds_toArray, List.set_cons_zero, List.set_cons_succ]
        refine wpAnyG_load (i := 5) (oi := ⟨some 23, _, _, _, _, _⟩) (v := ?_) rfl (by kernel_rfl) (by kernel_rfl) (by kernel_rfl) (by rfl) (fun _ _ _ h => h) (by rfl) ?_ (by assumption) ?_
        rotate_left
        · intro w hS
          try dsimp only at hS
          go_simp
          first | done | with_reducible rfl
        try simp only [Act.put, List.setIfInBounds_toArray, List.set_cons_zero, List.set_cons_succ]
        refine wpAnyG_pure (i := 6) (oi := ⟨some 24, _, _, _, _, _⟩) (v := ?_) rfl (by kernel_rfl) (by kernel_rfl) (by kernel_rfl) (by rfl) (fun _ _ _ h => h) (by rfl) ?_ ?_
        rotate_left
        · intro w
          go_simp
          first | done | with_reducible rfl
        try simp only [Act.put, List.setIfInBounds_toArray, List.set_cons_zero, List.set_cons_succ]
        refine wpAnyG_pure (i := 8) (oi := ⟨some 26, _, _, _, _, _⟩) (v := ?_) rfl (by kernel_rfl) (by kernel_rfl) (by kernel_rfl) (by rfl) (fun _ _ _ h => h) (by rfl) ?_ ?_
        rotate_left
        · intro w
          go_simp
          first | done | with_reducible rfl
        try simp only [Act.put, List.setIfInBounds_toArray, List.set_cons_zero, List.set_cons_succ]
        refine wpAnyG_pure (i := 9) (oi := ⟨some 27, _, _, _, _, _⟩) (v := ?_) rfl (by kernel_rfl) (by kernel_rfl) (by kernel_rfl) (by rfl) (fun _ _ _ h => h) (by rfl) ?_ ?_
        rotate_left
        · intro w
          go_simp
          first | done | with_reducible rfl
        try simp only [Act.put, List.setIfInBounds_toArray, List.set_cons_zero, List.set_cons_succ]
        refine wpAnyG_pure (i := 10) (oi := ⟨some 28, _, _, _, _, _⟩) (v := ?_) rfl (by kernel_rfl) (by kernel_rfl) (by kernel_rfl) (by rfl) (fun _ _ _ h => h) (by rfl) ?_ ?_
        rotate_left
        · intro w
          go_simp
          first | done | with_reducible rfl
        try simp only [Act.put, List.setIfInBounds_toArray, List.set_cons_zero, List.set_cons_succ]
        refine wpAnyG_pure (i := 11) (oi := ⟨some 29, _, _, _, _, _⟩) (v := ?_) rfl (by kernel_rfl) (by kernel_rfl) (by kernel_rfl) (by rfl) (fun _ _ _ h => h) (by rfl) ?_ ?_
        rotate_left
        · intro w
          go_simp
          first | done | with_reducible rfl
        try simp only [Act.put, List.setIfInBounds_toArray, List.set_cons_zero, List.set_cons_succ]
        refine wpAnyG_load (i := 12) (oi := ⟨some 30, _, _, _, _, _⟩) (v := ?_) rfl (by kernel_rfl) (by kernel_rfl) (by kernel_rfl) (by rfl) (fun _ _ _ h => h) (by rfl) ?_ (by assumption) ?_
        rotate_left
        · intro w hS
          go_simp; first | done | with_reducible rfl
        try simp only [Act.put, List.setIfInBounds_toArray, List.set_cons_zero, List.set_cons_succ]
        refine wpAnyG_pure (i := 13) (oi := ⟨some 31, _, _, _, _, _⟩) (v := ?_) rfl (by kernel_rfl) (by kernel_rfl) (by kernel_rfl) (by rfl) (fun _ _ _ h => h) (by rfl) ?_ ?_
        rotate_left
        · intro w
          go_simp
          first | done | with_reducible rfl
        try simp only [Act.put, List.setIfInBounds_toArray, List.set_cons_zero, List.set_cons_succ]
        refine wpAnyG_keep (i := 7) (oi := ⟨some 25, _, _, _, _, _⟩) (by kernel_rfl) rfl (fun K hK => ?_)
        rw [if_pos (by rfl)]
        go_simp
        refine (addsup_any z x.key.size _ (by omega) HX1.out).mono ?_
        rintro e w2 ⟨rfl, y, hy0, -, rfl⟩
        refine hK.out _ _ ?_ (fun hS => ?_)
        · assumption
        clear hK K
        try simp only [Act.put, List.setIfInBounds_toArray, List.set_cons_zero, List.set_cons_succ]
        refine wpAnyG_keep (i := 14) (oi := ⟨some 32, _, _, _, _, _⟩) (by kernel_rfl) rfl (fun K hK => ?_)
        rw [if_pos (by rfl)]
        go_simp
        refine (addsup_any y x.value.size _ (by omega) HX2.out).mono ?_
        rintro e w2 ⟨rfl, y2, hy2, -, rfl⟩
        refine hK.out _ _ ?_ (fun hS => ?_)
        · assumption
        clear hK K
        try simp only [Act.put, List.setIfInBounds_toArray, List.set_cons_zero, List.set_cons_succ]
        refine wpAnyG_pure (i := 15) (oi := ⟨some 3, _, _, _, _, _⟩) (v := ?_) rfl (by kernel_rfl) (by kernel_rfl) (by kernel_rfl) (by rfl) (fun _ _ _ h => h) (by rfl) ?_ ?_
        rotate_left
        · intro w
          go_simp
          first | done | with_reducible rfl
        try simp only [Act.put, List.setIfInBounds_toArray, List.set_cons_zero, List.set_cons_succ]
        refine wpAnyG_done (by kernel_rfl) ?_ _
        refine NoPanic.normal ?_
        go_wp2_with fail
        go_roundw
        case rel => exact ⟨k + 1, y2, by omega, by go_num, rfl, hy2, HD.out⟩
        case measure => simp [intOf]; omega
      · have hbi : ¬ (z : Int) ≤ 2147483647 := by omega
        have HW := Lib.hid hw
        clear hw
        go_wp2_with fail
        go_ret
        exact ⟨⟨z, hz, rfl⟩, HW.out⟩
    · have HW := Lib.hid hw
      clear hw
      go_wp2_with fail
      go_ret
      exact ⟨⟨z, hz, rfl⟩, HW.out⟩
end
end Go.Proofs.YtbclmmneiphcaaaDoor
namespace Go.Proofs.YtbclmmneiphcaaaDoor
open Go.RowKit
abbrev Nv.cs (q : Nv) (m : Nd) : List Value := [.bool m.leaf, .slice q.a1 m.ks.length q.c1, .slice q.a2 m.vs.length q.c2, .slice q.a3 m.ls.length q.c3]
/-- A node that is made lies so: what it says, where it is lent. -/
structure Mid (S T : Ph) (q : Nv) (m : Nd) (leaf : Bool) (most : Nat) : Prop where
  sub : ∀ k o, S k = some o → T k = some o
  inn : NdIn T q m
  ok : MadeOk m leaf most
section
variable {E : World} {S : Ph} {L : List Hp}
theorem Own.madeWith {w : World} {T : Ph} {q : Nv} {m m' : Nd} {nv : Value} {leaf : Bool} {most : Nat} {M : List Hp} (hm : Mid S T q m leaf most) (hok : MadeOk m' leaf most) (h : (nv = q.val m ∧ m' = m ∧ Own E w (Hp.ro T :: M)) ∨ Own E w (Hp.node nv m' :: Hp.ro T :: M)) :
    ∃ (T' : Ph) (q' : Nv), nv = q'.val m' ∧ Mid S T' q' m' leaf most ∧ Own E w (Hp.ro T' :: M) := by
  rcases h with ⟨h1, rfl, h3⟩ | h
  · exact ⟨T, q, h1, hm, h3⟩
  · obtain ⟨T', q', s1, e1, i1, h1⟩ := h.lendAny
    exact ⟨T', q', e1, ⟨fun k o hk => s1 k o (hm.sub k o hk), i1, hok⟩, h1⟩
theorem Own.blkRange {w : World} {g : Nat} {t : TypeId} {cs : List Value} (h : Own E w (Hp.blk g t cs.toArray :: L)) : w.rangeAt g 0 cs := h.range 0 cs (fun j u hu => by simpa using hu)
theorem start_t : Nd.start true = ⟨true, [], [], []⟩ := rfl
theorem start_f : Nd.start false = ⟨false, [], [], [2]⟩ := rfl
theorem mid_t {most : Nat} (hm : 40 ≤ most) : Mid S S ⟨none, 0, none, 0, none, 0⟩ (Nd.start true) true most :=
  ⟨fun _ _ h => h, by rw [start_t]; exact ⟨Rds.nil (en := enStr) (fun _ => rfl), Rds.nil (en := enStr) (fun _ => rfl), Rds.nil (en := en64) (fun _ => rfl), by decide, by decide, by decide, by decide, by decide, by decide⟩, MadeOk.start true most (by omega)⟩
theorem mid_f {w : World} {b most : Nat} (hm : 40 ≤ most) (h : Own E w (Hp.blk b IT #[.int .i64 2] :: Hp.ro S :: L)) : ∃ T : Ph, Mid S T ⟨none, 0, none, 0, some ⟨b, 0, none⟩, 1⟩ (Nd.start false) false most ∧ Own E w (Hp.ro T :: L) := by
  have h1 : Own E w (Hp.ints (.slice (some ⟨b, 0, none⟩) 1 1) [2] :: Hp.ro S :: L) := Own.blkLst (cs := [.int .i64 2]) h (by decide)
  have h2 := ((h1.emptyLst ST none).emptyLst ST none)
  have h3 := Own.toNode (n := Nd.start false) h2
  obtain ⟨T, q, s1, e1, i1, h4⟩ := h3.lendAny
  rw [start_f] at e1 i1
  have e2 : q = ⟨none, 0, none, 0, some ⟨b, 0, none⟩, 1⟩ := by
    obtain ⟨a1, c1, a2, c2, a3, c3⟩ := q
    simp only [Nv.val, Value.agg.injEq, Array.mk.injEq, List.cons.injEq, Value.slice.injEq] at e1
    obtain ⟨-, ⟨rfl, -, rfl⟩, ⟨rfl, -, rfl⟩, ⟨rfl, -, rfl⟩, -⟩ := e1
    rfl
  subst e2
  exact ⟨T, ⟨s1, i1, MadeOk.start false most (by omega)⟩, h4⟩
set_option maxRecDepth 100000 in
set_option maxHeartbeats 1000000 in
theorem made_any (leaf : Bool) (A : Option Addr) (n c : Nat) (xs : List Cel) (least most : Nat) (w : World) (hn : n ≤ 1000000000000000000) (hl1 : least + 28 ≤ most) (hl2 : 40 ≤ most) (hl3 : most ≤ 1000)
    (hkd : ∀ x ∈ xs, -9223372036854775808 ≤ x.kid ∧ x.kid ≤ 9223372036854775807) (hr : Rds S 3 enCel A n xs) (h : Own E w (Hp.ro S :: L)) :
    Calls Tryd.prog 23 #[.bool leaf, .slice A n c, .int .i64 least, .int .i64 most] w fun e w' => ∃ (T : Ph) (q : Nv) (m : Nd), e = .returned (q.val m) ∧ Mid S T q m leaf most ∧ m.ks ≠ [] ∧ least ≤ m.sizeW ∧ Own E w' (Hp.ro T :: L) := by
  have h1 : Own E _ (Hp.blk (w.heap.size + 1) NT #[.bool leaf, .slice none 0 0, .slice none 0 0, .slice none 0 0] :: Hp.blk w.heap.size NT #[.bool false, .slice none 0 0, .slice none 0 0, .slice none 0 0] :: Hp.ro S :: L) := h.alloc2 _ _
  obtain ⟨g, hg⟩ : ∃ g, g = w.heap.size := ⟨_, rfl⟩
  rw [← hg] at h1
  have HKD := Lib.hid hkd
  have H := Lib.hid h1
  clear h h1 hkd
  obtain ⟨nt, hnt, hnr⟩ := nt_u
  go_enter Tryd.func23, Tryd.ntmps23
  go_upto_if 15 with fail
  rw [← hg]
  clear hg
  go_cut [] from 10 (fun w' => ∃ (T : Ph) (q : Nv), Mid S T q (Nd.start leaf) leaf most ∧ Own E w' (Hp.blk (g + 1) NT (q.cs (Nd.start leaf)).toArray :: Hp.blk g NT #[.bool false, .slice none 0 0, .slice none 0 0, .slice none 0 0] :: Hp.ro T :: L))
  case first =>
    cases leaf with
    | true =>
      have h := H.out
      clear H
      generalize World.alloc _ _ = wa at h ⊢
      go_wp2_with fail
      go_meet
      case rel => exact ⟨S, _, mid_t hl2, h⟩
    | false =>
      have h := H.out
      clear H
      generalize World.alloc _ _ = wa at h ⊢
      have h := h.alloc (.cells #[.int .i64 2] IT)
      have hh := h.f1
      have f3 := hh.frozen 3
      have c3 := hh.cell 3
      have hs := hh.set 3 (.slice (some ⟨wa.heap.size, 0, none⟩) 1 1)
      have HS := Lib.hid hs
      clear h hh hs
      go_wp2_with fail
      go_meet
      case rel =>
        have h := HS.out
        first | have h := (h : Own _ _ (Hp.ro S :: _)) | have h := (h.f1 : Own _ _ (Hp.ro S :: _)) | have h := (h.f2 : Own _ _ (Hp.ro S :: _)) | have h := (h.f3 : Own _ _ (Hp.ro S :: _)) | have h := (h.f4 : Own _ _ (Hp.ro S :: _)) | have h := (h.f5 : Own _ _ (Hp.ro S :: _)) | have h := (h.f6 : Own _ _ (Hp.ro S :: _)) | have h := (h.f7 : Own _ _ (Hp.ro S :: _)) | have h := (h.f8 : Own _ _ (Hp.ro S :: _)) | have h := (h.f9 : Own _ _ (Hp.ro S :: _)) | have h := (h.f10 : Own _ _ (Hp.ro S :: _)) | have h := (h.f11 : Own _ _ (Hp.ro S :: _)) | have h := (h.f12 : Own _ _ (Hp.ro S :: _)) | have h := (h.f13 : Own _ _ (Hp.ro S :: _)) | have h := (h.f14 : Own _ _ (Hp.ro S :: _)) | have h := (h.f15 : Own _ _ (Hp.ro S :: _))
        first | have h := (h : Own _ _ (Hp.blk wa.heap.size IT _ :: _)) | have h := (h.f1 : Own _ _ (Hp.blk wa.heap.size IT _ :: _)) | have h := (h.f2 : Own _ _ (Hp.blk wa.heap.size IT _ :: _)) | have h := (h.f3 : Own _ _ (Hp.blk wa.heap.size IT _ :: _)) | have h := (h.f4 : Own _ _ (Hp.blk wa.heap.size IT _ :: _)) | have h := (h.f5 : Own _ _ (Hp.blk wa.heap.size IT _ :: _)) | have h := (h.f6 : Own _ _ (Hp.blk wa.heap.size IT _ :: _)) | have h := (h.f7 : Own _ _ (Hp.blk wa.heap.size IT _ :: _)) | have h := (h.f8 : Own _ _ (Hp.blk wa.heap.size IT _ :: _)) | have h := (h.f9 : Own _ _ (Hp.blk wa.heap.size IT _ :: _)) | have h := (h.f10 : Own _ _ (Hp.blk wa.heap.size IT _ :: _)) | have h := (h.f11 : Own _ _ (Hp.blk wa.heap.size IT _ :: _)) | have h := (h.f12 : Own _ _ (Hp.blk wa.heap.size IT _ :: _)) | have h := (h.f13 : Own _ _ (Hp.blk wa.heap.size IT _ :: _)) | have h := (h.f14 : Own _ _ (Hp.blk wa.heap.size IT _ :: _)) | have h := (h.f15 : Own _ _ (Hp.blk wa.heap.size IT _ :: _))
        obtain ⟨T, hm, h⟩ := mid_f hl2 h
        exact ⟨T, _, hm, h.ac (by simp only [Hp.all] <;> ac_rfl)⟩
  clear H
  obtain ⟨T, q, hm, h⟩ := hcut
  have HM := Lib.hid hm
  have H := Lib.hid h
  clear h hm
  go_wp2_with fail
  go_loopw [10] (fun i wr => ∃ (k : Nat) (T : Ph) (q : Nv) (m : Nd), k ≤ n ∧ i = .int .i64 k ∧ Mid S T q m leaf most ∧ Own E wr (Hp.blk (g + 1) NT (q.cs m).toArray :: Hp.blk g NT #[.bool false, .slice none 0 0, .slice none 0 0, .slice none 0 0] :: Hp.ro T :: L)) (fun i _ => n - (intOf i).toNat)
  case atStart => exact ⟨0, T, q, Nd.start leaf, by omega, rfl, HM.out, H.out⟩
  case round =>
    clear HM H
    obtain ⟨k, T, q, m, hk, rfl, hm, hw⟩ := hrel
    by_cases hlt : k < n
    · obtain ⟨x, b, off, hx, rfl, hc⟩ := hr.get hlt
      have hkid := HKD.out x (List.mem_of_getElem? hx)
      have hrc : wr.drew.rangeAt b (off + k * 3) (enCel x) := fun j u hu => (hw.f2.rd (Ph.cell_sub hm.sub (hc j u hu)) : _)
      have hrn := hw.drew.blkRange
      have kw := fun M w hw => with_any (E := E) (S := T) (L := M) q m x.key x.value x.kid most w hkid (by have := hm.ok.few; omega) (fun hl => (hm.ok.lform (by rw [← hm.ok.lf]; exact hl)).1) hm.inn hw
      have KW := Lib.hid kw
      have HM := Lib.hid hm
      have hw := hw.drew
      have hkn : (k : Int) < n := by omega
      clear hx hc hkid hm kw
      go_wp2_with fail
      refine wp_region_text [0, 4] (fun w' => w'.rangeAt (g + 1) 0 (q.cs m) ∧ w'.rangeAt b (off + k * 3) (enCel x)) (by kernel_rfl) ?_ (fun hS => ?_)
      · exact ⟨hrn, hrc⟩
      refine wpAnyG_load (i := 0) (oi := ⟨some 24, _, _, _, _, _⟩) (v := (.agg #[.bool m.leaf, .slice q.a1 m.ks.length q.c1, .slice q.a2 m.vs.length q.c2, .slice q.a3 m.ls.length q.c3])) rfl (by kernel_rfl) (by kernel_rfl) (by kernel_rfl) (by rfl) (fun _ _ _ h => h) (by rfl) ?_ (by assumption) ?_
      · intro w hS
        exact exec_load_mid NT (.tmp 9) rfl (g + 1) 0 (by rfl) (q.cs m) _ hS.1 Tryd.underlying25 rfl (by kernel_rfl)
      try simp only [Act.put, List.setIfInBounds_toArray, List.set_cons_zero, List.set_cons_succ]
      refine wpAnyG_pure (i := 1) (oi := ⟨some 25, _, _, _, _, _⟩) (v := ?_) rfl (by kernel_rfl) (by kernel_rfl) (by kernel_rfl) (by rfl) (fun _ _ _ h => h) (by rfl) ?_ ?_
      rotate_left
      · intro w
        go_simp
        first | done | with_reducible rfl
      try simp only [Act.put, List.setIfInBounds_toArray, List.set_cons_zero, List.set_cons_succ]
      refine wpAnyG_pure (i := 2) (oi := ⟨some 26, _, _, _, _, _⟩) (v := ?_) rfl (by kernel_rfl) (by kernel_rfl) (by kernel_rfl) (by rfl) (fun _ _ _ h => h) (by rfl) ?_ ?_
      rotate_left
      · intro w
        go_simp
        first | done | with_reducible rfl
      try simp only [Act.put, List.setIfInBounds_toArray, List.set_cons_zero, List.set_cons_succ]
      refine wpAnyG_pure (i := 3) (oi := ⟨some 27, _, _, _, _, _⟩) (v := ?_) rfl (by kernel_rfl) (by kernel_rfl) (by kernel_rfl) (by rfl) (fun _ _ _ h => h) (by rfl) ?_ ?_
      rotate_left
      · intro w
        go_simp
        first | done | with_reducible rfl
      try simp only [Act.put, List.setIfInBounds_toArray, List.set_cons_zero, List.set_cons_succ]
      refine wpAnyG_load (i := 4) (oi := ⟨some 28, _, _, _, _, _⟩) (v := (.agg #[.string x.key, .string x.value, .int .i64 x.kid])) rfl (by kernel_rfl) (by kernel_rfl) (by kernel_rfl) (by rfl) (fun _ _ _ h => h) (by rfl) ?_ (by assumption) ?_
      · intro w hS
        exact exec_load_mid CLT (.tmp 27) rfl b (off + k * 3) (by rfl) (enCel x) _ hS.2 Tryd.underlying74 rfl (by kernel_rfl)
      try simp only [Act.put, List.setIfInBounds_toArray, List.set_cons_zero, List.set_cons_succ]
      refine wpAnyG_pure (i := 5) (oi := ⟨some 29, _, _, _, _, _⟩) (v := ?_) rfl (by kernel_rfl) (by kernel_rfl) (by kernel_rfl) (by rfl) (fun _ _ _ h => h) (by rfl) ?_ ?_
      rotate_left
      · intro w
        go_simp
        first | done | with_reducible rfl
      try simp only [Act.put, List.setIfInBounds_toArray, List.set_cons_zero, List.set_cons_succ]
      refine wpAnyG_break (i := 6) (oi := ⟨some 30, _, _, _, _, _⟩) (by kernel_rfl) rfl (by kernel_rfl) (fun K hK => ?_)
      rw [if_pos (by rfl)]
      go_simp
      refine (KW.out _ _ hw.f2).mono ?_
      rintro e w1 ⟨qq, hqq, nv, rfl, hor⟩
      obtain ⟨T2, q2, rfl, hm2, h⟩ := Own.madeWith HM.out (HM.out.ok.with ⟨x.key, x.value, x.kid⟩ qq hqq) hor
      generalize m.withC ⟨x.key, x.value, x.kid⟩ qq most = m2 at *
      have h := h.f1
      refine hK.out _ _ ?_
      clear hK K
      try simp only [Act.put, List.setIfInBounds_toArray, List.set_cons_zero, List.set_cons_succ]
      refine wpAnyG_break (i := 7) (oi := ⟨none, _, _, _, _, _⟩) (by kernel_rfl) rfl (by kernel_rfl) (fun K hK => ?_)
      rw [if_pos (by rfl)]
      refine wp_store_whole (cs := q.cs m) (vs := q2.cs m2) h rfl (ND_all1 _ _ _ _ rfl rfl rfl) (by kernel_rfl) rfl rfl rfl (fun w9 h => ?_)
      refine hK.out _ _ ?_
      clear hK K
      try simp only [Act.put]
      refine wpAnyG_done (by kernel_rfl) ?_ _
      refine NoPanic.normal ?_
      have HM2 := Lib.hid hm2
      have H2 := Lib.hid h
      clear h hw hm2 hor HM KW hrn hrc
      go_wp2_with fail
      go_roundw
      case rel => exact ⟨k + 1, T2, q2, m2, by omega, by go_num, HM2.out, H2.out.f2.b1⟩
      case measure => simp [intOf]; omega
    · obtain rfl : k = n := by omega
      have HM := Lib.hid hm
      have HW := Lib.hid hw
      clear hm hw hr HKD hlt
      go_wp2_with fail
      go_loopw [11] (fun i wr => ∃ (k : Nat) (T : Ph) (q : Nv) (m : Nd), k ≤ 256 ∧ i = .int .i64 k ∧ (∀ j, j < k → moreKey j ∈ m.ks) ∧ Mid S T q m leaf most ∧ Own E wr (Hp.blk (g + 1) NT (q.cs m).toArray :: Hp.blk g NT #[.bool false, .slice none 0 0, .slice none 0 0, .slice none 0 0] :: Hp.ro T :: L)) (fun i _ => 256 - (intOf i).toNat)
      case atStart => exact ⟨0, T, q, m, by omega, rfl, fun j hj => by omega, HM.out, HW.out⟩
      case round =>
        clear HM HW
        obtain ⟨k2, T, q, m, hk, rfl, hks, hm, hw⟩ := hrel
        have hk2 : k2 < 256 := more_few hk hks (by have := hm.ok.sz; omega)
        have ksz := fun M w hw => lsize_any (E := E) (S := T) (L := M) q m w (by have := hm.ok.few; omega) hm.inn hw
        have kw := fun M w k hw => with_any (E := E) (S := T) (L := M) q m (moreKey k) twenty 0 most w (by omega) (by have := hm.ok.few; omega) (fun hl => (hm.ok.lform (by rw [← hm.ok.lf]; exact hl)).1) hm.inn hw
        have hsz := hm.ok.sz
        have hcell : ∀ w', (∃ L', Own E w' (Hp.blk (g + 1) NT (q.cs m).toArray :: L')) → w'.cell? ⟨g + 1, 0, none⟩ = some (.bool m.leaf) ∧ w'.cell? ⟨g + 1, 1, none⟩ = some (.slice q.a1 m.ks.length q.c1) ∧ w'.cell? ⟨g + 1, 2, none⟩ = some (.slice q.a2 m.vs.length q.c2) ∧ w'.cell? ⟨g + 1, 3, none⟩ = some (.slice q.a3 m.ls.length q.c3) := fun w' hw => by
          obtain ⟨_, hw⟩ := hw
          exact ⟨hw.cell 0, hw.cell 1, hw.cell 2, hw.cell 3⟩
        have HC := Lib.hid hcell
        have KW := Lib.hid kw
        have KZ := Lib.hid ksz
        have HM := Lib.hid hm
        have HKS := Lib.hid hks
        have HW := Lib.hid hw
        obtain ⟨c0, c1, c2, c3⟩ := HC.out _ ⟨_, hw⟩
        clear hks hm hw ksz kw hcell
        go_wp2_with fail
        refine (KZ.out _ _ HW.out.f2).mono ?_
        rintro e w1 ⟨rfl, h⟩
        clear c0 c1 c2 c3 HW
        obtain ⟨c0, c1, c2, c3⟩ := HC.out _ ⟨_, h.f1⟩
        have H := Lib.hid h
        clear h
        have hgo : (m.sizeW < least ∨ (¬ m.sizeW < least ∧ m.ks.length = 0)) ∨ (¬ m.sizeW < least ∧ ¬ m.ks.length = 0) := by omega
        obtain ⟨cb, hcb⟩ : ∃ x, x = UInt8.ofNat k2 := ⟨_, rfl⟩
        have e1 : IntKind.u8.wrap (k2 : Int) = (cb.toNat : Int) := by
          rw [hcb, UInt8.toNat_ofNat']; simp [IntKind.wrap, IntKind.signed, IntKind.bits]
        have e3 : (⟨#[109, 111, 114, 101]⟩ : ByteArray) ++ (⟨[cb].toArray⟩ : ByteArray) = moreKey k2 := by
          apply ByteArray.ext
          rw [ByteArray.data_append, hcb]; rfl
        clear hcb
        have E3 := Lib.hid e3
        obtain ⟨sz, hsze⟩ : ∃ x, x = m.sizeW := ⟨_, rfl⟩
        rw [← hsze] at hgo hsz
        have HSZ := Lib.hid hsze
        try rw [← hsze]
        clear hsze e3
        rcases hgo with hgo | ⟨hge, hne⟩
        · have h2 := H.out.alloc (.cells #[.int .u8 cb.toNat] U8)
          have hrd : RdC (w1.alloc (.cells #[.int .u8 cb.toNat] U8)) (some ⟨w1.heap.size, 0, none⟩) ([cb].map V8') := RdC.of_block h2.at_ _ (fun j u hu => by simpa [V8'] using hu)
          have hcv := sl_to_string (P := Tryd.prog) (src := BT) (dst := ST) (e := U8) (by kernel_rfl) (by kernel_rfl) (by kernel_rfl) (some ⟨w1.heap.size, 0, none⟩) [cb] 1 1 rfl hrd
          have H2 := Lib.hid h2.drop
          have hfit : m.sizeW + 28 ≤ most := by
            rcases hgo with h | ⟨h1, h2⟩
            · rw [← HSZ.out]; omega
            · have hko : m.ks = [] := List.eq_nil_of_length_eq_zero h2
              unfold Nd.sizeW
              rw [hko]
              cases hlf : leaf with
              | true => rw [hlf] at HM; obtain ⟨e1, e2, -⟩ := HM.out.ok.lform rfl; rw [hko] at e1; rw [e2, List.eq_nil_of_length_eq_zero e1]; simp [sumSz]; omega
              | false => rw [hlf] at HM; obtain ⟨e1, e2, -⟩ := HM.out.ok.iform rfl; rw [hko] at e2; rw [e2, e1]; simp [sumSz]; omega
          have HF := Lib.hid hfit
          clear h2 hrd hfit
          rcases hgo with hgo | ⟨hge, hne⟩
          · have hgi : (sz : Int) < least := by omega
            go_wp2_with (with_reducible refine at_slot (k := some 47) ?_; refine wpList_conv_run (o := ⟨some 47, _, _, _, _, _⟩) hcv rfl rfl rfl ?_; clear hcv)
            rw [E3.out]
            with_reducible refine (KW.out _ _ k2 H2.out).mono ?_
            rintro e w2 ⟨qq, hqq, nv, rfl, hor⟩
            have hmk := more_in HM.out.ok k2 qq hqq HF.out
            obtain ⟨T2, q2, rfl, hm2, h⟩ := Own.madeWith HM.out (HM.out.ok.with (moreCel k2) qq hqq) hor
            have hks2 : ∀ j, j < k2 + 1 → moreKey j ∈ (m.withC (moreCel k2) qq most).ks := fun j hj => by
              rcases Nat.lt_or_ge j k2 with hj2 | hj2
              · exact hmk.2 _ (HKS.out j hj2)
              · obtain rfl : j = k2 := by omega
                exact hmk.1
            generalize m.withC (moreCel k2) qq most = m2 at *
            have HKS2 := Lib.hid hks2
            have HM2 := Lib.hid hm2
            have HH := Lib.hid h.f1
            clear hks2 hmk hm2 h hor c0 c1 c2 c3 H H2
            go_wp2_with (with_reducible refine at_slot (k := none) ?_; refine wpList_store_whole (o := ⟨none, _, _, _, _, _⟩) (cs := q.cs m) (vs := q2.cs m2) HH.out rfl (ND_all1 _ _ _ _ rfl rfl rfl) (by kernel_rfl) rfl rfl rfl rfl ?_; intro w7 h)
            have H7 := Lib.hid h
            clear h HH
            go_roundw
            case rel => exact ⟨k2 + 1, T2, q2, m2, by omega, by go_num, HKS2.out, HM2.out, H7.out.f2.b1⟩
            case measure => simp [intOf]; omega
          · have hgi : ¬ (sz : Int) < least := by omega
            have hbz : ((m.ks.length : Int) == 0) = true := by rw [beq_iff_eq]; omega
            clear hne
            go_wp2_with (with_reducible refine at_slot (k := some 47) ?_; refine wpList_conv_run (o := ⟨some 47, _, _, _, _, _⟩) hcv rfl rfl rfl ?_; clear hcv)
            rw [E3.out]
            with_reducible refine (KW.out _ _ k2 H2.out).mono ?_
            rintro e w2 ⟨qq, hqq, nv, rfl, hor⟩
            have hmk := more_in HM.out.ok k2 qq hqq HF.out
            obtain ⟨T2, q2, rfl, hm2, h⟩ := Own.madeWith HM.out (HM.out.ok.with (moreCel k2) qq hqq) hor
            have hks2 : ∀ j, j < k2 + 1 → moreKey j ∈ (m.withC (moreCel k2) qq most).ks := fun j hj => by
              rcases Nat.lt_or_ge j k2 with hj2 | hj2
              · exact hmk.2 _ (HKS.out j hj2)
              · obtain rfl : j = k2 := by omega
                exact hmk.1
            generalize m.withC (moreCel k2) qq most = m2 at *
            have HKS2 := Lib.hid hks2
            have HM2 := Lib.hid hm2
            have HH := Lib.hid h.f1
            clear hks2 hmk hm2 h hor c0 c1 c2 c3 H H2
            go_wp2_with (with_reducible refine at_slot (k := none) ?_; refine wpList_store_whole (o := ⟨none, _, _, _, _, _⟩) (cs := q.cs m) (vs := q2.cs m2) HH.out rfl (ND_all1 _ _ _ _ rfl rfl rfl) (by kernel_rfl) rfl rfl rfl rfl ?_; intro w7 h)
            have H7 := Lib.hid h
            clear h HH
            go_roundw
            case rel => exact ⟨k2 + 1, T2, q2, m2, by omega, by go_num, HKS2.out, HM2.out, H7.out.f2.b1⟩
            case measure => simp [intOf]; omega
        · have hgi : ¬ (sz : Int) < least := by omega
          have hni2 : ((m.ks.length : Int) == 0) = false := by rw [beq_eq_false_iff_ne]; omega
          have h := H.out
          clear KW KZ H
          have HH := Lib.hid h.f2
          clear h
          go_wp2_with (with_reducible refine at_slot (k := none) ?_; refine wpList_store_whole (o := ⟨none, _, _, _, _, _⟩) (cs := [.bool false, .slice none 0 0, .slice none 0 0, .slice none 0 0]) (vs := q.cs m) HH.out rfl (ND_all1 _ _ _ _ rfl rfl rfl) (by kernel_rfl) rfl rfl rfl rfl ?_; intro w7 h)
          refine bodyPost_ret (results_arr rfl rfl h hnt hnr (by kernel_rfl)) rfl ?_
          refine ⟨T, q, m, rfl, HM.out, fun e => hne (by rw [e]; rfl), by rw [← HSZ.out]; omega, ?_⟩
          have h := h.drop
          first | have h := (h : Own _ _ (Hp.ro T :: _)) | have h := (h.f1 : Own _ _ (Hp.ro T :: _)) | have h := (h.f2 : Own _ _ (Hp.ro T :: _)) | have h := (h.f3 : Own _ _ (Hp.ro T :: _)) | have h := (h.f4 : Own _ _ (Hp.ro T :: _)) | have h := (h.f5 : Own _ _ (Hp.ro T :: _)) | have h := (h.f6 : Own _ _ (Hp.ro T :: _)) | have h := (h.f7 : Own _ _ (Hp.ro T :: _)) | have h := (h.f8 : Own _ _ (Hp.ro T :: _)) | have h := (h.f9 : Own _ _ (Hp.ro T :: _)) | have h := (h.f10 : Own _ _ (Hp.ro T :: _)) | have h := (h.f11 : Own _ _ (Hp.ro T :: _)) | have h := (h.f12 : Own _ _ (Hp.ro T :: _)) | have h := (h.f13 : Own _ _ (Hp.ro T :: _)) | have h := (h.f14 : Own _ _ (Hp.ro T :: _)) | have h := (h.f15 : Own _ _ (Hp.ro T :: _))
          exact h.f1.drop
end
end Go.Proofs.YtbclmmneiphcaaaDoor
