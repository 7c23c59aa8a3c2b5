/- latchkeylaw10.cellsWeigh, made, below, above. -/
import Derived.Test.YtbclmmneiphcaaaDoorMade2
namespace Go.Proofs.YtbclmmneiphcaaaDoor
open Go.RowKit
theorem Own.shrink {E w : World} {S T : Ph} {L : List Hp} (h : Own E w (Hp.ro T :: L)) (hs : ∀ k o, S k = some o → T k = some o) : Own E w (Hp.ro S :: L) := by
  obtain ⟨h1, h2, h3, _, hx, a, b, hd, rfl, hA, hL⟩ := h
  have hA' : a = T := hA
  subst hA'
  have hne : ∀ k, S k ≠ none → b k = none := fun k hk => by
    cases hsk : S k with
    | none => exact absurd hsk hk
    | some o =>
      rcases hd k with e | e
      · rw [hs k o hsk] at e; cases e
      · exact e
  refine ⟨h1, h2, h3, Ph.join S b, fun k o hk => ?_, S, b, fun k => ?_, rfl, rfl, hL⟩
  · unfold Ph.join at hk
    cases hsk : S k with
    | some o' =>
      rw [hsk] at hk
      simp at hk
      subst hk
      exact hx k _ (Ph.join_some (hs k _ hsk))
    | none =>
      rw [hsk] at hk
      simp at hk
      refine hx k o ?_
      rw [Ph.join_comm hd]
      exact Ph.join_some hk
  · cases hsk : S k with
    | none => exact .inl rfl
    | some o => exact .inr (hne k (by rw [hsk]; simp))
abbrev enCel (c : Cel) : List Value := [.string c.key, .string c.value, .int .i64 c.kid]
/- COUNTING: different texts of a list weigh no more than the list. -/
theorem weigh_sub : ∀ {l m : List ByteArray}, l.Nodup → (∀ a ∈ l, a ∈ m) → sumSz l + l.length ≤ sumSz m + m.length
  | [], _, _, _ => by simp [sumSz]
  | a :: l, m, hn, hs => by
    have h1 := List.nodup_cons.1 hn
    obtain ⟨p, q, rfl⟩ := List.append_of_mem (hs a (List.mem_cons_self ..))
    have h3 := weigh_sub (m := p ++ q) h1.2 fun b hb => by
      have hne : b ≠ a := fun e => h1.1 (e ▸ hb)
      rcases List.mem_append.1 (hs b (List.mem_cons_of_mem _ hb)) with h | h
      · exact List.mem_append.2 (.inl h)
      · rcases List.mem_cons.1 h with h | h
        · exact absurd h hne
        · exact List.mem_append.2 (.inr h)
    have e : sumSz (a :: l) = a.size + sumSz l := by simp [sumSz]
    have e2 : sumSz (a :: q) = a.size + sumSz q := by simp [sumSz]
    rw [sumSz_app, List.length_append] at h3
    rw [e, sumSz_app, e2, List.length_append, List.length_cons, List.length_cons]; omega
/-- The keys of cells of its own. -/
def moreKey (k : Nat) : ByteArray := ⟨#[109, 111, 114, 101, UInt8.ofNat k]⟩
abbrev twenty : ByteArray := ⟨#[116, 119, 101, 110, 116, 121, 32, 98, 121, 116, 101, 115, 32, 111, 114, 32, 115, 111, 32, 46, 46]⟩
def moreCel (k : Nat) : Cel := ⟨moreKey k, twenty, 0⟩
theorem moreKey_inj {i j : Nat} (hi : i < 256) (hj : j < 256) (h : moreKey i = moreKey j) : i = j := by
  unfold moreKey at h
  injection h with h
  have h2 := congrArg (fun a : Array UInt8 => a[4]?) h
  simp only [List.getElem?_toArray, List.getElem?_cons_succ, List.getElem?_cons_zero] at h2
  injection h2 with h2
  have h3 := congrArg UInt8.toNat h2
  rw [UInt8.toNat_ofNat', UInt8.toNat_ofNat'] at h3
  omega
theorem more_nodup (k : Nat) (hk : k ≤ 256) : ((List.range k).map moreKey).Nodup := by
  rw [List.nodup_iff_pairwise_ne, List.pairwise_map]
  refine List.Pairwise.imp_of_mem (fun {a b} ha hb hab => ?_) (List.nodup_iff_pairwise_ne.1 List.nodup_range)
  exact fun e => hab (moreKey_inj (by have := List.mem_range.1 ha; omega) (by have := List.mem_range.1 hb; omega) e)
theorem more_sum (k : Nat) : sumSz ((List.range k).map moreKey) = 5 * k := by
  induction k with
  | zero => rfl
  | succ k ih =>
    rw [List.range_succ, List.map_append, sumSz_app, ih]
    show 5 * k + 5 = _
    omega
/-- So long as cells of its own are put in, there are more to come. -/
theorem more_few {n : Nd} {k : Nat} (hk : k ≤ 256) (hm : ∀ j, j < k → moreKey j ∈ n.ks) (hs : n.sizeW ≤ 1000) : k < 256 := by
  have h1 := weigh_sub (more_nodup k hk) (m := n.ks) fun a ha => by
    obtain ⟨j, hj, rfl⟩ := List.mem_map.1 ha
    exact hm j (List.mem_range.1 hj)
  rw [more_sum, List.length_map, List.length_range] at h1
  unfold Nd.sizeW at hs
  omega
theorem keyB_more (k : Nat) : keyB (moreKey k) = moreKey k := rfl
theorem more_le (n : Nd) (k : Nat) : n.more (moreCel k) ≤ 28 := by
  unfold Nd.more moreCel
  rw [keyB_more]
  show (if n.leaf then 2 + 5 + 21 else 5 + 5) ≤ 28
  split <;> omega
/-- A round of its own: the key is there then. -/
theorem more_in {n : Nd} {leaf : Bool} {most : Nat} (h : MadeOk n leaf most) (k q : Nat) (hq : q < 1000) (hs : n.sizeW + 28 ≤ most) : moreKey k ∈ (n.withC (moreCel k) q most).ks ∧ ∀ s ∈ n.ks, s ∈ (n.withC (moreCel k) q most).ks := by
  have hl := more_le n k
  unfold Nd.withC
  split
  · rename_i hc
    rcases hc with hc | hc
    · refine ⟨?_, fun s hs => hs⟩
      have hc2 : isAt n.ks (plN n.ks (moreKey k)) (moreKey k) = true := hc
      cases hx : n.ks[plN n.ks (moreKey k)]? with
      | none => rw [isAt_none hx] at hc2; cases hc2
      | some x =>
        have := (isAt_some hx).1 hc2
        subst this
        exact List.mem_of_getElem? hx
    · omega
  · rename_i hc
    have h1 : isAt n.ks (plN n.ks (keyB (moreCel k).key)) (keyB (moreCel k).key) = false := by
      cases hh : isAt n.ks (plN n.ks (keyB (moreCel k).key)) (keyB (moreCel k).key)
      · rfl
      · exact absurd (.inl hh) hc
    have h2 := (h.put1 (moreCel k) q hq h1 (by omega)).2.2
    exact ⟨(h2 _).2 (.inl rfl), fun s hs => (h2 s).2 (.inr hs)⟩
section
variable {E : World} {S : Ph} {L : List Hp}
set_option maxRecDepth 100000 in
set_option maxHeartbeats 4000000 in
theorem cellsweigh_any (A : Option Addr) (n c : Nat) (xs : List Cel) (w : World) (hn : n ≤ 1000000000000000000) (hsm : ∀ x ∈ xs, x.key.size ≤ 1000000000000000000 ∧ x.value.size ≤ 1000000000000000000) (hr : Rds S 3 enCel A n xs) (h : Own E w (Hp.ro S :: L)) :
    Calls Tryd.prog 21 #[.slice A n c] w fun e w' => (∃ z : Nat, z ≤ 4294967294 ∧ e = .returned (.int .i64 z)) ∧ Own E w' (Hp.ro S :: L) := by
  have HSM := Lib.hid hsm
  clear hsm
  go_enter Tryd.func21, Tryd.ntmps21
  go_wp2_with fail
  refine (addsup_any 0 n _ (by omega) hn).mono ?_
  rintro e w1 ⟨rfl, z0, hz0, -, rfl⟩
  go_wp2_with fail
  go_loopw [3, 4] (fun a i wr => ∃ k z : Nat, k ≤ n ∧ i = .int .i64 k ∧ a = .int .i64 z ∧ z ≤ 4294967294 ∧ Own E wr (Hp.ro S :: L)) (fun _ i _ => n - (intOf i).toNat)
  case atStart => exact ⟨0, z0, by omega, rfl, rfl, hz0, h⟩
  case round =>
    obtain ⟨k, z, hk, rfl, rfl, hz, hw⟩ := hrel
    clear h
    by_cases hlt : k < n
    · by_cases hb : z ≤ 2147483647
      · have hbi : (z : Int) ≤ 2147483647 := by omega
        obtain ⟨x, b, off, hx, rfl, hc⟩ := hr.get hlt
        have hd := hw.drew
        have c1 := hd.rd (hc 0 _ rfl)
        have c2 := hd.rd (hc 1 _ rfl)
        obtain ⟨hxs1, hxs2⟩ := HSM.out x (List.mem_of_getElem? hx)
        have HX1 := Lib.hid hxs1
        have HX2 := Lib.hid hxs2
        have HD := Lib.hid hd
        have hkn : (k : Int) < n := by omega
        clear hc hx hxs1 hxs2 hw hd
        go_wp2_with fail
        refine wp_region_text [5, 12] (fun w' => w'.cell? ⟨b, off + k * 3, none⟩ = some (.string x.key) ∧ w'.cell? ⟨b, off + k * 3 + 1, none⟩ = some (.string x.value)) (by kernel_rfl) ?_ (fun hS => ?_)
        · exact ⟨c1, c2⟩
        refine wpAnyG_pure (i := 0) (oi := ⟨some 18, _, _, _, _, _⟩) (v := ?_) rfl (by kernel_rfl) (by kernel_rfl) (by kernel_rfl) (by rfl) (fun _ _ _ h => h) (by rfl) ?_ ?_
        rotate_left
        · intro w
          go_simp
          first | done | with_reducible rfl
        try simp only [Act.put, List.setIfInBounds_toArray, List.set_cons_zero, List.set_cons_succ]
        refine wpAnyG_pure (i := 1) (oi := ⟨some 19, _, _, _, _, _⟩) (v := ?_) rfl (by kernel_rfl) (by kernel_rfl) (by kernel_rfl) (by rfl) (fun _ _ _ h => h) (by rfl) ?_ ?_
        rotate_left
        · intro w
          go_simp
          first | done | with_reducible rfl
        try simp only [Act.put, List.setIfInBounds_toArray, List.set_cons_zero, List.set_cons_succ]
        refine wpAnyG_pure (i := 2) (oi := ⟨some 20, _, _, _, _, _⟩) (v := ?_) rfl (by kernel_rfl) (by kernel_rfl) (by kernel_rfl) (by rfl) (fun _ _ _ h => h) (by rfl) ?_ ?_
        rotate_left
        · intro w
          go_simp
          first | done | with_reducible rfl
        try simp only [Act.put, List.setIfInBounds_toArray, List.set_cons_zero, List.set_cons_succ]
        refine wpAnyG_pure (i := 3) (oi := ⟨some 21, _, _, _, _, _⟩) (v := ?_) rfl (by kernel_rfl) (by kernel_rfl) (by kernel_rfl) (by rfl) (fun _ _ _ h => h) (by rfl) ?_ ?_
        rotate_left
        · intro w
          go_simp
          first | done | with_reducible rfl
        try simp only [Act.put, List.setIfInBounds_toArray, List.set_cons_zero, List.set_cons_succ]
        refine wpAnyG_pure (i := 4) (oi := ⟨some 22, _, _, _, _, _⟩) (v := ?_) rfl (by kernel_rfl) (by kernel_rfl) (by kernel_rfl) (by rfl) (fun _ _ _ h => h) (by rfl) ?_ ?_
        rotate_left
        · intro w
          go_simp
          first | done | with_reducible rfl
        try simp only [Act.put, List.setIfInBounds_toArray, List.set_cons_zero, List.set_cons_succ]
        refine wpAnyG_load (i := 5) (oi := ⟨some 23, _, _, _, _, _⟩) (v := ?_) rfl (by kernel_rfl) (by kernel_rfl) (by kernel_rfl) (by rfl) (fun _ _ _ h => h) (by rfl) ?_ (by assumption) ?_
        rotate_left
        · intro w hS
          try dsimp only at hS
          go_simp
          first | done | with_reducible rfl
        try simp only [Act.put, List.setIfInBounds_toArray, List.set_cons_zero, List.set_cons_succ]
        refine wpAnyG_pure (i := 6) (oi := ⟨some 24, _, _, _, _, _⟩) (v := ?_) rfl (by kernel_rfl) (by kernel_rfl) (by kernel_rfl) (by rfl) (fun _ _ _ h => h) (by rfl) ?_ ?_
        rotate_left
        · intro w
          go_simp
          first | done | with_reducible rfl
        try simp only [Act.put, List.setIfInBounds_toArray, List.set_cons_zero, List.set_cons_succ]
        refine wpAnyG_pure (i := 8) (oi := ⟨some 26, _, _, _, _, _⟩) (v := ?_) rfl (by kernel_rfl) (by kernel_rfl) (by kernel_rfl) (by rfl) (fun _ _ _ h => h) (by rfl) ?_ ?_
        rotate_left
        · intro w
          go_simp
          first | done | with_reducible rfl
        try simp only [Act.put, List.setIfInBounds_toArray, List.set_cons_zero, List.set_cons_succ]
        refine wpAnyG_pure (i := 9) (oi := ⟨some 27, _, _, _, _, _⟩) (v := ?_) rfl (by kernel_rfl) (by kernel_rfl) (by kernel_rfl) (by rfl) (fun _ _ _ h => h) (by rfl) ?_ ?_
        rotate_left
        · intro w
          go_simp
          first | done | with_reducible rfl
        try simp only [Act.put, List.setIfInBounds_toArray, List.set_cons_zero, List.set_cons_succ]
        refine wpAnyG_pure (i := 10) (oi := ⟨some 28, _, _, _, _, _⟩) (v := ?_) rfl (by kernel_rfl) (by kernel_rfl) (by kernel_rfl) (by rfl) (fun _ _ _ h => h) (by rfl) ?_ ?_
        rotate_left
        · intro w
          go_simp
          first | done | with_reducible rfl
        try simp only [Act.put, List.setIfInBounds_toArray, List.set_cons_zero, List.set_cons_succ]
        refine wpAnyG_pure (i := 11) (oi := ⟨some 29, _, _, _, _, _⟩) (v := ?_) rfl (by kernel_rfl) (by kernel_rfl) (by kernel_rfl) (by rfl) (fun _ _ _ h => h) (by rfl) ?_ ?_
        rotate_left
        · intro w
          go_simp
          first | done | with_reducible rfl
        try simp only [Act.put, List.setIfInBounds_toArray, List.set_cons_zero, List.set_cons_succ]
        refine wpAnyG_load (i := 12) (oi := ⟨some 30, _, _, _, _, _⟩) (v := ?_) rfl (by kernel_rfl) (by kernel_rfl) (by kernel_rfl) (by rfl) (fun _ _ _ h => h) (by rfl) ?_ (by assumption) ?_
        rotate_left
        · intro w hS
          go_simp; first | done | with_reducible rfl
        try simp only [Act.put, List.setIfInBounds_toArray, List.set_cons_zero, List.set_cons_succ]
        refine wpAnyG_pure (i := 13) (oi := ⟨some 31, _, _, _, _, _⟩) (v := ?_) rfl (by kernel_rfl) (by kernel_rfl) (by kernel_rfl) (by rfl) (fun _ _ _ h => h) (by rfl) ?_ ?_
        rotate_left
        · intro w
          go_simp
          first | done | with_reducible rfl
        try simp only [Act.put, List.setIfInBounds_toArray, List.set_cons_zero, List.set_cons_succ]
        refine wpAnyG_keep (i := 7) (oi := ⟨some 25, _, _, _, _, _⟩) (by kernel_rfl) rfl (fun K hK => ?_)
        rw [if_pos (by rfl)]
        go_simp
        refine (addsup_any z x.key.size _ (by omega) HX1.out).mono ?_
        rintro e w2 ⟨rfl, y, hy0, -, rfl⟩
        refine hK.out _ _ ?_ (fun hS => ?_)
        · assumption
        clear hK K
        try simp only [Act.put, List.setIfInBounds_toArray, List.set_cons_zero, List.set_cons_succ]
        refine wpAnyG_keep (i := 14) (oi := ⟨some 32, _, _, _, _, _⟩) (by kernel_rfl) rfl (fun K hK => ?_)
        rw [if_pos (by rfl)]
        go_simp
        refine (addsup_any y x.value.size _ (by omega) HX2.out).mono ?_
        rintro e w2 ⟨rfl, y2, hy2, -, rfl⟩
        refine hK.out _ _ ?_ (fun hS => ?_)
        · assumption
        clear hK K
        try simp only [Act.put, List.setIfInBounds_toArray, List.set_cons_zero, List.set_cons_succ]
        refine wpAnyG_pure (i := 15) (oi := ⟨some 3, _, _, _, _, _⟩) (v := ?_) rfl (by kernel_rfl) (by kernel_rfl) (by kernel_rfl) (by rfl) (fun _ _ _ h => h) (by rfl) ?_ ?_
        rotate_left
        · intro w
          go_simp
          first | done | with_reducible rfl
        try simp only [Act.put, List.setIfInBounds_toArray, List.set_cons_zero, List.set_cons_succ]
        refine wpAnyG_done (by kernel_rfl) ?_ _
        refine NoPanic.normal ?_
        go_wp2_with fail
        go_roundw
        case rel => exact ⟨k + 1, y2, by omega, by go_num, rfl, hy2, HD.out⟩
        case measure => simp [intOf]; omega
      · have hbi : ¬ (z : Int) ≤ 2147483647 := by omega
        have HW := Lib.hid hw
        clear hw
        go_wp2_with fail
        go_ret
        exact ⟨⟨z, hz, rfl⟩, HW.out⟩
    · have HW := Lib.hid hw
      clear hw
      go_wp2_with fail
      go_ret
      exact ⟨⟨z, hz, rfl⟩, HW.out⟩
end
end Go.Proofs.YtbclmmneiphcaaaDoor
