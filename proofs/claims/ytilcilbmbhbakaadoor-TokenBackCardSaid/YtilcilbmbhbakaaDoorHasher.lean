/- The hasher: New, Write, Len, Copy. -/
import Derived.Test.YtilcilbmbhbakaaDoorComp
import Derived.Test.YtilcilbmbhbakaaDoorRun
import Derived.Test.YtilcilbmbhbakaaDoorText
namespace Go.Proofs.YtilcilbmbhbakaaDoor
open Go.RowKit
abbrev HT : TypeId := 82
def hcells (s : Sha.S8) (r : List UInt8) (n : Nat) : List Value := SV s ++ (r.map V8 ++ [.int .i64 n])
/-- Block b is a hasher that has taken t. -/
def Hp.hasher (b : Nat) (t : List UInt8) : Hp := fun h => ∃ r, Sha.Rest t r ∧ Hp.blk b HT (hcells (Sha.st t) r t.length).toArray h
section
variable {E w : World} {L : List Hp} {b : Nat} {t : List UInt8}
theorem Own.ofHasher (h : Own E w (Hp.hasher b t :: L)) : ∃ r, Sha.Rest t r ∧ Own E w (Hp.blk b HT (hcells (Sha.st t) r t.length).toArray :: L) := by
  obtain ⟨h1, h2, h3, _, hx, x, y, hab, rfl, ⟨r, hr, hb⟩, hL⟩ := h
  exact ⟨r, hr, h1, h2, h3, _, hx, x, y, hab, rfl, hb, hL⟩
theorem Own.toHasher {r : List UInt8} (hr : Sha.Rest t r) (h : Own E w (Hp.blk b HT (hcells (Sha.st t) r t.length).toArray :: L)) : Own E w (Hp.hasher b t :: L) :=
  h.imp fun _ hx => ⟨r, hr, hx⟩
end
theorem rest_nil : Sha.Rest [] (List.replicate 64 0) := ⟨rfl, rfl⟩
def newCells : Array Value := (hcells Sha.H0 (List.replicate 64 0) 0).toArray
set_option maxHeartbeats 400000 in
theorem new_any {E : World} {L : List Hp} (w : World) (h : Own E w L) :
    Calls Tryd.prog 31 #[] w fun e w' => ∃ b, e = .returned (.pointer (some ⟨b, 0, none⟩)) ∧ Own E w' (Hp.hasher b [] :: L) := by
  go_enter Tryd.func31, Tryd.ntmps31
  go_wp2_with fail
  refine (first_any _ h).mono ?_
  rintro e w1 ⟨rfl, h1⟩
  have h2 := h1.alloc (.cells newCells HT)
  go_wp2_with (first | refine wpList_yield (o := ⟨some 2, _, _, _, _, _⟩) (v := .agg newCells) (w' := w1) (by kernel_rfl) rfl ?_ | refine wpList_yield (o := ⟨some 3, _, _, _, _, _⟩) (v := .pointer (some ⟨w1.heap.size, 0, none⟩)) (w' := w1.alloc (.cells newCells HT)) (by kernel_rfl) rfl ?_)
  go_ret
  exact ⟨_, rfl, h2.toHasher rest_nil⟩

theorem SV_len (s : Sha.S8) : (SV s).length = 8 := rfl
section
variable (s s' : Sha.S8) (r : List UInt8) (n m : Nat)
theorem hc_len (h : r.length = 64) : (hcells s r n).length = 73 := by
  unfold hcells
  rw [List.length_append, SV_len, List.length_append, List.length_map, h]; rfl
theorem hc_n (h : r.length = 64) : (hcells s r n).toArray[72]? = some (.int .i64 n) := by
  have e : hcells s r n = (SV s ++ r.map V8) ++ .int .i64 n :: [] := by simp [hcells]
  rw [e]
  exact get_mid _ _ _ _ (by rw [List.length_append, SV_len, List.length_map, h])
theorem hc_setn (h : r.length = 64) : (hcells s r n).toArray.setIfInBounds 72 (.int .i64 m) = (hcells s r m).toArray := by
  have e : ∀ k : Nat, hcells s r k = (SV s ++ r.map V8) ++ .int .i64 k :: [] := fun k => by simp [hcells]
  rw [e, e]
  exact set_mid _ _ _ _ _ (by rw [List.length_append, SV_len, List.length_map, h])
theorem hc_copy (h : r.length = 64) (at_ : Nat) (p : List UInt8) (hp : at_ + p.length ≤ 64) :
    splice (hcells s r n) (8 + at_) (Lib.byteCells p) = hcells s (r.take at_ ++ (p ++ r.drop (at_ + p.length))) n := by
  have hb : Lib.byteCells p = p.map V8 := rfl
  have hl : (SV s).length = 8 := SV_len s
  unfold splice hcells
  rw [hb, List.length_map]
  have e1 : (SV s ++ (r.map V8 ++ [Value.int .i64 n])).take (8 + at_) = SV s ++ (r.take at_).map V8 := by
    rw [List.take_append, hl, List.take_of_length_le (by omega), List.take_append_of_le_length (by simp; omega), List.map_take]
    have e : 8 + at_ - 8 = at_ := by omega
    rw [e]
  have e2 : (SV s ++ (r.map V8 ++ [Value.int .i64 n])).drop (8 + at_ + p.length) = (r.drop (at_ + p.length)).map V8 ++ [Value.int .i64 n] := by
    rw [List.drop_append, hl, List.drop_eq_nil_of_le (by omega), List.nil_append]
    have e : 8 + at_ + p.length - 8 = at_ + p.length := by omega
    rw [e, List.drop_append_of_le_length (by simp; omega), List.map_drop]
  rw [e1, e2]
  simp
theorem hc_state (j : Nat) (u : Value) (hu : (SV s)[j]? = some u) : (hcells s r n).toArray[0 + j]? = some u := by
  have hj : j < (SV s).length := (List.getElem?_eq_some_iff.1 hu).1
  simp only [hcells, Nat.zero_add, List.getElem?_toArray]
  rw [List.getElem?_append_left hj]; exact hu
theorem hc_rest (j : Nat) (u : Value) (hu : (r.map V8)[j]? = some u) : (hcells s r n).toArray[8 + j]? = some u := by
  have hj : j < (r.map V8).length := (List.getElem?_eq_some_iff.1 hu).1
  simp only [hcells, List.getElem?_toArray]
  rw [List.getElem?_append_right (by rw [SV_len]; omega), SV_len]
  have e : 8 + j - 8 = j := by omega
  rw [e, List.getElem?_append_left hj]; exact hu
theorem hc_puts : putArr (hcells s r n).toArray 0 (SV s') = (hcells s' r n).toArray := by
  have := putArr_mid (SV s) (SV s') (r.map V8 ++ [Value.int .i64 n]) [] (by rw [SV_len, SV_len])
  simpa [hcells] using this
end
theorem str_drop (q : List UInt8) (k : Nat) : Value.string ((⟨q.toArray⟩ : ByteArray).extract k q.length) = .string ⟨(q.drop k).toArray⟩ := by
  have h := Lib.extract_data ⟨q.toArray⟩ k q.length
  rw [List.take_of_length_le (by simp)] at h
  have h2 : ((⟨q.toArray⟩ : ByteArray).extract k q.length).data = (q.drop k).toArray := by rw [← h]
  congr 1
  rw [← h2]
theorem slice_rest (b : Nat) (i : Int) (a : Nat) (ha : i.toNat = a) (h0 : 0 ≤ i) (hk : i < 64) (w : World) : (Instr.sliceAt B64 (.pointer (some ⟨b, 8, none⟩)) (some (.int .i64 i)) none none).run Tryd.prog w = .ok (.slice (some ⟨b, 8 + a, none⟩) (64 - a) (64 - a)) w := by
  have hlen : (Tryd.prog).arrayLen B64 = 64 := by kernel_rfl
  have hel : (Tryd.prog).elem B64 = U8 := by kernel_rfl
  have hu : (Tryd.prog).underlying B64 = some (.array ((Tryd.prog).arrayLen B64) ((Tryd.prog).elem B64)) := by rw [hlen, hel]; kernel_rfl
  rw [run_sliceAt_array_l w B64 ⟨b, 8, none⟩ hu .i64 _ (by omega) (by rw [hlen]; omega), hel, hlen]
  have hs : (sizeOf U8).run Tryd.prog w = .ok 1 w := by kernel_rfl
  rw [hs, ha]
  simp only [Result.andThen_ok, slicedAt]
  rw [if_neg (by omega), add_eq]
  simp
set_option maxRecDepth 100000 in
set_option maxHeartbeats 1000000 in
theorem write_any {E : World} {L : List Hp} (b : Nat) (t : List UInt8) (s : ByteArray) (w : World) (hn : t.length + s.size ≤ 9223372036854775807) (h : Own E w (Hp.hasher b t :: L)) :
    Calls Tryd.prog 32 #[.pointer (some ⟨b, 0, none⟩), .string s] w fun e w' => e = .returned (.tuple #[]) ∧ Own E w' (Hp.hasher b (t ++ s.data.toList) :: L) := by
  have hs : s.data.toList.length = s.size := rfl
  go_enter Tryd.func32, Tryd.ntmps32
  go_wp2_with fail
  go_loopw [1] (fun v wr => ∃ p q : List UInt8, p ++ q = s.data.toList ∧ v = .string ⟨q.toArray⟩ ∧ Own E wr (Hp.hasher b (t ++ p) :: L)) (fun v _ => match v with | .string x => x.size | _ => 0)
  case atStart => exact ⟨[], s.data.toList, rfl, rfl, by simpa using h⟩
  case round =>
    obtain ⟨p, q, hpq, rfl, hw⟩ := hrel
    clear h
    obtain ⟨r, hr, hb⟩ := hw.ofHasher
    clear hw
    have hlen := congrArg List.length hpq
    rw [List.length_append, hs] at hlen
    by_cases hq : q = []
    · subst hq
      rw [List.append_nil] at hpq
      rw [hpq] at hr hb
      have H := Lib.hid (hb.toHasher hr)
      clear hb hpq hr hlen hs
      go_wp2_with fail
      go_end0
      exact ⟨rfl, H.out⟩
    · obtain ⟨m, hm⟩ : ∃ m, m = (t ++ p).length := ⟨_, rfl⟩
      obtain ⟨a, ha⟩ : ∃ a, a = m % 64 := ⟨_, rfl⟩
      obtain ⟨k, hk⟩ : ∃ k, Nat.min q.length (64 - a) = k := ⟨_, rfl⟩
      have hq0 : 0 < q.length := List.length_pos_iff.2 hq
      have hkq : k ≤ q.length := by rw [← hk]; exact Nat.min_le_left _ _
      have hka : a + k ≤ 64 := by have : k ≤ 64 - a := by (rw [← hk]; exact Nat.min_le_right _ _)
                                  omega
      have hk0 : 0 < k := by
        have : k = min q.length (64 - a) := hk.symm
        omega
      have hmb : m + k ≤ 9223372036854775807 := by rw [List.length_append] at hm; omega
      rw [← hm] at hb
      have cn := hb.cell 72
      rw [hc_n _ _ _ hr.1] at cn
      have hsl := fun W => slice_rest b ((m : Int) % 64) a (by omega) (by omega) (by omega) W
      obtain ⟨w2, hrun, h2⟩ := sl_copy_string_part (P := Tryd.prog) (dT := 31) (sT := 9) (ty := 3) (elem := U8) (by kernel_rfl) (by kernel_rfl) (off := 8 + a) hb (64 - a) (64 - a) ⟨q.toArray⟩ k hk (by rw [hc_len _ _ _ hr.1]; omega)
      have ep : (q.take k).length = k := by simp; omega
      have e2 : splice (hcells (Sha.st (t ++ p)) r m) (8 + a) (Lib.byteCells (q.take k)) = hcells (Sha.st (t ++ p)) (r.take a ++ (q.take k ++ r.drop (a + k))) m := by
        have := hc_copy (Sha.st (t ++ p)) r m hr.1 a (q.take k) (by omega)
        rw [ep] at this; exact this
      have h2' : Own E w2 (Hp.blk b HT (hcells (Sha.st (t ++ p)) (r.take a ++ (q.take k ++ r.drop (a + k))) m).toArray :: L) := by rw [← e2]; exact h2
      have hr2 : (r.take a ++ (q.take k ++ r.drop (a + k))).length = 64 := by simp [hr.1]; omega
      have eapp : t ++ (p ++ q.take k) = (t ++ p) ++ q.take k := by simp
      have elen : ((t ++ p) ++ q.take k).length = m + k := by rw [List.length_append, ← hm, ep]
      have epq : (p ++ q.take k) ++ q.drop k = s.data.toList := by rw [List.append_assoc, List.take_append_drop]; exact hpq
      have hpart : a + k < 64 → Sha.st (t ++ p ++ q.take k) = Sha.st (t ++ p) ∧ Sha.Rest (t ++ p ++ q.take k) (r.take a ++ (q.take k ++ r.drop (a + k))) := fun hlt => by
        have := Sha.step_part (p := q.take k) hr (by rw [← hm, ← ha, ep]; exact hlt)
        rw [← hm, ← ha, ep] at this; exact this
      have hfull : a + k = 64 → Sha.st (t ++ p ++ q.take k) = Sha.compress (Sha.st (t ++ p)) (r.take a ++ (q.take k ++ r.drop (a + k))) ∧ Sha.Rest (t ++ p ++ q.take k) (r.take a ++ (q.take k ++ r.drop (a + k))) := fun hlt => by
        have := Sha.step_full (p := q.take k) hr (by rw [← hm, ← ha, ep]; exact hlt)
        rw [← hm, ← ha, ep] at this; exact this
      have c3 := h2'.cell 72
      rw [hc_n _ _ _ hr2] at c3
      have f3 := h2'.frozen 72
      have h4 := h2'.set 72 (.int .i64 ((m + k : Nat) : Int))
      rw [hc_setn _ _ _ _ hr2] at h4
      have hq1 : (!q.isEmpty) = true := by cases q with | nil => exact absurd rfl hq | cons _ _ => rfl
      clear hb h2 h2' e2
      generalize hu : t ++ p ++ q.take k = u at *
      generalize Sha.st (t ++ p) = S at *
      have hrest : ∀ x : List UInt8, (x.length = 64) → Own E (w2.setCell ⟨b, 72, none⟩ (.int .i64 ((m + k : Nat) : Int))) L → True := fun _ _ _ => trivial
      clear hrest
      generalize hR : r.take a ++ (q.take k ++ r.drop (a + k)) = R at *
      have H4 := Lib.hid h4
      have HK : Hid (t ++ (p ++ q.take k) = u ∧ u.length = m + k ∧ (p ++ q.take k) ++ q.drop k = s.data.toList) := Lib.hid ⟨eapp, elen, epq⟩
      have HR2 := Lib.hid hr2
      have hq2 := Lib.hid hq
      have hm1 : (0 : Int) ≤ (m : Int) % 64 := by omega
      have hm2 : (m : Int) % 64 < 64 := by omega
      have hcast : ((m + k : Nat) : Int) = (m : Int) + (k : Int) := by omega
      rw [hcast] at h4 H4
      by_cases hf : a + k = 64
      · obtain ⟨f1, f2⟩ := hfull hf
        have hz : (((m : Int) + (k : Int)) % 64 == 0) = true := by rw [beq_iff_eq]; omega
        have HF : Hid (Sha.st u = Sha.compress S R ∧ Sha.Rest u R) := Lib.hid ⟨f1, f2⟩
        clear f1 f2 hf hfull hpart hr hpq hR hu eapp elen epq ep hr2 h4 hq hs hlen hk ha hm hcast
        go_wp2_with (refine wpList_copy_run (o := ⟨some 19, _, _, _, _, _⟩) hrun rfl rfl rfl rfl ?_; clear hrun)
        obtain ⟨wz, hwz⟩ : ∃ wz, wz = w2.setCell ⟨b, 72, none⟩ (.int .i64 ((m : Int) + (k : Int))) := ⟨_, rfl⟩
        rw [← hwz] at H4 ⊢
        clear hwz c3 f3 hsl cn
        have r1 := H4.out.range 0 (SV S) (hc_state S R (m + k))
        have r2 := H4.out.range 8 (R.map V8) (hc_rest S R (m + k))
        refine wp_region_text [4, 8] (fun w' => w'.rangeAt b 0 (SV S) ∧ w'.rangeAt b 8 (R.map V8)) (by kernel_rfl) ?_ (fun hS => ?_)
        · exact ⟨r1, r2⟩
        refine wpAnyG_pure (i := 0) (oi := ⟨some 37, _, _, _, _, _⟩) (v := ?_) rfl (by kernel_rfl) (by kernel_rfl) (by kernel_rfl) (by rfl) (fun _ _ _ h => h) (by rfl) ?_ ?_
        rotate_left
        · intro w
          go_simp
          first | done | with_reducible rfl
        try simp only [Act.put, List.setIfInBounds_toArray, List.set_cons_zero, List.set_cons_succ]
        refine wpAnyG_pure (i := 1) (oi := ⟨some 38, _, _, _, _, _⟩) (v := ?_) rfl (by kernel_rfl) (by kernel_rfl) (by kernel_rfl) (by rfl) (fun _ _ _ h => h) (by rfl) ?_ ?_
        rotate_left
        · intro w
          go_simp
          first | done | with_reducible rfl
        try simp only [Act.put, List.setIfInBounds_toArray, List.set_cons_zero, List.set_cons_succ]
        refine wpAnyG_pure (i := 2) (oi := ⟨some 39, _, _, _, _, _⟩) (v := ?_) rfl (by kernel_rfl) (by kernel_rfl) (by kernel_rfl) (by rfl) (fun _ _ _ h => h) (by rfl) ?_ ?_
        rotate_left
        · intro w
          go_simp
          first | done | with_reducible rfl
        try simp only [Act.put, List.setIfInBounds_toArray, List.set_cons_zero, List.set_cons_succ]
        refine wpAnyG_pure (i := 3) (oi := ⟨some 40, _, _, _, _, _⟩) (v := ?_) rfl (by kernel_rfl) (by kernel_rfl) (by kernel_rfl) (by rfl) (fun _ _ _ h => h) (by rfl) ?_ ?_
        rotate_left
        · intro w
          go_simp
          first | done | with_reducible rfl
        try simp only [Act.put, List.setIfInBounds_toArray, List.set_cons_zero, List.set_cons_succ]
        refine wpAnyG_load (i := 4) (oi := ⟨some 41, _, _, _, _, _⟩) (v := (.agg (SV S).toArray)) rfl (by kernel_rfl) (by kernel_rfl) (by kernel_rfl) (by rfl) (fun _ _ _ h => h) (by rfl) ?_ (by assumption) ?_
        · intro w hS
          exact exec_load_mid S8T (.tmp 40) rfl b 0 (by rfl) (SV S) (.array 8 U32) hS.1 (by kernel_rfl) rfl (size8 S.list rfl)
        try simp only [Act.put, List.setIfInBounds_toArray, List.set_cons_zero, List.set_cons_succ]
        refine wpAnyG_pure (i := 5) (oi := ⟨some 42, _, _, _, _, _⟩) (v := ?_) rfl (by kernel_rfl) (by kernel_rfl) (by kernel_rfl) (by rfl) (fun _ _ _ h => h) (by rfl) ?_ ?_
        rotate_left
        · intro w
          go_simp
          first | done | with_reducible rfl
        try simp only [Act.put, List.setIfInBounds_toArray, List.set_cons_zero, List.set_cons_succ]
        refine wpAnyG_pure (i := 6) (oi := ⟨some 43, _, _, _, _, _⟩) (v := ?_) rfl (by kernel_rfl) (by kernel_rfl) (by kernel_rfl) (by rfl) (fun _ _ _ h => h) (by rfl) ?_ ?_
        rotate_left
        · intro w
          go_simp
          first | done | with_reducible rfl
        try simp only [Act.put, List.setIfInBounds_toArray, List.set_cons_zero, List.set_cons_succ]
        refine wpAnyG_pure (i := 7) (oi := ⟨some 44, _, _, _, _, _⟩) (v := ?_) rfl (by kernel_rfl) (by kernel_rfl) (by kernel_rfl) (by rfl) (fun _ _ _ h => h) (by rfl) ?_ ?_
        rotate_left
        · intro w
          go_simp
          first | done | with_reducible rfl
        try simp only [Act.put, List.setIfInBounds_toArray, List.set_cons_zero, List.set_cons_succ]
        refine wpAnyG_load (i := 8) (oi := ⟨some 45, _, _, _, _, _⟩) (v := (.agg (R.map V8).toArray)) rfl (by kernel_rfl) (by kernel_rfl) (by kernel_rfl) (by rfl) (fun _ _ _ h => h) (by rfl) ?_ (by assumption) ?_
        · intro w hS
          exact exec_load_mid B64 (.tmp 44) rfl b 8 (by rfl) (R.map V8) (.array 64 U8) hS.2 (by kernel_rfl) rfl (sizeB R HR2.out)
        try simp only [Act.put, List.setIfInBounds_toArray, List.set_cons_zero, List.set_cons_succ]
        refine wpAnyG_keep (i := 9) (oi := ⟨some 46, _, _, _, _, _⟩) (by kernel_rfl) rfl (fun K hK => ?_)
        rw [if_pos (by rfl)]
        go_simp
        refine (block_any S R HR2.out _ (by exact H4.out)).mono ?_
        rintro e w5 ⟨rfl, h5⟩
        refine hK.out _ _ ?_ (fun hS => ?_)
        · exact ⟨h5.range 0 (SV S) (hc_state S R (m + k)), h5.range 8 (R.map V8) (hc_rest S R (m + k))⟩
        clear hK K
        try simp only [Act.put, List.setIfInBounds_toArray, List.set_cons_zero, List.set_cons_succ]
        refine wpAnyG_pure (i := 10) (oi := ⟨some 47, _, _, _, _, _⟩) (v := ?_) rfl (by kernel_rfl) (by kernel_rfl) (by kernel_rfl) (by rfl) (fun _ _ _ h => h) (by rfl) ?_ ?_
        rotate_left
        · intro w
          go_simp
          first | done | with_reducible rfl
        try simp only [Act.put, List.setIfInBounds_toArray, List.set_cons_zero, List.set_cons_succ]
        refine wpAnyG_pure (i := 11) (oi := ⟨some 48, _, _, _, _, _⟩) (v := ?_) rfl (by kernel_rfl) (by kernel_rfl) (by kernel_rfl) (by rfl) (fun _ _ _ h => h) (by rfl) ?_ ?_
        rotate_left
        · intro w
          go_simp
          first | done | with_reducible rfl
        try simp only [Act.put, List.setIfInBounds_toArray, List.set_cons_zero, List.set_cons_succ]
        refine wpAnyG_break (i := 12) (oi := ⟨none, _, _, _, _, _⟩) (by kernel_rfl) rfl (by kernel_rfl) (fun K hK => ?_)
        rw [if_pos (by rfl)]
        refine wp_store_arr h5 0 (SV (Sha.compress S R)) (by rw [List.size_toArray, hc_len _ _ _ HR2.out, SV_len]; omega) (V32_one _) (size8 _ rfl) rfl rfl rfl ?_
        intro w6 h6
        refine hK.out _ _ ?_
        clear hK K
        try simp only [Act.put]
        refine wpAnyG_done (by kernel_rfl) ?_ _
        refine NoPanic.normal ?_
        rw [hc_puts] at h6
        have H6 := Lib.hid h6
        clear h6 h5 r1 r2 hS
        go_wp2_with fail
        go_roundw
        case rel =>
          refine ⟨p ++ q.take k, q.drop k, HK.out.2.2, str_drop q k, ?_⟩
          rw [HK.out.1]
          refine Own.toHasher HF.out.2 ?_
          rw [HF.out.1, HK.out.2.1]
          exact H6.out
        case measure =>
          have hz : (⟨q.toArray⟩ : ByteArray).size = q.length := rfl
          simp only [ByteArray.size_extract, hz]
          omega
      · have hlt : a + k < 64 := by omega
        obtain ⟨f1, f2⟩ := hpart hlt
        have hz : (((m : Int) + (k : Int)) % 64 == 0) = false := by rw [beq_eq_false_iff_ne]; omega
        have HF : Hid (Sha.st u = S ∧ Sha.Rest u R) := Lib.hid ⟨f1, f2⟩
        clear f1 f2 hf hfull hpart hr hpq hR hu eapp elen epq ep hr2 h4 hq hs hlen hk ha hm hcast
        go_wp2_with (refine wpList_copy_run (o := ⟨some 19, _, _, _, _, _⟩) hrun rfl rfl rfl rfl ?_; clear hrun)
        go_roundw
        case rel =>
          refine ⟨p ++ q.take k, q.drop k, HK.out.2.2, str_drop q k, ?_⟩
          rw [HK.out.1]
          refine Own.toHasher HF.out.2 ?_
          rw [HF.out.1, HK.out.2.1]
          exact H4.out
        case measure =>
          have hz : (⟨q.toArray⟩ : ByteArray).size = q.length := rfl
          simp only [ByteArray.size_extract, hz]
          omega
end Go.Proofs.YtilcilbmbhbakaaDoor
