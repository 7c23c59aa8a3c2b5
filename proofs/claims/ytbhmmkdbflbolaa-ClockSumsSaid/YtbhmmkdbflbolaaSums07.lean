/- ClockSums. -/
import Derived.Test.YtbhmmkdbflbolaaRef07
import Derived.Test.YtbhmmkdbflbolaaOps
import Derived.Deep.OwnRows
import Derived.Deep.RegionHeld3
namespace Go.Proofs.Ytbhmmkdbflbolaa
open Go.RowKit
theorem int_info : (Try.prog.info? 3).map (fun i => (i.zero, i.size, i.bytes)) = some (some (.int .i64 0), 1, 8) := by kernel_rfl
theorem int_size : (Try.prog.info? 3).map (·.size) = some 1 := by kernel_rfl

theorem madeInts (n : Nat) : madeCells #[Value.int .i64 0] n = (List.replicate n (Value.int .i64 0)).toArray := by
  rw [← toList_madeCells_one]
abbrev ints (zs : List Int) : List Value := zs.map (Value.int .i64)
theorem ints_flat (zs : List Int) : zs.flatMap en64 = ints zs := by
  induction zs with
  | nil => rfl
  | cons z zs ih => rw [List.flatMap_cons, ih]; rfl
theorem ints_one (zs : List Int) : ∀ v ∈ ints zs, v.oneCell' = true := by
  intro v hv
  obtain ⟨z, _, rfl⟩ := List.mem_map.1 hv
  rfl

set_option maxHeartbeats 400000 in
theorem lent {E : World} {L : List Hp} (A : Option Addr) (n c : Nat) (zs : List Int) (w : World) (hn : n * 8 ≤ 140737488351232) (hr : Rds (Ph.of w) 1 en64 A n zs) (h : Own E w L) :
    Calls Try.prog 15 #[.slice A n c] w fun e w' => ∃ g, e = .returned (.slice (some ⟨g, 0, none⟩) n (n + 2)) ∧ Own E w' (Hp.blk g 3 (ints zs ++ [Value.int .i64 (-77), Value.int .i64 (-78)]).toArray :: L) := by
  have hmk := fun W => run_make_row' (P := Try.prog) 33 3 (.int .i64 0) 8 (by kernel_rfl) int_info rfl .i64 .i64 (n + 2) (by omega) (by omega) W
  simp only [Int.natCast_add, Int.cast_ofNat_Int] at hmk
  have hl := hr.1
  have hrc := hr.rdc
  rw [ints_flat] at hrc
  have h1 : Own E (w.alloc (.cells (madeCells #[Value.int .i64 0] (n + 2)) 3)) (Hp.blk w.heap.size 3 (List.replicate (n + 2) (Value.int .i64 0)).toArray :: L) := by
    rw [← madeInts]; exact h.alloc _
  have hrc1 : RdC (w.alloc (.cells (madeCells #[Value.int .i64 0] (n + 2)) 3)) A (ints zs) := fun hne => by
    obtain ⟨ad, rfl, hc⟩ := hrc hne
    exact ⟨ad, rfl, fun j u hu => by
      have := hc j u hu
      have hlt := World.block_lt_of_cell? w _ this
      rw [World.cell?_alloc_lt w _ _ hlt]; exact this⟩
  obtain ⟨w1, hrun, h2⟩ := sl_copy (P := Try.prog) (dT := 33) (sT := 33) (ty := 3) (by kernel_rfl) int_size (off := 0) h1 (some ⟨w.heap.size, 0, none⟩) A (n + 2) (n + 2) n c (ints zs) (by simp [hl]) (fun _ => rfl) hrc1 (by simp [hl]) (ints_one zs)
  have hz : splice (List.replicate (n + 2) (Value.int .i64 0)) 0 (ints zs) = ints zs ++ [.int .i64 0, .int .i64 0] := by
    simp [splice, hl]
  rw [hz] at h2
  have c1 := h2.cell n
  have c2 := h2.cell (n + 1)
  have f1 := h2.frozen n
  have f2 := h2.frozen (n + 1)
  simp [hl] at c1 c2
  have H2 := Lib.hid h2
  have Hl := Lib.hid hl
  clear h2 hl hrc hrc1 h1 hr hz h
  go_enter Try.func15, Try.ntmps15
  go_wp2_with (refine wpList_copy_run (o := ⟨some 10, _, _, _, _, _⟩) hrun rfl rfl rfl rfl ?_; clear hrun)
  go_ret
  refine ⟨_, rfl, ?_⟩
  have h3 := (H2.out.set n (.int .i64 (-77))).set (n + 1) (.int .i64 (-78))
  have e : ((ints zs ++ [Value.int .i64 0, .int .i64 0]).toArray.setIfInBounds n (.int .i64 (-77))).setIfInBounds (n + 1) (.int .i64 (-78)) = (ints zs ++ [Value.int .i64 (-77), .int .i64 (-78)]).toArray := by
    rw [← Hl.out]
    simp
  rw [e] at h3
  exact h3

set_option maxHeartbeats 400000 in
theorem whole {E : World} {L : List Hp} (g : Nat) (A : Option Addr) (n c : Nat) (zs : List Int) (w : World) (hn : n * 8 ≤ 140737488351232) (hr : Rds (Ph.of w) 1 en64 A n zs)
    (h : Own E w (Hp.blk g 3 (ints zs ++ [Value.int .i64 (-77), Value.int .i64 (-78)]).toArray :: L)) :
    Calls Try.prog 17 #[.slice (some ⟨g, 0, none⟩) n (n + 2), .slice A n c] w fun e w' => e = .returned (.bool true) ∧ ∃ m, w' = w.drewN m := by
  have hl := Lib.hid hr.1
  have c1 := h.cell n
  have c2 := h.cell (n + 1)
  simp [hl.out] at c1 c2
  have H := Lib.hid h.cell
  clear h
  go_enter Try.func17, Try.ntmps17
  go_wp2_with fail
  go_loopw [5] (fun i wr => ∃ k : Nat, k ≤ n ∧ i = .int .i64 k ∧ ∃ m, wr = w.drewN m) (fun i _ => n - (intOf i).toNat)
  case atStart => exact ⟨0, Nat.zero_le _, rfl, 0, rfl⟩
  case round =>
    obtain ⟨k, hk, rfl, m, rfl⟩ := hrel
    by_cases hlt : k < n
    · obtain ⟨x, b, off, hx, rfl, hc⟩ := hr.at1 hlt
      have d1 := hc _ rfl
      have d2 : w.cell? ⟨g, k, none⟩ = some (.int .i64 x) := by
        rw [H.out k]
        have : k < zs.length := by rw [hl.out]; exact hlt
        simp [List.getElem?_append_left, this]
        exact (List.getElem?_eq_some_iff.1 hx).2
      clear hc hr hx
      have e1 : ((x : Int) != x) = false := by simp
      go_wp2_with fail
      go_region_held3 (fun w' => w'.cell? ⟨g, k, none⟩ = some (.int .i64 x) ∧ w'.cell? ⟨b, off + k, none⟩ = some (.int .i64 x)) (go_keep) (fail)
      go_wp2_with fail
      go_roundw
      case rel => exact ⟨k + 1, by omega, by go_num, m + 1, rfl⟩
      case measure => simp [intOf]; omega
    · obtain rfl : k = n := by omega
      clear hr
      go_wp2_with fail
      go_ret
      exact ⟨rfl, m, rfl⟩

theorem firstOf_same (t : Int) : ∀ n, 0 < n → firstOf (List.replicate n t) = near t := by
  have hb := near_bd t
  intro n
  induction n with
  | zero => intro h; omega
  | succ n ih =>
    intro _
    rcases Nat.eq_zero_or_pos n with rfl | hn
    · simp [firstOf]; omega
    · have := ih hn
      unfold firstOf at this ⊢
      rw [List.replicate_succ', List.foldl_append, this]
      simp
theorem firstOf_one (t : Int) : firstOf [t] = near t := firstOf_same t 1 (by omega)

set_option maxHeartbeats 1000000 in
theorem sums {E : World} {L : List Hp} {S : Ph} (t d m : Int) (A : Option Addr) (n c : Nat) (zs : List Int) (w : World) (hn : n * 8 ≤ 140737488351232) (hr : Rds S 1 en64 A n zs) (h : Own E w (Hp.ro S :: L)) :
    Calls Try.prog 5 #[.int .i64 t, .int .i64 d, .int .i64 m, .slice A n c] w fun e w' => e = .returned (.bool true) ∧ Own E w' (Hp.ro S :: L) := by
  have hl := Lib.hid hr.1
  go_enter Try.func5, Try.ntmps5
  go_wp2_with fail
  refine (Ref07.awake _ h).mono ?_
  rintro e w1 ⟨rfl, h1⟩
  go_wp2_with fail
  refine (lent A n c zs _ hn (hr.sub h1.sub) h1).mono ?_
  rintro e w2 ⟨g, rfl, h2⟩
  go_wp2_with fail
  have hr2 : Rds (Ph.of w2) 1 en64 (some ⟨g, 0, none⟩) n zs := ⟨hl.out, fun _ => rfl, fun k hk => ⟨g, 0, rfl, fun j v hv => by
    rw [Ph.of_cell, h2.cell]
    obtain rfl : j = 0 := by
      have := (List.getElem?_eq_some_iff.1 hv).1
      simp at this; omega
    simp [List.getElem?_append_left, hk]
    simpa using hv⟩⟩
  refine (Clock.first _ n _ zs _ (by unfold maxLen; omega) hr2).mono ?_
  rintro e w' ⟨rfl, rfl⟩
  go_wp2_with fail
  refine (whole g A n c zs _ hn (hr.sub h2.f1.sub) h2).mono ?_
  rintro e w3 ⟨rfl, q, rfl⟩
  have h3 := h2.drewN q
  clear hr2 h2 h1 h
  go_wp2_with fail
  refine (Ref07.first _ n _ zs _ (by unfold maxLen; omega) (hr.sub h3.f1.sub)).mono ?_
  rintro e w' ⟨rfl, rfl⟩
  go_wp2_with fail
  clear hr
  go_loopw [13] (fun i wr => ∃ k : Nat, k ≤ n ∧ i = .int .i64 k ∧ Own E wr (Hp.blk g 3 (ints (List.replicate k t ++ zs.drop k) ++ [Value.int .i64 (-77), Value.int .i64 (-78)]).toArray :: Hp.ro S :: L)) (fun i _ => n - (intOf i).toNat)
  case atStart => exact ⟨0, Nat.zero_le _, rfl, by simpa using h3⟩
  case round =>
    obtain ⟨k, hk, rfl, hw⟩ := hrel
    clear h3
    by_cases hlt : k < n
    · have hz : zs.drop k = zs[k]'(by rw [hl.out]; exact hlt) :: zs.drop (k + 1) := List.drop_eq_getElem_cons _
      have e0 : ints (List.replicate k t ++ zs.drop k) ++ [Value.int .i64 (-77), Value.int .i64 (-78)] = ints (List.replicate k t) ++ Value.int .i64 (zs[k]'(by rw [hl.out]; exact hlt)) :: (ints (zs.drop (k + 1)) ++ [Value.int .i64 (-77), Value.int .i64 (-78)]) := by
        rw [hz]
        simp only [ints, List.map_append, List.map_cons, List.append_assoc, List.cons_append]
      have e1 : (ints (List.replicate k t ++ zs.drop k) ++ [Value.int .i64 (-77), Value.int .i64 (-78)]).toArray.setIfInBounds k (.int .i64 t) = (ints (List.replicate (k + 1) t ++ zs.drop (k + 1)) ++ [Value.int .i64 (-77), Value.int .i64 (-78)]).toArray := by
        rw [e0, set_mid _ _ _ _ _ (by simp)]
        simp only [List.replicate_succ', ints, List.map_append, List.map_cons, List.append_assoc, List.cons_append, List.nil_append]
      have c1 := hw.cell k
      rw [e0, get_mid _ _ _ _ (by simp)] at c1
      have f1 := hw.frozen k
      have h4 := Lib.hid (hw.set k (.int .i64 t))
      clear hw
      have E1 := Lib.hid e1
      clear e1 hz e0
      go_wp2_with fail
      go_roundw
      case rel => exact ⟨k + 1, by omega, by go_num, by rw [← E1.out]; exact h4.out⟩
      case measure => simp [intOf]; omega
    · obtain rfl : k = n := by omega
      have hz : zs.drop k = [] := List.drop_eq_nil_of_le (by rw [hl.out]; omega)
      rw [hz, List.append_nil] at hw
      clear hz
      have hr2 : Rds (Ph.of wr) 1 en64 (some ⟨g, 0, none⟩) k (List.replicate k t) := ⟨by simp, fun _ => rfl, fun i hi => ⟨g, 0, rfl, fun j v hv => by
        rw [Ph.of_cell, hw.cell]
        obtain rfl : j = 0 := by
          have := (List.getElem?_eq_some_iff.1 hv).1
          simp at this; omega
        have hi' : i < k := by simpa using hi
        simp [List.getElem?_append_left, hi']
        simpa using hv⟩⟩
      go_wp2_with fail
      refine (Clock.first _ k _ _ _ (by unfold maxLen; omega) hr2).mono ?_
      rintro e w' ⟨rfl, rfl⟩
      clear hr2
      go_wp2_with fail
      have h5 : Own E (wr.alloc (.cells #[.int .i64 t] 3)) (Hp.blk wr.heap.size 3 #[.int .i64 t] :: Hp.ro S :: L) := hw.drop.alloc _
      have hr3 : Rds (Ph.of (wr.alloc (.cells #[.int .i64 t] 3))) 1 en64 (some ⟨wr.heap.size, 0, none⟩) 1 [t] := ⟨rfl, fun _ => rfl, fun i hi => ⟨_, 0, rfl, fun j v hv => by
        rw [Ph.of_cell, h5.cell]
        obtain rfl : j = 0 := by
          have := (List.getElem?_eq_some_iff.1 hv).1
          simp at this; omega
        obtain rfl : i = 0 := by simp at hi; omega
        simpa using hv⟩⟩
      refine (Ref07.first _ 1 _ _ _ (by unfold maxLen; omega) hr3).mono ?_
      rintro e w' ⟨rfl, rfl⟩
      rw [firstOf_one]
      clear hr3 hw
      rcases Nat.eq_zero_or_pos k with rfl | hp
      · have e0 : firstOf (List.replicate 0 t) = 1099511627776 := rfl
        rw [e0]
        go_wp2_with fail
        refine (Clock.add _ _ _).mono ?_
        rintro e w' ⟨rfl, rfl⟩
        go_wp2_with fail
        refine (Ref07.add _ _ _).mono ?_
        rintro e w' ⟨rfl, rfl⟩
        go_wp2_with fail
        refine (Clock.left_ _ _ _).mono ?_
        rintro e w' ⟨rfl, rfl⟩
        go_wp2_with fail
        refine (Ref07.left_ _ _ _).mono ?_
        rintro e w' ⟨rfl, rfl⟩
        go_wp2_with fail
        refine (Clock.within_ _ _ _ _).mono ?_
        rintro e w' ⟨rfl, rfl⟩
        go_wp2_with fail
        refine (Ref07.within_ _ _ _ _).mono ?_
        rintro e w' ⟨rfl, rfl⟩
        go_wp2_with fail
        go_ret
        exact ⟨ret_bool (by simp), h5.drop⟩
      · have e0 : firstOf (List.replicate k t) = near t := firstOf_same t k hp
        rw [e0]
        have e5 : ((k : Int) == 0) = false := by simp; omega
        go_wp2_with fail
        refine (Clock.add _ _ _).mono ?_
        rintro e w' ⟨rfl, rfl⟩
        go_wp2_with fail
        refine (Ref07.add _ _ _).mono ?_
        rintro e w' ⟨rfl, rfl⟩
        go_wp2_with fail
        refine (Clock.left_ _ _ _).mono ?_
        rintro e w' ⟨rfl, rfl⟩
        go_wp2_with fail
        refine (Ref07.left_ _ _ _).mono ?_
        rintro e w' ⟨rfl, rfl⟩
        go_wp2_with fail
        refine (Clock.within_ _ _ _ _).mono ?_
        rintro e w' ⟨rfl, rfl⟩
        go_wp2_with fail
        refine (Ref07.within_ _ _ _ _).mono ?_
        rintro e w' ⟨rfl, rfl⟩
        go_wp2_with fail
        go_ret
        exact ⟨ret_bool (by simp), h5.drop⟩
end Go.Proofs.Ytbhmmkdbflbolaa
