/- clock.nearest, First, Add; record.End (printed by gen_end.py). record.OfFamily, of a family that may be (printed by gen_offam.py). strings.Cut at a nought behind a name. record.member, record.ParseIndex, of entries that are right (printed by gen_idx.py). record.ParseIndex, of entries that are right (printed by gen_idx2.py). -/
import Derived.Test.YtabibfabieghpaaGreatDoorPkN
import Derived.Test.YtabibfabieghpaaGreatDoorShelf3
import Derived.Test.YtabibfabieghpaaGreatDoorTail
import Derived.Test.YtabibfabieghpaaGreatDoorPkM
namespace Go.Proofs.YtabibfabieghpaaGreatDoor
open Go.RowKit
def near (n : Int) : Int := min (max n 0) 1099511627776
theorem near_bd (n : Int) : 0 ≤ near n ∧ near n ≤ 1099511627776 := by unfold near; omega
theorem ret_end {a b : Int} (h : a = b) : Ending.returned (.int .i64 a) = .returned (.int .i64 b) := by rw [h]
def firstOf (l : List Int) : Int := l.foldl (fun o t => min o (near t)) 1099511627776
theorem nearest_any (n : Int) (w : World) :
    Calls Tryz.prog 125 #[.int .i64 n] w fun e w' => e = .returned (.int .i64 (near n)) ∧ w = w' := by
  rcases (by omega : n < 0 ∨ 0 ≤ n ∧ n ≤ 1099511627776 ∨ 1099511627776 < n) with h | h | h
  all_goals
    go_enter Tryz.func125, Tryz.ntmps125
    go_wp2
    all_goals go_ret
    all_goals exact ⟨ret_end (by unfold near; omega), rfl⟩
set_option maxHeartbeats 400000 in
theorem clockadd_any (t d : Int) (w : World) :
    Calls Tryz.prog 85 #[.int .i64 t, .int .i64 d] w fun e w' => e = .returned (.int .i64 (near (near t + d))) ∧ w = w' := by
  have hb := near_bd t
  go_enter Tryz.func85, Tryz.ntmps85
  go_wp2_with (refine (nearest_any _ _).mono ?_; rintro e w' ⟨rfl, rfl⟩)
  all_goals go_ret
  all_goals exact ⟨ret_end (by unfold near at *; omega), rfl⟩
set_option maxHeartbeats 400000 in
theorem first_any (A : Option Addr) (n c : Nat) (zs : List Int) (w : World) (hn : n ≤ 1000) (h : Rds (Ph.of w) 1 en64 A n zs) :
    Calls Tryz.prog 84 #[.slice A n c] w fun e w' => e = .returned (.int .i64 (firstOf zs)) ∧ w = w' := by
  have hl := h.1
  go_enter Tryz.func84, Tryz.ntmps84
  go_wp2_with fail
  go_loop [3, 8] (fun o i => ∃ k : Nat, k ≤ n ∧ i = .int .i64 k ∧ o = .int .i64 (firstOf (zs.take k))) (fun _ i => n - (intOf i).toNat)
  case atStart => exact ⟨0, Nat.zero_le _, rfl, rfl⟩
  case round =>
    obtain ⟨k, hk, rfl, rfl⟩ := hrel
    by_cases hlt : k < n
    · obtain ⟨x, b, off, hx, rfl, hc⟩ := h.get1 hlt
      have c0 := (Own.start w).rd (hc _ rfl)
      clear hc h
      have hs : firstOf (zs.take (k + 1)) = min (firstOf (zs.take k)) (near x) := by
        unfold firstOf
        rw [List.take_add_one, hx]
        simp
      have Hs := Lib.hid hs
      clear hs
      clear hx
      have Hl := Lib.hid hl
      clear hl
      go_wp2_with (refine (nearest_any _ _).mono ?_; rintro e w' ⟨rfl, rfl⟩)
      go_round
      case rel => exact ⟨k + 1, by omega, by go_num, by rw [Hs.out]; all_goals exact congrArg (Value.int .i64) (by first | omega | (split <;> omega))⟩
      case measure => simp [intOf]; omega
    · go_wp2_with fail
      go_ret
      exact ⟨ret_end (by rw [List.take_of_length_le (by omega)]), rfl⟩
abbrev IST : TypeId := 169
abbrev I64 : TypeId := 3
theorem i64_info : (Tryz.prog.info? I64).map (fun i => (i.zero, i.size, i.bytes)) = some (some (.int .i64 0), 1, 8) := by kernel_rfl
theorem ints_cells (xs : List Int) : (xs.map fun x => Value.int .i64 x).flatMap (fun v => v.cells.toList) = xs.map (Value.int .i64) := by
  induction xs with
  | nil => rfl
  | cons x r ih =>
    rw [List.map_cons, List.flatMap_cons, ih]
    rfl
theorem run_ints (xs : List Int) (n : Nat) (hn : xs.length = n) (h0 : 0 < n) (h1 : n ≤ 100) (parts : Array (Nat × Value)) (hp : parts.toList = ((xs.map fun x => Value.int .i64 x).zipIdx 0).map fun x => (x.2, x.1)) (w : World) :
    (Instr.buildSlice IST n parts).run Tryz.prog w = .ok (.slice (some ⟨w.heap.size, 0, none⟩) n n) (w.alloc (.cells (xs.map (Value.int .i64)).toArray I64)) := by
  obtain ⟨i, hi, hz⟩ := Option.map_eq_some_iff.1 i64_info
  simp only [Prod.mk.injEq] at hz
  have e := ints_cells xs
  have hf := Great.fill_whole (s := 1) (by omega) (xs.map fun x => Value.int .i64 x) ((Array.range (n * 1)).map ((Value.int .i64 0).cells[· % (Value.int .i64 0).cells.size]!)) (fun v hv => by
    obtain ⟨x, _, rfl⟩ := List.mem_map.1 hv
    rfl) (by simp [hn])
  rw [e, ← hp] at hf
  exact run_buildSlice w IST I64 n parts _ i (.int .i64 0) (by kernel_rfl) hi hz.1 (by rw [hz.2.1]; omega) (by rw [hz.2.1]; omega) (by rw [hz.2.1]; exact hf)
theorem wp_ints {E : World} {L : List Hp} {o : Oper} {a : Act} {w : World} {K : Act → World → Prop} {Q : Exit → Act → World → Prop} {n : Nat} {parts : Array (Nat × Operand)} (xs : List Int) (h : Own E w L) (ho : o.op = .buildSlice IST n parts) (hn : xs.length = n) (h0 : 0 < n) (h1 : n ≤ 100)
    (hp : (parts.map fun (i, x) => (i, a.eval x)).toList = ((xs.map fun x => Value.int .i64 x).zipIdx 0).map fun x => (x.2, x.1))
    (hK : ∀ g w', Own E w' (Hp.blk g I64 (xs.map (Value.int .i64)).toArray :: L) → K (a.put o.dst (.slice (some ⟨g, 0, none⟩) n n)) w') : o.wp Tryz.prog a w K Q := by
  unfold Oper.wp execOp
  simp only [ho, Sem.run_bind, run_ints xs n hn h0 h1 _ hp w, Result.andThen_ok]
  exact hK _ _ (h.alloc _)
theorem wpList_ints {E : World} {L : List Hp} {ops : Array Oper} {rest : List Oper} {o : Oper} {a : Act} {w : World} {Q : Exit → Act → World → Prop} {n : Nat} {parts : Array (Nat × Operand)} (xs : List Int) (h : Own E w L) (hg : o.guard = none) (ho : o.op = .buildSlice IST n parts) (hn : xs.length = n) (h0 : 0 < n) (h1 : n ≤ 100)
    (hp : (parts.map fun (i, x) => (i, a.eval x)).toList = ((xs.map fun x => Value.int .i64 x).zipIdx 0).map fun x => (x.2, x.1))
    (hK : ∀ g w', Own E w' (Hp.blk g I64 (xs.map (Value.int .i64)).toArray :: L) → wpList Tryz.prog ops Q rest (a.put o.dst (.slice (some ⟨g, 0, none⟩) n n)) w') : wpList Tryz.prog ops Q (o :: rest) a w :=
  wpList_plain hg fun _ hS => wp_ints xs h ho hn h0 h1 hp fun g w' h => hS _ _ (hK g w' h)
theorem firstb_any {E : World} {L : List Hp} (g : Nat) (xs : List Int) (w : World) (n c : Nat) (hn : xs.length = n) (hn2 : n ≤ 1000) (h : Own E w (Hp.blk g I64 (xs.map (Value.int .i64)).toArray :: L)) :
    Calls Tryz.prog 84 #[.slice (some ⟨g, 0, none⟩) n c] w fun e w' => e = .returned (.int .i64 (firstOf xs)) ∧ Own E w' (Hp.blk g I64 (xs.map (Value.int .i64)).toArray :: L) := by
  refine (first_any (some ⟨g, 0, none⟩) n c xs w hn2 ⟨hn, fun _ => rfl, fun k hk => ⟨g, 0, rfl, fun j v hv => ?_⟩⟩).mono ?_
  · cases j with
    | zero =>
      simp at hv
      subst hv
      have h2 : (Ph.one g (.cells (xs.map (Value.int .i64)).toArray I64 (0, 0))).cell ⟨g, k, none⟩ = some (.int .i64 xs[k]) := by
        rw [one_cell]
        simp [List.getElem?_eq_getElem hk]
      have h3 := Ph.cell_sub (Own.sub (show Own E w (Hp.ro (Ph.one g (.cells (xs.map (Value.int .i64)).toArray I64 (0, 0))) :: L) from h)) h2
      simpa using h3
    | succ j => simp at hv
  · rintro e w' ⟨rfl, rfl⟩
    exact ⟨rfl, h⟩
def endV (st cr us ii ab en : Int) : Int := if st = 1 then firstOf [near (near cr + firstOf [ab]), near (near us + firstOf [ii])] else firstOf [en]
section
variable {E : World} {L : List Hp}
set_option maxRecDepth 20000 in
set_option maxHeartbeats 4000000 in
theorem end_any (id : Int) (cl su : ByteArray) (A : Option Addr) (n c : Nat) (cr us ii ab gr ge tk st en co : Int) (w : World) (h : Own E w L) :
    Calls Tryz.prog 30 #[.agg (famC id cl su A n c cr us ii ab gr ge tk st en co).toArray] w fun ev w' => ev = .returned (.int .i64 (endV st cr us ii ab en)) ∧ Own E w' L := by
  have H1 := Lib.hid (show Own E _ (Hp.blk w.heap.size FMT (famC id cl su A n c cr us ii ab gr ge tk st en co).toArray :: L) from h.alloc (.cells (famC id cl su A n c cr us ii ab gr ge tk st en co).toArray FMT))
  by_cases hs : st = 1
  · have HV : Hid (endV st cr us ii ab en = firstOf [near (near cr + firstOf [ab]), near (near us + firstOf [ii])]) := Lib.hid (if_pos hs)
    subst hs
    have HC := Lib.hid (fun (w' : World) (h : ∃ M, Own E w' (Hp.blk w.heap.size FMT (famC id cl su A n c cr us ii ab gr ge tk 1 en co).toArray :: M)) => (show w'.cell? ⟨w.heap.size, 4, none⟩ = some (.int .i64 cr) ∧ w'.cell? ⟨w.heap.size, 5, none⟩ = some (.int .i64 us) ∧ w'.cell? ⟨w.heap.size, 6, none⟩ = some (.int .i64 ii) ∧ w'.cell? ⟨w.heap.size, 7, none⟩ = some (.int .i64 ab) from by
      obtain ⟨M, h⟩ := h
      exact ⟨(h.cell 4).trans rfl, (h.cell 5).trans rfl, (h.cell 6).trans rfl, (h.cell 7).trans rfl⟩))
    clear h
    generalize hTB : Hp.blk w.heap.size FMT (famC id cl su A n c cr us ii ab gr ge tk 1 en co).toArray = TB at *
    clear hTB
    unfold famC at *
    go_enter Tryz.func30, Tryz.ntmps30
    go_wp2_with fail
    have h := H1.out.drew
    clear H1
    refine wp_region_text [1, 3, 8, 10] (fun w' => w'.cell? ⟨w.heap.size, 4, none⟩ = some (.int .i64 cr) ∧ w'.cell? ⟨w.heap.size, 5, none⟩ = some (.int .i64 us) ∧ w'.cell? ⟨w.heap.size, 6, none⟩ = some (.int .i64 ii) ∧ w'.cell? ⟨w.heap.size, 7, none⟩ = some (.int .i64 ab)) (by kernel_rfl) ?_ (fun hS => ?_)
    · exact HC.out _ (by first | exact ⟨_, h⟩ | exact ⟨_, h.f1⟩ | exact ⟨_, h.f2⟩ | exact ⟨_, h.f3⟩ | exact ⟨_, h.f4⟩ | exact ⟨_, h.f5⟩ | exact ⟨_, h.f6⟩ | exact ⟨_, h.f7⟩ | exact ⟨_, h.f8⟩ | exact ⟨_, h.f9⟩ | exact ⟨_, h.f10⟩ | exact ⟨_, h.f11⟩ | exact ⟨_, h.f12⟩ | exact ⟨_, h.f13⟩ | exact ⟨_, h.f14⟩ | exact ⟨_, h.f15⟩)
    refine wpAnyG_pure (i := 0) (oi := ⟨some 10, _, _, _, _, _⟩) (v := ?_) rfl (by kernel_rfl) (by kernel_rfl) (by kernel_rfl) (by rfl) (fun _ _ _ h => h) (by rfl) ?_ ?_
    rotate_left
    · intro w
      go_simp
      first | done | with_reducible rfl
    try simp only [Act.put, List.setIfInBounds_toArray, List.set_cons_zero, List.set_cons_succ]
    refine wpAnyG_load (i := 1) (oi := ⟨some 11, _, _, _, _, _⟩) (v := ?_) rfl (by kernel_rfl) (by kernel_rfl) (by kernel_rfl) (by rfl) (fun _ _ _ h => h) (by rfl) ?_ (by assumption) ?_
    rotate_left
    · intro w hS
      try dsimp only at hS
      go_simp
      first | done | with_reducible rfl
    try simp only [Act.put, List.setIfInBounds_toArray, List.set_cons_zero, List.set_cons_succ]
    refine wpAnyG_pure (i := 2) (oi := ⟨some 12, _, _, _, _, _⟩) (v := ?_) rfl (by kernel_rfl) (by kernel_rfl) (by kernel_rfl) (by rfl) (fun _ _ _ h => h) (by rfl) ?_ ?_
    rotate_left
    · intro w
      go_simp
      first | done | with_reducible rfl
    try simp only [Act.put, List.setIfInBounds_toArray, List.set_cons_zero, List.set_cons_succ]
    refine wpAnyG_load (i := 3) (oi := ⟨some 13, _, _, _, _, _⟩) (v := ?_) rfl (by kernel_rfl) (by kernel_rfl) (by kernel_rfl) (by rfl) (fun _ _ _ h => h) (by rfl) ?_ (by assumption) ?_
    rotate_left
    · intro w hS
      try dsimp only at hS
      go_simp
      first | done | with_reducible rfl
    try simp only [Act.put, List.setIfInBounds_toArray, List.set_cons_zero, List.set_cons_succ]
    refine wpAnyG_pure (i := 7) (oi := ⟨some 17, _, _, _, _, _⟩) (v := ?_) rfl (by kernel_rfl) (by kernel_rfl) (by kernel_rfl) (by rfl) (fun _ _ _ h => h) (by rfl) ?_ ?_
    rotate_left
    · intro w
      go_simp
      first | done | with_reducible rfl
    try simp only [Act.put, List.setIfInBounds_toArray, List.set_cons_zero, List.set_cons_succ]
    refine wpAnyG_load (i := 8) (oi := ⟨some 18, _, _, _, _, _⟩) (v := ?_) rfl (by kernel_rfl) (by kernel_rfl) (by kernel_rfl) (by rfl) (fun _ _ _ h => h) (by rfl) ?_ (by assumption) ?_
    rotate_left
    · intro w hS
      try dsimp only at hS
      go_simp
      first | done | with_reducible rfl
    try simp only [Act.put, List.setIfInBounds_toArray, List.set_cons_zero, List.set_cons_succ]
    refine wpAnyG_pure (i := 9) (oi := ⟨some 19, _, _, _, _, _⟩) (v := ?_) rfl (by kernel_rfl) (by kernel_rfl) (by kernel_rfl) (by rfl) (fun _ _ _ h => h) (by rfl) ?_ ?_
    rotate_left
    · intro w
      go_simp
      first | done | with_reducible rfl
    try simp only [Act.put, List.setIfInBounds_toArray, List.set_cons_zero, List.set_cons_succ]
    refine wpAnyG_load (i := 10) (oi := ⟨some 20, _, _, _, _, _⟩) (v := ?_) rfl (by kernel_rfl) (by kernel_rfl) (by kernel_rfl) (by rfl) (fun _ _ _ h => h) (by rfl) ?_ (by assumption) ?_
    rotate_left
    · intro w hS
      try dsimp only at hS
      go_simp
      first | done | with_reducible rfl
    try simp only [Act.put, List.setIfInBounds_toArray, List.set_cons_zero, List.set_cons_succ]
    refine wpAnyG_two (i := 4) (oi := ⟨some 14, _, _, _, _, _⟩) (j := 11) (oj := ⟨some 21, _, _, _, _, _⟩) (by kernel_rfl) rfl rfl (fun K hK => ?_) (fun K hK => ?_)
    · skip
      rw [if_pos (by rfl)]
      refine wp_ints [ab] h rfl rfl (by omega) (by omega) (by first | kernel_rfl | rfl) (fun g4 w4 h => ?_)
      refine hK.out _ _ ?_ (fun hS => ?_)
      · exact HC.out _ (by first | exact ⟨_, h⟩ | exact ⟨_, h.f1⟩ | exact ⟨_, h.f2⟩ | exact ⟨_, h.f3⟩ | exact ⟨_, h.f4⟩ | exact ⟨_, h.f5⟩ | exact ⟨_, h.f6⟩ | exact ⟨_, h.f7⟩ | exact ⟨_, h.f8⟩ | exact ⟨_, h.f9⟩ | exact ⟨_, h.f10⟩ | exact ⟨_, h.f11⟩ | exact ⟨_, h.f12⟩ | exact ⟨_, h.f13⟩ | exact ⟨_, h.f14⟩ | exact ⟨_, h.f15⟩)
      clear hK K
      try simp only [Act.put, List.setIfInBounds_toArray, List.set_cons_zero, List.set_cons_succ]
      refine wpAnyG_two (i := 5) (oi := ⟨some 15, _, _, _, _, _⟩) (j := 11) (oj := ⟨some 21, _, _, _, _, _⟩) (by kernel_rfl) rfl rfl (fun K hK => ?_) (fun K hK => ?_)
      · skip
        rw [if_pos (by rfl)]
        go_simp
        first | have h := (h : Own _ _ (Hp.blk g4 I64 _ :: _)) | have h := (h.f1 : Own _ _ (Hp.blk g4 I64 _ :: _)) | have h := (h.f2 : Own _ _ (Hp.blk g4 I64 _ :: _)) | have h := (h.f3 : Own _ _ (Hp.blk g4 I64 _ :: _)) | have h := (h.f4 : Own _ _ (Hp.blk g4 I64 _ :: _)) | have h := (h.f5 : Own _ _ (Hp.blk g4 I64 _ :: _)) | have h := (h.f6 : Own _ _ (Hp.blk g4 I64 _ :: _)) | have h := (h.f7 : Own _ _ (Hp.blk g4 I64 _ :: _)) | have h := (h.f8 : Own _ _ (Hp.blk g4 I64 _ :: _)) | have h := (h.f9 : Own _ _ (Hp.blk g4 I64 _ :: _)) | have h := (h.f10 : Own _ _ (Hp.blk g4 I64 _ :: _)) | have h := (h.f11 : Own _ _ (Hp.blk g4 I64 _ :: _)) | have h := (h.f12 : Own _ _ (Hp.blk g4 I64 _ :: _)) | have h := (h.f13 : Own _ _ (Hp.blk g4 I64 _ :: _)) | have h := (h.f14 : Own _ _ (Hp.blk g4 I64 _ :: _)) | have h := (h.f15 : Own _ _ (Hp.blk g4 I64 _ :: _))
        refine (firstb_any g4 [ab] _ 1 1 rfl (by omega) h).mono ?_
        rintro e w6 ⟨rfl, h⟩
        refine hK.out _ _ ?_ (fun hS => ?_)
        · exact HC.out _ (by first | exact ⟨_, h⟩ | exact ⟨_, h.f1⟩ | exact ⟨_, h.f2⟩ | exact ⟨_, h.f3⟩ | exact ⟨_, h.f4⟩ | exact ⟨_, h.f5⟩ | exact ⟨_, h.f6⟩ | exact ⟨_, h.f7⟩ | exact ⟨_, h.f8⟩ | exact ⟨_, h.f9⟩ | exact ⟨_, h.f10⟩ | exact ⟨_, h.f11⟩ | exact ⟨_, h.f12⟩ | exact ⟨_, h.f13⟩ | exact ⟨_, h.f14⟩ | exact ⟨_, h.f15⟩)
        clear hK K
        try simp only [Act.put, List.setIfInBounds_toArray, List.set_cons_zero, List.set_cons_succ]
        refine wpAnyG_two (i := 6) (oi := ⟨some 16, _, _, _, _, _⟩) (j := 11) (oj := ⟨some 21, _, _, _, _, _⟩) (by kernel_rfl) rfl rfl (fun K hK => ?_) (fun K hK => ?_)
        · skip
          rw [if_pos (by rfl)]
          go_simp
          refine (clockadd_any _ _ _).mono ?_
          rintro e w7 ⟨rfl, rfl⟩
          refine hK.out _ _ ?_ (fun hS => ?_)
          · exact HC.out _ (by first | exact ⟨_, h⟩ | exact ⟨_, h.f1⟩ | exact ⟨_, h.f2⟩ | exact ⟨_, h.f3⟩ | exact ⟨_, h.f4⟩ | exact ⟨_, h.f5⟩ | exact ⟨_, h.f6⟩ | exact ⟨_, h.f7⟩ | exact ⟨_, h.f8⟩ | exact ⟨_, h.f9⟩ | exact ⟨_, h.f10⟩ | exact ⟨_, h.f11⟩ | exact ⟨_, h.f12⟩ | exact ⟨_, h.f13⟩ | exact ⟨_, h.f14⟩ | exact ⟨_, h.f15⟩)
          clear hK K
          try simp only [Act.put, List.setIfInBounds_toArray, List.set_cons_zero, List.set_cons_succ]
          refine wpAnyG_keep (i := 11) (oi := ⟨some 21, _, _, _, _, _⟩) (by kernel_rfl) rfl (fun K hK => ?_)
          rw [if_pos (by rfl)]
          refine wp_ints [ii] h rfl rfl (by omega) (by omega) (by first | kernel_rfl | rfl) (fun g5 w5 h => ?_)
          refine hK.out _ _ ?_ (fun hS => ?_)
          · exact HC.out _ (by first | exact ⟨_, h⟩ | exact ⟨_, h.f1⟩ | exact ⟨_, h.f2⟩ | exact ⟨_, h.f3⟩ | exact ⟨_, h.f4⟩ | exact ⟨_, h.f5⟩ | exact ⟨_, h.f6⟩ | exact ⟨_, h.f7⟩ | exact ⟨_, h.f8⟩ | exact ⟨_, h.f9⟩ | exact ⟨_, h.f10⟩ | exact ⟨_, h.f11⟩ | exact ⟨_, h.f12⟩ | exact ⟨_, h.f13⟩ | exact ⟨_, h.f14⟩ | exact ⟨_, h.f15⟩)
          clear hK K
          try simp only [Act.put, List.setIfInBounds_toArray, List.set_cons_zero, List.set_cons_succ]
          refine wpAnyG_keep (i := 12) (oi := ⟨some 22, _, _, _, _, _⟩) (by kernel_rfl) rfl (fun K hK => ?_)
          rw [if_pos (by rfl)]
          go_simp
          first | have h := (h : Own _ _ (Hp.blk g5 I64 _ :: _)) | have h := (h.f1 : Own _ _ (Hp.blk g5 I64 _ :: _)) | have h := (h.f2 : Own _ _ (Hp.blk g5 I64 _ :: _)) | have h := (h.f3 : Own _ _ (Hp.blk g5 I64 _ :: _)) | have h := (h.f4 : Own _ _ (Hp.blk g5 I64 _ :: _)) | have h := (h.f5 : Own _ _ (Hp.blk g5 I64 _ :: _)) | have h := (h.f6 : Own _ _ (Hp.blk g5 I64 _ :: _)) | have h := (h.f7 : Own _ _ (Hp.blk g5 I64 _ :: _)) | have h := (h.f8 : Own _ _ (Hp.blk g5 I64 _ :: _)) | have h := (h.f9 : Own _ _ (Hp.blk g5 I64 _ :: _)) | have h := (h.f10 : Own _ _ (Hp.blk g5 I64 _ :: _)) | have h := (h.f11 : Own _ _ (Hp.blk g5 I64 _ :: _)) | have h := (h.f12 : Own _ _ (Hp.blk g5 I64 _ :: _)) | have h := (h.f13 : Own _ _ (Hp.blk g5 I64 _ :: _)) | have h := (h.f14 : Own _ _ (Hp.blk g5 I64 _ :: _)) | have h := (h.f15 : Own _ _ (Hp.blk g5 I64 _ :: _))
          refine (firstb_any g5 [ii] _ 1 1 rfl (by omega) h).mono ?_
          rintro e w6 ⟨rfl, h⟩
          refine hK.out _ _ ?_ (fun hS => ?_)
          · exact HC.out _ (by first | exact ⟨_, h⟩ | exact ⟨_, h.f1⟩ | exact ⟨_, h.f2⟩ | exact ⟨_, h.f3⟩ | exact ⟨_, h.f4⟩ | exact ⟨_, h.f5⟩ | exact ⟨_, h.f6⟩ | exact ⟨_, h.f7⟩ | exact ⟨_, h.f8⟩ | exact ⟨_, h.f9⟩ | exact ⟨_, h.f10⟩ | exact ⟨_, h.f11⟩ | exact ⟨_, h.f12⟩ | exact ⟨_, h.f13⟩ | exact ⟨_, h.f14⟩ | exact ⟨_, h.f15⟩)
          clear hK K
          try simp only [Act.put, List.setIfInBounds_toArray, List.set_cons_zero, List.set_cons_succ]
          refine wpAnyG_keep (i := 13) (oi := ⟨some 23, _, _, _, _, _⟩) (by kernel_rfl) rfl (fun K hK => ?_)
          rw [if_pos (by rfl)]
          go_simp
          refine (clockadd_any _ _ _).mono ?_
          rintro e w7 ⟨rfl, rfl⟩
          refine hK.out _ _ ?_ (fun hS => ?_)
          · exact HC.out _ (by first | exact ⟨_, h⟩ | exact ⟨_, h.f1⟩ | exact ⟨_, h.f2⟩ | exact ⟨_, h.f3⟩ | exact ⟨_, h.f4⟩ | exact ⟨_, h.f5⟩ | exact ⟨_, h.f6⟩ | exact ⟨_, h.f7⟩ | exact ⟨_, h.f8⟩ | exact ⟨_, h.f9⟩ | exact ⟨_, h.f10⟩ | exact ⟨_, h.f11⟩ | exact ⟨_, h.f12⟩ | exact ⟨_, h.f13⟩ | exact ⟨_, h.f14⟩ | exact ⟨_, h.f15⟩)
          clear hK K
          try simp only [Act.put, List.setIfInBounds_toArray, List.set_cons_zero, List.set_cons_succ]
          refine wpAnyG_keep (i := 14) (oi := ⟨some 24, _, _, _, _, _⟩) (by kernel_rfl) rfl (fun K hK => ?_)
          rw [if_pos (by rfl)]
          refine wp_ints [near (near cr + firstOf [ab]), near (near us + firstOf [ii])] h rfl rfl (by omega) (by omega) (by first | kernel_rfl | rfl) (fun g8 w8 h => ?_)
          refine hK.out _ _ ?_ (fun hS => ?_)
          · exact HC.out _ (by first | exact ⟨_, h⟩ | exact ⟨_, h.f1⟩ | exact ⟨_, h.f2⟩ | exact ⟨_, h.f3⟩ | exact ⟨_, h.f4⟩ | exact ⟨_, h.f5⟩ | exact ⟨_, h.f6⟩ | exact ⟨_, h.f7⟩ | exact ⟨_, h.f8⟩ | exact ⟨_, h.f9⟩ | exact ⟨_, h.f10⟩ | exact ⟨_, h.f11⟩ | exact ⟨_, h.f12⟩ | exact ⟨_, h.f13⟩ | exact ⟨_, h.f14⟩ | exact ⟨_, h.f15⟩)
          clear hK K
          try simp only [Act.put, List.setIfInBounds_toArray, List.set_cons_zero, List.set_cons_succ]
          refine wpAnyG_keep (i := 15) (oi := ⟨some 25, _, _, _, _, _⟩) (by kernel_rfl) rfl (fun K hK => ?_)
          rw [if_pos (by rfl)]
          go_simp
          refine (firstb_any g8 _ _ 2 2 rfl (by omega) h).mono ?_
          rintro e w9 ⟨rfl, h⟩
          refine hK.out _ _ ?_ (fun hS => ?_)
          · exact HC.out _ (by first | exact ⟨_, h⟩ | exact ⟨_, h.f1⟩ | exact ⟨_, h.f2⟩ | exact ⟨_, h.f3⟩ | exact ⟨_, h.f4⟩ | exact ⟨_, h.f5⟩ | exact ⟨_, h.f6⟩ | exact ⟨_, h.f7⟩ | exact ⟨_, h.f8⟩ | exact ⟨_, h.f9⟩ | exact ⟨_, h.f10⟩ | exact ⟨_, h.f11⟩ | exact ⟨_, h.f12⟩ | exact ⟨_, h.f13⟩ | exact ⟨_, h.f14⟩ | exact ⟨_, h.f15⟩)
          clear hK K
          try simp only [Act.put, List.setIfInBounds_toArray, List.set_cons_zero, List.set_cons_succ]
          refine wpAnyG_pure (i := 16) (oi := ⟨some 2, _, _, _, _, _⟩) (v := ?_) rfl (by kernel_rfl) (by kernel_rfl) (by kernel_rfl) (by rfl) (fun _ _ _ h => h) (by rfl) ?_ ?_
          rotate_left
          · intro w
            go_simp
            first | done | with_reducible rfl
          try simp only [Act.put, List.setIfInBounds_toArray, List.set_cons_zero, List.set_cons_succ]
          refine wpAnyG_done (by kernel_rfl) ?_ _
          refine NoPanic.normal ?_
          go_wp2_with fail
          go_ret
          refine ⟨ret_end HV.out.symm, ?_⟩
          first | have h := (h : Own _ _ (TB :: _)) | have h := (h.f1 : Own _ _ (TB :: _)) | have h := (h.f2 : Own _ _ (TB :: _)) | have h := (h.f3 : Own _ _ (TB :: _)) | have h := (h.f4 : Own _ _ (TB :: _)) | have h := (h.f5 : Own _ _ (TB :: _)) | have h := (h.f6 : Own _ _ (TB :: _)) | have h := (h.f7 : Own _ _ (TB :: _)) | have h := (h.f8 : Own _ _ (TB :: _)) | have h := (h.f9 : Own _ _ (TB :: _)) | have h := (h.f10 : Own _ _ (TB :: _)) | have h := (h.f11 : Own _ _ (TB :: _)) | have h := (h.f12 : Own _ _ (TB :: _)) | have h := (h.f13 : Own _ _ (TB :: _)) | have h := (h.f14 : Own _ _ (TB :: _)) | have h := (h.f15 : Own _ _ (TB :: _))
          first | exact h.drop | exact h.drop.drop.drop.drop
        · skip
          rw [if_pos (by rfl)]
          refine wp_ints [ii] h rfl rfl (by omega) (by omega) (by first | kernel_rfl | rfl) (fun g5 w5 h => ?_)
          refine hK.out _ _ ?_ (fun hS => ?_)
          · exact HC.out _ (by first | exact ⟨_, h⟩ | exact ⟨_, h.f1⟩ | exact ⟨_, h.f2⟩ | exact ⟨_, h.f3⟩ | exact ⟨_, h.f4⟩ | exact ⟨_, h.f5⟩ | exact ⟨_, h.f6⟩ | exact ⟨_, h.f7⟩ | exact ⟨_, h.f8⟩ | exact ⟨_, h.f9⟩ | exact ⟨_, h.f10⟩ | exact ⟨_, h.f11⟩ | exact ⟨_, h.f12⟩ | exact ⟨_, h.f13⟩ | exact ⟨_, h.f14⟩ | exact ⟨_, h.f15⟩)
          clear hK K
          try simp only [Act.put, List.setIfInBounds_toArray, List.set_cons_zero, List.set_cons_succ]
          refine wpAnyG_keep (i := 6) (oi := ⟨some 16, _, _, _, _, _⟩) (by kernel_rfl) rfl (fun K hK => ?_)
          rw [if_pos (by rfl)]
          go_simp
          refine (clockadd_any _ _ _).mono ?_
          rintro e w7 ⟨rfl, rfl⟩
          refine hK.out _ _ ?_ (fun hS => ?_)
          · exact HC.out _ (by first | exact ⟨_, h⟩ | exact ⟨_, h.f1⟩ | exact ⟨_, h.f2⟩ | exact ⟨_, h.f3⟩ | exact ⟨_, h.f4⟩ | exact ⟨_, h.f5⟩ | exact ⟨_, h.f6⟩ | exact ⟨_, h.f7⟩ | exact ⟨_, h.f8⟩ | exact ⟨_, h.f9⟩ | exact ⟨_, h.f10⟩ | exact ⟨_, h.f11⟩ | exact ⟨_, h.f12⟩ | exact ⟨_, h.f13⟩ | exact ⟨_, h.f14⟩ | exact ⟨_, h.f15⟩)
          clear hK K
          try simp only [Act.put, List.setIfInBounds_toArray, List.set_cons_zero, List.set_cons_succ]
          refine wpAnyG_keep (i := 12) (oi := ⟨some 22, _, _, _, _, _⟩) (by kernel_rfl) rfl (fun K hK => ?_)
          rw [if_pos (by rfl)]
          go_simp
          first | have h := (h : Own _ _ (Hp.blk g5 I64 _ :: _)) | have h := (h.f1 : Own _ _ (Hp.blk g5 I64 _ :: _)) | have h := (h.f2 : Own _ _ (Hp.blk g5 I64 _ :: _)) | have h := (h.f3 : Own _ _ (Hp.blk g5 I64 _ :: _)) | have h := (h.f4 : Own _ _ (Hp.blk g5 I64 _ :: _)) | have h := (h.f5 : Own _ _ (Hp.blk g5 I64 _ :: _)) | have h := (h.f6 : Own _ _ (Hp.blk g5 I64 _ :: _)) | have h := (h.f7 : Own _ _ (Hp.blk g5 I64 _ :: _)) | have h := (h.f8 : Own _ _ (Hp.blk g5 I64 _ :: _)) | have h := (h.f9 : Own _ _ (Hp.blk g5 I64 _ :: _)) | have h := (h.f10 : Own _ _ (Hp.blk g5 I64 _ :: _)) | have h := (h.f11 : Own _ _ (Hp.blk g5 I64 _ :: _)) | have h := (h.f12 : Own _ _ (Hp.blk g5 I64 _ :: _)) | have h := (h.f13 : Own _ _ (Hp.blk g5 I64 _ :: _)) | have h := (h.f14 : Own _ _ (Hp.blk g5 I64 _ :: _)) | have h := (h.f15 : Own _ _ (Hp.blk g5 I64 _ :: _))
          refine (firstb_any g5 [ii] _ 1 1 rfl (by omega) h).mono ?_
          rintro e w6 ⟨rfl, h⟩
          refine hK.out _ _ ?_ (fun hS => ?_)
          · exact HC.out _ (by first | exact ⟨_, h⟩ | exact ⟨_, h.f1⟩ | exact ⟨_, h.f2⟩ | exact ⟨_, h.f3⟩ | exact ⟨_, h.f4⟩ | exact ⟨_, h.f5⟩ | exact ⟨_, h.f6⟩ | exact ⟨_, h.f7⟩ | exact ⟨_, h.f8⟩ | exact ⟨_, h.f9⟩ | exact ⟨_, h.f10⟩ | exact ⟨_, h.f11⟩ | exact ⟨_, h.f12⟩ | exact ⟨_, h.f13⟩ | exact ⟨_, h.f14⟩ | exact ⟨_, h.f15⟩)
          clear hK K
          try simp only [Act.put, List.setIfInBounds_toArray, List.set_cons_zero, List.set_cons_succ]
          refine wpAnyG_keep (i := 13) (oi := ⟨some 23, _, _, _, _, _⟩) (by kernel_rfl) rfl (fun K hK => ?_)
          rw [if_pos (by rfl)]
          go_simp
          refine (clockadd_any _ _ _).mono ?_
          rintro e w7 ⟨rfl, rfl⟩
          refine hK.out _ _ ?_ (fun hS => ?_)
          · exact HC.out _ (by first | exact ⟨_, h⟩ | exact ⟨_, h.f1⟩ | exact ⟨_, h.f2⟩ | exact ⟨_, h.f3⟩ | exact ⟨_, h.f4⟩ | exact ⟨_, h.f5⟩ | exact ⟨_, h.f6⟩ | exact ⟨_, h.f7⟩ | exact ⟨_, h.f8⟩ | exact ⟨_, h.f9⟩ | exact ⟨_, h.f10⟩ | exact ⟨_, h.f11⟩ | exact ⟨_, h.f12⟩ | exact ⟨_, h.f13⟩ | exact ⟨_, h.f14⟩ | exact ⟨_, h.f15⟩)
          clear hK K
          try simp only [Act.put, List.setIfInBounds_toArray, List.set_cons_zero, List.set_cons_succ]
          refine wpAnyG_keep (i := 14) (oi := ⟨some 24, _, _, _, _, _⟩) (by kernel_rfl) rfl (fun K hK => ?_)
          rw [if_pos (by rfl)]
          refine wp_ints [near (near cr + firstOf [ab]), near (near us + firstOf [ii])] h rfl rfl (by omega) (by omega) (by first | kernel_rfl | rfl) (fun g8 w8 h => ?_)
          refine hK.out _ _ ?_ (fun hS => ?_)
          · exact HC.out _ (by first | exact ⟨_, h⟩ | exact ⟨_, h.f1⟩ | exact ⟨_, h.f2⟩ | exact ⟨_, h.f3⟩ | exact ⟨_, h.f4⟩ | exact ⟨_, h.f5⟩ | exact ⟨_, h.f6⟩ | exact ⟨_, h.f7⟩ | exact ⟨_, h.f8⟩ | exact ⟨_, h.f9⟩ | exact ⟨_, h.f10⟩ | exact ⟨_, h.f11⟩ | exact ⟨_, h.f12⟩ | exact ⟨_, h.f13⟩ | exact ⟨_, h.f14⟩ | exact ⟨_, h.f15⟩)
          clear hK K
          try simp only [Act.put, List.setIfInBounds_toArray, List.set_cons_zero, List.set_cons_succ]
          refine wpAnyG_keep (i := 15) (oi := ⟨some 25, _, _, _, _, _⟩) (by kernel_rfl) rfl (fun K hK => ?_)
          rw [if_pos (by rfl)]
          go_simp
          refine (firstb_any g8 _ _ 2 2 rfl (by omega) h).mono ?_
          rintro e w9 ⟨rfl, h⟩
          refine hK.out _ _ ?_ (fun hS => ?_)
          · exact HC.out _ (by first | exact ⟨_, h⟩ | exact ⟨_, h.f1⟩ | exact ⟨_, h.f2⟩ | exact ⟨_, h.f3⟩ | exact ⟨_, h.f4⟩ | exact ⟨_, h.f5⟩ | exact ⟨_, h.f6⟩ | exact ⟨_, h.f7⟩ | exact ⟨_, h.f8⟩ | exact ⟨_, h.f9⟩ | exact ⟨_, h.f10⟩ | exact ⟨_, h.f11⟩ | exact ⟨_, h.f12⟩ | exact ⟨_, h.f13⟩ | exact ⟨_, h.f14⟩ | exact ⟨_, h.f15⟩)
          clear hK K
          try simp only [Act.put, List.setIfInBounds_toArray, List.set_cons_zero, List.set_cons_succ]
          refine wpAnyG_pure (i := 16) (oi := ⟨some 2, _, _, _, _, _⟩) (v := ?_) rfl (by kernel_rfl) (by kernel_rfl) (by kernel_rfl) (by rfl) (fun _ _ _ h => h) (by rfl) ?_ ?_
          rotate_left
          · intro w
            go_simp
            first | done | with_reducible rfl
          try simp only [Act.put, List.setIfInBounds_toArray, List.set_cons_zero, List.set_cons_succ]
          refine wpAnyG_done (by kernel_rfl) ?_ _
          refine NoPanic.normal ?_
          go_wp2_with fail
          go_ret
          refine ⟨ret_end HV.out.symm, ?_⟩
          first | have h := (h : Own _ _ (TB :: _)) | have h := (h.f1 : Own _ _ (TB :: _)) | have h := (h.f2 : Own _ _ (TB :: _)) | have h := (h.f3 : Own _ _ (TB :: _)) | have h := (h.f4 : Own _ _ (TB :: _)) | have h := (h.f5 : Own _ _ (TB :: _)) | have h := (h.f6 : Own _ _ (TB :: _)) | have h := (h.f7 : Own _ _ (TB :: _)) | have h := (h.f8 : Own _ _ (TB :: _)) | have h := (h.f9 : Own _ _ (TB :: _)) | have h := (h.f10 : Own _ _ (TB :: _)) | have h := (h.f11 : Own _ _ (TB :: _)) | have h := (h.f12 : Own _ _ (TB :: _)) | have h := (h.f13 : Own _ _ (TB :: _)) | have h := (h.f14 : Own _ _ (TB :: _)) | have h := (h.f15 : Own _ _ (TB :: _))
          first | exact h.drop | exact h.drop.drop.drop.drop
      · skip
        rw [if_pos (by rfl)]
        refine wp_ints [ii] h rfl rfl (by omega) (by omega) (by first | kernel_rfl | rfl) (fun g5 w5 h => ?_)
        refine hK.out _ _ ?_ (fun hS => ?_)
        · exact HC.out _ (by first | exact ⟨_, h⟩ | exact ⟨_, h.f1⟩ | exact ⟨_, h.f2⟩ | exact ⟨_, h.f3⟩ | exact ⟨_, h.f4⟩ | exact ⟨_, h.f5⟩ | exact ⟨_, h.f6⟩ | exact ⟨_, h.f7⟩ | exact ⟨_, h.f8⟩ | exact ⟨_, h.f9⟩ | exact ⟨_, h.f10⟩ | exact ⟨_, h.f11⟩ | exact ⟨_, h.f12⟩ | exact ⟨_, h.f13⟩ | exact ⟨_, h.f14⟩ | exact ⟨_, h.f15⟩)
        clear hK K
        try simp only [Act.put, List.setIfInBounds_toArray, List.set_cons_zero, List.set_cons_succ]
        refine wpAnyG_keep (i := 5) (oi := ⟨some 15, _, _, _, _, _⟩) (by kernel_rfl) rfl (fun K hK => ?_)
        rw [if_pos (by rfl)]
        go_simp
        first | have h := (h : Own _ _ (Hp.blk g4 I64 _ :: _)) | have h := (h.f1 : Own _ _ (Hp.blk g4 I64 _ :: _)) | have h := (h.f2 : Own _ _ (Hp.blk g4 I64 _ :: _)) | have h := (h.f3 : Own _ _ (Hp.blk g4 I64 _ :: _)) | have h := (h.f4 : Own _ _ (Hp.blk g4 I64 _ :: _)) | have h := (h.f5 : Own _ _ (Hp.blk g4 I64 _ :: _)) | have h := (h.f6 : Own _ _ (Hp.blk g4 I64 _ :: _)) | have h := (h.f7 : Own _ _ (Hp.blk g4 I64 _ :: _)) | have h := (h.f8 : Own _ _ (Hp.blk g4 I64 _ :: _)) | have h := (h.f9 : Own _ _ (Hp.blk g4 I64 _ :: _)) | have h := (h.f10 : Own _ _ (Hp.blk g4 I64 _ :: _)) | have h := (h.f11 : Own _ _ (Hp.blk g4 I64 _ :: _)) | have h := (h.f12 : Own _ _ (Hp.blk g4 I64 _ :: _)) | have h := (h.f13 : Own _ _ (Hp.blk g4 I64 _ :: _)) | have h := (h.f14 : Own _ _ (Hp.blk g4 I64 _ :: _)) | have h := (h.f15 : Own _ _ (Hp.blk g4 I64 _ :: _))
        refine (firstb_any g4 [ab] _ 1 1 rfl (by omega) h).mono ?_
        rintro e w6 ⟨rfl, h⟩
        refine hK.out _ _ ?_ (fun hS => ?_)
        · exact HC.out _ (by first | exact ⟨_, h⟩ | exact ⟨_, h.f1⟩ | exact ⟨_, h.f2⟩ | exact ⟨_, h.f3⟩ | exact ⟨_, h.f4⟩ | exact ⟨_, h.f5⟩ | exact ⟨_, h.f6⟩ | exact ⟨_, h.f7⟩ | exact ⟨_, h.f8⟩ | exact ⟨_, h.f9⟩ | exact ⟨_, h.f10⟩ | exact ⟨_, h.f11⟩ | exact ⟨_, h.f12⟩ | exact ⟨_, h.f13⟩ | exact ⟨_, h.f14⟩ | exact ⟨_, h.f15⟩)
        clear hK K
        try simp only [Act.put, List.setIfInBounds_toArray, List.set_cons_zero, List.set_cons_succ]
        refine wpAnyG_keep (i := 6) (oi := ⟨some 16, _, _, _, _, _⟩) (by kernel_rfl) rfl (fun K hK => ?_)
        rw [if_pos (by rfl)]
        go_simp
        refine (clockadd_any _ _ _).mono ?_
        rintro e w7 ⟨rfl, rfl⟩
        refine hK.out _ _ ?_ (fun hS => ?_)
        · exact HC.out _ (by first | exact ⟨_, h⟩ | exact ⟨_, h.f1⟩ | exact ⟨_, h.f2⟩ | exact ⟨_, h.f3⟩ | exact ⟨_, h.f4⟩ | exact ⟨_, h.f5⟩ | exact ⟨_, h.f6⟩ | exact ⟨_, h.f7⟩ | exact ⟨_, h.f8⟩ | exact ⟨_, h.f9⟩ | exact ⟨_, h.f10⟩ | exact ⟨_, h.f11⟩ | exact ⟨_, h.f12⟩ | exact ⟨_, h.f13⟩ | exact ⟨_, h.f14⟩ | exact ⟨_, h.f15⟩)
        clear hK K
        try simp only [Act.put, List.setIfInBounds_toArray, List.set_cons_zero, List.set_cons_succ]
        refine wpAnyG_keep (i := 12) (oi := ⟨some 22, _, _, _, _, _⟩) (by kernel_rfl) rfl (fun K hK => ?_)
        rw [if_pos (by rfl)]
        go_simp
        first | have h := (h : Own _ _ (Hp.blk g5 I64 _ :: _)) | have h := (h.f1 : Own _ _ (Hp.blk g5 I64 _ :: _)) | have h := (h.f2 : Own _ _ (Hp.blk g5 I64 _ :: _)) | have h := (h.f3 : Own _ _ (Hp.blk g5 I64 _ :: _)) | have h := (h.f4 : Own _ _ (Hp.blk g5 I64 _ :: _)) | have h := (h.f5 : Own _ _ (Hp.blk g5 I64 _ :: _)) | have h := (h.f6 : Own _ _ (Hp.blk g5 I64 _ :: _)) | have h := (h.f7 : Own _ _ (Hp.blk g5 I64 _ :: _)) | have h := (h.f8 : Own _ _ (Hp.blk g5 I64 _ :: _)) | have h := (h.f9 : Own _ _ (Hp.blk g5 I64 _ :: _)) | have h := (h.f10 : Own _ _ (Hp.blk g5 I64 _ :: _)) | have h := (h.f11 : Own _ _ (Hp.blk g5 I64 _ :: _)) | have h := (h.f12 : Own _ _ (Hp.blk g5 I64 _ :: _)) | have h := (h.f13 : Own _ _ (Hp.blk g5 I64 _ :: _)) | have h := (h.f14 : Own _ _ (Hp.blk g5 I64 _ :: _)) | have h := (h.f15 : Own _ _ (Hp.blk g5 I64 _ :: _))
        refine (firstb_any g5 [ii] _ 1 1 rfl (by omega) h).mono ?_
        rintro e w6 ⟨rfl, h⟩
        refine hK.out _ _ ?_ (fun hS => ?_)
        · exact HC.out _ (by first | exact ⟨_, h⟩ | exact ⟨_, h.f1⟩ | exact ⟨_, h.f2⟩ | exact ⟨_, h.f3⟩ | exact ⟨_, h.f4⟩ | exact ⟨_, h.f5⟩ | exact ⟨_, h.f6⟩ | exact ⟨_, h.f7⟩ | exact ⟨_, h.f8⟩ | exact ⟨_, h.f9⟩ | exact ⟨_, h.f10⟩ | exact ⟨_, h.f11⟩ | exact ⟨_, h.f12⟩ | exact ⟨_, h.f13⟩ | exact ⟨_, h.f14⟩ | exact ⟨_, h.f15⟩)
        clear hK K
        try simp only [Act.put, List.setIfInBounds_toArray, List.set_cons_zero, List.set_cons_succ]
        refine wpAnyG_keep (i := 13) (oi := ⟨some 23, _, _, _, _, _⟩) (by kernel_rfl) rfl (fun K hK => ?_)
        rw [if_pos (by rfl)]
        go_simp
        refine (clockadd_any _ _ _).mono ?_
        rintro e w7 ⟨rfl, rfl⟩
        refine hK.out _ _ ?_ (fun hS => ?_)
        · exact HC.out _ (by first | exact ⟨_, h⟩ | exact ⟨_, h.f1⟩ | exact ⟨_, h.f2⟩ | exact ⟨_, h.f3⟩ | exact ⟨_, h.f4⟩ | exact ⟨_, h.f5⟩ | exact ⟨_, h.f6⟩ | exact ⟨_, h.f7⟩ | exact ⟨_, h.f8⟩ | exact ⟨_, h.f9⟩ | exact ⟨_, h.f10⟩ | exact ⟨_, h.f11⟩ | exact ⟨_, h.f12⟩ | exact ⟨_, h.f13⟩ | exact ⟨_, h.f14⟩ | exact ⟨_, h.f15⟩)
        clear hK K
        try simp only [Act.put, List.setIfInBounds_toArray, List.set_cons_zero, List.set_cons_succ]
        refine wpAnyG_keep (i := 14) (oi := ⟨some 24, _, _, _, _, _⟩) (by kernel_rfl) rfl (fun K hK => ?_)
        rw [if_pos (by rfl)]
        refine wp_ints [near (near cr + firstOf [ab]), near (near us + firstOf [ii])] h rfl rfl (by omega) (by omega) (by first | kernel_rfl | rfl) (fun g8 w8 h => ?_)
        refine hK.out _ _ ?_ (fun hS => ?_)
        · exact HC.out _ (by first | exact ⟨_, h⟩ | exact ⟨_, h.f1⟩ | exact ⟨_, h.f2⟩ | exact ⟨_, h.f3⟩ | exact ⟨_, h.f4⟩ | exact ⟨_, h.f5⟩ | exact ⟨_, h.f6⟩ | exact ⟨_, h.f7⟩ | exact ⟨_, h.f8⟩ | exact ⟨_, h.f9⟩ | exact ⟨_, h.f10⟩ | exact ⟨_, h.f11⟩ | exact ⟨_, h.f12⟩ | exact ⟨_, h.f13⟩ | exact ⟨_, h.f14⟩ | exact ⟨_, h.f15⟩)
        clear hK K
        try simp only [Act.put, List.setIfInBounds_toArray, List.set_cons_zero, List.set_cons_succ]
        refine wpAnyG_keep (i := 15) (oi := ⟨some 25, _, _, _, _, _⟩) (by kernel_rfl) rfl (fun K hK => ?_)
        rw [if_pos (by rfl)]
        go_simp
        refine (firstb_any g8 _ _ 2 2 rfl (by omega) h).mono ?_
        rintro e w9 ⟨rfl, h⟩
        refine hK.out _ _ ?_ (fun hS => ?_)
        · exact HC.out _ (by first | exact ⟨_, h⟩ | exact ⟨_, h.f1⟩ | exact ⟨_, h.f2⟩ | exact ⟨_, h.f3⟩ | exact ⟨_, h.f4⟩ | exact ⟨_, h.f5⟩ | exact ⟨_, h.f6⟩ | exact ⟨_, h.f7⟩ | exact ⟨_, h.f8⟩ | exact ⟨_, h.f9⟩ | exact ⟨_, h.f10⟩ | exact ⟨_, h.f11⟩ | exact ⟨_, h.f12⟩ | exact ⟨_, h.f13⟩ | exact ⟨_, h.f14⟩ | exact ⟨_, h.f15⟩)
        clear hK K
        try simp only [Act.put, List.setIfInBounds_toArray, List.set_cons_zero, List.set_cons_succ]
        refine wpAnyG_pure (i := 16) (oi := ⟨some 2, _, _, _, _, _⟩) (v := ?_) rfl (by kernel_rfl) (by kernel_rfl) (by kernel_rfl) (by rfl) (fun _ _ _ h => h) (by rfl) ?_ ?_
        rotate_left
        · intro w
          go_simp
          first | done | with_reducible rfl
        try simp only [Act.put, List.setIfInBounds_toArray, List.set_cons_zero, List.set_cons_succ]
        refine wpAnyG_done (by kernel_rfl) ?_ _
        refine NoPanic.normal ?_
        go_wp2_with fail
        go_ret
        refine ⟨ret_end HV.out.symm, ?_⟩
        first | have h := (h : Own _ _ (TB :: _)) | have h := (h.f1 : Own _ _ (TB :: _)) | have h := (h.f2 : Own _ _ (TB :: _)) | have h := (h.f3 : Own _ _ (TB :: _)) | have h := (h.f4 : Own _ _ (TB :: _)) | have h := (h.f5 : Own _ _ (TB :: _)) | have h := (h.f6 : Own _ _ (TB :: _)) | have h := (h.f7 : Own _ _ (TB :: _)) | have h := (h.f8 : Own _ _ (TB :: _)) | have h := (h.f9 : Own _ _ (TB :: _)) | have h := (h.f10 : Own _ _ (TB :: _)) | have h := (h.f11 : Own _ _ (TB :: _)) | have h := (h.f12 : Own _ _ (TB :: _)) | have h := (h.f13 : Own _ _ (TB :: _)) | have h := (h.f14 : Own _ _ (TB :: _)) | have h := (h.f15 : Own _ _ (TB :: _))
        first | exact h.drop | exact h.drop.drop.drop.drop
    · skip
      rw [if_pos (by rfl)]
      refine wp_ints [ii] h rfl rfl (by omega) (by omega) (by first | kernel_rfl | rfl) (fun g5 w5 h => ?_)
      refine hK.out _ _ ?_ (fun hS => ?_)
      · exact HC.out _ (by first | exact ⟨_, h⟩ | exact ⟨_, h.f1⟩ | exact ⟨_, h.f2⟩ | exact ⟨_, h.f3⟩ | exact ⟨_, h.f4⟩ | exact ⟨_, h.f5⟩ | exact ⟨_, h.f6⟩ | exact ⟨_, h.f7⟩ | exact ⟨_, h.f8⟩ | exact ⟨_, h.f9⟩ | exact ⟨_, h.f10⟩ | exact ⟨_, h.f11⟩ | exact ⟨_, h.f12⟩ | exact ⟨_, h.f13⟩ | exact ⟨_, h.f14⟩ | exact ⟨_, h.f15⟩)
      clear hK K
      try simp only [Act.put, List.setIfInBounds_toArray, List.set_cons_zero, List.set_cons_succ]
      refine wpAnyG_keep (i := 4) (oi := ⟨some 14, _, _, _, _, _⟩) (by kernel_rfl) rfl (fun K hK => ?_)
      rw [if_pos (by rfl)]
      refine wp_ints [ab] h rfl rfl (by omega) (by omega) (by first | kernel_rfl | rfl) (fun g4 w4 h => ?_)
      refine hK.out _ _ ?_ (fun hS => ?_)
      · exact HC.out _ (by first | exact ⟨_, h⟩ | exact ⟨_, h.f1⟩ | exact ⟨_, h.f2⟩ | exact ⟨_, h.f3⟩ | exact ⟨_, h.f4⟩ | exact ⟨_, h.f5⟩ | exact ⟨_, h.f6⟩ | exact ⟨_, h.f7⟩ | exact ⟨_, h.f8⟩ | exact ⟨_, h.f9⟩ | exact ⟨_, h.f10⟩ | exact ⟨_, h.f11⟩ | exact ⟨_, h.f12⟩ | exact ⟨_, h.f13⟩ | exact ⟨_, h.f14⟩ | exact ⟨_, h.f15⟩)
      clear hK K
      try simp only [Act.put, List.setIfInBounds_toArray, List.set_cons_zero, List.set_cons_succ]
      refine wpAnyG_keep (i := 5) (oi := ⟨some 15, _, _, _, _, _⟩) (by kernel_rfl) rfl (fun K hK => ?_)
      rw [if_pos (by rfl)]
      go_simp
      first | have h := (h : Own _ _ (Hp.blk g4 I64 _ :: _)) | have h := (h.f1 : Own _ _ (Hp.blk g4 I64 _ :: _)) | have h := (h.f2 : Own _ _ (Hp.blk g4 I64 _ :: _)) | have h := (h.f3 : Own _ _ (Hp.blk g4 I64 _ :: _)) | have h := (h.f4 : Own _ _ (Hp.blk g4 I64 _ :: _)) | have h := (h.f5 : Own _ _ (Hp.blk g4 I64 _ :: _)) | have h := (h.f6 : Own _ _ (Hp.blk g4 I64 _ :: _)) | have h := (h.f7 : Own _ _ (Hp.blk g4 I64 _ :: _)) | have h := (h.f8 : Own _ _ (Hp.blk g4 I64 _ :: _)) | have h := (h.f9 : Own _ _ (Hp.blk g4 I64 _ :: _)) | have h := (h.f10 : Own _ _ (Hp.blk g4 I64 _ :: _)) | have h := (h.f11 : Own _ _ (Hp.blk g4 I64 _ :: _)) | have h := (h.f12 : Own _ _ (Hp.blk g4 I64 _ :: _)) | have h := (h.f13 : Own _ _ (Hp.blk g4 I64 _ :: _)) | have h := (h.f14 : Own _ _ (Hp.blk g4 I64 _ :: _)) | have h := (h.f15 : Own _ _ (Hp.blk g4 I64 _ :: _))
      refine (firstb_any g4 [ab] _ 1 1 rfl (by omega) h).mono ?_
      rintro e w6 ⟨rfl, h⟩
      refine hK.out _ _ ?_ (fun hS => ?_)
      · exact HC.out _ (by first | exact ⟨_, h⟩ | exact ⟨_, h.f1⟩ | exact ⟨_, h.f2⟩ | exact ⟨_, h.f3⟩ | exact ⟨_, h.f4⟩ | exact ⟨_, h.f5⟩ | exact ⟨_, h.f6⟩ | exact ⟨_, h.f7⟩ | exact ⟨_, h.f8⟩ | exact ⟨_, h.f9⟩ | exact ⟨_, h.f10⟩ | exact ⟨_, h.f11⟩ | exact ⟨_, h.f12⟩ | exact ⟨_, h.f13⟩ | exact ⟨_, h.f14⟩ | exact ⟨_, h.f15⟩)
      clear hK K
      try simp only [Act.put, List.setIfInBounds_toArray, List.set_cons_zero, List.set_cons_succ]
      refine wpAnyG_keep (i := 6) (oi := ⟨some 16, _, _, _, _, _⟩) (by kernel_rfl) rfl (fun K hK => ?_)
      rw [if_pos (by rfl)]
      go_simp
      refine (clockadd_any _ _ _).mono ?_
      rintro e w7 ⟨rfl, rfl⟩
      refine hK.out _ _ ?_ (fun hS => ?_)
      · exact HC.out _ (by first | exact ⟨_, h⟩ | exact ⟨_, h.f1⟩ | exact ⟨_, h.f2⟩ | exact ⟨_, h.f3⟩ | exact ⟨_, h.f4⟩ | exact ⟨_, h.f5⟩ | exact ⟨_, h.f6⟩ | exact ⟨_, h.f7⟩ | exact ⟨_, h.f8⟩ | exact ⟨_, h.f9⟩ | exact ⟨_, h.f10⟩ | exact ⟨_, h.f11⟩ | exact ⟨_, h.f12⟩ | exact ⟨_, h.f13⟩ | exact ⟨_, h.f14⟩ | exact ⟨_, h.f15⟩)
      clear hK K
      try simp only [Act.put, List.setIfInBounds_toArray, List.set_cons_zero, List.set_cons_succ]
      refine wpAnyG_keep (i := 12) (oi := ⟨some 22, _, _, _, _, _⟩) (by kernel_rfl) rfl (fun K hK => ?_)
      rw [if_pos (by rfl)]
      go_simp
      first | have h := (h : Own _ _ (Hp.blk g5 I64 _ :: _)) | have h := (h.f1 : Own _ _ (Hp.blk g5 I64 _ :: _)) | have h := (h.f2 : Own _ _ (Hp.blk g5 I64 _ :: _)) | have h := (h.f3 : Own _ _ (Hp.blk g5 I64 _ :: _)) | have h := (h.f4 : Own _ _ (Hp.blk g5 I64 _ :: _)) | have h := (h.f5 : Own _ _ (Hp.blk g5 I64 _ :: _)) | have h := (h.f6 : Own _ _ (Hp.blk g5 I64 _ :: _)) | have h := (h.f7 : Own _ _ (Hp.blk g5 I64 _ :: _)) | have h := (h.f8 : Own _ _ (Hp.blk g5 I64 _ :: _)) | have h := (h.f9 : Own _ _ (Hp.blk g5 I64 _ :: _)) | have h := (h.f10 : Own _ _ (Hp.blk g5 I64 _ :: _)) | have h := (h.f11 : Own _ _ (Hp.blk g5 I64 _ :: _)) | have h := (h.f12 : Own _ _ (Hp.blk g5 I64 _ :: _)) | have h := (h.f13 : Own _ _ (Hp.blk g5 I64 _ :: _)) | have h := (h.f14 : Own _ _ (Hp.blk g5 I64 _ :: _)) | have h := (h.f15 : Own _ _ (Hp.blk g5 I64 _ :: _))
      refine (firstb_any g5 [ii] _ 1 1 rfl (by omega) h).mono ?_
      rintro e w6 ⟨rfl, h⟩
      refine hK.out _ _ ?_ (fun hS => ?_)
      · exact HC.out _ (by first | exact ⟨_, h⟩ | exact ⟨_, h.f1⟩ | exact ⟨_, h.f2⟩ | exact ⟨_, h.f3⟩ | exact ⟨_, h.f4⟩ | exact ⟨_, h.f5⟩ | exact ⟨_, h.f6⟩ | exact ⟨_, h.f7⟩ | exact ⟨_, h.f8⟩ | exact ⟨_, h.f9⟩ | exact ⟨_, h.f10⟩ | exact ⟨_, h.f11⟩ | exact ⟨_, h.f12⟩ | exact ⟨_, h.f13⟩ | exact ⟨_, h.f14⟩ | exact ⟨_, h.f15⟩)
      clear hK K
      try simp only [Act.put, List.setIfInBounds_toArray, List.set_cons_zero, List.set_cons_succ]
      refine wpAnyG_keep (i := 13) (oi := ⟨some 23, _, _, _, _, _⟩) (by kernel_rfl) rfl (fun K hK => ?_)
      rw [if_pos (by rfl)]
      go_simp
      refine (clockadd_any _ _ _).mono ?_
      rintro e w7 ⟨rfl, rfl⟩
      refine hK.out _ _ ?_ (fun hS => ?_)
      · exact HC.out _ (by first | exact ⟨_, h⟩ | exact ⟨_, h.f1⟩ | exact ⟨_, h.f2⟩ | exact ⟨_, h.f3⟩ | exact ⟨_, h.f4⟩ | exact ⟨_, h.f5⟩ | exact ⟨_, h.f6⟩ | exact ⟨_, h.f7⟩ | exact ⟨_, h.f8⟩ | exact ⟨_, h.f9⟩ | exact ⟨_, h.f10⟩ | exact ⟨_, h.f11⟩ | exact ⟨_, h.f12⟩ | exact ⟨_, h.f13⟩ | exact ⟨_, h.f14⟩ | exact ⟨_, h.f15⟩)
      clear hK K
      try simp only [Act.put, List.setIfInBounds_toArray, List.set_cons_zero, List.set_cons_succ]
      refine wpAnyG_keep (i := 14) (oi := ⟨some 24, _, _, _, _, _⟩) (by kernel_rfl) rfl (fun K hK => ?_)
      rw [if_pos (by rfl)]
      refine wp_ints [near (near cr + firstOf [ab]), near (near us + firstOf [ii])] h rfl rfl (by omega) (by omega) (by first | kernel_rfl | rfl) (fun g8 w8 h => ?_)
      refine hK.out _ _ ?_ (fun hS => ?_)
      · exact HC.out _ (by first | exact ⟨_, h⟩ | exact ⟨_, h.f1⟩ | exact ⟨_, h.f2⟩ | exact ⟨_, h.f3⟩ | exact ⟨_, h.f4⟩ | exact ⟨_, h.f5⟩ | exact ⟨_, h.f6⟩ | exact ⟨_, h.f7⟩ | exact ⟨_, h.f8⟩ | exact ⟨_, h.f9⟩ | exact ⟨_, h.f10⟩ | exact ⟨_, h.f11⟩ | exact ⟨_, h.f12⟩ | exact ⟨_, h.f13⟩ | exact ⟨_, h.f14⟩ | exact ⟨_, h.f15⟩)
      clear hK K
      try simp only [Act.put, List.setIfInBounds_toArray, List.set_cons_zero, List.set_cons_succ]
      refine wpAnyG_keep (i := 15) (oi := ⟨some 25, _, _, _, _, _⟩) (by kernel_rfl) rfl (fun K hK => ?_)
      rw [if_pos (by rfl)]
      go_simp
      refine (firstb_any g8 _ _ 2 2 rfl (by omega) h).mono ?_
      rintro e w9 ⟨rfl, h⟩
      refine hK.out _ _ ?_ (fun hS => ?_)
      · exact HC.out _ (by first | exact ⟨_, h⟩ | exact ⟨_, h.f1⟩ | exact ⟨_, h.f2⟩ | exact ⟨_, h.f3⟩ | exact ⟨_, h.f4⟩ | exact ⟨_, h.f5⟩ | exact ⟨_, h.f6⟩ | exact ⟨_, h.f7⟩ | exact ⟨_, h.f8⟩ | exact ⟨_, h.f9⟩ | exact ⟨_, h.f10⟩ | exact ⟨_, h.f11⟩ | exact ⟨_, h.f12⟩ | exact ⟨_, h.f13⟩ | exact ⟨_, h.f14⟩ | exact ⟨_, h.f15⟩)
      clear hK K
      try simp only [Act.put, List.setIfInBounds_toArray, List.set_cons_zero, List.set_cons_succ]
      refine wpAnyG_pure (i := 16) (oi := ⟨some 2, _, _, _, _, _⟩) (v := ?_) rfl (by kernel_rfl) (by kernel_rfl) (by kernel_rfl) (by rfl) (fun _ _ _ h => h) (by rfl) ?_ ?_
      rotate_left
      · intro w
        go_simp
        first | done | with_reducible rfl
      try simp only [Act.put, List.setIfInBounds_toArray, List.set_cons_zero, List.set_cons_succ]
      refine wpAnyG_done (by kernel_rfl) ?_ _
      refine NoPanic.normal ?_
      go_wp2_with fail
      go_ret
      refine ⟨ret_end HV.out.symm, ?_⟩
      first | have h := (h : Own _ _ (TB :: _)) | have h := (h.f1 : Own _ _ (TB :: _)) | have h := (h.f2 : Own _ _ (TB :: _)) | have h := (h.f3 : Own _ _ (TB :: _)) | have h := (h.f4 : Own _ _ (TB :: _)) | have h := (h.f5 : Own _ _ (TB :: _)) | have h := (h.f6 : Own _ _ (TB :: _)) | have h := (h.f7 : Own _ _ (TB :: _)) | have h := (h.f8 : Own _ _ (TB :: _)) | have h := (h.f9 : Own _ _ (TB :: _)) | have h := (h.f10 : Own _ _ (TB :: _)) | have h := (h.f11 : Own _ _ (TB :: _)) | have h := (h.f12 : Own _ _ (TB :: _)) | have h := (h.f13 : Own _ _ (TB :: _)) | have h := (h.f14 : Own _ _ (TB :: _)) | have h := (h.f15 : Own _ _ (TB :: _))
      first | exact h.drop | exact h.drop.drop.drop.drop
  · have HV : Hid (endV st cr us ii ab en = firstOf [en]) := Lib.hid (if_neg hs)
    have z1 : (st != 1) = true := by simpa using hs
    have c12 : _ = some (Value.int .i64 en) := (H1.out.cell 12).trans rfl
    have c11 : _ = some (Value.int .i64 st) := (H1.out.cell 11).trans rfl
    clear h
    unfold famC at *
    go_enter Tryz.func30, Tryz.ntmps30
    go_wp2_with (first
      | (with_reducible refine at_slot (k := some 8) ?_; refine wpList_ints (o := ⟨some 8, _, _, _, _, _⟩) [en] H1.out rfl rfl rfl (by omega) (by omega) (by first | kernel_rfl | rfl) (fun g4 w4 h => ?_); have K := firstb_any g4 [en] w4 1 1 rfl (by omega) h; clear h)
      | (refine K.mono ?_; clear K; rintro e w6 ⟨rfl, h⟩))
    go_ret
    exact ⟨ret_end HV.out.symm, h.drop.drop⟩
end
end Go.Proofs.YtabibfabieghpaaGreatDoor
namespace Go.Proofs.YtabibfabieghpaaGreatDoor
open Go.RowKit
theorem fmt_u : ∃ d, Tryz.prog.underlying FMT = some d ∧ d.isRow = true := by
  have h : (Tryz.prog.underlying FMT).map (fun d => d.isRow) = some true := by kernel_rfl
  obtain ⟨d, hd, hr⟩ := Option.map_eq_some_iff.1 h
  exact ⟨d, hd, hr⟩
abbrev PST : TypeId := 58
def enP (x : ByteArray × ByteArray) : List Value := [.string x.1, .string x.2]
theorem itt_info : (Tryz.prog.info? ITT).map (fun i => (i.zero.isSome, i.size)) = some (true, 2) := by kernel_rfl
theorem run_pairs (xs : List (ByteArray × ByteArray)) (n : Nat) (hn : xs.length = n) (h0 : 0 < n) (h1 : n ≤ 100) (parts : Array (Nat × Value)) (hp : parts.toList = ((xs.map fun x => Value.agg (enP x).toArray).zipIdx 0).map fun x => (x.2, x.1)) (w : World) :
    (Instr.buildSlice PST n parts).run Tryz.prog w = .ok (.slice (some ⟨w.heap.size, 0, none⟩) n n) (w.alloc (.cells (xs.flatMap enP).toArray ITT)) := by
  obtain ⟨i, hi, hz⟩ := Option.map_eq_some_iff.1 itt_info
  simp only [Prod.mk.injEq] at hz
  obtain ⟨z, hz0⟩ := Option.isSome_iff_exists.1 hz.1
  have e : (xs.map fun x => Value.agg (enP x).toArray).flatMap (fun v => v.cells.toList) = xs.flatMap enP := by
    rw [List.flatMap_map]
    rfl
  have hf := Great.fill_whole (s := 2) (by omega) (xs.map fun x => Value.agg (enP x).toArray) ((Array.range (n * 2)).map (z.cells[· % z.cells.size]!)) (fun v hv => by
    obtain ⟨x, _, rfl⟩ := List.mem_map.1 hv
    rfl) (by simp [hn])
  rw [e, ← hp] at hf
  exact run_buildSlice w PST ITT n parts _ i z (by kernel_rfl) hi hz0 (by rw [hz.2]; omega) (by rw [hz.2]; omega) (by rw [hz.2]; exact hf)
theorem wp_pairs {E : World} {L : List Hp} {o : Oper} {a : Act} {w : World} {K : Act → World → Prop} {Q : Exit → Act → World → Prop} {n : Nat} {parts : Array (Nat × Operand)} (xs : List (ByteArray × ByteArray)) (h : Own E w L) (ho : o.op = .buildSlice PST n parts) (hn : xs.length = n) (h0 : 0 < n) (h1 : n ≤ 100)
    (hp : (parts.map fun (i, x) => (i, a.eval x)).toList = ((xs.map fun x => Value.agg (enP x).toArray).zipIdx 0).map fun x => (x.2, x.1))
    (hK : ∀ g w', Own E w' (Hp.blk g ITT (xs.flatMap enP).toArray :: L) → K (a.put o.dst (.slice (some ⟨g, 0, none⟩) n n)) w') : o.wp Tryz.prog a w K Q := by
  unfold Oper.wp execOp
  simp only [ho, Sem.run_bind, run_pairs xs n hn h0 h1 _ hp w, Result.andThen_ok]
  exact hK _ _ (h.alloc _)
theorem near_id {n : Int} (h0 : 0 ≤ n) (h1 : n ≤ 1099511627776) : near n = n := by unfold near; omega
/-- When a family that may be ended, or will. -/
theorem end_range {id : Int} {cl su : ByteArray} {xs : List ByteArray} {cr us ii ab gr ge tk st en co : Int} (_ : famMay id cl su xs cr us ii ab gr ge tk st en co) : 0 ≤ endV st cr us ii ab en ∧ endV st cr us ii ab en ≤ 1099511627776 := by
  unfold endV firstOf
  split
  · simp only [List.foldl_cons, List.foldl_nil]
    have h1 := near_bd (near (near cr + min 1099511627776 (near ab)))
    have h2 := near_bd (near (near us + min 1099511627776 (near ii)))
    omega
  · simp only [List.foldl_cons, List.foldl_nil]
    have h1 := near_bd en
    omega
def exFs (eb tb : Nat) : List (Fk × Addr) := [(.num 6, ⟨eb, 0, none⟩), (.num 8, ⟨tb, 0, none⟩)]
def exFl (eb tb : Nat) (b c : Int) : List Fld := [(.num 6, ⟨eb, 0, none⟩, .n b), (.num 8, ⟨tb, 0, none⟩, .n c)]
theorem ex_printed (eb tb : Nat) (b c : Int) (hb : 0 ≤ b ∧ b ≤ 1099511627776) (hc : 1 ≤ c ∧ c ≤ 4611686018427387904) : printedV ((exFl eb tb b c).map Fld.kv) = ⟨(byN 6 b.toNat ++ byN 8 c.toNat).toArray⟩ := by
  rw [printed_fits (by
    intro x hx
    simp only [exFl, List.map_cons, List.map_nil, List.mem_cons, List.not_mem_nil, or_false] at hx
    rcases hx with rfl | rfl
    · exact ⟨by decide, by decide, by show (0 : Int) ≤ b; omega, by show b < (256 : Int) ^ 6; omega, by show b ≤ (9223372036854775807 : Int); omega⟩
    · exact ⟨by decide, by decide, by show (0 : Int) ≤ c; omega, by show c < (256 : Int) ^ 8; omega, by show c ≤ (9223372036854775807 : Int); omega⟩)]
  refine bytes_ext _ _ ?_
  show (byN 6 b.toNat ++ (byN 8 c.toNat ++ [])).toArray.toList = _
  simp
/-- The two entries of a family. -/
def exK (fin id : Int) : ByteArray := ⟨(120 :: (byN 6 fin.toNat ++ byN 8 id.toNat)).toArray⟩
def suK (su : ByteArray) (id : Int) : ByteArray := ⟨(115 :: (su.data.toList ++ 0 :: byN 8 id.toNat)).toArray⟩
section
variable {E : World} {S : Ph} {L : List Hp}
set_option maxRecDepth 20000 in
set_option maxHeartbeats 8000000 in
theorem offam_any (id : Int) (cl su : ByteArray) (A : Option Addr) (n c : Nat) (cr us ii ab gr ge tk st en co : Int) (xs : List ByteArray) (w : World) (hm : famMay id cl su xs cr us ii ab gr ge tk st en co) (hr : Rds S 1 enStr A n xs) (hnc : n ≤ c) (hn43 : n ≤ 8796093022208) (hG : Laid0 E (Hp.ro S :: L)) (h : Own E w (Hp.ro S :: L)) :
    Calls Tryz.prog 29 #[.agg (famC id cl su A n c cr us ii ab gr ge tk st en co).toArray] w fun ev w' => ∃ g, ev = .returned (.tuple #[.slice (some ⟨g, 0, none⟩) 2 2, .int .i64 0]) ∧ Own E w' (Hp.blk g ITT ([(exK (endV st cr us ii ab en) id, noB), (suK su id, noB)].flatMap enP).toArray :: Hp.ro S :: L) := by
  have H3 := Lib.hid (show Own E _ (Hp.blk w.heap.size FMT (famC id cl su A n c cr us ii ab gr ge tk st en co).toArray :: Hp.ro S :: L) from h.alloc (.cells (famC id cl su A n c cr us ii ab gr ge tk st en co).toArray FMT))
  have hrg := fam_range hm
  have hev := end_range hm
  have hid := hm.1
  have KM : Hid (∀ w3 : World, Own E w3 (Hp.blk w.heap.size FMT (famC id cl su A n c cr us ii ab gr ge tk st en co).toArray :: Hp.ro S :: L) → Calls Tryz.prog 81 #[.agg (famC id cl su A n c cr us ii ab gr ge tk st en co).toArray] w3 fun ev w' => ev = .returned (.bool true) ∧ Own E w' (Hp.blk w.heap.size FMT (famC id cl su A n c cr us ii ab gr ge tk st en co).toArray :: Hp.ro S :: L)) := Lib.hid fun w3 h3 => (familymay_any id cl su A n c cr us ii ab gr ge tk st en co xs w3 hr hnc hn43 (show Own E w3 (Hp.ro S :: Hp.blk w.heap.size FMT (famC id cl su A n c cr us ii ab gr ge tk st en co).toArray :: L) from h3.f1)).mono fun ev w' he => ⟨by rw [he.1, decide_eq_true hm], he.2.f1⟩
  have KE : Hid (∀ w3 : World, Own E w3 (Hp.blk w.heap.size FMT (famC id cl su A n c cr us ii ab gr ge tk st en co).toArray :: Hp.ro S :: L) → Calls Tryz.prog 30 #[.agg (famC id cl su A n c cr us ii ab gr ge tk st en co).toArray] w3 fun ev w' => ev = .returned (.int .i64 (endV st cr us ii ab en)) ∧ Own E w' (Hp.blk w.heap.size FMT (famC id cl su A n c cr us ii ab gr ge tk st en co).toArray :: Hp.ro S :: L)) := Lib.hid fun w3 h3 => end_any id cl su A n c cr us ii ab gr ge tk st en co w3 h3
  have HNUM : Hid (∀ (eb : Nat) (w3 : World), Own E w3 (Hp.blk eb I64 #[.int .i64 (endV st cr us ii ab en)] :: Hp.blk w.heap.size FMT (famC id cl su A n c cr us ii ab gr ge tk st en co).toArray :: Hp.ro S :: L) → Calls Tryz.prog 60 #[.string ⟨#[0]⟩, .int .i64 8, .int .i64 id] w3 fun ev w' => ev = .returned (.string ⟨(0 :: byN 8 id.toNat).toArray⟩) ∧ Own E w' (Hp.blk eb I64 #[.int .i64 (endV st cr us ii ab en)] :: Hp.blk w.heap.size FMT (famC id cl su A n c cr us ii ab gr ge tk st en co).toArray :: Hp.ro S :: L)) := Lib.hid fun eb w3 h3 => by
    have hnum := numbered_any (E := E) ⟨#[0]⟩ 8 id w3 (by decide) (by omega) hG.cons.cons h3
    rw [key_num 0 8 id (by omega) (by omega) (by omega) (by omega) (by omega)] at hnum
    exact hnum
  have HP : Hid (∀ (bb eb : Nat) (w3 : World), Own E w3 (Hp.blk bb FT ((exFs eb w.heap.size).flatMap enF).toArray :: Hp.blk eb I64 #[.int .i64 (endV st cr us ii ab en)] :: Hp.blk w.heap.size FMT (famC id cl su A n c cr us ii ab gr ge tk st en co).toArray :: Hp.ro S :: L) →
      Calls Tryz.prog 61 #[.slice (some ⟨bb, 0, none⟩) 2 2] w3 fun ev w' => ev = .returned (.string ⟨(byN 6 (endV st cr us ii ab en).toNat ++ byN 8 id.toNat).toArray⟩) ∧ Own E w' (Hp.blk eb I64 #[.int .i64 (endV st cr us ii ab en)] :: Hp.blk w.heap.size FMT (famC id cl su A n c cr us ii ab gr ge tk st en co).toArray :: Hp.ro S :: L)) := Lib.hid fun bb eb w3 h3 => by
    have h4 : Own E w3 (Hp.ro (Ph.one eb (.cells #[.int .i64 (endV st cr us ii ab en)] I64 (0, 0))) :: Hp.ro (Ph.one w.heap.size (.cells (famC id cl su A n c cr us ii ab gr ge tk st en co).toArray FMT (0, 0))) :: Hp.blk bb FT ((exFl eb w.heap.size (endV st cr us ii ab en) id).flatMap enFld).toArray :: Hp.ro S :: L) := h3.f2.f2
    obtain ⟨m1, d1⟩ := h4.merge
    have hok : ∀ x ∈ exFl eb w.heap.size (endV st cr us ii ab en) id, FldOk (Ph.join (Ph.one eb (.cells #[.int .i64 (endV st cr us ii ab en)] I64 (0, 0))) (Ph.one w.heap.size (.cells (famC id cl su A n c cr us ii ab gr ge tk st en co).toArray FMT (0, 0)))) x := by
      intro x hx
      simp only [exFl, List.mem_cons, List.not_mem_nil, or_false] at hx
      rcases hx with rfl | rfl
      · exact ⟨trivial, left_cell (one_cell _ _ _ 0), by show (endV st cr us ii ab en) ≤ (9223372036854775807 : Int); omega, by show (0 : Nat) ≤ _; omega⟩
      · exact ⟨trivial, kept_cell d1 (one_cell _ _ _ 0), by show id ≤ (9223372036854775807 : Int); omega, by show (0 : Nat) ≤ _; omega⟩
    refine (printed_blk bb 2 (exFl eb w.heap.size (endV st cr us ii ab en) id) w3 rfl (by omega) hok hG m1.f1).mono ?_
    rw [ex_printed _ _ _ _ hev hid]
    rintro ev w' ⟨rfl, h⟩
    exact ⟨rfl, h.part d1⟩
  have HC : Hid (∀ w', (∃ M, Own E w' (Hp.blk w.heap.size FMT (famC id cl su A n c cr us ii ab gr ge tk st en co).toArray :: M)) → w'.cell? ⟨w.heap.size, 0, none⟩ = some (.int .i64 id) ∧ w'.cell? ⟨w.heap.size, 2, none⟩ = some (.string su)) := Lib.hid fun w' h => by
    obtain ⟨M, h⟩ := h
    exact ⟨(h.cell 0).trans rfl, (h.cell 2).trans rfl⟩
  obtain ⟨dF, hdF, hrF⟩ := fmt_u
  have hx1 : (⟨#[120]⟩ : ByteArray) ++ ⟨(byN 6 (endV st cr us ii ab en).toNat ++ byN 8 id.toNat).toArray⟩ = exK (endV st cr us ii ab en) id := by
    unfold exK
    refine bytes_ext _ _ ?_
    simp
  have hx2 : (⟨#[115]⟩ : ByteArray) ++ su ++ ⟨(0 :: byN 8 id.toNat).toArray⟩ = suK su id := by
    unfold suK
    refine bytes_ext _ _ ?_
    simp
  have HX1 := Lib.hid hx1
  have HX2 := Lib.hid hx2
  have hz1 : (⟨(byN 6 (endV st cr us ii ab en).toNat ++ byN 8 id.toNat).toArray⟩ : ByteArray).size ≤ 100 := by rw [fl_size, List.length_append, byN_len, byN_len]; omega
  have hz2 : (⟨(0 :: byN 8 id.toNat).toArray⟩ : ByteArray).size ≤ 100 := by rw [fl_size, List.length_cons, byN_len]; omega
  have hz3 := hrg.2.1
  have hz4 : ((⟨#[115]⟩ : ByteArray) ++ su).size ≤ 100 := by
    rw [ByteArray.size_append]
    show 1 + su.size ≤ 100
    omega
  have PA : Hid (∀ j u, (famC id cl su A n c cr us ii ab gr ge tk st en co)[j]? = some u → (famC id cl su A n c cr us ii ab gr ge tk st en co).toArray[0 + j]? = some u) := Lib.hid fun j u hu => by rw [Nat.zero_add]; simpa using hu
  clear h hm hrg hev hid hr hG hx1 hx2
  generalize (⟨(byN 6 (endV st cr us ii ab en).toNat ++ byN 8 id.toNat).toArray⟩ : ByteArray) = x1 at *
  generalize (⟨(0 :: byN 8 id.toNat).toArray⟩ : ByteArray) = x2 at *
  generalize hTB : Hp.blk w.heap.size FMT (famC id cl su A n c cr us ii ab gr ge tk st en co).toArray = TB at *
  have HTB := Lib.hid hTB.symm
  clear hTB
  unfold famC at *
  go_enter Tryz.func29, Tryz.ntmps29
  go_wp2_with (first
    | (with_reducible refine (KM.out _ H3.out).mono ?_; clear H3 KM; rintro ev w2 ⟨rfl, h⟩; have H3 := Lib.hid h; clear h; have HB := Lib.hid (HTB.out ▸ H3.out))
    | (with_reducible refine at_slot (k := some 8) ?_; refine wpList_load_arr (o := ⟨some 8, _, _, _, _, _⟩) HB.out 0 _ PA.out hdF hrF (by kernel_rfl) rfl rfl rfl ?_)
    | (with_reducible refine (KE.out _ H3.out).mono ?_; clear H3 HB KE; rintro ev w3 ⟨rfl, h⟩; have H3 := Lib.hid (h.alloc (.cells #[.int .i64 (endV st cr us ii ab en)] I64)); clear h))
  have h := H3.out.drew
  clear H3
  refine wp_region_text [8, 11] (fun w' => w'.cell? ⟨w.heap.size, 0, none⟩ = some (.int .i64 id) ∧ w'.cell? ⟨w.heap.size, 2, none⟩ = some (.string su)) (by kernel_rfl) ?_ (fun hS => ?_)
  · exact HC.out _ (by first | exact ⟨_, h⟩ | exact ⟨_, h.f1⟩ | exact ⟨_, h.f2⟩ | exact ⟨_, h.f3⟩ | exact ⟨_, h.f4⟩ | exact ⟨_, h.f5⟩ | exact ⟨_, h.f6⟩ | exact ⟨_, h.f7⟩ | exact ⟨_, h.f8⟩ | exact ⟨_, h.f9⟩ | exact ⟨_, h.f10⟩ | exact ⟨_, h.f11⟩ | exact ⟨_, h.f12⟩ | exact ⟨_, h.f13⟩ | exact ⟨_, h.f14⟩ | exact ⟨_, h.f15⟩)
  refine wpAnyG_pure (i := 1) (oi := ⟨some 11, _, _, _, _, _⟩) (v := ?_) rfl (by kernel_rfl) (by kernel_rfl) (by kernel_rfl) (by rfl) (fun _ _ _ h => h) (by rfl) ?_ ?_
  rotate_left
  · intro w
    go_simp
    first | done | with_reducible rfl
  try simp only [Act.put, List.setIfInBounds_toArray, List.set_cons_zero, List.set_cons_succ]
  refine wpAnyG_pure (i := 7) (oi := ⟨some 17, _, _, _, _, _⟩) (v := ?_) rfl (by kernel_rfl) (by kernel_rfl) (by kernel_rfl) (by rfl) (fun _ _ _ h => h) (by rfl) ?_ ?_
  rotate_left
  · intro w
    go_simp
    first | done | with_reducible rfl
  try simp only [Act.put, List.setIfInBounds_toArray, List.set_cons_zero, List.set_cons_succ]
  refine wpAnyG_load (i := 8) (oi := ⟨some 18, _, _, _, _, _⟩) (v := ?_) rfl (by kernel_rfl) (by kernel_rfl) (by kernel_rfl) (by rfl) (fun _ _ _ h => h) (by rfl) ?_ (by assumption) ?_
  rotate_left
  · intro w hS
    try dsimp only at hS
    go_simp
    first | done | with_reducible rfl
  try simp only [Act.put, List.setIfInBounds_toArray, List.set_cons_zero, List.set_cons_succ]
  refine wpAnyG_pure (i := 9) (oi := ⟨some 19, _, _, _, _, _⟩) (v := (.string (⟨#[115]⟩ ++ su))) rfl (by kernel_rfl) (by kernel_rfl) (by kernel_rfl) (by rfl) (fun _ _ _ h => h) (by rfl) ?_ ?_
  · intro w
    go_simp; first | done | with_reducible rfl | omega
  try simp only [Act.put, List.setIfInBounds_toArray, List.set_cons_zero, List.set_cons_succ]
  refine wpAnyG_pure (i := 10) (oi := ⟨some 20, _, _, _, _, _⟩) (v := ?_) rfl (by kernel_rfl) (by kernel_rfl) (by kernel_rfl) (by rfl) (fun _ _ _ h => h) (by rfl) ?_ ?_
  rotate_left
  · intro w
    go_simp
    first | done | with_reducible rfl
  try simp only [Act.put, List.setIfInBounds_toArray, List.set_cons_zero, List.set_cons_succ]
  refine wpAnyG_load (i := 11) (oi := ⟨some 21, _, _, _, _, _⟩) (v := ?_) rfl (by kernel_rfl) (by kernel_rfl) (by kernel_rfl) (by rfl) (fun _ _ _ h => h) (by rfl) ?_ (by assumption) ?_
  rotate_left
  · intro w hS
    try dsimp only at hS
    go_simp
    first | done | with_reducible rfl
  try simp only [Act.put, List.setIfInBounds_toArray, List.set_cons_zero, List.set_cons_succ]
  refine wpAnyG_keep (i := 0) (oi := ⟨some 10, _, _, _, _, _⟩) (by kernel_rfl) rfl (fun K hK => ?_)
  rw [if_pos (by rfl)]
  go_simp
  refine (fnum_any 6 ⟨w3.heap.size, 0, none⟩ _ h).mono ?_
  clear h
  rintro ev w4 ⟨rfl, h⟩
  refine hK.out _ _ ?_ (fun hS => ?_)
  · exact HC.out _ (by first | exact ⟨_, h⟩ | exact ⟨_, h.f1⟩ | exact ⟨_, h.f2⟩ | exact ⟨_, h.f3⟩ | exact ⟨_, h.f4⟩ | exact ⟨_, h.f5⟩ | exact ⟨_, h.f6⟩ | exact ⟨_, h.f7⟩ | exact ⟨_, h.f8⟩ | exact ⟨_, h.f9⟩ | exact ⟨_, h.f10⟩ | exact ⟨_, h.f11⟩ | exact ⟨_, h.f12⟩ | exact ⟨_, h.f13⟩ | exact ⟨_, h.f14⟩ | exact ⟨_, h.f15⟩)
  clear hK K
  try simp only [Act.put, List.setIfInBounds_toArray, List.set_cons_zero, List.set_cons_succ]
  refine wpAnyG_keep (i := 2) (oi := ⟨some 12, _, _, _, _, _⟩) (by kernel_rfl) rfl (fun K hK => ?_)
  rw [if_pos (by rfl)]
  go_simp
  refine (fnum_any 8 ⟨w.heap.size, 0, none⟩ _ h).mono ?_
  clear h
  rintro ev w4 ⟨rfl, h⟩
  refine hK.out _ _ ?_ (fun hS => ?_)
  · exact HC.out _ (by first | exact ⟨_, h⟩ | exact ⟨_, h.f1⟩ | exact ⟨_, h.f2⟩ | exact ⟨_, h.f3⟩ | exact ⟨_, h.f4⟩ | exact ⟨_, h.f5⟩ | exact ⟨_, h.f6⟩ | exact ⟨_, h.f7⟩ | exact ⟨_, h.f8⟩ | exact ⟨_, h.f9⟩ | exact ⟨_, h.f10⟩ | exact ⟨_, h.f11⟩ | exact ⟨_, h.f12⟩ | exact ⟨_, h.f13⟩ | exact ⟨_, h.f14⟩ | exact ⟨_, h.f15⟩)
  clear hK K
  try simp only [Act.put, List.setIfInBounds_toArray, List.set_cons_zero, List.set_cons_succ]
  refine wpAnyG_keep (i := 3) (oi := ⟨some 13, _, _, _, _, _⟩) (by kernel_rfl) rfl (fun K hK => ?_)
  rw [if_pos (by rfl)]
  refine wp_fields (exFs w3.heap.size w.heap.size) rfl rfl (by omega) (by omega) (by first | kernel_rfl | (simp [exFs]; done) | (simp [exFs]; rfl)) ?_
  have h := h.alloc (.cells ((exFs w3.heap.size w.heap.size).flatMap enF).toArray FT)
  refine hK.out _ _ ?_ (fun hS => ?_)
  · exact HC.out _ (by first | exact ⟨_, h⟩ | exact ⟨_, h.f1⟩ | exact ⟨_, h.f2⟩ | exact ⟨_, h.f3⟩ | exact ⟨_, h.f4⟩ | exact ⟨_, h.f5⟩ | exact ⟨_, h.f6⟩ | exact ⟨_, h.f7⟩ | exact ⟨_, h.f8⟩ | exact ⟨_, h.f9⟩ | exact ⟨_, h.f10⟩ | exact ⟨_, h.f11⟩ | exact ⟨_, h.f12⟩ | exact ⟨_, h.f13⟩ | exact ⟨_, h.f14⟩ | exact ⟨_, h.f15⟩)
  clear hK K
  try simp only [Act.put, List.setIfInBounds_toArray, List.set_cons_zero, List.set_cons_succ]
  refine wpAnyG_keep (i := 4) (oi := ⟨some 14, _, _, _, _, _⟩) (by kernel_rfl) rfl (fun K hK => ?_)
  rw [if_pos (by rfl)]
  go_simp
  refine (HP.out _ _ _ h).mono ?_
  clear h
  rintro ev w4 ⟨rfl, h⟩
  refine hK.out _ _ ?_ (fun hS => ?_)
  · exact HC.out _ (by first | exact ⟨_, h⟩ | exact ⟨_, h.f1⟩ | exact ⟨_, h.f2⟩ | exact ⟨_, h.f3⟩ | exact ⟨_, h.f4⟩ | exact ⟨_, h.f5⟩ | exact ⟨_, h.f6⟩ | exact ⟨_, h.f7⟩ | exact ⟨_, h.f8⟩ | exact ⟨_, h.f9⟩ | exact ⟨_, h.f10⟩ | exact ⟨_, h.f11⟩ | exact ⟨_, h.f12⟩ | exact ⟨_, h.f13⟩ | exact ⟨_, h.f14⟩ | exact ⟨_, h.f15⟩)
  clear hK K
  try simp only [Act.put, List.setIfInBounds_toArray, List.set_cons_zero, List.set_cons_succ]
  refine wpAnyG_pure (i := 5) (oi := ⟨some 15, _, _, _, _, _⟩) (v := (.string (⟨#[120]⟩ ++ x1))) rfl (by kernel_rfl) (by kernel_rfl) (by kernel_rfl) (by rfl) (fun _ _ _ h => h) (by rfl) ?_ ?_
  · intro w
    go_simp; first | done | with_reducible rfl | omega
  try simp only [Act.put, List.setIfInBounds_toArray, List.set_cons_zero, List.set_cons_succ]
  refine wpAnyG_pure (i := 6) (oi := ⟨some 16, _, _, _, _, _⟩) (v := ?_) rfl (by kernel_rfl) (by kernel_rfl) (by kernel_rfl) (by rfl) (fun _ _ _ h => h) (by rfl) ?_ ?_
  rotate_left
  · intro w
    go_simp
    first | done | with_reducible rfl
  try simp only [Act.put, List.setIfInBounds_toArray, List.set_cons_zero, List.set_cons_succ]
  refine wpAnyG_keep (i := 12) (oi := ⟨some 22, _, _, _, _, _⟩) (by kernel_rfl) rfl (fun K hK => ?_)
  rw [if_pos (by rfl)]
  go_simp
  refine (HNUM.out _ _ h).mono ?_
  clear h
  rintro ev w4 ⟨rfl, h⟩
  refine hK.out _ _ ?_ (fun hS => ?_)
  · exact HC.out _ (by first | exact ⟨_, h⟩ | exact ⟨_, h.f1⟩ | exact ⟨_, h.f2⟩ | exact ⟨_, h.f3⟩ | exact ⟨_, h.f4⟩ | exact ⟨_, h.f5⟩ | exact ⟨_, h.f6⟩ | exact ⟨_, h.f7⟩ | exact ⟨_, h.f8⟩ | exact ⟨_, h.f9⟩ | exact ⟨_, h.f10⟩ | exact ⟨_, h.f11⟩ | exact ⟨_, h.f12⟩ | exact ⟨_, h.f13⟩ | exact ⟨_, h.f14⟩ | exact ⟨_, h.f15⟩)
  clear hK K
  try simp only [Act.put, List.setIfInBounds_toArray, List.set_cons_zero, List.set_cons_succ]
  refine wpAnyG_pure (i := 13) (oi := ⟨some 23, _, _, _, _, _⟩) (v := (.string (⟨#[115]⟩ ++ su ++ x2))) rfl (by kernel_rfl) (by kernel_rfl) (by kernel_rfl) (by rfl) (fun _ _ _ h => h) (by rfl) ?_ ?_
  · intro w
    go_simp; first | done | with_reducible rfl | omega
  try simp only [Act.put, List.setIfInBounds_toArray, List.set_cons_zero, List.set_cons_succ]
  refine wpAnyG_pure (i := 14) (oi := ⟨some 24, _, _, _, _, _⟩) (v := ?_) rfl (by kernel_rfl) (by kernel_rfl) (by kernel_rfl) (by rfl) (fun _ _ _ h => h) (by rfl) ?_ ?_
  rotate_left
  · intro w
    go_simp
    first | done | with_reducible rfl
  try simp only [Act.put, List.setIfInBounds_toArray, List.set_cons_zero, List.set_cons_succ]
  refine wpAnyG_keep (i := 15) (oi := ⟨some 25, _, _, _, _, _⟩) (by kernel_rfl) rfl (fun K hK => ?_)
  rw [if_pos (by rfl)]
  refine wp_pairs [(⟨#[120]⟩ ++ x1, ⟨#[]⟩), (⟨#[115]⟩ ++ su ++ x2, ⟨#[]⟩)] h rfl rfl (by omega) (by omega) (by first | kernel_rfl | rfl) (fun g w9 h => ?_)
  refine hK.out _ _ ?_ (fun hS => ?_)
  · exact HC.out _ (by first | exact ⟨_, h⟩ | exact ⟨_, h.f1⟩ | exact ⟨_, h.f2⟩ | exact ⟨_, h.f3⟩ | exact ⟨_, h.f4⟩ | exact ⟨_, h.f5⟩ | exact ⟨_, h.f6⟩ | exact ⟨_, h.f7⟩ | exact ⟨_, h.f8⟩ | exact ⟨_, h.f9⟩ | exact ⟨_, h.f10⟩ | exact ⟨_, h.f11⟩ | exact ⟨_, h.f12⟩ | exact ⟨_, h.f13⟩ | exact ⟨_, h.f14⟩ | exact ⟨_, h.f15⟩)
  clear hK K
  try simp only [Act.put, List.setIfInBounds_toArray, List.set_cons_zero, List.set_cons_succ]
  refine wpAnyG_pure (i := 16) (oi := ⟨some 2, _, _, _, _, _⟩) (v := ?_) rfl (by kernel_rfl) (by kernel_rfl) (by kernel_rfl) (by rfl) (fun _ _ _ h => h) (by rfl) ?_ ?_
  rotate_left
  · intro w
    go_simp
    first | done | with_reducible rfl
  try simp only [Act.put, List.setIfInBounds_toArray, List.set_cons_zero, List.set_cons_succ]
  refine wpAnyG_pure (i := 17) (oi := ⟨some 3, _, _, _, _, _⟩) (v := ?_) rfl (by kernel_rfl) (by kernel_rfl) (by kernel_rfl) (by rfl) (fun _ _ _ h => h) (by rfl) ?_ ?_
  rotate_left
  · intro w
    go_simp
    first | done | with_reducible rfl
  try simp only [Act.put, List.setIfInBounds_toArray, List.set_cons_zero, List.set_cons_succ]
  refine wpAnyG_done (by kernel_rfl) ?_ _
  refine NoPanic.normal ?_
  go_wp2_with fail
  go_ret2
  rw [← HX1.out, ← HX2.out]
  exact ⟨g, rfl, h.f1.drop.f1.drop⟩
end
end Go.Proofs.YtabibfabieghpaaGreatDoor
namespace Go.Proofs.YtabibfabieghpaaGreatDoor
open Go.RowKit
theorem index_nought (l t : List UInt8) (h : ∀ x ∈ l, x ≠ 0) : Lib.indexByte (l ++ 0 :: t) 0 = l.length := by
  induction l with
  | nil => simp [Lib.indexByte]
  | cons x r ih =>
    have h1 := h x (by simp)
    have h2 := ih fun y hy => h y (by simp [hy])
    show Lib.indexByte (x :: (r ++ 0 :: t)) 0 = _
    unfold Lib.indexByte
    rw [if_neg (by simpa using h1), h2]
    first | (simp; done) | (simp; omega)
section
variable {E : World} {L : List Hp}
set_option maxHeartbeats 1000000 in
theorem cut0_any (su r s : ByteArray) (w : World) (hi : Lib.indexByte s.data.toList 0 = su.size) (hs : su.size + 1 ≤ s.size) (hs2 : s.size ≤ 1000000000000000) (e1 : s.extract 0 su.size = su) (e2 : s.extract (su.size + 1) s.size = r) (h : Own E w L) :
    Calls Tryz.prog 88 #[.string s, .string ⟨#[0]⟩] w fun e w' => e = .returned (.tuple #[.string su, .string r, .bool true]) ∧ Own E w' L := by
  have K := fun w => Tryz.stringslite_Index_one s 0 w
  rw [hi] at K
  have H := Lib.hid h.drew
  have i0 : (0 : Int) ≤ (su.size : Int) := by omega
  have i1 : wrap64 ((su.size : Int) + 1) = ((su.size + 1 : Nat) : Int) := by unfold wrap64; omega
  have i3 : IntKind.i64.wrap ((su.size : Int) + 1) = ((su.size + 1 : Nat) : Int) := by rw [IntKind.wrap_i64]; omega
  have i2 : (su.size : Int) ≤ (s.size : Int) := by omega
  clear hi h
  have K2 : Calls Tryz.prog 126 #[.string s, .string ⟨#[0]⟩] w fun e w' => e = .returned (.tuple #[.string su, .string r, .bool true]) ∧ Own E w' L := by
    go_enter Tryz.func126, Tryz.ntmps126
    go_wp2_with (refine (K _).mono ?_; rintro e w2 ⟨rfl, rfl⟩)
    have h := H.out
    refine wp_region_text [] (fun _ => True) (by kernel_rfl) ?_ (fun hS => ?_)
    · trivial
    refine wpAnyG_pure (i := 0) (oi := ⟨some 13, _, _, _, _, _⟩) (v := ?_) rfl (by kernel_rfl) (by kernel_rfl) (by kernel_rfl) (by rfl) (fun _ _ _ h => h) (by rfl) ?_ ?_
    rotate_left
    · intro w
      go_simp
      first | done | with_reducible rfl
    try simp only [Act.put, List.setIfInBounds_toArray, List.set_cons_zero, List.set_cons_succ]
    refine wpAnyG_pure (i := 1) (oi := ⟨some 14, _, _, _, _, _⟩) (v := ?_) rfl (by kernel_rfl) (by kernel_rfl) (by kernel_rfl) (by rfl) (fun _ _ _ h => h) (by rfl) ?_ ?_
    rotate_left
    · intro w
      go_simp
      first | done | with_reducible rfl
    try simp only [Act.put, List.setIfInBounds_toArray, List.set_cons_zero, List.set_cons_succ]
    refine wpAnyG_pure (i := 2) (oi := ⟨some 15, _, _, _, _, _⟩) (v := (.string su)) rfl (by kernel_rfl) (by kernel_rfl) (by kernel_rfl) (by rfl) (fun _ _ _ h => h) (by rfl) ?_ ?_
    · intro w
      go_simp
    try simp only [Act.put, List.setIfInBounds_toArray, List.set_cons_zero, List.set_cons_succ]
    refine wpAnyG_pure (i := 3) (oi := ⟨some 16, _, _, _, _, _⟩) (v := ?_) rfl (by kernel_rfl) (by kernel_rfl) (by kernel_rfl) (by rfl) (fun _ _ _ h => h) (by rfl) ?_ ?_
    rotate_left
    · intro w
      go_simp
      first | done | with_reducible rfl
    try simp only [Act.put, List.setIfInBounds_toArray, List.set_cons_zero, List.set_cons_succ]
    refine wpAnyG_pure (i := 4) (oi := ⟨some 17, _, _, _, _, _⟩) (v := ?_) rfl (by kernel_rfl) (by kernel_rfl) (by kernel_rfl) (by rfl) (fun _ _ _ h => h) (by rfl) ?_ ?_
    rotate_left
    · intro w
      go_simp
      first | done | with_reducible rfl
    try simp only [Act.put, List.setIfInBounds_toArray, List.set_cons_zero, List.set_cons_succ]
    refine wpAnyG_pure (i := 5) (oi := ⟨some 18, _, _, _, _, _⟩) (v := ?_) rfl (by kernel_rfl) (by kernel_rfl) (by kernel_rfl) (by rfl) (fun _ _ _ h => h) (by rfl) ?_ ?_
    rotate_left
    · intro w
      go_simp
      first | done | with_reducible rfl
    try simp only [Act.put, List.setIfInBounds_toArray, List.set_cons_zero, List.set_cons_succ]
    refine wpAnyG_pure (i := 6) (oi := ⟨some 19, _, _, _, _, _⟩) (v := ?_) rfl (by kernel_rfl) (by kernel_rfl) (by kernel_rfl) (by rfl) (fun _ _ _ h => h) (by rfl) ?_ ?_
    rotate_left
    · intro w
      go_simp
      first | done | with_reducible rfl
    try simp only [Act.put, List.setIfInBounds_toArray, List.set_cons_zero, List.set_cons_succ]
    refine wpAnyG_pure (i := 7) (oi := ⟨some 20, _, _, _, _, _⟩) (v := ?_) rfl (by kernel_rfl) (by kernel_rfl) (by kernel_rfl) (by rfl) (fun _ _ _ h => h) (by rfl) ?_ ?_
    rotate_left
    · intro w
      go_simp
      first | done | with_reducible rfl
    try simp only [Act.put, List.setIfInBounds_toArray, List.set_cons_zero, List.set_cons_succ]
    refine wpAnyG_pure (i := 8) (oi := ⟨some 21, _, _, _, _, _⟩) (v := (.string r)) rfl (by kernel_rfl) (by kernel_rfl) (by kernel_rfl) (by rfl) (fun _ _ _ h => h) (by rfl) ?_ ?_
    · intro w
      have i4 := i3; simp only [i4] at *; go_simp; intro hx; exact absurd (hx (by omega)) (by omega)
    try simp only [Act.put, List.setIfInBounds_toArray, List.set_cons_zero, List.set_cons_succ]
    refine wpAnyG_pure (i := 9) (oi := ⟨some 4, _, _, _, _, _⟩) (v := ?_) rfl (by kernel_rfl) (by kernel_rfl) (by kernel_rfl) (by rfl) (fun _ _ _ h => h) (by rfl) ?_ ?_
    rotate_left
    · intro w
      go_simp
      first | done | with_reducible rfl
    try simp only [Act.put, List.setIfInBounds_toArray, List.set_cons_zero, List.set_cons_succ]
    refine wpAnyG_pure (i := 10) (oi := ⟨some 5, _, _, _, _, _⟩) (v := ?_) rfl (by kernel_rfl) (by kernel_rfl) (by kernel_rfl) (by rfl) (fun _ _ _ h => h) (by rfl) ?_ ?_
    rotate_left
    · intro w
      go_simp
      first | done | with_reducible rfl
    try simp only [Act.put, List.setIfInBounds_toArray, List.set_cons_zero, List.set_cons_succ]
    refine wpAnyG_pure (i := 11) (oi := ⟨some 6, _, _, _, _, _⟩) (v := ?_) rfl (by kernel_rfl) (by kernel_rfl) (by kernel_rfl) (by rfl) (fun _ _ _ h => h) (by rfl) ?_ ?_
    rotate_left
    · intro w
      go_simp
      first | done | with_reducible rfl
    try simp only [Act.put, List.setIfInBounds_toArray, List.set_cons_zero, List.set_cons_succ]
    refine wpAnyG_done (by kernel_rfl) ?_ _
    refine NoPanic.normal ?_
    go_wp2_with fail
    go_ret3
    exact ⟨rfl, h⟩
  clear K H i0 i1 i2 i3 e1 e2
  go_enter Tryz.func88, Tryz.ntmps88
  go_wp2_with (refine K2.mono ?_; clear K2; rintro e w2 ⟨rfl, h⟩)
  go_ret3
  exact ⟨rfl, h⟩
end
end Go.Proofs.YtabibfabieghpaaGreatDoor
namespace Go.Proofs.YtabibfabieghpaaGreatDoor
open Go.RowKit
def two (x y : Nat) (vs : List Value) : Hp := Hp.sep (Hp.blk x I64 #[vs.getD 0 undef]) (Hp.blk y I64 #[vs.getD 1 undef])
theorem places_two {E : World} (x y : Nat) : Places E (two x y) [⟨x, 0, none⟩, ⟨y, 0, none⟩] where
  set w vs i ad v M hl hi h := by
    obtain ⟨a, b, rfl⟩ : ∃ a b, vs = [a, b] := by
      match vs, hl with
      | [a, b], _ => exact ⟨a, b, rfl⟩
    have h := Own.sep2.1 h
    match i, hi with
    | 0, hi =>
      obtain rfl : (⟨x, 0, none⟩ : Addr) = ad := by simpa using hi
      obtain ⟨h1, h2, h3⟩ := h.put1 0 v (show (0 : Nat) < 1 by omega)
      exact ⟨h1, h2, Own.sep2.2 h3⟩
    | 1, hi =>
      obtain rfl : (⟨y, 0, none⟩ : Addr) = ad := by simpa using hi
      obtain ⟨h1, h2, h3⟩ := h.f1.put1 0 v (show (0 : Nat) < 1 by omega)
      exact ⟨h1, h2, Own.sep2.2 h3.f1⟩
theorem results_tmp5 {fn : Func} {a b c d e : Tmp} (h : fn.results = #[.tmp a, .tmp b, .tmp c, .tmp d, .tmp e]) (tmps : Array Value) (P : Program) (w : World) :
    (results fn tmps).run P w = .ok (.tuple #[tmps.getD a undef, tmps.getD b undef, tmps.getD c undef, tmps.getD d undef, tmps.getD e undef]) w := by
  simp [results, h]
theorem num_fits {k : Nat} {z : Int} (h : 1 ≤ k ∧ k ≤ 8 ∧ 0 ≤ z ∧ z < 256 ^ k ∧ z ≤ 9223372036854775807) : fits1 (.num k, .n z) := h
theorem read_two (k1 k2 : Nat) (a b : Int) (h1 : 1 ≤ k1 ∧ k1 ≤ 8 ∧ 0 ≤ a ∧ a < 256 ^ k1 ∧ a ≤ 9223372036854775807) (h2 : 1 ≤ k2 ∧ k2 ≤ 8 ∧ 0 ≤ b ∧ b < 256 ^ k2 ∧ b ≤ 9223372036854775807) :
    readV [.num k1, .num k2] ⟨(byN k1 a.toNat ++ byN k2 b.toNat).toArray⟩ = ([.n a, .n b], true) := by
  have hf : ∀ f ∈ [((.num k1, .n a) : Fk × Fv), (.num k2, .n b)], fits1 f := by
    intro f hf
    simp only [List.mem_cons, List.not_mem_nil, or_false] at hf
    rcases hf with rfl | rfl
    · exact h1
    · exact h2
  have h3 := readV_printed hf
  rw [printed_fits hf] at h3
  have e : ((([((.num k1, .n a) : Fk × Fv), (.num k2, .n b)].flatMap bytesF).toArray) : Array UInt8) = (byN k1 a.toNat ++ byN k2 b.toNat).toArray := by
    show (byN k1 a.toNat ++ (byN k2 b.toNat ++ [])).toArray = _
    rw [List.append_nil]
  rw [e] at h3
  exact h3
theorem read_one (k1 : Nat) (a : Int) (h1 : 1 ≤ k1 ∧ k1 ≤ 8 ∧ 0 ≤ a ∧ a < 256 ^ k1 ∧ a ≤ 9223372036854775807) : readV [.num k1] ⟨(byN k1 a.toNat).toArray⟩ = ([.n a], true) := by
  have hf : ∀ f ∈ [((.num k1, .n a) : Fk × Fv)], fits1 f := by
    intro f hf
    simp only [List.mem_cons, List.not_mem_nil, or_false] at hf
    rcases hf with rfl
    exact h1
  have h3 := readV_printed hf
  rw [printed_fits hf] at h3
  have e : ((([((.num k1, .n a) : Fk × Fv)].flatMap bytesF).toArray) : Array UInt8) = (byN k1 a.toNat).toArray := by
    show (byN k1 a.toNat ++ []).toArray = _
    rw [List.append_nil]
  rw [e] at h3
  exact h3
section
variable {E : World} {L : List Hp}
theorem read2_any (bb x y k1 k2 : Nat) (a b : Int) (p q : Value) (s : ByteArray) (w : World) (hs : s.size ≤ 1000000000000000) (hr : readV [.num k1, .num k2] s = ([.n a, .n b], true)) (hG : Laid0 E L)
    (h : Own E w (Hp.blk bb FT (([(.num k1, ⟨x, 0, none⟩), (.num k2, ⟨y, 0, none⟩)] : List (Fk × Addr)).flatMap enF).toArray :: Hp.blk x I64 #[p] :: Hp.blk y I64 #[q] :: L)) :
    Calls Tryz.prog 67 #[.slice (some ⟨bb, 0, none⟩) 2 2, .string s] w fun e w' => e = .returned (.bool true) ∧ Own E w' (Hp.blk x I64 #[.int .i64 a] :: Hp.blk y I64 #[.int .i64 b] :: L) := by
  have h4 : Own E w (Hp.blk bb FT (([(.num k1, ⟨x, 0, none⟩), (.num k2, ⟨y, 0, none⟩)] : List (Fk × Addr)).flatMap enF).toArray :: two x y [p, q] :: L) := (Own.sep2.2 h.f2.f2).f1
  have hh := read_blk (E := E) bb 2 [(.num k1, ⟨x, 0, none⟩), (.num k2, ⟨y, 0, none⟩)] s (two x y) [p, q] w rfl (by omega) hs (places_two _ _) rfl hG h4
  rw [show ([(.num k1, ⟨x, 0, none⟩), (.num k2, ⟨y, 0, none⟩)] : List (Fk × Addr)).map (·.1) = [.num k1, .num k2] from rfl, hr] at hh
  refine hh.mono ?_
  rintro e w' ⟨rfl, h⟩
  exact ⟨rfl, Own.sep2.1 h⟩
theorem read1_any (bb x k1 : Nat) (a : Int) (p : Value) (s : ByteArray) (w : World) (hs : s.size ≤ 1000000000000000) (hr : readV [.num k1] s = ([.n a], true)) (hG : Laid0 E L)
    (h : Own E w (Hp.blk bb FT (([(.num k1, ⟨x, 0, none⟩)] : List (Fk × Addr)).flatMap enF).toArray :: Hp.blk x I64 #[p] :: L)) :
    Calls Tryz.prog 67 #[.slice (some ⟨bb, 0, none⟩) 1 1, .string s] w fun e w' => e = .returned (.bool true) ∧ Own E w' (Hp.blk x I64 #[.int .i64 a] :: L) := by
  have hh := read_blk (E := E) bb 1 [(.num k1, ⟨x, 0, none⟩)] s (fun vs => Hp.blk x I64 vs.toArray) [p] w rfl (by omega) hs (places_one x _) rfl hG h
  rw [show ([(.num k1, ⟨x, 0, none⟩)] : List (Fk × Addr)).map (·.1) = [.num k1] from rfl, hr] at hh
  exact hh
set_option maxRecDepth 20000 in
set_option maxHeartbeats 4000000 in
theorem member_ok (a b c : Int) (w : World) (ha : 1 ≤ a ∧ a ≤ 4611686018427387904) (hb : 1 ≤ b ∧ b ≤ 4611686018427387904) (hc : 1 ≤ c ∧ c ≤ 1073741824) (hG : Laid0 E L) (h : Own E w L) :
    Calls Tryz.prog 87 #[.string ⟨(byN 8 b.toNat ++ byN 4 c.toNat).toArray⟩, .string (ofV a)] w fun e w' => e = .returned (.tuple #[.int .i64 c, .int .i64 b, .bool true]) ∧ Own E w' L := by
  have h1 := h.alloc (.cells #[.int .i64 0] I64)
  have h2 := h1.alloc (.cells #[.int .i64 0] I64)
  have h3 := h2.alloc (.cells #[.int .i64 0] I64)
  rw [alloc_size, alloc_size] at h3
  have H3 := Lib.hid (show Own E _ (Hp.blk w.heap.size I64 #[.int .i64 0] :: Hp.blk (w.heap.size + 1) I64 #[.int .i64 0] :: Hp.blk (w.heap.size + 1 + 1) I64 #[.int .i64 0] :: L) from h3.f1.f2)
  have r1 := read_two 8 4 b c (by omega) (by omega)
  have r2 : readV [.num 8] (ofV a) = ([.n a], true) := read_one 8 a (by omega)
  have z1 : (⟨(byN 8 b.toNat ++ byN 4 c.toNat).toArray⟩ : ByteArray).size ≤ 1000000000000000 := by rw [fl_size, List.length_append, byN_len, byN_len]; omega
  have z2 : (ofV a).size ≤ 1000000000000000 := by unfold ofV; rw [fl_size, byN_len]; omega
  generalize (⟨(byN 8 b.toNat ++ byN 4 c.toNat).toArray⟩ : ByteArray) = k at *
  generalize ofV a = v at *
  have KR1 : Hid (∀ (bb : Nat) (w3 : World), Own E w3 (Hp.blk bb FT (([(.num 8, ⟨w.heap.size, 0, none⟩), (.num 4, ⟨(w.heap.size + 1), 0, none⟩)] : List (Fk × Addr)).flatMap enF).toArray :: Hp.blk w.heap.size I64 #[.int .i64 0] :: Hp.blk (w.heap.size + 1) I64 #[.int .i64 0] :: Hp.blk (w.heap.size + 1 + 1) I64 #[.int .i64 0] :: L) → Calls Tryz.prog 67 #[.slice (some ⟨bb, 0, none⟩) 2 2, .string k] w3 fun e w' => e = .returned (.bool true) ∧ Own E w' (Hp.blk w.heap.size I64 #[.int .i64 b] :: Hp.blk (w.heap.size + 1) I64 #[.int .i64 c] :: Hp.blk (w.heap.size + 1 + 1) I64 #[.int .i64 0] :: L)) := Lib.hid fun bb w3 h3 => read2_any bb _ _ 8 4 b c _ _ k w3 z1 r1 hG.cons h3
  have KR2 : Hid (∀ (bb : Nat) (w3 : World), Own E w3 (Hp.blk bb FT (([(.num 8, ⟨(w.heap.size + 1 + 1), 0, none⟩)] : List (Fk × Addr)).flatMap enF).toArray :: Hp.blk w.heap.size I64 #[.int .i64 b] :: Hp.blk (w.heap.size + 1) I64 #[.int .i64 c] :: Hp.blk (w.heap.size + 1 + 1) I64 #[.int .i64 0] :: L) → Calls Tryz.prog 67 #[.slice (some ⟨bb, 0, none⟩) 1 1, .string v] w3 fun e w' => e = .returned (.bool true) ∧ Own E w' (Hp.blk w.heap.size I64 #[.int .i64 b] :: Hp.blk (w.heap.size + 1) I64 #[.int .i64 c] :: Hp.blk (w.heap.size + 1 + 1) I64 #[.int .i64 a] :: L)) := Lib.hid fun bb w3 h3 => (read1_any bb _ 8 a (.int .i64 0) v w3 z2 r2 hG.cons.cons (show Own E w3 (_ :: Hp.blk (w.heap.size + 1 + 1) I64 #[.int .i64 0] :: Hp.blk w.heap.size I64 #[.int .i64 b] :: Hp.blk (w.heap.size + 1) I64 #[.int .i64 c] :: L) from h3.f3.f1)).mono fun e w' he => ⟨he.1, he.2.f2.f2⟩
  have K1 := fun (wq : World) (M : List Hp) (h : Own E wq M) => fnum_any (E := E) (L := M) 8 ⟨w.heap.size, 0, none⟩ wq h
  have K2 := fun (wq : World) (M : List Hp) (h : Own E wq M) => fnum_any (E := E) (L := M) 4 ⟨(w.heap.size + 1), 0, none⟩ wq h
  have K3 := fun (wq : World) (M : List Hp) (h : Own E wq M) => fnum_any (E := E) (L := M) 8 ⟨(w.heap.size + 1 + 1), 0, none⟩ wq h
  simp only [enF, show ((8 : Nat) : Int) = 8 from rfl, show ((4 : Nat) : Int) = 4 from rfl] at K1 K2 K3
  have J1 := fun w => isid_any b w
  have J2 := fun w => isgen_any c w
  have J3 := fun w => isid_any a w
  rw [decide_eq_true hb] at J1
  rw [decide_eq_true hc] at J2
  rw [decide_eq_true ha] at J3
  have HC : Hid (∀ w', Own E w' (Hp.blk w.heap.size I64 #[.int .i64 b] :: Hp.blk (w.heap.size + 1) I64 #[.int .i64 c] :: Hp.blk (w.heap.size + 1 + 1) I64 #[.int .i64 a] :: L) → w'.cell? ⟨w.heap.size, 0, none⟩ = some (.int .i64 b) ∧ w'.cell? ⟨(w.heap.size + 1), 0, none⟩ = some (.int .i64 c) ∧ w'.cell? ⟨(w.heap.size + 1 + 1), 0, none⟩ = some (.int .i64 a)) := Lib.hid fun w' h => ⟨(h.cell 0).trans rfl, (h.f1.cell 0).trans rfl, (h.f2.cell 0).trans rfl⟩
  clear h h1 h2 h3 hG r1 r2 z1 z2 ha hb hc
  go_enter Tryz.func87, Tryz.ntmps87
  go_wp2_with (first
    | (with_reducible refine (K1 _ _ H3.out).mono ?_; clear H3; rintro e w2 ⟨rfl, h⟩; have H3 := Lib.hid h; clear h)
    | (with_reducible refine (K2 _ _ H3.out).mono ?_; clear H3; rintro e w2 ⟨rfl, h⟩; have H3 := Lib.hid h; clear h)
    | (with_reducible refine (K3 _ _ H3.out).mono ?_; clear H3; rintro e w2 ⟨rfl, h⟩; have H3 := Lib.hid h; clear h)
    | (refine (KR1.out _ _ (H3.out.alloc _)).mono ?_; clear H3 KR1; rintro e w2 ⟨rfl, h⟩; have H3 := Lib.hid h; clear h)
    | (refine (KR2.out _ _ (H3.out.alloc _)).mono ?_; clear H3 KR2; rintro e w2 ⟨rfl, h⟩; have H3 := Lib.hid h; clear h))
  have h := H3.out.drew
  clear H3
  refine wp_region_text [0, 1, 4, 8, 12] (fun w' => w'.cell? ⟨w.heap.size, 0, none⟩ = some (.int .i64 b) ∧ w'.cell? ⟨(w.heap.size + 1), 0, none⟩ = some (.int .i64 c) ∧ w'.cell? ⟨(w.heap.size + 1 + 1), 0, none⟩ = some (.int .i64 a)) (by kernel_rfl) ?_ (fun hS => ?_)
  · exact HC.out _ h
  refine wpAnyG_load (i := 0) (oi := ⟨some 22, _, _, _, _, _⟩) (v := ?_) rfl (by kernel_rfl) (by kernel_rfl) (by kernel_rfl) (by rfl) (fun _ _ _ h => h) (by rfl) ?_ (by assumption) ?_
  rotate_left
  · intro w hS
    try dsimp only at hS
    go_simp
    first | done | with_reducible rfl
  try simp only [Act.put, List.setIfInBounds_toArray, List.set_cons_zero, List.set_cons_succ]
  refine wpAnyG_load (i := 1) (oi := ⟨some 23, _, _, _, _, _⟩) (v := ?_) rfl (by kernel_rfl) (by kernel_rfl) (by kernel_rfl) (by rfl) (fun _ _ _ h => h) (by rfl) ?_ (by assumption) ?_
  rotate_left
  · intro w hS
    try dsimp only at hS
    go_simp
    first | done | with_reducible rfl
  try simp only [Act.put, List.setIfInBounds_toArray, List.set_cons_zero, List.set_cons_succ]
  refine wpAnyG_pure (i := 2) (oi := ⟨some 24, _, _, _, _, _⟩) (v := ?_) rfl (by kernel_rfl) (by kernel_rfl) (by kernel_rfl) (by rfl) (fun _ _ _ h => h) (by rfl) ?_ ?_
  rotate_left
  · intro w
    go_simp
    first | done | with_reducible rfl
  try simp only [Act.put, List.setIfInBounds_toArray, List.set_cons_zero, List.set_cons_succ]
  refine wpAnyG_pure (i := 3) (oi := ⟨some 25, _, _, _, _, _⟩) (v := ?_) rfl (by kernel_rfl) (by kernel_rfl) (by kernel_rfl) (by rfl) (fun _ _ _ h => h) (by rfl) ?_ ?_
  rotate_left
  · intro w
    go_simp
    first | done | with_reducible rfl
  try simp only [Act.put, List.setIfInBounds_toArray, List.set_cons_zero, List.set_cons_succ]
  refine wpAnyG_load (i := 4) (oi := ⟨some 26, _, _, _, _, _⟩) (v := ?_) rfl (by kernel_rfl) (by kernel_rfl) (by kernel_rfl) (by rfl) (fun _ _ _ h => h) (by rfl) ?_ (by assumption) ?_
  rotate_left
  · intro w hS
    try dsimp only at hS
    go_simp
    first | done | with_reducible rfl
  try simp only [Act.put, List.setIfInBounds_toArray, List.set_cons_zero, List.set_cons_succ]
  refine wpAnyG_keep (i := 5) (oi := ⟨some 27, _, _, _, _, _⟩) (by kernel_rfl) rfl (fun K hK => ?_)
  rw [if_pos (by rfl)]
  go_simp
  refine (J1 _).mono ?_
  rintro e w7 ⟨rfl, rfl⟩
  refine hK.out _ _ ?_ (fun hS => ?_)
  · exact HC.out _ h
  clear hK K
  try simp only [Act.put, List.setIfInBounds_toArray, List.set_cons_zero, List.set_cons_succ]
  refine wpAnyG_pure (i := 6) (oi := ⟨some 28, _, _, _, _, _⟩) (v := ?_) rfl (by kernel_rfl) (by kernel_rfl) (by kernel_rfl) (by rfl) (fun _ _ _ h => h) (by rfl) ?_ ?_
  rotate_left
  · intro w
    go_simp
    first | done | with_reducible rfl
  try simp only [Act.put, List.setIfInBounds_toArray, List.set_cons_zero, List.set_cons_succ]
  refine wpAnyG_pure (i := 7) (oi := ⟨some 29, _, _, _, _, _⟩) (v := ?_) rfl (by kernel_rfl) (by kernel_rfl) (by kernel_rfl) (by rfl) (fun _ _ _ h => h) (by rfl) ?_ ?_
  rotate_left
  · intro w
    go_simp
    first | done | with_reducible rfl
  try simp only [Act.put, List.setIfInBounds_toArray, List.set_cons_zero, List.set_cons_succ]
  refine wpAnyG_load (i := 8) (oi := ⟨some 30, _, _, _, _, _⟩) (v := ?_) rfl (by kernel_rfl) (by kernel_rfl) (by kernel_rfl) (by rfl) (fun _ _ _ h => h) (by rfl) ?_ (by assumption) ?_
  rotate_left
  · intro w hS
    try dsimp only at hS
    go_simp
    first | done | with_reducible rfl
  try simp only [Act.put, List.setIfInBounds_toArray, List.set_cons_zero, List.set_cons_succ]
  refine wpAnyG_keep (i := 9) (oi := ⟨some 31, _, _, _, _, _⟩) (by kernel_rfl) rfl (fun K hK => ?_)
  rw [if_pos (by rfl)]
  go_simp
  refine (J2 _).mono ?_
  rintro e w7 ⟨rfl, rfl⟩
  refine hK.out _ _ ?_ (fun hS => ?_)
  · exact HC.out _ h
  clear hK K
  try simp only [Act.put, List.setIfInBounds_toArray, List.set_cons_zero, List.set_cons_succ]
  refine wpAnyG_pure (i := 10) (oi := ⟨some 32, _, _, _, _, _⟩) (v := ?_) rfl (by kernel_rfl) (by kernel_rfl) (by kernel_rfl) (by rfl) (fun _ _ _ h => h) (by rfl) ?_ ?_
  rotate_left
  · intro w
    go_simp
    first | done | with_reducible rfl
  try simp only [Act.put, List.setIfInBounds_toArray, List.set_cons_zero, List.set_cons_succ]
  refine wpAnyG_pure (i := 11) (oi := ⟨some 33, _, _, _, _, _⟩) (v := ?_) rfl (by kernel_rfl) (by kernel_rfl) (by kernel_rfl) (by rfl) (fun _ _ _ h => h) (by rfl) ?_ ?_
  rotate_left
  · intro w
    go_simp
    first | done | with_reducible rfl
  try simp only [Act.put, List.setIfInBounds_toArray, List.set_cons_zero, List.set_cons_succ]
  refine wpAnyG_load (i := 12) (oi := ⟨some 34, _, _, _, _, _⟩) (v := ?_) rfl (by kernel_rfl) (by kernel_rfl) (by kernel_rfl) (by rfl) (fun _ _ _ h => h) (by rfl) ?_ (by assumption) ?_
  rotate_left
  · intro w hS
    try dsimp only at hS
    go_simp
    first | done | with_reducible rfl
  try simp only [Act.put, List.setIfInBounds_toArray, List.set_cons_zero, List.set_cons_succ]
  refine wpAnyG_keep (i := 13) (oi := ⟨some 35, _, _, _, _, _⟩) (by kernel_rfl) rfl (fun K hK => ?_)
  rw [if_pos (by rfl)]
  go_simp
  refine (J3 _).mono ?_
  rintro e w7 ⟨rfl, rfl⟩
  refine hK.out _ _ ?_ (fun hS => ?_)
  · exact HC.out _ h
  clear hK K
  try simp only [Act.put, List.setIfInBounds_toArray, List.set_cons_zero, List.set_cons_succ]
  refine wpAnyG_pure (i := 14) (oi := ⟨some 36, _, _, _, _, _⟩) (v := ?_) rfl (by kernel_rfl) (by kernel_rfl) (by kernel_rfl) (by rfl) (fun _ _ _ h => h) (by rfl) ?_ ?_
  rotate_left
  · intro w
    go_simp
    first | done | with_reducible rfl
  try simp only [Act.put, List.setIfInBounds_toArray, List.set_cons_zero, List.set_cons_succ]
  refine wpAnyG_pure (i := 15) (oi := ⟨some 4, _, _, _, _, _⟩) (v := ?_) rfl (by kernel_rfl) (by kernel_rfl) (by kernel_rfl) (by rfl) (fun _ _ _ h => h) (by rfl) ?_ ?_
  rotate_left
  · intro w
    go_simp
    first | done | with_reducible rfl
  try simp only [Act.put, List.setIfInBounds_toArray, List.set_cons_zero, List.set_cons_succ]
  refine wpAnyG_pure (i := 16) (oi := ⟨some 5, _, _, _, _, _⟩) (v := ?_) rfl (by kernel_rfl) (by kernel_rfl) (by kernel_rfl) (by rfl) (fun _ _ _ h => h) (by rfl) ?_ ?_
  rotate_left
  · intro w
    go_simp
    first | done | with_reducible rfl
  try simp only [Act.put, List.setIfInBounds_toArray, List.set_cons_zero, List.set_cons_succ]
  refine wpAnyG_pure (i := 17) (oi := ⟨some 6, _, _, _, _, _⟩) (v := ?_) rfl (by kernel_rfl) (by kernel_rfl) (by kernel_rfl) (by rfl) (fun _ _ _ h => h) (by rfl) ?_ ?_
  rotate_left
  · intro w
    go_simp
    first | done | with_reducible rfl
  try simp only [Act.put, List.setIfInBounds_toArray, List.set_cons_zero, List.set_cons_succ]
  refine wpAnyG_done (by kernel_rfl) ?_ _
  refine NoPanic.normal ?_
  go_wp2_with fail
  go_ret3
  exact ⟨rfl, h.drop.drop.drop⟩
end
end Go.Proofs.YtabibfabieghpaaGreatDoor
namespace Go.Proofs.YtabibfabieghpaaGreatDoor
open Go.RowKit
theorem ext_mid (A B C : List UInt8) : (⟨(A ++ B ++ C).toArray⟩ : ByteArray).extract A.length (A.length + B.length) = ⟨B.toArray⟩ := by
  refine bytes_ext _ _ ?_
  rw [ByteArray.data_extract]
  simp
theorem ext_head (x : UInt8) (R : List UInt8) : (⟨(x :: R).toArray⟩ : ByteArray).extract 0 1 = ⟨#[x]⟩ := ext_mid [] [x] R
theorem ext_tail (x : UInt8) (R : List UInt8) : (⟨(x :: R).toArray⟩ : ByteArray).extract 1 (⟨(x :: R).toArray⟩ : ByteArray).size = ⟨R.toArray⟩ := by
  have := ext_mid [x] R []
  rw [List.append_nil] at this
  rw [fl_size, List.length_cons, Nat.add_comm R.length 1]
  exact this
theorem name_no0 {s : ByteArray} (h : nameB s = true) : ∀ x ∈ s.data.toList, x ≠ 0 := fun x hx e => by
  unfold nameB at h
  simp only [Bool.and_eq_true] at h
  have := List.all_eq_true.1 h.1.1 x hx
  rw [e] at this
  revert this
  decide
section
variable {E : World} {L : List Hp}
set_option maxRecDepth 20000 in
set_option maxHeartbeats 4000000 in
theorem pidx_m (a b c : Int) (w : World) (ha : 1 ≤ a ∧ a ≤ 4611686018427387904) (hb : 1 ≤ b ∧ b ≤ 4611686018427387904) (hc : 1 ≤ c ∧ c ≤ 1073741824) (hG : Laid0 E L) (h : Own E w L) :
    Calls Tryz.prog 31 #[.agg #[.string (ofK b c), .string (ofV a)]] w fun e w' => e = .returned (.tuple #[.string ⟨#[109]⟩, .int .i64 c, .int .i64 b, .string (ofV a), .int .i64 0]) ∧ Own E w' L := by
  have KM := fun (wq : World) (M : List Hp) (hG : Laid0 E M) (h : Own E wq M) => member_ok a b c wq ha hb hc hG h
  obtain ⟨k, hk⟩ : ∃ k, k = ofK b c := ⟨_, rfl⟩
  obtain ⟨v, hv⟩ : ∃ v, v = ofV a := ⟨_, rfl⟩
  obtain ⟨lt, hlt⟩ : ∃ lt : ByteArray, lt = ⟨#[109]⟩ := ⟨_, rfl⟩
  obtain ⟨r, hrr⟩ : ∃ r : ByteArray, r = ⟨(byN 8 b.toNat ++ byN 4 c.toNat).toArray⟩ := ⟨_, rfl⟩
  have e1 : k.extract 0 1 = lt := by
    rw [hk, hlt]
    exact ext_head _ _
  have e2 : k.extract 1 k.size = r := by
    rw [hk, hrr]
    exact ext_tail _ _
  have e4 : 1 ≤ k.size := by
    rw [hk]
    unfold ofK
    rw [fl_size, List.length_cons]
    omega
  have e3 : k.toList.isEmpty = false := by
    rw [isEmpty_size]
    exact decide_eq_false (by omega)
  have i1 : (1 : Int) ≤ (k.size : Int) := by omega
  have l1 : (lt.toList == [109]) = true := by rw [hlt, ByteArray.toList_eq]; rfl
  have l2 : (lt.toList == [120]) = false := by rw [hlt, ByteArray.toList_eq]; rfl
  have l3 : (lt.toList == [115]) = false := by rw [hlt, ByteArray.toList_eq]; rfl
  rw [← hrr, ← hv] at KM
  rw [← hk, ← hv, ← hlt]
  have h1 := h.alloc (.cells #[.string k, .string v] ITT)
  have HC : Hid (∀ w', Own E w' (Hp.blk w.heap.size ITT #[.string k, .string v] :: L) → w'.cell? ⟨w.heap.size, 0, none⟩ = some (.string k)) := Lib.hid fun w' h => (h.cell 0).trans rfl
  have HD : Hid (∀ w', Own E w' (Hp.blk w.heap.size ITT #[.string k, .string v] :: L) → w'.cell? ⟨w.heap.size, 1, none⟩ = some (.string v)) := Lib.hid fun w' h => (h.cell 1).trans rfl
  have HG := Lib.hid hG
  clear hk hv hlt hrr h hG ha hb hc
  have H1 := Lib.hid h1
  clear h1
  go_enter Tryz.func31, Tryz.ntmps31
  go_wp2_with fail
  have h := H1.out.drew
  clear H1
  refine wp_region_text [1, 4] (fun w' => w'.cell? ⟨w.heap.size, 0, none⟩ = some (.string k)) (by kernel_rfl) ?_ (fun hS => ?_)
  · exact HC.out _ h
  refine wpAnyG_pure (i := 0) (oi := ⟨some 29, _, _, _, _, _⟩) (v := ?_) rfl (by kernel_rfl) (by kernel_rfl) (by kernel_rfl) (by rfl) (fun _ _ _ h => h) (by rfl) ?_ ?_
  rotate_left
  · intro w
    go_simp
    first | done | with_reducible rfl
  try simp only [Act.put, List.setIfInBounds_toArray, List.set_cons_zero, List.set_cons_succ]
  refine wpAnyG_load (i := 1) (oi := ⟨some 30, _, _, _, _, _⟩) (v := (.string k)) rfl (by kernel_rfl) (by kernel_rfl) (by kernel_rfl) (by rfl) (fun _ _ _ h => h) (by rfl) ?_ (by assumption) ?_
  · intro w hS
    go_simp
  try simp only [Act.put, List.setIfInBounds_toArray, List.set_cons_zero, List.set_cons_succ]
  refine wpAnyG_pure (i := 2) (oi := ⟨some 31, _, _, _, _, _⟩) (v := (.string lt)) rfl (by kernel_rfl) (by kernel_rfl) (by kernel_rfl) (by rfl) (fun _ _ _ h => h) (by rfl) ?_ ?_
  · intro w
    go_simp; first | done | (intro hx; exact absurd hx (by omega))
  try simp only [Act.put, List.setIfInBounds_toArray, List.set_cons_zero, List.set_cons_succ]
  refine wpAnyG_pure (i := 3) (oi := ⟨some 32, _, _, _, _, _⟩) (v := ?_) rfl (by kernel_rfl) (by kernel_rfl) (by kernel_rfl) (by rfl) (fun _ _ _ h => h) (by rfl) ?_ ?_
  rotate_left
  · intro w
    go_simp
    first | done | with_reducible rfl
  try simp only [Act.put, List.setIfInBounds_toArray, List.set_cons_zero, List.set_cons_succ]
  refine wpAnyG_load (i := 4) (oi := ⟨some 33, _, _, _, _, _⟩) (v := (.string k)) rfl (by kernel_rfl) (by kernel_rfl) (by kernel_rfl) (by rfl) (fun _ _ _ h => h) (by rfl) ?_ (by assumption) ?_
  · intro w hS
    go_simp
  try simp only [Act.put, List.setIfInBounds_toArray, List.set_cons_zero, List.set_cons_succ]
  refine wpAnyG_pure (i := 5) (oi := ⟨some 34, _, _, _, _, _⟩) (v := (.string r)) rfl (by kernel_rfl) (by kernel_rfl) (by kernel_rfl) (by rfl) (fun _ _ _ h => h) (by rfl) ?_ ?_
  · intro w
    go_simp; first | done | (intro hx; exact absurd hx (by omega))
  try simp only [Act.put, List.setIfInBounds_toArray, List.set_cons_zero, List.set_cons_succ]
  refine wpAnyG_pure (i := 6) (oi := ⟨some 8, _, _, _, _, _⟩) (v := ?_) rfl (by kernel_rfl) (by kernel_rfl) (by kernel_rfl) (by rfl) (fun _ _ _ h => h) (by rfl) ?_ ?_
  rotate_left
  · intro w
    go_simp
    first | done | with_reducible rfl
  try simp only [Act.put, List.setIfInBounds_toArray, List.set_cons_zero, List.set_cons_succ]
  refine wpAnyG_pure (i := 7) (oi := ⟨some 9, _, _, _, _, _⟩) (v := ?_) rfl (by kernel_rfl) (by kernel_rfl) (by kernel_rfl) (by rfl) (fun _ _ _ h => h) (by rfl) ?_ ?_
  rotate_left
  · intro w
    go_simp
    first | done | with_reducible rfl
  try simp only [Act.put, List.setIfInBounds_toArray, List.set_cons_zero, List.set_cons_succ]
  refine wpAnyG_done (by kernel_rfl) ?_ _
  refine NoPanic.normal ?_
  have d1 := HD.out _ h
  have KM2 := KM _ _ HG.out.cons h
  clear KM h
  go_wp2_with (refine KM2.mono ?_; clear KM2; rintro e w5 ⟨rfl, h⟩; have H5 := Lib.hid h.drew; clear h)
  have h := H5.out
  clear H5
  refine wp_region_text [4] (fun w' => w'.cell? ⟨w.heap.size, 1, none⟩ = some (.string v)) (by kernel_rfl) ?_ (fun hS => ?_)
  · exact HD.out _ h
  refine wpAnyG_pure (i := 0) (oi := ⟨some 47, _, _, _, _, _⟩) (v := ?_) rfl (by kernel_rfl) (by kernel_rfl) (by kernel_rfl) (by rfl) (fun _ _ _ h => h) (by rfl) ?_ ?_
  rotate_left
  · intro w
    go_simp
    first | done | with_reducible rfl
  try simp only [Act.put, List.setIfInBounds_toArray, List.set_cons_zero, List.set_cons_succ]
  refine wpAnyG_pure (i := 1) (oi := ⟨some 48, _, _, _, _, _⟩) (v := ?_) rfl (by kernel_rfl) (by kernel_rfl) (by kernel_rfl) (by rfl) (fun _ _ _ h => h) (by rfl) ?_ ?_
  rotate_left
  · intro w
    go_simp
    first | done | with_reducible rfl
  try simp only [Act.put, List.setIfInBounds_toArray, List.set_cons_zero, List.set_cons_succ]
  refine wpAnyG_pure (i := 2) (oi := ⟨some 49, _, _, _, _, _⟩) (v := ?_) rfl (by kernel_rfl) (by kernel_rfl) (by kernel_rfl) (by rfl) (fun _ _ _ h => h) (by rfl) ?_ ?_
  rotate_left
  · intro w
    go_simp
    first | done | with_reducible rfl
  try simp only [Act.put, List.setIfInBounds_toArray, List.set_cons_zero, List.set_cons_succ]
  refine wpAnyG_pure (i := 3) (oi := ⟨some 50, _, _, _, _, _⟩) (v := ?_) rfl (by kernel_rfl) (by kernel_rfl) (by kernel_rfl) (by rfl) (fun _ _ _ h => h) (by rfl) ?_ ?_
  rotate_left
  · intro w
    go_simp
    first | done | with_reducible rfl
  try simp only [Act.put, List.setIfInBounds_toArray, List.set_cons_zero, List.set_cons_succ]
  refine wpAnyG_load (i := 4) (oi := ⟨some 51, _, _, _, _, _⟩) (v := ?_) rfl (by kernel_rfl) (by kernel_rfl) (by kernel_rfl) (by rfl) (fun _ _ _ h => h) (by rfl) ?_ (by assumption) ?_
  rotate_left
  · intro w hS
    try dsimp only at hS
    go_simp
    first | done | with_reducible rfl
  try simp only [Act.put, List.setIfInBounds_toArray, List.set_cons_zero, List.set_cons_succ]
  refine wpAnyG_pure (i := 5) (oi := ⟨some 2, _, _, _, _, _⟩) (v := ?_) rfl (by kernel_rfl) (by kernel_rfl) (by kernel_rfl) (by rfl) (fun _ _ _ h => h) (by rfl) ?_ ?_
  rotate_left
  · intro w
    go_simp
    first | done | with_reducible rfl
  try simp only [Act.put, List.setIfInBounds_toArray, List.set_cons_zero, List.set_cons_succ]
  refine wpAnyG_pure (i := 6) (oi := ⟨some 3, _, _, _, _, _⟩) (v := ?_) rfl (by kernel_rfl) (by kernel_rfl) (by kernel_rfl) (by rfl) (fun _ _ _ h => h) (by rfl) ?_ ?_
  rotate_left
  · intro w
    go_simp
    first | done | with_reducible rfl
  try simp only [Act.put, List.setIfInBounds_toArray, List.set_cons_zero, List.set_cons_succ]
  refine wpAnyG_pure (i := 7) (oi := ⟨some 4, _, _, _, _, _⟩) (v := ?_) rfl (by kernel_rfl) (by kernel_rfl) (by kernel_rfl) (by rfl) (fun _ _ _ h => h) (by rfl) ?_ ?_
  rotate_left
  · intro w
    go_simp
    first | done | with_reducible rfl
  try simp only [Act.put, List.setIfInBounds_toArray, List.set_cons_zero, List.set_cons_succ]
  refine wpAnyG_pure (i := 8) (oi := ⟨some 5, _, _, _, _, _⟩) (v := ?_) rfl (by kernel_rfl) (by kernel_rfl) (by kernel_rfl) (by rfl) (fun _ _ _ h => h) (by rfl) ?_ ?_
  rotate_left
  · intro w
    go_simp
    first | done | with_reducible rfl
  try simp only [Act.put, List.setIfInBounds_toArray, List.set_cons_zero, List.set_cons_succ]
  refine wpAnyG_pure (i := 9) (oi := ⟨some 6, _, _, _, _, _⟩) (v := ?_) rfl (by kernel_rfl) (by kernel_rfl) (by kernel_rfl) (by rfl) (fun _ _ _ h => h) (by rfl) ?_ ?_
  rotate_left
  · intro w
    go_simp
    first | done | with_reducible rfl
  try simp only [Act.put, List.setIfInBounds_toArray, List.set_cons_zero, List.set_cons_succ]
  refine wpAnyG_done (by kernel_rfl) ?_ _
  refine NoPanic.normal ?_
  go_wp2_with fail
  (try simp only [Exit.inBlock, Exit.then])
  refine bodyPost_ret (results_tmp5 rfl _ _ _) rfl ?_
  exact ⟨rfl, h.drop⟩
set_option maxRecDepth 20000 in
set_option maxHeartbeats 4000000 in
theorem pidx_x (fin id : Int) (w : World) (hf : 0 ≤ fin ∧ fin ≤ 1099511627776) (hi : 1 ≤ id ∧ id ≤ 4611686018427387904) (hG : Laid0 E L) (h : Own E w L) :
    Calls Tryz.prog 31 #[.agg #[.string (exK fin id), .string (noB)]] w fun e w' => e = .returned (.tuple #[.string ⟨#[120]⟩, .int .i64 fin, .int .i64 id, .string ⟨#[]⟩, .int .i64 0]) ∧ Own E w' L := by
  have r1 := read_two 6 8 fin id (by omega) (by omega)
  have zr : (⟨(byN 6 fin.toNat ++ byN 8 id.toNat).toArray⟩ : ByteArray).size ≤ 1000000000000000 := by rw [fl_size, List.length_append, byN_len, byN_len]; omega
  have J1 := fun w => istime_any fin w
  have J2 := fun w => isid_any id w
  rw [decide_eq_true hf] at J1
  rw [decide_eq_true hi] at J2
  obtain ⟨k, hk⟩ : ∃ k, k = exK fin id := ⟨_, rfl⟩
  obtain ⟨v, hv⟩ : ∃ v, v = noB := ⟨_, rfl⟩
  obtain ⟨lt, hlt⟩ : ∃ lt : ByteArray, lt = ⟨#[120]⟩ := ⟨_, rfl⟩
  obtain ⟨r, hrr⟩ : ∃ r : ByteArray, r = ⟨(byN 6 fin.toNat ++ byN 8 id.toNat).toArray⟩ := ⟨_, rfl⟩
  have e1 : k.extract 0 1 = lt := by
    rw [hk, hlt]
    exact ext_head _ _
  have e2 : k.extract 1 k.size = r := by
    rw [hk, hrr]
    exact ext_tail _ _
  have e4 : 1 ≤ k.size := by
    rw [hk]
    unfold exK
    rw [fl_size, List.length_cons]
    omega
  have e3 : k.toList.isEmpty = false := by
    rw [isEmpty_size]
    exact decide_eq_false (by omega)
  have i1 : (1 : Int) ≤ (k.size : Int) := by omega
  have l1 : (lt.toList == [109]) = false := by rw [hlt, ByteArray.toList_eq]; rfl
  have l2 : (lt.toList == [120]) = true := by rw [hlt, ByteArray.toList_eq]; rfl
  have l3 : (lt.toList == [115]) = false := by rw [hlt, ByteArray.toList_eq]; rfl
  have v1 : v.toList.isEmpty = true := by rw [isEmpty_size, hv]; rfl
  rw [← hrr] at r1 zr
  rw [← hk, ← hv, ← hlt]
  have h1 := h.alloc (.cells #[.string k, .string v] ITT)
  have HC : Hid (∀ w', Own E w' (Hp.blk w.heap.size ITT #[.string k, .string v] :: L) → w'.cell? ⟨w.heap.size, 0, none⟩ = some (.string k)) := Lib.hid fun w' h => (h.cell 0).trans rfl
  have HG := Lib.hid hG
  clear hk hv hlt hrr h hG hf hi
  have H1 := Lib.hid h1
  clear h1
  go_enter Tryz.func31, Tryz.ntmps31
  go_wp2_with fail
  have h := H1.out.drew
  clear H1
  refine wp_region_text [1, 4] (fun w' => w'.cell? ⟨w.heap.size, 0, none⟩ = some (.string k)) (by kernel_rfl) ?_ (fun hS => ?_)
  · exact HC.out _ h
  refine wpAnyG_pure (i := 0) (oi := ⟨some 29, _, _, _, _, _⟩) (v := ?_) rfl (by kernel_rfl) (by kernel_rfl) (by kernel_rfl) (by rfl) (fun _ _ _ h => h) (by rfl) ?_ ?_
  rotate_left
  · intro w
    go_simp
    first | done | with_reducible rfl
  try simp only [Act.put, List.setIfInBounds_toArray, List.set_cons_zero, List.set_cons_succ]
  refine wpAnyG_load (i := 1) (oi := ⟨some 30, _, _, _, _, _⟩) (v := (.string k)) rfl (by kernel_rfl) (by kernel_rfl) (by kernel_rfl) (by rfl) (fun _ _ _ h => h) (by rfl) ?_ (by assumption) ?_
  · intro w hS
    go_simp
  try simp only [Act.put, List.setIfInBounds_toArray, List.set_cons_zero, List.set_cons_succ]
  refine wpAnyG_pure (i := 2) (oi := ⟨some 31, _, _, _, _, _⟩) (v := (.string lt)) rfl (by kernel_rfl) (by kernel_rfl) (by kernel_rfl) (by rfl) (fun _ _ _ h => h) (by rfl) ?_ ?_
  · intro w
    go_simp; first | done | (intro hx; exact absurd hx (by omega))
  try simp only [Act.put, List.setIfInBounds_toArray, List.set_cons_zero, List.set_cons_succ]
  refine wpAnyG_pure (i := 3) (oi := ⟨some 32, _, _, _, _, _⟩) (v := ?_) rfl (by kernel_rfl) (by kernel_rfl) (by kernel_rfl) (by rfl) (fun _ _ _ h => h) (by rfl) ?_ ?_
  rotate_left
  · intro w
    go_simp
    first | done | with_reducible rfl
  try simp only [Act.put, List.setIfInBounds_toArray, List.set_cons_zero, List.set_cons_succ]
  refine wpAnyG_load (i := 4) (oi := ⟨some 33, _, _, _, _, _⟩) (v := (.string k)) rfl (by kernel_rfl) (by kernel_rfl) (by kernel_rfl) (by rfl) (fun _ _ _ h => h) (by rfl) ?_ (by assumption) ?_
  · intro w hS
    go_simp
  try simp only [Act.put, List.setIfInBounds_toArray, List.set_cons_zero, List.set_cons_succ]
  refine wpAnyG_pure (i := 5) (oi := ⟨some 34, _, _, _, _, _⟩) (v := (.string r)) rfl (by kernel_rfl) (by kernel_rfl) (by kernel_rfl) (by rfl) (fun _ _ _ h => h) (by rfl) ?_ ?_
  · intro w
    go_simp; first | done | (intro hx; exact absurd hx (by omega))
  try simp only [Act.put, List.setIfInBounds_toArray, List.set_cons_zero, List.set_cons_succ]
  refine wpAnyG_pure (i := 6) (oi := ⟨some 8, _, _, _, _, _⟩) (v := ?_) rfl (by kernel_rfl) (by kernel_rfl) (by kernel_rfl) (by rfl) (fun _ _ _ h => h) (by rfl) ?_ ?_
  rotate_left
  · intro w
    go_simp
    first | done | with_reducible rfl
  try simp only [Act.put, List.setIfInBounds_toArray, List.set_cons_zero, List.set_cons_succ]
  refine wpAnyG_pure (i := 7) (oi := ⟨some 9, _, _, _, _, _⟩) (v := ?_) rfl (by kernel_rfl) (by kernel_rfl) (by kernel_rfl) (by rfl) (fun _ _ _ h => h) (by rfl) ?_ ?_
  rotate_left
  · intro w
    go_simp
    first | done | with_reducible rfl
  try simp only [Act.put, List.setIfInBounds_toArray, List.set_cons_zero, List.set_cons_succ]
  refine wpAnyG_done (by kernel_rfl) ?_ _
  refine NoPanic.normal ?_
  generalize (w.alloc (.cells #[.string k, .string v] ITT)).drew = w2 at *
  have h2 := h.alloc (.cells #[.int .i64 0] I64)
  have h3 := h2.alloc (.cells #[.int .i64 0] I64)
  rw [alloc_size] at h3
  have H3 := Lib.hid (show Own E _ (Hp.blk w2.heap.size I64 #[.int .i64 0] :: Hp.blk (w2.heap.size + 1) I64 #[.int .i64 0] :: Hp.blk w.heap.size ITT #[.string k, .string v] :: L) from h3.f1)
  have KR : Hid (∀ (bb : Nat) (w3 : World), Own E w3 (Hp.blk bb FT (([(.num 6, ⟨w2.heap.size, 0, none⟩), (.num 8, ⟨(w2.heap.size + 1), 0, none⟩)] : List (Fk × Addr)).flatMap enF).toArray :: Hp.blk w2.heap.size I64 #[.int .i64 0] :: Hp.blk (w2.heap.size + 1) I64 #[.int .i64 0] :: Hp.blk w.heap.size ITT #[.string k, .string v] :: L) → Calls Tryz.prog 67 #[.slice (some ⟨bb, 0, none⟩) 2 2, .string r] w3 fun e w' => e = .returned (.bool true) ∧ Own E w' (Hp.blk w2.heap.size I64 #[.int .i64 fin] :: Hp.blk (w2.heap.size + 1) I64 #[.int .i64 id] :: Hp.blk w.heap.size ITT #[.string k, .string v] :: L)) := Lib.hid fun bb w3 h3 => read2_any bb _ _ 6 8 fin id _ _ r w3 zr r1 HG.out.cons h3
  have K1 := fun (wq : World) (M : List Hp) (h : Own E wq M) => fnum_any (E := E) (L := M) 6 ⟨w2.heap.size, 0, none⟩ wq h
  have K2 := fun (wq : World) (M : List Hp) (h : Own E wq M) => fnum_any (E := E) (L := M) 8 ⟨(w2.heap.size + 1), 0, none⟩ wq h
  simp only [enF, show ((8 : Nat) : Int) = 8 from rfl, show ((6 : Nat) : Int) = 6 from rfl] at K1 K2
  have HD : Hid (∀ w', Own E w' (Hp.blk w2.heap.size I64 #[.int .i64 fin] :: Hp.blk (w2.heap.size + 1) I64 #[.int .i64 id] :: Hp.blk w.heap.size ITT #[.string k, .string v] :: L) → w'.cell? ⟨w.heap.size, 1, none⟩ = some (.string v) ∧ w'.cell? ⟨w2.heap.size, 0, none⟩ = some (.int .i64 fin) ∧ w'.cell? ⟨(w2.heap.size + 1), 0, none⟩ = some (.int .i64 id)) := Lib.hid fun w' h => ⟨(h.f2.cell 1).trans rfl, (h.cell 0).trans rfl, (h.f1.cell 0).trans rfl⟩
  clear h h2 h3 r1 zr HC
  go_wp2_with (first
    | (with_reducible refine (K1 _ _ H3.out).mono ?_; clear H3; rintro e w4 ⟨rfl, h⟩; have H3 := Lib.hid h; clear h)
    | (with_reducible refine (K2 _ _ H3.out).mono ?_; clear H3; rintro e w4 ⟨rfl, h⟩; have H3 := Lib.hid h; clear h)
    | (with_reducible refine (J1 _).mono ?_; rintro e w4 ⟨rfl, rfl⟩)
    | (with_reducible refine (J2 _).mono ?_; rintro e w4 ⟨rfl, rfl⟩)
    | (refine (KR.out _ _ (H3.out.alloc _)).mono ?_; clear H3 KR; rintro e w5 ⟨rfl, h⟩; have H3 := Lib.hid h; clear h; obtain ⟨c1, c2, c3⟩ := HD.out _ H3.out))
  have h := H3.out.drew
  clear H3
  refine wp_region_text [1, 2] (fun w' => w'.cell? ⟨w2.heap.size, 0, none⟩ = some (.int .i64 fin) ∧ w'.cell? ⟨(w2.heap.size + 1), 0, none⟩ = some (.int .i64 id)) (by kernel_rfl) ?_ (fun hS => ?_)
  · exact (HD.out _ h).2
  refine wpAnyG_pure (i := 0) (oi := ⟨some 72, _, _, _, _, _⟩) (v := ?_) rfl (by kernel_rfl) (by kernel_rfl) (by kernel_rfl) (by rfl) (fun _ _ _ h => h) (by rfl) ?_ ?_
  rotate_left
  · intro w
    go_simp
    first | done | with_reducible rfl
  try simp only [Act.put, List.setIfInBounds_toArray, List.set_cons_zero, List.set_cons_succ]
  refine wpAnyG_load (i := 1) (oi := ⟨some 73, _, _, _, _, _⟩) (v := ?_) rfl (by kernel_rfl) (by kernel_rfl) (by kernel_rfl) (by rfl) (fun _ _ _ h => h) (by rfl) ?_ (by assumption) ?_
  rotate_left
  · intro w hS
    try dsimp only at hS
    go_simp
    first | done | with_reducible rfl
  try simp only [Act.put, List.setIfInBounds_toArray, List.set_cons_zero, List.set_cons_succ]
  refine wpAnyG_load (i := 2) (oi := ⟨some 74, _, _, _, _, _⟩) (v := ?_) rfl (by kernel_rfl) (by kernel_rfl) (by kernel_rfl) (by rfl) (fun _ _ _ h => h) (by rfl) ?_ (by assumption) ?_
  rotate_left
  · intro w hS
    try dsimp only at hS
    go_simp
    first | done | with_reducible rfl
  try simp only [Act.put, List.setIfInBounds_toArray, List.set_cons_zero, List.set_cons_succ]
  refine wpAnyG_pure (i := 3) (oi := ⟨some 2, _, _, _, _, _⟩) (v := ?_) rfl (by kernel_rfl) (by kernel_rfl) (by kernel_rfl) (by rfl) (fun _ _ _ h => h) (by rfl) ?_ ?_
  rotate_left
  · intro w
    go_simp
    first | done | with_reducible rfl
  try simp only [Act.put, List.setIfInBounds_toArray, List.set_cons_zero, List.set_cons_succ]
  refine wpAnyG_pure (i := 4) (oi := ⟨some 3, _, _, _, _, _⟩) (v := ?_) rfl (by kernel_rfl) (by kernel_rfl) (by kernel_rfl) (by rfl) (fun _ _ _ h => h) (by rfl) ?_ ?_
  rotate_left
  · intro w
    go_simp
    first | done | with_reducible rfl
  try simp only [Act.put, List.setIfInBounds_toArray, List.set_cons_zero, List.set_cons_succ]
  refine wpAnyG_pure (i := 5) (oi := ⟨some 4, _, _, _, _, _⟩) (v := ?_) rfl (by kernel_rfl) (by kernel_rfl) (by kernel_rfl) (by rfl) (fun _ _ _ h => h) (by rfl) ?_ ?_
  rotate_left
  · intro w
    go_simp
    first | done | with_reducible rfl
  try simp only [Act.put, List.setIfInBounds_toArray, List.set_cons_zero, List.set_cons_succ]
  refine wpAnyG_pure (i := 6) (oi := ⟨some 5, _, _, _, _, _⟩) (v := ?_) rfl (by kernel_rfl) (by kernel_rfl) (by kernel_rfl) (by rfl) (fun _ _ _ h => h) (by rfl) ?_ ?_
  rotate_left
  · intro w
    go_simp
    first | done | with_reducible rfl
  try simp only [Act.put, List.setIfInBounds_toArray, List.set_cons_zero, List.set_cons_succ]
  refine wpAnyG_pure (i := 7) (oi := ⟨some 6, _, _, _, _, _⟩) (v := ?_) rfl (by kernel_rfl) (by kernel_rfl) (by kernel_rfl) (by rfl) (fun _ _ _ h => h) (by rfl) ?_ ?_
  rotate_left
  · intro w
    go_simp
    first | done | with_reducible rfl
  try simp only [Act.put, List.setIfInBounds_toArray, List.set_cons_zero, List.set_cons_succ]
  refine wpAnyG_done (by kernel_rfl) ?_ _
  refine NoPanic.normal ?_
  go_wp2_with fail
  (try simp only [Exit.inBlock, Exit.then])
  refine bodyPost_ret (results_tmp5 rfl _ _ _) rfl ?_
  exact ⟨rfl, h.drop.drop.drop⟩
set_option maxRecDepth 20000 in
set_option maxHeartbeats 4000000 in
theorem pidx_s (su : ByteArray) (id : Int) (w : World) (hn : nameB su = true) (hi : 1 ≤ id ∧ id ≤ 4611686018427387904) (hG : Laid0 E L) (h : Own E w L) :
    Calls Tryz.prog 31 #[.agg #[.string (suK su id), .string (noB)]] w fun e w' => e = .returned (.tuple #[.string ⟨#[115]⟩, .int .i64 0, .int .i64 id, .string su, .int .i64 0]) ∧ Own E w' L := by
  have r1 := read_one 8 id (by omega)
  have zr : (⟨(byN 8 id.toNat).toArray⟩ : ByteArray).size ≤ 1000000000000000 := by rw [fl_size, byN_len]; omega
  have J2 := fun w => isid_any id w
  rw [decide_eq_true hi] at J2
  have KN := fun (wq : World) (M : List Hp) (h : Own E wq M) => isname_any (E := E) (L := M) su wq h
  rw [hn] at KN
  obtain ⟨r2, hr2⟩ : ∃ r2 : ByteArray, r2 = ⟨(byN 8 id.toNat).toArray⟩ := ⟨_, rfl⟩
  rw [← hr2] at r1 zr
  have hc : Lib.indexByte (su.data.toList ++ 0 :: byN 8 id.toNat) 0 = su.size := index_nought _ _ (name_no0 hn)
  have hsz := nm_size hn
  obtain ⟨k, hk⟩ : ∃ k, k = suK su id := ⟨_, rfl⟩
  obtain ⟨v, hv⟩ : ∃ v, v = noB := ⟨_, rfl⟩
  obtain ⟨lt, hlt⟩ : ∃ lt : ByteArray, lt = ⟨#[115]⟩ := ⟨_, rfl⟩
  obtain ⟨r, hrr⟩ : ∃ r : ByteArray, r = ⟨(su.data.toList ++ 0 :: byN 8 id.toNat).toArray⟩ := ⟨_, rfl⟩
  have e1 : k.extract 0 1 = lt := by
    rw [hk, hlt]
    exact ext_head _ _
  have e2 : k.extract 1 k.size = r := by
    rw [hk, hrr]
    exact ext_tail _ _
  have e4 : 1 ≤ k.size := by
    rw [hk]
    unfold suK
    rw [fl_size, List.length_cons]
    omega
  have e3 : k.toList.isEmpty = false := by
    rw [isEmpty_size]
    exact decide_eq_false (by omega)
  have i1 : (1 : Int) ≤ (k.size : Int) := by omega
  have l1 : (lt.toList == [109]) = false := by rw [hlt, ByteArray.toList_eq]; rfl
  have l2 : (lt.toList == [120]) = false := by rw [hlt, ByteArray.toList_eq]; rfl
  have l3 : (lt.toList == [115]) = true := by rw [hlt, ByteArray.toList_eq]; rfl
  have v1 : v.toList.isEmpty = true := by rw [isEmpty_size, hv]; rfl
  have q1 : Lib.indexByte r.data.toList 0 = su.size := by rw [hrr]; exact hc
  have q2 : r.size = su.size + 1 + 8 := by
    rw [hrr, fl_size, List.length_append, List.length_cons, byN_len]
    show su.size + _ = _
    omega
  have q3 : r.extract 0 su.size = su := by
    rw [hrr]
    have := ext_mid [] su.data.toList (0 :: byN 8 id.toNat)
    simp only [List.nil_append, List.length_nil, Nat.zero_add] at this
    refine this.trans ?_
    refine bytes_ext _ _ ?_
    simp
  have q4 : r.extract (su.size + 1) r.size = r2 := by
    rw [q2, hrr, hr2]
    have := ext_mid (su.data.toList ++ [0]) (byN 8 id.toNat) []
    rw [List.append_nil, List.length_append, byN_len, List.append_assoc] at this
    exact this
  have KC := fun (wq : World) (M : List Hp) (h : Own E wq M) => cut0_any (E := E) (L := M) su r2 r wq q1 (by omega) (by omega) q3 q4 h
  rw [← hk, ← hv, ← hlt]
  have h1 := h.alloc (.cells #[.string k, .string v] ITT)
  have HC : Hid (∀ w', Own E w' (Hp.blk w.heap.size ITT #[.string k, .string v] :: L) → w'.cell? ⟨w.heap.size, 0, none⟩ = some (.string k)) := Lib.hid fun w' h => (h.cell 0).trans rfl
  have HG := Lib.hid hG
  clear hk hv hlt hrr h hG hi hn hc hsz q1 q2 q3 q4 hr2
  have H1 := Lib.hid h1
  clear h1
  go_enter Tryz.func31, Tryz.ntmps31
  go_wp2_with fail
  have h := H1.out.drew
  clear H1
  refine wp_region_text [1, 4] (fun w' => w'.cell? ⟨w.heap.size, 0, none⟩ = some (.string k)) (by kernel_rfl) ?_ (fun hS => ?_)
  · exact HC.out _ h
  refine wpAnyG_pure (i := 0) (oi := ⟨some 29, _, _, _, _, _⟩) (v := ?_) rfl (by kernel_rfl) (by kernel_rfl) (by kernel_rfl) (by rfl) (fun _ _ _ h => h) (by rfl) ?_ ?_
  rotate_left
  · intro w
    go_simp
    first | done | with_reducible rfl
  try simp only [Act.put, List.setIfInBounds_toArray, List.set_cons_zero, List.set_cons_succ]
  refine wpAnyG_load (i := 1) (oi := ⟨some 30, _, _, _, _, _⟩) (v := (.string k)) rfl (by kernel_rfl) (by kernel_rfl) (by kernel_rfl) (by rfl) (fun _ _ _ h => h) (by rfl) ?_ (by assumption) ?_
  · intro w hS
    go_simp
  try simp only [Act.put, List.setIfInBounds_toArray, List.set_cons_zero, List.set_cons_succ]
  refine wpAnyG_pure (i := 2) (oi := ⟨some 31, _, _, _, _, _⟩) (v := (.string lt)) rfl (by kernel_rfl) (by kernel_rfl) (by kernel_rfl) (by rfl) (fun _ _ _ h => h) (by rfl) ?_ ?_
  · intro w
    go_simp; first | done | (intro hx; exact absurd hx (by omega))
  try simp only [Act.put, List.setIfInBounds_toArray, List.set_cons_zero, List.set_cons_succ]
  refine wpAnyG_pure (i := 3) (oi := ⟨some 32, _, _, _, _, _⟩) (v := ?_) rfl (by kernel_rfl) (by kernel_rfl) (by kernel_rfl) (by rfl) (fun _ _ _ h => h) (by rfl) ?_ ?_
  rotate_left
  · intro w
    go_simp
    first | done | with_reducible rfl
  try simp only [Act.put, List.setIfInBounds_toArray, List.set_cons_zero, List.set_cons_succ]
  refine wpAnyG_load (i := 4) (oi := ⟨some 33, _, _, _, _, _⟩) (v := (.string k)) rfl (by kernel_rfl) (by kernel_rfl) (by kernel_rfl) (by rfl) (fun _ _ _ h => h) (by rfl) ?_ (by assumption) ?_
  · intro w hS
    go_simp
  try simp only [Act.put, List.setIfInBounds_toArray, List.set_cons_zero, List.set_cons_succ]
  refine wpAnyG_pure (i := 5) (oi := ⟨some 34, _, _, _, _, _⟩) (v := (.string r)) rfl (by kernel_rfl) (by kernel_rfl) (by kernel_rfl) (by rfl) (fun _ _ _ h => h) (by rfl) ?_ ?_
  · intro w
    go_simp; first | done | (intro hx; exact absurd hx (by omega))
  try simp only [Act.put, List.setIfInBounds_toArray, List.set_cons_zero, List.set_cons_succ]
  refine wpAnyG_pure (i := 6) (oi := ⟨some 8, _, _, _, _, _⟩) (v := ?_) rfl (by kernel_rfl) (by kernel_rfl) (by kernel_rfl) (by rfl) (fun _ _ _ h => h) (by rfl) ?_ ?_
  rotate_left
  · intro w
    go_simp
    first | done | with_reducible rfl
  try simp only [Act.put, List.setIfInBounds_toArray, List.set_cons_zero, List.set_cons_succ]
  refine wpAnyG_pure (i := 7) (oi := ⟨some 9, _, _, _, _, _⟩) (v := ?_) rfl (by kernel_rfl) (by kernel_rfl) (by kernel_rfl) (by rfl) (fun _ _ _ h => h) (by rfl) ?_ ?_
  rotate_left
  · intro w
    go_simp
    first | done | with_reducible rfl
  try simp only [Act.put, List.setIfInBounds_toArray, List.set_cons_zero, List.set_cons_succ]
  refine wpAnyG_done (by kernel_rfl) ?_ _
  refine NoPanic.normal ?_
  have KC2 := KC _ _ h
  clear KC h HC
  go_wp2_with (refine KC2.mono ?_; clear KC2; rintro e w2 ⟨rfl, h⟩; have H2 := Lib.hid h; have H3 := Lib.hid (h.alloc (.cells #[.int .i64 0] I64)); clear h; have K1 := fun (wq : World) (M : List Hp) (h : Own E wq M) => fnum_any (E := E) (L := M) 8 ⟨w2.heap.size, 0, none⟩ wq h; simp only [enF, show ((8 : Nat) : Int) = 8 from rfl] at K1)
  have KR : Hid (∀ (bb : Nat) (w3 : World), Own E w3 (Hp.blk bb FT (([(.num 8, ⟨w2.heap.size, 0, none⟩)] : List (Fk × Addr)).flatMap enF).toArray :: Hp.blk w2.heap.size I64 #[.int .i64 0] :: Hp.blk w.heap.size ITT #[.string k, .string v] :: L) → Calls Tryz.prog 67 #[.slice (some ⟨bb, 0, none⟩) 1 1, .string r2] w3 fun e w' => e = .returned (.bool true) ∧ Own E w' (Hp.blk w2.heap.size I64 #[.int .i64 id] :: Hp.blk w.heap.size ITT #[.string k, .string v] :: L)) := Lib.hid fun bb w3 h3 => read1_any bb _ 8 id _ r2 w3 zr r1 HG.out.cons h3
  have HD : Hid (∀ w', Own E w' (Hp.blk w2.heap.size I64 #[.int .i64 id] :: Hp.blk w.heap.size ITT #[.string k, .string v] :: L) → w'.cell? ⟨w.heap.size, 1, none⟩ = some (.string v) ∧ w'.cell? ⟨w2.heap.size, 0, none⟩ = some (.int .i64 id)) := Lib.hid fun w' h => ⟨(h.f1.cell 1).trans rfl, (h.cell 0).trans rfl⟩
  clear r1 zr
  go_wp2_with (first
    | (with_reducible refine (K1 _ _ H3.out).mono ?_; clear H3; rintro e w4 ⟨rfl, h⟩; have H3 := Lib.hid h; clear h)
    | (with_reducible refine (J2 _).mono ?_; rintro e w4 ⟨rfl, rfl⟩)
    | (with_reducible refine (KN _ _ H3.out).mono ?_; clear H3; rintro e w4 ⟨rfl, h⟩; have H3 := Lib.hid h; clear h; clear c1 c2; obtain ⟨c1, c2⟩ := HD.out _ H3.out)
    | (refine (KR.out _ _ (H3.out.alloc _)).mono ?_; clear H3 KR; rintro e w5 ⟨rfl, h⟩; have H3 := Lib.hid h; clear h; obtain ⟨c1, c2⟩ := HD.out _ H3.out))
  have h := H3.out.drew
  clear H3
  refine wp_region_text [1] (fun w' => w'.cell? ⟨w2.heap.size, 0, none⟩ = some (.int .i64 id)) (by kernel_rfl) ?_ (fun hS => ?_)
  · exact (HD.out _ h).2
  refine wpAnyG_pure (i := 0) (oi := ⟨some 100, _, _, _, _, _⟩) (v := ?_) rfl (by kernel_rfl) (by kernel_rfl) (by kernel_rfl) (by rfl) (fun _ _ _ h => h) (by rfl) ?_ ?_
  rotate_left
  · intro w
    go_simp
    first | done | with_reducible rfl
  try simp only [Act.put, List.setIfInBounds_toArray, List.set_cons_zero, List.set_cons_succ]
  refine wpAnyG_load (i := 1) (oi := ⟨some 101, _, _, _, _, _⟩) (v := ?_) rfl (by kernel_rfl) (by kernel_rfl) (by kernel_rfl) (by rfl) (fun _ _ _ h => h) (by rfl) ?_ (by assumption) ?_
  rotate_left
  · intro w hS
    try dsimp only at hS
    go_simp
    first | done | with_reducible rfl
  try simp only [Act.put, List.setIfInBounds_toArray, List.set_cons_zero, List.set_cons_succ]
  refine wpAnyG_pure (i := 2) (oi := ⟨some 102, _, _, _, _, _⟩) (v := ?_) rfl (by kernel_rfl) (by kernel_rfl) (by kernel_rfl) (by rfl) (fun _ _ _ h => h) (by rfl) ?_ ?_
  rotate_left
  · intro w
    go_simp
    first | done | with_reducible rfl
  try simp only [Act.put, List.setIfInBounds_toArray, List.set_cons_zero, List.set_cons_succ]
  refine wpAnyG_pure (i := 3) (oi := ⟨some 2, _, _, _, _, _⟩) (v := ?_) rfl (by kernel_rfl) (by kernel_rfl) (by kernel_rfl) (by rfl) (fun _ _ _ h => h) (by rfl) ?_ ?_
  rotate_left
  · intro w
    go_simp
    first | done | with_reducible rfl
  try simp only [Act.put, List.setIfInBounds_toArray, List.set_cons_zero, List.set_cons_succ]
  refine wpAnyG_pure (i := 4) (oi := ⟨some 3, _, _, _, _, _⟩) (v := ?_) rfl (by kernel_rfl) (by kernel_rfl) (by kernel_rfl) (by rfl) (fun _ _ _ h => h) (by rfl) ?_ ?_
  rotate_left
  · intro w
    go_simp
    first | done | with_reducible rfl
  try simp only [Act.put, List.setIfInBounds_toArray, List.set_cons_zero, List.set_cons_succ]
  refine wpAnyG_pure (i := 5) (oi := ⟨some 4, _, _, _, _, _⟩) (v := ?_) rfl (by kernel_rfl) (by kernel_rfl) (by kernel_rfl) (by rfl) (fun _ _ _ h => h) (by rfl) ?_ ?_
  rotate_left
  · intro w
    go_simp
    first | done | with_reducible rfl
  try simp only [Act.put, List.setIfInBounds_toArray, List.set_cons_zero, List.set_cons_succ]
  refine wpAnyG_pure (i := 6) (oi := ⟨some 5, _, _, _, _, _⟩) (v := ?_) rfl (by kernel_rfl) (by kernel_rfl) (by kernel_rfl) (by rfl) (fun _ _ _ h => h) (by rfl) ?_ ?_
  rotate_left
  · intro w
    go_simp
    first | done | with_reducible rfl
  try simp only [Act.put, List.setIfInBounds_toArray, List.set_cons_zero, List.set_cons_succ]
  refine wpAnyG_pure (i := 7) (oi := ⟨some 6, _, _, _, _, _⟩) (v := ?_) rfl (by kernel_rfl) (by kernel_rfl) (by kernel_rfl) (by rfl) (fun _ _ _ h => h) (by rfl) ?_ ?_
  rotate_left
  · intro w
    go_simp
    first | done | with_reducible rfl
  try simp only [Act.put, List.setIfInBounds_toArray, List.set_cons_zero, List.set_cons_succ]
  refine wpAnyG_done (by kernel_rfl) ?_ _
  refine NoPanic.normal ?_
  go_wp2_with fail
  (try simp only [Exit.inBlock, Exit.then])
  refine bodyPost_ret (results_tmp5 rfl _ _ _) rfl ?_
  exact ⟨rfl, h.drop.drop⟩
end
end Go.Proofs.YtabibfabieghpaaGreatDoor
