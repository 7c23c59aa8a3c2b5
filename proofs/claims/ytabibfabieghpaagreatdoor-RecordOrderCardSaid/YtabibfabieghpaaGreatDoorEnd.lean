/- clock.nearest, First, Add; record.End (printed by gen_end.py). -/
import Derived.Test.YtabibfabieghpaaGreatDoorFamP
namespace Go.Proofs.YtabibfabieghpaaGreatDoor
open Go.RowKit
def near (n : Int) : Int := min (max n 0) 1099511627776
theorem near_bd (n : Int) : 0 ≤ near n ∧ near n ≤ 1099511627776 := by unfold near; omega
theorem ret_end {a b : Int} (h : a = b) : Ending.returned (.int .i64 a) = .returned (.int .i64 b) := by rw [h]
def firstOf (l : List Int) : Int := l.foldl (fun o t => min o (near t)) 1099511627776
theorem nearest_any (n : Int) (w : World) :
    Calls Tryz.prog 125 #[.int .i64 n] w fun e w' => e = .returned (.int .i64 (near n)) ∧ w = w' := by
  rcases (by omega : n < 0 ∨ 0 ≤ n ∧ n ≤ 1099511627776 ∨ 1099511627776 < n) with h | h | h
  all_goals
    go_enter Tryz.func125, Tryz.ntmps125
    go_wp2
    all_goals go_ret
    all_goals exact ⟨ret_end (by unfold near; omega), rfl⟩
set_option maxHeartbeats 400000 in
theorem clockadd_any (t d : Int) (w : World) :
    Calls Tryz.prog 85 #[.int .i64 t, .int .i64 d] w fun e w' => e = .returned (.int .i64 (near (near t + d))) ∧ w = w' := by
  have hb := near_bd t
  go_enter Tryz.func85, Tryz.ntmps85
  go_wp2_with (refine (nearest_any _ _).mono ?_; rintro e w' ⟨rfl, rfl⟩)
  all_goals go_ret
  all_goals exact ⟨ret_end (by unfold near at *; omega), rfl⟩
set_option maxHeartbeats 400000 in
theorem first_any (A : Option Addr) (n c : Nat) (zs : List Int) (w : World) (hn : n ≤ 1000) (h : Rds (Ph.of w) 1 en64 A n zs) :
    Calls Tryz.prog 84 #[.slice A n c] w fun e w' => e = .returned (.int .i64 (firstOf zs)) ∧ w = w' := by
  have hl := h.1
  go_enter Tryz.func84, Tryz.ntmps84
  go_wp2_with fail
  go_loop [3, 8] (fun o i => ∃ k : Nat, k ≤ n ∧ i = .int .i64 k ∧ o = .int .i64 (firstOf (zs.take k))) (fun _ i => n - (intOf i).toNat)
  case atStart => exact ⟨0, Nat.zero_le _, rfl, rfl⟩
  case round =>
    obtain ⟨k, hk, rfl, rfl⟩ := hrel
    by_cases hlt : k < n
    · obtain ⟨x, b, off, hx, rfl, hc⟩ := h.get1 hlt
      have c0 := (Own.start w).rd (hc _ rfl)
      clear hc h
      have hs : firstOf (zs.take (k + 1)) = min (firstOf (zs.take k)) (near x) := by
        unfold firstOf
        rw [List.take_add_one, hx]
        simp
      have Hs := Lib.hid hs
      clear hs
      clear hx
      have Hl := Lib.hid hl
      clear hl
      go_wp2_with (refine (nearest_any _ _).mono ?_; rintro e w' ⟨rfl, rfl⟩)
      go_round
      case rel => exact ⟨k + 1, by omega, by go_num, by rw [Hs.out]; all_goals exact congrArg (Value.int .i64) (by first | omega | (split <;> omega))⟩
      case measure => simp [intOf]; omega
    · go_wp2_with fail
      go_ret
      exact ⟨ret_end (by rw [List.take_of_length_le (by omega)]), rfl⟩
abbrev IST : TypeId := 169
abbrev I64 : TypeId := 3
theorem i64_info : (Tryz.prog.info? I64).map (fun i => (i.zero, i.size, i.bytes)) = some (some (.int .i64 0), 1, 8) := by kernel_rfl
theorem ints_cells (xs : List Int) : (xs.map fun x => Value.int .i64 x).flatMap (fun v => v.cells.toList) = xs.map (Value.int .i64) := by
  induction xs with
  | nil => rfl
  | cons x r ih =>
    rw [List.map_cons, List.flatMap_cons, ih]
    rfl
theorem run_ints (xs : List Int) (n : Nat) (hn : xs.length = n) (h0 : 0 < n) (h1 : n ≤ 100) (parts : Array (Nat × Value)) (hp : parts.toList = ((xs.map fun x => Value.int .i64 x).zipIdx 0).map fun x => (x.2, x.1)) (w : World) :
    (Instr.buildSlice IST n parts).run Tryz.prog w = .ok (.slice (some ⟨w.heap.size, 0, none⟩) n n) (w.alloc (.cells (xs.map (Value.int .i64)).toArray I64)) := by
  obtain ⟨i, hi, hz⟩ := Option.map_eq_some_iff.1 i64_info
  simp only [Prod.mk.injEq] at hz
  have e := ints_cells xs
  have hf := Great.fill_whole (s := 1) (by omega) (xs.map fun x => Value.int .i64 x) ((Array.range (n * 1)).map ((Value.int .i64 0).cells[· % (Value.int .i64 0).cells.size]!)) (fun v hv => by
    obtain ⟨x, _, rfl⟩ := List.mem_map.1 hv
    rfl) (by simp [hn])
  rw [e, ← hp] at hf
  exact run_buildSlice w IST I64 n parts _ i (.int .i64 0) (by kernel_rfl) hi hz.1 (by rw [hz.2.1]; omega) (by rw [hz.2.1]; omega) (by rw [hz.2.1]; exact hf)
theorem wp_ints {E : World} {L : List Hp} {o : Oper} {a : Act} {w : World} {K : Act → World → Prop} {Q : Exit → Act → World → Prop} {n : Nat} {parts : Array (Nat × Operand)} (xs : List Int) (h : Own E w L) (ho : o.op = .buildSlice IST n parts) (hn : xs.length = n) (h0 : 0 < n) (h1 : n ≤ 100)
    (hp : (parts.map fun (i, x) => (i, a.eval x)).toList = ((xs.map fun x => Value.int .i64 x).zipIdx 0).map fun x => (x.2, x.1))
    (hK : ∀ g w', Own E w' (Hp.blk g I64 (xs.map (Value.int .i64)).toArray :: L) → K (a.put o.dst (.slice (some ⟨g, 0, none⟩) n n)) w') : o.wp Tryz.prog a w K Q := by
  unfold Oper.wp execOp
  simp only [ho, Sem.run_bind, run_ints xs n hn h0 h1 _ hp w, Result.andThen_ok]
  exact hK _ _ (h.alloc _)
theorem wpList_ints {E : World} {L : List Hp} {ops : Array Oper} {rest : List Oper} {o : Oper} {a : Act} {w : World} {Q : Exit → Act → World → Prop} {n : Nat} {parts : Array (Nat × Operand)} (xs : List Int) (h : Own E w L) (hg : o.guard = none) (ho : o.op = .buildSlice IST n parts) (hn : xs.length = n) (h0 : 0 < n) (h1 : n ≤ 100)
    (hp : (parts.map fun (i, x) => (i, a.eval x)).toList = ((xs.map fun x => Value.int .i64 x).zipIdx 0).map fun x => (x.2, x.1))
    (hK : ∀ g w', Own E w' (Hp.blk g I64 (xs.map (Value.int .i64)).toArray :: L) → wpList Tryz.prog ops Q rest (a.put o.dst (.slice (some ⟨g, 0, none⟩) n n)) w') : wpList Tryz.prog ops Q (o :: rest) a w :=
  wpList_plain hg fun _ hS => wp_ints xs h ho hn h0 h1 hp fun g w' h => hS _ _ (hK g w' h)
theorem firstb_any {E : World} {L : List Hp} (g : Nat) (xs : List Int) (w : World) (n c : Nat) (hn : xs.length = n) (hn2 : n ≤ 1000) (h : Own E w (Hp.blk g I64 (xs.map (Value.int .i64)).toArray :: L)) :
    Calls Tryz.prog 84 #[.slice (some ⟨g, 0, none⟩) n c] w fun e w' => e = .returned (.int .i64 (firstOf xs)) ∧ Own E w' (Hp.blk g I64 (xs.map (Value.int .i64)).toArray :: L) := by
  refine (first_any (some ⟨g, 0, none⟩) n c xs w hn2 ⟨hn, fun _ => rfl, fun k hk => ⟨g, 0, rfl, fun j v hv => ?_⟩⟩).mono ?_
  · cases j with
    | zero =>
      simp at hv
      subst hv
      have h2 : (Ph.one g (.cells (xs.map (Value.int .i64)).toArray I64 (0, 0))).cell ⟨g, k, none⟩ = some (.int .i64 xs[k]) := by
        rw [one_cell]
        simp [List.getElem?_eq_getElem hk]
      have h3 := Ph.cell_sub (Own.sub (show Own E w (Hp.ro (Ph.one g (.cells (xs.map (Value.int .i64)).toArray I64 (0, 0))) :: L) from h)) h2
      simpa using h3
    | succ j => simp at hv
  · rintro e w' ⟨rfl, rfl⟩
    exact ⟨rfl, h⟩
def endV (st cr us ii ab en : Int) : Int := if st = 1 then firstOf [near (near cr + firstOf [ab]), near (near us + firstOf [ii])] else firstOf [en]
section
variable {E : World} {L : List Hp}
set_option maxRecDepth 20000 in
set_option maxHeartbeats 4000000 in
theorem end_any (id : Int) (cl su : ByteArray) (A : Option Addr) (n c : Nat) (cr us ii ab gr ge tk st en co : Int) (w : World) (h : Own E w L) :
    Calls Tryz.prog 30 #[.agg (famC id cl su A n c cr us ii ab gr ge tk st en co).toArray] w fun ev w' => ev = .returned (.int .i64 (endV st cr us ii ab en)) ∧ Own E w' L := by
  have H1 := Lib.hid (show Own E _ (Hp.blk w.heap.size FMT (famC id cl su A n c cr us ii ab gr ge tk st en co).toArray :: L) from h.alloc (.cells (famC id cl su A n c cr us ii ab gr ge tk st en co).toArray FMT))
  by_cases hs : st = 1
  · have HV : Hid (endV st cr us ii ab en = firstOf [near (near cr + firstOf [ab]), near (near us + firstOf [ii])]) := Lib.hid (if_pos hs)
    subst hs
    have HC := Lib.hid (fun (w' : World) (h : ∃ M, Own E w' (Hp.blk w.heap.size FMT (famC id cl su A n c cr us ii ab gr ge tk 1 en co).toArray :: M)) => (show w'.cell? ⟨w.heap.size, 4, none⟩ = some (.int .i64 cr) ∧ w'.cell? ⟨w.heap.size, 5, none⟩ = some (.int .i64 us) ∧ w'.cell? ⟨w.heap.size, 6, none⟩ = some (.int .i64 ii) ∧ w'.cell? ⟨w.heap.size, 7, none⟩ = some (.int .i64 ab) from by
      obtain ⟨M, h⟩ := h
      exact ⟨(h.cell 4).trans rfl, (h.cell 5).trans rfl, (h.cell 6).trans rfl, (h.cell 7).trans rfl⟩))
    clear h
    generalize hTB : Hp.blk w.heap.size FMT (famC id cl su A n c cr us ii ab gr ge tk 1 en co).toArray = TB at *
    clear hTB
    unfold famC at *
    go_enter Tryz.func30, Tryz.ntmps30
    go_wp2_with fail
    have h := H1.out.drew
    clear H1
    refine wp_region_text [1, 3, 8, 10] (fun w' => w'.cell? ⟨w.heap.size, 4, none⟩ = some (.int .i64 cr) ∧ w'.cell? ⟨w.heap.size, 5, none⟩ = some (.int .i64 us) ∧ w'.cell? ⟨w.heap.size, 6, none⟩ = some (.int .i64 ii) ∧ w'.cell? ⟨w.heap.size, 7, none⟩ = some (.int .i64 ab)) (by kernel_rfl) ?_ (fun hS => ?_)
    · exact HC.out _ (by first | exact ⟨_, h⟩ | exact ⟨_, h.f1⟩ | exact ⟨_, h.f2⟩ | exact ⟨_, h.f3⟩ | exact ⟨_, h.f4⟩ | exact ⟨_, h.f5⟩ | exact ⟨_, h.f6⟩ | exact ⟨_, h.f7⟩ | exact ⟨_, h.f8⟩ | exact ⟨_, h.f9⟩ | exact ⟨_, h.f10⟩ | exact ⟨_, h.f11⟩ | exact ⟨_, h.f12⟩ | exact ⟨_, h.f13⟩ | exact ⟨_, h.f14⟩ | exact ⟨_, h.f15⟩)
    refine wpAnyG_pure (i := 0) (oi := ⟨some 10, _, _, _, _, _⟩) (v := ?_) rfl (by kernel_rfl) (by kernel_rfl) (by kernel_rfl) (by rfl) (fun _ _ _ h => h) (by rfl) ?_ ?_
    rotate_left
    · intro w
      go_simp
      first | done | with_reducible rfl
    try simp only [Act.put, List.setIfInBounds_toArray, List.set_cons_zero, List.set_cons_succ]
    refine wpAnyG_load (i := 1) (oi := ⟨some 11, _, _, _, _, _⟩) (v := ?_) rfl (by kernel_rfl) (by kernel_rfl) (by kernel_rfl) (by rfl) (fun _ _ _ h => h) (by rfl) ?_ (by assumption) ?_
    rotate_left
    · intro w hS
      try dsimp only at hS
      go_simp
      first | done | with_reducible rfl
    try simp only [Act.put, List.setIfInBounds_toArray, List.set_cons_zero, List.set_cons_succ]
    refine wpAnyG_pure (i := 2) (oi := ⟨some 12, _, _, _, _, _⟩) (v := ?_) rfl (by kernel_rfl) (by kernel_rfl) (by kernel_rfl) (by rfl) (fun _ _ _ h => h) (by rfl) ?_ ?_
    rotate_left
    · intro w
      go_simp
      first | done | with_reducible rfl
    try simp only [Act.put, List.setIfInBounds_toArray, List.set_cons_zero, List.set_cons_succ]
    refine wpAnyG_load (i := 3) (oi := ⟨some 13, _, _, _, _, _⟩) (v := ?_) rfl (by kernel_rfl) (by kernel_rfl) (by kernel_rfl) (by rfl) (fun _ _ _ h => h) (by rfl) ?_ (by assumption) ?_
    rotate_left
    · intro w hS
      try dsimp only at hS
      go_simp
      first | done | with_reducible rfl
    try simp only [Act.put, List.setIfInBounds_toArray, List.set_cons_zero, List.set_cons_succ]
    refine wpAnyG_pure (i := 7) (oi := ⟨some 17, _, _, _, _, _⟩) (v := ?_) rfl (by kernel_rfl) (by kernel_rfl) (by kernel_rfl) (by rfl) (fun _ _ _ h => h) (by rfl) ?_ ?_
    rotate_left
    · intro w
      go_simp
      first | done | with_reducible rfl
    try simp only [Act.put, List.setIfInBounds_toArray, List.set_cons_zero, List.set_cons_succ]
    refine wpAnyG_load (i := 8) (oi := ⟨some 18, _, _, _, _, _⟩) (v := ?_) rfl (by kernel_rfl) (by kernel_rfl) (by kernel_rfl) (by rfl) (fun _ _ _ h => h) (by rfl) ?_ (by assumption) ?_
    rotate_left
    · intro w hS
      try dsimp only at hS
      go_simp
      first | done | with_reducible rfl
    try simp only [Act.put, List.setIfInBounds_toArray, List.set_cons_zero, List.set_cons_succ]
    refine wpAnyG_pure (i := 9) (oi := ⟨some 19, _, _, _, _, _⟩) (v := ?_) rfl (by kernel_rfl) (by kernel_rfl) (by kernel_rfl) (by rfl) (fun _ _ _ h => h) (by rfl) ?_ ?_
    rotate_left
    · intro w
      go_simp
      first | done | with_reducible rfl
    try simp only [Act.put, List.setIfInBounds_toArray, List.set_cons_zero, List.set_cons_succ]
    refine wpAnyG_load (i := 10) (oi := ⟨some 20, _, _, _, _, _⟩) (v := ?_) rfl (by kernel_rfl) (by kernel_rfl) (by kernel_rfl) (by rfl) (fun _ _ _ h => h) (by rfl) ?_ (by assumption) ?_
    rotate_left
    · intro w hS
      try dsimp only at hS
      go_simp
      first | done | with_reducible rfl
    try simp only [Act.put, List.setIfInBounds_toArray, List.set_cons_zero, List.set_cons_succ]
    refine wpAnyG_two (i := 4) (oi := ⟨some 14, _, _, _, _, _⟩) (j := 11) (oj := ⟨some 21, _, _, _, _, _⟩) (by kernel_rfl) rfl rfl (fun K hK => ?_) (fun K hK => ?_)
    · skip
      rw [if_pos (by rfl)]
      refine wp_ints [ab] h rfl rfl (by omega) (by omega) (by first | kernel_rfl | rfl) (fun g4 w4 h => ?_)
      refine hK.out _ _ ?_ (fun hS => ?_)
      · exact HC.out _ (by first | exact ⟨_, h⟩ | exact ⟨_, h.f1⟩ | exact ⟨_, h.f2⟩ | exact ⟨_, h.f3⟩ | exact ⟨_, h.f4⟩ | exact ⟨_, h.f5⟩ | exact ⟨_, h.f6⟩ | exact ⟨_, h.f7⟩ | exact ⟨_, h.f8⟩ | exact ⟨_, h.f9⟩ | exact ⟨_, h.f10⟩ | exact ⟨_, h.f11⟩ | exact ⟨_, h.f12⟩ | exact ⟨_, h.f13⟩ | exact ⟨_, h.f14⟩ | exact ⟨_, h.f15⟩)
      clear hK K
      try simp only [Act.put, List.setIfInBounds_toArray, List.set_cons_zero, List.set_cons_succ]
      refine wpAnyG_two (i := 5) (oi := ⟨some 15, _, _, _, _, _⟩) (j := 11) (oj := ⟨some 21, _, _, _, _, _⟩) (by kernel_rfl) rfl rfl (fun K hK => ?_) (fun K hK => ?_)
      · skip
        rw [if_pos (by rfl)]
        go_simp
        first | have h := (h : Own _ _ (Hp.blk g4 I64 _ :: _)) | have h := (h.f1 : Own _ _ (Hp.blk g4 I64 _ :: _)) | have h := (h.f2 : Own _ _ (Hp.blk g4 I64 _ :: _)) | have h := (h.f3 : Own _ _ (Hp.blk g4 I64 _ :: _)) | have h := (h.f4 : Own _ _ (Hp.blk g4 I64 _ :: _)) | have h := (h.f5 : Own _ _ (Hp.blk g4 I64 _ :: _)) | have h := (h.f6 : Own _ _ (Hp.blk g4 I64 _ :: _)) | have h := (h.f7 : Own _ _ (Hp.blk g4 I64 _ :: _)) | have h := (h.f8 : Own _ _ (Hp.blk g4 I64 _ :: _)) | have h := (h.f9 : Own _ _ (Hp.blk g4 I64 _ :: _)) | have h := (h.f10 : Own _ _ (Hp.blk g4 I64 _ :: _)) | have h := (h.f11 : Own _ _ (Hp.blk g4 I64 _ :: _)) | have h := (h.f12 : Own _ _ (Hp.blk g4 I64 _ :: _)) | have h := (h.f13 : Own _ _ (Hp.blk g4 I64 _ :: _)) | have h := (h.f14 : Own _ _ (Hp.blk g4 I64 _ :: _)) | have h := (h.f15 : Own _ _ (Hp.blk g4 I64 _ :: _))
        refine (firstb_any g4 [ab] _ 1 1 rfl (by omega) h).mono ?_
        rintro e w6 ⟨rfl, h⟩
        refine hK.out _ _ ?_ (fun hS => ?_)
        · exact HC.out _ (by first | exact ⟨_, h⟩ | exact ⟨_, h.f1⟩ | exact ⟨_, h.f2⟩ | exact ⟨_, h.f3⟩ | exact ⟨_, h.f4⟩ | exact ⟨_, h.f5⟩ | exact ⟨_, h.f6⟩ | exact ⟨_, h.f7⟩ | exact ⟨_, h.f8⟩ | exact ⟨_, h.f9⟩ | exact ⟨_, h.f10⟩ | exact ⟨_, h.f11⟩ | exact ⟨_, h.f12⟩ | exact ⟨_, h.f13⟩ | exact ⟨_, h.f14⟩ | exact ⟨_, h.f15⟩)
        clear hK K
        try simp only [Act.put, List.setIfInBounds_toArray, List.set_cons_zero, List.set_cons_succ]
        refine wpAnyG_two (i := 6) (oi := ⟨some 16, _, _, _, _, _⟩) (j := 11) (oj := ⟨some 21, _, _, _, _, _⟩) (by kernel_rfl) rfl rfl (fun K hK => ?_) (fun K hK => ?_)
        · skip
          rw [if_pos (by rfl)]
          go_simp
          refine (clockadd_any _ _ _).mono ?_
          rintro e w7 ⟨rfl, rfl⟩
          refine hK.out _ _ ?_ (fun hS => ?_)
          · exact HC.out _ (by first | exact ⟨_, h⟩ | exact ⟨_, h.f1⟩ | exact ⟨_, h.f2⟩ | exact ⟨_, h.f3⟩ | exact ⟨_, h.f4⟩ | exact ⟨_, h.f5⟩ | exact ⟨_, h.f6⟩ | exact ⟨_, h.f7⟩ | exact ⟨_, h.f8⟩ | exact ⟨_, h.f9⟩ | exact ⟨_, h.f10⟩ | exact ⟨_, h.f11⟩ | exact ⟨_, h.f12⟩ | exact ⟨_, h.f13⟩ | exact ⟨_, h.f14⟩ | exact ⟨_, h.f15⟩)
          clear hK K
          try simp only [Act.put, List.setIfInBounds_toArray, List.set_cons_zero, List.set_cons_succ]
          refine wpAnyG_keep (i := 11) (oi := ⟨some 21, _, _, _, _, _⟩) (by kernel_rfl) rfl (fun K hK => ?_)
          rw [if_pos (by rfl)]
          refine wp_ints [ii] h rfl rfl (by omega) (by omega) (by first | kernel_rfl | rfl) (fun g5 w5 h => ?_)
          refine hK.out _ _ ?_ (fun hS => ?_)
          · exact HC.out _ (by first | exact ⟨_, h⟩ | exact ⟨_, h.f1⟩ | exact ⟨_, h.f2⟩ | exact ⟨_, h.f3⟩ | exact ⟨_, h.f4⟩ | exact ⟨_, h.f5⟩ | exact ⟨_, h.f6⟩ | exact ⟨_, h.f7⟩ | exact ⟨_, h.f8⟩ | exact ⟨_, h.f9⟩ | exact ⟨_, h.f10⟩ | exact ⟨_, h.f11⟩ | exact ⟨_, h.f12⟩ | exact ⟨_, h.f13⟩ | exact ⟨_, h.f14⟩ | exact ⟨_, h.f15⟩)
          clear hK K
          try simp only [Act.put, List.setIfInBounds_toArray, List.set_cons_zero, List.set_cons_succ]
          refine wpAnyG_keep (i := 12) (oi := ⟨some 22, _, _, _, _, _⟩) (by kernel_rfl) rfl (fun K hK => ?_)
          rw [if_pos (by rfl)]
          go_simp
          first | have h := (h : Own _ _ (Hp.blk g5 I64 _ :: _)) | have h := (h.f1 : Own _ _ (Hp.blk g5 I64 _ :: _)) | have h := (h.f2 : Own _ _ (Hp.blk g5 I64 _ :: _)) | have h := (h.f3 : Own _ _ (Hp.blk g5 I64 _ :: _)) | have h := (h.f4 : Own _ _ (Hp.blk g5 I64 _ :: _)) | have h := (h.f5 : Own _ _ (Hp.blk g5 I64 _ :: _)) | have h := (h.f6 : Own _ _ (Hp.blk g5 I64 _ :: _)) | have h := (h.f7 : Own _ _ (Hp.blk g5 I64 _ :: _)) | have h := (h.f8 : Own _ _ (Hp.blk g5 I64 _ :: _)) | have h := (h.f9 : Own _ _ (Hp.blk g5 I64 _ :: _)) | have h := (h.f10 : Own _ _ (Hp.blk g5 I64 _ :: _)) | have h := (h.f11 : Own _ _ (Hp.blk g5 I64 _ :: _)) | have h := (h.f12 : Own _ _ (Hp.blk g5 I64 _ :: _)) | have h := (h.f13 : Own _ _ (Hp.blk g5 I64 _ :: _)) | have h := (h.f14 : Own _ _ (Hp.blk g5 I64 _ :: _)) | have h := (h.f15 : Own _ _ (Hp.blk g5 I64 _ :: _))
          refine (firstb_any g5 [ii] _ 1 1 rfl (by omega) h).mono ?_
          rintro e w6 ⟨rfl, h⟩
          refine hK.out _ _ ?_ (fun hS => ?_)
          · exact HC.out _ (by first | exact ⟨_, h⟩ | exact ⟨_, h.f1⟩ | exact ⟨_, h.f2⟩ | exact ⟨_, h.f3⟩ | exact ⟨_, h.f4⟩ | exact ⟨_, h.f5⟩ | exact ⟨_, h.f6⟩ | exact ⟨_, h.f7⟩ | exact ⟨_, h.f8⟩ | exact ⟨_, h.f9⟩ | exact ⟨_, h.f10⟩ | exact ⟨_, h.f11⟩ | exact ⟨_, h.f12⟩ | exact ⟨_, h.f13⟩ | exact ⟨_, h.f14⟩ | exact ⟨_, h.f15⟩)
          clear hK K
          try simp only [Act.put, List.setIfInBounds_toArray, List.set_cons_zero, List.set_cons_succ]
          refine wpAnyG_keep (i := 13) (oi := ⟨some 23, _, _, _, _, _⟩) (by kernel_rfl) rfl (fun K hK => ?_)
          rw [if_pos (by rfl)]
          go_simp
          refine (clockadd_any _ _ _).mono ?_
          rintro e w7 ⟨rfl, rfl⟩
          refine hK.out _ _ ?_ (fun hS => ?_)
          · exact HC.out _ (by first | exact ⟨_, h⟩ | exact ⟨_, h.f1⟩ | exact ⟨_, h.f2⟩ | exact ⟨_, h.f3⟩ | exact ⟨_, h.f4⟩ | exact ⟨_, h.f5⟩ | exact ⟨_, h.f6⟩ | exact ⟨_, h.f7⟩ | exact ⟨_, h.f8⟩ | exact ⟨_, h.f9⟩ | exact ⟨_, h.f10⟩ | exact ⟨_, h.f11⟩ | exact ⟨_, h.f12⟩ | exact ⟨_, h.f13⟩ | exact ⟨_, h.f14⟩ | exact ⟨_, h.f15⟩)
          clear hK K
          try simp only [Act.put, List.setIfInBounds_toArray, List.set_cons_zero, List.set_cons_succ]
          refine wpAnyG_keep (i := 14) (oi := ⟨some 24, _, _, _, _, _⟩) (by kernel_rfl) rfl (fun K hK => ?_)
          rw [if_pos (by rfl)]
          refine wp_ints [near (near cr + firstOf [ab]), near (near us + firstOf [ii])] h rfl rfl (by omega) (by omega) (by first | kernel_rfl | rfl) (fun g8 w8 h => ?_)
          refine hK.out _ _ ?_ (fun hS => ?_)
          · exact HC.out _ (by first | exact ⟨_, h⟩ | exact ⟨_, h.f1⟩ | exact ⟨_, h.f2⟩ | exact ⟨_, h.f3⟩ | exact ⟨_, h.f4⟩ | exact ⟨_, h.f5⟩ | exact ⟨_, h.f6⟩ | exact ⟨_, h.f7⟩ | exact ⟨_, h.f8⟩ | exact ⟨_, h.f9⟩ | exact ⟨_, h.f10⟩ | exact ⟨_, h.f11⟩ | exact ⟨_, h.f12⟩ | exact ⟨_, h.f13⟩ | exact ⟨_, h.f14⟩ | exact ⟨_, h.f15⟩)
          clear hK K
          try simp only [Act.put, List.setIfInBounds_toArray, List.set_cons_zero, List.set_cons_succ]
          refine wpAnyG_keep (i := 15) (oi := ⟨some 25, _, _, _, _, _⟩) (by kernel_rfl) rfl (fun K hK => ?_)
          rw [if_pos (by rfl)]
          go_simp
          refine (firstb_any g8 _ _ 2 2 rfl (by omega) h).mono ?_
          rintro e w9 ⟨rfl, h⟩
          refine hK.out _ _ ?_ (fun hS => ?_)
          · exact HC.out _ (by first | exact ⟨_, h⟩ | exact ⟨_, h.f1⟩ | exact ⟨_, h.f2⟩ | exact ⟨_, h.f3⟩ | exact ⟨_, h.f4⟩ | exact ⟨_, h.f5⟩ | exact ⟨_, h.f6⟩ | exact ⟨_, h.f7⟩ | exact ⟨_, h.f8⟩ | exact ⟨_, h.f9⟩ | exact ⟨_, h.f10⟩ | exact ⟨_, h.f11⟩ | exact ⟨_, h.f12⟩ | exact ⟨_, h.f13⟩ | exact ⟨_, h.f14⟩ | exact ⟨_, h.f15⟩)
          clear hK K
          try simp only [Act.put, List.setIfInBounds_toArray, List.set_cons_zero, List.set_cons_succ]
          refine wpAnyG_pure (i := 16) (oi := ⟨some 2, _, _, _, _, _⟩) (v := ?_) rfl (by kernel_rfl) (by kernel_rfl) (by kernel_rfl) (by rfl) (fun _ _ _ h => h) (by rfl) ?_ ?_
          rotate_left
          · intro w
            go_simp
            first | done | with_reducible rfl
          try simp only [Act.put, List.setIfInBounds_toArray, List.set_cons_zero, List.set_cons_succ]
          refine wpAnyG_done (by kernel_rfl) ?_ _
          refine NoPanic.normal ?_
          go_wp2_with fail
          go_ret
          refine ⟨ret_end HV.out.symm, ?_⟩
          first | have h := (h : Own _ _ (TB :: _)) | have h := (h.f1 : Own _ _ (TB :: _)) | have h := (h.f2 : Own _ _ (TB :: _)) | have h := (h.f3 : Own _ _ (TB :: _)) | have h := (h.f4 : Own _ _ (TB :: _)) | have h := (h.f5 : Own _ _ (TB :: _)) | have h := (h.f6 : Own _ _ (TB :: _)) | have h := (h.f7 : Own _ _ (TB :: _)) | have h := (h.f8 : Own _ _ (TB :: _)) | have h := (h.f9 : Own _ _ (TB :: _)) | have h := (h.f10 : Own _ _ (TB :: _)) | have h := (h.f11 : Own _ _ (TB :: _)) | have h := (h.f12 : Own _ _ (TB :: _)) | have h := (h.f13 : Own _ _ (TB :: _)) | have h := (h.f14 : Own _ _ (TB :: _)) | have h := (h.f15 : Own _ _ (TB :: _))
          first | exact h.drop | exact h.drop.drop.drop.drop
        · skip
          rw [if_pos (by rfl)]
          refine wp_ints [ii] h rfl rfl (by omega) (by omega) (by first | kernel_rfl | rfl) (fun g5 w5 h => ?_)
          refine hK.out _ _ ?_ (fun hS => ?_)
          · exact HC.out _ (by first | exact ⟨_, h⟩ | exact ⟨_, h.f1⟩ | exact ⟨_, h.f2⟩ | exact ⟨_, h.f3⟩ | exact ⟨_, h.f4⟩ | exact ⟨_, h.f5⟩ | exact ⟨_, h.f6⟩ | exact ⟨_, h.f7⟩ | exact ⟨_, h.f8⟩ | exact ⟨_, h.f9⟩ | exact ⟨_, h.f10⟩ | exact ⟨_, h.f11⟩ | exact ⟨_, h.f12⟩ | exact ⟨_, h.f13⟩ | exact ⟨_, h.f14⟩ | exact ⟨_, h.f15⟩)
          clear hK K
          try simp only [Act.put, List.setIfInBounds_toArray, List.set_cons_zero, List.set_cons_succ]
          refine wpAnyG_keep (i := 6) (oi := ⟨some 16, _, _, _, _, _⟩) (by kernel_rfl) rfl (fun K hK => ?_)
          rw [if_pos (by rfl)]
          go_simp
          refine (clockadd_any _ _ _).mono ?_
          rintro e w7 ⟨rfl, rfl⟩
          refine hK.out _ _ ?_ (fun hS => ?_)
          · exact HC.out _ (by first | exact ⟨_, h⟩ | exact ⟨_, h.f1⟩ | exact ⟨_, h.f2⟩ | exact ⟨_, h.f3⟩ | exact ⟨_, h.f4⟩ | exact ⟨_, h.f5⟩ | exact ⟨_, h.f6⟩ | exact ⟨_, h.f7⟩ | exact ⟨_, h.f8⟩ | exact ⟨_, h.f9⟩ | exact ⟨_, h.f10⟩ | exact ⟨_, h.f11⟩ | exact ⟨_, h.f12⟩ | exact ⟨_, h.f13⟩ | exact ⟨_, h.f14⟩ | exact ⟨_, h.f15⟩)
          clear hK K
          try simp only [Act.put, List.setIfInBounds_toArray, List.set_cons_zero, List.set_cons_succ]
          refine wpAnyG_keep (i := 12) (oi := ⟨some 22, _, _, _, _, _⟩) (by kernel_rfl) rfl (fun K hK => ?_)
          rw [if_pos (by rfl)]
          go_simp
          first | have h := (h : Own _ _ (Hp.blk g5 I64 _ :: _)) | have h := (h.f1 : Own _ _ (Hp.blk g5 I64 _ :: _)) | have h := (h.f2 : Own _ _ (Hp.blk g5 I64 _ :: _)) | have h := (h.f3 : Own _ _ (Hp.blk g5 I64 _ :: _)) | have h := (h.f4 : Own _ _ (Hp.blk g5 I64 _ :: _)) | have h := (h.f5 : Own _ _ (Hp.blk g5 I64 _ :: _)) | have h := (h.f6 : Own _ _ (Hp.blk g5 I64 _ :: _)) | have h := (h.f7 : Own _ _ (Hp.blk g5 I64 _ :: _)) | have h := (h.f8 : Own _ _ (Hp.blk g5 I64 _ :: _)) | have h := (h.f9 : Own _ _ (Hp.blk g5 I64 _ :: _)) | have h := (h.f10 : Own _ _ (Hp.blk g5 I64 _ :: _)) | have h := (h.f11 : Own _ _ (Hp.blk g5 I64 _ :: _)) | have h := (h.f12 : Own _ _ (Hp.blk g5 I64 _ :: _)) | have h := (h.f13 : Own _ _ (Hp.blk g5 I64 _ :: _)) | have h := (h.f14 : Own _ _ (Hp.blk g5 I64 _ :: _)) | have h := (h.f15 : Own _ _ (Hp.blk g5 I64 _ :: _))
          refine (firstb_any g5 [ii] _ 1 1 rfl (by omega) h).mono ?_
          rintro e w6 ⟨rfl, h⟩
          refine hK.out _ _ ?_ (fun hS => ?_)
          · exact HC.out _ (by first | exact ⟨_, h⟩ | exact ⟨_, h.f1⟩ | exact ⟨_, h.f2⟩ | exact ⟨_, h.f3⟩ | exact ⟨_, h.f4⟩ | exact ⟨_, h.f5⟩ | exact ⟨_, h.f6⟩ | exact ⟨_, h.f7⟩ | exact ⟨_, h.f8⟩ | exact ⟨_, h.f9⟩ | exact ⟨_, h.f10⟩ | exact ⟨_, h.f11⟩ | exact ⟨_, h.f12⟩ | exact ⟨_, h.f13⟩ | exact ⟨_, h.f14⟩ | exact ⟨_, h.f15⟩)
          clear hK K
          try simp only [Act.put, List.setIfInBounds_toArray, List.set_cons_zero, List.set_cons_succ]
          refine wpAnyG_keep (i := 13) (oi := ⟨some 23, _, _, _, _, _⟩) (by kernel_rfl) rfl (fun K hK => ?_)
          rw [if_pos (by rfl)]
          go_simp
          refine (clockadd_any _ _ _).mono ?_
          rintro e w7 ⟨rfl, rfl⟩
          refine hK.out _ _ ?_ (fun hS => ?_)
          · exact HC.out _ (by first | exact ⟨_, h⟩ | exact ⟨_, h.f1⟩ | exact ⟨_, h.f2⟩ | exact ⟨_, h.f3⟩ | exact ⟨_, h.f4⟩ | exact ⟨_, h.f5⟩ | exact ⟨_, h.f6⟩ | exact ⟨_, h.f7⟩ | exact ⟨_, h.f8⟩ | exact ⟨_, h.f9⟩ | exact ⟨_, h.f10⟩ | exact ⟨_, h.f11⟩ | exact ⟨_, h.f12⟩ | exact ⟨_, h.f13⟩ | exact ⟨_, h.f14⟩ | exact ⟨_, h.f15⟩)
          clear hK K
          try simp only [Act.put, List.setIfInBounds_toArray, List.set_cons_zero, List.set_cons_succ]
          refine wpAnyG_keep (i := 14) (oi := ⟨some 24, _, _, _, _, _⟩) (by kernel_rfl) rfl (fun K hK => ?_)
          rw [if_pos (by rfl)]
          refine wp_ints [near (near cr + firstOf [ab]), near (near us + firstOf [ii])] h rfl rfl (by omega) (by omega) (by first | kernel_rfl | rfl) (fun g8 w8 h => ?_)
          refine hK.out _ _ ?_ (fun hS => ?_)
          · exact HC.out _ (by first | exact ⟨_, h⟩ | exact ⟨_, h.f1⟩ | exact ⟨_, h.f2⟩ | exact ⟨_, h.f3⟩ | exact ⟨_, h.f4⟩ | exact ⟨_, h.f5⟩ | exact ⟨_, h.f6⟩ | exact ⟨_, h.f7⟩ | exact ⟨_, h.f8⟩ | exact ⟨_, h.f9⟩ | exact ⟨_, h.f10⟩ | exact ⟨_, h.f11⟩ | exact ⟨_, h.f12⟩ | exact ⟨_, h.f13⟩ | exact ⟨_, h.f14⟩ | exact ⟨_, h.f15⟩)
          clear hK K
          try simp only [Act.put, List.setIfInBounds_toArray, List.set_cons_zero, List.set_cons_succ]
          refine wpAnyG_keep (i := 15) (oi := ⟨some 25, _, _, _, _, _⟩) (by kernel_rfl) rfl (fun K hK => ?_)
          rw [if_pos (by rfl)]
          go_simp
          refine (firstb_any g8 _ _ 2 2 rfl (by omega) h).mono ?_
          rintro e w9 ⟨rfl, h⟩
          refine hK.out _ _ ?_ (fun hS => ?_)
          · exact HC.out _ (by first | exact ⟨_, h⟩ | exact ⟨_, h.f1⟩ | exact ⟨_, h.f2⟩ | exact ⟨_, h.f3⟩ | exact ⟨_, h.f4⟩ | exact ⟨_, h.f5⟩ | exact ⟨_, h.f6⟩ | exact ⟨_, h.f7⟩ | exact ⟨_, h.f8⟩ | exact ⟨_, h.f9⟩ | exact ⟨_, h.f10⟩ | exact ⟨_, h.f11⟩ | exact ⟨_, h.f12⟩ | exact ⟨_, h.f13⟩ | exact ⟨_, h.f14⟩ | exact ⟨_, h.f15⟩)
          clear hK K
          try simp only [Act.put, List.setIfInBounds_toArray, List.set_cons_zero, List.set_cons_succ]
          refine wpAnyG_pure (i := 16) (oi := ⟨some 2, _, _, _, _, _⟩) (v := ?_) rfl (by kernel_rfl) (by kernel_rfl) (by kernel_rfl) (by rfl) (fun _ _ _ h => h) (by rfl) ?_ ?_
          rotate_left
          · intro w
            go_simp
            first | done | with_reducible rfl
          try simp only [Act.put, List.setIfInBounds_toArray, List.set_cons_zero, List.set_cons_succ]
          refine wpAnyG_done (by kernel_rfl) ?_ _
          refine NoPanic.normal ?_
          go_wp2_with fail
          go_ret
          refine ⟨ret_end HV.out.symm, ?_⟩
          first | have h := (h : Own _ _ (TB :: _)) | have h := (h.f1 : Own _ _ (TB :: _)) | have h := (h.f2 : Own _ _ (TB :: _)) | have h := (h.f3 : Own _ _ (TB :: _)) | have h := (h.f4 : Own _ _ (TB :: _)) | have h := (h.f5 : Own _ _ (TB :: _)) | have h := (h.f6 : Own _ _ (TB :: _)) | have h := (h.f7 : Own _ _ (TB :: _)) | have h := (h.f8 : Own _ _ (TB :: _)) | have h := (h.f9 : Own _ _ (TB :: _)) | have h := (h.f10 : Own _ _ (TB :: _)) | have h := (h.f11 : Own _ _ (TB :: _)) | have h := (h.f12 : Own _ _ (TB :: _)) | have h := (h.f13 : Own _ _ (TB :: _)) | have h := (h.f14 : Own _ _ (TB :: _)) | have h := (h.f15 : Own _ _ (TB :: _))
          first | exact h.drop | exact h.drop.drop.drop.drop
      · skip
        rw [if_pos (by rfl)]
        refine wp_ints [ii] h rfl rfl (by omega) (by omega) (by first | kernel_rfl | rfl) (fun g5 w5 h => ?_)
        refine hK.out _ _ ?_ (fun hS => ?_)
        · exact HC.out _ (by first | exact ⟨_, h⟩ | exact ⟨_, h.f1⟩ | exact ⟨_, h.f2⟩ | exact ⟨_, h.f3⟩ | exact ⟨_, h.f4⟩ | exact ⟨_, h.f5⟩ | exact ⟨_, h.f6⟩ | exact ⟨_, h.f7⟩ | exact ⟨_, h.f8⟩ | exact ⟨_, h.f9⟩ | exact ⟨_, h.f10⟩ | exact ⟨_, h.f11⟩ | exact ⟨_, h.f12⟩ | exact ⟨_, h.f13⟩ | exact ⟨_, h.f14⟩ | exact ⟨_, h.f15⟩)
        clear hK K
        try simp only [Act.put, List.setIfInBounds_toArray, List.set_cons_zero, List.set_cons_succ]
        refine wpAnyG_keep (i := 5) (oi := ⟨some 15, _, _, _, _, _⟩) (by kernel_rfl) rfl (fun K hK => ?_)
        rw [if_pos (by rfl)]
        go_simp
        first | have h := (h : Own _ _ (Hp.blk g4 I64 _ :: _)) | have h := (h.f1 : Own _ _ (Hp.blk g4 I64 _ :: _)) | have h := (h.f2 : Own _ _ (Hp.blk g4 I64 _ :: _)) | have h := (h.f3 : Own _ _ (Hp.blk g4 I64 _ :: _)) | have h := (h.f4 : Own _ _ (Hp.blk g4 I64 _ :: _)) | have h := (h.f5 : Own _ _ (Hp.blk g4 I64 _ :: _)) | have h := (h.f6 : Own _ _ (Hp.blk g4 I64 _ :: _)) | have h := (h.f7 : Own _ _ (Hp.blk g4 I64 _ :: _)) | have h := (h.f8 : Own _ _ (Hp.blk g4 I64 _ :: _)) | have h := (h.f9 : Own _ _ (Hp.blk g4 I64 _ :: _)) | have h := (h.f10 : Own _ _ (Hp.blk g4 I64 _ :: _)) | have h := (h.f11 : Own _ _ (Hp.blk g4 I64 _ :: _)) | have h := (h.f12 : Own _ _ (Hp.blk g4 I64 _ :: _)) | have h := (h.f13 : Own _ _ (Hp.blk g4 I64 _ :: _)) | have h := (h.f14 : Own _ _ (Hp.blk g4 I64 _ :: _)) | have h := (h.f15 : Own _ _ (Hp.blk g4 I64 _ :: _))
        refine (firstb_any g4 [ab] _ 1 1 rfl (by omega) h).mono ?_
        rintro e w6 ⟨rfl, h⟩
        refine hK.out _ _ ?_ (fun hS => ?_)
        · exact HC.out _ (by first | exact ⟨_, h⟩ | exact ⟨_, h.f1⟩ | exact ⟨_, h.f2⟩ | exact ⟨_, h.f3⟩ | exact ⟨_, h.f4⟩ | exact ⟨_, h.f5⟩ | exact ⟨_, h.f6⟩ | exact ⟨_, h.f7⟩ | exact ⟨_, h.f8⟩ | exact ⟨_, h.f9⟩ | exact ⟨_, h.f10⟩ | exact ⟨_, h.f11⟩ | exact ⟨_, h.f12⟩ | exact ⟨_, h.f13⟩ | exact ⟨_, h.f14⟩ | exact ⟨_, h.f15⟩)
        clear hK K
        try simp only [Act.put, List.setIfInBounds_toArray, List.set_cons_zero, List.set_cons_succ]
        refine wpAnyG_keep (i := 6) (oi := ⟨some 16, _, _, _, _, _⟩) (by kernel_rfl) rfl (fun K hK => ?_)
        rw [if_pos (by rfl)]
        go_simp
        refine (clockadd_any _ _ _).mono ?_
        rintro e w7 ⟨rfl, rfl⟩
        refine hK.out _ _ ?_ (fun hS => ?_)
        · exact HC.out _ (by first | exact ⟨_, h⟩ | exact ⟨_, h.f1⟩ | exact ⟨_, h.f2⟩ | exact ⟨_, h.f3⟩ | exact ⟨_, h.f4⟩ | exact ⟨_, h.f5⟩ | exact ⟨_, h.f6⟩ | exact ⟨_, h.f7⟩ | exact ⟨_, h.f8⟩ | exact ⟨_, h.f9⟩ | exact ⟨_, h.f10⟩ | exact ⟨_, h.f11⟩ | exact ⟨_, h.f12⟩ | exact ⟨_, h.f13⟩ | exact ⟨_, h.f14⟩ | exact ⟨_, h.f15⟩)
        clear hK K
        try simp only [Act.put, List.setIfInBounds_toArray, List.set_cons_zero, List.set_cons_succ]
        refine wpAnyG_keep (i := 12) (oi := ⟨some 22, _, _, _, _, _⟩) (by kernel_rfl) rfl (fun K hK => ?_)
        rw [if_pos (by rfl)]
        go_simp
        first | have h := (h : Own _ _ (Hp.blk g5 I64 _ :: _)) | have h := (h.f1 : Own _ _ (Hp.blk g5 I64 _ :: _)) | have h := (h.f2 : Own _ _ (Hp.blk g5 I64 _ :: _)) | have h := (h.f3 : Own _ _ (Hp.blk g5 I64 _ :: _)) | have h := (h.f4 : Own _ _ (Hp.blk g5 I64 _ :: _)) | have h := (h.f5 : Own _ _ (Hp.blk g5 I64 _ :: _)) | have h := (h.f6 : Own _ _ (Hp.blk g5 I64 _ :: _)) | have h := (h.f7 : Own _ _ (Hp.blk g5 I64 _ :: _)) | have h := (h.f8 : Own _ _ (Hp.blk g5 I64 _ :: _)) | have h := (h.f9 : Own _ _ (Hp.blk g5 I64 _ :: _)) | have h := (h.f10 : Own _ _ (Hp.blk g5 I64 _ :: _)) | have h := (h.f11 : Own _ _ (Hp.blk g5 I64 _ :: _)) | have h := (h.f12 : Own _ _ (Hp.blk g5 I64 _ :: _)) | have h := (h.f13 : Own _ _ (Hp.blk g5 I64 _ :: _)) | have h := (h.f14 : Own _ _ (Hp.blk g5 I64 _ :: _)) | have h := (h.f15 : Own _ _ (Hp.blk g5 I64 _ :: _))
        refine (firstb_any g5 [ii] _ 1 1 rfl (by omega) h).mono ?_
        rintro e w6 ⟨rfl, h⟩
        refine hK.out _ _ ?_ (fun hS => ?_)
        · exact HC.out _ (by first | exact ⟨_, h⟩ | exact ⟨_, h.f1⟩ | exact ⟨_, h.f2⟩ | exact ⟨_, h.f3⟩ | exact ⟨_, h.f4⟩ | exact ⟨_, h.f5⟩ | exact ⟨_, h.f6⟩ | exact ⟨_, h.f7⟩ | exact ⟨_, h.f8⟩ | exact ⟨_, h.f9⟩ | exact ⟨_, h.f10⟩ | exact ⟨_, h.f11⟩ | exact ⟨_, h.f12⟩ | exact ⟨_, h.f13⟩ | exact ⟨_, h.f14⟩ | exact ⟨_, h.f15⟩)
        clear hK K
        try simp only [Act.put, List.setIfInBounds_toArray, List.set_cons_zero, List.set_cons_succ]
        refine wpAnyG_keep (i := 13) (oi := ⟨some 23, _, _, _, _, _⟩) (by kernel_rfl) rfl (fun K hK => ?_)
        rw [if_pos (by rfl)]
        go_simp
        refine (clockadd_any _ _ _).mono ?_
        rintro e w7 ⟨rfl, rfl⟩
        refine hK.out _ _ ?_ (fun hS => ?_)
        · exact HC.out _ (by first | exact ⟨_, h⟩ | exact ⟨_, h.f1⟩ | exact ⟨_, h.f2⟩ | exact ⟨_, h.f3⟩ | exact ⟨_, h.f4⟩ | exact ⟨_, h.f5⟩ | exact ⟨_, h.f6⟩ | exact ⟨_, h.f7⟩ | exact ⟨_, h.f8⟩ | exact ⟨_, h.f9⟩ | exact ⟨_, h.f10⟩ | exact ⟨_, h.f11⟩ | exact ⟨_, h.f12⟩ | exact ⟨_, h.f13⟩ | exact ⟨_, h.f14⟩ | exact ⟨_, h.f15⟩)
        clear hK K
        try simp only [Act.put, List.setIfInBounds_toArray, List.set_cons_zero, List.set_cons_succ]
        refine wpAnyG_keep (i := 14) (oi := ⟨some 24, _, _, _, _, _⟩) (by kernel_rfl) rfl (fun K hK => ?_)
        rw [if_pos (by rfl)]
        refine wp_ints [near (near cr + firstOf [ab]), near (near us + firstOf [ii])] h rfl rfl (by omega) (by omega) (by first | kernel_rfl | rfl) (fun g8 w8 h => ?_)
        refine hK.out _ _ ?_ (fun hS => ?_)
        · exact HC.out _ (by first | exact ⟨_, h⟩ | exact ⟨_, h.f1⟩ | exact ⟨_, h.f2⟩ | exact ⟨_, h.f3⟩ | exact ⟨_, h.f4⟩ | exact ⟨_, h.f5⟩ | exact ⟨_, h.f6⟩ | exact ⟨_, h.f7⟩ | exact ⟨_, h.f8⟩ | exact ⟨_, h.f9⟩ | exact ⟨_, h.f10⟩ | exact ⟨_, h.f11⟩ | exact ⟨_, h.f12⟩ | exact ⟨_, h.f13⟩ | exact ⟨_, h.f14⟩ | exact ⟨_, h.f15⟩)
        clear hK K
        try simp only [Act.put, List.setIfInBounds_toArray, List.set_cons_zero, List.set_cons_succ]
        refine wpAnyG_keep (i := 15) (oi := ⟨some 25, _, _, _, _, _⟩) (by kernel_rfl) rfl (fun K hK => ?_)
        rw [if_pos (by rfl)]
        go_simp
        refine (firstb_any g8 _ _ 2 2 rfl (by omega) h).mono ?_
        rintro e w9 ⟨rfl, h⟩
        refine hK.out _ _ ?_ (fun hS => ?_)
        · exact HC.out _ (by first | exact ⟨_, h⟩ | exact ⟨_, h.f1⟩ | exact ⟨_, h.f2⟩ | exact ⟨_, h.f3⟩ | exact ⟨_, h.f4⟩ | exact ⟨_, h.f5⟩ | exact ⟨_, h.f6⟩ | exact ⟨_, h.f7⟩ | exact ⟨_, h.f8⟩ | exact ⟨_, h.f9⟩ | exact ⟨_, h.f10⟩ | exact ⟨_, h.f11⟩ | exact ⟨_, h.f12⟩ | exact ⟨_, h.f13⟩ | exact ⟨_, h.f14⟩ | exact ⟨_, h.f15⟩)
        clear hK K
        try simp only [Act.put, List.setIfInBounds_toArray, List.set_cons_zero, List.set_cons_succ]
        refine wpAnyG_pure (i := 16) (oi := ⟨some 2, _, _, _, _, _⟩) (v := ?_) rfl (by kernel_rfl) (by kernel_rfl) (by kernel_rfl) (by rfl) (fun _ _ _ h => h) (by rfl) ?_ ?_
        rotate_left
        · intro w
          go_simp
          first | done | with_reducible rfl
        try simp only [Act.put, List.setIfInBounds_toArray, List.set_cons_zero, List.set_cons_succ]
        refine wpAnyG_done (by kernel_rfl) ?_ _
        refine NoPanic.normal ?_
        go_wp2_with fail
        go_ret
        refine ⟨ret_end HV.out.symm, ?_⟩
        first | have h := (h : Own _ _ (TB :: _)) | have h := (h.f1 : Own _ _ (TB :: _)) | have h := (h.f2 : Own _ _ (TB :: _)) | have h := (h.f3 : Own _ _ (TB :: _)) | have h := (h.f4 : Own _ _ (TB :: _)) | have h := (h.f5 : Own _ _ (TB :: _)) | have h := (h.f6 : Own _ _ (TB :: _)) | have h := (h.f7 : Own _ _ (TB :: _)) | have h := (h.f8 : Own _ _ (TB :: _)) | have h := (h.f9 : Own _ _ (TB :: _)) | have h := (h.f10 : Own _ _ (TB :: _)) | have h := (h.f11 : Own _ _ (TB :: _)) | have h := (h.f12 : Own _ _ (TB :: _)) | have h := (h.f13 : Own _ _ (TB :: _)) | have h := (h.f14 : Own _ _ (TB :: _)) | have h := (h.f15 : Own _ _ (TB :: _))
        first | exact h.drop | exact h.drop.drop.drop.drop
    · skip
      rw [if_pos (by rfl)]
      refine wp_ints [ii] h rfl rfl (by omega) (by omega) (by first | kernel_rfl | rfl) (fun g5 w5 h => ?_)
      refine hK.out _ _ ?_ (fun hS => ?_)
      · exact HC.out _ (by first | exact ⟨_, h⟩ | exact ⟨_, h.f1⟩ | exact ⟨_, h.f2⟩ | exact ⟨_, h.f3⟩ | exact ⟨_, h.f4⟩ | exact ⟨_, h.f5⟩ | exact ⟨_, h.f6⟩ | exact ⟨_, h.f7⟩ | exact ⟨_, h.f8⟩ | exact ⟨_, h.f9⟩ | exact ⟨_, h.f10⟩ | exact ⟨_, h.f11⟩ | exact ⟨_, h.f12⟩ | exact ⟨_, h.f13⟩ | exact ⟨_, h.f14⟩ | exact ⟨_, h.f15⟩)
      clear hK K
      try simp only [Act.put, List.setIfInBounds_toArray, List.set_cons_zero, List.set_cons_succ]
      refine wpAnyG_keep (i := 4) (oi := ⟨some 14, _, _, _, _, _⟩) (by kernel_rfl) rfl (fun K hK => ?_)
      rw [if_pos (by rfl)]
      refine wp_ints [ab] h rfl rfl (by omega) (by omega) (by first | kernel_rfl | rfl) (fun g4 w4 h => ?_)
      refine hK.out _ _ ?_ (fun hS => ?_)
      · exact HC.out _ (by first | exact ⟨_, h⟩ | exact ⟨_, h.f1⟩ | exact ⟨_, h.f2⟩ | exact ⟨_, h.f3⟩ | exact ⟨_, h.f4⟩ | exact ⟨_, h.f5⟩ | exact ⟨_, h.f6⟩ | exact ⟨_, h.f7⟩ | exact ⟨_, h.f8⟩ | exact ⟨_, h.f9⟩ | exact ⟨_, h.f10⟩ | exact ⟨_, h.f11⟩ | exact ⟨_, h.f12⟩ | exact ⟨_, h.f13⟩ | exact ⟨_, h.f14⟩ | exact ⟨_, h.f15⟩)
      clear hK K
      try simp only [Act.put, List.setIfInBounds_toArray, List.set_cons_zero, List.set_cons_succ]
      refine wpAnyG_keep (i := 5) (oi := ⟨some 15, _, _, _, _, _⟩) (by kernel_rfl) rfl (fun K hK => ?_)
      rw [if_pos (by rfl)]
      go_simp
      first | have h := (h : Own _ _ (Hp.blk g4 I64 _ :: _)) | have h := (h.f1 : Own _ _ (Hp.blk g4 I64 _ :: _)) | have h := (h.f2 : Own _ _ (Hp.blk g4 I64 _ :: _)) | have h := (h.f3 : Own _ _ (Hp.blk g4 I64 _ :: _)) | have h := (h.f4 : Own _ _ (Hp.blk g4 I64 _ :: _)) | have h := (h.f5 : Own _ _ (Hp.blk g4 I64 _ :: _)) | have h := (h.f6 : Own _ _ (Hp.blk g4 I64 _ :: _)) | have h := (h.f7 : Own _ _ (Hp.blk g4 I64 _ :: _)) | have h := (h.f8 : Own _ _ (Hp.blk g4 I64 _ :: _)) | have h := (h.f9 : Own _ _ (Hp.blk g4 I64 _ :: _)) | have h := (h.f10 : Own _ _ (Hp.blk g4 I64 _ :: _)) | have h := (h.f11 : Own _ _ (Hp.blk g4 I64 _ :: _)) | have h := (h.f12 : Own _ _ (Hp.blk g4 I64 _ :: _)) | have h := (h.f13 : Own _ _ (Hp.blk g4 I64 _ :: _)) | have h := (h.f14 : Own _ _ (Hp.blk g4 I64 _ :: _)) | have h := (h.f15 : Own _ _ (Hp.blk g4 I64 _ :: _))
      refine (firstb_any g4 [ab] _ 1 1 rfl (by omega) h).mono ?_
      rintro e w6 ⟨rfl, h⟩
      refine hK.out _ _ ?_ (fun hS => ?_)
      · exact HC.out _ (by first | exact ⟨_, h⟩ | exact ⟨_, h.f1⟩ | exact ⟨_, h.f2⟩ | exact ⟨_, h.f3⟩ | exact ⟨_, h.f4⟩ | exact ⟨_, h.f5⟩ | exact ⟨_, h.f6⟩ | exact ⟨_, h.f7⟩ | exact ⟨_, h.f8⟩ | exact ⟨_, h.f9⟩ | exact ⟨_, h.f10⟩ | exact ⟨_, h.f11⟩ | exact ⟨_, h.f12⟩ | exact ⟨_, h.f13⟩ | exact ⟨_, h.f14⟩ | exact ⟨_, h.f15⟩)
      clear hK K
      try simp only [Act.put, List.setIfInBounds_toArray, List.set_cons_zero, List.set_cons_succ]
      refine wpAnyG_keep (i := 6) (oi := ⟨some 16, _, _, _, _, _⟩) (by kernel_rfl) rfl (fun K hK => ?_)
      rw [if_pos (by rfl)]
      go_simp
      refine (clockadd_any _ _ _).mono ?_
      rintro e w7 ⟨rfl, rfl⟩
      refine hK.out _ _ ?_ (fun hS => ?_)
      · exact HC.out _ (by first | exact ⟨_, h⟩ | exact ⟨_, h.f1⟩ | exact ⟨_, h.f2⟩ | exact ⟨_, h.f3⟩ | exact ⟨_, h.f4⟩ | exact ⟨_, h.f5⟩ | exact ⟨_, h.f6⟩ | exact ⟨_, h.f7⟩ | exact ⟨_, h.f8⟩ | exact ⟨_, h.f9⟩ | exact ⟨_, h.f10⟩ | exact ⟨_, h.f11⟩ | exact ⟨_, h.f12⟩ | exact ⟨_, h.f13⟩ | exact ⟨_, h.f14⟩ | exact ⟨_, h.f15⟩)
      clear hK K
      try simp only [Act.put, List.setIfInBounds_toArray, List.set_cons_zero, List.set_cons_succ]
      refine wpAnyG_keep (i := 12) (oi := ⟨some 22, _, _, _, _, _⟩) (by kernel_rfl) rfl (fun K hK => ?_)
      rw [if_pos (by rfl)]
      go_simp
      first | have h := (h : Own _ _ (Hp.blk g5 I64 _ :: _)) | have h := (h.f1 : Own _ _ (Hp.blk g5 I64 _ :: _)) | have h := (h.f2 : Own _ _ (Hp.blk g5 I64 _ :: _)) | have h := (h.f3 : Own _ _ (Hp.blk g5 I64 _ :: _)) | have h := (h.f4 : Own _ _ (Hp.blk g5 I64 _ :: _)) | have h := (h.f5 : Own _ _ (Hp.blk g5 I64 _ :: _)) | have h := (h.f6 : Own _ _ (Hp.blk g5 I64 _ :: _)) | have h := (h.f7 : Own _ _ (Hp.blk g5 I64 _ :: _)) | have h := (h.f8 : Own _ _ (Hp.blk g5 I64 _ :: _)) | have h := (h.f9 : Own _ _ (Hp.blk g5 I64 _ :: _)) | have h := (h.f10 : Own _ _ (Hp.blk g5 I64 _ :: _)) | have h := (h.f11 : Own _ _ (Hp.blk g5 I64 _ :: _)) | have h := (h.f12 : Own _ _ (Hp.blk g5 I64 _ :: _)) | have h := (h.f13 : Own _ _ (Hp.blk g5 I64 _ :: _)) | have h := (h.f14 : Own _ _ (Hp.blk g5 I64 _ :: _)) | have h := (h.f15 : Own _ _ (Hp.blk g5 I64 _ :: _))
      refine (firstb_any g5 [ii] _ 1 1 rfl (by omega) h).mono ?_
      rintro e w6 ⟨rfl, h⟩
      refine hK.out _ _ ?_ (fun hS => ?_)
      · exact HC.out _ (by first | exact ⟨_, h⟩ | exact ⟨_, h.f1⟩ | exact ⟨_, h.f2⟩ | exact ⟨_, h.f3⟩ | exact ⟨_, h.f4⟩ | exact ⟨_, h.f5⟩ | exact ⟨_, h.f6⟩ | exact ⟨_, h.f7⟩ | exact ⟨_, h.f8⟩ | exact ⟨_, h.f9⟩ | exact ⟨_, h.f10⟩ | exact ⟨_, h.f11⟩ | exact ⟨_, h.f12⟩ | exact ⟨_, h.f13⟩ | exact ⟨_, h.f14⟩ | exact ⟨_, h.f15⟩)
      clear hK K
      try simp only [Act.put, List.setIfInBounds_toArray, List.set_cons_zero, List.set_cons_succ]
      refine wpAnyG_keep (i := 13) (oi := ⟨some 23, _, _, _, _, _⟩) (by kernel_rfl) rfl (fun K hK => ?_)
      rw [if_pos (by rfl)]
      go_simp
      refine (clockadd_any _ _ _).mono ?_
      rintro e w7 ⟨rfl, rfl⟩
      refine hK.out _ _ ?_ (fun hS => ?_)
      · exact HC.out _ (by first | exact ⟨_, h⟩ | exact ⟨_, h.f1⟩ | exact ⟨_, h.f2⟩ | exact ⟨_, h.f3⟩ | exact ⟨_, h.f4⟩ | exact ⟨_, h.f5⟩ | exact ⟨_, h.f6⟩ | exact ⟨_, h.f7⟩ | exact ⟨_, h.f8⟩ | exact ⟨_, h.f9⟩ | exact ⟨_, h.f10⟩ | exact ⟨_, h.f11⟩ | exact ⟨_, h.f12⟩ | exact ⟨_, h.f13⟩ | exact ⟨_, h.f14⟩ | exact ⟨_, h.f15⟩)
      clear hK K
      try simp only [Act.put, List.setIfInBounds_toArray, List.set_cons_zero, List.set_cons_succ]
      refine wpAnyG_keep (i := 14) (oi := ⟨some 24, _, _, _, _, _⟩) (by kernel_rfl) rfl (fun K hK => ?_)
      rw [if_pos (by rfl)]
      refine wp_ints [near (near cr + firstOf [ab]), near (near us + firstOf [ii])] h rfl rfl (by omega) (by omega) (by first | kernel_rfl | rfl) (fun g8 w8 h => ?_)
      refine hK.out _ _ ?_ (fun hS => ?_)
      · exact HC.out _ (by first | exact ⟨_, h⟩ | exact ⟨_, h.f1⟩ | exact ⟨_, h.f2⟩ | exact ⟨_, h.f3⟩ | exact ⟨_, h.f4⟩ | exact ⟨_, h.f5⟩ | exact ⟨_, h.f6⟩ | exact ⟨_, h.f7⟩ | exact ⟨_, h.f8⟩ | exact ⟨_, h.f9⟩ | exact ⟨_, h.f10⟩ | exact ⟨_, h.f11⟩ | exact ⟨_, h.f12⟩ | exact ⟨_, h.f13⟩ | exact ⟨_, h.f14⟩ | exact ⟨_, h.f15⟩)
      clear hK K
      try simp only [Act.put, List.setIfInBounds_toArray, List.set_cons_zero, List.set_cons_succ]
      refine wpAnyG_keep (i := 15) (oi := ⟨some 25, _, _, _, _, _⟩) (by kernel_rfl) rfl (fun K hK => ?_)
      rw [if_pos (by rfl)]
      go_simp
      refine (firstb_any g8 _ _ 2 2 rfl (by omega) h).mono ?_
      rintro e w9 ⟨rfl, h⟩
      refine hK.out _ _ ?_ (fun hS => ?_)
      · exact HC.out _ (by first | exact ⟨_, h⟩ | exact ⟨_, h.f1⟩ | exact ⟨_, h.f2⟩ | exact ⟨_, h.f3⟩ | exact ⟨_, h.f4⟩ | exact ⟨_, h.f5⟩ | exact ⟨_, h.f6⟩ | exact ⟨_, h.f7⟩ | exact ⟨_, h.f8⟩ | exact ⟨_, h.f9⟩ | exact ⟨_, h.f10⟩ | exact ⟨_, h.f11⟩ | exact ⟨_, h.f12⟩ | exact ⟨_, h.f13⟩ | exact ⟨_, h.f14⟩ | exact ⟨_, h.f15⟩)
      clear hK K
      try simp only [Act.put, List.setIfInBounds_toArray, List.set_cons_zero, List.set_cons_succ]
      refine wpAnyG_pure (i := 16) (oi := ⟨some 2, _, _, _, _, _⟩) (v := ?_) rfl (by kernel_rfl) (by kernel_rfl) (by kernel_rfl) (by rfl) (fun _ _ _ h => h) (by rfl) ?_ ?_
      rotate_left
      · intro w
        go_simp
        first | done | with_reducible rfl
      try simp only [Act.put, List.setIfInBounds_toArray, List.set_cons_zero, List.set_cons_succ]
      refine wpAnyG_done (by kernel_rfl) ?_ _
      refine NoPanic.normal ?_
      go_wp2_with fail
      go_ret
      refine ⟨ret_end HV.out.symm, ?_⟩
      first | have h := (h : Own _ _ (TB :: _)) | have h := (h.f1 : Own _ _ (TB :: _)) | have h := (h.f2 : Own _ _ (TB :: _)) | have h := (h.f3 : Own _ _ (TB :: _)) | have h := (h.f4 : Own _ _ (TB :: _)) | have h := (h.f5 : Own _ _ (TB :: _)) | have h := (h.f6 : Own _ _ (TB :: _)) | have h := (h.f7 : Own _ _ (TB :: _)) | have h := (h.f8 : Own _ _ (TB :: _)) | have h := (h.f9 : Own _ _ (TB :: _)) | have h := (h.f10 : Own _ _ (TB :: _)) | have h := (h.f11 : Own _ _ (TB :: _)) | have h := (h.f12 : Own _ _ (TB :: _)) | have h := (h.f13 : Own _ _ (TB :: _)) | have h := (h.f14 : Own _ _ (TB :: _)) | have h := (h.f15 : Own _ _ (TB :: _))
      first | exact h.drop | exact h.drop.drop.drop.drop
  · have HV : Hid (endV st cr us ii ab en = firstOf [en]) := Lib.hid (if_neg hs)
    have z1 : (st != 1) = true := by simpa using hs
    have c12 : _ = some (Value.int .i64 en) := (H1.out.cell 12).trans rfl
    have c11 : _ = some (Value.int .i64 st) := (H1.out.cell 11).trans rfl
    clear h
    unfold famC at *
    go_enter Tryz.func30, Tryz.ntmps30
    go_wp2_with (first
      | (with_reducible refine at_slot (k := some 8) ?_; refine wpList_ints (o := ⟨some 8, _, _, _, _, _⟩) [en] H1.out rfl rfl rfl (by omega) (by omega) (by first | kernel_rfl | rfl) (fun g4 w4 h => ?_); have K := firstb_any g4 [en] w4 1 1 rfl (by omega) h; clear h)
      | (refine K.mono ?_; clear K; rintro e w6 ⟨rfl, h⟩))
    go_ret
    exact ⟨ret_end HV.out.symm, h.drop.drop⟩
end
end Go.Proofs.YtabibfabieghpaaGreatDoor
