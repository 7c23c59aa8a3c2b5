/- RecordClients: three in a list; what the law calls for one of them (printed by gen_rec2.py). latchkeylaw14.RecordClients (printed by gen_rec2.py). -/
import Derived.Test.YtabibfabieghpaaGreatDoorPkJ2
import Derived.Test.YtabibfabieghpaaGreatDoorPkApart14
namespace Go.Proofs.YtabibfabieghpaaGreatDoor
open Go.RowKit
abbrev LCLT : TypeId := 78
theorem clientt_info : (Tryz.prog.info? CLT).map (fun i => (i.zero.isSome, i.size)) = some (true, 11) := by kernel_rfl
theorem run_clients (xs : List (List Value)) (n : Nat) (hx : ∀ x ∈ xs, x.length = 11) (hn : xs.length = n) (h0 : 0 < n) (h1 : n ≤ 100) (parts : Array (Nat × Value)) (hp : parts.toList = ((xs.map fun x => Value.agg x.toArray).zipIdx 0).map fun x => (x.2, x.1)) (w : World) (hc : ∀ x ∈ xs, (Value.agg x.toArray).cells.toList = x) :
    (Instr.buildSlice LCLT n parts).run Tryz.prog w = .ok (.slice (some ⟨w.heap.size, 0, none⟩) n n) (w.alloc (.cells (xs.flatMap id).toArray CLT)) := by
  obtain ⟨i, hi, hz⟩ := Option.map_eq_some_iff.1 clientt_info
  simp only [Prod.mk.injEq] at hz
  obtain ⟨z, hz0⟩ := Option.isSome_iff_exists.1 hz.1
  have e : (xs.map fun x => Value.agg x.toArray).flatMap (fun v => v.cells.toList) = xs.flatMap id := by
    rw [List.flatMap_map]
    clear hx hn hp
    induction xs with
    | nil => rfl
    | cons y r ih =>
      rw [List.flatMap_cons, List.flatMap_cons, hc y (List.mem_cons_self ..), ih fun x hx => hc x (List.mem_cons_of_mem _ hx)]
      rfl
  have hf := Great.fill_whole (s := 11) (by omega) (xs.map fun x => Value.agg x.toArray) ((Array.range (n * 11)).map (z.cells[· % z.cells.size]!)) (fun v hv => by
    obtain ⟨x, h2, rfl⟩ := List.mem_map.1 hv
    rw [← Array.length_toList, hc x h2, hx x h2]) (by simp [hn])
  rw [e, ← hp] at hf
  exact run_buildSlice w LCLT CLT n parts _ i z (by kernel_rfl) hi hz0 (by rw [hz.2]; omega) (by rw [hz.2]; omega) (by rw [hz.2]; exact hf)
theorem wpList_clients {E : World} {L : List Hp} {ops : Array Oper} {rest : List Oper} {o : Oper} {a : Act} {w : World} {Q : Exit → Act → World → Prop} {n : Nat} {parts : Array (Nat × Operand)} (xs : List (List Value)) (hx : ∀ x ∈ xs, x.length = 11) (hc : ∀ x ∈ xs, (Value.agg x.toArray).cells.toList = x) (h : Own E w L) (hg : o.guard = none) (ho : o.op = .buildSlice LCLT n parts) (hn : xs.length = n) (h0 : 0 < n) (h1 : n ≤ 100)
    (hp : (parts.map fun (i, x) => (i, a.eval x)).toList = ((xs.map fun x => Value.agg x.toArray).zipIdx 0).map fun x => (x.2, x.1))
    (hK : ∀ g w', Own E w' (Hp.blk g CLT (xs.flatMap id).toArray :: L) → wpList Tryz.prog ops Q rest (a.put o.dst (.slice (some ⟨g, 0, none⟩) n n)) w') : wpList Tryz.prog ops Q (o :: rest) a w := by
  refine wpList_plain hg fun K hh => ?_
  unfold Oper.wp execOp
  simp only [ho, Sem.run_bind, run_clients xs n hx hn h0 h1 _ hp w hc, Result.andThen_ok]
  exact hh _ _ (hK _ _ (h.alloc _))
theorem lent_rdsC (g : Nat) (l : List ByteArray) : Rds (Ph.one g (.cells (lentS l).toArray ST (0, 0))) 1 enStr (some ⟨g, 0, none⟩) l.length l := by
  refine ⟨rfl, fun _ => rfl, fun k hk => ⟨g, 0, rfl, fun j v hv => ?_⟩⟩
  cases j with
  | zero =>
    have hv2 : Value.string l[k] = v := by simpa using hv
    subst hv2
    have h2 : (Ph.one g (.cells (lentS l).toArray ST (0, 0))).cell ⟨g, k, none⟩ = some (.string l[k]) := by
      rw [one_cell]
      simp [lentS, List.getElem?_append_left, hk]
    simpa using h2
  | succ j => simp at hv
section
variable {E : World} {S : Ph} {M : List Hp}
/-- A family whose scope is lent at g. -/
abbrev ClientV.L (f : ClientV) (g : Nat) : List Value := f.C (some ⟨g, 0, none⟩) (f.xs.length + 2)
abbrev ClientV.lentB (f : ClientV) (g : Nat) : Hp := Hp.blk g ST (lentS f.xs).toArray
def ClientV.May (f : ClientV) : Prop := clientMay f.nm f.pu f.sw f.dh f.od f.ut f.xs f.ii f.ab f.gr f.li
theorem ClientV.print (f : ClientV) (g : Nat) (hn : f.xs.length ≤ 8796093022208) (hG : Laid0 E M) {w : World} (h : Own E w (f.lentB g :: M)) :
    Calls Tryz.prog 40 #[.agg (f.L g).toArray] w fun ev w' => ev = .returned (.tuple #[.agg #[.string f.R.1, .string f.R.2.1], .int .i64 f.R.2.2]) ∧ Own E w' (f.lentB g :: M) :=
  printclient_any (S := Ph.one g (.cells (lentS f.xs).toArray ST (0, 0))) f.nm f.pu f.sw f.dh f.od f.ut (some ⟨g, 0, none⟩) f.xs.length (f.xs.length + 2) f.ii f.ab f.gr f.li f.xs w (lent_rdsC g f.xs) (by omega) hn hG.cons h
/-- What is handed in. -/
structure ClientV.In (S : Ph) (f : ClientV) (A : Option Addr) (c : Nat) : Prop where
  r : Rds S 1 enStr A f.xs.length f.xs
  n : f.xs.length ≤ 8796093022208
  x : ∀ x ∈ f.xs, x.size ≤ 1000000000000000000
  l : f.nm.size ≤ 1000000000000000000
theorem ClientV.xprint (f : ClientV) {A : Option Addr} {c : Nat} (hi : f.In S A c) {w : World} (h : Own E w (Hp.ro S :: M)) :
    Calls Tryz.prog 41 #[.agg (f.C A c).toArray] w fun ev w' => ev = .returned (.tuple #[.agg #[.string f.R.1, .string f.R.2.1], .int .i64 f.R.2.2]) ∧ Own E w' (Hp.ro S :: M) :=
  xprintclient_any f.nm f.pu f.sw f.dh f.od f.ut A f.xs.length c f.ii f.ab f.gr f.li f.xs w hi.r hi.x hi.l hi.n h
theorem ClientV.lent (f : ClientV) {A : Option Addr} {c : Nat} (hi : f.In S A c) {w : World} (h : Own E w (Hp.ro S :: M)) :
    Calls Tryz.prog 32 #[.slice A f.xs.length c] w fun e w' => ∃ g : Nat, e = .returned (.slice (some ⟨g, 0, none⟩) f.xs.length (f.xs.length + 2)) ∧ Own E w' (f.lentB g :: Hp.ro S :: M) := lent_any A f.xs.length c f.xs w hi.n hi.r h
theorem ClientV.whole (f : ClientV) (g : Nat) {A : Option Addr} {c : Nat} (hi : f.In S A c) {w : World} (h : Own E w (f.lentB g :: Hp.ro S :: M)) :
    Calls Tryz.prog 35 #[.slice (some ⟨g, 0, none⟩) f.xs.length (f.xs.length + 2), .slice A f.xs.length c] w fun e w' => e = .returned (.bool true) ∧ Own E w' (f.lentB g :: Hp.ro S :: M) := whole_any g A f.xs.length c f.xs w hi.n hi.r h
theorem ClientV.R_may {f : ClientV} (h : f.May) : ∃ k v, f.R = (k, v, 0) ∧ k.size ≤ 1000 ∧ v.size ≤ 1000 := by
  have hr := client_range h
  refine ⟨_, _, if_pos h, ?_, ?_⟩
  · have h1 := hr.1
    unfold clientK
    rw [ByteArray.size_append]
    have e1 : (⟨#[99]⟩ : ByteArray).size = 1 := rfl
    omega
  · obtain ⟨h1, h2, h3, h4, -⟩ := hr
    unfold clientV
    rw [fl_size]
    simp only [List.length_append, byN_len]
    have e1 : f.dh.data.toList.length = f.dh.size := rfl
    have e2 : f.od.data.toList.length = f.od.size := rfl
    have e3 : (scTxt f.xs).data.toList.length = (scTxt f.xs).size := rfl
    omega
theorem ClientV.R_not {f : ClientV} (h : ¬ f.May) : f.R = (noB, noB, 140) := if_neg h
/-- No family prints as the empty pair. -/
theorem ClientV.R_none (f : ClientV) : f.R ≠ (noB, noB, 0) := fun h => by
  have h1 := congrArg ByteArray.size (client_reads h).2.1
  unfold clientK at h1
  rw [ByteArray.size_append] at h1
  have e1 : (⟨#[99]⟩ : ByteArray).size = 1 := rfl
  have e2 : noB.size = 0 := rfl
  omega
def ClientV.nil : ClientV := ⟨noB, false, false, noB, noB, 0, [], 0, 0, 0, 0⟩
/-- What is read of a family's pair. -/
def ClientV.back (f : ClientV) [Decidable f.May] : ClientV := if f.May then f else ClientV.nil
def ClientV.said (f : ClientV) [Decidable f.May] : Int := if f.May then 0 else 141
theorem ClientV.parsed (f : ClientV) [Decidable f.May] (hG : Laid0 E M) (hM : Max0 E M) {w : World} (h : Own E w M) :
    Calls Tryz.prog 42 #[.agg #[.string f.R.1, .string f.R.2.1]] w fun ev w' => ∃ (A : Option Addr) (c : Nat), ev = .returned (.tuple #[.agg (f.back.C A c).toArray, .int .i64 f.said]) ∧ Own E w' (Hp.lst ST (.slice A f.back.xs.length c) (f.back.xs.map Value.string) :: M) := by
  by_cases hm : f.May
  · obtain ⟨k, v, hR, hk, hv⟩ := ClientV.R_may hm
    have e1 : f.back = f := if_pos hm
    have e2 : f.said = 0 := if_pos hm
    rw [e1, e2, hR]
    refine (parseclient_any k v w (by omega) (by omega) hG hM h).mono ?_
    rintro ev w' (⟨f2, A, c, rfl, hf2, h2⟩ | ⟨-, hno, -⟩)
    · obtain rfl := client_inj hf2 hR
      exact ⟨A, c, rfl, h2⟩
    · exact absurd hR (hno f)
  · have e1 : f.back = ClientV.nil := if_neg hm
    have e2 : f.said = 141 := if_neg hm
    rw [e1, e2, ClientV.R_not hm]
    refine (parseclient_any noB noB w (by decide) (by decide) hG hM h).mono ?_
    rintro ev w' (⟨f2, A, c, -, hf2, -⟩ | ⟨rfl, -, h2⟩)
    · exact absurd hf2 f2.R_none
    · exact ⟨none, 0, rfl, h2.emptyLst ST none⟩
theorem ClientV.xparsed (f : ClientV) [Decidable f.May]  {w : World} (h : Own E w M) :
    Calls Tryz.prog 43 #[.agg #[.string f.R.1, .string f.R.2.1]] w fun ev w' => ∃ (A : Option Addr) (c : Nat), ev = .returned (.tuple #[.agg (f.back.C A c).toArray, .int .i64 f.said]) ∧ Own E w' (Hp.lst ST (.slice A f.back.xs.length c) (f.back.xs.map Value.string) :: M) := by
  by_cases hm : f.May
  · obtain ⟨k, v, hR, hk, hv⟩ := ClientV.R_may hm
    have e1 : f.back = f := if_pos hm
    have e2 : f.said = 0 := if_pos hm
    rw [e1, e2, hR]
    refine (xparseclient_any k v w (by omega)  h).mono ?_
    rintro ev w' (⟨f2, A, c, rfl, hf2, h2⟩ | ⟨-, hno, -⟩)
    · obtain rfl := client_inj hf2 hR
      exact ⟨A, c, rfl, h2⟩
    · exact absurd hR (hno f)
  · have e1 : f.back = ClientV.nil := if_neg hm
    have e2 : f.said = 141 := if_neg hm
    rw [e1, e2, ClientV.R_not hm]
    refine (xparseclient_any noB noB w (by decide)  h).mono ?_
    rintro ev w' (⟨f2, A, c, -, hf2, -⟩ | ⟨rfl, -, h2⟩)
    · exact absurd hf2 f2.R_none
    · exact ⟨none, 0, rfl, h2.emptyLst ST none⟩
theorem ClientV.same (f : ClientV) (A B : Option Addr) (c d : Nat) (hn : f.xs.length ≤ 8796093022208) (hA : ∀ w, Own E w M → Rds (Ph.of w) 1 enStr A f.xs.length f.xs) (hB : ∀ w, Own E w M → Rds (Ph.of w) 1 enStr B f.xs.length f.xs) {w : World} (h : Own E w M) :
    Calls Tryz.prog 44 #[.agg (f.C A c).toArray, .agg (f.C B d).toArray] w fun ev w' => ev = .returned (.bool true) ∧ Own E w' M :=
  sameclient_any f.nm f.pu f.sw f.dh f.od f.ut A B f.xs.length c f.xs.length d f.ii f.ab f.gr f.li f.xs w hA hB (by omega) h
end
instance (f : ClientV) : Decidable f.May := by unfold ClientV.May; exact inferInstance
theorem ClientV.back_len (f : ClientV) [Decidable f.May] : f.back.xs.length ≤ 8 := by
  by_cases hm : f.May
  · have e1 : f.back = f := if_pos hm
    rw [e1]
    exact ((fit_iff _).1 (scErr_zero hm.2.1).2.2).1
  · have e1 : f.back = ClientV.nil := if_neg hm
    rw [e1]
    exact Nat.zero_le _
end Go.Proofs.YtabibfabieghpaaGreatDoor
namespace Go.Proofs.YtabibfabieghpaaGreatDoor
open Go.RowKit
theorem ClientV.C_len (f : ClientV) (A : Option Addr) (c : Nat) : (f.C A c).length = 11 := rfl
theorem ClientV.C_agg (f : ClientV) (A : Option Addr) (c : Nat) : (Value.agg (f.C A c).toArray).cells.toList = f.C A c := rfl
theorem ClientV.C_one (f : ClientV) (A : Option Addr) (c : Nat) : ∀ v ∈ f.C A c, v.oneCell' = true := client_one _ _ _ _ _ _ _ _ _ _ _ _ _
theorem rows_at11 (X Y Z : List Value) (hX : X.length = 11) (hY : Y.length = 11) (hZ : Z.length = 11) : ∀ j u, (X[j]? = some u → ([X, Y, Z].flatMap id).toArray[j]? = some u) ∧ (Y[j]? = some u → ([X, Y, Z].flatMap id).toArray[11 + j]? = some u) ∧ (Z[j]? = some u → ([X, Y, Z].flatMap id).toArray[22 + j]? = some u) := fun j u => by
  have e : [X, Y, Z].flatMap id = X ++ (Y ++ Z) := by simp
  rw [e]
  refine ⟨fun h => ?_, fun h => ?_, fun h => ?_⟩
  · have := (List.getElem?_eq_some_iff.1 h).1
    rw [List.getElem?_toArray, List.getElem?_append_left (by omega)]; exact h
  · have := (List.getElem?_eq_some_iff.1 h).1
    rw [List.getElem?_toArray, List.getElem?_append_right (by omega), List.getElem?_append_left (by omega), hX, Nat.add_sub_cancel_left]; exact h
  · have := (List.getElem?_eq_some_iff.1 h).1
    rw [List.getElem?_toArray, List.getElem?_append_right (by omega), List.getElem?_append_right (by omega), hX, hY]
    rw [show 22 + j - 11 - 11 = j by omega]; exact h
abbrev ZCLT : List Value := [.string ⟨#[]⟩, .bool false, .bool false, .string ⟨#[]⟩, .string ⟨#[]⟩, .int .i64 0, .slice none 0 0, .int .i64 0, .int .i64 0, .int .i64 0, .int .i64 0]
section
variable {E : World} {S : Ph} {L : List Hp}
set_option maxRecDepth 100000 in
set_option maxHeartbeats 1600000 in
theorem clients_any (f h2 : ClientV) (A B : Option Addr) (c d : Nat) (w : World) (hf : f.In S A c) (hh : h2.In S B d) (hG : Laid0 E (Hp.ro S :: L)) (hM : Max0 E (Hp.ro S :: L)) (h : Own E w (Hp.ro S :: L)) :
    Calls Tryz.prog 6 #[.agg (f.C A c).toArray, .agg (h2.C B d).toArray] w fun ev w' => ev = .returned (.bool true) ∧ Own E w' (Hp.ro S :: L) := by
  have h1 := (h.alloc (.cells (f.C A c).toArray CLT)).alloc (.cells (h2.C B d).toArray CLT)
  rw [alloc_size] at h1
  have H := Lib.hid h1
  obtain ⟨dd, hd, hrow⟩ := clientt_u0
  obtain ⟨ddI, hdI, hrowI⟩ := itt_u
  have KA := Lib.hid (fun (wq : World) h => awake14_any (E := E) (L := Hp.blk (w.heap.size + 1) CLT (h2.C B d).toArray :: Hp.blk w.heap.size CLT (f.C A c).toArray :: Hp.ro S :: L) wq hG.cons.cons h)
  have HF := Lib.hid hf
  have HH := Lib.hid hh
  have HG := Lib.hid hG
  have HM := Lib.hid hM
  clear h h1 hf hh hG hM
  obtain ⟨X, hX⟩ : ∃ X, X = f.C A c := ⟨_, rfl⟩
  obtain ⟨Y, hY⟩ : ∃ Y, Y = h2.C B d := ⟨_, rfl⟩
  rw [← hX, ← hY] at H KA ⊢
  have hXl : X.length = 11 := by rw [hX]; rfl
  have hYl : Y.length = 11 := by rw [hY]; rfl
  have hXa : (Value.agg X.toArray).cells.toList = X := by rw [hX]; rfl
  have hYa : (Value.agg Y.toArray).cells.toList = Y := by rw [hY]; rfl
  have HX := Lib.hid (And.intro hX hY)
  have HN14 : ∀ x ∈ [X, Y, X], x.length = 11 := by
    intro z hz
    simp only [List.mem_cons, List.not_mem_nil, or_false] at hz
    rcases hz with h | h | h <;> rw [h] <;> assumption
  have HAG : ∀ x ∈ [X, Y, X], (Value.agg x.toArray).cells.toList = x := by
    intro z hz
    simp only [List.mem_cons, List.not_mem_nil, or_false] at hz
    rcases hz with h | h | h <;> rw [h] <;> assumption
  clear hX hY
  go_enter Tryz.func6, Tryz.ntmps6
  go_wp2_with (first
    | (refine (KA.out _ H.out).mono ?_; clear KA H; rintro ev w1 ⟨rfl, h⟩; have H := Lib.hid h; clear h)
    | (with_reducible refine at_slot (k := some 25) ?_; refine wpList_load_arr (o := ⟨some 25, _, _, _, _, _⟩) H.out.f1 0 X (fun jj u hu => by simpa using hu) hd hrow (by rw [hXl]; kernel_rfl) rfl rfl rfl ?_)
    | (with_reducible refine at_slot (k := some 26) ?_; refine wpList_load_arr (o := ⟨some 26, _, _, _, _, _⟩) H.out 0 Y (fun jj u hu => by simpa using hu) hd hrow (by rw [hYl]; kernel_rfl) rfl rfl rfl ?_)
    | (with_reducible refine at_slot (k := some 27) ?_; refine wpList_load_arr (o := ⟨some 27, _, _, _, _, _⟩) H.out.f1 0 X (fun jj u hu => by simpa using hu) hd hrow (by rw [hXl]; kernel_rfl) rfl rfl rfl ?_)
    | (with_reducible refine at_slot (k := some 28) ?_; refine wpList_clients (o := ⟨some 28, _, _, _, _, _⟩) [X, Y, X] HN14 HAG H.out.drop.drop rfl rfl rfl (by omega) (by omega) (by first | kernel_rfl | rfl) (fun gb w2 h => ?_); clear H; have H := Lib.hid h; clear h))
  obtain ⟨RB, hRB⟩ : ∃ RB, RB = (List.flatMap id [X, Y, X]).toArray := ⟨_, rfl⟩
  rw [← hRB] at H
  have HR : Hid (∀ k : Nat, k < 3 → ∃ (q : ClientV) (Aq : Option Addr) (cq : Nat), q.In S Aq cq ∧ ∀ j u, (q.C Aq cq)[j]? = some u → RB[k * 11 + j]? = some u) := Lib.hid fun k hk => by
    have hr := rows_at11 X Y X hXl hYl hXl
    rw [← hRB] at hr
    obtain ⟨hX, hY⟩ := HX.out
    match k, hk with
    | 0, _ => exact ⟨f, A, c, HF.out, fun j u hu => by rw [← hX] at hu; have := (hr j u).1 hu; rw [show 0 * 11 + j = j by omega]; exact this⟩
    | 1, _ => exact ⟨h2, B, d, HH.out, fun j u hu => by rw [← hY] at hu; exact (hr j u).2.1 hu⟩
    | 2, _ => exact ⟨f, A, c, HF.out, fun j u hu => by rw [← hX] at hu; exact (hr j u).2.2 hu⟩
  have H0 : Hid (Own E w2 (Hp.lst LST (.slice none 0 0) (([] : List Kl).map Kl.v) :: fmK [] :: Hp.lst LST (.slice none 0 0) (([] : List Kl).map Kl.v) :: fmK [] :: Hp.ro S :: Hp.blk gb CLT RB :: L)) := Lib.hid (Own.emptyLst (Own.nilK (Own.emptyLst (Own.nilK H.out.f1) LST none)) LST none)
  clear H HF HH HX hRB HN14 HAG hXa hYa hXl hYl
  go_loopw [6, 7, 9] (fun vl vw i wr => ∃ (k cl cw : Nat) (Al Aw : Option Addr) (ls ws : List Kl), k ≤ 3 ∧ i = .int .i64 k ∧ vl = .slice Al k cl ∧ vw = .slice Aw k cw ∧ ls.length = k ∧ ws.length = k ∧ ws.map Kl.xs = ls.map Kl.xs ∧ (∀ r ∈ ls, r.xs.length ≤ 8) ∧ Own E wr (Hp.lst LST (.slice Al k cl) (ls.map Kl.v) :: fmK ls :: Hp.lst LST (.slice Aw k cw) (ws.map Kl.v) :: fmK ws :: Hp.ro S :: Hp.blk gb CLT RB :: L)) (fun _ _ i _ => 3 - (intOf i).toNat)
  case atStart => exact ⟨0, 0, 0, none, none, [], [], by omega, rfl, rfl, rfl, rfl, rfl, rfl, (fun r hr => by cases hr), H0.out⟩
  case round =>
    obtain ⟨k, cl, cw, Al, Aw, ls, ws, hk, rfl, rfl, rfl, hll, hwl, hxs, hl8, hw⟩ := hrel
    obtain ⟨wx, hwx⟩ : ∃ wx, wx = wr := ⟨_, rfl⟩
    subst hwx
    clear H0
    have HXS := Lib.hid hxs
    have HL8 := Lib.hid hl8
    clear hxs hl8
    by_cases hlt : k < 3
    · have hlti : (k : Int) < 3 := by omega
      obtain ⟨q, Aq, cq, hq, hrw⟩ := HR.out k hlt
      obtain ⟨Q, hQ⟩ : ∃ Q, Q = q.C Aq cq := ⟨_, rfl⟩
      rw [← hQ] at hrw
      have HI := Lib.hid hq
      obtain ⟨r1, r2, fe, hR⟩ : ∃ r1 r2 fe, q.R = (r1, r2, fe) := ⟨_, _, _, rfl⟩
      have KPR : Hid (∀ (g : Nat) (w : World) (M : List Hp), Laid0 E M → Own E w (q.lentB g :: M) → Calls Tryz.prog 40 #[.agg (q.L g).toArray] w fun ev w' => ev = .returned (.tuple #[.agg #[.string r1, .string r2], .int .i64 fe]) ∧ Own E w' (q.lentB g :: M)) := Lib.hid fun g w M hG h => by
        have hh := q.print g HI.out.n hG h
        simp only [hR] at hh
        exact hh
      have KPA : Hid (∀ (w : World) (M : List Hp), Laid0 E M → Max0 E M → Own E w M → Calls Tryz.prog 42 #[.agg #[.string r1, .string r2]] w fun ev w' => ∃ (A : Option Addr) (c : Nat) (Y : List Value), Y = q.back.C A c ∧ ZCLT.length = Y.length ∧ (∀ v ∈ Y, v.oneCell' = true) ∧ (Tryz.prog.info? CLT).map (·.size) = some Y.length ∧ ev = .returned (.tuple #[.agg Y.toArray, .int .i64 q.said]) ∧ Own E w' (Hp.lst ST (.slice A q.back.xs.length c) (q.back.xs.map Value.string) :: M)) := Lib.hid fun w M hG hM h => by
        have hh := q.parsed hG hM h
        simp only [hR] at hh
        exact hh.mono fun ev w' ⟨A, c, h1, h2⟩ => ⟨A, c, _, rfl, rfl, ClientV.C_one _ _ _, by kernel_rfl, h1, h2⟩
      have KXA : Hid (∀ (w : World) (M : List Hp), Own E w M → Calls Tryz.prog 43 #[.agg #[.string r1, .string r2]] w fun ev w' => ∃ (A : Option Addr) (c : Nat) (Y : List Value), Y = q.back.C A c ∧ ZCLT.length = Y.length ∧ (∀ v ∈ Y, v.oneCell' = true) ∧ (Tryz.prog.info? CLT).map (·.size) = some Y.length ∧ ev = .returned (.tuple #[.agg Y.toArray, .int .i64 q.said]) ∧ Own E w' (Hp.lst ST (.slice A q.back.xs.length c) (q.back.xs.map Value.string) :: M)) := Lib.hid fun w M h => by
        have hh := q.xparsed h
        simp only [hR] at hh
        exact hh.mono fun ev w' ⟨A, c, h1, h2⟩ => ⟨A, c, _, rfl, rfl, ClientV.C_one _ _ _, by kernel_rfl, h1, h2⟩
      have HFE : Hid (q.May ∧ fe = 0 ∨ ¬ q.May ∧ ¬ fe = 0) := Lib.hid (by
        by_cases hm : q.May
        · obtain ⟨k, v, hk, -, -⟩ := ClientV.R_may hm
          rw [hk] at hR
          injection hR with _ hR
          injection hR with _ hR
          exact .inl ⟨hm, hR.symm⟩
        · have hk := ClientV.R_not hm
          rw [hk] at hR
          injection hR with _ hR
          injection hR with _ hR
          exact .inr ⟨hm, by omega⟩)
      have HBL : Hid (q.back.xs.length ≤ 8) := Lib.hid q.back_len
      have hq12 : ∀ w, (binOp .neq ITT (.agg #[.string r1, .string r2]) (.agg #[.string r1, .string r2])).run Tryz.prog w = .ok (.bool false) w := fun w => by rw [run_pair, decide_eq_true ⟨rfl, rfl⟩]; rfl
      have hQl : Q.length = 11 := by rw [hQ]; rfl
      have hQz : ZCLT.length = Q.length := by rw [hQl]; rfl
      have hQ1 : ∀ v ∈ Q, v.oneCell' = true := by rw [hQ]; exact q.C_one Aq cq
      have hQi : (Tryz.prog.info? CLT).map (·.size) = some Q.length := by rw [hQl]; kernel_rfl
      have HSET : Hid (∀ g : Nat, Q.toArray.setIfInBounds 6 (.slice (some ⟨g, 0, none⟩) q.xs.length (q.xs.length + 2)) = (q.L g).toArray) := Lib.hid fun g => by rw [hQ]; rfl
      have HSZ : Hid (6 < Q.toArray.size) := Lib.hid (by rw [hQ]; show (6 : Nat) < 11; omega)
      have HLA : Hid (∀ (X1 X2 : Hp), Laid0 E (X1 :: Hp.ro S :: X2 :: Hp.lst LST (.slice Al k cl) (ls.map Kl.v) :: fmK ls :: Hp.lst LST (.slice Aw k cw) (ws.map Kl.v) :: fmK ws :: L)) := Lib.hid fun X1 X2 w h => HG.out w h.drop.f1.drop.f1.drop.f1.drop.f1.drop.f1.drop
      have KXP : Hid (∀ (w : World) (M : List Hp), Own E w (Hp.ro S :: M) → Calls Tryz.prog 41 #[.agg Q.toArray] w fun ev w' => ev = .returned (.tuple #[.agg #[.string r1, .string r2], .int .i64 fe]) ∧ Own E w' (Hp.ro S :: M)) := Lib.hid fun w M h => by
        have hh := q.xprint HI.out h
        simp only [hR] at hh
        rw [hQ]
        exact hh
      have hLl : ∀ g, (q.L g).length = 11 := fun _ => rfl
      have hQ3 : Hid (∀ (b : Nat) (w : World) (M : List Hp), Own E w (Hp.blk b CLT Q.toArray :: M) → w.cell? ⟨b, 6, none⟩ = some (.slice Aq q.xs.length cq)) := Lib.hid fun b w M h => by rw [hQ] at h; rw [h.cell 6]; rfl
      have HRow := Lib.hid hrw
      have HQ := Lib.hid hQ
      have H := Lib.hid (hw.f4.f5 : Own E wx (Hp.blk gb CLT RB :: Hp.ro S :: _))
      clear hq hrw hQ hw hR
      have HLD : Hid (∀ (X1 : Hp), Laid0 E (X1 :: Hp.ro S :: Hp.blk gb CLT RB :: Hp.lst LST (.slice Al k cl) (ls.map Kl.v) :: fmK ls :: Hp.lst LST (.slice Aw k cw) (ws.map Kl.v) :: fmK ws :: L)) := Lib.hid fun X1 w h => HG.out w h.drop.f1.drop.f1.drop.f1.drop.f1.drop.f1.drop
      have HMD : Hid (∀ (X1 : Hp), Max0 E (X1 :: Hp.ro S :: Hp.blk gb CLT RB :: Hp.lst LST (.slice Al k cl) (ls.map Kl.v) :: fmK ls :: Hp.lst LST (.slice Aw k cw) (ws.map Kl.v) :: fmK ws :: L)) := Lib.hid fun X1 => HM.out.imp fun _ hm w h => hm w h.drop.f1.drop.f1.drop.f1.drop.f1.drop.f1.drop
      have KSM : Hid (∀ (A1 A2 : Option Addr) (c1 c2 : Nat) (Y1 Y2 : List Value) (w : World) (M : List Hp), Y1 = q.back.C A1 c1 → Y2 = q.back.C A2 c2 → Seen E M A1 q.back.xs.length q.back.xs → Seen E M A2 q.back.xs.length q.back.xs → Own E w M → Calls Tryz.prog 44 #[.agg Y1.toArray, .agg Y2.toArray] w fun ev w' => ev = .returned (.bool true) ∧ Own E w' M) := Lib.hid fun A1 A2 c1 c2 Y1 Y2 w M h1 h2 hA hB h => by
        rw [h1, h2]
        exact q.back.same A1 A2 c1 c2 (by have := HBL.out; omega) hA hB h
      have HLL := Lib.hid (And.intro hll hwl)
      clear hll hwl
      rcases HFE.out with ⟨hm, hfe⟩ | ⟨hm, hfe⟩
      · have KSQ : Hid (∀ (A1 : Option Addr) (c1 : Nat) (Y1 : List Value) (w : World) (M : List Hp), Y1 = q.back.C A1 c1 → Seen E M A1 q.back.xs.length q.back.xs → Seen E M Aq q.xs.length q.xs → Own E w M → Calls Tryz.prog 44 #[.agg Y1.toArray, .agg Q.toArray] w fun ev w' => ev = .returned (.bool true) ∧ Own E w' M) := Lib.hid fun A1 c1 Y1 w M h1 hA hB h => by
          have e1 : q.back = q := if_pos hm
          rw [e1] at h1 hA
          rw [h1, HQ.out]
          exact q.same A1 Aq c1 cq HI.out.n hA hB h
        have hsd : q.said = 0 := if_pos hm
        rw [hsd] at KPA KXA
        obtain ⟨bx, hbx⟩ : ∃ bx, bx = q.back.xs := ⟨_, rfl⟩
        have HBB : Hid (bx.length ≤ 8) := Lib.hid (by rw [hbx]; exact HBL.out)
        obtain ⟨bn, hbn⟩ : ∃ bn, bn = bx.length := ⟨_, rfl⟩
        rw [← hbx, ← hbn] at KPA KXA KSM KSQ HBL
        have HBN : Hid (bn = q.back.xs.length) := Lib.hid (by rw [hbn, hbx])
        subst hfe
        clear hsd hbx hbn hm
        go_wp2_with (first
          | (with_reducible refine at_slot (k := some 38) ?_; refine wpList_load_arr (o := ⟨some 38, _, _, _, _, _⟩) H.out (k * 11) Q HRow.out hd hrow (by rw [hQl]; kernel_rfl) rfl rfl rfl ?_)
          | (with_reducible refine at_slot (k := none) ?_; refine wpList_store_whole (o := ⟨none, _, _, _, _, _⟩) (cs := ZCLT) (vs := Q) (H.out.alloc (.cells #[.string ⟨#[]⟩, .bool false, .bool false, .string ⟨#[]⟩, .string ⟨#[]⟩, .int .i64 0, .slice none 0 0, .int .i64 0, .int .i64 0, .int .i64 0, .int .i64 0] CLT)) hQz hQ1 hQi rfl rfl rfl rfl ?_; clear H; intro w7 h; have c3 := hQ3.out _ _ _ h; have H7 := Lib.hid h; clear h)
          | ((with_reducible refine (q.lent HI.out H7.out.f2).mono ?_); clear H7; rintro ev w8 ⟨g, rfl, h⟩; obtain ⟨⟨old, ho⟩, hfz, hs⟩ := h.f2.put1 6 (.slice (some ⟨g, 0, none⟩) q.xs.length (q.xs.length + 2)) HSZ.out; rw [HSET.out g] at hs; have H8 := Lib.hid hs; clear h hs)
          | (with_reducible refine at_slot (k := some 45) ?_; refine wpList_load_arr (o := ⟨some 45, _, _, _, _, _⟩) H8.out 0 (q.L g) (fun jj u hu => by simpa using hu) hd hrow (by rw [hLl g]; kernel_rfl) rfl rfl rfl ?_)
          | ((with_reducible refine (KPR.out g _ _ (HLA.out _ _) H8.out.f1).mono ?_); clear H8; rintro ev w9 ⟨rfl, h⟩; have H9 := Lib.hid (h.alloc (.cells #[.string r1, .string r2] ITT)); clear h)
          | (with_reducible refine at_slot (k := some 53) ?_; refine wpList_load_arr (o := ⟨some 53, _, _, _, _, _⟩) H9.out.f4 (k * 11) Q HRow.out hd hrow (by rw [hQl]; kernel_rfl) rfl rfl rfl ?_)
          | ((with_reducible refine (KXP.out _ _ H9.out.f3).mono ?_); clear H9; rintro ev w10 ⟨rfl, h⟩; have H10 := Lib.hid (h.alloc (.cells #[.string r1, .string r2] ITT)); clear h; have x3 : _ = some (Value.slice (some ⟨g, 0, none⟩) q.xs.length (q.xs.length + 2)) := (H10.out.f4.cell 6).trans rfl)
          | ((with_reducible refine (q.whole g HI.out H10.out.f1.f3).mono ?_); clear H10 x3; rintro ev w14 ⟨rfl, h⟩; have p0 := h.f2.cell 0; have p1 := h.f2.cell 1; have p2 := h.f3.cell 0; have p3 := h.f3.cell 1; simp only [List.getElem?_toArray, List.getElem?_cons_zero, List.getElem?_cons_succ] at p0 p1 p2 p3; have H5 : Hid (Own E _ (Hp.blk w9.heap.size ITT #[.string r1, .string r2] :: Hp.ro S :: Hp.blk gb CLT RB :: Hp.lst LST (.slice Al k cl) (ls.map Kl.v) :: fmK ls :: Hp.lst LST (.slice Aw k cw) (ws.map Kl.v) :: fmK ws :: L)) := Lib.hid h.drop.f1.drop.f2.drop.f1; clear h)
          | (with_reducible refine at_slot (k := some 74) ?_; refine wpList_load_arr (o := ⟨some 74, _, _, _, _, _⟩) H5.out 0 [.string r1, .string r2] (fun jj u hu => by simpa using hu) hdI hrowI (by kernel_rfl) rfl rfl rfl ?_)
          | ((with_reducible refine (KPA.out _ _ (HLD.out _) (HMD.out _) H5.out).mono ?_); clear H5; rintro ev w6 ⟨A1, c1, Y1, hY1, hl1, ho1, hi1, rfl, h⟩; have HY1 := Lib.hid hY1; clear hY1; have H6 := Lib.hid h; clear h)
          | (with_reducible refine at_slot (k := none) ?_; refine wpList_store_whole (o := ⟨none, _, _, _, _, _⟩) (cs := ZCLT) (vs := Y1) (H6.out.alloc (.cells #[.string ⟨#[]⟩, .bool false, .bool false, .string ⟨#[]⟩, .string ⟨#[]⟩, .int .i64 0, .slice none 0 0, .int .i64 0, .int .i64 0, .int .i64 0, .int .i64 0] CLT)) hl1 ho1 hi1 rfl rfl rfl rfl ?_; clear H6; intro w66 h; have H66 := Lib.hid h; clear h)
          | (with_reducible refine at_slot (k := some 79) ?_; refine wpList_load_arr (o := ⟨some 79, _, _, _, _, _⟩) H66.out.f2 0 [.string r1, .string r2] (fun jj u hu => by simpa using hu) hdI hrowI (by kernel_rfl) rfl rfl rfl ?_)
          | ((with_reducible refine (KXA.out _ _ H66.out).mono ?_); clear H66; rintro ev w7 ⟨A2, c2, Y2, hY2, hl2, ho2, hi2, rfl, h⟩; have HY2 := Lib.hid hY2; clear hY2; have H7 := Lib.hid h; clear h)
          | (with_reducible refine at_slot (k := none) ?_; refine wpList_store_whole (o := ⟨none, _, _, _, _, _⟩) (cs := ZCLT) (vs := Y2) (H7.out.alloc (.cells #[.string ⟨#[]⟩, .bool false, .bool false, .string ⟨#[]⟩, .string ⟨#[]⟩, .int .i64 0, .slice none 0 0, .int .i64 0, .int .i64 0, .int .i64 0, .int .i64 0] CLT)) hl2 ho2 hi2 rfl rfl rfl rfl ?_; clear H7; intro w77 h; have H8 : Hid (Own E w77 (Hp.blk w7.heap.size CLT Y2.toArray :: Hp.lst ST (.slice A2 bn c2) (bx.map Value.string) :: Hp.blk w6.heap.size CLT Y1.toArray :: Hp.lst ST (.slice A1 bn c1) (bx.map Value.string) :: Hp.blk w9.heap.size ITT #[.string r1, .string r2] :: Hp.ro S :: Hp.blk gb CLT RB :: Hp.lst LST (.slice Al k cl) (ls.map Kl.v) :: fmK ls :: Hp.lst LST (.slice Aw k cw) (ws.map Kl.v) :: fmK ws :: L)) := Lib.hid h; clear h)
          | (with_reducible refine at_slot (k := some 83) ?_; refine wpList_load_arr (o := ⟨some 83, _, _, _, _, _⟩) H8.out.f2 0 Y1 (fun jj u hu => by simpa using hu) hd hrow hi1 rfl rfl rfl ?_)
          | (with_reducible refine at_slot (k := some 84) ?_; refine wpList_load_arr (o := ⟨some 84, _, _, _, _, _⟩) H8.out 0 Y2 (fun jj u hu => by simpa using hu) hd hrow hi2 rfl rfl rfl ?_)
          | ((with_reducible refine (KSM.out A1 A2 c1 c2 Y1 Y2 _ _ HY1.out HY2.out (seen_lst (fun w h => h.f3)) (seen_lst (fun w h => h.f1)) H8.out).mono ?_); clear H8; rintro ev w8 ⟨rfl, h⟩; have H9 := Lib.hid h; clear h))
        have HC1 : Hid (∀ w M, Own E w (Hp.blk w6.heap.size CLT Y1.toArray :: M) → w.cell? ⟨w6.heap.size, 6, none⟩ = some (.slice A1 bn c1)) := Lib.hid fun w M h => by rw [h.cell 6, HY1.out, HBN.out]; rfl
        have HC2 : Hid (∀ w M, Own E w (Hp.blk w7.heap.size CLT Y2.toArray :: M) → w.cell? ⟨w7.heap.size, 6, none⟩ = some (.slice A2 bn c2)) := Lib.hid fun w M h => by rw [h.cell 6, HY2.out, HBN.out]; rfl
        refine wp_region_text [0, 4] (fun w' => w'.rangeAt w6.heap.size 0 Y1 ∧ w'.rangeAt gb (k * 11) Q) (by kernel_rfl) ?_ (fun hS => ?_)
        · exact ⟨H9.out.f2.range 0 Y1 (fun jj u hu => by simpa using hu), H9.out.f6.range (k * 11) Q HRow.out⟩
        refine wpAnyG_load (i := 0) (oi := ⟨some 95, _, _, _, _, _⟩) (v := (.agg Y1.toArray)) rfl (by kernel_rfl) (by kernel_rfl) (by kernel_rfl) (by rfl) (fun _ _ _ h => h) (by rfl) ?_ (by assumption) ?_
        · intro w hS
          exact exec_load_mid CLT (.tmp 17) rfl w6.heap.size 0 (by rfl) Y1 _ hS.1 hd hrow hi1
        try simp only [Act.put, List.setIfInBounds_toArray, List.set_cons_zero, List.set_cons_succ]
        refine wpAnyG_pure (i := 1) (oi := ⟨some 96, _, _, _, _, _⟩) (v := ?_) rfl (by kernel_rfl) (by kernel_rfl) (by kernel_rfl) (by rfl) (fun _ _ _ h => h) (by rfl) ?_ ?_
        rotate_left
        · intro w
          go_simp
          first | done | with_reducible rfl
        try simp only [Act.put, List.setIfInBounds_toArray, List.set_cons_zero, List.set_cons_succ]
        refine wpAnyG_pure (i := 2) (oi := ⟨some 97, _, _, _, _, _⟩) (v := ?_) rfl (by kernel_rfl) (by kernel_rfl) (by kernel_rfl) (by rfl) (fun _ _ _ h => h) (by rfl) ?_ ?_
        rotate_left
        · intro w
          go_simp
          first | done | with_reducible rfl
        try simp only [Act.put, List.setIfInBounds_toArray, List.set_cons_zero, List.set_cons_succ]
        refine wpAnyG_pure (i := 3) (oi := ⟨some 98, _, _, _, _, _⟩) (v := ?_) rfl (by kernel_rfl) (by kernel_rfl) (by kernel_rfl) (by rfl) (fun _ _ _ h => h) (by rfl) ?_ ?_
        rotate_left
        · intro w
          go_simp
          first | done | with_reducible rfl
        try simp only [Act.put, List.setIfInBounds_toArray, List.set_cons_zero, List.set_cons_succ]
        refine wpAnyG_load (i := 4) (oi := ⟨some 99, _, _, _, _, _⟩) (v := (.agg Q.toArray)) rfl (by kernel_rfl) (by kernel_rfl) (by kernel_rfl) (by rfl) (fun _ _ _ h => h) (by rfl) ?_ (by assumption) ?_
        · intro w hS
          exact exec_load_mid CLT (.tmp 98) rfl gb (k * 11) (by rfl) Q _ hS.2 hd hrow hQi
        try simp only [Act.put, List.setIfInBounds_toArray, List.set_cons_zero, List.set_cons_succ]
        refine wpAnyG_break (i := 5) (oi := ⟨some 100, _, _, _, _, _⟩) (by kernel_rfl) rfl (by kernel_rfl) (fun K hK => ?_)
        rw [if_pos (by rfl)]
        go_simp
        refine (KSQ.out A1 c1 Y1 _ _ HY1.out (seen_lst (fun w h => h.f3)) (fun w h => HI.out.r.sub h.f5.sub) H9.out.drew).mono ?_
        rintro ev w8' ⟨rfl, h⟩
        refine hK.out _ _ ?_
        clear hK K
        try simp only [Act.put, List.setIfInBounds_toArray, List.set_cons_zero, List.set_cons_succ]
        refine wpAnyG_pure (i := 6) (oi := ⟨some 22, _, _, _, _, _⟩) (v := ?_) rfl (by kernel_rfl) (by kernel_rfl) (by kernel_rfl) (by rfl) (fun _ _ _ h => h) (by rfl) ?_ ?_
        rotate_left
        · intro w
          go_simp
          first | done | with_reducible rfl
        try simp only [Act.put, List.setIfInBounds_toArray, List.set_cons_zero, List.set_cons_succ]
        refine wpAnyG_done (by kernel_rfl) ?_ _
        refine NoPanic.normal ?_
        have H9 := Lib.hid h
        clear h
        have h9 := H9.out
        have y3 : _ = some (Value.slice A1 bn c1) := HC1.out _ _ h9.f2
        have hml : (ls.map Kl.v).length = k := by rw [List.length_map, HLL.out.1]
        have hmw : (ws.map Kl.v).length = k := by rw [List.length_map, HLL.out.2]
        obtain ⟨va, wa, hap1, h⟩ := lst_append_new (P := Tryz.prog) (t := LLST) (ty := LLST) llst_u sst_info (by rfl) h9.f7 #[.slice A1 bn c1] 1 rfl (by simp [Value.oneCell']) (by unfold maxLen; omega) (by omega)
        obtain ⟨Bl, bl, rfl, -⟩ := h.lstSlice
        have e9 : (ls.map Kl.v ++ (#[.slice A1 bn c1] : Array Value).toList).length = k + 1 := by rw [List.length_append, hml]; rfl
        rw [e9] at h hap1
        have z3 : _ = some (Value.slice A2 bn c2) := HC2.out _ _ h.f1
        have h := h.f5.drop.f1.drop
        obtain ⟨vb, wb, hap2, h⟩ := lst_append_new (P := Tryz.prog) (t := LLST) (ty := LLST) llst_u sst_info (by rfl) h.f7 #[.slice A2 bn c2] 1 rfl (by simp [Value.oneCell']) (by unfold maxLen; omega) (by omega)
        obtain ⟨Bw, bw, rfl, -⟩ := h.lstSlice
        have e8 : (ws.map Kl.v ++ (#[.slice A2 bn c2] : Array Value).toList).length = k + 1 := by rw [List.length_append, hmw]; rfl
        rw [e8] at h hap2
        have h1 : Own E wb (Hp.lst LST (.slice Bw (k + 1) bw) (ws.map Kl.v ++ [.slice A2 bn c2]) :: Hp.lst LST (.slice Bl (k + 1) bl) (ls.map Kl.v ++ [.slice A1 bn c1]) :: Hp.lst ST (.slice A2 bn c2) (bx.map Value.string) :: Hp.lst ST (.slice A1 bn c1) (bx.map Value.string) :: Hp.ro S :: Hp.blk gb CLT RB :: fmK ls :: fmK ws :: L) := h.f3.drop
        have h2 := Own.pushK (r := ⟨.slice A1 bn c1, bx⟩) (h1.ac (by simp only [Hp.all] <;> ac_rfl) : Own E wb (Hp.lst ST (.slice A1 bn c1) (bx.map Value.string) :: fmK ls :: Hp.lst LST (.slice Bw (k + 1) bw) (ws.map Kl.v ++ [.slice A2 bn c2]) :: Hp.lst LST (.slice Bl (k + 1) bl) (ls.map Kl.v ++ [.slice A1 bn c1]) :: Hp.lst ST (.slice A2 bn c2) (bx.map Value.string) :: Hp.ro S :: Hp.blk gb CLT RB :: fmK ws :: L))
        have h3 := Own.pushK (r := ⟨.slice A2 bn c2, bx⟩) (h2.ac (by simp only [Hp.all] <;> ac_rfl) : Own E wb (Hp.lst ST (.slice A2 bn c2) (bx.map Value.string) :: fmK ws :: fmK (ls ++ [(⟨.slice A1 bn c1, bx⟩ : Kl)]) :: Hp.lst LST (.slice Bw (k + 1) bw) (ws.map Kl.v ++ [.slice A2 bn c2]) :: Hp.lst LST (.slice Bl (k + 1) bl) (ls.map Kl.v ++ [.slice A1 bn c1]) :: Hp.ro S :: Hp.blk gb CLT RB :: L))
        have h4 : Own E wb (Hp.lst LST (.slice Bl (k + 1) bl) (ls.map Kl.v ++ [.slice A1 bn c1]) :: fmK (ls ++ [(⟨.slice A1 bn c1, bx⟩ : Kl)]) :: Hp.lst LST (.slice Bw (k + 1) bw) (ws.map Kl.v ++ [.slice A2 bn c2]) :: fmK (ws ++ [(⟨.slice A2 bn c2, bx⟩ : Kl)]) :: Hp.ro S :: Hp.blk gb CLT RB :: L) := h3.ac (by simp only [Hp.all] <;> ac_rfl)
        have H7 : Hid (Own E wb (Hp.lst LST (.slice Bl (k + 1) bl) ((ls ++ [(⟨.slice A1 bn c1, bx⟩ : Kl)]).map Kl.v) :: fmK (ls ++ [(⟨.slice A1 bn c1, bx⟩ : Kl)]) :: Hp.lst LST (.slice Bw (k + 1) bw) ((ws ++ [(⟨.slice A2 bn c2, bx⟩ : Kl)]).map Kl.v) :: fmK (ws ++ [(⟨.slice A2 bn c2, bx⟩ : Kl)]) :: Hp.ro S :: Hp.blk gb CLT RB :: L)) := Lib.hid (by
          rw [List.map_append, List.map_append]
          exact h4)
        have HN : Hid ((ls ++ [(⟨.slice A1 bn c1, bx⟩ : Kl)]).length = k + 1 ∧ (ws ++ [(⟨.slice A2 bn c2, bx⟩ : Kl)]).length = k + 1 ∧ (ws ++ [(⟨.slice A2 bn c2, bx⟩ : Kl)]).map Kl.xs = (ls ++ [(⟨.slice A1 bn c1, bx⟩ : Kl)]).map Kl.xs ∧ ∀ r ∈ ls ++ [(⟨.slice A1 bn c1, bx⟩ : Kl)], r.xs.length ≤ 8) := Lib.hid ⟨by rw [List.length_append, HLL.out.1]; rfl, by rw [List.length_append, HLL.out.2]; rfl, by rw [List.map_append, List.map_append, HXS.out]; rfl, fun r hr => by
          rcases List.mem_append.1 hr with hr | hr
          · exact HL8.out r hr
          · have hr2 := List.mem_singleton.1 hr
            rw [hr2]
            exact HBB.out⟩
        repeat clear h
        clear h9 e9 e8 hml hmw H9
        go_wp2_with (first
          | (with_reducible refine at_slot (k := some 111) ?_; refine wpList_append_run (o := ⟨some 111, _, _, _, _, _⟩) hap1 rfl rfl rfl rfl ?_; clear hap1)
          | (with_reducible refine at_slot (k := some 116) ?_; refine wpList_append_run (o := ⟨some 116, _, _, _, _, _⟩) hap2 rfl rfl rfl rfl ?_; clear hap2))
        go_roundw
        case rel => exact ⟨k + 1, bl, bw, Bl, Bw, _, _, by omega, by go_num, rfl, rfl, HN.out.1, HN.out.2.1, HN.out.2.2.1, HN.out.2.2.2, H7.out⟩
        case measure => simp [intOf]; omega
      · have hfe2 : (fe == 0) = false := by rw [beq_eq_false_iff_ne]; exact hfe
        obtain ⟨bx, hbx⟩ : ∃ bx, bx = q.back.xs := ⟨_, rfl⟩
        have HBB : Hid (bx.length ≤ 8) := Lib.hid (by rw [hbx]; exact HBL.out)
        obtain ⟨bn, hbn⟩ : ∃ bn, bn = bx.length := ⟨_, rfl⟩
        obtain ⟨sd, hsd⟩ : ∃ sd, sd = q.said := ⟨_, rfl⟩
        rw [← hsd] at KPA KXA
        rw [← hbx, ← hbn] at KPA KXA KSM HBL
        have HBN : Hid (bn = q.back.xs.length) := Lib.hid (by rw [hbn, hbx])
        clear hsd hbx hbn hm hfe
        go_wp2_with (first
          | (with_reducible refine at_slot (k := some 38) ?_; refine wpList_load_arr (o := ⟨some 38, _, _, _, _, _⟩) H.out (k * 11) Q HRow.out hd hrow (by rw [hQl]; kernel_rfl) rfl rfl rfl ?_)
          | (with_reducible refine at_slot (k := none) ?_; refine wpList_store_whole (o := ⟨none, _, _, _, _, _⟩) (cs := ZCLT) (vs := Q) (H.out.alloc (.cells #[.string ⟨#[]⟩, .bool false, .bool false, .string ⟨#[]⟩, .string ⟨#[]⟩, .int .i64 0, .slice none 0 0, .int .i64 0, .int .i64 0, .int .i64 0, .int .i64 0] CLT)) hQz hQ1 hQi rfl rfl rfl rfl ?_; clear H; intro w7 h; have c3 := hQ3.out _ _ _ h; have H7 := Lib.hid h; clear h)
          | ((with_reducible refine (q.lent HI.out H7.out.f2).mono ?_); clear H7; rintro ev w8 ⟨g, rfl, h⟩; obtain ⟨⟨old, ho⟩, hfz, hs⟩ := h.f2.put1 6 (.slice (some ⟨g, 0, none⟩) q.xs.length (q.xs.length + 2)) HSZ.out; rw [HSET.out g] at hs; have H8 := Lib.hid hs; clear h hs)
          | (with_reducible refine at_slot (k := some 45) ?_; refine wpList_load_arr (o := ⟨some 45, _, _, _, _, _⟩) H8.out 0 (q.L g) (fun jj u hu => by simpa using hu) hd hrow (by rw [hLl g]; kernel_rfl) rfl rfl rfl ?_)
          | ((with_reducible refine (KPR.out g _ _ (HLA.out _ _) H8.out.f1).mono ?_); clear H8; rintro ev w9 ⟨rfl, h⟩; have H9 := Lib.hid (h.alloc (.cells #[.string r1, .string r2] ITT)); clear h)
          | (with_reducible refine at_slot (k := some 53) ?_; refine wpList_load_arr (o := ⟨some 53, _, _, _, _, _⟩) H9.out.f4 (k * 11) Q HRow.out hd hrow (by rw [hQl]; kernel_rfl) rfl rfl rfl ?_)
          | ((with_reducible refine (KXP.out _ _ H9.out.f3).mono ?_); clear H9; rintro ev w10 ⟨rfl, h⟩; have H10 := Lib.hid (h.alloc (.cells #[.string r1, .string r2] ITT)); clear h; have x3 : _ = some (Value.slice (some ⟨g, 0, none⟩) q.xs.length (q.xs.length + 2)) := (H10.out.f4.cell 6).trans rfl)
          | ((with_reducible refine (q.whole g HI.out H10.out.f1.f3).mono ?_); clear H10 x3; rintro ev w14 ⟨rfl, h⟩; have p0 := h.f2.cell 0; have p1 := h.f2.cell 1; have p2 := h.f3.cell 0; have p3 := h.f3.cell 1; simp only [List.getElem?_toArray, List.getElem?_cons_zero, List.getElem?_cons_succ] at p0 p1 p2 p3; have H5 : Hid (Own E _ (Hp.blk w9.heap.size ITT #[.string r1, .string r2] :: Hp.ro S :: Hp.blk gb CLT RB :: Hp.lst LST (.slice Al k cl) (ls.map Kl.v) :: fmK ls :: Hp.lst LST (.slice Aw k cw) (ws.map Kl.v) :: fmK ws :: L)) := Lib.hid h.drop.f1.drop.f2.drop.f1; clear h)
          | (with_reducible refine at_slot (k := some 74) ?_; refine wpList_load_arr (o := ⟨some 74, _, _, _, _, _⟩) H5.out 0 [.string r1, .string r2] (fun jj u hu => by simpa using hu) hdI hrowI (by kernel_rfl) rfl rfl rfl ?_)
          | ((with_reducible refine (KPA.out _ _ (HLD.out _) (HMD.out _) H5.out).mono ?_); clear H5; rintro ev w6 ⟨A1, c1, Y1, hY1, hl1, ho1, hi1, rfl, h⟩; have HY1 := Lib.hid hY1; clear hY1; have H6 := Lib.hid h; clear h)
          | (with_reducible refine at_slot (k := none) ?_; refine wpList_store_whole (o := ⟨none, _, _, _, _, _⟩) (cs := ZCLT) (vs := Y1) (H6.out.alloc (.cells #[.string ⟨#[]⟩, .bool false, .bool false, .string ⟨#[]⟩, .string ⟨#[]⟩, .int .i64 0, .slice none 0 0, .int .i64 0, .int .i64 0, .int .i64 0, .int .i64 0] CLT)) hl1 ho1 hi1 rfl rfl rfl rfl ?_; clear H6; intro w66 h; have H66 := Lib.hid h; clear h)
          | (with_reducible refine at_slot (k := some 79) ?_; refine wpList_load_arr (o := ⟨some 79, _, _, _, _, _⟩) H66.out.f2 0 [.string r1, .string r2] (fun jj u hu => by simpa using hu) hdI hrowI (by kernel_rfl) rfl rfl rfl ?_)
          | ((with_reducible refine (KXA.out _ _ H66.out).mono ?_); clear H66; rintro ev w7 ⟨A2, c2, Y2, hY2, hl2, ho2, hi2, rfl, h⟩; have HY2 := Lib.hid hY2; clear hY2; have H7 := Lib.hid h; clear h)
          | (with_reducible refine at_slot (k := none) ?_; refine wpList_store_whole (o := ⟨none, _, _, _, _, _⟩) (cs := ZCLT) (vs := Y2) (H7.out.alloc (.cells #[.string ⟨#[]⟩, .bool false, .bool false, .string ⟨#[]⟩, .string ⟨#[]⟩, .int .i64 0, .slice none 0 0, .int .i64 0, .int .i64 0, .int .i64 0, .int .i64 0] CLT)) hl2 ho2 hi2 rfl rfl rfl rfl ?_; clear H7; intro w77 h; have H8 : Hid (Own E w77 (Hp.blk w7.heap.size CLT Y2.toArray :: Hp.lst ST (.slice A2 bn c2) (bx.map Value.string) :: Hp.blk w6.heap.size CLT Y1.toArray :: Hp.lst ST (.slice A1 bn c1) (bx.map Value.string) :: Hp.blk w9.heap.size ITT #[.string r1, .string r2] :: Hp.ro S :: Hp.blk gb CLT RB :: Hp.lst LST (.slice Al k cl) (ls.map Kl.v) :: fmK ls :: Hp.lst LST (.slice Aw k cw) (ws.map Kl.v) :: fmK ws :: L)) := Lib.hid h; clear h)
          | (with_reducible refine at_slot (k := some 83) ?_; refine wpList_load_arr (o := ⟨some 83, _, _, _, _, _⟩) H8.out.f2 0 Y1 (fun jj u hu => by simpa using hu) hd hrow hi1 rfl rfl rfl ?_)
          | (with_reducible refine at_slot (k := some 84) ?_; refine wpList_load_arr (o := ⟨some 84, _, _, _, _, _⟩) H8.out 0 Y2 (fun jj u hu => by simpa using hu) hd hrow hi2 rfl rfl rfl ?_)
          | (
              (with_reducible refine (KSM.out A1 A2 c1 c2 Y1 Y2 _ _ HY1.out HY2.out (seen_lst (fun w h => h.f3)) (seen_lst (fun w h => h.f1)) H8.out).mono ?_)
              clear H8
              rintro ev w8 ⟨rfl, h⟩
              have H9 := Lib.hid h
              clear h
              have HC1 : Hid (∀ w M, Own E w (Hp.blk w6.heap.size CLT Y1.toArray :: M) → w.cell? ⟨w6.heap.size, 6, none⟩ = some (.slice A1 bn c1)) := Lib.hid fun w M h => by rw [h.cell 6, HY1.out, HBN.out]; rfl
              have HC2 : Hid (∀ w M, Own E w (Hp.blk w7.heap.size CLT Y2.toArray :: M) → w.cell? ⟨w7.heap.size, 6, none⟩ = some (.slice A2 bn c2)) := Lib.hid fun w M h => by rw [h.cell 6, HY2.out, HBN.out]; rfl
              have h9 := H9.out
              have y3 : _ = some (Value.slice A1 bn c1) := HC1.out _ _ h9.f2
              have hml : (ls.map Kl.v).length = k := by rw [List.length_map, HLL.out.1]
              have hmw : (ws.map Kl.v).length = k := by rw [List.length_map, HLL.out.2]
              obtain ⟨va, wa, hap1, h⟩ := lst_append_new (P := Tryz.prog) (t := LLST) (ty := LLST) llst_u sst_info (by rfl) h9.f7 #[.slice A1 bn c1] 1 rfl (by simp [Value.oneCell']) (by unfold maxLen; omega) (by omega)
              obtain ⟨Bl, bl, rfl, -⟩ := h.lstSlice
              have e9 : (ls.map Kl.v ++ (#[.slice A1 bn c1] : Array Value).toList).length = k + 1 := by rw [List.length_append, hml]; rfl
              rw [e9] at h hap1
              have z3 : _ = some (Value.slice A2 bn c2) := HC2.out _ _ h.f1
              have h := h.f5.drop.f1.drop
              obtain ⟨vb, wb, hap2, h⟩ := lst_append_new (P := Tryz.prog) (t := LLST) (ty := LLST) llst_u sst_info (by rfl) h.f7 #[.slice A2 bn c2] 1 rfl (by simp [Value.oneCell']) (by unfold maxLen; omega) (by omega)
              obtain ⟨Bw, bw, rfl, -⟩ := h.lstSlice
              have e8 : (ws.map Kl.v ++ (#[.slice A2 bn c2] : Array Value).toList).length = k + 1 := by rw [List.length_append, hmw]; rfl
              rw [e8] at h hap2
              have h1 : Own E wb (Hp.lst LST (.slice Bw (k + 1) bw) (ws.map Kl.v ++ [.slice A2 bn c2]) :: Hp.lst LST (.slice Bl (k + 1) bl) (ls.map Kl.v ++ [.slice A1 bn c1]) :: Hp.lst ST (.slice A2 bn c2) (bx.map Value.string) :: Hp.lst ST (.slice A1 bn c1) (bx.map Value.string) :: Hp.ro S :: Hp.blk gb CLT RB :: fmK ls :: fmK ws :: L) := h.f3.drop
              have h2 := Own.pushK (r := ⟨.slice A1 bn c1, bx⟩) (h1.ac (by simp only [Hp.all] <;> ac_rfl) : Own E wb (Hp.lst ST (.slice A1 bn c1) (bx.map Value.string) :: fmK ls :: Hp.lst LST (.slice Bw (k + 1) bw) (ws.map Kl.v ++ [.slice A2 bn c2]) :: Hp.lst LST (.slice Bl (k + 1) bl) (ls.map Kl.v ++ [.slice A1 bn c1]) :: Hp.lst ST (.slice A2 bn c2) (bx.map Value.string) :: Hp.ro S :: Hp.blk gb CLT RB :: fmK ws :: L))
              have h3 := Own.pushK (r := ⟨.slice A2 bn c2, bx⟩) (h2.ac (by simp only [Hp.all] <;> ac_rfl) : Own E wb (Hp.lst ST (.slice A2 bn c2) (bx.map Value.string) :: fmK ws :: fmK (ls ++ [(⟨.slice A1 bn c1, bx⟩ : Kl)]) :: Hp.lst LST (.slice Bw (k + 1) bw) (ws.map Kl.v ++ [.slice A2 bn c2]) :: Hp.lst LST (.slice Bl (k + 1) bl) (ls.map Kl.v ++ [.slice A1 bn c1]) :: Hp.ro S :: Hp.blk gb CLT RB :: L))
              have h4 : Own E wb (Hp.lst LST (.slice Bl (k + 1) bl) (ls.map Kl.v ++ [.slice A1 bn c1]) :: fmK (ls ++ [(⟨.slice A1 bn c1, bx⟩ : Kl)]) :: Hp.lst LST (.slice Bw (k + 1) bw) (ws.map Kl.v ++ [.slice A2 bn c2]) :: fmK (ws ++ [(⟨.slice A2 bn c2, bx⟩ : Kl)]) :: Hp.ro S :: Hp.blk gb CLT RB :: L) := h3.ac (by simp only [Hp.all] <;> ac_rfl)
              have H7 : Hid (Own E wb (Hp.lst LST (.slice Bl (k + 1) bl) ((ls ++ [(⟨.slice A1 bn c1, bx⟩ : Kl)]).map Kl.v) :: fmK (ls ++ [(⟨.slice A1 bn c1, bx⟩ : Kl)]) :: Hp.lst LST (.slice Bw (k + 1) bw) ((ws ++ [(⟨.slice A2 bn c2, bx⟩ : Kl)]).map Kl.v) :: fmK (ws ++ [(⟨.slice A2 bn c2, bx⟩ : Kl)]) :: Hp.ro S :: Hp.blk gb CLT RB :: L)) := Lib.hid (by
                rw [List.map_append, List.map_append]
                exact h4)
              have HN : Hid ((ls ++ [(⟨.slice A1 bn c1, bx⟩ : Kl)]).length = k + 1 ∧ (ws ++ [(⟨.slice A2 bn c2, bx⟩ : Kl)]).length = k + 1 ∧ (ws ++ [(⟨.slice A2 bn c2, bx⟩ : Kl)]).map Kl.xs = (ls ++ [(⟨.slice A1 bn c1, bx⟩ : Kl)]).map Kl.xs ∧ ∀ r ∈ ls ++ [(⟨.slice A1 bn c1, bx⟩ : Kl)], r.xs.length ≤ 8) := Lib.hid ⟨by rw [List.length_append, HLL.out.1]; rfl, by rw [List.length_append, HLL.out.2]; rfl, by rw [List.map_append, List.map_append, HXS.out]; rfl, fun r hr => by
                rcases List.mem_append.1 hr with hr | hr
                · exact HL8.out r hr
                · have hr2 := List.mem_singleton.1 hr
                  rw [hr2]
                  exact HBB.out⟩
              repeat clear h
              clear h9 e9 e8 hml hmw H9)
          | (with_reducible refine at_slot (k := some 111) ?_; refine wpList_append_run (o := ⟨some 111, _, _, _, _, _⟩) hap1 rfl rfl rfl rfl ?_; clear hap1)
          | (with_reducible refine at_slot (k := some 116) ?_; refine wpList_append_run (o := ⟨some 116, _, _, _, _, _⟩) hap2 rfl rfl rfl rfl ?_; clear hap2))
        go_roundw
        case rel => exact ⟨k + 1, bl, bw, Bl, Bw, _, _, by omega, by go_num, rfl, rfl, HN.out.1, HN.out.2.1, HN.out.2.2.1, HN.out.2.2.2, H7.out⟩
        case measure => simp [intOf]; omega
    · obtain rfl : k = 3 := by omega
      have KF := apart_any Al Aw 3 cl cw ls ws _ hll hwl (by omega) (fun r hr => by have := HL8.out r hr; omega) HXS.out hw
      have KF := Lib.hid KF
      clear hw hll hwl
      go_wp2_with (with_reducible refine KF.out.mono ?_; clear KF; rintro e w5 ⟨rfl, h⟩; have HW := Lib.hid h.f1.drop; clear h)
      go_ret
      exact ⟨rfl, HW.out⟩
end
end Go.Proofs.YtabibfabieghpaaGreatDoor
