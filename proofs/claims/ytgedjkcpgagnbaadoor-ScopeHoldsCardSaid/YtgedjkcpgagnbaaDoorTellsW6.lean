/- latchkeylaw06.ScopeTells. -/
import Derived.Test.YtgedjkcpgagnbaaDoorTells6
namespace Go.Proofs.YtgedjkcpgagnbaaDoor
open Go.RowKit
/-- A list that is written over by another one, as far as that goes. -/
def ovr {α : Type} (a b : List α) : List α := b.take a.length ++ a.drop b.length
theorem ovr_len {α : Type} (a b : List α) : (ovr a b).length = a.length := by
  unfold ovr
  rw [List.length_append, List.length_take, List.length_drop]; omega
theorem ovr_mem {α : Type} {a b : List α} {x : α} (h : x ∈ ovr a b) : x ∈ a ∨ x ∈ b := by
  unfold ovr at h
  rcases List.mem_append.1 h with h | h
  · exact .inr (List.mem_of_mem_take h)
  · exact .inl (List.mem_of_mem_drop h)
theorem RdC.take {w : World} {A : Option Addr} {l : List Value} (h : RdC w A l) (k : Nat) : RdC w A (l.take k) := fun hne => by
  obtain ⟨ad, e, hc⟩ := h (by rintro rfl; exact hne (by simp))
  refine ⟨ad, e, fun j u hu => hc j u ?_⟩
  rw [List.getElem?_take] at hu
  split at hu
  · exact hu
  · cases hu
theorem splice_over {α : Type} (f : α → Value) (a b : List α) (R : List Value) : splice (a.map f ++ R) 0 ((b.take a.length).map f) = (ovr a b).map f ++ R := by
  unfold splice ovr
  have e1 : 0 + ((b.take a.length).map f).length ≤ (a.map f).length := by simp; omega
  rw [List.drop_append_of_le_length e1]
  have e2 : (a.map f).drop (0 + ((b.take a.length).map f).length) = (a.drop b.length).map f := by
    rw [← List.map_drop]
    congr 1
    by_cases hle : a.length ≤ b.length
    · rw [List.drop_eq_nil_of_le hle, List.drop_eq_nil_of_le]
      simp; omega
    · congr 1
      simp; omega
  rw [e2]
  simp
section
variable {E : World} {S : Ph} {L : List Hp}
set_option maxRecDepth 100000 in
set_option maxHeartbeats 4000000 in
theorem told6_any (A B : Option Addr) (n c d : Nat) (xs : List ByteArray) (w : World) (hA : Rds S 1 enStr A n xs) (hB : Rds S 1 enStr B n xs) (hc : n ≤ c) (hn : n ≤ 8796093022208) (hsz : ∀ x ∈ xs, x.size ≤ 1000000000000000000) (h : Own E w (Hp.ro S :: L)) :
    Calls Tryd.prog 16 #[.slice A n c, .slice B n d] w fun e w' => e = .returned (.bool true) ∧ Own E w' (Hp.ro S :: L) := by
  have K1 := Lib.hid (fun w h => print_any (E := E) (L := L) A n c xs w hA hc hn h)
  have K2 := Lib.hid (fun w h => xprint_any (E := E) (L := L) B n d xs w hB hsz hn h)
  have K3 := Lib.hid (fun w h => right_any (E := E) (L := L) A n c xs w hA hc hn h)
  have K4 := Lib.hid (fun w h => xright_any (E := E) (L := L) B n d xs w hB hsz hn h)
  have H := Lib.hid h
  clear h hA hB hsz hn hc
  have e1 : ((scTxt xs).toList == (scTxt xs).toList) = true := beq_self_eq_true _
  have e2 : (scErr xs == scErr xs) = true := beq_self_eq_true _
  have e3 : (decide (scErr xs = 0) == decide (scErr xs = 0)) = true := beq_self_eq_true _
  generalize decide (scErr xs = 0) = rb at *
  generalize scTxt xs = tx at *
  generalize scErr xs = er at *
  go_enter Tryd.func16, Tryd.ntmps16
  go_wp2_with (first
    | (with_reducible refine (K1.out _ H.out).mono ?_; clear K1 H; rintro e w1 ⟨rfl, h⟩; have H1 := Lib.hid h; clear h)
    | (with_reducible refine (K2.out _ H1.out).mono ?_; clear K2 H1; rintro e w2 ⟨rfl, h⟩; have H2 := Lib.hid h; clear h)
    | (with_reducible refine (K3.out _ H2.out).mono ?_; clear K3 H2; rintro e w3 ⟨rfl, h⟩; have H3 := Lib.hid h; clear h)
    | (with_reducible refine (K4.out _ H3.out).mono ?_; clear K4 H3; rintro e w4 ⟨rfl, h⟩; have H4 := Lib.hid h; clear h))
  go_ret
  exact ⟨rfl, H4.out⟩
set_option maxRecDepth 100000 in
set_option maxHeartbeats 8000000 in
theorem tells_any (A B : Option Addr) (n c m d : Nat) (xs ys : List ByteArray) (w : World) (hn : n ≤ 1000000000000000000) (hm : m ≤ 1000000000000000000) (hsx : ∀ x ∈ xs, x.size ≤ 1000000000000000000) (hsy : ∀ x ∈ ys, x.size ≤ 1000000000000000000)
    (hA : Rds S 1 enStr A n xs) (hB : Rds S 1 enStr B m ys) (hM : Max0 E (Hp.ro S :: L)) (h : Own E w (Hp.ro S :: L)) :
    Calls Tryd.prog 4 #[.slice A n c, .slice B m d] w fun e w' => e = .returned (.bool true) ∧ Own E w' (Hp.ro S :: L) := by
  go_enter Tryd.func4, Tryd.ntmps4
  go_wp2_with fail
  refine (weighs_any A n c xs _ hn hsx hA h).mono ?_
  rintro e w0 ⟨⟨y, hy1, hy2, rfl⟩, h⟩
  have HY := Lib.hid hy2
  clear hy2
  go_wp2_with fail
  refine (weighs_any B m d ys _ hm hsy hB h).mono ?_
  rintro e w1 ⟨⟨y2, hy3, hy4, rfl⟩, h⟩
  have HY2 := Lib.hid hy4
  clear hy4
  go_wp2_with fail
  refine (addsup_any y y2 _ (by omega) (by omega)).mono ?_
  rintro e w2 ⟨rfl, z, hz1, hz2, rfl⟩
  by_cases hb : 2147483647 < z
  · have hbi : (2147483647 : Int) < z := by omega
    have H := Lib.hid h
    clear h hA hB hsx hsy
    go_wp2_with fail
    go_ret
    exact ⟨rfl, H.out⟩
  have hbi : ¬ (2147483647 : Int) < z := by omega
  have hle := hz2 (by omega)
  have hle2 := HY.out (by omega)
  have hle3 := HY2.out (by omega)
  have hn32 : n ≤ 4294967296 := by omega
  have hm32 : m ≤ 4294967296 := by omega
  have KA := Lib.hid (awake_any w1 hM h)
  have KL := Lib.hid (fun w h => lent_any (E := E) (L := L) A n c xs w hn32 hA h)
  have hlx := hA.1
  have hly := hB.1
  have hsl : ∀ (g : Nat) (w : World), (Instr.sliceAt LST (.slice (some ⟨g, 0, none⟩) (n + 4) (n + 4)) none (some (.int .i64 (n : Int))) none).run Tryd.prog w = .ok (.slice (some ⟨g, 0, none⟩) n (n + 4)) w := fun g w => run_slice_high (size := 1) lst_u (by kernel_rfl) (by omega)
  have KT : Hid (∀ g w, Own E w (Hp.blk g ST (lentS xs).toArray :: Hp.ro S :: L) → Calls Tryd.prog 16 #[.slice (some ⟨g, 0, none⟩) n (n + 4), .slice A n c] w fun e w' => e = .returned (.bool true) ∧ Own E w' (Hp.blk g ST (lentS xs).toArray :: Hp.ro S :: L)) := Lib.hid fun g w h => by
    obtain ⟨T, he, r1, -, h1, hback⟩ := lentT h
    rw [hlx] at r1
    refine (told6_any (some ⟨g, 0, none⟩) A n (n + 4) c xs w r1 (hA.sub he) (by omega) (by omega) hsx h1).mono ?_
    rintro e w' ⟨rfl, h⟩
    exact ⟨rfl, hback _ h⟩
  have KW := Lib.hid (fun g w h => whole_any (E := E) (L := L) g A n c xs w hn32 hA h)
  have KC : Hid (∀ g w, Own E w (Hp.blk g ST (lentS xs).toArray :: Hp.ro S :: L) → ∃ (q : Nat) (w' : World), (Builtin.copy_ #[LST, LST] INT #[.slice (some ⟨g, 0, none⟩) n (n + 4), .slice B m d]).run Tryd.prog w = .ok (.int .i64 q) w' ∧ Own E w' (Hp.blk g ST (lentS (ovr xs ys)).toArray :: Hp.ro S :: L)) := Lib.hid fun g w h => by
    have hrd : RdC w B ((ys.map Value.string).take n) := (hB.rdC h.f1).take n
    obtain ⟨w2, hcp, h2⟩ := sl_copy (P := Tryd.prog) (dT := LST) (sT := LST) (ty := INT) (elem := ST) lst_u (by kernel_rfl) (off := 0) h (some ⟨g, 0, none⟩) B n (n + 4) m d ((ys.map Value.string).take n) (by rw [List.length_take, List.length_map, hly, Nat.min_comm]) (fun _ => rfl) hrd (by rw [List.length_take]; simp [lentS]; omega) (fun v hv => str_one ys v (List.mem_of_mem_take hv))
    have e1 : splice (lentS xs) 0 ((ys.map Value.string).take n) = lentS (ovr xs ys) := by
      rw [← hlx, ← List.map_take]
      exact splice_over Value.string xs ys _
    rw [e1] at h2
    exact ⟨_, w2, hcp, h2⟩
  have KP : Hid (∀ g w, Own E w (Hp.blk g ST (lentS (ovr xs ys)).toArray :: Hp.ro S :: L) → ∃ (A' : Option Addr) (c' : Nat) (w' : World), (Builtin.append_ #[LST, LST] LST #[.slice none 0 0, .slice (some ⟨g, 0, none⟩) n (n + 4)]).run Tryd.prog w = .ok (.slice A' n c') w' ∧ n ≤ c' ∧ Own E w' (Hp.lst ST (.slice A' n c') ((ovr xs ys).map Value.string) :: Hp.blk g ST (lentS (ovr xs ys)).toArray :: Hp.ro S :: L)) := Lib.hid fun g w h => by
    have hol : (ovr xs ys).length = n := by rw [ovr_len, hlx]
    have hrd : RdC w (some ⟨g, 0, none⟩) ((ovr xs ys).map Value.string) := h.rdc 0 _ (fun j u hu => by
      have hj : j < ((ovr xs ys).map Value.string).length := (List.getElem?_eq_some_iff.1 hu).1
      rw [Nat.zero_add, List.getElem?_toArray]
      unfold lentS
      rw [List.getElem?_append_left hj]
      exact hu)
    obtain ⟨v', w4, hap, h4⟩ := lst_append (P := Tryd.prog) (t := LST) (ty := LST) lst_u st_info rfl (h.emptyLst ST none) (some ⟨g, 0, none⟩) n (n + 4) ((ovr xs ys).map Value.string) (by rw [List.length_map, hol]) hrd (str_one _) (by unfold maxLen; simp; omega) (by simp; omega)
    rw [List.nil_append] at h4
    obtain ⟨A', c', rfl, hc'⟩ := lst_len h4
    rw [hol] at hap h4 hc'
    exact ⟨A', c', w4, hap, hc', h4⟩
  have KU : Hid (∀ A' c' g w, n ≤ c' → Own E w (Hp.lst ST (.slice A' n c') ((ovr xs ys).map Value.string) :: Hp.blk g ST (lentS (ovr xs ys)).toArray :: Hp.ro S :: L) → Calls Tryd.prog 16 #[.slice (some ⟨g, 0, none⟩) n (n + 4), .slice A' n c'] w fun e w' => e = .returned (.bool true) ∧ Own E w' (Hp.ro S :: L)) := Lib.hid fun A' c' g w hc' h => by
    have hol : (ovr xs ys).length = n := by rw [ovr_len, hlx]
    obtain ⟨a, ha, h1⟩ := h.opened
    have r2 := (lst_rds ha).1
    obtain ⟨T, he, r1, -, h2, -⟩ := lentT (L := Hp.ro a :: L) h1.b2
    obtain ⟨h3, hd⟩ := h2.f1.merge
    have e1 : Ext a (Ph.join a T) := fun k o hk => Ph.join_some hk
    have e2 : Ext T (Ph.join a T) := fun k o hk => by rw [Ph.join_comm hd]; exact Ph.join_some hk
    rw [hol] at r1
    refine (told6_any (some ⟨g, 0, none⟩) A' n (n + 4) c' (ovr xs ys) w (r1.sub e2) (r2.sub e1) (by omega) (by omega) (fun x hx => (ovr_mem hx).elim (hsx x) (hsy x)) h3).mono ?_
    rintro e w' ⟨rfl, h⟩
    exact ⟨rfl, h.shrink (he.trans e2)⟩
  clear h hA hB hsx hsy hz1 hz2 hle hle2 hle3 hb hM HY HY2 hy1 hy3 hn hm hn32 hm32 hlx hly
  go_wp2_with (first
    | (with_reducible refine KA.out.mono ?_; clear KA; rintro e w2 ⟨rfl, h⟩; have H0 := Lib.hid h; clear h)
    | (with_reducible refine (KL.out _ H0.out).mono ?_; clear KL H0; rintro e w3 ⟨g, rfl, h⟩; have H1 := Lib.hid h; clear h)
    | (with_reducible refine (KT.out _ _ H1.out).mono ?_; clear KT H1; rintro e w4 ⟨rfl, h⟩; have H2 := Lib.hid h; clear h)
    | (with_reducible refine (KW.out _ _ H2.out).mono ?_; clear KW H2; rintro e w5 ⟨rfl, h⟩; obtain ⟨q, w6, hcp, h3⟩ := KC.out _ _ h; obtain ⟨A7, c7, w7, hap, hc7, h4⟩ := KP.out _ _ h3; have H4 := Lib.hid h4; have HC7 := Lib.hid hc7; clear h h3 h4 hc7)
    | (with_reducible refine at_slot (k := some 33) ?_; refine wpList_copy_run (o := ⟨some 33, _, _, _, _, _⟩) hcp rfl rfl rfl rfl ?_; clear hcp)
    | (with_reducible refine at_slot (k := some 36) ?_; refine wpList_append_run (o := ⟨some 36, _, _, _, _, _⟩) hap rfl rfl rfl rfl ?_; clear hap)
    | (with_reducible refine (KU.out _ _ _ _ HC7.out H4.out).mono ?_; clear KU H4; rintro e w8 ⟨rfl, h⟩; have H5 := Lib.hid h; clear h))
  go_ret
  exact ⟨rfl, H5.out⟩
end
end Go.Proofs.YtgedjkcpgagnbaaDoor
