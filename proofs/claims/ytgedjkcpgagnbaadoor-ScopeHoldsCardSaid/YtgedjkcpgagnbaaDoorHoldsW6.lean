/- latchkeylaw06.ScopeHolds. -/
import Derived.Test.YtgedjkcpgagnbaaDoorHeld6
namespace Go.Proofs.YtgedjkcpgagnbaaDoor
open Go.RowKit
section
variable {E : World} {S : Ph} {L : List Hp}
/-- lentT, whatever lies beside. -/
theorem lentU {w : World} {g : Nat} {l : List ByteArray} {M : List Hp} (h : Own E w (Hp.blk g ST (lentS l).toArray :: Hp.ro S :: M)) : ∃ T, Ext S T ∧ Rds T 1 enStr (some ⟨g, 0, none⟩) l.length l ∧ Own E w (Hp.ro T :: M) ∧
    (∀ (N : List Hp) w', Own E w' (Hp.ro T :: N) → Own E w' (Hp.blk g ST (lentS l).toArray :: Hp.ro S :: N)) := by
  have h1 : Own E w (Hp.ro (Ph.one g (.cells (lentS l).toArray ST (0, 0))) :: Hp.ro S :: M) := h
  obtain ⟨hm, hd⟩ := h1.merge
  exact ⟨Ph.join (Ph.one g (.cells (lentS l).toArray ST (0, 0))) S, fun k o hk => by rw [Ph.join_comm hd]; exact Ph.join_some hk, (one_rds g l _).sub fun k o hk => Ph.join_some hk, hm, fun N w' hw => hw.part hd⟩
/-- The book. -/
abbrev bookP (K : Option Addr) (n ck : Nat) (rs : List Kl) (M : List Hp) : List Hp := Hp.lst LST (.slice K n ck) (rs.map Kl.v) :: famK rs :: M
theorem held2_any (K C D : Option Addr) (g g2 ck cc cd n m q : Nat) (rs : List Kl) (xs ys : List ByteArray) (w : World) (hq : rs.length = q) (hrs : q ≤ 90) (hn : n = xs.length) (hm : m = ys.length) (hC : Rds S 1 enStr C n xs) (hD : Rds S 1 enStr D m ys)
    (hn2 : n ≤ 8796093022208) (hm2 : m ≤ 8796093022208) (hsx : ∀ x ∈ xs, x.size ≤ 1000000000000000000) (hsy : ∀ x ∈ ys, x.size ≤ 1000000000000000000) {M : List Hp}
    (h : Own E w (Hp.blk g ST (lentS xs).toArray :: Hp.ro S :: Hp.blk g2 ST (lentS ys).toArray :: bookP K q ck rs M)) :
    Calls Tryd.prog 18 #[.slice K q ck, .slice (some ⟨g, 0, none⟩) n (n + 4), .slice (some ⟨g2, 0, none⟩) m (m + 4), .slice C n cc, .slice D m cd] w fun e w' => ∃ (K' : Option Addr) (ck' : Nat) (ts : List Kl), ts.length = 3 ∧ (∀ r ∈ ts, r.xs.length ≤ 8) ∧ e = .returned (.tuple #[.slice K' (q + 3) ck', .bool true]) ∧
      Own E w' (Hp.blk g ST (lentS xs).toArray :: Hp.ro S :: Hp.blk g2 ST (lentS ys).toArray :: bookP K' (q + 3) ck' (rs ++ ts) M) := by
  subst hq hn hm
  obtain ⟨T, he, r1, h1, b1⟩ := lentU h
  obtain ⟨T2, he2, r2, h2, b2⟩ := lentU h1.f1
  refine (held_any K _ _ C D ck _ _ cc cd rs xs ys w (by omega) (r1.sub he2) r2 ((hC.sub he).sub he2) ((hD.sub he).sub he2) (by omega) (by omega) hn2 hm2 hsx hsy h2.f2.f2).mono ?_
  rintro e w' ⟨K', ck', k1, k2, k3, ⟨l1, l2, l3⟩, rfl, h3⟩
  refine ⟨K', ck', [k1, k2, k3], rfl, ?_, rfl, b1 _ _ (b2 _ _ h3.f2).f1⟩
  intro r hr
  simp only [List.mem_cons, List.not_mem_nil, or_false] at hr
  rcases hr with rfl | rfl | rfl <;> assumption
theorem holds_start {w : World} {X Y Z : Hp} {M : List Hp} (h : Own E w (X :: Y :: Z :: M)) : Own E w (Z :: Y :: X :: bookP none 0 0 [] M) := by
  have h2 : Own E w (Hp.lst LST (.slice none 0 0) [] :: famK [] :: X :: Y :: Z :: M) := Own.emptyLst (Own.nilK h) LST none
  show Own E w (Z :: Y :: X :: Hp.lst LST (.slice none 0 0) [] :: famK [] :: M)
  exact h2.ac (by simp only [Hp.all] <;> ac_rfl)
theorem holds_turn {w : World} {X Y Z : Hp} {M : List Hp} (h : Own E w (X :: Y :: Z :: M)) : Own E w (Z :: Y :: X :: M) := h.ac (by simp only [Hp.all] <;> ac_rfl)
set_option maxRecDepth 100000 in
set_option maxHeartbeats 16000000 in
theorem holds_any (A B O : Option Addr) (n c m d p o : Nat) (xs ys os : List ByteArray) (w : World) (hn : n ≤ 1000000000000000000) (hm : m ≤ 1000000000000000000) (hp : p ≤ 1000000000000000000) (hsx : ∀ x ∈ xs, x.size ≤ 1000000000000000000) (hsy : ∀ x ∈ ys, x.size ≤ 1000000000000000000) (hso : ∀ x ∈ os, x.size ≤ 1000000000000000000)
    (hA : Rds S 1 enStr A n xs) (hB : Rds S 1 enStr B m ys) (hO : Rds S 1 enStr O p os) (hM : Max0 E (Hp.ro S :: L)) (h : Own E w (Hp.ro S :: L)) :
    Calls Tryd.prog 5 #[.slice A n c, .slice B m d, .slice O p o] w fun e w' => e = .returned (.bool true) ∧ Own E w' (Hp.ro S :: L) := by
  go_enter Tryd.func5, Tryd.ntmps5
  go_wp2_with fail
  refine (weighs_any A n c xs _ hn hsx hA h).mono ?_
  rintro e w0 ⟨⟨y, hy1, hy2, rfl⟩, h⟩
  have HY := Lib.hid hy2
  clear hy2
  go_wp2_with fail
  refine (weighs_any B m d ys _ hm hsy hB h).mono ?_
  rintro e w1 ⟨⟨y2, hy3, hy4, rfl⟩, h⟩
  have HY2 := Lib.hid hy4
  clear hy4
  go_wp2_with fail
  refine (addsup_any y y2 _ (by omega) (by omega)).mono ?_
  rintro e w2 ⟨rfl, z, hz1, hz2, rfl⟩
  have HZ := Lib.hid hz2
  clear hz2
  go_wp2_with fail
  refine (weighs_any O p o os _ hp hso hO h).mono ?_
  rintro e w3 ⟨⟨y3, hy5, hy6, rfl⟩, h⟩
  have HY3 := Lib.hid hy6
  clear hy6
  go_wp2_with fail
  refine (addsup_any z y3 _ (by omega) (by omega)).mono ?_
  rintro e w4 ⟨rfl, z2, hz3, hz4, rfl⟩
  by_cases hb : 2147483647 < z2
  · have hbi : (2147483647 : Int) < z2 := by omega
    have H := Lib.hid h
    clear h hA hB hO hsx hsy hso
    go_wp2_with fail
    go_ret
    exact ⟨rfl, H.out⟩
  have hbi : ¬ (2147483647 : Int) < z2 := by omega
  have hle := hz4 (by omega)
  have hle1 := HZ.out (by omega)
  have hle2 := HY.out (by omega)
  have hle3 := HY2.out (by omega)
  have hle4 := HY3.out (by omega)
  have hn32 : n ≤ 4294967296 := by omega
  have hm32 : m ≤ 4294967296 := by omega
  have hp32 : p ≤ 4294967296 := by omega
  have hlx : n = xs.length := hA.1.symm
  have hly : m = ys.length := hB.1.symm
  have hlo : p = os.length := hO.1.symm
  have KA := Lib.hid (awake_any w3 hM h)
  have KL1 := Lib.hid (fun w h => lent_any (E := E) (L := L) A n c xs w hn32 hA h)
  have KL2 := Lib.hid (fun w g h => lent_any (E := E) (L := Hp.blk g ST (lentS xs).toArray :: L) B m d ys w hm32 hB h)
  have hsl : ∀ (g : Nat) (w : World), (Instr.sliceAt LST (.slice (some ⟨g, 0, none⟩) (n + 4) (n + 4)) none (some (.int .i64 (n : Int))) none).run Tryd.prog w = .ok (.slice (some ⟨g, 0, none⟩) n (n + 4)) w := fun g w => run_slice_high (size := 1) lst_u (by kernel_rfl) (by omega)
  have hsl2 : ∀ (g : Nat) (w : World), (Instr.sliceAt LST (.slice (some ⟨g, 0, none⟩) (m + 4) (m + 4)) none (some (.int .i64 (m : Int))) none).run Tryd.prog w = .ok (.slice (some ⟨g, 0, none⟩) m (m + 4)) w := fun g w => run_slice_high (size := 1) lst_u (by kernel_rfl) (by omega)
  have KH1 := Lib.hid (fun g g2 K ck q rs hq hrs w (M : List Hp) h => held2_any (E := E) K A B g g2 ck c d n m q rs xs ys w hq hrs hlx hly hA hB (by omega) (by omega) hsx hsy (M := M) h)
  have KH2 := Lib.hid (fun g g2 K ck q rs hq hrs w (M : List Hp) h => held2_any (E := E) K B A g2 g ck d c m n q rs ys xs w hq hrs hly hlx hB hA (by omega) (by omega) hsy hsx (M := M) h)
  have KW1 := Lib.hid (fun g w (M : List Hp) h => whole_any (E := E) (L := M) g A n c xs w hn32 hA h)
  have KW2 := Lib.hid (fun g w (M : List Hp) h => whole_any (E := E) (L := M) g B m d ys w hm32 hB h)
  have KC : Hid (∀ g w M, Own E w (Hp.blk g ST (lentS xs).toArray :: Hp.ro S :: M) → ∃ (q : Nat) (w' : World), (Builtin.copy_ #[LST, LST] INT #[.slice (some ⟨g, 0, none⟩) n (n + 4), .slice O p o]).run Tryd.prog w = .ok (.int .i64 q) w' ∧ Own E w' (Hp.blk g ST (lentS (ovr xs os)).toArray :: Hp.ro S :: M)) := Lib.hid fun g w M h => by
    have hrd : RdC w O ((os.map Value.string).take n) := (hO.rdC h.f1).take n
    obtain ⟨w2, hcp, h2⟩ := sl_copy (P := Tryd.prog) (dT := LST) (sT := LST) (ty := INT) (elem := ST) lst_u (by kernel_rfl) (off := 0) h (some ⟨g, 0, none⟩) O n (n + 4) p o ((os.map Value.string).take n) (by rw [List.length_take, List.length_map, hlo, Nat.min_comm]) (fun _ => rfl) hrd (by rw [List.length_take]; simp [lentS]; omega) (fun v hv => str_one os v (List.mem_of_mem_take hv))
    have e1 : splice (lentS xs) 0 ((os.map Value.string).take n) = lentS (ovr xs os) := by
      rw [hlx, ← List.map_take]
      exact splice_over Value.string xs os _
    rw [e1] at h2
    exact ⟨_, w2, hcp, h2⟩
  have KP : Hid (∀ g w M, Own E w (Hp.blk g ST (lentS (ovr xs os)).toArray :: Hp.ro S :: M) → ∃ (A' : Option Addr) (c' : Nat) (w' : World), (Builtin.append_ #[LST, LST] LST #[.slice none 0 0, .slice (some ⟨g, 0, none⟩) n (n + 4)]).run Tryd.prog w = .ok (.slice A' n c') w' ∧ Own E w' (Hp.lst ST (.slice A' n c') ((ovr xs os).map Value.string) :: Hp.blk g ST (lentS (ovr xs os)).toArray :: Hp.ro S :: M)) := Lib.hid fun g w M h => by
    have hol : (ovr xs os).length = n := by rw [ovr_len, hlx]
    have hrd : RdC w (some ⟨g, 0, none⟩) ((ovr xs os).map Value.string) := h.rdc 0 _ (fun j u hu => by
      have hj : j < ((ovr xs os).map Value.string).length := (List.getElem?_eq_some_iff.1 hu).1
      rw [Nat.zero_add, List.getElem?_toArray]
      unfold lentS
      rw [List.getElem?_append_left hj]
      exact hu)
    obtain ⟨v', w4, hap, h4⟩ := lst_append (P := Tryd.prog) (t := LST) (ty := LST) lst_u st_info rfl (h.emptyLst ST none) (some ⟨g, 0, none⟩) n (n + 4) ((ovr xs os).map Value.string) (by rw [List.length_map, hol]) hrd (str_one _) (by unfold maxLen; simp; omega) (by simp; omega)
    rw [List.nil_append] at h4
    obtain ⟨A', c', rfl, hc'⟩ := lst_len h4
    rw [hol] at hap h4 hc'
    exact ⟨A', c', w4, hap, h4⟩
  have KH4 : Hid (∀ (g g2 : Nat) (K : Option Addr) (ck q : Nat) (rs : List Kl) (A' : Option Addr) (c' : Nat), rs.length = q → q ≤ 90 → ∀ w M, Own E w (Hp.lst ST (.slice A' n c') ((ovr xs os).map Value.string) :: Hp.blk g ST (lentS (ovr xs os)).toArray :: Hp.ro S :: Hp.blk g2 ST (lentS ys).toArray :: bookP K q ck rs M) →
      Calls Tryd.prog 18 #[.slice K q ck, .slice (some ⟨g, 0, none⟩) n (n + 4), .slice (some ⟨g2, 0, none⟩) m (m + 4), .slice A' n c', .slice B m d] w fun e w' => ∃ (K' : Option Addr) (ck' : Nat) (ts : List Kl), ts.length = 3 ∧ (∀ r ∈ ts, r.xs.length ≤ 8) ∧ e = .returned (.tuple #[.slice K' (q + 3) ck', .bool true]) ∧ Own E w' (bookP K' (q + 3) ck' (rs ++ ts) (Hp.ro S :: M))) := Lib.hid fun g g2 K ck q rs A' c' hq hrs w M h => by
    have hol : n = (ovr xs os).length := by rw [ovr_len, hlx]
    obtain ⟨a, ha, hd, h1⟩ := (h.f2.f1 : Own E w (Hp.lst ST (.slice A' n c') ((ovr xs os).map Value.string) :: Hp.ro S :: Hp.blk g ST (lentS (ovr xs os)).toArray :: Hp.blk g2 ST (lentS ys).toArray :: bookP K q ck rs M)).lend6
    have r2 : Rds (Ph.join a S) 1 enStr A' n (ovr xs os) := (lst_rds ha).1.sub joinL6
    refine (held2_any (E := E) K A' B g g2 ck c' d n m q rs (ovr xs os) ys w hq hrs hol hly r2 (hB.sub (joinR6 hd)) (by omega) (by omega) (fun x hx => (ovr_mem hx).elim (hsx x) (hso x)) hsy (M := M) h1.f1).mono ?_
    rintro e w' ⟨K', ck', ts, h3, h4, rfl, h5⟩
    refine ⟨K', ck', ts, h3, h4, rfl, ?_⟩
    have h6 := h5.drop.f1.drop.shrink (joinR6 hd)
    exact h6.f2.f2
  clear hA hB hO hsx hsy hso hz1 hz3 hz4 hle hle1 hle2 hle3 hle4 hb hM HY HY2 HY3 HZ hy1 hy3 hy5 hn hm hp hn32 hm32 hp32 hlx hly hlo h
  go_wp2_with (first
    | (with_reducible refine KA.out.mono ?_; clear KA; rintro e w4 ⟨rfl, h⟩; have H0 := Lib.hid h; clear h)
    | (with_reducible refine (KL1.out _ H0.out).mono ?_; clear KL1 H0; rintro e w5 ⟨g, rfl, h⟩; have H1 := Lib.hid h.f1; clear h)
    | (with_reducible refine (KL2.out _ g H1.out).mono ?_; clear KL2 H1; rintro e w6 ⟨g2, rfl, h⟩; have H2 : Hid (Own E w6 (Hp.blk g ST (lentS xs).toArray :: Hp.ro S :: Hp.blk g2 ST (lentS ys).toArray :: bookP none 0 0 [] L)) := Lib.hid (holds_start h); clear h))
  with_reducible refine (KH1.out g g2 none 0 0 [] rfl (by omega) _ _ H2.out).mono ?_
  clear H2
  rintro e w7 ⟨K7, k7, t7, l7, s7, rfl, h⟩
  have H7 : Hid (Own E w7 (Hp.blk g2 ST (lentS ys).toArray :: Hp.ro S :: Hp.blk g ST (lentS xs).toArray :: bookP K7 3 k7 t7 L)) := Lib.hid (holds_turn h)
  have S7 := Lib.hid s7
  clear h s7
  go_wp2_with (first
    | (with_reducible refine (KH2.out g g2 K7 k7 3 t7 l7 (by omega) _ _ H7.out).mono ?_; clear H7; rintro e w8 ⟨K8, k8, t8, l8, s8, rfl, h⟩; have H8 : Hid (Own E w8 (Hp.blk g ST (lentS xs).toArray :: Hp.ro S :: Hp.blk g2 ST (lentS ys).toArray :: bookP K8 6 k8 (t7 ++ t8) L)) := Lib.hid (holds_turn h); have S8 := Lib.hid s8; clear h s8)
    | (with_reducible refine (KH1.out g g2 K8 k8 6 (t7 ++ t8) (by rw [List.length_append, l7, l8]) (by omega) _ _ H8.out).mono ?_; clear H8; rintro e w9 ⟨K9, k9, t9, l9, s9, rfl, h⟩; have H9 : Hid (Own E w9 (Hp.blk g ST (lentS xs).toArray :: Hp.ro S :: Hp.blk g2 ST (lentS ys).toArray :: bookP K9 9 k9 (t7 ++ t8 ++ t9) L)) := Lib.hid h; have S9 := Lib.hid s9; clear h s9)
    | (with_reducible refine (KW1.out g _ _ H9.out).mono ?_; clear H9; rintro e w10 ⟨rfl, h⟩; have H10 : Hid (Own E w10 (Hp.blk g2 ST (lentS ys).toArray :: Hp.ro S :: Hp.blk g ST (lentS xs).toArray :: bookP K9 9 k9 (t7 ++ t8 ++ t9) L)) := Lib.hid (holds_turn h); clear h)
    | (with_reducible refine (KW2.out g2 _ _ H10.out).mono ?_; clear H10; rintro e w11 ⟨rfl, h⟩; have H11 : Hid (Own E w11 (Hp.blk g ST (lentS xs).toArray :: Hp.ro S :: Hp.blk g2 ST (lentS ys).toArray :: bookP K9 9 k9 (t7 ++ t8 ++ t9) L)) := Lib.hid (holds_turn h); clear h))
  obtain ⟨rs, hrs⟩ : ∃ rs, rs = t7 ++ t8 ++ t9 := ⟨_, rfl⟩
  have hrl : rs.length = 9 := by rw [hrs, List.length_append, List.length_append, l7, l8, l9]
  have hrx : ∀ r ∈ rs, r.xs.length ≤ 8 := fun r hr => by
    rw [hrs] at hr
    rcases List.mem_append.1 hr with hr | hr
    · rcases List.mem_append.1 hr with hr | hr
      · exact S7.out r hr
      · exact S8.out r hr
    · exact S9.out r hr
  rw [← hrs] at H11
  have HRX := Lib.hid hrx
  clear hrs hrx S7 S8 S9 l7 l8 l9 KH1 KH2 KW1 KW2 hsl hsl2
  have H12 : Hid (Own E w11 (bookP none 0 0 [] (bookP K9 9 k9 rs (Hp.blk g ST (lentS xs).toArray :: Hp.ro S :: Hp.blk g2 ST (lentS ys).toArray :: L)))) := Lib.hid (Own.emptyLst (Own.nilK (H11.out.f4.f4)) LST none)
  clear H11
  have KD : Hid (∀ (r : Kl) (A : Option Addr) (c : Nat) (M M2 : List Hp) (w : World), r ∈ rs → r.v = .slice A r.xs.length c → (∀ w, Own E w M → Own E w (famK rs :: M2)) → Own E w M → ∃ (A' : Option Addr) (c' : Nat) (w' : World), (Builtin.append_ #[LST, LST] LST #[.slice none 0 0, .slice A r.xs.length c]).run Tryd.prog w = .ok (.slice A' r.xs.length c') w' ∧ Own E w' (Hp.lst ST (.slice A' r.xs.length c') (r.xs.map Value.string) :: M)) := Lib.hid fun r A c M M2 w hr hv hs h => by
    have hlen := HRX.out r hr
    have hrd : RdC w A (r.xs.map Value.string) := ((seen_fam (E := E) (L := M) hr hv hs) w h).rdC (Own.start w)
    obtain ⟨v', w4, hap, h4⟩ := lst_append (P := Tryd.prog) (t := LST) (ty := LST) lst_u st_info rfl (h.emptyLst ST none) A r.xs.length c (r.xs.map Value.string) (List.length_map _) hrd (str_one _) (by unfold maxLen; simp; omega) (by simp; omega)
    rw [List.nil_append] at h4
    obtain ⟨A', c', rfl, hc'⟩ := lst_len h4
    exact ⟨A', c', w4, hap, h4⟩
  go_loopw [13, 19] (fun vl i wr => ∃ (k cl : Nat) (Al : Option Addr) (ws : List Kl), k ≤ 9 ∧ i = .int .i64 k ∧ vl = .slice Al k cl ∧ ws.length = k ∧ ws.map Kl.xs = (rs.map Kl.xs).take k ∧ Own E wr (bookP Al k cl ws (bookP K9 9 k9 rs (Hp.blk g ST (lentS xs).toArray :: Hp.ro S :: Hp.blk g2 ST (lentS ys).toArray :: L)))) (fun _ i _ => 9 - (intOf i).toNat)
  case atStart => exact ⟨0, 0, none, [], by omega, rfl, rfl, rfl, rfl, H12.out⟩
  case round =>
    obtain ⟨k, cl, Al, ws, hk, rfl, rfl, hwl, hws, hw⟩ := hrel
    clear H12
    have HWS := Lib.hid hws
    clear hws
    by_cases hlt : k < 9
    · have hlti : (k : Int) < 9 := by omega
      obtain ⟨r, hr⟩ : ∃ r, rs[k]? = some r := ⟨_, List.getElem?_eq_getElem (by omega)⟩
      have hmem := List.mem_of_getElem? hr
      obtain ⟨Ar, cr, er⟩ := famK_val (hw.f3) hmem
      obtain ⟨gl, e3, hcl, -⟩ := hw.f2.lstCell k r.v (by rw [List.getElem?_map, hr]; rfl)
      subst e3
      rw [er] at hcl
      obtain ⟨A', c', w1, hap1, h⟩ := KD.out r Ar cr _ _ wr hmem er (fun w h => h.f3) hw
      have hml : (ws.map Kl.v).length = k := by rw [List.length_map, hwl]
      obtain ⟨v6, w6, hap2, h⟩ := lst_append_new (P := Tryd.prog) (t := LLST) (ty := LLST) llst_u sst_info (by rfl) h.f1 #[.slice A' r.xs.length c'] 1 rfl (by simp [Value.oneCell']) (by unfold maxLen; omega) (by omega)
      obtain ⟨Bl, bl, rfl, -⟩ := h.lstSlice
      have e9 : (ws.map Kl.v ++ (#[.slice A' r.xs.length c'] : Array Value).toList).length = k + 1 := by rw [List.length_append, hml]; rfl
      rw [e9] at h hap2
      have h7 := Own.pushK (r := ⟨.slice A' r.xs.length c', r.xs⟩) h.f2.f2
      have H7 : Hid (Own E w6 (bookP Bl (k + 1) bl (ws ++ [(⟨.slice A' r.xs.length c', r.xs⟩ : Kl)]) (bookP (some ⟨gl, 0, none⟩) 9 k9 rs (Hp.blk g ST (lentS xs).toArray :: Hp.ro S :: Hp.blk g2 ST (lentS ys).toArray :: L)))) := Lib.hid (by
        show Own E w6 (Hp.lst LST (.slice Bl (k + 1) bl) ((ws ++ [(⟨.slice A' r.xs.length c', r.xs⟩ : Kl)]).map Kl.v) :: famK (ws ++ [(⟨.slice A' r.xs.length c', r.xs⟩ : Kl)]) :: Hp.lst LST (.slice (some ⟨gl, 0, none⟩) 9 k9) (rs.map Kl.v) :: famK rs :: _)
        rw [List.map_append]; exact h7.f1)
      have HN : Hid ((ws ++ [(⟨.slice A' r.xs.length c', r.xs⟩ : Kl)]).length = k + 1 ∧ (ws ++ [(⟨.slice A' r.xs.length c', r.xs⟩ : Kl)]).map Kl.xs = (rs.map Kl.xs).take (k + 1)) := Lib.hid ⟨by rw [List.length_append, hwl]; rfl, by rw [List.map_append, HWS.out, List.take_add_one, List.getElem?_map, hr]; rfl⟩
      repeat clear h
      clear h7 e9 hml hw er hr hmem
      go_wp2_with (first | (with_reducible refine at_slot (k := some 93) ?_; refine wpList_append_run (o := ⟨some 93, _, _, _, _, _⟩) hap1 rfl rfl rfl rfl ?_; clear hap1) | (with_reducible refine at_slot (k := some 95) ?_; refine wpList_append_run (o := ⟨some 95, _, _, _, _, _⟩) hap2 rfl rfl rfl rfl ?_; clear hap2))
      go_roundw
      case rel => exact ⟨k + 1, bl, Bl, _, by omega, by go_num, rfl, HN.out.1, HN.out.2, H7.out⟩
      case measure => simp [intOf]; omega
    · obtain rfl : k = 9 := by omega
      have hlti : ¬ (9 : Int) < 9 := by omega
      have hall : ws.map Kl.xs = rs.map Kl.xs := by
        rw [HWS.out, List.take_of_length_le]
        rw [List.length_map, hrl]
        exact Nat.le_refl _
      clear HWS KD hlt hk
      have hw1 : Own E wr (Hp.blk g ST (lentS xs).toArray :: Hp.ro S :: Hp.blk g2 ST (lentS ys).toArray :: bookP K9 9 k9 rs (bookP Al 9 cl ws L)) := hw.ac (by simp only [Hp.all] <;> ac_rfl)
      obtain ⟨q, w6, hcp, h3⟩ := KC.out _ _ _ hw1
      obtain ⟨A7, c7, w7, hap, h4⟩ := KP.out _ _ _ h3
      have KF := Lib.hid (KH4.out g g2 K9 k9 9 rs A7 c7 hrl (by omega) _ _ h4)
      clear hw hw1 h3 h4 KC KP KH4
      go_wp2_with (first
        | (with_reducible refine at_slot (k := some 98) ?_; refine wpList_copy_run (o := ⟨some 98, _, _, _, _, _⟩) hcp rfl rfl rfl rfl ?_; clear hcp)
        | (with_reducible refine at_slot (k := some 101) ?_; refine wpList_append_run (o := ⟨some 101, _, _, _, _, _⟩) hap rfl rfl rfl rfl ?_; clear hap))
      with_reducible refine KF.out.mono ?_
      clear KF
      rintro e w8 ⟨K', k', ts, lt, st, rfl, h⟩
      have ST3 := Lib.hid st
      have HW := Lib.hid h
      have HALL := Lib.hid hall
      clear st h hall
      go_wp2_with fail
      go_loopw [23] (fun i wr => ∃ k : Nat, k ≤ 9 ∧ i = .int .i64 k ∧ Own E wr (bookP K' 12 k' (rs ++ ts) (Hp.ro S :: bookP Al 9 cl ws L))) (fun i _ => 9 - (intOf i).toNat)
      case atStart => exact ⟨0, by omega, rfl, HW.out⟩
      case round =>
        obtain ⟨k, hk, rfl, hw⟩ := hrel
        clear HW
        by_cases hlt : k < 9
        · have hlti2 : (k : Int) < 9 := by omega
          have hlti3 : (k : Int) < 12 := by omega
          obtain ⟨r, hr⟩ : ∃ r, rs[k]? = some r := ⟨_, List.getElem?_eq_getElem (by omega)⟩
          obtain ⟨u, hu⟩ : ∃ u, ws[k]? = some u := ⟨_, List.getElem?_eq_getElem (by omega)⟩
          have hux : u.xs = r.xs := by
            have h2 : (ws.map Kl.xs)[k]? = (rs.map Kl.xs)[k]? := by rw [HALL.out]
            rw [List.getElem?_map, List.getElem?_map, hr, hu] at h2
            injection h2
          have hr2 : (rs ++ ts)[k]? = some r := by rw [List.getElem?_append_left (by omega)]; exact hr
          have hmem := List.mem_of_getElem? hr2
          have humem := List.mem_of_getElem? hu
          obtain ⟨Ar, cr, er⟩ := famK_val hw.f1 hmem
          obtain ⟨Au, cu, eu⟩ := famK_val hw.f4 humem
          obtain ⟨gl, e3, -, -⟩ := hw.lstCell k r.v (by rw [List.getElem?_map, hr2]; rfl)
          obtain ⟨gu, e4, -, -⟩ := hw.f3.lstCell k u.v (by rw [List.getElem?_map, hu]; rfl)
          subst e3 e4
          have HC : Hid (∀ w', Own E w' (bookP (some ⟨gl, 0, none⟩) 12 k' (rs ++ ts) (Hp.ro S :: bookP (some ⟨gu, 0, none⟩) 9 cl ws L)) → w'.cell? ⟨gl, k, none⟩ = some (.slice Ar r.xs.length cr) ∧ w'.cell? ⟨gu, k, none⟩ = some (.slice Au r.xs.length cu)) := Lib.hid fun w' h' => by
            obtain ⟨g5, e5, c5, -⟩ := h'.lstCell k r.v (by rw [List.getElem?_map, hr2]; rfl)
            obtain ⟨g6, e6, c6, -⟩ := h'.f3.lstCell k u.v (by rw [List.getElem?_map, hu]; rfl)
            injection e5 with e5
            injection e5 with e5
            injection e6 with e6
            injection e6 with e6
            subst e5 e6
            rw [er] at c5
            rw [eu, hux] at c6
            exact ⟨c5, c6⟩
          have hx8 := HRX.out r (List.mem_of_getElem? hr)
          rw [hux] at eu
          have KS : Hid (∀ w', Own E w' (bookP (some ⟨gl, 0, none⟩) 12 k' (rs ++ ts) (Hp.ro S :: bookP (some ⟨gu, 0, none⟩) 9 cl ws L)) → Calls Tryd.prog 12 #[.slice Ar r.xs.length cr, .slice Au r.xs.length cu] w' fun e w2 => e = .returned (.bool true) ∧ Own E w2 (bookP (some ⟨gl, 0, none⟩) 12 k' (rs ++ ts) (Hp.ro S :: bookP (some ⟨gu, 0, none⟩) 9 cl ws L))) := Lib.hid fun w' h' => by
            have s2 : Seen E (bookP (some ⟨gl, 0, none⟩) 12 k' (rs ++ ts) (Hp.ro S :: bookP (some ⟨gu, 0, none⟩) 9 cl ws L)) Au u.xs.length u.xs := seen_fam humem (by rw [hux]; exact eu) fun w h => h.f4
            rw [hux] at s2
            refine (same_any Ar Au r.xs.length cr r.xs.length cu r.xs r.xs w' (seen_fam hmem er fun w h => h.f1) s2 (by omega) h').mono ?_
            rintro e w2 ⟨rfl, h2⟩
            rw [decide_eq_true rfl]
            exact ⟨rfl, h2⟩
          have h := hw.drew
          clear hw hr hu hr2 hmem humem er eu hux hx8
          generalize r.xs.length = rl at *
          go_wp2_with fail
          refine wp_region_text [3, 7] (fun w' => w'.cell? ⟨gl, k, none⟩ = some (.slice Ar rl cr) ∧ w'.cell? ⟨gu, k, none⟩ = some (.slice Au rl cu)) (by kernel_rfl) ?_ (fun hS => ?_)
          · exact HC.out _ h
          refine wpAnyG_pure (i := 0) (oi := ⟨some 117, _, _, _, _, _⟩) (v := ?_) rfl (by kernel_rfl) (by kernel_rfl) (by kernel_rfl) (by rfl) (fun _ _ _ h => h) (by rfl) ?_ ?_
          rotate_left
          · intro w
            go_simp
            first | done | with_reducible rfl
          try simp only [Act.put, List.setIfInBounds_toArray, List.set_cons_zero, List.set_cons_succ]
          refine wpAnyG_pure (i := 1) (oi := ⟨some 118, _, _, _, _, _⟩) (v := ?_) rfl (by kernel_rfl) (by kernel_rfl) (by kernel_rfl) (by rfl) (fun _ _ _ h => h) (by rfl) ?_ ?_
          rotate_left
          · intro w
            go_simp
            first | done | with_reducible rfl
          try simp only [Act.put, List.setIfInBounds_toArray, List.set_cons_zero, List.set_cons_succ]
          refine wpAnyG_pure (i := 2) (oi := ⟨some 119, _, _, _, _, _⟩) (v := ?_) rfl (by kernel_rfl) (by kernel_rfl) (by kernel_rfl) (by rfl) (fun _ _ _ h => h) (by rfl) ?_ ?_
          rotate_left
          · intro w
            go_simp
            first | done | with_reducible rfl
          try simp only [Act.put, List.setIfInBounds_toArray, List.set_cons_zero, List.set_cons_succ]
          refine wpAnyG_load (i := 3) (oi := ⟨some 120, _, _, _, _, _⟩) (v := ?_) rfl (by kernel_rfl) (by kernel_rfl) (by kernel_rfl) (by rfl) (fun _ _ _ h => h) (by rfl) ?_ (by assumption) ?_
          rotate_left
          · intro w hS
            try dsimp only at hS
            go_simp
            first | done | with_reducible rfl
          try simp only [Act.put, List.setIfInBounds_toArray, List.set_cons_zero, List.set_cons_succ]
          refine wpAnyG_pure (i := 4) (oi := ⟨some 121, _, _, _, _, _⟩) (v := ?_) rfl (by kernel_rfl) (by kernel_rfl) (by kernel_rfl) (by rfl) (fun _ _ _ h => h) (by rfl) ?_ ?_
          rotate_left
          · intro w
            go_simp
            first | done | with_reducible rfl
          try simp only [Act.put, List.setIfInBounds_toArray, List.set_cons_zero, List.set_cons_succ]
          refine wpAnyG_pure (i := 5) (oi := ⟨some 122, _, _, _, _, _⟩) (v := ?_) rfl (by kernel_rfl) (by kernel_rfl) (by kernel_rfl) (by rfl) (fun _ _ _ h => h) (by rfl) ?_ ?_
          rotate_left
          · intro w
            go_simp
            first | done | with_reducible rfl
          try simp only [Act.put, List.setIfInBounds_toArray, List.set_cons_zero, List.set_cons_succ]
          refine wpAnyG_pure (i := 6) (oi := ⟨some 123, _, _, _, _, _⟩) (v := ?_) rfl (by kernel_rfl) (by kernel_rfl) (by kernel_rfl) (by rfl) (fun _ _ _ h => h) (by rfl) ?_ ?_
          rotate_left
          · intro w
            go_simp
            first | done | with_reducible rfl
          try simp only [Act.put, List.setIfInBounds_toArray, List.set_cons_zero, List.set_cons_succ]
          refine wpAnyG_load (i := 7) (oi := ⟨some 124, _, _, _, _, _⟩) (v := ?_) rfl (by kernel_rfl) (by kernel_rfl) (by kernel_rfl) (by rfl) (fun _ _ _ h => h) (by rfl) ?_ (by assumption) ?_
          rotate_left
          · intro w hS
            try dsimp only at hS
            go_simp
            first | done | with_reducible rfl
          try simp only [Act.put, List.setIfInBounds_toArray, List.set_cons_zero, List.set_cons_succ]
          refine wpAnyG_keep (i := 8) (oi := ⟨some 125, _, _, _, _, _⟩) (by kernel_rfl) rfl (fun K hK => ?_)
          rw [if_pos (by rfl)]
          go_simp
          refine (KS.out _ h).mono ?_
          rintro e w5 ⟨rfl, h⟩
          refine hK.out _ _ ?_ (fun hS => ?_)
          · exact HC.out _ h
          clear hK K
          try simp only [Act.put, List.setIfInBounds_toArray, List.set_cons_zero, List.set_cons_succ]
          refine wpAnyG_pure (i := 9) (oi := ⟨some 24, _, _, _, _, _⟩) (v := ?_) rfl (by kernel_rfl) (by kernel_rfl) (by kernel_rfl) (by rfl) (fun _ _ _ h => h) (by rfl) ?_ ?_
          rotate_left
          · intro w
            go_simp
            first | done | with_reducible rfl
          try simp only [Act.put, List.setIfInBounds_toArray, List.set_cons_zero, List.set_cons_succ]
          refine wpAnyG_done (by kernel_rfl) ?_ _
          refine NoPanic.normal ?_
          have H := Lib.hid h
          repeat clear h
          go_wp2_with fail
          go_roundw
          case rel => exact ⟨k + 1, by omega, by go_num, H.out⟩
          case measure => simp [intOf]; omega
        · obtain rfl : k = 9 := by omega
          have hlti2 : ¬ (9 : Int) < 9 := by omega
          have hl12 : (rs ++ ts).length = 12 := by rw [List.length_append, hrl, lt]
          have hsm : ∀ r ∈ rs ++ ts, r.xs.length ≤ 4294967296 := fun r hr => by
            rcases List.mem_append.1 hr with hr | hr
            · have := HRX.out r hr; omega
            · have := ST3.out r hr; omega
          have KF := apart_any K' k' (rs ++ ts) _ (by omega) hsm (by rw [hl12]; exact hw)
          rw [hl12] at KF
          have KF := Lib.hid KF
          clear hw hsm hlt hk
          go_wp2_with fail
          with_reducible refine KF.out.mono ?_
          clear KF
          rintro e w9 ⟨rfl, h⟩
          have HW := Lib.hid h.f1.drop.f1.drop
          clear h
          go_wp2_with fail
          go_ret
          exact ⟨rfl, HW.out⟩
end
end Go.Proofs.YtgedjkcpgagnbaaDoor
