/- latchkeyref10.sorted, repeats. latchkeyref10.sorted, repeats: the walk. latchkeyref10.repeats, keys, Size, texts, numbers. -/
import Derived.Test.YtbclmmneiphcaaaDoorXFind
namespace Go.Proofs.YtbclmmneiphcaaaDoor
open Go.RowKit
/-- Memory that has grown by parts of its own. -/
def Ext (S T : Ph) : Prop := ∃ a, Ph.apart a S ∧ T = Ph.join a S
theorem Ext.refl (S : Ph) : Ext S S := ⟨Ph.emp, Ph.emp_apart _, (Ph.emp_join S).symm⟩
theorem Ext.trans {S T U : Ph} (h1 : Ext S T) (h2 : Ext T U) : Ext S U := by
  obtain ⟨a, d1, rfl⟩ := h1
  obtain ⟨b, d2, rfl⟩ := h2
  obtain ⟨d3, d4⟩ := Ph.apart_join.1 d2
  exact ⟨Ph.join b a, Ph.apart_comm (Ph.apart_join.2 ⟨Ph.apart_comm d4, Ph.apart_comm d1⟩), (Ph.join_assoc _ _ _).symm⟩
theorem Ext.sub {S T : Ph} (h : Ext S T) : ∀ k o, S k = some o → T k = some o := by
  obtain ⟨a, d, rfl⟩ := h
  exact Ph.join_r d
theorem Ext.of {a S : Ph} (d : Ph.apart a S) : Ext S (Ph.join a S) := ⟨a, d, rfl⟩
theorem Own.back {E w : World} {S T : Ph} {L : List Hp} (h : Own E w (Hp.ro T :: L)) (hx : Ext S T) : Own E w (Hp.ro S :: L) := by
  obtain ⟨a, d, rfl⟩ := hx
  exact (h.part d).drop
def Srt (l : List Int) : Prop := l.Pairwise (· ≤ ·)
theorem srt_dup : ∀ {l : List Int}, Srt l → (∀ i a b, l[i]? = some a → l[i + 1]? = some b → a ≠ b) → l.Nodup
  | [], _, _ => List.nodup_nil
  | [a], _, _ => by simp
  | a :: b :: l, hs, h => by
    have hs2 := List.pairwise_cons.1 hs
    refine List.nodup_cons.2 ⟨fun hm => ?_, srt_dup hs2.2 fun i x y hx hy => h (i + 1) x y (by simpa using hx) (by simpa using hy)⟩
    have hab : a ≤ b := hs2.1 b (by simp)
    have hne : a ≠ b := h 0 a b rfl rfl
    rcases List.mem_cons.1 hm with e | e
    · exact hne e
    · have := (List.pairwise_cons.1 hs2.2).1 a e
      omega
theorem not_nodup_of {l : List Int} {i : Nat} {a : Int} (h1 : l[i]? = some a) (h2 : l[i + 1]? = some a) : ¬ l.Nodup := fun hn => by
  have := (List.getElem?_inj (List.getElem?_eq_some_iff.1 h1).1 hn).1 (h1.trans h2.symm)
  omega
/-- A round of the merge, and its end. -/
structure Mrg (l out a b : List Int) : Prop where
  p : (out ++ a ++ b).Perm l
  so : Srt out
  sa : Srt a
  sb : Srt b
  la : ∀ x ∈ out, ∀ y ∈ a, x ≤ y
  lb : ∀ x ∈ out, ∀ y ∈ b, x ≤ y
theorem Mrg.left {l out a b : List Int} {x y : Int} (h : Mrg l out (x :: a) (y :: b)) (hxy : x ≤ y) : Mrg l (out ++ [x]) a (y :: b) := by
  obtain ⟨p, so, sa, sb, la, lb⟩ := h
  have ha := List.pairwise_cons.1 sa
  have hb := List.pairwise_cons.1 sb
  refine ⟨by simpa using p, List.pairwise_append.2 ⟨so, by simp, fun u hu v hv => ?_⟩, ha.2, sb, fun u hu v hv => ?_, fun u hu v hv => ?_⟩
  · have : v = x := by simpa using hv
    subst this
    exact la u hu v (by simp)
  · rcases List.mem_append.1 hu with hu | hu
    · exact la u hu v (List.mem_cons_of_mem _ hv)
    · have : u = x := by simpa using hu
      subst this
      exact ha.1 v hv
  · rcases List.mem_append.1 hu with hu | hu
    · exact lb u hu v hv
    · have : u = x := by simpa using hu
      subst this
      rcases List.mem_cons.1 hv with rfl | hv
      · exact hxy
      · have := hb.1 v hv; omega
theorem Mrg.right {l out a b : List Int} {x y : Int} (h : Mrg l out (x :: a) (y :: b)) (hxy : ¬ x ≤ y) : Mrg l (out ++ [y]) (x :: a) b := by
  obtain ⟨p, so, sa, sb, la, lb⟩ := h
  have ha := List.pairwise_cons.1 sa
  have hb := List.pairwise_cons.1 sb
  refine ⟨?_, List.pairwise_append.2 ⟨so, by simp, fun u hu v hv => ?_⟩, sa, hb.2, fun u hu v hv => ?_, fun u hu v hv => ?_⟩
  · refine List.Perm.trans ?_ p
    simp only [List.append_assoc, List.cons_append, List.nil_append]
    refine List.Perm.append_left out ?_
    exact (List.perm_middle (a := y) (l₁ := x :: a) (l₂ := b)).symm
  · have : v = y := by simpa using hv
    subst this
    exact lb u hu v (by simp)
  · rcases List.mem_append.1 hu with hu | hu
    · exact la u hu v hv
    · have : u = y := by simpa using hu
      subst this
      rcases List.mem_cons.1 hv with rfl | hv
      · omega
      · have := ha.1 v hv; omega
  · rcases List.mem_append.1 hu with hu | hu
    · exact lb u hu v (List.mem_cons_of_mem _ hv)
    · have : u = y := by simpa using hu
      subst this
      exact hb.1 v hv
theorem Mrg.done {l out a b : List Int} (h : Mrg l out a b) (he : a = [] ∨ b = []) : Srt (out ++ a ++ b) := by
  obtain ⟨p, so, sa, sb, la, lb⟩ := h
  rcases he with rfl | rfl
  · rw [List.append_nil]
    exact List.pairwise_append.2 ⟨so, sb, lb⟩
  · rw [List.append_nil]
    exact List.pairwise_append.2 ⟨so, sa, la⟩
theorem Rds.tail1 {S : Ph} {b off n : Nat} {x : Int} {xs : List Int} (h : Rds S 1 en64 (some ⟨b, off, none⟩) n (x :: xs)) : S.cell ⟨b, off, none⟩ = some (VI x) ∧ Rds S 1 en64 (some ⟨b, off + 1, none⟩) (n - 1) xs := by
  obtain ⟨h1, -, h3⟩ := h
  have h1' : xs.length + 1 = n := h1
  refine ⟨?_, by omega, fun _ => rfl, fun k hk => ⟨b, off + 1, rfl, fun j v hv => ?_⟩⟩
  · obtain ⟨b', off', e, hc⟩ := h3 0 (by simp)
    injection e with e
    injection e with e1 e2
    subst e1 e2
    exact hc 0 _ rfl
  · obtain ⟨b', off', e, hc⟩ := h3 (k + 1) (by simpa using hk)
    injection e with e
    injection e with e1 e2
    subst e1 e2
    have := hc j v (by simpa using hv)
    rw [show off + 1 + k * 1 + j = off + (k + 1) * 1 + j by omega]
    exact this
end Go.Proofs.YtbclmmneiphcaaaDoor
namespace Go.Proofs.YtbclmmneiphcaaaDoor
open Go.RowKit
/-- The length of a slice value. -/
def lenV : Value → Nat
  | .slice _ n _ => n
  | _ => 0
theorem Rds.some_of {S : Ph} {A : Option Addr} {n : Nat} {xs : List Int} (h : Rds S 1 en64 A n xs) (hn : 0 < n) : ∃ b off, A = some ⟨b, off, none⟩ := by
  obtain ⟨b, off, e, _⟩ := h.2.2 0 (by have := h.1; omega)
  exact ⟨b, off, e⟩
theorem Rds.emptyAt {S : Ph} (A : Option Addr) : Rds S 1 en64 A 0 [] := ⟨rfl, fun _ => rfl, fun _ hk => by cases hk⟩
/-- A slice without its first element: its address as the model has it. -/
def nextA (b off c : Nat) : Option Addr := if c = 1 then some ⟨b, off, none⟩ else some ⟨b, off + 1, none⟩
theorem Rds.next {S : Ph} {b off n c : Nat} {x : Int} {xs : List Int} (h : Rds S 1 en64 (some ⟨b, off, none⟩) n (x :: xs)) (hc : n ≤ c) : Rds S 1 en64 (nextA b off c) (n - 1) xs := by
  unfold nextA
  split
  · have h1 : xs.length + 1 = n := h.1
    have : xs = [] := List.eq_nil_of_length_eq_zero (by omega)
    subst this
    have : n - 1 = 0 := by omega
    rw [this]
    exact Rds.emptyAt _
  · exact h.tail1.2
section
variable {E : World}
set_option maxRecDepth 100000 in
set_option maxHeartbeats 8000000 in
theorem sorted_any : ∀ (n : Nat) (S : Ph) (L : List Hp) (A : Option Addr) (c : Nat) (xs : List Int) (w : World), n ≤ 4294967296 → n ≤ c → c ≤ maxLen → Rds S 1 en64 A n xs → Own E w (Hp.ro S :: L) →
    Calls Tryd.prog 92 #[.slice A n c] w fun e w' => ∃ (T : Ph) (A' : Option Addr) (c' : Nat) (ys : List Int), e = .returned (.slice A' n c') ∧ Ext S T ∧ n ≤ c' ∧ c' ≤ maxLen ∧ Rds T 1 en64 A' n ys ∧ ys.Perm xs ∧ Srt ys ∧ Own E w' (Hp.ro T :: L) := by
  intro n
  induction n using Nat.strongRecOn with
  | _ n ih =>
  intro S L A c xs w hn hc hm hr h
  by_cases h2 : n < 2
  · have h2i : (n : Int) < 2 := by omega
    have hs : Srt xs := by
      have h1 := hr.1
      match xs, h1 with
      | [], _ => exact List.Pairwise.nil
      | [a], _ => exact List.pairwise_singleton _ _
      | _ :: _ :: l, h1 => simp at h1; omega
    have HS := Lib.hid hs
    have H := Lib.hid h
    clear h hs ih
    go_enter Tryd.func92, Tryd.ntmps92
    go_wp2_with fail
    go_ret
    exact ⟨S, A, c, xs, rfl, Ext.refl S, hc, hm, hr, List.Perm.refl _, HS.out, H.out⟩
  · have h2i : ¬ (n : Int) < 2 := by omega
    obtain ⟨b, off, rfl⟩ := hr.some_of (by omega)
    obtain ⟨k, hk⟩ : ∃ k, k = n / 2 := ⟨_, rfl⟩
    have hkb : 1 ≤ k ∧ k < n := by omega
    have hdiv : (n : Int) / 2 = (k : Int) := by omega
    have hdiv2 : Int.tdiv (n : Int) 2 = (k : Int) := by rw [Int.tdiv_eq_ediv_of_nonneg (by omega)]; exact hdiv
    have hr1 : Rds S 1 en64 (some ⟨b, off, none⟩) k (xs.take k) := by
      have := hr.part 0 k (by omega)
      simpa using this
    have hr2 : Rds S 1 en64 (some ⟨b, off + k, none⟩) (n - k) (xs.drop k) := by
      have := hr.part k (n - k) (by omega)
      rwa [List.take_of_length_le (by rw [List.length_drop, hr.1]; omega)] at this
    have c1 := ih k hkb.2 S L (some ⟨b, off, none⟩) c (xs.take k) w (by omega) (by omega) hm hr1 h
    have c2 := fun (T : Ph) (hx : Ext S T) w hw => ih (n - k) (by omega) T L (some ⟨b, off + k, none⟩) (c - k) (xs.drop k) w (by omega) (by omega) (by omega) (hr2.sub hx.sub) hw
    have C2 := Lib.hid c2
    have k1 : (0 : Int) ≤ (k : Int) := by omega
    have k2 : (k : Int) ≤ c := by omega
    have k3 : (k : Int) ≤ n := by omega
    have k4 : (n : Int) ≤ c := by omega
    have k5 : ¬ c = k := by omega
    have hsplit : xs.take k ++ xs.drop k = xs := List.take_append_drop k xs
    have HSP := Lib.hid hsplit
    clear h c2 hr hr1 hr2 ih hk hsplit
    go_enter Tryd.func92, Tryd.ntmps92
    go_wp2_with fail
    refine c1.mono ?_
    rintro e w1 ⟨T1, A1, c1', ys1, rfl, x1, g1, g2, r1, p1, s1, h⟩
    clear c1
    have H := Lib.hid h
    clear h
    go_wp2_with fail
    refine (C2.out T1 x1 _ H.out).mono ?_
    rintro e w2 ⟨T2, A2, c2', ys2, rfl, x2, g3, g4, r2, p2, s2, h⟩
    have r1 := r1.sub x2.sub
    have hmg : Mrg xs [] ys1 ys2 := ⟨by rw [List.nil_append]; have := p1.append p2; rwa [HSP.out] at this, List.Pairwise.nil, s1, s2, fun _ hx => (by cases hx), fun _ hx => (by cases hx)⟩
    have hle1 := r1.1
    have hle2 := r2.1
    obtain ⟨na, hna⟩ : ∃ m, m = n - k := ⟨_, rfl⟩
    rw [← hna] at hle2 g3 r2 ⊢
    have X2 := Lib.hid (x1.trans x2)
    have HM := Lib.hid hmg
    have H2 := Lib.hid (h.emptyLst IT none)
    have hnn : k + na = n := by omega
    clear C2 HSP x1 x2 p1 p2 s1 s2 hmg h H hna
    go_wp2_with fail
    go_loopw [3, 4, 5] (fun va vb vo wr => ∃ (a b out : List Int) (Aa Ab : Option Addr) (ca cb : Nat), va = .slice Aa a.length ca ∧ vb = .slice Ab b.length cb ∧ a.length ≤ ca ∧ b.length ≤ cb ∧ ca ≤ maxLen ∧ cb ≤ maxLen ∧ Rds T2 1 en64 Aa a.length a ∧ Rds T2 1 en64 Ab b.length b ∧ out.length + a.length + b.length = n ∧ Mrg xs out a b ∧ Own E wr (Hp.ints vo out :: Hp.ro T2 :: L)) (fun va vb _ _ => lenV va + lenV vb)
    case atStart => exact ⟨ys1, ys2, [], A1, A2, c1', c2', by rw [hle1], by rw [hle2], by omega, by omega, g2, g4, by rw [hle1]; exact r1, by rw [hle2]; exact r2, by simp; omega, HM.out, H2.out⟩
    case round =>
      obtain ⟨a, b', out, Aa, Ab, ca, cb, rfl, rfl, l1, l2, l3, l4, ra, rb, hlen, hmr, hw⟩ := hrel
      clear H2 HM r1 r2 hle1 hle2 hnn
      obtain ⟨Ao, co, rfl, -⟩ := hw.lstSlice
      rw [List.length_map] at hw ⊢
      have HW := Lib.hid hw
      have HM := Lib.hid hmr
      clear hw hmr
      cases a with
      | nil =>
        simp only [List.length_nil] at *
        obtain ⟨v6, w6, hap, h6⟩ := lst_append (P := Tryd.prog) (t := LIT) (ty := LIT) lit_u it_info (by rfl) HW.out Aa 0 ca (([] : List Int).map VI) (List.length_map _) (ra.rdC HW.out.f1) (VI_one _) (by unfold maxLen; rw [List.length_map]; omega) (by rw [List.length_map]; omega)
        rw [← List.map_append] at h6
        rw [List.append_nil] at h6
        obtain ⟨A6, c6, rfl, -⟩ := h6.lstSlice
        rw [List.length_map] at h6 hap
        obtain ⟨v7, w7, hap2, h7⟩ := lst_append (P := Tryd.prog) (t := LIT) (ty := LIT) lit_u it_info (by rfl) h6 Ab b'.length cb (b'.map VI) (List.length_map _) (rb.rdC h6.f1) (VI_one _) (by unfold maxLen; simp only [List.length_map]; omega) (by simp only [List.length_map]; omega)
        rw [← List.map_append] at h7
        obtain ⟨A7, c7, rfl, -⟩ := h7.lstSlice
        rw [List.length_map] at h7 hap2
        have hln : (out ++ b').length = n := by simp only [List.length_append]; omega
        rw [hln] at h7 hap2
        have h8 := h7
        obtain ⟨x8, hx8, hd8, h8⟩ := h8.lend
        obtain ⟨rr, rc, rm, -⟩ := lst_rds hx8
        have H8 := Lib.hid h8
        have HX := Lib.hid (X2.out.trans (Ext.of hd8))
        have hso := HM.out.done (.inl rfl)
        rw [List.append_nil] at hso
        have hpp := HM.out.p
        rw [List.append_nil] at hpp
        have HSO := Lib.hid hso
        have HP := Lib.hid hpp
        have HR := Lib.hid (rr.sub (T := Ph.join x8 T2) Ph.join_l)
        clear h6 h7 h8 hx8 hd8 rr HW hso hpp HM ra rb
        go_wp2_with (first | (with_reducible refine at_slot (k := some 55) ?_; refine wpList_append_run (o := ⟨some 55, _, _, _, _, _⟩) hap rfl rfl rfl rfl ?_; clear hap) | (with_reducible refine at_slot (k := some 58) ?_; refine wpList_append_run (o := ⟨some 58, _, _, _, _, _⟩) hap2 rfl rfl rfl rfl ?_; clear hap2))
        go_ret
        exact ⟨_, A7, c7, _, rfl, HX.out, rc, rm, HR.out, HP.out, HSO.out, H8.out⟩
      | cons x a =>
        cases b' with
        | nil =>
          simp only [List.length_nil] at *
          have hposn : 0 < (x :: a).length := by simp
          have hlm : ((x :: a).map VI).length = (x :: a).length := List.length_map _
          obtain ⟨na', hna'⟩ : ∃ m, m = (x :: a).length := ⟨_, rfl⟩
          rw [← hna'] at hlm hposn l1 ra hlen ⊢
          have hpos : (0 : Int) < (na' : Int) := by omega
          obtain ⟨v6, w6, hap, h6⟩ := lst_append (P := Tryd.prog) (t := LIT) (ty := LIT) lit_u it_info (by rfl) HW.out Aa na' ca ((x :: a).map VI) hlm (ra.rdC HW.out.f1) (VI_one _) (by unfold maxLen; rw [List.length_map]; omega) (by rw [List.length_map]; omega)
          rw [← List.map_append] at h6
          obtain ⟨A6, c6, rfl, -⟩ := h6.lstSlice
          rw [List.length_map] at h6 hap
          have hl6 : (out ++ (x :: a)).length = n := by rw [List.length_append, ← hna']; omega
          rw [hl6] at h6 hap
          obtain ⟨v7, w7, hap2, h7⟩ := lst_append (P := Tryd.prog) (t := LIT) (ty := LIT) lit_u it_info (by rfl) h6 Ab 0 cb (([] : List Int).map VI) (List.length_map _) (rb.rdC h6.f1) (VI_one _) (by unfold maxLen; rw [List.length_map, hl6]; omega) (by rw [List.length_map, hl6]; omega)
          rw [← List.map_append] at h7
          obtain ⟨A7, c7, rfl, -⟩ := h7.lstSlice
          rw [List.length_map] at h7 hap2
          have hln : (out ++ (x :: a) ++ ([] : List Int)).length = n := by rw [List.append_nil]; exact hl6
          rw [hln] at h7 hap2
          have h8 := h7
          obtain ⟨x8, hx8, hd8, h8⟩ := h8.lend
          obtain ⟨rr, rc, rm, -⟩ := lst_rds hx8
          have H8 := Lib.hid h8
          have HX := Lib.hid (X2.out.trans (Ext.of hd8))
          have hso := HM.out.done (.inr rfl)
          have HSO := Lib.hid hso
          have HP := Lib.hid HM.out.p
          have HR := Lib.hid (rr.sub (T := Ph.join x8 T2) Ph.join_l)
          clear h6 h7 h8 hx8 hd8 rr HW hso HM ra rb
          go_wp2_with (first | (with_reducible refine at_slot (k := some 55) ?_; refine wpList_append_run (o := ⟨some 55, _, _, _, _, _⟩) hap rfl rfl rfl rfl ?_; clear hap) | (with_reducible refine at_slot (k := some 58) ?_; refine wpList_append_run (o := ⟨some 58, _, _, _, _, _⟩) hap2 rfl rfl rfl rfl ?_; clear hap2))
          go_ret
          exact ⟨_, A7, c7, _, rfl, HX.out, rc, rm, HR.out, HP.out, HSO.out, H8.out⟩
        | cons y b' =>
          obtain ⟨ga, oa, rfl⟩ := ra.some_of (by simp)
          obtain ⟨gb, ob, rfl⟩ := rb.some_of (by simp)
          have hd := HW.out.drew
          have d1 := hd.f1.rd ra.tail1.1
          have d2 := hd.f1.rd rb.tail1.1
          have ra2 := ra.next l1
          have rb2 := rb.next l2
          rw [List.length_cons, Nat.add_sub_cancel] at ra2 rb2
          rw [List.length_cons] at l1 l2
          rw [List.length_cons, List.length_cons] at hlen
          simp only [List.length_cons]
          by_cases hxy : x ≤ y
          · skip
            have hxyi : x ≤ y := hxy
            obtain ⟨v', w6, hap, h⟩ := lst_append_new (P := Tryd.prog) (t := LIT) (ty := LIT) lit_u it_info (by rfl) hd #[.int .i64 x] 1 rfl (VI_one [x]) (by unfold maxLen; rw [List.length_map]; omega) (by rw [List.length_map]; omega)
            have e9 : out.map VI ++ (#[Value.int .i64 x] : Array Value).toList = (out ++ [x]).map VI := by simp
            rw [e9] at h
            have HM2 := Lib.hid (HM.out.left hxy)
            have H6 := Lib.hid h
            clear h hd e9 HM
            by_cases hc1 : ca = 1
            · obtain rfl : a = [] := List.eq_nil_of_length_eq_zero (by omega)
              subst hc1
              go_wp2_with fail
              refine wp_region_text [2, 5] (fun w' => w'.cell? ⟨ga, oa, none⟩ = some (.int .i64 x) ∧ w'.cell? ⟨gb, ob, none⟩ = some (.int .i64 y)) (by kernel_rfl) ?_ (fun hS => ?_)
              · exact ⟨d1, d2⟩
              refine wpAnyG_pure (i := 0) (oi := ⟨some 30, _, _, _, _, _⟩) (v := ?_) rfl (by kernel_rfl) (by kernel_rfl) (by kernel_rfl) (by rfl) (fun _ _ _ h => h) (by rfl) ?_ ?_
              rotate_left
              · intro w
                go_simp
                first | done | with_reducible rfl
              try simp only [Act.put, List.setIfInBounds_toArray, List.set_cons_zero, List.set_cons_succ]
              refine wpAnyG_pure (i := 1) (oi := ⟨some 31, _, _, _, _, _⟩) (v := ?_) rfl (by kernel_rfl) (by kernel_rfl) (by kernel_rfl) (by rfl) (fun _ _ _ h => h) (by rfl) ?_ ?_
              rotate_left
              · intro w
                go_simp
                first | done | with_reducible rfl
              try simp only [Act.put, List.setIfInBounds_toArray, List.set_cons_zero, List.set_cons_succ]
              refine wpAnyG_load (i := 2) (oi := ⟨some 32, _, _, _, _, _⟩) (v := ?_) rfl (by kernel_rfl) (by kernel_rfl) (by kernel_rfl) (by rfl) (fun _ _ _ h => h) (by rfl) ?_ (by assumption) ?_
              rotate_left
              · intro w hS
                try dsimp only at hS
                go_simp
                first | done | with_reducible rfl
              try simp only [Act.put, List.setIfInBounds_toArray, List.set_cons_zero, List.set_cons_succ]
              refine wpAnyG_pure (i := 3) (oi := ⟨some 33, _, _, _, _, _⟩) (v := ?_) rfl (by kernel_rfl) (by kernel_rfl) (by kernel_rfl) (by rfl) (fun _ _ _ h => h) (by rfl) ?_ ?_
              rotate_left
              · intro w
                go_simp
                first | done | with_reducible rfl
              try simp only [Act.put, List.setIfInBounds_toArray, List.set_cons_zero, List.set_cons_succ]
              refine wpAnyG_pure (i := 4) (oi := ⟨some 34, _, _, _, _, _⟩) (v := ?_) rfl (by kernel_rfl) (by kernel_rfl) (by kernel_rfl) (by rfl) (fun _ _ _ h => h) (by rfl) ?_ ?_
              rotate_left
              · intro w
                go_simp
                first | done | with_reducible rfl
              try simp only [Act.put, List.setIfInBounds_toArray, List.set_cons_zero, List.set_cons_succ]
              refine wpAnyG_load (i := 5) (oi := ⟨some 35, _, _, _, _, _⟩) (v := ?_) rfl (by kernel_rfl) (by kernel_rfl) (by kernel_rfl) (by rfl) (fun _ _ _ h => h) (by rfl) ?_ (by assumption) ?_
              rotate_left
              · intro w hS
                try dsimp only at hS
                go_simp
                first | done | with_reducible rfl
              try simp only [Act.put, List.setIfInBounds_toArray, List.set_cons_zero, List.set_cons_succ]
              refine wpAnyG_pure (i := 6) (oi := ⟨some 36, _, _, _, _, _⟩) (v := ?_) rfl (by kernel_rfl) (by kernel_rfl) (by kernel_rfl) (by rfl) (fun _ _ _ h => h) (by rfl) ?_ ?_
              rotate_left
              · intro w
                go_simp
                first | done | with_reducible rfl
              try simp only [Act.put, List.setIfInBounds_toArray, List.set_cons_zero, List.set_cons_succ]
              refine wpAnyG_done (by kernel_rfl) ?_ _
              refine NoPanic.normal ?_
              go_wp2_with (with_reducible refine at_slot (k := some 42) ?_; refine wpList_append_run (o := ⟨some 42, _, _, _, _, _⟩) hap rfl rfl rfl rfl ?_; clear hap)
              go_roundw
              case rel => exact ⟨[], y :: b', out ++ [x], nextA ga oa 1, some ⟨gb, ob, none⟩, 0, cb, by simp [nextA], rfl, by first | omega | (simp <;> omega), by first | omega | (simp <;> omega), by omega, by omega, ra2, rb, by first | omega | (simp <;> omega), HM2.out, H6.out⟩
              case measure => simp [lenV] <;> omega
            · have hc2 : ¬ ca - 1 = 0 := by omega
              have hc3 : (1 : Int) ≤ ca := by omega
              have hc4 : ¬ (ca : Int) = 1 := by omega
              go_wp2_with fail
              refine wp_region_text [2, 5] (fun w' => w'.cell? ⟨ga, oa, none⟩ = some (.int .i64 x) ∧ w'.cell? ⟨gb, ob, none⟩ = some (.int .i64 y)) (by kernel_rfl) ?_ (fun hS => ?_)
              · exact ⟨d1, d2⟩
              refine wpAnyG_pure (i := 0) (oi := ⟨some 30, _, _, _, _, _⟩) (v := ?_) rfl (by kernel_rfl) (by kernel_rfl) (by kernel_rfl) (by rfl) (fun _ _ _ h => h) (by rfl) ?_ ?_
              rotate_left
              · intro w
                go_simp
                first | done | with_reducible rfl
              try simp only [Act.put, List.setIfInBounds_toArray, List.set_cons_zero, List.set_cons_succ]
              refine wpAnyG_pure (i := 1) (oi := ⟨some 31, _, _, _, _, _⟩) (v := ?_) rfl (by kernel_rfl) (by kernel_rfl) (by kernel_rfl) (by rfl) (fun _ _ _ h => h) (by rfl) ?_ ?_
              rotate_left
              · intro w
                go_simp
                first | done | with_reducible rfl
              try simp only [Act.put, List.setIfInBounds_toArray, List.set_cons_zero, List.set_cons_succ]
              refine wpAnyG_load (i := 2) (oi := ⟨some 32, _, _, _, _, _⟩) (v := ?_) rfl (by kernel_rfl) (by kernel_rfl) (by kernel_rfl) (by rfl) (fun _ _ _ h => h) (by rfl) ?_ (by assumption) ?_
              rotate_left
              · intro w hS
                try dsimp only at hS
                go_simp
                first | done | with_reducible rfl
              try simp only [Act.put, List.setIfInBounds_toArray, List.set_cons_zero, List.set_cons_succ]
              refine wpAnyG_pure (i := 3) (oi := ⟨some 33, _, _, _, _, _⟩) (v := ?_) rfl (by kernel_rfl) (by kernel_rfl) (by kernel_rfl) (by rfl) (fun _ _ _ h => h) (by rfl) ?_ ?_
              rotate_left
              · intro w
                go_simp
                first | done | with_reducible rfl
              try simp only [Act.put, List.setIfInBounds_toArray, List.set_cons_zero, List.set_cons_succ]
              refine wpAnyG_pure (i := 4) (oi := ⟨some 34, _, _, _, _, _⟩) (v := ?_) rfl (by kernel_rfl) (by kernel_rfl) (by kernel_rfl) (by rfl) (fun _ _ _ h => h) (by rfl) ?_ ?_
              rotate_left
              · intro w
                go_simp
                first | done | with_reducible rfl
              try simp only [Act.put, List.setIfInBounds_toArray, List.set_cons_zero, List.set_cons_succ]
              refine wpAnyG_load (i := 5) (oi := ⟨some 35, _, _, _, _, _⟩) (v := ?_) rfl (by kernel_rfl) (by kernel_rfl) (by kernel_rfl) (by rfl) (fun _ _ _ h => h) (by rfl) ?_ (by assumption) ?_
              rotate_left
              · intro w hS
                try dsimp only at hS
                go_simp
                first | done | with_reducible rfl
              try simp only [Act.put, List.setIfInBounds_toArray, List.set_cons_zero, List.set_cons_succ]
              refine wpAnyG_pure (i := 6) (oi := ⟨some 36, _, _, _, _, _⟩) (v := ?_) rfl (by kernel_rfl) (by kernel_rfl) (by kernel_rfl) (by rfl) (fun _ _ _ h => h) (by rfl) ?_ ?_
              rotate_left
              · intro w
                go_simp
                first | done | with_reducible rfl
              try simp only [Act.put, List.setIfInBounds_toArray, List.set_cons_zero, List.set_cons_succ]
              refine wpAnyG_done (by kernel_rfl) ?_ _
              refine NoPanic.normal ?_
              go_wp2_with (with_reducible refine at_slot (k := some 42) ?_; refine wpList_append_run (o := ⟨some 42, _, _, _, _, _⟩) hap rfl rfl rfl rfl ?_; clear hap)
              go_roundw
              case rel => exact ⟨a, y :: b', out ++ [x], nextA ga oa ca, some ⟨gb, ob, none⟩, ca - 1, cb, by simp [nextA, hc1], rfl, by first | omega | (simp <;> omega), by first | omega | (simp <;> omega), by omega, by omega, ra2, rb, by first | omega | (simp <;> omega), HM2.out, H6.out⟩
              case measure => simp [lenV] <;> omega
          · skip
            have hxyi : ¬ x ≤ y := hxy
            obtain ⟨v', w6, hap, h⟩ := lst_append_new (P := Tryd.prog) (t := LIT) (ty := LIT) lit_u it_info (by rfl) hd #[.int .i64 y] 1 rfl (VI_one [y]) (by unfold maxLen; rw [List.length_map]; omega) (by rw [List.length_map]; omega)
            have e9 : out.map VI ++ (#[Value.int .i64 y] : Array Value).toList = (out ++ [y]).map VI := by simp
            rw [e9] at h
            have HM2 := Lib.hid (HM.out.right hxy)
            have H6 := Lib.hid h
            clear h hd e9 HM
            by_cases hc1 : cb = 1
            · obtain rfl : b' = [] := List.eq_nil_of_length_eq_zero (by omega)
              subst hc1
              go_wp2_with fail
              refine wp_region_text [2, 5] (fun w' => w'.cell? ⟨ga, oa, none⟩ = some (.int .i64 x) ∧ w'.cell? ⟨gb, ob, none⟩ = some (.int .i64 y)) (by kernel_rfl) ?_ (fun hS => ?_)
              · exact ⟨d1, d2⟩
              refine wpAnyG_pure (i := 0) (oi := ⟨some 30, _, _, _, _, _⟩) (v := ?_) rfl (by kernel_rfl) (by kernel_rfl) (by kernel_rfl) (by rfl) (fun _ _ _ h => h) (by rfl) ?_ ?_
              rotate_left
              · intro w
                go_simp
                first | done | with_reducible rfl
              try simp only [Act.put, List.setIfInBounds_toArray, List.set_cons_zero, List.set_cons_succ]
              refine wpAnyG_pure (i := 1) (oi := ⟨some 31, _, _, _, _, _⟩) (v := ?_) rfl (by kernel_rfl) (by kernel_rfl) (by kernel_rfl) (by rfl) (fun _ _ _ h => h) (by rfl) ?_ ?_
              rotate_left
              · intro w
                go_simp
                first | done | with_reducible rfl
              try simp only [Act.put, List.setIfInBounds_toArray, List.set_cons_zero, List.set_cons_succ]
              refine wpAnyG_load (i := 2) (oi := ⟨some 32, _, _, _, _, _⟩) (v := ?_) rfl (by kernel_rfl) (by kernel_rfl) (by kernel_rfl) (by rfl) (fun _ _ _ h => h) (by rfl) ?_ (by assumption) ?_
              rotate_left
              · intro w hS
                try dsimp only at hS
                go_simp
                first | done | with_reducible rfl
              try simp only [Act.put, List.setIfInBounds_toArray, List.set_cons_zero, List.set_cons_succ]
              refine wpAnyG_pure (i := 3) (oi := ⟨some 33, _, _, _, _, _⟩) (v := ?_) rfl (by kernel_rfl) (by kernel_rfl) (by kernel_rfl) (by rfl) (fun _ _ _ h => h) (by rfl) ?_ ?_
              rotate_left
              · intro w
                go_simp
                first | done | with_reducible rfl
              try simp only [Act.put, List.setIfInBounds_toArray, List.set_cons_zero, List.set_cons_succ]
              refine wpAnyG_pure (i := 4) (oi := ⟨some 34, _, _, _, _, _⟩) (v := ?_) rfl (by kernel_rfl) (by kernel_rfl) (by kernel_rfl) (by rfl) (fun _ _ _ h => h) (by rfl) ?_ ?_
              rotate_left
              · intro w
                go_simp
                first | done | with_reducible rfl
              try simp only [Act.put, List.setIfInBounds_toArray, List.set_cons_zero, List.set_cons_succ]
              refine wpAnyG_load (i := 5) (oi := ⟨some 35, _, _, _, _, _⟩) (v := ?_) rfl (by kernel_rfl) (by kernel_rfl) (by kernel_rfl) (by rfl) (fun _ _ _ h => h) (by rfl) ?_ (by assumption) ?_
              rotate_left
              · intro w hS
                try dsimp only at hS
                go_simp
                first | done | with_reducible rfl
              try simp only [Act.put, List.setIfInBounds_toArray, List.set_cons_zero, List.set_cons_succ]
              refine wpAnyG_pure (i := 6) (oi := ⟨some 36, _, _, _, _, _⟩) (v := ?_) rfl (by kernel_rfl) (by kernel_rfl) (by kernel_rfl) (by rfl) (fun _ _ _ h => h) (by rfl) ?_ ?_
              rotate_left
              · intro w
                go_simp
                first | done | with_reducible rfl
              try simp only [Act.put, List.setIfInBounds_toArray, List.set_cons_zero, List.set_cons_succ]
              refine wpAnyG_done (by kernel_rfl) ?_ _
              refine NoPanic.normal ?_
              go_wp2_with (with_reducible refine at_slot (k := some 50) ?_; refine wpList_append_run (o := ⟨some 50, _, _, _, _, _⟩) hap rfl rfl rfl rfl ?_; clear hap)
              go_roundw
              case rel => exact ⟨x :: a, [], out ++ [y], some ⟨ga, oa, none⟩, nextA gb ob 1, ca, 0, rfl, by simp [nextA], by first | omega | (simp <;> omega), by first | omega | (simp <;> omega), by omega, by omega, ra, rb2, by first | omega | (simp <;> omega), HM2.out, H6.out⟩
              case measure => simp [lenV] <;> omega
            · have hc2 : ¬ cb - 1 = 0 := by omega
              have hc3 : (1 : Int) ≤ cb := by omega
              have hc4 : ¬ (cb : Int) = 1 := by omega
              go_wp2_with fail
              refine wp_region_text [2, 5] (fun w' => w'.cell? ⟨ga, oa, none⟩ = some (.int .i64 x) ∧ w'.cell? ⟨gb, ob, none⟩ = some (.int .i64 y)) (by kernel_rfl) ?_ (fun hS => ?_)
              · exact ⟨d1, d2⟩
              refine wpAnyG_pure (i := 0) (oi := ⟨some 30, _, _, _, _, _⟩) (v := ?_) rfl (by kernel_rfl) (by kernel_rfl) (by kernel_rfl) (by rfl) (fun _ _ _ h => h) (by rfl) ?_ ?_
              rotate_left
              · intro w
                go_simp
                first | done | with_reducible rfl
              try simp only [Act.put, List.setIfInBounds_toArray, List.set_cons_zero, List.set_cons_succ]
              refine wpAnyG_pure (i := 1) (oi := ⟨some 31, _, _, _, _, _⟩) (v := ?_) rfl (by kernel_rfl) (by kernel_rfl) (by kernel_rfl) (by rfl) (fun _ _ _ h => h) (by rfl) ?_ ?_
              rotate_left
              · intro w
                go_simp
                first | done | with_reducible rfl
              try simp only [Act.put, List.setIfInBounds_toArray, List.set_cons_zero, List.set_cons_succ]
              refine wpAnyG_load (i := 2) (oi := ⟨some 32, _, _, _, _, _⟩) (v := ?_) rfl (by kernel_rfl) (by kernel_rfl) (by kernel_rfl) (by rfl) (fun _ _ _ h => h) (by rfl) ?_ (by assumption) ?_
              rotate_left
              · intro w hS
                try dsimp only at hS
                go_simp
                first | done | with_reducible rfl
              try simp only [Act.put, List.setIfInBounds_toArray, List.set_cons_zero, List.set_cons_succ]
              refine wpAnyG_pure (i := 3) (oi := ⟨some 33, _, _, _, _, _⟩) (v := ?_) rfl (by kernel_rfl) (by kernel_rfl) (by kernel_rfl) (by rfl) (fun _ _ _ h => h) (by rfl) ?_ ?_
              rotate_left
              · intro w
                go_simp
                first | done | with_reducible rfl
              try simp only [Act.put, List.setIfInBounds_toArray, List.set_cons_zero, List.set_cons_succ]
              refine wpAnyG_pure (i := 4) (oi := ⟨some 34, _, _, _, _, _⟩) (v := ?_) rfl (by kernel_rfl) (by kernel_rfl) (by kernel_rfl) (by rfl) (fun _ _ _ h => h) (by rfl) ?_ ?_
              rotate_left
              · intro w
                go_simp
                first | done | with_reducible rfl
              try simp only [Act.put, List.setIfInBounds_toArray, List.set_cons_zero, List.set_cons_succ]
              refine wpAnyG_load (i := 5) (oi := ⟨some 35, _, _, _, _, _⟩) (v := ?_) rfl (by kernel_rfl) (by kernel_rfl) (by kernel_rfl) (by rfl) (fun _ _ _ h => h) (by rfl) ?_ (by assumption) ?_
              rotate_left
              · intro w hS
                try dsimp only at hS
                go_simp
                first | done | with_reducible rfl
              try simp only [Act.put, List.setIfInBounds_toArray, List.set_cons_zero, List.set_cons_succ]
              refine wpAnyG_pure (i := 6) (oi := ⟨some 36, _, _, _, _, _⟩) (v := ?_) rfl (by kernel_rfl) (by kernel_rfl) (by kernel_rfl) (by rfl) (fun _ _ _ h => h) (by rfl) ?_ ?_
              rotate_left
              · intro w
                go_simp
                first | done | with_reducible rfl
              try simp only [Act.put, List.setIfInBounds_toArray, List.set_cons_zero, List.set_cons_succ]
              refine wpAnyG_done (by kernel_rfl) ?_ _
              refine NoPanic.normal ?_
              go_wp2_with (with_reducible refine at_slot (k := some 50) ?_; refine wpList_append_run (o := ⟨some 50, _, _, _, _, _⟩) hap rfl rfl rfl rfl ?_; clear hap)
              go_roundw
              case rel => exact ⟨x :: a, b', out ++ [y], some ⟨ga, oa, none⟩, nextA gb ob cb, ca, cb - 1, rfl, by simp [nextA, hc1], by first | omega | (simp <;> omega), by first | omega | (simp <;> omega), by omega, by omega, ra, rb2, by first | omega | (simp <;> omega), HM2.out, H6.out⟩
              case measure => simp [lenV] <;> omega
end
end Go.Proofs.YtbclmmneiphcaaaDoor
namespace Go.Proofs.YtbclmmneiphcaaaDoor
open Go.RowKit
section
variable {E : World} {S : Ph} {L : List Hp}
set_option maxRecDepth 100000 in
set_option maxHeartbeats 2000000 in
theorem repeats_any (A : Option Addr) (n c : Nat) (xs : List Int) (w : World) (hn : n ≤ 4294967296) (hc : n ≤ c) (hm : c ≤ maxLen) (hr : Rds S 1 en64 A n xs) (h : Own E w (Hp.ro S :: L)) :
    Calls Tryd.prog 75 #[.slice A n c] w fun e w' => e = .returned (.bool (!decide xs.Nodup)) ∧ Own E w' (Hp.ro S :: L) := by
  have c1 := sorted_any (E := E) n S L A c xs w hn hc hm hr h
  clear h hr hc hm
  go_enter Tryd.func75, Tryd.ntmps75
  go_wp2_with fail
  with_reducible refine c1.mono ?_
  rintro e w1 ⟨T, A', c', ys, rfl, hx, -, -, hr, hp, hs, h⟩
  clear c1
  have hnd : ys.Nodup ↔ xs.Nodup := hp.nodup_iff
  have HX := Lib.hid hx
  have HN := Lib.hid hnd
  have HS := Lib.hid hs
  have H := Lib.hid h
  clear hx hnd hs hp h
  go_wp2_with fail
  go_loopw [4] (fun i wr => ∃ k : Nat, (k = 0 ∨ k < n) ∧ i = .int .i64 ((k : Int) + 1) ∧ (∀ i a b, i + 1 < k + 1 → ys[i]? = some a → ys[i + 1]? = some b → a ≠ b) ∧ Own E wr (Hp.ro T :: L)) (fun i _ => n + 1 - (intOf i).toNat)
  case atStart => exact ⟨0, by omega, rfl, fun i _ _ hi => absurd hi (by omega), H.out⟩
  case round =>
    obtain ⟨k, hk, rfl, hp, hw⟩ := hrel
    clear H
    have HP := Lib.hid hp
    clear hp
    by_cases hlt : k + 1 < n
    · obtain ⟨y, g, off, hy, rfl, hcy⟩ := hr.get1 hlt
      obtain ⟨x, g', off', hx, e1, hcx⟩ := hr.get1 (show k < n by omega)
      injection e1 with e1
      injection e1 with e1 e2
      subst e1 e2
      have d1 := hw.drew.rd (hcy _ rfl)
      have d2 := hw.drew.rd (hcx _ rfl)
      have HXX := Lib.hid hx
      have HY := Lib.hid hy
      have HW := Lib.hid hw.drew
      clear hcx hcy hx hy hw hk
      have j1 : IntKind.i64.wrap ((k : Int) + 1 - 1) = (k : Int) := by rw [show (k : Int) + 1 - 1 = k by omega]; exact IntWalk.i64_in _ (by omega)
      have j1b : IntKind.i64.wrap (k : Int) = (k : Int) := IntWalk.i64_in _ (by omega)
      have j2 : (0 : Int) ≤ (k : Int) + 1 := by omega
      have j3 : (k : Int) + 1 < (n : Int) := by omega
      have j4 : (0 : Int) ≤ (k : Int) := by omega
      have j5 : (k : Int) < (n : Int) := by omega
      have j6 : ((k : Int) + 1).toNat = k + 1 := by omega
      by_cases hxy : y = x
      · have HR := Lib.hid (not_nodup_of (HXX.out.trans (by rw [hxy])) HY.out)
        have hxyi : (y == x) = true := by rw [hxy]; simp
        go_wp2_with fail
        refine wp_region_text [3, 8] (fun w' => w'.cell? ⟨g, off + (k + 1), none⟩ = some (.int .i64 y) ∧ w'.cell? ⟨g, off + k, none⟩ = some (.int .i64 x)) (by kernel_rfl) ?_ (fun hS => ?_)
        · exact ⟨d1, d2⟩
        refine wpAnyG_pure (i := 0) (oi := ⟨some 13, _, _, _, _, _⟩) (v := ?_) rfl (by kernel_rfl) (by kernel_rfl) (by kernel_rfl) (by rfl) (fun _ _ _ h => h) (by rfl) ?_ ?_
        rotate_left
        · intro w
          go_simp
          first | done | with_reducible rfl
        try simp only [Act.put, List.setIfInBounds_toArray, List.set_cons_zero, List.set_cons_succ]
        refine wpAnyG_pure (i := 1) (oi := ⟨some 14, _, _, _, _, _⟩) (v := ?_) rfl (by kernel_rfl) (by kernel_rfl) (by kernel_rfl) (by rfl) (fun _ _ _ h => h) (by rfl) ?_ ?_
        rotate_left
        · intro w
          go_simp
          first | done | with_reducible rfl
        try simp only [Act.put, List.setIfInBounds_toArray, List.set_cons_zero, List.set_cons_succ]
        refine wpAnyG_pure (i := 2) (oi := ⟨some 15, _, _, _, _, _⟩) (v := ?_) rfl (by kernel_rfl) (by kernel_rfl) (by kernel_rfl) (by rfl) (fun _ _ _ h => h) (by rfl) ?_ ?_
        rotate_left
        · intro w
          go_simp
          first | done | with_reducible rfl
        try simp only [Act.put, List.setIfInBounds_toArray, List.set_cons_zero, List.set_cons_succ]
        refine wpAnyG_load (i := 3) (oi := ⟨some 16, _, _, _, _, _⟩) (v := ?_) rfl (by kernel_rfl) (by kernel_rfl) (by kernel_rfl) (by rfl) (fun _ _ _ h => h) (by rfl) ?_ (by assumption) ?_
        rotate_left
        · intro w hS
          try dsimp only at hS
          go_simp
          first | done | with_reducible rfl
        try simp only [Act.put, List.setIfInBounds_toArray, List.set_cons_zero, List.set_cons_succ]
        refine wpAnyG_pure (i := 4) (oi := ⟨some 17, _, _, _, _, _⟩) (v := ?_) rfl (by kernel_rfl) (by kernel_rfl) (by kernel_rfl) (by rfl) (fun _ _ _ h => h) (by rfl) ?_ ?_
        rotate_left
        · intro w
          go_simp
          first | done | with_reducible rfl
        try simp only [Act.put, List.setIfInBounds_toArray, List.set_cons_zero, List.set_cons_succ]
        refine wpAnyG_pure (i := 5) (oi := ⟨some 18, _, _, _, _, _⟩) (v := ?_) rfl (by kernel_rfl) (by kernel_rfl) (by kernel_rfl) (by rfl) (fun _ _ _ h => h) (by rfl) ?_ ?_
        rotate_left
        · intro w
          go_simp
          first | done | with_reducible rfl
        try simp only [Act.put, List.setIfInBounds_toArray, List.set_cons_zero, List.set_cons_succ]
        refine wpAnyG_pure (i := 6) (oi := ⟨some 19, _, _, _, _, _⟩) (v := ?_) rfl (by kernel_rfl) (by kernel_rfl) (by kernel_rfl) (by rfl) (fun _ _ _ h => h) (by rfl) ?_ ?_
        rotate_left
        · intro w
          go_simp
          first | done | with_reducible rfl
        try simp only [Act.put, List.setIfInBounds_toArray, List.set_cons_zero, List.set_cons_succ]
        refine wpAnyG_pure (i := 7) (oi := ⟨some 20, _, _, _, _, _⟩) (v := ?_) rfl (by kernel_rfl) (by kernel_rfl) (by kernel_rfl) (by rfl) (fun _ _ _ h => h) (by rfl) ?_ ?_
        rotate_left
        · intro w
          go_simp
          first | done | with_reducible rfl
        try simp only [Act.put, List.setIfInBounds_toArray, List.set_cons_zero, List.set_cons_succ]
        refine wpAnyG_load (i := 8) (oi := ⟨some 21, _, _, _, _, _⟩) (v := ?_) rfl (by kernel_rfl) (by kernel_rfl) (by kernel_rfl) (by rfl) (fun _ _ _ h => h) (by rfl) ?_ (by assumption) ?_
        rotate_left
        · intro w hS
          try dsimp only at hS
          go_simp
          first | done | with_reducible rfl
        try simp only [Act.put, List.setIfInBounds_toArray, List.set_cons_zero, List.set_cons_succ]
        refine wpAnyG_pure (i := 9) (oi := ⟨some 22, _, _, _, _, _⟩) (v := ?_) rfl (by kernel_rfl) (by kernel_rfl) (by kernel_rfl) (by rfl) (fun _ _ _ h => h) (by rfl) ?_ ?_
        rotate_left
        · intro w
          go_simp
          first | done | with_reducible rfl
        try simp only [Act.put, List.setIfInBounds_toArray, List.set_cons_zero, List.set_cons_succ]
        refine wpAnyG_done (by kernel_rfl) ?_ _
        refine NoPanic.normal ?_
        go_wp2_with fail
        go_ret
        have hno : ¬ xs.Nodup := fun hq => HR.out (HN.out.2 hq)
        rw [decide_eq_false hno]
        exact ⟨rfl, HW.out.back HX.out⟩
      · have hxyi : (y == x) = false := by simp; exact hxy
        have HR := Lib.hid (show ∀ i a b, i + 1 < k + 1 + 1 → ys[i]? = some a → ys[i + 1]? = some b → a ≠ b by
          intro i a b hi ha hb
          rcases Nat.lt_or_ge (i + 1) (k + 1) with hlt2 | hge
          · exact HP.out i a b hlt2 ha hb
          · obtain rfl : i = k := by omega
            rw [HXX.out] at ha
            rw [HY.out] at hb
            injection ha with ha
            injection hb with hb
            subst ha hb
            exact fun e => hxy e.symm)
        go_wp2_with fail
        refine wp_region_text [3, 8] (fun w' => w'.cell? ⟨g, off + (k + 1), none⟩ = some (.int .i64 y) ∧ w'.cell? ⟨g, off + k, none⟩ = some (.int .i64 x)) (by kernel_rfl) ?_ (fun hS => ?_)
        · exact ⟨d1, d2⟩
        refine wpAnyG_pure (i := 0) (oi := ⟨some 13, _, _, _, _, _⟩) (v := ?_) rfl (by kernel_rfl) (by kernel_rfl) (by kernel_rfl) (by rfl) (fun _ _ _ h => h) (by rfl) ?_ ?_
        rotate_left
        · intro w
          go_simp
          first | done | with_reducible rfl
        try simp only [Act.put, List.setIfInBounds_toArray, List.set_cons_zero, List.set_cons_succ]
        refine wpAnyG_pure (i := 1) (oi := ⟨some 14, _, _, _, _, _⟩) (v := ?_) rfl (by kernel_rfl) (by kernel_rfl) (by kernel_rfl) (by rfl) (fun _ _ _ h => h) (by rfl) ?_ ?_
        rotate_left
        · intro w
          go_simp
          first | done | with_reducible rfl
        try simp only [Act.put, List.setIfInBounds_toArray, List.set_cons_zero, List.set_cons_succ]
        refine wpAnyG_pure (i := 2) (oi := ⟨some 15, _, _, _, _, _⟩) (v := ?_) rfl (by kernel_rfl) (by kernel_rfl) (by kernel_rfl) (by rfl) (fun _ _ _ h => h) (by rfl) ?_ ?_
        rotate_left
        · intro w
          go_simp
          first | done | with_reducible rfl
        try simp only [Act.put, List.setIfInBounds_toArray, List.set_cons_zero, List.set_cons_succ]
        refine wpAnyG_load (i := 3) (oi := ⟨some 16, _, _, _, _, _⟩) (v := ?_) rfl (by kernel_rfl) (by kernel_rfl) (by kernel_rfl) (by rfl) (fun _ _ _ h => h) (by rfl) ?_ (by assumption) ?_
        rotate_left
        · intro w hS
          try dsimp only at hS
          go_simp
          first | done | with_reducible rfl
        try simp only [Act.put, List.setIfInBounds_toArray, List.set_cons_zero, List.set_cons_succ]
        refine wpAnyG_pure (i := 4) (oi := ⟨some 17, _, _, _, _, _⟩) (v := ?_) rfl (by kernel_rfl) (by kernel_rfl) (by kernel_rfl) (by rfl) (fun _ _ _ h => h) (by rfl) ?_ ?_
        rotate_left
        · intro w
          go_simp
          first | done | with_reducible rfl
        try simp only [Act.put, List.setIfInBounds_toArray, List.set_cons_zero, List.set_cons_succ]
        refine wpAnyG_pure (i := 5) (oi := ⟨some 18, _, _, _, _, _⟩) (v := ?_) rfl (by kernel_rfl) (by kernel_rfl) (by kernel_rfl) (by rfl) (fun _ _ _ h => h) (by rfl) ?_ ?_
        rotate_left
        · intro w
          go_simp
          first | done | with_reducible rfl
        try simp only [Act.put, List.setIfInBounds_toArray, List.set_cons_zero, List.set_cons_succ]
        refine wpAnyG_pure (i := 6) (oi := ⟨some 19, _, _, _, _, _⟩) (v := ?_) rfl (by kernel_rfl) (by kernel_rfl) (by kernel_rfl) (by rfl) (fun _ _ _ h => h) (by rfl) ?_ ?_
        rotate_left
        · intro w
          go_simp
          first | done | with_reducible rfl
        try simp only [Act.put, List.setIfInBounds_toArray, List.set_cons_zero, List.set_cons_succ]
        refine wpAnyG_pure (i := 7) (oi := ⟨some 20, _, _, _, _, _⟩) (v := ?_) rfl (by kernel_rfl) (by kernel_rfl) (by kernel_rfl) (by rfl) (fun _ _ _ h => h) (by rfl) ?_ ?_
        rotate_left
        · intro w
          go_simp
          first | done | with_reducible rfl
        try simp only [Act.put, List.setIfInBounds_toArray, List.set_cons_zero, List.set_cons_succ]
        refine wpAnyG_load (i := 8) (oi := ⟨some 21, _, _, _, _, _⟩) (v := ?_) rfl (by kernel_rfl) (by kernel_rfl) (by kernel_rfl) (by rfl) (fun _ _ _ h => h) (by rfl) ?_ (by assumption) ?_
        rotate_left
        · intro w hS
          try dsimp only at hS
          go_simp
          first | done | with_reducible rfl
        try simp only [Act.put, List.setIfInBounds_toArray, List.set_cons_zero, List.set_cons_succ]
        refine wpAnyG_pure (i := 9) (oi := ⟨some 22, _, _, _, _, _⟩) (v := ?_) rfl (by kernel_rfl) (by kernel_rfl) (by kernel_rfl) (by rfl) (fun _ _ _ h => h) (by rfl) ?_ ?_
        rotate_left
        · intro w
          go_simp
          first | done | with_reducible rfl
        try simp only [Act.put, List.setIfInBounds_toArray, List.set_cons_zero, List.set_cons_succ]
        refine wpAnyG_done (by kernel_rfl) ?_ _
        refine NoPanic.normal ?_
        go_wp2_with fail
        go_roundw
        case rel => exact ⟨k + 1, by omega, by go_num, HR.out, HW.out⟩
        case measure => simp [intOf]; omega
    · have e0 : xs.Nodup := HN.out.1 (srt_dup HS.out fun i a b ha hb => HP.out i a b (by have := (List.getElem?_eq_some_iff.1 hb).1; have := hr.1; omega) ha hb)
      have hlti : ¬ (k : Int) + 1 < n := by omega
      have E0 := Lib.hid e0
      have HW := Lib.hid hw
      clear e0 hw hk
      go_wp2_with fail
      go_ret
      rw [decide_eq_true E0.out]
      exact ⟨rfl, HW.out.back HX.out⟩
/-- keys: may they be? -/
theorem isKeyB_false {s : ByteArray} (h : ¬ (1 ≤ s.size ∧ s.size ≤ 36)) : isKeyB s = false := decide_eq_false h
set_option maxRecDepth 100000 in
set_option maxHeartbeats 2000000 in
theorem xkeys_any (A : Option Addr) (n c : Nat) (xs : List ByteArray) (w : World) (hn : n ≤ 1125899906842624) (hr : Rds S 1 enStr A n xs) (h : Own E w (Hp.ro S :: L)) :
    Calls Tryd.prog 72 #[.slice A n c] w fun e w' => e = .returned (.bool (mayB xs)) ∧ Own E w' (Hp.ro S :: L) := by
  have k1 := fun w hw => xrises_any (E := E) (L := L) A n c xs w hn hr hw
  have K1 := Lib.hid k1
  have H0 := Lib.hid h
  clear k1 h
  go_enter Tryd.func72, Tryd.ntmps72
  go_wp2_with fail
  go_loopw [3] (fun i wr => ∃ k : Nat, k ≤ n ∧ i = .int .i64 k ∧ (∀ i x, i < k → xs[i]? = some x → isKeyB x = true) ∧ Own E wr (Hp.ro S :: L)) (fun i _ => n - (intOf i).toNat)
  case atStart => exact ⟨0, by omega, rfl, fun i _ hi => absurd hi (by omega), H0.out⟩
  case round =>
    obtain ⟨k, hk, rfl, hp, hw⟩ := hrel
    clear H0
    have HP := Lib.hid hp
    clear hp
    by_cases hlt : k < n
    · obtain ⟨x, g, off, hx, rfl, hcx⟩ := hr.get1 hlt
      have d1 := hw.rd (hcx _ rfl)
      have HXX := Lib.hid hx
      have HW := Lib.hid hw
      clear hcx hx hw
      have hno : isKeyB x = false → mayB xs = false := fun hf => by
        unfold mayB
        rw [Bool.and_eq_false_iff]
        left
        rw [List.all_eq_false]
        exact ⟨x, List.mem_of_getElem? HXX.out, by rw [hf]; simp⟩
      have HNO := Lib.hid hno
      clear hno
      by_cases h1 : x.size < 1
      · have h1i : (x.size : Int) < 1 := by omega
        go_wp2_with fail
        go_ret
        rw [HNO.out (isKeyB_false (by omega))]
        exact ⟨rfl, HW.out⟩
      · have h1i : ¬ (x.size : Int) < 1 := by omega
        by_cases h2 : 36 < x.size
        · have h2i : (36 : Int) < x.size := by omega
          go_wp2_with fail
          go_ret
          rw [HNO.out (isKeyB_false (by omega))]
          exact ⟨rfl, HW.out⟩
        · have h2i : ¬ (36 : Int) < x.size := by omega
          have HR := Lib.hid (show ∀ i z, i < k + 1 → xs[i]? = some z → isKeyB z = true by
            intro i z hi hz
            rcases Nat.lt_or_ge i k with hlt2 | hge
            · exact HP.out i z hlt2 hz
            · obtain rfl : i = k := by omega
              rw [HXX.out] at hz
              injection hz with hz
              subst hz
              exact decide_eq_true ⟨by omega, by omega⟩)
          go_wp2_with fail
          go_roundw
          case rel => exact ⟨k + 1, by omega, by go_num, HR.out, HW.out⟩
          case measure => simp [intOf]; omega
    · obtain rfl : k = n := by omega
      have e0 : mayB xs = risesB xs := by
        unfold mayB
        rw [show xs.all isKeyB = true from List.all_eq_true.2 fun x hx => by
          obtain ⟨i, hi, rfl⟩ := List.getElem_of_mem hx
          exact HP.out i _ (by have := hr.1; omega) (List.getElem?_eq_getElem hi), Bool.true_and]
      have E0 := Lib.hid e0
      have HW := Lib.hid hw
      clear e0 hw hk
      go_wp2_with fail
      with_reducible refine (K1.out _ HW.out).mono ?_
      rintro e w2 ⟨rfl, h⟩
      go_wp2_with fail
      go_ret
      rw [E0.out]
      exact ⟨rfl, h⟩
end
end Go.Proofs.YtbclmmneiphcaaaDoor
