/- slices.Clip, slices.Clone, node.own: lists of their own. -/
import Derived.Test.YtbclmmneiphcaaaDoorNdOk
import Derived.Test.YtbclmmneiphcaaaDoorLst
import Derived.Lib.SliceRun
namespace Go.Proofs.YtbclmmneiphcaaaDoor
open Go.RowKit
abbrev LST : TypeId := 22
abbrev LIT : TypeId := 23
abbrev IT : TypeId := 3
abbrev VS (s : ByteArray) : Value := .string s
abbrev VI (n : Int) : Value := .int .i64 n
theorem st_info : (Tryd.prog.info? ST).map (fun i => (i.zero, i.size, i.bytes)) = some (some (.string ⟨#[]⟩), 1, 16) := by kernel_rfl
theorem it_info : (Tryd.prog.info? IT).map (fun i => (i.zero, i.size, i.bytes)) = some (some (.int .i64 0), 1, 8) := by kernel_rfl
theorem lst_u : Tryd.prog.underlying LST = some (.slice ST) := by kernel_rfl
theorem lit_u : Tryd.prog.underlying LIT = some (.slice IT) := by kernel_rfl
theorem VS_one (l : List ByteArray) : ∀ v ∈ l.map VS, v.oneCell' = true := by
  intro v hv
  obtain ⟨z, _, rfl⟩ := List.mem_map.1 hv
  rfl
theorem VI_one (l : List Int) : ∀ v ∈ l.map VI, v.oneCell' = true := by
  intro v hv
  obtain ⟨z, _, rfl⟩ := List.mem_map.1 hv
  rfl
abbrev Hp.strs (v : Value) (l : List ByteArray) : Hp := Hp.lst ST v (l.map VS)
abbrev Hp.ints (v : Value) (l : List Int) : Hp := Hp.lst IT v (l.map VI)
section
variable {E : World} {S : Ph} {L : List Hp}
theorem Rds.none_nil {α : Type} {S : Ph} {size : Nat} {en : α → List Value} {n : Nat} {xs : List α} (h : Rds S size en none n xs) : n = 0 ∧ xs = [] := by
  have : ¬ 0 < xs.length := fun hp => by
    obtain ⟨b, off, e, _⟩ := h.2.2 0 hp
    cases e
  have h1 := h.1
  exact ⟨by omega, List.eq_nil_of_length_eq_zero (by omega)⟩
theorem clip_str (A : Option Addr) (n c : Nat) (l : List ByteArray) (w : World) (h : Own E w (Hp.strs (.slice A n c) l :: L)) :
    Calls Tryd.prog 59 #[.slice A n c] w fun e w' => ∃ v, e = .returned v ∧ Own E w' (Hp.strs v l :: L) := by
  obtain ⟨A', c', hv, hc, hm⟩ := h.lstSlice
  injection hv with e1 e2 e3
  subst e1 e3
  rw [← e2] at hc
  have h2 := h.lstClip.2
  unfold maxLen at hm
  have H2 := Lib.hid h2
  clear h h2 e2
  have j1 : (n : Int) ≤ c := by omega
  have j2 : (0 : Int) ≤ n := by omega
  cases A with
  | none =>
    go_enter Tryd.func59, Tryd.ntmps59
    go_wp2_with fail
    go_ret
    exact ⟨_, rfl, H2.out⟩
  | some a =>
    go_enter Tryd.func59, Tryd.ntmps59
    go_wp2_with fail
    go_ret
    exact ⟨_, rfl, H2.out⟩
set_option maxRecDepth 100000 in
set_option maxHeartbeats 1000000 in
theorem clone_str (A : Option Addr) (n c : Nat) (l : List ByteArray) (w : World) (hn : n ≤ 4294967296) (hr : Rds S 1 enStr A n l) (h : Own E w (Hp.ro S :: L)) :
    Calls Tryd.prog 66 #[.slice A n c] w fun e w' => ∃ v, e = .returned v ∧ Own E w' (Hp.strs v l :: Hp.ro S :: L) := by
  cases A with
  | none =>
    obtain ⟨rfl, rfl⟩ := hr.none_nil
    have h2 := h.emptyLst ST none
    have heq : ∀ w, (binOp .eql LST (.slice none 0 c) (.slice none 0 0)).run Tryd.prog w = .ok (.bool true) w := fun w => Lib.run_eql_slice_nil w LST ST none 0 c 0 0 lst_u
    go_enter Tryd.func66, Tryd.ntmps66
    go_wp2_with fail
    go_ret
    exact ⟨_, rfl, h2⟩
  | some a =>
    have h1 := (h.alloc (.cells #[] ST)).drop
    have hrd : RdC (w.alloc (.cells #[] ST)) (some a) (l.map VS) := hr.rdC h1
    obtain ⟨v', w', hap, h2⟩ := lst_append (P := Tryd.prog) (t := LST) (ty := LST) lst_u st_info (by rfl) (h1.emptyLst ST (some ⟨w.heap.size, 0, none⟩)) (some a) n c (l.map VS) (by rw [List.length_map]; exact hr.1) hrd (VS_one l) (by unfold maxLen; simp; omega) (by simp; omega)
    have H2 := Lib.hid h2
    have heq : ∀ w, (binOp .eql LST (.slice (some a) n c) (.slice none 0 0)).run Tryd.prog w = .ok (.bool false) w := fun w => Lib.run_eql_slice_nil w LST ST (some a) n c 0 0 lst_u
    clear h h1 h2 hrd
    go_enter Tryd.func66, Tryd.ntmps66
    go_wp2_with (with_reducible refine at_slot (k := some 7) ?_; refine wpList_append_run (o := ⟨some 7, _, _, _, _, _⟩) hap rfl rfl rfl rfl ?_; clear hap)
    go_ret
    exact ⟨_, rfl, by simpa using H2.out⟩
set_option maxRecDepth 100000 in
set_option maxHeartbeats 1000000 in
theorem own_str (A : Option Addr) (n c i k : Nat) (l : List ByteArray) (w : World) (hn : n ≤ 4294967296) (hc : n ≤ c) (hik : i ≤ k) (hk : k ≤ n) (hr : Rds S 1 enStr A n l) (h : Own E w (Hp.ro S :: L)) :
    Calls Tryd.prog 85 #[.slice A n c, .int .i64 i, .int .i64 k] w fun e w' => ∃ v, e = .returned v ∧ Own E w' (Hp.strs v ((l.drop i).take (k - i)) :: Hp.ro S :: L) := by
  have j1 : (0 : Int) ≤ i := by omega
  have j2 : (i : Int) ≤ k := by omega
  have j3 : (k : Int) ≤ c := by omega
  have j4 : ((k : Int) - (i : Int)).toNat = k - i := by omega
  obtain ⟨A2, hA2, hr2, hA0⟩ : ∃ A2, (A2 = if k = i then A else A.map (fun a => a.add i)) ∧ Rds S 1 enStr A2 (k - i) ((l.drop i).take (k - i)) ∧ (A = none → i = 0 ∧ k = 0) := by
    by_cases hki : k = i
    · subst hki
      rw [if_pos rfl, Nat.sub_self, List.take_zero]
      exact ⟨A, rfl, ⟨rfl, fun _ => rfl, fun _ hk => by cases hk⟩, fun e => by subst e; have := hr.none_nil.1; omega⟩
    · rw [if_neg hki]
      cases A with
      | none => have := hr.none_nil.1; omega
      | some a =>
        refine ⟨some (a.add i), rfl, ?_, fun e => by cases e⟩
        obtain ⟨b, off, e, _⟩ := hr.2.2 0 (by have := hr.1; omega)
        injection e with e
        subst e
        rw [add_eq]
        exact hr.part i (k - i) (by omega)
  have hrd : RdC w A2 (((l.drop i).take (k - i)).map VS) := hr2.rdC h
  have hl2 : ((l.drop i).take (k - i)).length = k - i := hr2.1
  obtain ⟨v', w', hap, h2⟩ := lst_append (P := Tryd.prog) (t := LST) (ty := LST) lst_u st_info (by rfl) (h.emptyLst ST none) A2 (k - i) (k - i) (((l.drop i).take (k - i)).map VS) (by rw [List.length_map]; exact hl2) hrd (VS_one _) (by unfold maxLen; simp; omega) (by simp; omega)
  rw [List.nil_append] at h2
  obtain ⟨A3, c3, rfl, -⟩ := h2.lstSlice
  have H2 := Lib.hid h2
  clear h h2 hrd hr2 hr
  rw [List.length_map, hl2] at hap H2
  generalize (l.drop i).take (k - i) = l2 at *
  by_cases hki : k = i
  · subst hki
    rw [if_pos rfl] at hA2
    subst hA2
    rw [Nat.sub_self] at hap H2
    clear hA0
    cases A2 with
    | none =>
      go_enter Tryd.func85, Tryd.ntmps85
      go_wp2_with (with_reducible refine at_slot (k := some 12) ?_; refine wpList_append_run (o := ⟨some 12, _, _, _, _, _⟩) hap rfl rfl rfl rfl ?_; clear hap)
      refine (clip_str _ _ _ _ _ H2.out).mono ?_
      rintro e w3 ⟨v, rfl, h3⟩
      go_wp2_with fail
      go_ret
      exact ⟨_, rfl, h3⟩
    | some a =>
      go_enter Tryd.func85, Tryd.ntmps85
      go_wp2_with (with_reducible refine at_slot (k := some 12) ?_; refine wpList_append_run (o := ⟨some 12, _, _, _, _, _⟩) hap rfl rfl rfl rfl ?_; clear hap)
      refine (clip_str _ _ _ _ _ H2.out).mono ?_
      rintro e w3 ⟨v, rfl, h3⟩
      go_wp2_with fail
      go_ret
      exact ⟨_, rfl, h3⟩
  · rw [if_neg hki] at hA2
    cases A with
    | none => have := hA0 rfl; omega
    | some a =>
      obtain rfl : A2 = some (a.add i) := hA2
      have hki2 : ¬ i = k := fun e => hki e.symm
      have hki3 : (i : Int) < k := by omega
      have hki4 : ¬ (k - i = 0) := by omega
      have hki5 : ¬ ((k : Int) - i = 0) := by omega
      go_enter Tryd.func85, Tryd.ntmps85
      go_wp2_with (with_reducible refine at_slot (k := some 12) ?_; refine wpList_append_run (o := ⟨some 12, _, _, _, _, _⟩) hap rfl rfl rfl rfl ?_; clear hap)
      refine (clip_str _ _ _ _ _ H2.out).mono ?_
      rintro e w3 ⟨v, rfl, h3⟩
      go_wp2_with fail
      go_ret
      exact ⟨_, rfl, h3⟩
theorem clip_int (A : Option Addr) (n c : Nat) (l : List Int) (w : World) (h : Own E w (Hp.ints (.slice A n c) l :: L)) :
    Calls Tryd.prog 53 #[.slice A n c] w fun e w' => ∃ v, e = .returned v ∧ Own E w' (Hp.ints v l :: L) := by
  obtain ⟨A', c', hv, hc, hm⟩ := h.lstSlice
  injection hv with e1 e2 e3
  subst e1 e3
  rw [← e2] at hc
  have h2 := h.lstClip.2
  unfold maxLen at hm
  have H2 := Lib.hid h2
  clear h h2 e2
  have j1 : (n : Int) ≤ c := by omega
  have j2 : (0 : Int) ≤ n := by omega
  cases A with
  | none =>
    go_enter Tryd.func53, Tryd.ntmps53
    go_wp2_with fail
    go_ret
    exact ⟨_, rfl, H2.out⟩
  | some a =>
    go_enter Tryd.func53, Tryd.ntmps53
    go_wp2_with fail
    go_ret
    exact ⟨_, rfl, H2.out⟩
set_option maxRecDepth 100000 in
set_option maxHeartbeats 1000000 in
theorem clone_int (A : Option Addr) (n c : Nat) (l : List Int) (w : World) (hn : n ≤ 4294967296) (hr : Rds S 1 en64 A n l) (h : Own E w (Hp.ro S :: L)) :
    Calls Tryd.prog 54 #[.slice A n c] w fun e w' => ∃ v, e = .returned v ∧ Own E w' (Hp.ints v l :: Hp.ro S :: L) := by
  cases A with
  | none =>
    obtain ⟨rfl, rfl⟩ := hr.none_nil
    have h2 := h.emptyLst IT none
    have heq : ∀ w, (binOp .eql LIT (.slice none 0 c) (.slice none 0 0)).run Tryd.prog w = .ok (.bool true) w := fun w => Lib.run_eql_slice_nil w LIT IT none 0 c 0 0 lit_u
    go_enter Tryd.func54, Tryd.ntmps54
    go_wp2_with fail
    go_ret
    exact ⟨_, rfl, h2⟩
  | some a =>
    have h1 := (h.alloc (.cells #[] IT)).drop
    have hrd : RdC (w.alloc (.cells #[] IT)) (some a) (l.map VI) := hr.rdC h1
    obtain ⟨v', w', hap, h2⟩ := lst_append (P := Tryd.prog) (t := LIT) (ty := LIT) lit_u it_info (by rfl) (h1.emptyLst IT (some ⟨w.heap.size, 0, none⟩)) (some a) n c (l.map VI) (by rw [List.length_map]; exact hr.1) hrd (VI_one l) (by unfold maxLen; simp; omega) (by simp; omega)
    have H2 := Lib.hid h2
    have heq : ∀ w, (binOp .eql LIT (.slice (some a) n c) (.slice none 0 0)).run Tryd.prog w = .ok (.bool false) w := fun w => Lib.run_eql_slice_nil w LIT IT (some a) n c 0 0 lit_u
    clear h h1 h2 hrd
    go_enter Tryd.func54, Tryd.ntmps54
    go_wp2_with (with_reducible refine at_slot (k := some 7) ?_; refine wpList_append_run (o := ⟨some 7, _, _, _, _, _⟩) hap rfl rfl rfl rfl ?_; clear hap)
    go_ret
    exact ⟨_, rfl, by simpa using H2.out⟩
set_option maxRecDepth 100000 in
set_option maxHeartbeats 1000000 in
theorem own_int (A : Option Addr) (n c i k : Nat) (l : List Int) (w : World) (hn : n ≤ 4294967296) (hc : n ≤ c) (hik : i ≤ k) (hk : k ≤ n) (hr : Rds S 1 en64 A n l) (h : Own E w (Hp.ro S :: L)) :
    Calls Tryd.prog 86 #[.slice A n c, .int .i64 i, .int .i64 k] w fun e w' => ∃ v, e = .returned v ∧ Own E w' (Hp.ints v ((l.drop i).take (k - i)) :: Hp.ro S :: L) := by
  have j1 : (0 : Int) ≤ i := by omega
  have j2 : (i : Int) ≤ k := by omega
  have j3 : (k : Int) ≤ c := by omega
  have j4 : ((k : Int) - (i : Int)).toNat = k - i := by omega
  obtain ⟨A2, hA2, hr2, hA0⟩ : ∃ A2, (A2 = if k = i then A else A.map (fun a => a.add i)) ∧ Rds S 1 en64 A2 (k - i) ((l.drop i).take (k - i)) ∧ (A = none → i = 0 ∧ k = 0) := by
    by_cases hki : k = i
    · subst hki
      rw [if_pos rfl, Nat.sub_self, List.take_zero]
      exact ⟨A, rfl, ⟨rfl, fun _ => rfl, fun _ hk => by cases hk⟩, fun e => by subst e; have := hr.none_nil.1; omega⟩
    · rw [if_neg hki]
      cases A with
      | none => have := hr.none_nil.1; omega
      | some a =>
        refine ⟨some (a.add i), rfl, ?_, fun e => by cases e⟩
        obtain ⟨b, off, e, _⟩ := hr.2.2 0 (by have := hr.1; omega)
        injection e with e
        subst e
        rw [add_eq]
        exact hr.part i (k - i) (by omega)
  have hrd : RdC w A2 (((l.drop i).take (k - i)).map VI) := hr2.rdC h
  have hl2 : ((l.drop i).take (k - i)).length = k - i := hr2.1
  obtain ⟨v', w', hap, h2⟩ := lst_append (P := Tryd.prog) (t := LIT) (ty := LIT) lit_u it_info (by rfl) (h.emptyLst IT none) A2 (k - i) (k - i) (((l.drop i).take (k - i)).map VI) (by rw [List.length_map]; exact hl2) hrd (VI_one _) (by unfold maxLen; simp; omega) (by simp; omega)
  rw [List.nil_append] at h2
  obtain ⟨A3, c3, rfl, -⟩ := h2.lstSlice
  have H2 := Lib.hid h2
  clear h h2 hrd hr2 hr
  rw [List.length_map, hl2] at hap H2
  generalize (l.drop i).take (k - i) = l2 at *
  by_cases hki : k = i
  · subst hki
    rw [if_pos rfl] at hA2
    subst hA2
    rw [Nat.sub_self] at hap H2
    clear hA0
    cases A2 with
    | none =>
      go_enter Tryd.func86, Tryd.ntmps86
      go_wp2_with (with_reducible refine at_slot (k := some 12) ?_; refine wpList_append_run (o := ⟨some 12, _, _, _, _, _⟩) hap rfl rfl rfl rfl ?_; clear hap)
      refine (clip_int _ _ _ _ _ H2.out).mono ?_
      rintro e w3 ⟨v, rfl, h3⟩
      go_wp2_with fail
      go_ret
      exact ⟨_, rfl, h3⟩
    | some a =>
      go_enter Tryd.func86, Tryd.ntmps86
      go_wp2_with (with_reducible refine at_slot (k := some 12) ?_; refine wpList_append_run (o := ⟨some 12, _, _, _, _, _⟩) hap rfl rfl rfl rfl ?_; clear hap)
      refine (clip_int _ _ _ _ _ H2.out).mono ?_
      rintro e w3 ⟨v, rfl, h3⟩
      go_wp2_with fail
      go_ret
      exact ⟨_, rfl, h3⟩
  · rw [if_neg hki] at hA2
    cases A with
    | none => have := hA0 rfl; omega
    | some a =>
      obtain rfl : A2 = some (a.add i) := hA2
      have hki2 : ¬ i = k := fun e => hki e.symm
      have hki3 : (i : Int) < k := by omega
      have hki4 : ¬ (k - i = 0) := by omega
      have hki5 : ¬ ((k : Int) - i = 0) := by omega
      go_enter Tryd.func86, Tryd.ntmps86
      go_wp2_with (with_reducible refine at_slot (k := some 12) ?_; refine wpList_append_run (o := ⟨some 12, _, _, _, _, _⟩) hap rfl rfl rfl rfl ?_; clear hap)
      refine (clip_int _ _ _ _ _ H2.out).mono ?_
      rintro e w3 ⟨v, rfl, h3⟩
      go_wp2_with fail
      go_ret
      exact ⟨_, rfl, h3⟩
end
end Go.Proofs.YtbclmmneiphcaaaDoor
