/- latchkeylaw01.over, tells; hashers held by a row of pointers. -/
import Derived.Test.YtldloociaoflkaaMacs
namespace Go.Proofs.Ytldloociaoflkaa
open Go.RowKit
abbrev OPT : TypeId := 43
abbrev HPT : TypeId := 39
abbrev HLT : TypeId := 41
structure Move where
  kind : Int
  at_ : Int
  s : ByteArray
abbrev enMove (t : Move) : List Value := [.int .i64 t.kind, .int .i64 t.at_, .string t.s]
def cost : List Move → Nat
  | [] => 0
  | m :: l => 1 + m.s.size + cost l
theorem cost_app (a b : List Move) : cost (a ++ b) = cost a + cost b := by
  induction a with
  | nil => simp [cost]
  | cons m l ih => simp only [List.cons_append, cost, ih]; omega
theorem cost_snoc (xs : List Move) (k : Nat) (x : Move) (h : xs[k]? = some x) : cost (xs.take (k + 1)) = cost (xs.take k) + 1 + x.s.size := by
  rw [List.take_add_one, h, cost_app]
  simp [cost]; omega
theorem cost_le (xs : List Move) (k : Nat) : cost (xs.take k) ≤ cost xs := by
  have h := cost_app (xs.take k) (xs.drop k)
  rw [List.take_append_drop] at h
  omega
theorem cost_len (xs : List Move) : xs.length ≤ cost xs := by
  induction xs with
  | nil => simp
  | cons m l ih => simp only [List.length_cons, cost]; omega
set_option maxHeartbeats 1000000 in
theorem over_any {E : World} {S : Ph} {L : List Hp} (A : Option Addr) (n c : Nat) (xs : List Move) (w : World) (hn : n ≤ maxLen) (hr : Rds S 3 enMove A n xs) (hz : ∀ x ∈ xs, x.s.size ≤ 9000000000000000000) (h : Own E w (Hp.ro S :: L)) :
    Calls Try.prog 24 #[.slice A n c] w fun e w' => Small (cost xs) w e w' := by
  unfold maxLen at hn
  go_enter Try.func24, Try.ntmps24
  go_wp2_with fail
  go_loopw [3, 4] (fun m i wr => ∃ k j : Nat, k ≤ n ∧ i = .int .i64 k ∧ m = .int .i64 j ∧ j = cost (xs.take k) ∧ j ≤ 9000000002147483648 ∧ wr = w) (fun _ i _ => n - (intOf i).toNat)
  case atStart => exact ⟨0, 0, by omega, rfl, rfl, by simp [cost], by omega, rfl⟩
  case round =>
    obtain ⟨k, j, hkn, rfl, rfl, hj, hj2, rfl⟩ := hrel
    by_cases hlt : k < n
    · obtain ⟨x, g, off, hx, rfl, hc⟩ := hr.get hlt
      have c1 := h.rd (hc 2 _ rfl)
      have ek := cost_snoc xs k x hx
      have hxs := hz x (List.mem_of_getElem? hx)
      rw [← hj] at ek
      by_cases hm : j ≤ 2147483647
      · have hm' : (j : Int) ≤ 2147483647 := by omega
        have HK := Lib.hid ek
        clear ek hj hc hx hr hz
        go_wp2_with fail
        go_roundw
        case rel => exact ⟨k + 1, j + 1 + x.s.size, by omega, by go_num, by go_num, HK.out.symm, by omega, trivial⟩
        case measure => simp [intOf]; omega
      · have hm' : ¬ (j : Int) ≤ 2147483647 := by omega
        have hm2 : (2147483647 : Int) < j := by omega
        clear ek hj hc hx hr hz
        go_wp2_with fail
        go_ret
        exact ⟨true, by simp, rfl, rfl⟩
    · obtain rfl : k = n := by omega
      have e0 : xs.take k = xs := List.take_of_length_le (by have := hr.1; omega)
      rw [e0] at hj
      have HJ := Lib.hid hj
      clear hr hz hj e0
      by_cases hm : j ≤ 2147483647
      · have hm2 : ¬ (2147483647 : Int) < j := by omega
        go_wp2_with fail
        go_ret
        exact ⟨false, fun _ => by rw [← HJ.out]; exact hm, rfl, rfl⟩
      · have hm2 : (2147483647 : Int) < j := by omega
        go_wp2_with fail
        go_ret
        exact ⟨true, by simp, rfl, rfl⟩
theorem tells_any {E : World} {L : List Hp} (b : Nat) (s : ByteArray) (w : World) (hs : s.size ≤ 140737488355000) (h : Own E w (Hp.hasher b s.data.toList :: L)) :
    Calls Try.prog 31 #[.pointer (some ⟨b, 0, none⟩), .string s] w fun e w' => e = .returned (.bool true) ∧ Own E w' (Hp.hasher b s.data.toList :: L) := by
  have e1 : s.data.toList.length = s.size := rfl
  have hl : s.data.toList.length ≤ 1152921504606846975 := by omega
  have HL := Lib.hid hl
  have HE := Lib.hid e1
  clear hl e1
  go_enter Try.func31, Try.ntmps31
  go_wp2_with fail
  refine (sum_any b _ _ HL.out h).mono ?_
  rintro e w1 ⟨rfl, h1⟩
  go_wp2_with fail
  refine (refsum_any s _ hs h1).mono ?_
  rintro e w2 ⟨rfl, h2⟩
  clear h h1
  generalize (⟨(Sha.sum s.data.toList).toArray⟩ : ByteArray) = D at *
  go_wp2_with fail
  refine (len_any b _ _ h2).mono ?_
  rintro e w3 ⟨rfl, rfl⟩
  rw [HE.out]
  go_wp2_with fail
  go_ret
  exact ⟨rfl, h2⟩
/-- The hashers of a row, each with what it has taken. -/
abbrev Kid : Type := Nat × ByteArray
abbrev kidH (p : Kid) : Hp := Hp.hasher p.1 p.2.data.toList
abbrev kidP (p : Kid) : Value := .pointer (some ⟨p.1, 0, none⟩)
abbrev kidS (p : Kid) : Value := .string p.2
def Hp.kids (ps : List Kid) : Hp := Hp.all (ps.map kidH)
section
variable {E w : World} {L : List Hp} {ps : List Kid}
theorem Own.allCons {A : Hp} {M : List Hp} (h : Own E w (A :: Hp.all M :: L)) : Own E w (Hp.all (A :: M) :: L) := by
  refine Own.star.2 ?_
  have h1 := Own.star.1 h.f1
  exact h1.perm (perm_mid A M)
theorem Own.allUncons {A : Hp} {M : List Hp} (h : Own E w (Hp.all (A :: M) :: L)) : Own E w (A :: Hp.all M :: L) := by
  have h1 := Own.star.1 h
  exact (Own.star.2 (h1.perm (perm_mid A M).symm)).f1
theorem kids_perm {k : Nat} {p : Kid} (hk : ps[k]? = some p) : ps.Perm (p :: ps.eraseIdx k) := by
  obtain ⟨hlt, rfl⟩ := List.getElem?_eq_some_iff.1 hk
  rw [List.eraseIdx_eq_take_drop_succ]
  have h1 : ps.take k ++ ps[k] :: ps.drop (k + 1) = ps := by rw [← List.drop_eq_getElem_cons hlt, List.take_append_drop]
  have h2 : (ps.take k ++ ps[k] :: ps.drop (k + 1)).Perm (ps[k] :: (ps.take k ++ ps.drop (k + 1))) := List.perm_middle
  rw [h1] at h2
  exact h2
theorem Own.kidsTake {k : Nat} {p : Kid} (hk : ps[k]? = some p) (h : Own E w (Hp.kids ps :: L)) : Own E w (kidH p :: Hp.kids (ps.eraseIdx k) :: L) := by
  unfold Hp.kids at *
  rw [Hp.all_perm ((kids_perm hk).map kidH)] at h
  exact h.allUncons
theorem Own.kidsPut {k : Nat} (q : Kid) (hk : k < ps.length) (h : Own E w (kidH q :: Hp.kids (ps.eraseIdx k) :: L)) : Own E w (Hp.kids (ps.set k q) :: L) := by
  have h1 : (ps.set k q)[k]? = some q := by simp [hk]
  unfold Hp.kids at *
  rw [Hp.all_perm ((kids_perm h1).map kidH), List.eraseIdx_set_eq]
  exact h.allCons
theorem Own.kidsBack {k : Nat} {p : Kid} (hk : ps[k]? = some p) (h : Own E w (kidH p :: Hp.kids (ps.eraseIdx k) :: L)) : Own E w (Hp.kids ps :: L) := by
  unfold Hp.kids at *
  rw [Hp.all_perm ((kids_perm hk).map kidH)]
  exact h.allCons
theorem Own.kidsAdd (q : Kid) (h : Own E w (kidH q :: Hp.kids ps :: L)) : Own E w (Hp.kids (ps ++ [q]) :: L) := by
  unfold Hp.kids at *
  rw [Hp.all_perm ((List.perm_append_comm (l₁ := ps) (l₂ := [q])).map kidH)]
  exact h.allCons
theorem ptr_info : (Try.prog.info? HPT).map (fun i => (i.zero, i.size, i.bytes)) = some (some (.pointer none), 1, 8) := by kernel_rfl
theorem add_ptr {wr : World} {M : List Hp} {v : Value} {n : Nat} {l : List Value} (x : Nat) (hn : n + 1 ≤ 8000000000000) (h : Own E wr (Hp.row HPT 1 v n l :: M)) :
    ∃ v' w', (Builtin.append_ #[HLT, HLT] HLT #[v, .slice (some ⟨wr.heap.size, 0, none⟩) 1 1]).run Try.prog (wr.alloc (.cells #[.pointer (some ⟨x, 0, none⟩)] HPT)) = .ok v' w' ∧ Own E w' (Hp.row HPT 1 v' (n + 1) (l ++ [.pointer (some ⟨x, 0, none⟩)]) :: M) := by
  obtain ⟨v', w', h1, h2, _⟩ := sl_append_new (P := Try.prog) (ty := HLT) (t := HLT) (by kernel_rfl) ptr_info rfl (by omega) h #[.pointer (some ⟨x, 0, none⟩)] 1 rfl (by intro u hu; rw [List.mem_singleton.1 hu]; rfl) (by unfold maxLen; omega) (by omega)
  exact ⟨v', w', h1, h2⟩
theorem add_txt {wr : World} {M : List Hp} {v : Value} {n : Nat} {l : List Value} (x : ByteArray) (hn : n + 1 ≤ 8000000000000) (h : Own E wr (Hp.row ST 1 v n l :: M)) :
    ∃ v' w', (Builtin.append_ #[SLT, SLT] SLT #[v, .slice (some ⟨wr.heap.size, 0, none⟩) 1 1]).run Try.prog (wr.alloc (.cells #[.string x] ST)) = .ok v' w' ∧ Own E w' (Hp.row ST 1 v' (n + 1) (l ++ [.string x]) :: M) := by
  obtain ⟨v', w', h1, h2, _⟩ := sl_append_new (P := Try.prog) (ty := SLT) (t := SLT) (by kernel_rfl) str_info rfl (by omega) h #[.string x] 1 rfl (by intro u hu; rw [List.mem_singleton.1 hu]; rfl) (by unfold maxLen; omega) (by omega)
  exact ⟨v', w', h1, h2⟩
theorem row_last {v : Value} {m : Nat} (hm : ps.length = m) (h0 : 0 < m) (h : Own E w (Hp.row HPT 1 v m (ps.map kidP) :: L)) :
    ∃ g c b, v = .slice (some ⟨g, 0, none⟩) m c ∧ w.cell? ⟨g, m - 1, none⟩ = some (.pointer (some ⟨b, 0, none⟩)) := by
  obtain ⟨A, c, rfl⟩ : ∃ A c, v = .slice A m c := h.rowSlice
  have hk : m - 1 < ps.length := by omega
  obtain ⟨g, rfl, h1, _⟩ := h.rowCells (m - 1) (kidP ps[m - 1]) (by simp [hk])
  exact ⟨g, c, _, rfl, h1⟩
end
end Go.Proofs.Ytldloociaoflkaa
