/- The law's addsUp, weighs; lists that are lent. -/
import Derived.Test.YtgedjkcpgagnbaaDoorSame
import Derived.Test.YtgedjkcpgagnbaaDoorTail
namespace Go.Proofs.YtgedjkcpgagnbaaDoor
open Go.RowKit
theorem addsup_any (n m : Nat) (w : World) (hn : n ≤ 1000000000000000000) (hm : m ≤ 1000000000000000000) :
    Calls Tryd.prog 8 #[.int .i64 n, .int .i64 m] w fun e w' => w = w' ∧ ∃ z : Nat, z ≤ 4294967294 ∧ (z ≤ 2147483647 → n + m ≤ z) ∧ e = .returned (.int .i64 z) := by
  by_cases h1 : 2147483647 < n
  · have i1 : (2147483647 : Int) < n := by omega
    go_enter Tryd.func8, Tryd.ntmps8
    go_wp2_with fail
    go_ret
    exact ⟨rfl, 2147483648, by omega, by omega, rfl⟩
  by_cases h2 : 2147483647 < m
  · have i2 : (2147483647 : Int) < m := by omega
    go_enter Tryd.func8, Tryd.ntmps8
    go_wp2_with fail
    go_ret
    exact ⟨rfl, 2147483648, by omega, by omega, rfl⟩
  · have i1 : ¬ (2147483647 : Int) < n := by omega
    have i2 : ¬ (2147483647 : Int) < m := by omega
    go_enter Tryd.func8, Tryd.ntmps8
    go_wp2_with fail
    go_ret
    exact ⟨rfl, n + m, by omega, fun _ => Nat.le_refl _, by go_num⟩
section
variable {E : World} {S : Ph} {L : List Hp}
set_option maxRecDepth 100000 in
set_option maxHeartbeats 2000000 in
theorem weighs_any (A : Option Addr) (n c : Nat) (xs : List ByteArray) (w : World) (hn : n ≤ 1000000000000000000) (hsm : ∀ s ∈ xs, s.size ≤ 1000000000000000000) (hr : Rds S 1 enStr A n xs) (h : Own E w (Hp.ro S :: L)) :
    Calls Tryd.prog 14 #[.slice A n c] w fun e w' => (∃ z : Nat, z ≤ 4294967294 ∧ (z ≤ 2147483647 → n + tot xs ≤ z) ∧ e = .returned (.int .i64 z)) ∧ Own E w' (Hp.ro S :: L) := by
  have HSM := Lib.hid hsm
  have HN := Lib.hid hn
  clear hsm
  go_enter Tryd.func14, Tryd.ntmps14
  go_wp2_with fail
  refine (addsup_any 0 n _ (by omega) hn).mono ?_
  rintro e w1 ⟨rfl, z0, hz0, hz1, rfl⟩
  have HZ1 := Lib.hid hz1
  clear hz1
  go_wp2_with fail
  go_loopw [3, 4] (fun a i wr => ∃ k z : Nat, k ≤ n ∧ i = .int .i64 k ∧ a = .int .i64 z ∧ z ≤ 4294967294 ∧ (z ≤ 2147483647 → n + tot (xs.take k) ≤ z) ∧ Own E wr (Hp.ro S :: L)) (fun _ i _ => n - (intOf i).toNat)
  case atStart => exact ⟨0, z0, by omega, rfl, rfl, hz0, fun hz => by have := HZ1.out hz; simp [tot]; omega, h⟩
  case round =>
    obtain ⟨k, z, hk, rfl, rfl, hz, hz2, hw⟩ := hrel
    clear h
    have HZ2 := Lib.hid hz2
    clear hz2
    by_cases hlt : k < n
    · by_cases hb : z ≤ 2147483647
      · have hbi : (z : Int) ≤ 2147483647 := by omega
        obtain ⟨x, b, off, hx, rfl, hc⟩ := hr.get1 hlt
        have c1 := hw.rd (hc _ rfl)
        have hxs := HSM.out x (List.mem_of_getElem? hx)
        have HXS := Lib.hid hxs
        have HX := Lib.hid hx
        clear hc hx hxs
        go_wp2_with fail
        refine (addsup_any z x.size _ (by omega) HXS.out).mono ?_
        rintro e w2 ⟨rfl, y, hy0, hy1, rfl⟩
        have HY := Lib.hid hy1
        clear hy1
        go_wp2_with fail
        go_roundw
        case rel => exact ⟨k + 1, y, by omega, by go_num, rfl, hy0, fun hy => by have h1 := HY.out hy; have h2 := HZ2.out (by omega); rw [tot_take xs k x HX.out]; omega, hw⟩
        case measure => simp [intOf]; omega
      · have hbi : ¬ (z : Int) ≤ 2147483647 := by omega
        have HW := Lib.hid hw
        clear hw
        go_wp2_with fail
        go_ret
        exact ⟨⟨z, hz, fun h => absurd h hb, rfl⟩, HW.out⟩
    · have hall : xs.take k = xs := List.take_of_length_le (by have := hr.1; omega)
      rw [hall] at HZ2
      have HW := Lib.hid hw
      clear hw hall
      go_wp2_with fail
      go_ret
      exact ⟨⟨z, hz, HZ2.out, rfl⟩, HW.out⟩
theorem tot_mem {xs : List ByteArray} {x : ByteArray} (h : x ∈ xs) : x.size ≤ tot xs := by
  induction xs with
  | nil => cases h
  | cons y r ih =>
    show x.size ≤ y.size + tot r
    rcases List.mem_cons.1 h with rfl | h
    · omega
    · have := ih h; omega
/- LISTS THAT ARE LENT -/
/-- All that lies in S lies in T. -/
def Ext (S T : Ph) : Prop := ∀ k o, S k = some o → T k = some o
theorem Ext.refl (S : Ph) : Ext S S := fun _ _ h => h
theorem Ext.trans {S T U : Ph} (h : Ext S T) (h2 : Ext T U) : Ext S U := fun k o hk => h2 k o (h k o hk)
/-- Lists of texts, all in one part of memory: where each lies, its capacity, what it reads as. -/
def Lists (T : Ph) (l : List (Option Addr × Nat × List ByteArray)) : Prop := ∀ q ∈ l, Rds T 1 enStr q.1 q.2.2.length q.2.2 ∧ q.2.2.length ≤ q.2.1
theorem Lists.nil (T : Ph) : Lists T [] := fun _ h => by cases h
theorem Lists.sub {S T : Ph} {l : List (Option Addr × Nat × List ByteArray)} (h : Lists S l) (hs : Ext S T) : Lists T l := fun q hq => ⟨(h q hq).1.sub hs, (h q hq).2⟩
theorem Lists.cons {T : Ph} {l : List (Option Addr × Nat × List ByteArray)} {A : Option Addr} {c n : Nat} {xs : List ByteArray} (h : Lists T l) (hn : n = xs.length) (hr : Rds T 1 enStr A n xs) (hc : n ≤ c) : Lists T ((A, c, xs) :: l) := fun q hq => by
  subst hn
  rcases List.mem_cons.1 hq with rfl | hq
  · exact ⟨hr, hc⟩
  · exact h q hq
theorem Lists.at_ {T : Ph} {l : List (Option Addr × Nat × List ByteArray)} (h : Lists T l) (k : Nat) {A : Option Addr} {c : Nat} {xs : List ByteArray} (hk : l[k]? = some (A, c, xs)) : Rds T 1 enStr A xs.length xs ∧ xs.length ≤ c := h _ (List.mem_of_getElem? hk)
theorem Own.lendL {w : World} {T : Ph} {l : List (Option Addr × Nat × List ByteArray)} {v : Value} {xs : List ByteArray} (hl : Lists T l) (h : Own E w (Hp.lst ST v (xs.map Value.string) :: Hp.ro T :: L)) :
    ∃ T' A c, Ext T T' ∧ v = .slice A xs.length c ∧ Lists T' ((A, c, xs) :: l) ∧ Own E w (Hp.ro T' :: L) := by
  obtain ⟨A, c, rfl, hc⟩ := lst_len h
  obtain ⟨a, ha, h⟩ := h.opened
  obtain ⟨hm, hd⟩ := h.merge
  have he : Ext T (Ph.join a T) := fun k o hk => by rw [Ph.join_comm hd]; exact Ph.join_some hk
  refine ⟨Ph.join a T, A, c, he, rfl, ?_, hm⟩
  exact (hl.sub he).cons rfl ((lst_rds ha).1.sub fun k o hk => Ph.join_some hk) hc
/-- A greater lent part is turned back to the smaller one. -/
theorem Own.shrink {w : World} {S T : Ph} (h : Own E w (Hp.ro T :: L)) (hs : Ext S T) : Own E w (Hp.ro S :: L) := by
  obtain ⟨h1, h2, h3, x, hx, a, c, hd, rfl, ha, hL⟩ := h
  have ha' : a = T := ha
  subst ha'
  refine ⟨h1, h2, h3, Ph.join S c, fun k o hk => ?_, S, c, fun k => ?_, rfl, rfl, hL⟩
  · unfold Ph.join at hk
    cases e : S k with
    | some o2 =>
      rw [e] at hk
      have hk : some o2 = some o := hk
      rw [← hk]
      exact hx k o2 (Ph.join_some (hs k o2 e))
    | none =>
      rw [e] at hk
      have hk : c k = some o := by simpa using hk
      refine hx k o ?_
      rw [Ph.join_comm hd]
      exact Ph.join_some hk
  · cases e : S k with
    | none => exact .inl rfl
    | some o =>
      rcases hd k with e2 | e2
      · rw [hs k o e] at e2; cases e2
      · exact .inr e2
/-- A literal list is lent. -/
theorem Own.lendLit {w : World} {T : Ph} {l : List (Option Addr × Nat × List ByteArray)} {g : Nat} (xs : List ByteArray) (hl : Lists T l) (hn : xs.length ≤ 100) (h : Own E w (Hp.blk g ST (xs.map Value.string).toArray :: Hp.ro T :: L)) :
    ∃ T', Ext T T' ∧ Lists T' ((some ⟨g, 0, none⟩, xs.length, xs) :: l) ∧ Own E w (Hp.ro T' :: L) := by
  have h2 := Own.mtoLst (xs := xs.map Value.string) h.toMk xs.length (by simp) (by unfold maxLen; omega) (by simp) (by rw [List.take_of_length_le (by simp)])
  rw [List.length_map] at h2
  obtain ⟨T', A, c, he, hv, hl2, h3⟩ := h2.lendL hl
  injection hv with e1 e2 e3
  subst e1 e3
  exact ⟨T', he, hl2, h3⟩
theorem seen_list {T : Ph} {A : Option Addr} {n : Nat} {xs : List ByteArray} (hr : Rds T 1 enStr A n xs) : Seen E (Hp.ro T :: L) A n xs := fun _ h => hr.sub h.sub
end
end Go.Proofs.YtgedjkcpgagnbaaDoor
