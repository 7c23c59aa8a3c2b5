/- latchkeylaw24.LimitPlays. -/
import Derived.Test.YtnbpbonpcbemdaaLimV
import Derived.Test.YtnbpbonpcbemdaaLimE
namespace Go.Proofs.Ytnbpbonpcbemdaa
open Go.RowKit
structure Opp where
  what : Int
  on : Int
  who : Int
  now : Int
  s : ByteArray
  cost : Rl
abbrev enO (x : Opp) : List Value := [.int .i64 x.what, .int .i64 x.on, .int .i64 x.who, .int .i64 x.now, .string x.s, .int .i64 x.cost.kind, .int .i64 x.cost.n, .int .i64 x.cost.d, .int .i64 x.cost.e]
def RlB (x : Rl) : Prop := i64B x.kind ∧ i64B x.n ∧ i64B x.d ∧ i64B x.e
def OpB (x : Opp) : Prop := i64B x.what ∧ i64B x.on ∧ i64B x.who ∧ i64B x.now ∧ x.s.size ≤ maxLen ∧ RlB x.cost
abbrev OPT : TypeId := 43
abbrev RAT : TypeId := 40
abbrev rlV (x : Rl) : Value := .agg #[.int .i64 x.kind, .int .i64 x.n, .int .i64 x.d, .int .i64 x.e]
abbrev rls (x y : Rl) : Array Value := #[.int .i64 x.kind, .int .i64 x.n, .int .i64 x.d, .int .i64 x.e, .int .i64 y.kind, .int .i64 y.n, .int .i64 y.d, .int .i64 y.e]
section
variable {E : World} {S : Ph} {L : List Hp}
theorem realg_any (x : Rl) (w : World) (hb : RlB x) (h : Own E w L) :
    Calls Try.prog 14 #[rlV x] w fun e w' => ∃ r, e = .returned (.float .f32 r) ∧ RealR x r ∧ Own E w' L := real_any x w hb.1 hb.2.2.1 hb.2.2.2 h
set_option maxRecDepth 100000 in
set_option maxHeartbeats 20000000 in
theorem plays_any (R B : Nat → Rl) (A : Option Addr) (n c : Nat) (xs : List Opp) (w : World) (hR : ∀ k, k < 2 → RlB (R k)) (hB : ∀ k, k < 2 → RlB (B k)) (hn : n ≤ 9223372036854775807) (hx : ∀ x ∈ xs, OpB x) (hr : Rds S 9 enO A n xs) (h : Own E w (Hp.ro S :: L)) :
    Calls Try.prog 4 #[.agg (rls (R 0) (R 1)), .agg (rls (B 0) (B 1)), .slice A n c] w fun e w' => e = .returned (.bool true) ∧ Own E w' (Hp.ro S :: L) := by
  have h1 : Own E _ (Hp.blk w.heap.size RAT (rls (R 0) (R 1)) :: Hp.ro S :: L) := h.alloc _
  have h2 : Own E _ (Hp.blk (w.alloc (.cells (rls (R 0) (R 1)) RAT)).heap.size RAT (rls (B 0) (B 1)) :: Hp.blk w.heap.size RAT (rls (R 0) (R 1)) :: Hp.ro S :: L) := h1.alloc _
  rw [alloc_size] at h2
  have HX := Lib.hid hx
  have H := Lib.hid h2.f2
  clear h h1 h2 hx
  go_enter Try.func4, Try.ntmps4
  go_wp2_with fail
  go_loopw [7, 8] (fun z i wr => ∃ k zz : Nat, k ≤ n ∧ z = .int .i64 zz ∧ zz ≤ 2147483648 ∧ i = .int .i64 k ∧ (zz ≤ 2147483647 → ∀ (j : Nat) (x : Opp), j < k → xs[j]? = some x → x.s.size ≤ 2147483647) ∧ Own E wr (Hp.ro S :: Hp.blk (w.heap.size + 1) RAT (rls (B 0) (B 1)) :: Hp.blk w.heap.size RAT (rls (R 0) (R 1)) :: L)) (fun _ i _ => n - (intOf i).toNat)
  case atStart => exact ⟨0, 0, by omega, rfl, by omega, rfl, fun _ j _ hj => absurd hj (Nat.not_lt_zero j), H.out⟩
  case round =>
    obtain ⟨k, z, hk, rfl, hz, rfl, hsm, hw⟩ := hrel
    have HSM := Lib.hid hsm
    clear H hsm
    by_cases hlt : k < n
    · have hlti : (k : Int) < n := by omega
      by_cases hzb : z ≤ 2147483647
      · have hzi : (z : Int) ≤ 2147483647 := by omega
        obtain ⟨x, gx, off, hxk, rfl, hc⟩ := hr.get hlt
        have hsz : x.s.size ≤ maxLen := (HX.out _ (List.mem_of_getElem? hxk)).2.2.2.2.1
        have hsz : x.s.size ≤ 9223372036854775807 := Nat.le_trans hsz (by unfold maxLen; omega)
        have HXK := Lib.hid hxk
        have HC : Hid (∀ w', (∃ L', Own E w' (Hp.ro S :: L')) → w'.cell? ⟨gx, off + k * 9 + 4, none⟩ = some (.string x.s)) := Lib.hid fun w' hw' => by
          obtain ⟨_, hw'⟩ := hw'
          exact hw'.rd (hc 4 _ rfl)
        have H := Lib.hid hw.drew
        clear hw hc hxk
        go_wp2_with fail
        refine wp_region_text [6] (fun w' => w'.cell? ⟨gx, off + k * 9 + 4, none⟩ = some (.string x.s)) (by kernel_rfl) ?_ (fun hS => ?_)
        · exact HC.out _ ⟨_, H.out⟩
        refine wpAnyG_pure (i := 0) (oi := ⟨some 38, _, _, _, _, _⟩) (v := ?_) rfl (by kernel_rfl) (by kernel_rfl) (by kernel_rfl) (by rfl) (fun _ _ _ h => h) (by rfl) ?_ ?_
        rotate_left
        · intro w
          go_simp
          first | done | with_reducible rfl
        try simp only [Act.put, List.setIfInBounds_toArray, List.set_cons_zero, List.set_cons_succ]
        refine wpAnyG_pure (i := 2) (oi := ⟨some 40, _, _, _, _, _⟩) (v := ?_) rfl (by kernel_rfl) (by kernel_rfl) (by kernel_rfl) (by rfl) (fun _ _ _ h => h) (by rfl) ?_ ?_
        rotate_left
        · intro w
          go_simp
          first | done | with_reducible rfl
        try simp only [Act.put, List.setIfInBounds_toArray, List.set_cons_zero, List.set_cons_succ]
        refine wpAnyG_pure (i := 3) (oi := ⟨some 41, _, _, _, _, _⟩) (v := ?_) rfl (by kernel_rfl) (by kernel_rfl) (by kernel_rfl) (by rfl) (fun _ _ _ h => h) (by rfl) ?_ ?_
        rotate_left
        · intro w
          go_simp
          first | done | with_reducible rfl
        try simp only [Act.put, List.setIfInBounds_toArray, List.set_cons_zero, List.set_cons_succ]
        refine wpAnyG_pure (i := 4) (oi := ⟨some 42, _, _, _, _, _⟩) (v := ?_) rfl (by kernel_rfl) (by kernel_rfl) (by kernel_rfl) (by rfl) (fun _ _ _ h => h) (by rfl) ?_ ?_
        rotate_left
        · intro w
          go_simp
          first | done | with_reducible rfl
        try simp only [Act.put, List.setIfInBounds_toArray, List.set_cons_zero, List.set_cons_succ]
        refine wpAnyG_pure (i := 5) (oi := ⟨some 43, _, _, _, _, _⟩) (v := ?_) rfl (by kernel_rfl) (by kernel_rfl) (by kernel_rfl) (by rfl) (fun _ _ _ h => h) (by rfl) ?_ ?_
        rotate_left
        · intro w
          go_simp
          first | done | with_reducible rfl
        try simp only [Act.put, List.setIfInBounds_toArray, List.set_cons_zero, List.set_cons_succ]
        refine wpAnyG_load (i := 6) (oi := ⟨some 44, _, _, _, _, _⟩) (v := ?_) rfl (by kernel_rfl) (by kernel_rfl) (by kernel_rfl) (by rfl) (fun _ _ _ h => h) (by rfl) ?_ (by assumption) ?_
        rotate_left
        · intro w hS
          try dsimp only at hS
          go_simp
          first | done | with_reducible rfl
        try simp only [Act.put, List.setIfInBounds_toArray, List.set_cons_zero, List.set_cons_succ]
        refine wpAnyG_pure (i := 7) (oi := ⟨some 45, _, _, _, _, _⟩) (v := ?_) rfl (by kernel_rfl) (by kernel_rfl) (by kernel_rfl) (by rfl) (fun _ _ _ h => h) (by rfl) ?_ ?_
        rotate_left
        · intro w
          go_simp
          first | done | with_reducible rfl
        try simp only [Act.put, List.setIfInBounds_toArray, List.set_cons_zero, List.set_cons_succ]
        refine wpAnyG_keep (i := 1) (oi := ⟨some 39, _, _, _, _, _⟩) (by kernel_rfl) rfl (fun K hK => ?_)
        rw [if_pos (by rfl)]
        go_simp
        refine (add_any z 1000 _ (by omega) (by omega)).mono ?_
        rintro e w5 ⟨z2, rfl, hz2, rfl⟩
        refine hK.out _ _ ?_ (fun hS => ?_)
        · exact HC.out _ ⟨_, H.out⟩
        clear hK K
        try simp only [Act.put, List.setIfInBounds_toArray, List.set_cons_zero, List.set_cons_succ]
        refine wpAnyG_keep (i := 8) (oi := ⟨some 46, _, _, _, _, _⟩) (by kernel_rfl) rfl (fun K hK => ?_)
        rw [if_pos (by rfl)]
        go_simp
        refine (add_any z2 x.s.size _ (by omega) hsz).mono ?_
        rintro e w5 ⟨z3, rfl, hz3, rfl⟩
        refine hK.out _ _ ?_ (fun hS => ?_)
        · exact HC.out _ ⟨_, H.out⟩
        clear hK K
        try simp only [Act.put, List.setIfInBounds_toArray, List.set_cons_zero, List.set_cons_succ]
        refine wpAnyG_pure (i := 9) (oi := ⟨some 7, _, _, _, _, _⟩) (v := ?_) rfl (by kernel_rfl) (by kernel_rfl) (by kernel_rfl) (by rfl) (fun _ _ _ h => h) (by rfl) ?_ ?_
        rotate_left
        · intro w
          go_simp
          first | done | with_reducible rfl
        try simp only [Act.put, List.setIfInBounds_toArray, List.set_cons_zero, List.set_cons_succ]
        refine wpAnyG_done (by kernel_rfl) ?_ _
        refine NoPanic.normal ?_
        go_wp2_with fail
        go_roundw
        case rel => exact ⟨k + 1, z3, by omega, rfl, by omega, by go_num, fun h3 j y hj hy => (by
          rcases Nat.lt_succ_iff_lt_or_eq.1 hj with hj | rfl
          · exact HSM.out (by omega) j y hj hy
          · rw [HXK.out] at hy
            injection hy with hy
            rw [← hy]
            omega), H.out⟩
        case measure => simp [intOf]; omega
      · have hzi : ¬ (z : Int) ≤ 2147483647 := by omega
        have hzj : (2147483647 : Int) < z := by omega
        have H := Lib.hid hw
        clear hw
        go_wp2_with fail
        go_ret
        exact ⟨rfl, H.out.f2.drop.f1.drop⟩
    · obtain rfl : n = k := by omega
      have hlti : ¬ (n : Int) < n := by omega
      by_cases hzb : 2147483647 < z
      · have hzj : (2147483647 : Int) < z := by omega
        have H := Lib.hid hw
        clear hw
        go_wp2_with fail
        go_ret
        exact ⟨rfl, H.out.f2.drop.f1.drop⟩
      have hzj : ¬ (2147483647 : Int) < z := by omega
      have HSZ : Hid (∀ x ∈ xs, x.s.size ≤ 1000000000000000000) := Lib.hid fun x hx => (by
        obtain ⟨j, hj, rfl⟩ := List.getElem_of_mem hx
        have h2 := HSM.out (by omega) j xs[j] (by rw [← hr.1]; exact hj) (List.getElem?_eq_getElem hj)
        omega)
      have H := Lib.hid hw
      clear hw HSM
      go_wp2_with fail
      refine (awake_any _ H.out).mono ?_
      clear H
      rintro e w1 ⟨rfl, h⟩
      have h1 := (h.alloc (.cells #[.pointer none, .pointer none] LAT)).alloc (.cells #[.pointer none, .pointer none] RLAT)
      rw [alloc_size] at h1
      have h1 := h1.toNone.toNone
      obtain ⟨gr, hgr⟩ : ∃ g, g = w.heap.size := ⟨_, rfl⟩
      obtain ⟨gb, hgb⟩ : ∃ g, g = w.heap.size + 1 := ⟨_, rfl⟩
      obtain ⟨ga, hga⟩ : ∃ g, g = w1.heap.size := ⟨_, rfl⟩
      obtain ⟨gx, hgx⟩ : ∃ g, g = w1.heap.size + 1 := ⟨_, rfl⟩
      rw [← hgb, ← hgr, ← hgx, ← hga] at h1
      have h1 : Own E _ (twos ga gx (fun _ => none) (fun _ => .pointer none) (fun _ => .pointer none) (Hp.blk gr RAT (rls (R 0) (R 1)) :: Hp.blk gb RAT (rls (B 0) (B 1)) :: Hp.ro S :: L)) := h1.ac (by unfold twos Hp.blk; simp only [Hp.all] <;> ac_rfl)
      have H := Lib.hid h1
      clear h h1
      go_wp2_with fail
      rw [← hgb, ← hgr, ← hgx, ← hga]
      clear hgr hgb hga hgx
      go_loopw [12] (fun i wr => ∃ (k : Nat) (X : Nat → Option Lm) (p q : Nat → Value), k ≤ 2 ∧ i = .int .i64 k ∧ Own E wr (twos ga gx X p q (Hp.blk gr RAT (rls (R 0) (R 1)) :: Hp.blk gb RAT (rls (B 0) (B 1)) :: Hp.ro S :: L))) (fun i _ => 2 - (intOf i).toNat)
      case atStart => exact ⟨0, _, _, _, by omega, rfl, H.out⟩
      case round =>
        obtain ⟨k, X, p, q, hk2, rfl, hw⟩ := hrel
        clear H
        by_cases hlt2 : k < 2
        · have hlt2i : (k : Int) < 2 := by omega
          have h := (hw.twosAt k hlt2).drop.drew
          obtain ⟨rk, hrk⟩ : ∃ r, r = R k := ⟨_, rfl⟩
          obtain ⟨bk, hbk⟩ : ∃ r, r = B k := ⟨_, rfl⟩
          have hrb : RlB rk := by rw [hrk]; exact hR k hlt2
          have hbb : RlB bk := by rw [hbk]; exact hB k hlt2
          have HC : Hid (∀ w' (A B0 C : Hp) L', Own E w' (A :: B0 :: C :: Hp.blk gr RAT (rls (R 0) (R 1)) :: Hp.blk gb RAT (rls (B 0) (B 1)) :: L') → w'.rangeAt gr (k * 4) (enR rk) ∧ w'.rangeAt gb (k * 4) (enR bk)) := Lib.hid fun w' A B0 C L' hw' => by
            refine ⟨hw'.f3.range (k * 4) (enR rk) ?_, hw'.f4.range (k * 4) (enR bk) ?_⟩
            · rw [hrk]
              rcases (by omega : k = 0 ∨ k = 1) with rfl | rfl <;> intro j u hu <;> match j, hu with | 0, hu => exact hu | 1, hu => exact hu | 2, hu => exact hu | 3, hu => exact hu
            · rw [hbk]
              rcases (by omega : k = 0 ∨ k = 1) with rfl | rfl <;> intro j u hu <;> match j, hu with | 0, hu => exact hu | 1, hu => exact hu | 2, hu => exact hu | 3, hu => exact hu
          have H := Lib.hid h
          clear hw h hrk hbk
          go_wp2_with fail
          refine wp_region_text [2, 6] (fun w' => w'.rangeAt gr (k * 4) (enR rk) ∧ w'.rangeAt gb (k * 4) (enR bk)) (by kernel_rfl) ?_ (fun hS => ?_)
          · exact HC.out _ _ _ _ _ H.out
          refine wpAnyG_pure (i := 0) (oi := ⟨some 55, _, _, _, _, _⟩) (v := ?_) rfl (by kernel_rfl) (by kernel_rfl) (by kernel_rfl) (by rfl) (fun _ _ _ h => h) (by rfl) ?_ ?_
          rotate_left
          · intro w
            go_simp
            first | done | with_reducible rfl
          try simp only [Act.put, List.setIfInBounds_toArray, List.set_cons_zero, List.set_cons_succ]
          refine wpAnyG_pure (i := 1) (oi := ⟨some 56, _, _, _, _, _⟩) (v := ?_) rfl (by kernel_rfl) (by kernel_rfl) (by kernel_rfl) (by rfl) (fun _ _ _ h => h) (by rfl) ?_ ?_
          rotate_left
          · intro w
            go_simp
            first | done | with_reducible rfl
          try simp only [Act.put, List.setIfInBounds_toArray, List.set_cons_zero, List.set_cons_succ]
          refine wpAnyG_load (i := 2) (oi := ⟨some 57, _, _, _, _, _⟩) (v := (rlV rk)) rfl (by kernel_rfl) (by kernel_rfl) (by kernel_rfl) (by rfl) (fun _ _ _ h => h) (by rfl) ?_ (by assumption) ?_
          · intro w hS
            exact exec_load_mid RLT (.tmp 56) rfl gr (k * 4) (by rfl) (enR rk) _ hS.1 Try.underlying39 rfl (by kernel_rfl)
          try simp only [Act.put, List.setIfInBounds_toArray, List.set_cons_zero, List.set_cons_succ]
          refine wpAnyG_pure (i := 4) (oi := ⟨some 59, _, _, _, _, _⟩) (v := ?_) rfl (by kernel_rfl) (by kernel_rfl) (by kernel_rfl) (by rfl) (fun _ _ _ h => h) (by rfl) ?_ ?_
          rotate_left
          · intro w
            go_simp
            first | done | with_reducible rfl
          try simp only [Act.put, List.setIfInBounds_toArray, List.set_cons_zero, List.set_cons_succ]
          refine wpAnyG_pure (i := 5) (oi := ⟨some 60, _, _, _, _, _⟩) (v := ?_) rfl (by kernel_rfl) (by kernel_rfl) (by kernel_rfl) (by rfl) (fun _ _ _ h => h) (by rfl) ?_ ?_
          rotate_left
          · intro w
            go_simp
            first | done | with_reducible rfl
          try simp only [Act.put, List.setIfInBounds_toArray, List.set_cons_zero, List.set_cons_succ]
          refine wpAnyG_load (i := 6) (oi := ⟨some 61, _, _, _, _, _⟩) (v := (rlV bk)) rfl (by kernel_rfl) (by kernel_rfl) (by kernel_rfl) (by rfl) (fun _ _ _ h => h) (by rfl) ?_ (by assumption) ?_
          · intro w hS
            exact exec_load_mid RLT (.tmp 60) rfl gb (k * 4) (by rfl) (enR bk) _ hS.2 Try.underlying39 rfl (by kernel_rfl)
          try simp only [Act.put, List.setIfInBounds_toArray, List.set_cons_zero, List.set_cons_succ]
          refine wpAnyG_keep (i := 3) (oi := ⟨some 58, _, _, _, _, _⟩) (by kernel_rfl) rfl (fun K hK => ?_)
          rw [if_pos (by rfl)]
          go_simp
          refine (realg_any rk _ hrb H.out).mono ?_
          rintro e w5 ⟨xr, rfl, x1, x3⟩
          refine hK.out _ _ ?_ (fun hS => ?_)
          · exact HC.out _ _ _ _ _ x3
          clear hK K
          try simp only [Act.put, List.setIfInBounds_toArray, List.set_cons_zero, List.set_cons_succ]
          refine wpAnyG_keep (i := 7) (oi := ⟨some 62, _, _, _, _, _⟩) (by kernel_rfl) rfl (fun K hK => ?_)
          rw [if_pos (by rfl)]
          go_simp
          refine (realg_any bk _ hbb x3).mono ?_
          rintro e w6 ⟨xb, rfl, x2, x7⟩
          refine hK.out _ _ ?_ (fun hS => ?_)
          · exact HC.out _ _ _ _ _ x7
          clear hK K
          try simp only [Act.put, List.setIfInBounds_toArray, List.set_cons_zero, List.set_cons_succ]
          refine wpAnyG_keep (i := 8) (oi := ⟨some 63, _, _, _, _, _⟩) (by kernel_rfl) rfl (fun K hK => ?_)
          rw [if_pos (by rfl)]
          go_simp
          refine (new2_any xr xb _ x1.lt x2.lt x7).mono ?_
          rintro e w8 ⟨xbb, xer, xp, rfl, xv, x8⟩
          have x9 := x8.b5
          refine hK.out _ _ ?_ (fun hS => ?_)
          · exact HC.out _ _ _ _ _ x9
          clear hK K
          try simp only [Act.put, List.setIfInBounds_toArray, List.set_cons_zero, List.set_cons_succ]
          refine wpAnyG_pure (i := 9) (oi := ⟨some 54, _, _, _, _, _⟩) (v := ?_) rfl (by kernel_rfl) (by kernel_rfl) (by kernel_rfl) (by rfl) (fun _ _ _ h => h) (by rfl) ?_ ?_
          rotate_left
          · intro w
            go_simp
            first | done | with_reducible rfl
          try simp only [Act.put, List.setIfInBounds_toArray, List.set_cons_zero, List.set_cons_succ]
          refine wpAnyG_pure (i := 10) (oi := ⟨some 64, _, _, _, _, _⟩) (v := ?_) rfl (by kernel_rfl) (by kernel_rfl) (by kernel_rfl) (by rfl) (fun _ _ _ h => h) (by rfl) ?_ ?_
          rotate_left
          · intro w
            go_simp
            first | done | with_reducible rfl
          try simp only [Act.put, List.setIfInBounds_toArray, List.set_cons_zero, List.set_cons_succ]
          refine wpAnyG_pure (i := 11) (oi := ⟨some 65, _, _, _, _, _⟩) (v := ?_) rfl (by kernel_rfl) (by kernel_rfl) (by kernel_rfl) (by rfl) (fun _ _ _ h => h) (by rfl) ?_ ?_
          rotate_left
          · intro w
            go_simp
            first | done | with_reducible rfl
          try simp only [Act.put, List.setIfInBounds_toArray, List.set_cons_zero, List.set_cons_succ]
          refine wpAnyG_pure (i := 12) (oi := ⟨some 13, _, _, _, _, _⟩) (v := ?_) rfl (by kernel_rfl) (by kernel_rfl) (by kernel_rfl) (by rfl) (fun _ _ _ h => h) (by rfl) ?_ ?_
          rotate_left
          · intro w
            go_simp
            first | done | with_reducible rfl
          try simp only [Act.put, List.setIfInBounds_toArray, List.set_cons_zero, List.set_cons_succ]
          refine wpAnyG_pure (i := 13) (oi := ⟨some 14, _, _, _, _, _⟩) (v := ?_) rfl (by kernel_rfl) (by kernel_rfl) (by kernel_rfl) (by rfl) (fun _ _ _ h => h) (by rfl) ?_ ?_
          rotate_left
          · intro w
            go_simp
            first | done | with_reducible rfl
          try simp only [Act.put, List.setIfInBounds_toArray, List.set_cons_zero, List.set_cons_succ]
          refine wpAnyG_done (by kernel_rfl) ?_ _
          refine NoPanic.normal ?_
          have H := Lib.hid x9.drew
          have HX1 := Lib.hid x1
          have HX2 := Lib.hid x2
          have HXV := Lib.hid xv
          clear x1 x2 xv x3 x7 x8 x9
          go_wp2_with fail
          refine wp_region_text [2, 6] (fun w' => w'.rangeAt gr (k * 4) (enR rk) ∧ w'.rangeAt gb (k * 4) (enR bk)) (by kernel_rfl) ?_ (fun hS => ?_)
          · exact HC.out _ _ _ _ _ H.out
          refine wpAnyG_pure (i := 0) (oi := ⟨some 67, _, _, _, _, _⟩) (v := ?_) rfl (by kernel_rfl) (by kernel_rfl) (by kernel_rfl) (by rfl) (fun _ _ _ h => h) (by rfl) ?_ ?_
          rotate_left
          · intro w
            go_simp
            first | done | with_reducible rfl
          try simp only [Act.put, List.setIfInBounds_toArray, List.set_cons_zero, List.set_cons_succ]
          refine wpAnyG_pure (i := 1) (oi := ⟨some 68, _, _, _, _, _⟩) (v := ?_) rfl (by kernel_rfl) (by kernel_rfl) (by kernel_rfl) (by rfl) (fun _ _ _ h => h) (by rfl) ?_ ?_
          rotate_left
          · intro w
            go_simp
            first | done | with_reducible rfl
          try simp only [Act.put, List.setIfInBounds_toArray, List.set_cons_zero, List.set_cons_succ]
          refine wpAnyG_load (i := 2) (oi := ⟨some 69, _, _, _, _, _⟩) (v := (rlV rk)) rfl (by kernel_rfl) (by kernel_rfl) (by kernel_rfl) (by rfl) (fun _ _ _ h => h) (by rfl) ?_ (by assumption) ?_
          · intro w hS
            exact exec_load_mid RLT (.tmp 68) rfl gr (k * 4) (by rfl) (enR rk) _ hS.1 Try.underlying39 rfl (by kernel_rfl)
          try simp only [Act.put, List.setIfInBounds_toArray, List.set_cons_zero, List.set_cons_succ]
          refine wpAnyG_pure (i := 4) (oi := ⟨some 71, _, _, _, _, _⟩) (v := ?_) rfl (by kernel_rfl) (by kernel_rfl) (by kernel_rfl) (by rfl) (fun _ _ _ h => h) (by rfl) ?_ ?_
          rotate_left
          · intro w
            go_simp
            first | done | with_reducible rfl
          try simp only [Act.put, List.setIfInBounds_toArray, List.set_cons_zero, List.set_cons_succ]
          refine wpAnyG_pure (i := 5) (oi := ⟨some 72, _, _, _, _, _⟩) (v := ?_) rfl (by kernel_rfl) (by kernel_rfl) (by kernel_rfl) (by rfl) (fun _ _ _ h => h) (by rfl) ?_ ?_
          rotate_left
          · intro w
            go_simp
            first | done | with_reducible rfl
          try simp only [Act.put, List.setIfInBounds_toArray, List.set_cons_zero, List.set_cons_succ]
          refine wpAnyG_load (i := 6) (oi := ⟨some 73, _, _, _, _, _⟩) (v := (rlV bk)) rfl (by kernel_rfl) (by kernel_rfl) (by kernel_rfl) (by rfl) (fun _ _ _ h => h) (by rfl) ?_ (by assumption) ?_
          · intro w hS
            exact exec_load_mid RLT (.tmp 72) rfl gb (k * 4) (by rfl) (enR bk) _ hS.2 Try.underlying39 rfl (by kernel_rfl)
          try simp only [Act.put, List.setIfInBounds_toArray, List.set_cons_zero, List.set_cons_succ]
          refine wpAnyG_keep (i := 3) (oi := ⟨some 70, _, _, _, _, _⟩) (by kernel_rfl) rfl (fun K hK => ?_)
          rw [if_pos (by rfl)]
          go_simp
          refine (realg_any rk _ hrb H.out).mono ?_
          rintro e w5 ⟨yr, rfl, y1, y3⟩
          refine hK.out _ _ ?_ (fun hS => ?_)
          · exact HC.out _ _ _ _ _ y3
          clear hK K
          try simp only [Act.put, List.setIfInBounds_toArray, List.set_cons_zero, List.set_cons_succ]
          refine wpAnyG_keep (i := 7) (oi := ⟨some 74, _, _, _, _, _⟩) (by kernel_rfl) rfl (fun K hK => ?_)
          rw [if_pos (by rfl)]
          go_simp
          refine (realg_any bk _ hbb y3).mono ?_
          rintro e w6 ⟨yb, rfl, y2, y7⟩
          refine hK.out _ _ ?_ (fun hS => ?_)
          · exact HC.out _ _ _ _ _ y7
          clear hK K
          try simp only [Act.put, List.setIfInBounds_toArray, List.set_cons_zero, List.set_cons_succ]
          refine wpAnyG_keep (i := 8) (oi := ⟨some 75, _, _, _, _, _⟩) (by kernel_rfl) rfl (fun K hK => ?_)
          rw [if_pos (by rfl)]
          go_simp
          refine (xnew2_any yr yb _ y1.lt y2.lt y7).mono ?_
          rintro e w8 ⟨ybb, yer, yp, rfl, yv, y8⟩
          have y9 := y8.b5
          refine hK.out _ _ ?_ (fun hS => ?_)
          · exact HC.out _ _ _ _ _ y9
          clear hK K
          try simp only [Act.put, List.setIfInBounds_toArray, List.set_cons_zero, List.set_cons_succ]
          refine wpAnyG_pure (i := 9) (oi := ⟨some 66, _, _, _, _, _⟩) (v := ?_) rfl (by kernel_rfl) (by kernel_rfl) (by kernel_rfl) (by rfl) (fun _ _ _ h => h) (by rfl) ?_ ?_
          rotate_left
          · intro w
            go_simp
            first | done | with_reducible rfl
          try simp only [Act.put, List.setIfInBounds_toArray, List.set_cons_zero, List.set_cons_succ]
          refine wpAnyG_pure (i := 10) (oi := ⟨some 76, _, _, _, _, _⟩) (v := ?_) rfl (by kernel_rfl) (by kernel_rfl) (by kernel_rfl) (by rfl) (fun _ _ _ h => h) (by rfl) ?_ ?_
          rotate_left
          · intro w
            go_simp
            first | done | with_reducible rfl
          try simp only [Act.put, List.setIfInBounds_toArray, List.set_cons_zero, List.set_cons_succ]
          refine wpAnyG_pure (i := 11) (oi := ⟨some 77, _, _, _, _, _⟩) (v := ?_) rfl (by kernel_rfl) (by kernel_rfl) (by kernel_rfl) (by rfl) (fun _ _ _ h => h) (by rfl) ?_ ?_
          rotate_left
          · intro w
            go_simp
            first | done | with_reducible rfl
          try simp only [Act.put, List.setIfInBounds_toArray, List.set_cons_zero, List.set_cons_succ]
          refine wpAnyG_pure (i := 12) (oi := ⟨some 15, _, _, _, _, _⟩) (v := ?_) rfl (by kernel_rfl) (by kernel_rfl) (by kernel_rfl) (by rfl) (fun _ _ _ h => h) (by rfl) ?_ ?_
          rotate_left
          · intro w
            go_simp
            first | done | with_reducible rfl
          try simp only [Act.put, List.setIfInBounds_toArray, List.set_cons_zero, List.set_cons_succ]
          refine wpAnyG_pure (i := 13) (oi := ⟨some 16, _, _, _, _, _⟩) (v := ?_) rfl (by kernel_rfl) (by kernel_rfl) (by kernel_rfl) (by rfl) (fun _ _ _ h => h) (by rfl) ?_ ?_
          rotate_left
          · intro w
            go_simp
            first | done | with_reducible rfl
          try simp only [Act.put, List.setIfInBounds_toArray, List.set_cons_zero, List.set_cons_succ]
          refine wpAnyG_done (by kernel_rfl) ?_ _
          refine NoPanic.normal ?_
          have HD := Lib.hid (newB_same HX1.out HX2.out y1 y2)
          have HYV := Lib.hid yv
          have H := Lib.hid y9
          clear y1 y2 yv y3 y7 y8 y9 HC HX1 HX2
          rcases HD.out with ⟨c1, c2⟩ | ⟨c1, rfl, rfl⟩
          · have v1 := HXV.out
            have v2 := HYV.out
            have h := H.out
            rw [c1] at v1 h
            rw [c2] at v2 h
            rcases v1 with ⟨v1, -⟩ | ⟨-, rfl, rfl⟩
            · cases v1
            rcases v2 with ⟨v2, -⟩ | ⟨-, rfl, rfl⟩
            · cases v2
            have h := ((h.f5.drop).f5.drop).toNone
            obtain ⟨s1, s2, s3, s4, s5⟩ := h.set2 hlt2 (.pointer none) (.pointer none)
            have H := Lib.hid (s5.twosPut k hlt2)
            clear h s5 c1 c2 HXV HYV HD
            go_wp2_with fail
            go_roundw
            case rel => exact ⟨k + 1, _, _, _, by omega, by go_num, H.out⟩
            case measure => simp [intOf]; omega
          · have v1 := HXV.out
            have v2 := HYV.out
            have h := H.out
            rw [c1] at v1 v2 h
            rcases v1 with ⟨-, rfl, rfl⟩ | ⟨v1, -⟩
            rotate_left
            · cases v1
            rcases v2 with ⟨-, rfl, rfl⟩ | ⟨v2, -⟩
            rotate_left
            · cases v2
            have h := Own.ofOpt rfl h.f5
            have h := Own.ofOpt rfl h.f6
            have h := Own.toSome (newB_LmOk c1) h
            obtain ⟨s1, s2, s3, s4, s5⟩ := h.set2 hlt2 (.pointer (some ⟨xbb, 0, none⟩)) (.pointer (some ⟨ybb, 0, none⟩))
            have H := Lib.hid (s5.twosPut k hlt2)
            clear h s5 c1 HXV HYV HD
            go_wp2_with fail
            go_roundw
            case rel => exact ⟨k + 1, _, _, _, by omega, by go_num, H.out⟩
            case measure => simp [intOf]; omega
        · obtain rfl : k = 2 := by omega
          have hlt2i : ¬ (2 : Int) < 2 := by omega
          have H := Lib.hid (hw.f4.drop.f4.drop : Own E wr (twos ga gx X p q (Hp.ro S :: L)))
          clear hw
          go_wp2_with fail
          clear hR hB hk2
          go_loopw [17] (fun i wr => ∃ (j : Nat) (X : Nat → Option Lm), j ≤ n ∧ i = .int .i64 j ∧ Own E wr (twos ga gx X p q (Hp.ro S :: L))) (fun i _ => n - (intOf i).toNat)
          case atStart => exact ⟨0, X, by omega, rfl, H.out⟩
          case round =>
            clear H
            obtain ⟨j, X, hj, rfl, hw⟩ := hrel
            by_cases hjlt : j < n
            · have hjlti : (j : Int) < n := by omega
              obtain ⟨x, go, off, hxk, rfl, hc⟩ := hr.get hjlt
              obtain ⟨bw, bo, bh, bt, -, hxc⟩ := HX.out _ (List.mem_of_getElem? hxk)
              have hss := HSZ.out _ (List.mem_of_getElem? hxk)
              have HXC := Lib.hid hxc
              obtain ⟨what, on, who, now, s0, cost⟩ := x
              dsimp only at bw bo bh bt hss HXC hxc
              obtain ⟨ckd, cn, cd, ce⟩ := cost
              have hro : ∀ i u, (enO ⟨what, on, who, now, s0, ⟨ckd, cn, cd, ce⟩⟩)[i]? = some u → wr.cell? ⟨go, off + j * 9 + i, none⟩ = some u := fun i u hu => hw.f4.rd (hc i u hu)
              have d0 : wr.cell? ⟨go, off + j * 9, none⟩ = some (.int .i64 what) := hro 0 _ rfl
              have d1 := hro 1 _ rfl
              have d2 := hro 2 _ rfl
              have d3 := hro 3 _ rfl
              have d4 := hro 4 _ rfl
              have d5 := hro 5 _ rfl
              have d6 := hro 6 _ rfl
              have d7 := hro 7 _ rfl
              have d8 := hro 8 _ rfl
              dsimp only at d1 d2 d3 d4 d5 d6 d7 d8
              have h1 := hw.alloc (.cells #[.int .i64 what, .int .i64 on, .int .i64 who, .int .i64 now, .string s0, .int .i64 ckd, .int .i64 cn, .int .i64 cd, .int .i64 ce] OPT)
              obtain ⟨g, hg⟩ : ∃ g, g = wr.heap.size := ⟨_, rfl⟩
              rw [← hg] at h1
              have h1 : Own E _ (twos ga gx X p q (Hp.blk g OPT #[.int .i64 what, .int .i64 on, .int .i64 who, .int .i64 now, .string s0, .int .i64 ckd, .int .i64 cn, .int .i64 cd, .int .i64 ce] :: Hp.ro S :: L)) := h1.b4
              have kq := fun w => pick_any on 2 w bo (by omega) (by omega)
              have hkk := pickN_lt on 2 (by omega)
              have kr := fun w => pick_any what 8 w bw (by omega) (by omega)
              have hkw := pickN_lt what 8 (by omega)
              generalize pickN on 2 = kk at *
              generalize pickN what 8 = kw at *
              have KR := Lib.hid kr
              have h2 := h1.twosAt kk hkk
              have H := Lib.hid h2
              clear hw h1 h2 hc hxk kr hro
              go_wp2_with fail
              rw [← hg]
              clear hg
              refine (kq _).mono ?_
              rintro e w2 ⟨rfl, rfl⟩
              clear kq d0 d1 d2 d3 d4 d5 d6 d7 d8
              have hkki : (kk : Int) < 2 := by omega
              cases hxk : X kk with
              | none =>
                have h := H.out
                rw [hxk] at h
                obtain ⟨hpk, hqk⟩ := h.twoNone
                have c2 := h.f2.cell kk
                rw [pair_get q kk hkk, hqk] at c2
                have H2 := Lib.hid (Own.twosBack kk hkk none (by rw [← hxk]; exact H.out))
                clear h H hxk hpk hqk
                go_wp2_with fail
                go_roundw
                case rel => exact ⟨j + 1, _, by omega, by go_num, H2.out.f4.drop⟩
                case measure => simp [intOf]; omega
              | some y =>
                have h := H.out
                rw [hxk] at h
                obtain ⟨b, b2, hy, hpk, hqk, h⟩ := h.twoSome
                have HC : Hid (∀ w' (A B0 : Hp) L', Own E w' (A :: B0 :: Hp.blk ga LAT #[p 0, p 1] :: Hp.blk gx RLAT #[q 0, q 1] :: Hp.two (X (1 - kk)) (p (1 - kk)) (q (1 - kk)) :: Hp.blk g OPT #[.int .i64 what, .int .i64 on, .int .i64 who, .int .i64 now, .string s0, .int .i64 ckd, .int .i64 cn, .int .i64 cd, .int .i64 ce] :: L') → w'.cell? ⟨ga, kk, none⟩ = some (.pointer (some ⟨b, 0, none⟩)) ∧ w'.cell? ⟨gx, kk, none⟩ = some (.pointer (some ⟨b2, 0, none⟩)) ∧ w'.cell? ⟨g, 3, none⟩ = some (.int .i64 now) ∧ w'.rangeAt g 5 (enR ⟨ckd, cn, cd, ce⟩)) := Lib.hid fun w' A B0 L' hw' => by
                  refine ⟨by rw [hw'.f2.cell kk, pair_get p kk hkk, hpk], by rw [hw'.f3.cell kk, pair_get q kk hkk, hqk], hw'.f5.cell 3, hw'.f5.range 5 _ ?_⟩
                  intro i u hu
                  match i, hu with | 0, hu => exact hu | 1, hu => exact hu | 2, hu => exact hu | 3, hu => exact hu
                have c2 := h.f3.cell kk
                rw [pair_get q kk hkk, hqk] at c2
                have c3 := h.f5.cell 2
                have c4 := h.f5.cell 4
                have c0 := h.f5.cell 0
                have HP := Lib.hid hpk
                have HQ := Lib.hid hqk
                have H := Lib.hid h
                clear h hxk hpk hqk hxc
                go_wp2_with fail
                refine (nameF_any who s0 _ bh H.out).mono ?_
                clear H
                rintro e w3 ⟨rfl, h⟩
                have hsz := nmF_size who s0 hss
                generalize nmF who s0 = s at *
                have c0 := h.f5.cell 0
                have H := Lib.hid h
                clear h c2 c3 c4
                go_wp2_with fail
                refine (KR.out _).mono ?_
                rintro e w2 ⟨rfl, rfl⟩
                clear c0
                by_cases hk6 : kw < 6
                · have hk6i : (kw : Int) < 6 := by omega
                  have H := Lib.hid H.out.drew
                  go_wp2_with fail
                  refine wp_region_text [2, 5, 8] (fun w' => w'.cell? ⟨ga, kk, none⟩ = some (.pointer (some ⟨b, 0, none⟩)) ∧ w'.cell? ⟨gx, kk, none⟩ = some (.pointer (some ⟨b2, 0, none⟩)) ∧ w'.cell? ⟨g, 3, none⟩ = some (.int .i64 now) ∧ w'.rangeAt g 5 (enR ⟨ckd, cn, cd, ce⟩)) (by kernel_rfl) ?_ (fun hS => ?_)
                  · exact HC.out _ _ _ _ H.out
                  refine wpAnyG_pure (i := 0) (oi := ⟨some 126, _, _, _, _, _⟩) (v := ?_) rfl (by kernel_rfl) (by kernel_rfl) (by kernel_rfl) (by rfl) (fun _ _ _ h => h) (by rfl) ?_ ?_
                  rotate_left
                  · intro w
                    go_simp
                    first | done | with_reducible rfl
                  try simp only [Act.put, List.setIfInBounds_toArray, List.set_cons_zero, List.set_cons_succ]
                  refine wpAnyG_pure (i := 1) (oi := ⟨some 127, _, _, _, _, _⟩) (v := ?_) rfl (by kernel_rfl) (by kernel_rfl) (by kernel_rfl) (by rfl) (fun _ _ _ h => h) (by rfl) ?_ ?_
                  rotate_left
                  · intro w
                    go_simp
                    first | done | with_reducible rfl
                  try simp only [Act.put, List.setIfInBounds_toArray, List.set_cons_zero, List.set_cons_succ]
                  refine wpAnyG_load (i := 2) (oi := ⟨some 128, _, _, _, _, _⟩) (v := (.pointer (some ⟨b, 0, none⟩))) rfl (by kernel_rfl) (by kernel_rfl) (by kernel_rfl) (by rfl) (fun _ _ _ h => h) (by rfl) ?_ (by assumption) ?_
                  · intro w hS
                    have hq := hS.1; go_simp
                  try simp only [Act.put, List.setIfInBounds_toArray, List.set_cons_zero, List.set_cons_succ]
                  refine wpAnyG_pure (i := 3) (oi := ⟨some 129, _, _, _, _, _⟩) (v := ?_) rfl (by kernel_rfl) (by kernel_rfl) (by kernel_rfl) (by rfl) (fun _ _ _ h => h) (by rfl) ?_ ?_
                  rotate_left
                  · intro w
                    go_simp
                    first | done | with_reducible rfl
                  try simp only [Act.put, List.setIfInBounds_toArray, List.set_cons_zero, List.set_cons_succ]
                  refine wpAnyG_pure (i := 4) (oi := ⟨some 130, _, _, _, _, _⟩) (v := ?_) rfl (by kernel_rfl) (by kernel_rfl) (by kernel_rfl) (by rfl) (fun _ _ _ h => h) (by rfl) ?_ ?_
                  rotate_left
                  · intro w
                    go_simp
                    first | done | with_reducible rfl
                  try simp only [Act.put, List.setIfInBounds_toArray, List.set_cons_zero, List.set_cons_succ]
                  refine wpAnyG_load (i := 5) (oi := ⟨some 131, _, _, _, _, _⟩) (v := (rlV ⟨ckd, cn, cd, ce⟩)) rfl (by kernel_rfl) (by kernel_rfl) (by kernel_rfl) (by rfl) (fun _ _ _ h => h) (by rfl) ?_ (by assumption) ?_
                  · intro w hS
                    exact exec_load_mid RLT (.tmp 130) rfl g 5 (by rfl) (enR ⟨ckd, cn, cd, ce⟩) _ hS.2.2.2 Try.underlying39 rfl (by kernel_rfl)
                  try simp only [Act.put, List.setIfInBounds_toArray, List.set_cons_zero, List.set_cons_succ]
                  refine wpAnyG_pure (i := 7) (oi := ⟨some 133, _, _, _, _, _⟩) (v := ?_) rfl (by kernel_rfl) (by kernel_rfl) (by kernel_rfl) (by rfl) (fun _ _ _ h => h) (by rfl) ?_ ?_
                  rotate_left
                  · intro w
                    go_simp
                    first | done | with_reducible rfl
                  try simp only [Act.put, List.setIfInBounds_toArray, List.set_cons_zero, List.set_cons_succ]
                  refine wpAnyG_load (i := 8) (oi := ⟨some 134, _, _, _, _, _⟩) (v := (.int .i64 now)) rfl (by kernel_rfl) (by kernel_rfl) (by kernel_rfl) (by rfl) (fun _ _ _ h => h) (by rfl) ?_ (by assumption) ?_
                  · intro w hS
                    have hq := hS.2.2.1; go_simp
                  try simp only [Act.put, List.setIfInBounds_toArray, List.set_cons_zero, List.set_cons_succ]
                  refine wpAnyG_keep (i := 6) (oi := ⟨some 132, _, _, _, _, _⟩) (by kernel_rfl) rfl (fun K hK => ?_)
                  rw [if_pos (by rfl)]
                  go_simp
                  refine (realg_any ⟨ckd, cn, cd, ce⟩ _ HXC.out H.out).mono ?_
                  rintro e w5 ⟨xr, rfl, x1, x3⟩
                  refine hK.out _ _ ?_ (fun hS => ?_)
                  · exact HC.out _ _ _ _ x3
                  clear hK K
                  try simp only [Act.put, List.setIfInBounds_toArray, List.set_cons_zero, List.set_cons_succ]
                  refine wpAnyG_keep (i := 9) (oi := ⟨some 135, _, _, _, _, _⟩) (by kernel_rfl) rfl (fun K hK => ?_)
                  rw [if_pos (by rfl)]
                  go_simp
                  refine (takeg_any b y.rate y.burst xr y.l s now _ hy.r hy.b x1.lt hsz hy.ok x3).mono ?_
                  rintro e w8 ⟨xn, xe, xl, rfl, xv, x8⟩
                  have x9 := x8.f1
                  refine hK.out _ _ ?_ (fun hS => ?_)
                  · exact HC.out _ _ _ _ x9
                  clear hK K
                  try simp only [Act.put, List.setIfInBounds_toArray, List.set_cons_zero, List.set_cons_succ]
                  refine wpAnyG_pure (i := 10) (oi := ⟨some 125, _, _, _, _, _⟩) (v := ?_) rfl (by kernel_rfl) (by kernel_rfl) (by kernel_rfl) (by rfl) (fun _ _ _ h => h) (by rfl) ?_ ?_
                  rotate_left
                  · intro w
                    go_simp
                    first | done | with_reducible rfl
                  try simp only [Act.put, List.setIfInBounds_toArray, List.set_cons_zero, List.set_cons_succ]
                  refine wpAnyG_pure (i := 11) (oi := ⟨some 136, _, _, _, _, _⟩) (v := ?_) rfl (by kernel_rfl) (by kernel_rfl) (by kernel_rfl) (by rfl) (fun _ _ _ h => h) (by rfl) ?_ ?_
                  rotate_left
                  · intro w
                    go_simp
                    first | done | with_reducible rfl
                  try simp only [Act.put, List.setIfInBounds_toArray, List.set_cons_zero, List.set_cons_succ]
                  refine wpAnyG_pure (i := 12) (oi := ⟨some 137, _, _, _, _, _⟩) (v := ?_) rfl (by kernel_rfl) (by kernel_rfl) (by kernel_rfl) (by rfl) (fun _ _ _ h => h) (by rfl) ?_ ?_
                  rotate_left
                  · intro w
                    go_simp
                    first | done | with_reducible rfl
                  try simp only [Act.put, List.setIfInBounds_toArray, List.set_cons_zero, List.set_cons_succ]
                  refine wpAnyG_pure (i := 13) (oi := ⟨some 22, _, _, _, _, _⟩) (v := ?_) rfl (by kernel_rfl) (by kernel_rfl) (by kernel_rfl) (by rfl) (fun _ _ _ h => h) (by rfl) ?_ ?_
                  rotate_left
                  · intro w
                    go_simp
                    first | done | with_reducible rfl
                  try simp only [Act.put, List.setIfInBounds_toArray, List.set_cons_zero, List.set_cons_succ]
                  refine wpAnyG_pure (i := 14) (oi := ⟨some 23, _, _, _, _, _⟩) (v := ?_) rfl (by kernel_rfl) (by kernel_rfl) (by kernel_rfl) (by rfl) (fun _ _ _ h => h) (by rfl) ?_ ?_
                  rotate_left
                  · intro w
                    go_simp
                    first | done | with_reducible rfl
                  try simp only [Act.put, List.setIfInBounds_toArray, List.set_cons_zero, List.set_cons_succ]
                  refine wpAnyG_done (by kernel_rfl) ?_ _
                  refine NoPanic.normal ?_
                  have H := Lib.hid x9.drew
                  have HX1 := Lib.hid x1
                  have HXV := Lib.hid xv
                  clear x1 xv x3 x8 x9
                  go_wp2_with fail
                  refine wp_region_text [2, 5, 8] (fun w' => w'.cell? ⟨ga, kk, none⟩ = some (.pointer (some ⟨b, 0, none⟩)) ∧ w'.cell? ⟨gx, kk, none⟩ = some (.pointer (some ⟨b2, 0, none⟩)) ∧ w'.cell? ⟨g, 3, none⟩ = some (.int .i64 now) ∧ w'.rangeAt g 5 (enR ⟨ckd, cn, cd, ce⟩)) (by kernel_rfl) ?_ (fun hS => ?_)
                  · exact HC.out _ _ _ _ H.out
                  refine wpAnyG_pure (i := 0) (oi := ⟨some 139, _, _, _, _, _⟩) (v := ?_) rfl (by kernel_rfl) (by kernel_rfl) (by kernel_rfl) (by rfl) (fun _ _ _ h => h) (by rfl) ?_ ?_
                  rotate_left
                  · intro w
                    go_simp
                    first | done | with_reducible rfl
                  try simp only [Act.put, List.setIfInBounds_toArray, List.set_cons_zero, List.set_cons_succ]
                  refine wpAnyG_pure (i := 1) (oi := ⟨some 140, _, _, _, _, _⟩) (v := ?_) rfl (by kernel_rfl) (by kernel_rfl) (by kernel_rfl) (by rfl) (fun _ _ _ h => h) (by rfl) ?_ ?_
                  rotate_left
                  · intro w
                    go_simp
                    first | done | with_reducible rfl
                  try simp only [Act.put, List.setIfInBounds_toArray, List.set_cons_zero, List.set_cons_succ]
                  refine wpAnyG_load (i := 2) (oi := ⟨some 141, _, _, _, _, _⟩) (v := (.pointer (some ⟨b2, 0, none⟩))) rfl (by kernel_rfl) (by kernel_rfl) (by kernel_rfl) (by rfl) (fun _ _ _ h => h) (by rfl) ?_ (by assumption) ?_
                  · intro w hS
                    have hq := hS.2.1; go_simp
                  try simp only [Act.put, List.setIfInBounds_toArray, List.set_cons_zero, List.set_cons_succ]
                  refine wpAnyG_pure (i := 3) (oi := ⟨some 142, _, _, _, _, _⟩) (v := ?_) rfl (by kernel_rfl) (by kernel_rfl) (by kernel_rfl) (by rfl) (fun _ _ _ h => h) (by rfl) ?_ ?_
                  rotate_left
                  · intro w
                    go_simp
                    first | done | with_reducible rfl
                  try simp only [Act.put, List.setIfInBounds_toArray, List.set_cons_zero, List.set_cons_succ]
                  refine wpAnyG_pure (i := 4) (oi := ⟨some 143, _, _, _, _, _⟩) (v := ?_) rfl (by kernel_rfl) (by kernel_rfl) (by kernel_rfl) (by rfl) (fun _ _ _ h => h) (by rfl) ?_ ?_
                  rotate_left
                  · intro w
                    go_simp
                    first | done | with_reducible rfl
                  try simp only [Act.put, List.setIfInBounds_toArray, List.set_cons_zero, List.set_cons_succ]
                  refine wpAnyG_load (i := 5) (oi := ⟨some 144, _, _, _, _, _⟩) (v := (rlV ⟨ckd, cn, cd, ce⟩)) rfl (by kernel_rfl) (by kernel_rfl) (by kernel_rfl) (by rfl) (fun _ _ _ h => h) (by rfl) ?_ (by assumption) ?_
                  · intro w hS
                    exact exec_load_mid RLT (.tmp 143) rfl g 5 (by rfl) (enR ⟨ckd, cn, cd, ce⟩) _ hS.2.2.2 Try.underlying39 rfl (by kernel_rfl)
                  try simp only [Act.put, List.setIfInBounds_toArray, List.set_cons_zero, List.set_cons_succ]
                  refine wpAnyG_pure (i := 7) (oi := ⟨some 146, _, _, _, _, _⟩) (v := ?_) rfl (by kernel_rfl) (by kernel_rfl) (by kernel_rfl) (by rfl) (fun _ _ _ h => h) (by rfl) ?_ ?_
                  rotate_left
                  · intro w
                    go_simp
                    first | done | with_reducible rfl
                  try simp only [Act.put, List.setIfInBounds_toArray, List.set_cons_zero, List.set_cons_succ]
                  refine wpAnyG_load (i := 8) (oi := ⟨some 147, _, _, _, _, _⟩) (v := (.int .i64 now)) rfl (by kernel_rfl) (by kernel_rfl) (by kernel_rfl) (by rfl) (fun _ _ _ h => h) (by rfl) ?_ (by assumption) ?_
                  · intro w hS
                    have hq := hS.2.2.1; go_simp
                  try simp only [Act.put, List.setIfInBounds_toArray, List.set_cons_zero, List.set_cons_succ]
                  refine wpAnyG_keep (i := 6) (oi := ⟨some 145, _, _, _, _, _⟩) (by kernel_rfl) rfl (fun K hK => ?_)
                  rw [if_pos (by rfl)]
                  go_simp
                  refine (realg_any ⟨ckd, cn, cd, ce⟩ _ HXC.out H.out).mono ?_
                  rintro e w5 ⟨yr, rfl, y1, y3⟩
                  refine hK.out _ _ ?_ (fun hS => ?_)
                  · exact HC.out _ _ _ _ y3
                  clear hK K
                  try simp only [Act.put, List.setIfInBounds_toArray, List.set_cons_zero, List.set_cons_succ]
                  refine wpAnyG_keep (i := 9) (oi := ⟨some 148, _, _, _, _, _⟩) (by kernel_rfl) rfl (fun K hK => ?_)
                  rw [if_pos (by rfl)]
                  go_simp
                  refine (xtakeg_any b2 y.rate y.burst yr y.l s now _ hy.r hy.b y1.lt hsz hy.ok hy.nd y3).mono ?_
                  rintro e w8 ⟨yn, ye, yl, rfl, yv, y8⟩
                  have y9 := y8.f1
                  refine hK.out _ _ ?_ (fun hS => ?_)
                  · exact HC.out _ _ _ _ y9
                  clear hK K
                  try simp only [Act.put, List.setIfInBounds_toArray, List.set_cons_zero, List.set_cons_succ]
                  refine wpAnyG_pure (i := 10) (oi := ⟨some 138, _, _, _, _, _⟩) (v := ?_) rfl (by kernel_rfl) (by kernel_rfl) (by kernel_rfl) (by rfl) (fun _ _ _ h => h) (by rfl) ?_ ?_
                  rotate_left
                  · intro w
                    go_simp
                    first | done | with_reducible rfl
                  try simp only [Act.put, List.setIfInBounds_toArray, List.set_cons_zero, List.set_cons_succ]
                  refine wpAnyG_pure (i := 11) (oi := ⟨some 149, _, _, _, _, _⟩) (v := ?_) rfl (by kernel_rfl) (by kernel_rfl) (by kernel_rfl) (by rfl) (fun _ _ _ h => h) (by rfl) ?_ ?_
                  rotate_left
                  · intro w
                    go_simp
                    first | done | with_reducible rfl
                  try simp only [Act.put, List.setIfInBounds_toArray, List.set_cons_zero, List.set_cons_succ]
                  refine wpAnyG_pure (i := 12) (oi := ⟨some 150, _, _, _, _, _⟩) (v := ?_) rfl (by kernel_rfl) (by kernel_rfl) (by kernel_rfl) (by rfl) (fun _ _ _ h => h) (by rfl) ?_ ?_
                  rotate_left
                  · intro w
                    go_simp
                    first | done | with_reducible rfl
                  try simp only [Act.put, List.setIfInBounds_toArray, List.set_cons_zero, List.set_cons_succ]
                  refine wpAnyG_pure (i := 13) (oi := ⟨some 24, _, _, _, _, _⟩) (v := ?_) rfl (by kernel_rfl) (by kernel_rfl) (by kernel_rfl) (by rfl) (fun _ _ _ h => h) (by rfl) ?_ ?_
                  rotate_left
                  · intro w
                    go_simp
                    first | done | with_reducible rfl
                  try simp only [Act.put, List.setIfInBounds_toArray, List.set_cons_zero, List.set_cons_succ]
                  refine wpAnyG_pure (i := 14) (oi := ⟨some 25, _, _, _, _, _⟩) (v := ?_) rfl (by kernel_rfl) (by kernel_rfl) (by kernel_rfl) (by rfl) (fun _ _ _ h => h) (by rfl) ?_ ?_
                  rotate_left
                  · intro w
                    go_simp
                    first | done | with_reducible rfl
                  try simp only [Act.put, List.setIfInBounds_toArray, List.set_cons_zero, List.set_cons_succ]
                  refine wpAnyG_done (by kernel_rfl) ?_ _
                  refine NoPanic.normal ?_
                  obtain ⟨e1, e2, e3⟩ := HXV.out.same yv (HX1.out.same y1)
                  obtain ⟨o1, o2⟩ := yv.ok hy.b hy.ok hy.nd
                  subst e1 e2 e3
                  have hy2 : LmOk ⟨y.rate, y.burst, xl⟩ := ⟨hy.r, hy.b, o1, o2⟩
                  have h := Own.toSome hy2 y9
                  have H := Lib.hid h.f4.drop
                  clear y1 yv y3 y8 y9 h o1 o2 hy2 HXV HX1 HC
                  go_wp2_with fail
                  go_roundw
                  case rel => exact ⟨j + 1, putAt X kk (some ⟨y.rate, y.burst, xl⟩), by omega, by go_num, Own.twosBack kk hkk _ (by rw [HP.out, HQ.out]; exact H.out)⟩
                  case measure => simp [intOf]; omega
                · have hk6i : ¬ (kw : Int) < 6 := by omega
                  have H := Lib.hid H.out.drew
                  go_wp2_with fail
                  have hlv := hasN_le (rate := y.rate) (s := s) (now := now) hy.ok
                  have kv1 := fun w M hw => level2_any (E := E) (L := M) b y.rate y.burst y.l s now w hy.r hy.b hy.ok hw
                  have kv2 := fun w M hw => xlevel2_any (E := E) (L := M) b2 y.rate y.burst y.l s now w hy.r hy.b hy.ok hw
                  generalize hasN y.rate y.burst y.l s now = lv at *
                  have zb := hy.b
                  have z3 : (FloatKind.f32.format.order lv lv == some .eq) = true := by rw [Fl.eq_Z (.inl (by omega)) (.inl (by omega)), decide_eq_true rfl]
                  have KV1 := Lib.hid kv1
                  have KV2 := Lib.hid kv2
                  have Z3 := Lib.hid z3
                  clear kv1 kv2 z3 zb hlv
                  refine wp_region_text [2, 5, 9, 12] (fun w' => w'.cell? ⟨ga, kk, none⟩ = some (.pointer (some ⟨b, 0, none⟩)) ∧ w'.cell? ⟨gx, kk, none⟩ = some (.pointer (some ⟨b2, 0, none⟩)) ∧ w'.cell? ⟨g, 3, none⟩ = some (.int .i64 now) ∧ w'.rangeAt g 5 (enR ⟨ckd, cn, cd, ce⟩)) (by kernel_rfl) ?_ (fun hS => ?_)
                  · exact HC.out _ _ _ _ H.out
                  refine wpAnyG_pure (i := 0) (oi := ⟨some 159, _, _, _, _, _⟩) (v := ?_) rfl (by kernel_rfl) (by kernel_rfl) (by kernel_rfl) (by rfl) (fun _ _ _ h => h) (by rfl) ?_ ?_
                  rotate_left
                  · intro w
                    go_simp
                    first | done | with_reducible rfl
                  try simp only [Act.put, List.setIfInBounds_toArray, List.set_cons_zero, List.set_cons_succ]
                  refine wpAnyG_pure (i := 1) (oi := ⟨some 160, _, _, _, _, _⟩) (v := ?_) rfl (by kernel_rfl) (by kernel_rfl) (by kernel_rfl) (by rfl) (fun _ _ _ h => h) (by rfl) ?_ ?_
                  rotate_left
                  · intro w
                    go_simp
                    first | done | with_reducible rfl
                  try simp only [Act.put, List.setIfInBounds_toArray, List.set_cons_zero, List.set_cons_succ]
                  refine wpAnyG_load (i := 2) (oi := ⟨some 161, _, _, _, _, _⟩) (v := (.pointer (some ⟨b, 0, none⟩))) rfl (by kernel_rfl) (by kernel_rfl) (by kernel_rfl) (by rfl) (fun _ _ _ h => h) (by rfl) ?_ (by assumption) ?_
                  · intro w hS
                    have hq := hS.1; go_simp
                  try simp only [Act.put, List.setIfInBounds_toArray, List.set_cons_zero, List.set_cons_succ]
                  refine wpAnyG_pure (i := 3) (oi := ⟨some 162, _, _, _, _, _⟩) (v := ?_) rfl (by kernel_rfl) (by kernel_rfl) (by kernel_rfl) (by rfl) (fun _ _ _ h => h) (by rfl) ?_ ?_
                  rotate_left
                  · intro w
                    go_simp
                    first | done | with_reducible rfl
                  try simp only [Act.put, List.setIfInBounds_toArray, List.set_cons_zero, List.set_cons_succ]
                  refine wpAnyG_pure (i := 4) (oi := ⟨some 163, _, _, _, _, _⟩) (v := ?_) rfl (by kernel_rfl) (by kernel_rfl) (by kernel_rfl) (by rfl) (fun _ _ _ h => h) (by rfl) ?_ ?_
                  rotate_left
                  · intro w
                    go_simp
                    first | done | with_reducible rfl
                  try simp only [Act.put, List.setIfInBounds_toArray, List.set_cons_zero, List.set_cons_succ]
                  refine wpAnyG_load (i := 5) (oi := ⟨some 164, _, _, _, _, _⟩) (v := (.int .i64 now)) rfl (by kernel_rfl) (by kernel_rfl) (by kernel_rfl) (by rfl) (fun _ _ _ h => h) (by rfl) ?_ (by assumption) ?_
                  · intro w hS
                    have hq := hS.2.2.1; go_simp
                  try simp only [Act.put, List.setIfInBounds_toArray, List.set_cons_zero, List.set_cons_succ]
                  refine wpAnyG_pure (i := 7) (oi := ⟨some 166, _, _, _, _, _⟩) (v := ?_) rfl (by kernel_rfl) (by kernel_rfl) (by kernel_rfl) (by rfl) (fun _ _ _ h => h) (by rfl) ?_ ?_
                  rotate_left
                  · intro w
                    go_simp
                    first | done | with_reducible rfl
                  try simp only [Act.put, List.setIfInBounds_toArray, List.set_cons_zero, List.set_cons_succ]
                  refine wpAnyG_pure (i := 8) (oi := ⟨some 167, _, _, _, _, _⟩) (v := ?_) rfl (by kernel_rfl) (by kernel_rfl) (by kernel_rfl) (by rfl) (fun _ _ _ h => h) (by rfl) ?_ ?_
                  rotate_left
                  · intro w
                    go_simp
                    first | done | with_reducible rfl
                  try simp only [Act.put, List.setIfInBounds_toArray, List.set_cons_zero, List.set_cons_succ]
                  refine wpAnyG_load (i := 9) (oi := ⟨some 168, _, _, _, _, _⟩) (v := (.pointer (some ⟨b2, 0, none⟩))) rfl (by kernel_rfl) (by kernel_rfl) (by kernel_rfl) (by rfl) (fun _ _ _ h => h) (by rfl) ?_ (by assumption) ?_
                  · intro w hS
                    have hq := hS.2.1; go_simp
                  try simp only [Act.put, List.setIfInBounds_toArray, List.set_cons_zero, List.set_cons_succ]
                  refine wpAnyG_pure (i := 10) (oi := ⟨some 169, _, _, _, _, _⟩) (v := ?_) rfl (by kernel_rfl) (by kernel_rfl) (by kernel_rfl) (by rfl) (fun _ _ _ h => h) (by rfl) ?_ ?_
                  rotate_left
                  · intro w
                    go_simp
                    first | done | with_reducible rfl
                  try simp only [Act.put, List.setIfInBounds_toArray, List.set_cons_zero, List.set_cons_succ]
                  refine wpAnyG_pure (i := 11) (oi := ⟨some 170, _, _, _, _, _⟩) (v := ?_) rfl (by kernel_rfl) (by kernel_rfl) (by kernel_rfl) (by rfl) (fun _ _ _ h => h) (by rfl) ?_ ?_
                  rotate_left
                  · intro w
                    go_simp
                    first | done | with_reducible rfl
                  try simp only [Act.put, List.setIfInBounds_toArray, List.set_cons_zero, List.set_cons_succ]
                  refine wpAnyG_load (i := 12) (oi := ⟨some 171, _, _, _, _, _⟩) (v := (.int .i64 now)) rfl (by kernel_rfl) (by kernel_rfl) (by kernel_rfl) (by rfl) (fun _ _ _ h => h) (by rfl) ?_ (by assumption) ?_
                  · intro w hS
                    have hq := hS.2.2.1; go_simp
                  try simp only [Act.put, List.setIfInBounds_toArray, List.set_cons_zero, List.set_cons_succ]
                  refine wpAnyG_keep (i := 6) (oi := ⟨some 165, _, _, _, _, _⟩) (by kernel_rfl) rfl (fun K hK => ?_)
                  rw [if_pos (by rfl)]
                  go_simp
                  refine (KV1.out _ _ H.out).mono ?_
                  rintro e w5 ⟨rfl, v3⟩
                  refine hK.out _ _ ?_ (fun hS => ?_)
                  · exact HC.out _ _ _ _ v3
                  clear hK K
                  try simp only [Act.put, List.setIfInBounds_toArray, List.set_cons_zero, List.set_cons_succ]
                  refine wpAnyG_keep (i := 13) (oi := ⟨some 172, _, _, _, _, _⟩) (by kernel_rfl) rfl (fun K hK => ?_)
                  rw [if_pos (by rfl)]
                  go_simp
                  refine (KV2.out _ _ v3.f1).mono ?_
                  rintro e w8 ⟨rfl, v7⟩
                  have v8 := v7.f1
                  refine hK.out _ _ ?_ (fun hS => ?_)
                  · exact HC.out _ _ _ _ v8
                  clear hK K
                  try simp only [Act.put, List.setIfInBounds_toArray, List.set_cons_zero, List.set_cons_succ]
                  refine wpAnyG_pure (i := 14) (oi := ⟨some 173, _, _, _, _, _⟩) (v := (.bool true)) rfl (by kernel_rfl) (by kernel_rfl) (by kernel_rfl) (by rfl) (fun _ _ _ h => h) (by rfl) ?_ ?_
                  · intro w
                    have hq := Z3.out; go_simp
                  try simp only [Act.put, List.setIfInBounds_toArray, List.set_cons_zero, List.set_cons_succ]
                  refine wpAnyG_pure (i := 15) (oi := ⟨some 26, _, _, _, _, _⟩) (v := ?_) rfl (by kernel_rfl) (by kernel_rfl) (by kernel_rfl) (by rfl) (fun _ _ _ h => h) (by rfl) ?_ ?_
                  rotate_left
                  · intro w
                    go_simp
                    first | done | with_reducible rfl
                  try simp only [Act.put, List.setIfInBounds_toArray, List.set_cons_zero, List.set_cons_succ]
                  refine wpAnyG_done (by kernel_rfl) ?_ _
                  refine NoPanic.normal ?_
                  have H := Lib.hid v8
                  clear v3 v7 v8 KV1 KV2 Z3
                  by_cases hk7 : kw = 7
                  · have hk7i : (kw : Int) = 7 := by omega
                    go_wp2_with fail
                    have H := Lib.hid H.out.drew
                    refine wp_region_text [2, 5] (fun w' => w'.cell? ⟨ga, kk, none⟩ = some (.pointer (some ⟨b, 0, none⟩)) ∧ w'.cell? ⟨gx, kk, none⟩ = some (.pointer (some ⟨b2, 0, none⟩)) ∧ w'.cell? ⟨g, 3, none⟩ = some (.int .i64 now) ∧ w'.rangeAt g 5 (enR ⟨ckd, cn, cd, ce⟩)) (by kernel_rfl) ?_ (fun hS => ?_)
                    · exact HC.out _ _ _ _ H.out
                    refine wpAnyG_pure (i := 0) (oi := ⟨some 176, _, _, _, _, _⟩) (v := ?_) rfl (by kernel_rfl) (by kernel_rfl) (by kernel_rfl) (by rfl) (fun _ _ _ h => h) (by rfl) ?_ ?_
                    rotate_left
                    · intro w
                      go_simp
                      first | done | with_reducible rfl
                    try simp only [Act.put, List.setIfInBounds_toArray, List.set_cons_zero, List.set_cons_succ]
                    refine wpAnyG_pure (i := 1) (oi := ⟨some 177, _, _, _, _, _⟩) (v := ?_) rfl (by kernel_rfl) (by kernel_rfl) (by kernel_rfl) (by rfl) (fun _ _ _ h => h) (by rfl) ?_ ?_
                    rotate_left
                    · intro w
                      go_simp
                      first | done | with_reducible rfl
                    try simp only [Act.put, List.setIfInBounds_toArray, List.set_cons_zero, List.set_cons_succ]
                    refine wpAnyG_load (i := 2) (oi := ⟨some 178, _, _, _, _, _⟩) (v := (.pointer (some ⟨b, 0, none⟩))) rfl (by kernel_rfl) (by kernel_rfl) (by kernel_rfl) (by rfl) (fun _ _ _ h => h) (by rfl) ?_ (by assumption) ?_
                    · intro w hS
                      have hq := hS.1; go_simp
                    try simp only [Act.put, List.setIfInBounds_toArray, List.set_cons_zero, List.set_cons_succ]
                    refine wpAnyG_pure (i := 3) (oi := ⟨some 179, _, _, _, _, _⟩) (v := ?_) rfl (by kernel_rfl) (by kernel_rfl) (by kernel_rfl) (by rfl) (fun _ _ _ h => h) (by rfl) ?_ ?_
                    rotate_left
                    · intro w
                      go_simp
                      first | done | with_reducible rfl
                    try simp only [Act.put, List.setIfInBounds_toArray, List.set_cons_zero, List.set_cons_succ]
                    refine wpAnyG_pure (i := 4) (oi := ⟨some 180, _, _, _, _, _⟩) (v := ?_) rfl (by kernel_rfl) (by kernel_rfl) (by kernel_rfl) (by rfl) (fun _ _ _ h => h) (by rfl) ?_ ?_
                    rotate_left
                    · intro w
                      go_simp
                      first | done | with_reducible rfl
                    try simp only [Act.put, List.setIfInBounds_toArray, List.set_cons_zero, List.set_cons_succ]
                    refine wpAnyG_load (i := 5) (oi := ⟨some 181, _, _, _, _, _⟩) (v := (.pointer (some ⟨b2, 0, none⟩))) rfl (by kernel_rfl) (by kernel_rfl) (by kernel_rfl) (by rfl) (fun _ _ _ h => h) (by rfl) ?_ (by assumption) ?_
                    · intro w hS
                      have hq := hS.2.1; go_simp
                    try simp only [Act.put, List.setIfInBounds_toArray, List.set_cons_zero, List.set_cons_succ]
                    refine wpAnyG_keep (i := 6) (oi := ⟨some 182, _, _, _, _, _⟩) (by kernel_rfl) rfl (fun K hK => ?_)
                    rw [if_pos (by rfl)]
                    go_simp
                    refine (bothnames_any b b2 y.rate y.burst y.l _ hy.ok.len H.out).mono ?_
                    rintro e w5 ⟨rfl, v3⟩
                    refine hK.out _ _ ?_ (fun hS => ?_)
                    · exact HC.out _ _ _ _ v3
                    clear hK K
                    try simp only [Act.put, List.setIfInBounds_toArray, List.set_cons_zero, List.set_cons_succ]
                    refine wpAnyG_pure (i := 7) (oi := ⟨some 27, _, _, _, _, _⟩) (v := ?_) rfl (by kernel_rfl) (by kernel_rfl) (by kernel_rfl) (by rfl) (fun _ _ _ h => h) (by rfl) ?_ ?_
                    rotate_left
                    · intro w
                      go_simp
                      first | done | with_reducible rfl
                    try simp only [Act.put, List.setIfInBounds_toArray, List.set_cons_zero, List.set_cons_succ]
                    refine wpAnyG_done (by kernel_rfl) ?_ _
                    refine NoPanic.normal ?_
                    have H := Lib.hid v3
                    clear v3
                    go_wp2_with fail
                    go_roundw
                    case rel => exact ⟨j + 1, putAt X kk (some y), by omega, by go_num, Own.twosBack kk hkk _ (by rw [HP.out, HQ.out]; exact (Own.toSome hy H.out).f4.drop)⟩
                    case measure => simp [intOf]; omega
                  · have hk7i : ¬ (kw : Int) = 7 := by omega
                    go_wp2_with fail
                    go_roundw
                    case rel => exact ⟨j + 1, putAt X kk (some y), by omega, by go_num, Own.twosBack kk hkk _ (by rw [HP.out, HQ.out]; exact (Own.toSome hy H.out).f4.drop)⟩
                    case measure => simp [intOf]; omega
            · obtain rfl : n = j := by omega
              have hjlti : ¬ (n : Int) < n := by omega
              have H := Lib.hid (hw.drop.drop.drop.drop : Own E wr (Hp.ro S :: L))
              clear hw
              go_wp2_with fail
              go_ret
              exact ⟨rfl, H.out⟩
end
end Go.Proofs.Ytnbpbonpcbemdaa
