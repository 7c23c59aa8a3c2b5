/- limit.wait: how many seconds it takes. -/
import Derived.Test.YtnbpbonpcbemdaaLim5
namespace Go.Proofs.Ytnbpbonpcbemdaa
open Go.RowKit
theorem alloc_size (w : World) (o : Obj) : (w.alloc o).heap.size = w.heap.size + 1 := Array.size_push _
namespace Fl
theorem ge_Z {x y : Nat} (hx : Pr x) (hy : Pr y) : (FloatKind.f32.format.order x y == some .gt || FloatKind.f32.format.order x y == some .eq) = decide (Z y ≤ Z x) := by
  have o1 : FloatKind.f32.format.order x y = some (compare (Z x) (Z y)) := order_Z hx hy
  rw [o1]
  rcases Nat.lt_trichotomy (Z x) (Z y) with h | h | h
  · rw [Nat.compare_eq_lt.2 h, decide_eq_false (by omega)]; rfl
  · rw [h, Nat.compare_eq_eq.2 rfl, decide_eq_true (by omega)]; rfl
  · rw [Nat.compare_eq_gt.2 h, decide_eq_true (by omega)]; rfl
theorem lt_Z {x y : Nat} (hx : Pr x) (hy : Pr y) : (FloatKind.f32.format.order x y == some .lt) = decide (Z x < Z y) := by
  have o1 : FloatKind.f32.format.order x y = some (compare (Z x) (Z y)) := order_Z hx hy
  rw [o1]
  rcases Nat.lt_trichotomy (Z x) (Z y) with h | h | h
  · rw [Nat.compare_eq_lt.2 h, decide_eq_true (by omega)]; rfl
  · rw [h, Nat.compare_eq_eq.2 rfl, decide_eq_false (by omega)]; rfl
  · rw [Nat.compare_eq_gt.2 h, decide_eq_false (by omega)]; rfl
theorem eq_Z {x y : Nat} (hx : Pr x) (hy : Pr y) : (FloatKind.f32.format.order x y == some .eq) = decide (Z x = Z y) := by
  have o1 : FloatKind.f32.format.order x y = some (compare (Z x) (Z y)) := order_Z hx hy
  rw [o1]
  rcases Nat.lt_trichotomy (Z x) (Z y) with h | h | h
  · rw [Nat.compare_eq_lt.2 h, decide_eq_false (by omega)]; rfl
  · rw [h, Nat.compare_eq_eq.2 rfl, decide_eq_true rfl]; rfl
  · rw [Nat.compare_eq_gt.2 h, decide_eq_false (by omega)]; rfl
end Fl
/-- is there enough, behind so many seconds? -/
def enoughB (rate burst level cost d : Nat) : Bool := decide (Fl.Z cost ≤ Fl.fillN rate burst level d)
/-- the seconds to wait -/
def IsWait (en : Nat → Bool) (W : Nat) : Prop := (en 1099511627776 = false ∧ W = 1099511627776) ∨ (en 1099511627776 = true ∧ 1 ≤ W ∧ W ≤ 1099511627776 ∧ en W = true ∧ ∀ w, 1 ≤ w → w < W → en w = false)
theorem IsWait.uniq {en : Nat → Bool} {W U : Nat} (h1 : IsWait en W) (h2 : IsWait en U) : W = U := by
  rcases h1 with ⟨a, rfl⟩ | ⟨a, b1, b2, b3, b4⟩ <;> rcases h2 with ⟨c, rfl⟩ | ⟨c, d1, d2, d3, d4⟩
  · rfl
  · rw [a] at c; cases c
  · rw [a] at c; cases c
  · rcases Nat.lt_trichotomy W U with h | h | h
    · rw [d4 W b1 h] at b3; cases b3
    · exact h
    · rw [b4 U d1 h] at d3; cases d3
section
variable {E : World} {L : List Hp}
abbrev PLT : TypeId := 26
abbrev Hp.wbox (g b cost gone : Nat) (x : Bkt) : Hp := Hp.all [Hp.blk g PLT #[.pointer (some ⟨b, 0, none⟩)], Hp.blk (g + 1) BKT #[.string x.name, .float .f32 x.level, .int .i64 x.at_], Hp.blk (g + 2) F32 #[.float .f32 cost], Hp.blk (g + 3) 3 #[.int .i64 gone]]
set_option maxHeartbeats 4000000 in
theorem enough_any (b rate burst cost gone d g : Nat) (l : List Bkt) (x : Bkt) (w : World) (hr : Fl.Pr rate) (hb : burst < 2139095040) (hl : x.level < 2139095040) (hc : Fl.Pr cost) (hd : gone + d ≤ 9223372036854775807) (h : Own E w (Hp.wbox g b cost gone x :: Hp.lim b rate burst l :: L)) :
    Calls Try.prog 39 #[.int .i64 d, .pointer (some ⟨g, 0, none⟩), .pointer (some ⟨g + 1, 0, none⟩), .pointer (some ⟨g + 3, 0, none⟩), .pointer (some ⟨g + 2, 0, none⟩)] w fun e w' => e = .returned (.bool (enoughB rate burst x.level cost (gone + d))) ∧ Own E w' (Hp.wbox g b cost gone x :: Hp.lim b rate burst l :: L) := by
  have h0 : Own E w (Hp.blk g PLT #[.pointer (some ⟨b, 0, none⟩)] :: Hp.blk (g + 1) BKT #[.string x.name, .float .f32 x.level, .int .i64 x.at_] :: Hp.blk (g + 2) F32 #[.float .f32 cost] :: Hp.blk (g + 3) 3 #[.int .i64 gone] :: Hp.lim b rate burst l :: L) := Own.star.1 h
  clear h
  have hcell : ∀ w', (∃ L', Own E w' (Hp.blk g PLT #[.pointer (some ⟨b, 0, none⟩)] :: Hp.blk (g + 1) BKT #[.string x.name, .float .f32 x.level, .int .i64 x.at_] :: Hp.blk (g + 2) F32 #[.float .f32 cost] :: Hp.blk (g + 3) 3 #[.int .i64 gone] :: L')) → w'.cell? ⟨g, 0, none⟩ = some (.pointer (some ⟨b, 0, none⟩)) ∧ w'.cell? ⟨g + 1, 1, none⟩ = some (.float .f32 x.level) ∧ w'.cell? ⟨g + 3, 0, none⟩ = some (.int .i64 gone) ∧ w'.cell? ⟨g + 2, 0, none⟩ = some (.float .f32 cost) := fun w' hw => by
    obtain ⟨_, hw⟩ := hw
    exact ⟨hw.cell 0, hw.f1.cell 1, hw.f3.cell 0, hw.f2.cell 0⟩
  have HC := Lib.hid hcell
  have h := h0.drew
  have kf := filled_any b rate burst x.level (gone + d) l w.drew hr (by omega) hl hd h.f4
  have j1 : IntKind.i64.wrap ((gone : Int) + d) = (gone : Int) + d := IntWalk.i64_in _ (by omega)
  rw [Int.natCast_add] at kf
  have hle := Fl.fillN_le rate burst x.level (gone + d)
  have hge : (FloatKind.f32.format.order (Fl.fillN rate burst x.level (gone + d)) cost == some .gt || FloatKind.f32.format.order (Fl.fillN rate burst x.level (gone + d)) cost == some .eq) = enoughB rate burst x.level cost (gone + d) := by
    rw [Fl.ge_Z (Or.inl (by omega)) hc, Fl.Z_same (show Fl.fillN rate burst x.level (gone + d) < 2139095040 by omega)]; rfl
  generalize Fl.fillN rate burst x.level (gone + d) = fi at *
  generalize enoughB rate burst x.level cost (gone + d) = eb at *
  have KF := Lib.hid kf
  have HGE := Lib.hid hge
  clear kf hge h0 hcell
  go_enter Try.func39, Try.ntmps39
  go_wp2_with fail
  refine wp_region_text [0, 2, 3, 7] (fun w' => w'.cell? ⟨g, 0, none⟩ = some (.pointer (some ⟨b, 0, none⟩)) ∧ w'.cell? ⟨g + 1, 1, none⟩ = some (.float .f32 x.level) ∧ w'.cell? ⟨g + 3, 0, none⟩ = some (.int .i64 gone) ∧ w'.cell? ⟨g + 2, 0, none⟩ = some (.float .f32 cost)) (by kernel_rfl) ?_ (fun hS => ?_)
  · exact HC.out _ ⟨_, h⟩
  refine wpAnyG_load (i := 0) (oi := ⟨some 7, _, _, _, _, _⟩) (v := ?_) rfl (by kernel_rfl) (by kernel_rfl) (by kernel_rfl) (by rfl) (fun _ _ _ h => h) (by rfl) ?_ (by assumption) ?_
  rotate_left
  · intro w hS
    try dsimp only at hS
    go_simp
    first | done | with_reducible rfl
  try simp only [Act.put, List.setIfInBounds_toArray, List.set_cons_zero, List.set_cons_succ]
  refine wpAnyG_pure (i := 1) (oi := ⟨some 8, _, _, _, _, _⟩) (v := ?_) rfl (by kernel_rfl) (by kernel_rfl) (by kernel_rfl) (by rfl) (fun _ _ _ h => h) (by rfl) ?_ ?_
  rotate_left
  · intro w
    go_simp
    first | done | with_reducible rfl
  try simp only [Act.put, List.setIfInBounds_toArray, List.set_cons_zero, List.set_cons_succ]
  refine wpAnyG_load (i := 2) (oi := ⟨some 9, _, _, _, _, _⟩) (v := ?_) rfl (by kernel_rfl) (by kernel_rfl) (by kernel_rfl) (by rfl) (fun _ _ _ h => h) (by rfl) ?_ (by assumption) ?_
  rotate_left
  · intro w hS
    try dsimp only at hS
    go_simp
    first | done | with_reducible rfl
  try simp only [Act.put, List.setIfInBounds_toArray, List.set_cons_zero, List.set_cons_succ]
  refine wpAnyG_load (i := 3) (oi := ⟨some 10, _, _, _, _, _⟩) (v := ?_) rfl (by kernel_rfl) (by kernel_rfl) (by kernel_rfl) (by rfl) (fun _ _ _ h => h) (by rfl) ?_ (by assumption) ?_
  rotate_left
  · intro w hS
    try dsimp only at hS
    go_simp
    first | done | with_reducible rfl
  try simp only [Act.put, List.setIfInBounds_toArray, List.set_cons_zero, List.set_cons_succ]
  refine wpAnyG_pure (i := 4) (oi := ⟨some 11, _, _, _, _, _⟩) (v := ?_) rfl (by kernel_rfl) (by kernel_rfl) (by kernel_rfl) (by rfl) (fun _ _ _ h => h) (by rfl) ?_ ?_
  rotate_left
  · intro w
    go_simp
    first | done | with_reducible rfl
  try simp only [Act.put, List.setIfInBounds_toArray, List.set_cons_zero, List.set_cons_succ]
  refine wpAnyG_pure (i := 5) (oi := ⟨some 12, _, _, _, _, _⟩) (v := ?_) rfl (by kernel_rfl) (by kernel_rfl) (by kernel_rfl) (by rfl) (fun _ _ _ h => h) (by rfl) ?_ ?_
  rotate_left
  · intro w
    go_simp
    first | done | with_reducible rfl
  try simp only [Act.put, List.setIfInBounds_toArray, List.set_cons_zero, List.set_cons_succ]
  refine wpAnyG_load (i := 7) (oi := ⟨some 14, _, _, _, _, _⟩) (v := ?_) rfl (by kernel_rfl) (by kernel_rfl) (by kernel_rfl) (by rfl) (fun _ _ _ h => h) (by rfl) ?_ (by assumption) ?_
  rotate_left
  · intro w hS
    try dsimp only at hS
    go_simp
    first | done | with_reducible rfl
  try simp only [Act.put, List.setIfInBounds_toArray, List.set_cons_zero, List.set_cons_succ]
  refine wpAnyG_keep (i := 6) (oi := ⟨some 13, _, _, _, _, _⟩) (by kernel_rfl) rfl (fun K hK => ?_)
  rw [if_pos (by rfl)]
  go_simp
  refine KF.out.mono ?_
  rintro e w5 ⟨rfl, rfl⟩
  refine hK.out _ _ ?_ (fun hS => ?_)
  · exact HC.out _ ⟨_, h⟩
  clear hK K
  try simp only [Act.put, List.setIfInBounds_toArray, List.set_cons_zero, List.set_cons_succ]
  refine wpAnyG_pure (i := 8) (oi := ⟨some 15, _, _, _, _, _⟩) (v := ?_) rfl (by kernel_rfl) (by kernel_rfl) (by kernel_rfl) (by rfl) (fun _ _ _ h => h) (by rfl) ?_ ?_
  rotate_left
  · intro w
    go_simp
    first | done | with_reducible rfl
  try simp only [Act.put, List.setIfInBounds_toArray, List.set_cons_zero, List.set_cons_succ]
  refine wpAnyG_pure (i := 9) (oi := ⟨some 6, _, _, _, _, _⟩) (v := ?_) rfl (by kernel_rfl) (by kernel_rfl) (by kernel_rfl) (by rfl) (fun _ _ _ h => h) (by rfl) ?_ ?_
  rotate_left
  · intro w
    go_simp
    first | done | with_reducible rfl
  try simp only [Act.put, List.setIfInBounds_toArray, List.set_cons_zero, List.set_cons_succ]
  refine wpAnyG_done (by kernel_rfl) ?_ _
  refine NoPanic.normal ?_
  go_wp2_with fail
  go_ret
  exact ⟨by rw [← HGE.out]; rfl, Own.star.2 h⟩
set_option maxHeartbeats 8000000 in
theorem wait_any (b rate burst cost : Nat) (now : Int) (l : List Bkt) (x : Bkt) (w : World) (hr : Fl.Pr rate) (hb : burst < 2139095040) (hl : x.level < 2139095040) (hc : Fl.Pr cost) (hx : 0 ≤ x.at_ ∧ x.at_ ≤ 1099511627776) (hn : 0 ≤ now ∧ now ≤ 1099511627776) (h : Own E w (Hp.lim b rate burst l :: L)) :
    Calls Try.prog 25 #[.pointer (some ⟨b, 0, none⟩), .agg #[.string x.name, .float .f32 x.level, .int .i64 x.at_], .float .f32 cost, .int .i64 now] w fun e w' => (∃ W : Nat, e = .returned (.int .i64 W) ∧ IsWait (fun d => enoughB rate burst x.level cost ((now - x.at_).toNat + d)) W) ∧ Own E w' (Hp.lim b rate burst l :: L) := by
  obtain ⟨gone, hgone⟩ : ∃ gone : Nat, gone = (now - x.at_).toNat := ⟨_, rfl⟩
  rw [← hgone]
  have hg2 : gone ≤ 1099511627776 := by omega
  have h3 := ((h.alloc (.cells #[.pointer (some ⟨b, 0, none⟩)] PLT)).alloc (.cells #[.string x.name, .float .f32 x.level, .int .i64 x.at_] BKT)).alloc (.cells #[.float .f32 cost] F32)
  have h4 := h3.alloc (.cells #[.int .i64 gone] 3)
  rw [alloc_size, alloc_size, alloc_size] at h4
  obtain ⟨g, hg⟩ : ∃ g, g = w.heap.size := ⟨_, rfl⟩
  rw [← hg] at h4
  have h4 : Own E _ (Hp.blk (g + 3) 3 #[.int .i64 gone] :: Hp.blk (g + 2) F32 #[.float .f32 cost] :: Hp.blk (g + 1) BKT #[.string x.name, .float .f32 x.level, .int .i64 x.at_] :: Hp.blk g PLT #[.pointer (some ⟨b, 0, none⟩)] :: Hp.lim b rate burst l :: L) := h4
  have h5 : Own E _ (Hp.blk g PLT #[.pointer (some ⟨b, 0, none⟩)] :: Hp.blk (g + 1) BKT #[.string x.name, .float .f32 x.level, .int .i64 x.at_] :: Hp.blk (g + 2) F32 #[.float .f32 cost] :: Hp.blk (g + 3) 3 #[.int .i64 gone] :: Hp.lim b rate burst l :: L) := h4.ac (by simp only [Hp.all] <;> ac_rfl)
  have h5 : Own E _ (Hp.wbox g b cost gone x :: Hp.lim b rate burst l :: L) := Own.star.2 h5
  have H := Lib.hid h5
  obtain ⟨en, hen⟩ : ∃ en : Nat → Bool, en = fun d => enoughB rate burst x.level cost (gone + d) := ⟨_, rfl⟩
  rw [← hen]
  have hend : ∀ d, enoughB rate burst x.level cost (gone + d) = en d := fun d => by rw [hen]
  have ke : ∀ (d : Nat) (w : World) (M : List Hp), d ≤ 1099511627776 → Own E w (Hp.wbox g b cost gone x :: Hp.lim b rate burst l :: M) → Calls Try.prog 39 #[.int .i64 d, .pointer (some ⟨g, 0, none⟩), .pointer (some ⟨g + 1, 0, none⟩), .pointer (some ⟨g + 3, 0, none⟩), .pointer (some ⟨g + 2, 0, none⟩)] w fun e w' => e = .returned (.bool (en d)) ∧ Own E w' (Hp.wbox g b cost gone x :: Hp.lim b rate burst l :: M) := fun d w M hd hw => by
    rw [← hend]
    exact enough_any (E := E) (L := M) b rate burst cost gone d g l x w hr hb hl hc (by omega) hw
  have hmono : ∀ d e : Nat, d ≤ e → e ≤ 1099511627776 → en d = true → en e = true := fun d e hde he ht => by
    rw [← hend] at ht ⊢
    have h1 := of_decide_eq_true ht
    have h2 := Fl.fillN_mono rate burst x.level (show gone + d ≤ gone + e by omega) (by omega)
    exact decide_eq_true (by omega)
  have KE := Lib.hid ke
  have HM := Lib.hid hmono
  have kmax := ke 1099511627776 _ _ (Nat.le_refl _) h5
  have j1 : IntKind.i64.wrap (now - x.at_) = now - x.at_ := IntWalk.i64_in _ (by omega)
  have hstart : en 1099511627776 = true → ∀ w, 1 ≤ w → w < 1 → en w = false := fun _ w _ _ => by omega
  by_cases hA : now ≤ x.at_
  · obtain rfl : gone = 0 := by omega
    have hA1 : ¬ (0 : Int) < now - x.at_ := by omega
    have hA2 : now - x.at_ ≤ 0 := by omega
    have hA3 : ¬ x.at_ < now := by omega
    clear hgone h h3 h4 h5 ke hmono hen hend hr hb hl hc hx
    repeat clear h4
    repeat clear h5
    have KMAX := Lib.hid kmax
    clear kmax
    go_enter Try.func25, Try.ntmps25
    go_wp2_with fail
    rw [← hg]
    clear hg
    refine KMAX.out.mono ?_
    rintro e w2 ⟨rfl, h⟩
    clear H KMAX
    have H := Lib.hid h
    clear h
    cases hem : en 1099511627776 with
    | false =>
      have HW := Lib.hid (show IsWait en 1099511627776 from .inl ⟨hem, rfl⟩)
      clear hem
      go_wp2_with fail
      go_ret
      exact ⟨⟨1099511627776, rfl, HW.out⟩, ((Own.star.1 H.out : Own E _ (Hp.blk g PLT _ :: Hp.blk (g + 1) BKT _ :: Hp.blk (g + 2) F32 _ :: Hp.blk (g + 3) 3 _ :: Hp.lim b rate burst l :: L))).drop.drop.drop.drop⟩
    | true =>
      have HEM := Lib.hid hem
      clear hem
      go_wp2_with fail
      go_loopw [11, 12] (fun lo hi wr => ∃ u v : Nat, lo = .int .i64 u ∧ hi = .int .i64 v ∧ 1 ≤ u ∧ u ≤ v ∧ v ≤ 1099511627776 ∧ en v = true ∧ (∀ d, 1 ≤ d → d < u → en d = false) ∧ Own E wr (Hp.wbox g b cost 0 x :: Hp.lim b rate burst l :: L)) (fun lo hi _ => (intOf hi).toNat - (intOf lo).toNat)
      case atStart => exact ⟨1, 1099511627776, rfl, rfl, by omega, by omega, by omega, HEM.out, fun d h1 h2 => by omega, H.out⟩
      case round =>
        clear H
        obtain ⟨u, v, rfl, rfl, hu, huv, hv, hev, hlow, hw⟩ := hrel
        have HEV := Lib.hid hev
        have HLO := Lib.hid hlow
        clear hev hlow
        by_cases hlt : u < v
        · have hlti : (u : Int) < v := by omega
          obtain ⟨m, hm⟩ : ∃ m, m = (u + v) / 2 := ⟨_, rfl⟩
          have j2 : IntKind.i64.wrap ((u : Int) + v) = (u : Int) + v := IntWalk.i64_in _ (by omega)
          have j3 : ((u : Int) + v) / 2 = m := by omega
          have j4 : IntKind.i64.wrap (m : Int) = m := IntWalk.i64_in _ (by omega)
          have j5 : IntKind.i64.wrap ((m : Int) + 1) = (m : Int) + 1 := IntWalk.i64_in _ (by omega)
          have j6 : Int.tdiv ((u : Int) + v) 2 = m := by rw [Int.tdiv_eq_ediv_of_nonneg (by omega)]; exact j3
          have hm1 : u ≤ m ∧ m < v := by omega
          have HW := Lib.hid hw
          clear hw hm
          go_wp2_with fail
          refine (KE.out m _ _ (by omega) HW.out).mono ?_
          rintro e w3 ⟨rfl, h⟩
          have H := Lib.hid h
          clear h HW
          cases hem2 : en m with
          | true =>
            have HE2 := Lib.hid hem2
            clear hem2
            go_wp2_with fail
            go_roundw
            case rel => exact ⟨u, m, rfl, rfl, hu, hm1.1, by omega, HE2.out, HLO.out, H.out⟩
            case measure => simp [intOf]; omega
          | false =>
            have HE2 := Lib.hid hem2
            clear hem2
            go_wp2_with fail
            go_roundw
            case rel => exact ⟨m + 1, v, by go_num, rfl, by omega, by omega, hv, HEV.out, fun d h1 h2 => by
              rcases Bool.eq_false_or_eq_true (en d) with h3 | h3
              · have := HM.out d m (by omega) (by omega) h3
                rw [HE2.out] at this; cases this
              · exact h3, H.out⟩
            case measure => simp [intOf]; omega
        · obtain rfl : u = v := by omega
          have hlti : ¬ (u : Int) < u := by omega
          have HW := Lib.hid (show IsWait en u from .inr ⟨HEM.out, hu, hv, HEV.out, HLO.out⟩)
          have H := Lib.hid hw
          clear hw HEV HLO HEM
          go_wp2_with fail
          go_ret
          exact ⟨⟨u, rfl, HW.out⟩, ((Own.star.1 H.out : Own E _ (Hp.blk g PLT _ :: Hp.blk (g + 1) BKT _ :: Hp.blk (g + 2) F32 _ :: Hp.blk (g + 3) 3 _ :: Hp.lim b rate burst l :: L))).drop.drop.drop.drop⟩
  · have hB : now - x.at_ = (gone : Int) := by omega
    have hA1 : (0 : Int) < gone := by omega
    rw [hB] at j1
    clear hgone h h3 h4 h5 ke hmono hen hend hr hb hl hc hx
    repeat clear h4
    repeat clear h5
    have KMAX := Lib.hid kmax
    clear kmax
    go_enter Try.func25, Try.ntmps25
    go_wp2_with fail
    rw [← hg]
    clear hg
    refine KMAX.out.mono ?_
    rintro e w2 ⟨rfl, h⟩
    clear H KMAX
    have H := Lib.hid h
    clear h
    cases hem : en 1099511627776 with
    | false =>
      have HW := Lib.hid (show IsWait en 1099511627776 from .inl ⟨hem, rfl⟩)
      clear hem
      go_wp2_with fail
      go_ret
      exact ⟨⟨1099511627776, rfl, HW.out⟩, ((Own.star.1 H.out : Own E _ (Hp.blk g PLT _ :: Hp.blk (g + 1) BKT _ :: Hp.blk (g + 2) F32 _ :: Hp.blk (g + 3) 3 _ :: Hp.lim b rate burst l :: L))).drop.drop.drop.drop⟩
    | true =>
      have HEM := Lib.hid hem
      clear hem
      go_wp2_with fail
      go_loopw [11, 12] (fun lo hi wr => ∃ u v : Nat, lo = .int .i64 u ∧ hi = .int .i64 v ∧ 1 ≤ u ∧ u ≤ v ∧ v ≤ 1099511627776 ∧ en v = true ∧ (∀ d, 1 ≤ d → d < u → en d = false) ∧ Own E wr (Hp.wbox g b cost gone x :: Hp.lim b rate burst l :: L)) (fun lo hi _ => (intOf hi).toNat - (intOf lo).toNat)
      case atStart => exact ⟨1, 1099511627776, rfl, rfl, by omega, by omega, by omega, HEM.out, fun d h1 h2 => by omega, H.out⟩
      case round =>
        clear H
        obtain ⟨u, v, rfl, rfl, hu, huv, hv, hev, hlow, hw⟩ := hrel
        have HEV := Lib.hid hev
        have HLO := Lib.hid hlow
        clear hev hlow
        by_cases hlt : u < v
        · have hlti : (u : Int) < v := by omega
          obtain ⟨m, hm⟩ : ∃ m, m = (u + v) / 2 := ⟨_, rfl⟩
          have j2 : IntKind.i64.wrap ((u : Int) + v) = (u : Int) + v := IntWalk.i64_in _ (by omega)
          have j3 : ((u : Int) + v) / 2 = m := by omega
          have j4 : IntKind.i64.wrap (m : Int) = m := IntWalk.i64_in _ (by omega)
          have j5 : IntKind.i64.wrap ((m : Int) + 1) = (m : Int) + 1 := IntWalk.i64_in _ (by omega)
          have j6 : Int.tdiv ((u : Int) + v) 2 = m := by rw [Int.tdiv_eq_ediv_of_nonneg (by omega)]; exact j3
          have hm1 : u ≤ m ∧ m < v := by omega
          have HW := Lib.hid hw
          clear hw hm
          go_wp2_with fail
          refine (KE.out m _ _ (by omega) HW.out).mono ?_
          rintro e w3 ⟨rfl, h⟩
          have H := Lib.hid h
          clear h HW
          cases hem2 : en m with
          | true =>
            have HE2 := Lib.hid hem2
            clear hem2
            go_wp2_with fail
            go_roundw
            case rel => exact ⟨u, m, rfl, rfl, hu, hm1.1, by omega, HE2.out, HLO.out, H.out⟩
            case measure => simp [intOf]; omega
          | false =>
            have HE2 := Lib.hid hem2
            clear hem2
            go_wp2_with fail
            go_roundw
            case rel => exact ⟨m + 1, v, by go_num, rfl, by omega, by omega, hv, HEV.out, fun d h1 h2 => by
              rcases Bool.eq_false_or_eq_true (en d) with h3 | h3
              · have := HM.out d m (by omega) (by omega) h3
                rw [HE2.out] at this; cases this
              · exact h3, H.out⟩
            case measure => simp [intOf]; omega
        · obtain rfl : u = v := by omega
          have hlti : ¬ (u : Int) < u := by omega
          have HW := Lib.hid (show IsWait en u from .inr ⟨HEM.out, hu, hv, HEV.out, HLO.out⟩)
          have H := Lib.hid hw
          clear hw HEV HLO HEM
          go_wp2_with fail
          go_ret
          exact ⟨⟨u, rfl, HW.out⟩, ((Own.star.1 H.out : Own E _ (Hp.blk g PLT _ :: Hp.blk (g + 1) BKT _ :: Hp.blk (g + 2) F32 _ :: Hp.blk (g + 3) 3 _ :: Hp.lim b rate burst l :: L))).drop.drop.drop.drop⟩
end
end Go.Proofs.Ytnbpbonpcbemdaa
