/- The reference: level, of, wait. -/
import Derived.Test.YtnbpbonpcbemdaaLimK
import Derived.Test.YtnbpbonpcbemdaaLimF
namespace Go.Proofs.Ytnbpbonpcbemdaa
open Go.RowKit
attribute [local go_sem] run_store_float
section
variable {E : World} {L : List Hp}
theorem Own.rcell {l : List Bkt} {w : World} {A : Option Addr} {c : Nat} (h : Own E w (Hp.row RBKT 3 (.slice A l.length c) l.length (l.flatMap enB) :: L)) (k : Nat) (x : Bkt) (hx : l[k]? = some x) :
    ∃ g, A = some ⟨g, 0, none⟩ ∧ w.cell? ⟨g, k * 3, none⟩ = some (.string x.name) ∧ w.cell? ⟨g, k * 3 + 1, none⟩ = some (.float .f32 x.level) ∧ w.cell? ⟨g, k * 3 + 2, none⟩ = some (.int .i64 x.at_) := by
  have hk := (List.getElem?_eq_some_iff.1 hx)
  obtain ⟨hk, rfl⟩ := hk
  have f : ∀ j u, (enB l[k])[j]? = some u → (l.flatMap enB)[k * 3 + j]? = some u := fun j u hu => flatMap_at (en := enB) (size := 3) (fun _ => rfl) l k hk j u hu
  obtain ⟨g, hA, h0, -⟩ := h.rowCells _ _ (f 0 _ rfl)
  obtain ⟨g1, hA1, h1, -⟩ := h.rowCells _ _ (f 1 _ rfl)
  obtain ⟨g2, hA2, h2, -⟩ := h.rowCells _ _ (f 2 _ rfl)
  subst hA
  injection hA1 with e1
  injection e1 with e1
  injection hA2 with e2
  injection e2 with e2
  subst e1
  subst e2
  exact ⟨_, rfl, h0, h1, h2⟩
def xlevN (rate burst : Nat) (x : Bkt) (kept : Bool) (now : Int) : Nat := if kept = false ∨ leftN x.at_ now = 0 then x.level else Fl.fillN rate burst x.level (leftN x.at_ now)
set_option maxHeartbeats 4000000 in
theorem xlevel_any (b rate burst : Nat) (l : List Bkt) (x : Bkt) (kept : Bool) (now : Int) (w : World) (hr : Fl.Pr rate) (hb : burst < 2139095040) (hl : x.level < 2139095040) (h : Own E w (Hp.rlim b rate burst l :: L)) :
    Calls Try.prog 32 #[.pointer (some ⟨b, 0, none⟩), .agg #[.string x.name, .float .f32 x.level, .int .i64 x.at_], .bool kept, .int .i64 now] w fun e w' => e = .returned (.float .f32 (xlevN rate burst x kept now)) ∧ Own E w' (Hp.rlim b rate burst l :: L) := by
  have h1 : Own E _ (Hp.blk w.heap.size RBKT #[.string x.name, .float .f32 x.level, .int .i64 x.at_] :: _) := h.alloc _
  obtain ⟨g, hg⟩ : ∃ g, g = w.heap.size := ⟨_, rfl⟩
  rw [← hg] at h1
  have kg := fun w M hw => gone_any (E := E) (L := M) x now w hw
  have hle : leftN x.at_ now ≤ 1099511627776 := by have := nearN_in now; have := nearN_in x.at_; unfold leftN; omega
  have kf := fun w M hw => grown_any (E := E) (L := M) b rate burst x.level (leftN x.at_ now) l w hr hb hl (by omega) hw
  have hx : xlevN rate burst x kept now = if kept = false ∨ leftN x.at_ now = 0 then x.level else Fl.fillN rate burst x.level (leftN x.at_ now) := rfl
  generalize xlevN rate burst x kept now = xv at *
  generalize Fl.fillN rate burst x.level (leftN x.at_ now) = fv at *
  generalize leftN x.at_ now = d at *
  have H := Lib.hid h1
  have KG := Lib.hid kg
  have KF := Lib.hid kf
  clear h h1 kg kf
  cases kept with
  | false =>
    rw [if_pos (.inl rfl)] at hx
    subst hx
    go_enter Try.func32, Try.ntmps32
    go_wp2_with fail
    rw [← hg]
    clear hg
    refine (KG.out _ _ H.out).mono ?_
    clear H
    rintro e w1 ⟨rfl, h⟩
    have p1 : w1.cell? ⟨g, 1, none⟩ = some (.float .f32 x.level) := h.cell 1
    have H := Lib.hid h
    clear h
    go_wp2_with fail
    go_ret
    exact ⟨rfl, H.out.drop⟩
  | true =>
    by_cases hd : d = 0
    · rw [if_pos (.inr hd)] at hx
      subst hx
      subst hd
      go_enter Try.func32, Try.ntmps32
      go_wp2_with fail
      rw [← hg]
      clear hg
      refine (KG.out _ _ H.out).mono ?_
      clear H
      rintro e w1 ⟨rfl, h⟩
      have p1 : w1.cell? ⟨g, 1, none⟩ = some (.float .f32 x.level) := h.cell 1
      have H := Lib.hid h
      clear h
      go_wp2_with fail
      go_ret
      exact ⟨rfl, H.out.drop⟩
    · rw [if_neg (by rintro (h | h); cases h; exact hd h)] at hx
      subst hx
      have hd1 : ¬ (d : Int) = 0 := by omega
      have hd2 : ((d : Int) == 0) = false := by rw [beq_eq_false_iff_ne]; omega
      go_enter Try.func32, Try.ntmps32
      go_wp2_with fail
      rw [← hg]
      clear hg
      refine (KG.out _ _ H.out).mono ?_
      clear H
      rintro e w1 ⟨rfl, h⟩
      have p1 : w1.cell? ⟨g, 1, none⟩ = some (.float .f32 x.level) := h.cell 1
      have H := Lib.hid h
      clear h
      go_wp2_with fail
      refine (KF.out _ _ H.out.f1).mono ?_
      rintro e w2 ⟨rfl, rfl⟩
      go_wp2_with fail
      go_ret
      exact ⟨rfl, H.out.drop⟩
set_option maxHeartbeats 4000000 in
theorem xof_any (b rate burst : Nat) (l : List Bkt) (s : ByteArray) (w : World) (hl : l.length ≤ 1000) (h : Own E w (Hp.rlim b rate burst l :: L)) :
    Calls Try.prog 31 #[.pointer (some ⟨b, 0, none⟩), .string s] w fun e w' => e = .returned (.tuple #[.agg #[.string (ofN burst l s 0).name, .float .f32 (ofN burst l s 0).level, .int .i64 (ofN burst l s 0).at_], .bool (findN l s).isSome]) ∧ Own E w' (Hp.rlim b rate burst l :: L) := by
  obtain ⟨v, h⟩ := h.ofRlim
  obtain ⟨A, c, rfl⟩ := h.f1.rowSlice
  have h1 : Own E _ (Hp.blk w.heap.size RBKT #[.string ⟨#[]⟩, .float .f32 0, .int .i64 0] :: _) := h.alloc _
  have h1 : Own E _ (Hp.blk b RLIMT #[.float .f32 rate, .float .f32 burst, .slice A l.length c] :: Hp.row RBKT 3 (.slice A l.length c) l.length (l.flatMap enB) :: Hp.blk w.heap.size RBKT #[.string ⟨#[]⟩, .float .f32 0, .int .i64 0] :: L) := h1.f2.f2
  obtain ⟨g, hg⟩ : ∃ g, g = w.heap.size := ⟨_, rfl⟩
  rw [← hg] at h1
  have H := Lib.hid h1
  clear h h1
  go_enter Try.func31, Try.ntmps31
  go_wp2_with fail
  rw [← hg]
  clear hg
  go_loopw [6] (fun i wr => ∃ k : Nat, k ≤ l.length ∧ i = .int .i64 k ∧ (∀ j y, j < k → l[j]? = some y → y.name ≠ s) ∧ Own E wr (Hp.blk b RLIMT #[.float .f32 rate, .float .f32 burst, .slice A l.length c] :: Hp.row RBKT 3 (.slice A l.length c) l.length (l.flatMap enB) :: Hp.blk g RBKT #[.string ⟨#[]⟩, .float .f32 0, .int .i64 0] :: L)) (fun i _ => l.length - (intOf i).toNat)
  case atStart => exact ⟨0, by omega, rfl, fun j _ hj => by omega, H.out⟩
  case round =>
    obtain ⟨k, hk, rfl, hall, hw⟩ := hrel
    clear H
    have HALL := Lib.hid hall
    clear hall
    have c1 : wr.cell? ⟨b, 1, none⟩ = some (.float .f32 burst) := hw.cell 1
    have c2 : wr.cell? ⟨b, 2, none⟩ = some (.slice A l.length c) := hw.cell 2
    by_cases hlt : k < l.length
    · have hlti : (k : Int) < l.length := by omega
      obtain ⟨x, hx⟩ : ∃ x, l[k]? = some x := ⟨_, List.getElem?_eq_getElem hlt⟩
      obtain ⟨g2, rfl, d0, d1, d2⟩ := hw.f1.rcell k x hx
      have he : (x.name.toList == s.toList) = decide (x.name = s) := by
        by_cases e : x.name = s
        · rw [e, decide_eq_true rfl]; exact beq_self_eq_true _
        · rw [decide_eq_false e, beq_eq_false_iff_ne]
          intro hl
          refine e (ByteArray.ext (Array.toList_inj.1 ?_))
          rwa [Lib.toList_data, Lib.toList_data] at hl
      by_cases hxs : x.name = s
      · rw [decide_eq_true hxs] at he
        have hf := findN_at hx hxs HALL.out
        have HO := Lib.hid (And.intro (ofN_some (burst := burst) (now := 0) hf hx) (show (findN l s).isSome = true by rw [hf]; rfl))
        have H := Lib.hid hw.f2
        clear hw hf hx hxs c1
        go_wp2_with (with_reducible refine at_slot (k := none) ?_; refine wpList_store_whole (o := ⟨none, _, _, _, _, _⟩) (cs := [.string ⟨#[]⟩, .float .f32 0, .int .i64 0]) (vs := enB x) H.out rfl (enB_all1 x) (by kernel_rfl) rfl rfl rfl rfl ?_; intro w3 h3)
        refine bodyPost_ret (results_ct Try.results31 rfl h3 Try.underlying73 rfl (by kernel_rfl)) rfl ⟨?_, h3.drop.toRlim⟩
        rw [HO.out.1, HO.out.2]
        rfl
      · rw [decide_eq_false hxs] at he
        have hn : ∀ j y, j < k + 1 → l[j]? = some y → y.name ≠ s := fun j y hj hy => by
          rcases Nat.lt_or_ge j k with h1 | h1
          · exact HALL.out j y h1 hy
          · obtain rfl : j = k := by omega
            rw [hy] at hx
            injection hx with hx
            subst hx
            exact hxs
        have HN := Lib.hid hn
        have H := Lib.hid hw
        clear hw hn hxs HALL hx c1
        go_wp2_with fail
        go_roundw
        case rel => exact ⟨k + 1, by omega, by go_num, HN.out, H.out⟩
        case measure => simp [intOf]; omega
    · obtain rfl : k = l.length := by omega
      have hlti : ¬ (l.length : Int) < l.length := by omega
      have hf := findN_no (l := l) (s := s) fun y hy => by
        obtain ⟨j, hj, rfl⟩ := List.mem_iff_getElem.1 hy
        exact HALL.out j _ hj (List.getElem?_eq_getElem hj)
      have HO := Lib.hid (And.intro (ofN_none (burst := burst) (now := 0) hf) (show (findN l s).isSome = false by rw [hf]; rfl))
      have H := Lib.hid hw.f2
      clear hw hf HALL hlt hk
      go_wp2_with (with_reducible refine at_slot (k := none) ?_; refine wpList_store_whole (o := ⟨none, _, _, _, _, _⟩) (cs := [.string ⟨#[]⟩, .float .f32 0, .int .i64 0]) (vs := enB ⟨s, burst, 0⟩) H.out rfl (enB_all1 _) (by kernel_rfl) rfl rfl rfl rfl ?_; intro w3 h3)
      refine bodyPost_ret (results_ct Try.results31 rfl h3 Try.underlying73 rfl (by kernel_rfl)) rfl ⟨?_, h3.drop.toRlim⟩
      rw [HO.out.1, HO.out.2]
      rfl
set_option maxHeartbeats 4000000 in
theorem xwait_any (b rate burst cost gone : Nat) (l : List Bkt) (x : Bkt) (w : World) (hr : Fl.Pr rate) (hb : burst < 2139095040) (hl : x.level < 2139095040) (hc : Fl.Pr cost) (hg : gone ≤ 1099511627776) (h : Own E w (Hp.rlim b rate burst l :: L)) :
    Calls Try.prog 34 #[.pointer (some ⟨b, 0, none⟩), .agg #[.string x.name, .float .f32 x.level, .int .i64 x.at_], .int .i64 gone, .float .f32 cost] w fun e w' => (∃ W : Nat, e = .returned (.int .i64 W) ∧ IsWait (fun d => enoughB rate burst x.level cost (gone + d)) W) ∧ Own E w' (Hp.rlim b rate burst l :: L) := by
  have h1 : Own E _ (Hp.blk w.heap.size RBKT #[.string x.name, .float .f32 x.level, .int .i64 x.at_] :: _) := h.alloc _
  obtain ⟨g, hgg⟩ : ∃ g, g = w.heap.size := ⟨_, rfl⟩
  rw [← hgg] at h1
  obtain ⟨en, hen⟩ : ∃ en : Nat → Bool, en = fun d => enoughB rate burst x.level cost (gone + d) := ⟨_, rfl⟩
  rw [← hen]
  have hend : ∀ d, enoughB rate burst x.level cost (gone + d) = en d := fun d => by rw [hen]
  have kf := fun (d : Nat) (hd : d ≤ 1099511627776) w M hw => grown_any (E := E) (L := M) b rate burst x.level (gone + d) l w hr hb hl (by omega) hw
  have hge : ∀ d, (FloatKind.f32.format.order (Fl.fillN rate burst x.level (gone + d)) cost == some .gt || FloatKind.f32.format.order (Fl.fillN rate burst x.level (gone + d)) cost == some .eq) = en d := fun d => by
    have hle := Fl.fillN_le rate burst x.level (gone + d)
    rw [← hend, Fl.ge_Z (Or.inl (by omega)) hc, Fl.Z_same (show Fl.fillN rate burst x.level (gone + d) < 2139095040 by omega)]; rfl
  have hmono : ∀ d e : Nat, d ≤ e → e ≤ 1099511627776 → en d = true → en e = true := fun d e hde he ht => by
    rw [← hend] at ht ⊢
    have h1 := of_decide_eq_true ht
    have h2 := Fl.fillN_mono rate burst x.level (show gone + d ≤ gone + e by omega) (by omega)
    exact decide_eq_true (by omega)
  have H := Lib.hid h1
  have KF := Lib.hid kf
  have HGE := Lib.hid hge
  have HM := Lib.hid hmono
  clear h h1 kf hge hmono hen hend
  go_enter Try.func34, Try.ntmps34
  go_wp2_with fail
  rw [← hgg]
  clear hgg
  go_loopw [9, 10] (fun lo hi wr => ∃ u v : Nat, lo = .int .i64 u ∧ hi = .int .i64 v ∧ 1 ≤ u ∧ u ≤ v ∧ v ≤ 1099511627776 ∧ (en v = true ∨ v = 1099511627776) ∧ (∀ d, 1 ≤ d → d < u → en d = false) ∧ Own E wr (Hp.blk g RBKT #[.string x.name, .float .f32 x.level, .int .i64 x.at_] :: Hp.rlim b rate burst l :: L)) (fun lo hi _ => (intOf hi).toNat - (intOf lo).toNat)
  case atStart => exact ⟨1, 1099511627776, rfl, rfl, by omega, by omega, by omega, .inr rfl, fun d h1 h2 => by omega, H.out⟩
  case round =>
    clear H
    obtain ⟨u, v, rfl, rfl, hu, huv, hv, hev, hlow, hw⟩ := hrel
    have HEV := Lib.hid hev
    have HLO := Lib.hid hlow
    clear hev hlow
    by_cases hlt : u < v
    · have hlti : (u : Int) < v := by omega
      obtain ⟨m, hm⟩ : ∃ m, m = (u + v) / 2 := ⟨_, rfl⟩
      have j2 : IntKind.i64.wrap ((u : Int) + v) = (u : Int) + v := IntWalk.i64_in _ (by omega)
      have j3 : ((u : Int) + v) / 2 = m := by omega
      have j4 : IntKind.i64.wrap (m : Int) = m := IntWalk.i64_in _ (by omega)
      have j5 : IntKind.i64.wrap ((m : Int) + 1) = (m : Int) + 1 := IntWalk.i64_in _ (by omega)
      have j6 : Int.tdiv ((u : Int) + v) 2 = m := by rw [Int.tdiv_eq_ediv_of_nonneg (by omega)]; exact j3
      have j7 : IntKind.i64.wrap ((gone : Int) + m) = (gone : Int) + m := IntWalk.i64_in _ (by omega)
      have hm1 : u ≤ m ∧ m < v := by omega
      have p1 : wr.cell? ⟨g, 1, none⟩ = some (.float .f32 x.level) := hw.cell 1
      have kk := KF.out m (by omega) wr (Hp.blk g RBKT #[.string x.name, .float .f32 x.level, .int .i64 x.at_] :: L) hw.f1
      rw [Int.natCast_add] at kk
      have hgm := HGE.out m
      generalize Fl.fillN rate burst x.level (gone + m) = fv at *
      have KK := Lib.hid kk
      have H := Lib.hid hw
      clear hw hm kk
      cases hem2 : en m with
      | true =>
        rw [hem2] at hgm
        have HE2 := Lib.hid hem2
        clear hem2
        go_wp2_with fail
        refine KK.out.mono ?_
        rintro e w3 ⟨rfl, rfl⟩
        go_wp2_with fail
        go_roundw
        case rel => exact ⟨u, m, rfl, rfl, hu, hm1.1, by omega, .inl HE2.out, HLO.out, H.out⟩
        case measure => simp [intOf]; omega
      | false =>
        rw [hem2] at hgm
        have HE2 := Lib.hid hem2
        clear hem2
        go_wp2_with fail
        refine KK.out.mono ?_
        rintro e w3 ⟨rfl, rfl⟩
        go_wp2_with fail
        go_roundw
        case rel => exact ⟨m + 1, v, by go_num, rfl, by omega, by omega, hv, HEV.out, fun d h1 h2 => by
          rcases Bool.eq_false_or_eq_true (en d) with h3 | h3
          · have := HM.out d m (by omega) (by omega) h3
            rw [HE2.out] at this; cases this
          · exact h3, H.out⟩
        case measure => simp [intOf]; omega
    · obtain rfl : u = v := by omega
      have hlti : ¬ (u : Int) < u := by omega
      have hW : IsWait en u := by
        cases hem : en 1099511627776 with
        | false =>
          rcases HEV.out with h | rfl
          · have := HM.out u 1099511627776 hv (by omega) h
            rw [hem] at this; cases this
          · exact .inl ⟨hem, rfl⟩
        | true =>
          refine .inr ⟨hem, hu, hv, ?_, HLO.out⟩
          rcases HEV.out with h | rfl
          · exact h
          · exact hem
      have HW := Lib.hid hW
      have H := Lib.hid hw
      clear hw hW HEV HLO
      go_wp2_with fail
      go_ret
      exact ⟨⟨u, rfl, HW.out⟩, H.out.drop⟩
end
end Go.Proofs.Ytnbpbonpcbemdaa
