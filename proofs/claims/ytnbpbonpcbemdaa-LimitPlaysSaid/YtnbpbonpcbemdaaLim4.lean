/- limit.place, of: where a name is kept. -/
import Derived.Test.YtnbpbonpcbemdaaLim3
namespace Go.Proofs.Ytnbpbonpcbemdaa
open Go.RowKit
/-- the place of a name -/
def findN : List Bkt → ByteArray → Option Nat
  | [], _ => none
  | x :: l, s => if x.name = s then some 0 else (findN l s).map (· + 1)
theorem findN_some : ∀ {l : List Bkt} {s : ByteArray} {k : Nat}, findN l s = some k → ∃ x, l[k]? = some x ∧ x.name = s ∧ ∀ j y, j < k → l[j]? = some y → y.name ≠ s
  | x :: l, s, k, h => by
    unfold findN at h
    by_cases hx : x.name = s
    · rw [if_pos hx] at h
      injection h with h
      subst h
      exact ⟨x, rfl, hx, fun j y hj => by omega⟩
    · rw [if_neg hx] at h
      obtain ⟨j, hj, rfl⟩ := Option.map_eq_some_iff.1 h
      obtain ⟨y, h1, h2, h3⟩ := findN_some hj
      refine ⟨y, h1, h2, fun i z hi hz => ?_⟩
      match i with
      | 0 => injection hz with hz; subst hz; exact hx
      | i + 1 => exact h3 i z (by omega) hz
theorem findN_none : ∀ {l : List Bkt} {s : ByteArray}, findN l s = none → ∀ y ∈ l, y.name ≠ s
  | [], _, _ => fun _ hy => nomatch hy
  | x :: l, s, h => by
    unfold findN at h
    by_cases hx : x.name = s
    · rw [if_pos hx] at h; cases h
    · rw [if_neg hx] at h
      have h2 := findN_none (Option.map_eq_none_iff.1 h)
      intro y hy
      rcases List.mem_cons.1 hy with rfl | hy
      · exact hx
      · exact h2 y hy
theorem findN_at : ∀ {l : List Bkt} {s : ByteArray} {k : Nat} {x : Bkt}, l[k]? = some x → x.name = s → (∀ j y, j < k → l[j]? = some y → y.name ≠ s) → findN l s = some k
  | y :: l, s, k, x, h, hx, hb => by
    unfold findN
    match k with
    | 0 => injection h with h; subst h; rw [if_pos hx]
    | k + 1 =>
      rw [if_neg (hb 0 y (by omega) rfl)]
      rw [findN_at (k := k) h hx (fun j z hj hz => hb (j + 1) z (by omega) hz)]
      rfl
theorem findN_no : ∀ {l : List Bkt} {s : ByteArray}, (∀ y ∈ l, y.name ≠ s) → findN l s = none
  | [], _, _ => rfl
  | x :: l, s, h => by
    unfold findN
    rw [if_neg (h x (List.mem_cons_self ..)), findN_no fun y hy => h y (List.mem_cons_of_mem _ hy)]
    rfl
def placeI (l : List Bkt) (s : ByteArray) : Int := match findN l s with | some k => (k : Int) | none => -1
section
variable {E : World} {L : List Hp}
theorem Own.lrow {l : List Bkt} {w : World} {v : Value} (h : Own E w (Hp.row BKT 3 v l.length (l.flatMap enB) :: L)) : ∃ A c, v = .slice A l.length c := h.rowSlice
theorem Own.lcell {l : List Bkt} {w : World} {A : Option Addr} {c : Nat} (h : Own E w (Hp.row BKT 3 (.slice A l.length c) l.length (l.flatMap enB) :: L)) (k : Nat) (x : Bkt) (hx : l[k]? = some x) :
    ∃ g, A = some ⟨g, 0, none⟩ ∧ w.cell? ⟨g, k * 3, none⟩ = some (.string x.name) ∧ w.cell? ⟨g, k * 3 + 1, none⟩ = some (.float .f32 x.level) ∧ w.cell? ⟨g, k * 3 + 2, none⟩ = some (.int .i64 x.at_) := by
  have hk := (List.getElem?_eq_some_iff.1 hx)
  obtain ⟨hk, rfl⟩ := hk
  have f : ∀ j u, (enB l[k])[j]? = some u → (l.flatMap enB)[k * 3 + j]? = some u := fun j u hu => flatMap_at (en := enB) (size := 3) (fun _ => rfl) l k hk j u hu
  obtain ⟨g, hA, h0, -⟩ := h.rowCells _ _ (f 0 _ rfl)
  obtain ⟨g1, hA1, h1, -⟩ := h.rowCells _ _ (f 1 _ rfl)
  obtain ⟨g2, hA2, h2, -⟩ := h.rowCells _ _ (f 2 _ rfl)
  subst hA
  injection hA1 with e1
  injection e1 with e1
  injection hA2 with e2
  injection e2 with e2
  subst e1
  subst e2
  exact ⟨_, rfl, h0, h1, h2⟩
theorem placef_any (g : Nat) (s : ByteArray) (x : Bkt) (w : World) (h : Own E w (Hp.blk g ST #[.string s] :: L)) :
    Calls Try.prog 41 #[.agg #[.string x.name, .float .f32 x.level, .int .i64 x.at_], .pointer (some ⟨g, 0, none⟩)] w fun e w' => e = .returned (.bool (decide (x.name = s))) ∧ Own E w' (Hp.blk g ST #[.string s] :: L) := by
  have h1 := (h.alloc (.cells #[.string x.name, .float .f32 x.level, .int .i64 x.at_] BKT)).f1
  have c0 : (w.alloc (.cells #[.string x.name, .float .f32 x.level, .int .i64 x.at_] BKT)).cell? ⟨g, 0, none⟩ = some (.string s) := h1.cell 0
  have he : (x.name.toList == s.toList) = decide (x.name = s) := by
    by_cases e : x.name = s
    · rw [e, decide_eq_true rfl]; exact beq_self_eq_true _
    · rw [decide_eq_false e, beq_eq_false_iff_ne]
      intro hl
      refine e (ByteArray.ext (Array.toList_inj.1 ?_))
      rwa [Lib.toList_data, Lib.toList_data] at hl
  have H := Lib.hid h1
  clear h h1
  obtain ⟨xn, xl, xa⟩ := x
  dsimp only at *
  go_enter Try.func41, Try.ntmps41
  go_wp2_with fail
  go_ret
  exact ⟨rfl, H.out.f1.drop⟩
set_option maxHeartbeats 4000000 in
theorem indexf_any (g : Nat) (l : List Bkt) (s : ByteArray) (A : Option Addr) (c : Nat) (w : World) (hl : l.length ≤ 1000) (h : Own E w (Hp.blk g ST #[.string s] :: Hp.row BKT 3 (.slice A l.length c) l.length (l.flatMap enB) :: L)) :
    Calls Try.prog 40 #[.slice A l.length c, .func (.func 41) #[] #[.pointer (some ⟨g, 0, none⟩)]] w fun e w' => e = .returned (.int .i64 (placeI l s)) ∧ Own E w' (Hp.blk g ST #[.string s] :: Hp.row BKT 3 (.slice A l.length c) l.length (l.flatMap enB) :: L) := by
  have H := Lib.hid h
  clear h
  go_enter Try.func40, Try.ntmps40
  go_wp2_with fail
  go_loopw [8] (fun i wr => ∃ k : Nat, k ≤ l.length ∧ i = .int .i64 k ∧ (∀ j y, j < k → l[j]? = some y → y.name ≠ s) ∧ Own E wr (Hp.blk g ST #[.string s] :: Hp.row BKT 3 (.slice A l.length c) l.length (l.flatMap enB) :: L)) (fun i _ => l.length - (intOf i).toNat)
  case atStart => exact ⟨0, by omega, rfl, fun j _ hj => by omega, H.out⟩
  case round =>
    obtain ⟨k, hk, rfl, hall, hw⟩ := hrel
    clear H
    have HALL := Lib.hid hall
    clear hall
    by_cases hlt : k < l.length
    · have hlti : (k : Int) < l.length := by omega
      obtain ⟨x, hx⟩ : ∃ x, l[k]? = some x := ⟨_, List.getElem?_eq_getElem hlt⟩
      obtain ⟨g2, rfl, c0, c1, c2⟩ := hw.f1.lcell k x hx
      have HW := Lib.hid hw
      have HX := Lib.hid hx
      clear hw hx
      go_wp2_with fail
      refine (placef_any g s x _ HW.out).mono ?_
      rintro e w2 ⟨rfl, h⟩
      have H := Lib.hid h
      clear h HW
      by_cases hxs : x.name = s
      · have hf := findN_at HX.out hxs HALL.out
        have hd : decide (x.name = s) = true := decide_eq_true hxs
        have hpi : placeI l s = (k : Int) := by unfold placeI; rw [hf]
        rw [hd]
        have HPI := Lib.hid hpi
        clear hd hpi hf hxs HX
        go_wp2_with fail
        go_ret
        exact ⟨by rw [HPI.out]; rfl, H.out⟩
      · have hd : decide (x.name = s) = false := decide_eq_false hxs
        rw [hd]
        have hn : ∀ j y, j < k + 1 → l[j]? = some y → y.name ≠ s := fun j y hj hy => by
          rcases Nat.lt_or_ge j k with h1 | h1
          · exact HALL.out j y h1 hy
          · obtain rfl : j = k := by omega
            have := HX.out
            rw [hy] at this
            injection this with this
            subst this
            exact hxs
        have HN := Lib.hid hn
        clear hn hd hxs HX HALL
        go_wp2_with fail
        go_roundw
        case rel => exact ⟨k + 1, by omega, by go_num, HN.out, H.out⟩
        case measure => simp [intOf]; omega
    · obtain rfl : k = l.length := by omega
      have hlti : ¬ (l.length : Int) < l.length := by omega
      have hf := findN_no (l := l) (s := s) fun y hy => by
        obtain ⟨j, hj, rfl⟩ := List.mem_iff_getElem.1 hy
        exact HALL.out j _ hj (List.getElem?_eq_getElem hj)
      have hpi : placeI l s = -1 := by unfold placeI; rw [hf]
      have H := Lib.hid hw
      have HPI := Lib.hid hpi
      clear hw hpi hf HALL hlt hk
      go_wp2_with fail
      go_ret
      exact ⟨by rw [HPI.out]; rfl, H.out⟩
set_option maxHeartbeats 4000000 in
theorem place_any (b rate burst : Nat) (l : List Bkt) (s : ByteArray) (w : World) (hl : l.length ≤ 1000) (h : Own E w (Hp.lim b rate burst l :: L)) :
    Calls Try.prog 26 #[.pointer (some ⟨b, 0, none⟩), .string s] w fun e w' => e = .returned (.int .i64 (placeI l s)) ∧ Own E w' (Hp.lim b rate burst l :: L) := by
  obtain ⟨v, h⟩ := h.ofLim
  obtain ⟨A, c, rfl⟩ := h.f1.lrow
  have h1 := h.alloc (.cells #[.string s] ST)
  have c2 : (w.alloc (.cells #[.string s] ST)).cell? ⟨b, 2, none⟩ = some (.slice A l.length c) := h1.f1.cell 2
  have H := Lib.hid h1
  clear h h1
  go_enter Try.func26, Try.ntmps26
  go_wp2_with fail
  refine (indexf_any _ l s A c _ hl H.out.f2.f1).mono ?_
  rintro e w2 ⟨rfl, h⟩
  have h : Own E _ (Hp.blk b LIMT #[.float .f32 rate, .float .f32 burst, .slice A l.length c] :: Hp.row BKT 3 (.slice A l.length c) l.length (l.flatMap enB) :: L) := h.drop.f1
  have H2 := Lib.hid h.toLim
  clear h H
  go_wp2_with fail
  go_ret
  exact ⟨rfl, H2.out⟩
end
end Go.Proofs.Ytnbpbonpcbemdaa
