/- latchkeyref10.Size, form, texts, numbers. -/
import Derived.Test.YtbclmmneiphcaaaDoorReps
namespace Go.Proofs.YtbclmmneiphcaaaDoor
open Go.RowKit
section
variable {E : World} {S : Ph} {L : List Hp}
set_option maxHeartbeats 2000000 in
theorem xsize_any (v : Nv) (n : Nd) (w : World) (hb : n.bulk ≤ 1125899906842624) (hi : NdIn S v n) (h : Own E w (Hp.ro S :: L)) :
    Calls Tryd.prog 71 #[v.val n] w fun e w' => e = .returned (.int .i64 (n.size : Nat)) ∧ Own E w' (Hp.ro S :: L) := by
  obtain ⟨leaf, ks, vs, ls⟩ := n
  obtain ⟨a1, c1, a2, c2, a3, c3⟩ := v
  obtain ⟨r1, r2, -, -, -, -, -, -, -⟩ := hi
  have hsz : Nd.size ⟨leaf, ks, vs, ls⟩ = if leaf then sumSz ks + sumSz vs + 2 * max ks.length vs.length else sumSz ks + ks.length + 4 * ls.length := rfl
  rw [hsz]
  have hb2 : sumSz ks + sumSz vs + ks.length + vs.length + ls.length ≤ 1125899906842624 := hb
  clear hb hsz
  dsimp only [Nv.val] at r1 r2 ⊢
  have hle : ∀ k, sumSz (ks.take k) ≤ sumSz ks := sumSz_le ks
  have hle2 : ∀ k, sumSz (vs.take k) ≤ sumSz vs := sumSz_le vs
  have hall : sumSz (ks.take ks.length) = sumSz ks := by rw [List.take_length]
  have hall2 : sumSz (vs.take vs.length) = sumSz vs := by rw [List.take_length]
  generalize ks.length = nk at *
  generalize vs.length = nv at *
  generalize ls.length = nl at *
  generalize sumSz ks = sk at *
  generalize sumSz vs = sv at *
  have HLE := Lib.hid hle
  have HLE2 := Lib.hid hle2
  have HALL := Lib.hid hall
  have HALL2 := Lib.hid hall2
  have HB := Lib.hid hb2
  have hbk : nk ≤ 1125899906842624 ∧ nv ≤ 1125899906842624 ∧ nl ≤ 1125899906842624 := by omega
  obtain ⟨hbk1, hbk2, hbk3⟩ := hbk
  clear hle hle2 hall hall2 hb2
  have h1 := h.alloc (.cells #[.bool leaf, .slice a1 nk c1, .slice a2 nv c2, .slice a3 nl c3] NT)
  go_enter Tryd.func71, Tryd.ntmps71
  go_wp2_with fail
  generalize hg : w.heap.size = g at h1 ⊢
  have H1 := Lib.hid h1
  clear h h1 hg
  go_loopw [3, 4] (fun sz i wr => ∃ k s : Nat, k ≤ nk ∧ i = .int .i64 k ∧ s = sumSz (ks.take k) ∧ sz = .int .i64 s ∧ Own E wr (Hp.blk g NT #[.bool leaf, .slice a1 nk c1, .slice a2 nv c2, .slice a3 nl c3] :: Hp.ro S :: L)) (fun _ i _ => nk - (intOf i).toNat)
  case atStart => exact ⟨0, 0, by omega, rfl, rfl, rfl, H1.out⟩
  case round =>
    obtain ⟨k, s, hk, rfl, hs, rfl, hw⟩ := hrel
    clear H1
    have HS := Lib.hid hs
    have hsb : s ≤ sk := by rw [HS.out]; exact HLE.out k
    have hsb2 : s ≤ 1125899906842624 := by have := HB.out; omega
    clear hs
    have f1 : wr.cell? ⟨g, 1, none⟩ = some (.slice a1 nk c1) := hw.cell 1
    by_cases hlt : k < nk
    · obtain ⟨x, b, off, hx, rfl, hc⟩ := r1.get1 hlt
      have c1 := hw.f1.rd (hc _ rfl)
      have hs2 : s + x.size = sumSz (ks.take (k + 1)) := by rw [sumSz_take ks k x hx, HS.out]
      have hs3 : s + x.size ≤ 1125899906842624 := by have := HLE.out (k + 1); have := HB.out; omega
      have HS2 := Lib.hid hs2
      clear hc hx hs2
      have j1 : IntKind.i64.wrap ((s : Int) + x.size) = ((s + x.size : Nat) : Int) := IntWalk.i64_in _ (by omega)
      go_wp2_with fail
      go_roundw
      case rel => exact ⟨k + 1, s + x.size, by omega, by go_num, HS2.out, rfl, hw⟩
      case measure => simp [intOf]; omega
    · obtain rfl : k = nk := by omega
      have hsk : s = sk := by rw [HS.out, HALL.out]
      subst hsk
      clear HLE hlt hk hsb HS
      have f0 : wr.cell? ⟨g, 0, none⟩ = some (.bool leaf) := hw.cell 0
      have f2 : wr.cell? ⟨g, 2, none⟩ = some (.slice a2 nv c2) := hw.cell 2
      have f3 : wr.cell? ⟨g, 3, none⟩ = some (.slice a3 nl c3) := hw.cell 3
      have HB' := HB.out
      cases leaf with
      | false =>
        have j1 : IntKind.i64.wrap ((s : Int) + k) = ((s + k : Nat) : Int) := IntWalk.i64_in _ (by omega)
        have j2 : IntKind.i64.wrap (4 * (nl : Int)) = ((4 * nl : Nat) : Int) := IntWalk.i64_in _ (by omega)
        have j3 : IntKind.i64.wrap (((s + k : Nat) : Int) + ((4 * nl : Nat) : Int)) = ((s + k + 4 * nl : Nat) : Int) := IntWalk.i64_in _ (by omega)
        clear HB'
        go_wp2_with fail
        go_ret
        refine ⟨ret_i64 ?_, hw.drop⟩
        simp <;> omega
      | true =>
        clear HB'
        go_wp2_with fail
        go_loopw [3, 5] (fun sz i wr => ∃ q s2 : Nat, q ≤ nv ∧ i = .int .i64 q ∧ s2 = sumSz (vs.take q) ∧ sz = .int .i64 ((s : Int) + s2) ∧ Own E wr (Hp.blk g NT #[.bool true, .slice a1 k c1, .slice a2 nv c2, .slice a3 nl c3] :: Hp.ro S :: L)) (fun _ i _ => nv - (intOf i).toNat)
        case atStart => exact ⟨0, 0, by omega, rfl, rfl, rfl, hw⟩
        case round =>
          obtain ⟨q, s2, hq, rfl, hs, rfl, hw⟩ := hrel
          clear f0 f1 f2 f3
          have HS := Lib.hid hs
          have hsb : s2 ≤ sv := by rw [HS.out]; exact HLE2.out q
          have hsb2 : s + s2 ≤ 1125899906842624 := by have := HB.out; omega
          clear hs
          have f2 : wr.cell? ⟨g, 2, none⟩ = some (.slice a2 nv c2) := hw.cell 2
          by_cases hlt : q < nv
          · obtain ⟨x, b, off, hx, rfl, hc⟩ := r2.get1 hlt
            have c1 := hw.f1.rd (hc _ rfl)
            have hs2 : s2 + x.size = sumSz (vs.take (q + 1)) := by rw [sumSz_take vs q x hx, HS.out]
            have hs3 : s + s2 + x.size ≤ 1125899906842624 := by have := HLE2.out (q + 1); have := HB.out; omega
            have HS2 := Lib.hid hs2
            clear hc hx hs2
            have j1 : IntKind.i64.wrap ((s : Int) + s2 + x.size) = (s : Int) + ((s2 + x.size : Nat) : Int) := by rw [IntWalk.i64_in _ (by omega)]; omega
            go_wp2_with fail
            go_roundw
            case rel => exact ⟨q + 1, s2 + x.size, by omega, by go_num, HS2.out, rfl, hw⟩
            case measure => simp [intOf]; omega
          · obtain rfl : q = nv := by omega
            have hsk : s2 = sv := by rw [HS.out, HALL2.out]
            subst hsk
            clear HLE2 hlt hq hsb HS
            have f1 : wr.cell? ⟨g, 1, none⟩ = some (.slice a1 k c1) := hw.cell 1
            have HB' := HB.out
            obtain ⟨m, hm⟩ : ∃ m, m = max k q := ⟨_, rfl⟩
            have HM := Lib.hid hm
            have hmk : m ≤ k + q := by omega
            have j1 : IntKind.i64.wrap (2 * (m : Int)) = ((2 * m : Nat) : Int) := IntWalk.i64_in _ (by omega)
            have j3 : IntKind.i64.wrap ((s : Int) + s2 + ((2 * m : Nat) : Int)) = ((s + s2 + 2 * m : Nat) : Int) := IntWalk.i64_in _ (by omega)
            have j5 : (if k < q then Value.int .i64 (q : Int) else Value.int .i64 (k : Int)) = Value.int .i64 (m : Int) := by split <;> (congr 1; omega)
            have j6 : (if k < q then (q : Int) else (k : Int)) = (m : Int) := by split <;> omega
            clear HB' hm
            go_wp2_with fail
            go_ret
            refine ⟨ret_i64 ?_, hw.drop⟩
            have := HM.out
            simp <;> omega

set_option maxRecDepth 100000 in
set_option maxHeartbeats 4000000 in
theorem xform_any (v : Nv) (n : Nd) (emp : Bool) (w : World) (hb : n.bulk ≤ 4294967296) (hi : NdIn S v n) (h : Own E w (Hp.ro S :: L)) :
    Calls Tryd.prog 70 #[v.val n, .bool emp] w fun e w' => e = .returned (.bool (n.formed (if emp then 0 else 1))) ∧ Own E w' (Hp.ro S :: L) := by
  obtain ⟨leaf, ks, vs, ls⟩ := n
  obtain ⟨a1, c1, a2, c2, a3, c3⟩ := v
  obtain ⟨r1, r2, r3, -, -, h3, -, -, m3⟩ := hi
  have hb2 : sumSz ks + sumSz vs + ks.length + vs.length + ls.length ≤ 4294967296 := hb
  have hbk : ks.length ≤ 4294967296 ∧ vs.length ≤ 4294967296 ∧ ls.length ≤ 4294967296 := by omega
  clear hb hb2
  dsimp only [Nv.val] at r1 r2 r3 h3 m3 ⊢
  have h1 : Own E _ (Hp.blk w.heap.size NT #[.bool leaf, .slice a1 ks.length c1, .slice a2 vs.length c2, .slice a3 ls.length c3] :: Hp.ro S :: L) := h.alloc _
  obtain ⟨g, hg⟩ : ∃ g, g = w.heap.size := ⟨_, rfl⟩
  rw [← hg] at h1
  obtain ⟨hbk1, hbk2, hbk3⟩ := hbk
  have n1 : ks.length = ks.length := rfl
  have n2 := r2.1
  have n3 := r3.1
  cases leaf with
  | true =>
    have e0 : Nd.formed ⟨true, ks, vs, ls⟩ (if emp then 0 else 1) = (decide ((if emp then 0 else 1) ≤ ks.length ∧ vs.length = ks.length ∧ ls.length = 0) && vs.all fun s => decide (s.size ≤ 200)) := rfl
    rw [e0]
    obtain ⟨r, hr0⟩ : ∃ r, r = (decide ((if emp then 0 else 1) ≤ ks.length ∧ vs.length = ks.length ∧ ls.length = 0) && vs.all fun s => decide (s.size ≤ 200)) := ⟨_, rfl⟩
    rw [← hr0]
    clear e0 r1 r3 n3
    generalize ks.length = nk at *
    generalize hnv : vs.length = nv at *
    generalize ls.length = nl at *
    have H1 := Lib.hid h1
    have HR0 := Lib.hid hr0
    clear h h1 h3 m3 n1 n2 hr0
    go_enter Tryd.func70, Tryd.ntmps70
    go_wp2_with fail
    rw [← hg]
    clear hg
    have q0 := H1.out.cell 0
    have q2 := H1.out.cell 2
    go_wp2_with fail
    go_loopw [5] (fun i wr => ∃ k : Nat, k ≤ nv ∧ i = .int .i64 k ∧ (∀ i x, i < k → vs[i]? = some x → x.size ≤ 200) ∧ Own E wr (Hp.blk g NT #[.bool true, .slice a1 nk c1, .slice a2 nv c2, .slice a3 nl c3] :: Hp.ro S :: L)) (fun i _ => nv - (intOf i).toNat)
    case atStart => exact ⟨0, by omega, rfl, fun i _ hi => absurd hi (by omega), H1.out⟩
    case round =>
      obtain ⟨k, hk, rfl, hp, hw⟩ := hrel
      clear H1 q0 q2
      have f2 : wr.cell? ⟨g, 2, none⟩ = some (.slice a2 nv c2) := hw.cell 2
      have HP := Lib.hid hp
      clear hp
      by_cases hlt : k < nv
      · obtain ⟨x, b, off, hx, rfl, hc⟩ := r2.get1 hlt
        have d1 := hw.f1.rd (hc _ rfl)
        have HX := Lib.hid hx
        have HW := Lib.hid hw
        clear hc hx hw
        by_cases h2 : 200 < x.size
        · have h2i : (200 : Int) < x.size := by omega
          obtain rfl : r = false := by rw [HR0.out, show (vs.all fun s => decide (s.size ≤ 200)) = false from List.all_eq_false.2 ⟨x, List.mem_of_getElem? HX.out, by simp; omega⟩, Bool.and_false]
          go_wp2_with fail
          go_ret
          exact ⟨rfl, HW.out.drop⟩
        · have h2i : ¬ (200 : Int) < x.size := by omega
          have HR := Lib.hid (show ∀ i z, i < k + 1 → vs[i]? = some z → z.size ≤ 200 by
            intro i z hi hz
            rcases Nat.lt_or_ge i k with hlt2 | hge
            · exact HP.out i z hlt2 hz
            · obtain rfl : i = k := by omega
              rw [HX.out] at hz
              injection hz with hz
              subst hz
              omega)
          go_wp2_with fail
          go_roundw
          case rel => exact ⟨k + 1, by omega, by go_num, HR.out, HW.out⟩
          case measure => simp [intOf]; omega
      · obtain rfl : k = nv := by omega
        have e0 : (vs.all fun s => decide (s.size ≤ 200)) = true := List.all_eq_true.2 fun x hx => by
          obtain ⟨i, hi, rfl⟩ := List.getElem_of_mem hx
          exact decide_eq_true (HP.out i _ (by have := r2.1; omega) (List.getElem?_eq_getElem hi))
        have HR1 := Lib.hid (show r = decide ((if emp then 0 else 1) ≤ nk ∧ k = nk ∧ nl = 0) by rw [HR0.out, e0, Bool.and_true])
        have f1 : wr.cell? ⟨g, 1, none⟩ = some (.slice a1 nk c1) := hw.cell 1
        have f3 : wr.cell? ⟨g, 3, none⟩ = some (.slice a3 nl c3) := hw.cell 3
        have HW := Lib.hid hw
        clear hw e0 HP r2 hlt hk hnv HR0
        by_cases p2 : k = nk
        · subst p2
          by_cases p3 : nl = 0
          · subst p3
            cases emp with
            | true =>
              obtain rfl : r = true := by rw [HR1.out]; simp
              go_wp2_with fail
              go_ret
              exact ⟨rfl, HW.out.drop⟩
            | false =>
              by_cases p1 : 0 < k
              · have p1i : (0 : Int) < k := by omega
                obtain rfl : r = true := by rw [HR1.out]; simp; omega
                go_wp2_with fail
                go_ret
                exact ⟨rfl, HW.out.drop⟩
              · have p1i : ¬ (0 : Int) < k := by omega
                obtain rfl : r = false := by rw [HR1.out]; simp; omega
                go_wp2_with fail
                go_ret
                exact ⟨rfl, HW.out.drop⟩
          · have p3i : ¬ (nl : Int) = 0 := by omega
            obtain rfl : r = false := by rw [HR1.out]; simp [p3]
            go_wp2_with fail
            go_ret
            exact ⟨rfl, HW.out.drop⟩
        · have p2i : ¬ (k : Int) = nk := by omega
          obtain rfl : r = false := by rw [HR1.out]; simp [p2]
          go_wp2_with fail
          go_ret
          exact ⟨rfl, HW.out.drop⟩
  | false =>
    have e0 : Nd.formed ⟨false, ks, vs, ls⟩ (if emp then 0 else 1) = (decide (1 ≤ ks.length ∧ ls.length = ks.length + 1 ∧ vs.length = 0) && (ls.all kidB && decide ls.Nodup)) := rfl
    rw [e0]
    obtain ⟨r, hr0⟩ : ∃ r, r = (decide (1 ≤ ks.length ∧ ls.length = ks.length + 1 ∧ vs.length = 0) && (ls.all kidB && decide ls.Nodup)) := ⟨_, rfl⟩
    rw [← hr0]
    clear e0 r1 r2 n2
    generalize ks.length = nk at *
    generalize vs.length = nv at *
    generalize hnl : ls.length = nl at *
    have k1 := fun w M hw => repeats_any (E := E) (L := M) a3 nl c3 ls w hbk3 h3 m3 r3 hw
    have K1 := Lib.hid k1
    have H1 := Lib.hid h1
    have HR0 := Lib.hid hr0
    clear h h1 h3 m3 n1 n3 k1 hr0
    go_enter Tryd.func70, Tryd.ntmps70
    go_wp2_with fail
    rw [← hg]
    clear hg
    have q0 := H1.out.cell 0
    go_wp2_with fail
    go_loopw [6] (fun i wr => ∃ k : Nat, k ≤ nl ∧ i = .int .i64 k ∧ (∀ i x, i < k → ls[i]? = some x → kidB x = true) ∧ Own E wr (Hp.blk g NT #[.bool false, .slice a1 nk c1, .slice a2 nv c2, .slice a3 nl c3] :: Hp.ro S :: L)) (fun i _ => nl - (intOf i).toNat)
    case atStart => exact ⟨0, by omega, rfl, fun i _ hi => absurd hi (by omega), H1.out⟩
    case round =>
      obtain ⟨k, hk, rfl, hp, hw⟩ := hrel
      clear H1 q0
      have f3 : wr.cell? ⟨g, 3, none⟩ = some (.slice a3 nl c3) := hw.cell 3
      have HP := Lib.hid hp
      clear hp
      by_cases hlt : k < nl
      · obtain ⟨x, b, off, hx, rfl, hc⟩ := r3.get1 hlt
        have d1 := hw.f1.rd (hc _ rfl)
        have HX := Lib.hid hx
        have HW := Lib.hid hw
        clear hc hx hw
        have hno : kidB x = false → ls.all kidB = false := fun hf => List.all_eq_false.2 ⟨x, List.mem_of_getElem? HX.out, by rw [hf]; simp⟩
        have HNO := Lib.hid hno
        clear hno
        by_cases h1 : x < 2
        · obtain rfl : r = false := by rw [HR0.out, HNO.out (decide_eq_false (by omega)), Bool.false_and, Bool.and_false]
          go_wp2_with fail
          go_ret
          exact ⟨rfl, HW.out.drop⟩
        · by_cases h2 : 4294967295 < x
          · obtain rfl : r = false := by rw [HR0.out, HNO.out (decide_eq_false (by omega)), Bool.false_and, Bool.and_false]
            go_wp2_with fail
            go_ret
            exact ⟨rfl, HW.out.drop⟩
          · have HR := Lib.hid (show ∀ i z, i < k + 1 → ls[i]? = some z → kidB z = true by
              intro i z hi hz
              rcases Nat.lt_or_ge i k with hlt2 | hge
              · exact HP.out i z hlt2 hz
              · obtain rfl : i = k := by omega
                rw [HX.out] at hz
                injection hz with hz
                subst hz
                exact decide_eq_true ⟨by omega, by omega⟩)
            go_wp2_with fail
            go_roundw
            case rel => exact ⟨k + 1, by omega, by go_num, HR.out, HW.out⟩
            case measure => simp [intOf]; omega
      · obtain rfl : k = nl := by omega
        have e0 : ls.all kidB = true := List.all_eq_true.2 fun x hx => by
          obtain ⟨i, hi, rfl⟩ := List.getElem_of_mem hx
          exact HP.out i _ (by have := r3.1; omega) (List.getElem?_eq_getElem hi)
        obtain ⟨nd, hnd⟩ : ∃ nd, nd = decide ls.Nodup := ⟨_, rfl⟩
        have HR1 := Lib.hid (show r = (decide (1 ≤ nk ∧ k = nk + 1 ∧ nv = 0) && nd) by rw [HR0.out, e0, Bool.true_and, hnd])
        have K2 := K1.out
        rw [← hnd] at K2
        have HW := Lib.hid hw
        have K3 := Lib.hid K2
        clear hw e0 HP r3 hlt hk hnl HR0 K1 hnd K2
        go_wp2_with fail
        with_reducible refine (K3.out _ _ HW.out.f1).mono ?_
        rintro e w2 ⟨rfl, h⟩
        have f1 : w2.cell? ⟨g, 1, none⟩ = some (.slice a1 nk c1) := h.f1.cell 1
        have f2 : w2.cell? ⟨g, 2, none⟩ = some (.slice a2 nv c2) := h.f1.cell 2
        have f3' : w2.cell? ⟨g, 3, none⟩ = some (.slice a3 k c3) := h.f1.cell 3
        have H := Lib.hid h
        clear h HW f3
        by_cases p1 : 1 ≤ nk
        · have p1i : (0 : Int) < nk := by omega
          have p2w : IntKind.i64.wrap ((nk : Int) + 1) = (nk : Int) + 1 := IntWalk.i64_in _ (by omega)
          by_cases p2 : k = nk + 1
          · subst p2
            by_cases p3 : nv = 0
            · subst p3
              obtain rfl : r = nd := by rw [HR1.out]; simp [p1]
              cases r
              all_goals
                go_wp2_with fail
                go_ret
                exact ⟨rfl, H.out.f1.drop⟩
            · have p3i : ¬ (nv : Int) = 0 := by omega
              obtain rfl : r = false := by rw [HR1.out]; simp [p3]
              go_wp2_with fail
              go_ret
              exact ⟨rfl, H.out.f1.drop⟩
          · have p2i : ¬ (k : Int) = (nk : Int) + 1 := by omega
            obtain rfl : r = false := by rw [HR1.out]; simp [p2]
            go_wp2_with fail
            go_ret
            exact ⟨rfl, H.out.f1.drop⟩
        · have p1i : ¬ (0 : Int) < nk := by omega
          obtain rfl : r = false := by rw [HR1.out]; simp [p1]
          go_wp2_with fail
          go_ret
          exact ⟨rfl, H.out.f1.drop⟩

theorem xtexts_any (A : Option Addr) (n c : Nat) (l : List ByteArray) (w : World) (hn : n ≤ 4294967296) (hr : Rds S 1 enStr A n l) (h : Own E w (Hp.ro S :: L)) :
    Calls Tryd.prog 73 #[.slice A n c] w fun e w' => ∃ v, e = .returned v ∧ Own E w' (Hp.strs v l :: Hp.ro S :: L) := by
  have hl := hr.1
  obtain ⟨v, w2, hap, h2⟩ := lst_append (P := Tryd.prog) (t := LST) (ty := LST) lst_u st_info (by rfl) (h.emptyLst ST none) A n c (l.map VS) (by rw [List.length_map]; exact hl) (hr.rdC h) (VS_one _) (by unfold maxLen; simp; omega) (by simp; omega)
  rw [List.nil_append] at h2
  have H2 := Lib.hid h2
  clear h h2 hr
  go_enter Tryd.func73, Tryd.ntmps73
  go_wp2_with (refine wpList_append_run (o := ⟨some 6, _, _, _, _, _⟩) hap rfl rfl rfl rfl ?_; clear hap)
  go_ret
  exact ⟨_, rfl, H2.out⟩
theorem xnumbers_any (A : Option Addr) (n c : Nat) (l : List Int) (w : World) (hn : n ≤ 4294967296) (hr : Rds S 1 en64 A n l) (h : Own E w (Hp.ro S :: L)) :
    Calls Tryd.prog 74 #[.slice A n c] w fun e w' => ∃ v, e = .returned v ∧ Own E w' (Hp.ints v l :: Hp.ro S :: L) := by
  have hl := hr.1
  obtain ⟨v, w2, hap, h2⟩ := lst_append (P := Tryd.prog) (t := LIT) (ty := LIT) lit_u it_info (by rfl) (h.emptyLst IT none) A n c (l.map VI) (by rw [List.length_map]; exact hl) (hr.rdC h) (VI_one _) (by unfold maxLen; simp; omega) (by simp; omega)
  rw [List.nil_append] at h2
  have H2 := Lib.hid h2
  clear h h2 hr
  go_enter Tryd.func74, Tryd.ntmps74
  go_wp2_with (refine wpList_append_run (o := ⟨some 6, _, _, _, _, _⟩) hap rfl rfl rfl rfl ?_; clear hap)
  go_ret
  exact ⟨_, rfl, H2.out⟩
end
end Go.Proofs.YtbclmmneiphcaaaDoor
