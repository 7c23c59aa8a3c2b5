/- node.Size, latchkeyref10.Size. -/
import Derived.Test.YtbclmmneiphcaaaDoorFormed
namespace Go.Proofs.YtbclmmneiphcaaaDoor
open Go.RowKit
abbrev NT : TypeId := 25
section
variable {E : World} {S : Ph} {L : List Hp}
set_option maxHeartbeats 2000000 in
theorem size_any (v : Nv) (n : Nd) (w : World) (hb : n.bulk ≤ 1125899906842624) (hi : NdIn S v n) (h : Own E w (Hp.ro S :: L)) :
    Calls Tryd.prog 35 #[v.val n] w fun e w' => e = .returned (.int .i64 (n.size : Nat)) ∧ Own E w' (Hp.ro S :: L) := by
  obtain ⟨leaf, ks, vs, ls⟩ := n
  obtain ⟨a1, c1, a2, c2, a3, c3⟩ := v
  obtain ⟨r1, r2, -, -, -, -, -, -, -⟩ := hi
  have hsz : Nd.size ⟨leaf, ks, vs, ls⟩ = if leaf then sumSz ks + sumSz vs + 2 * max ks.length vs.length else sumSz ks + ks.length + 4 * ls.length := rfl
  rw [hsz]
  have hb2 : sumSz ks + sumSz vs + ks.length + vs.length + ls.length ≤ 1125899906842624 := hb
  clear hb hsz
  dsimp only [Nv.val] at r1 r2 ⊢
  have hle : ∀ k, sumSz (ks.take k) ≤ sumSz ks := sumSz_le ks
  have hle2 : ∀ k, sumSz (vs.take k) ≤ sumSz vs := sumSz_le vs
  have hall : sumSz (ks.take ks.length) = sumSz ks := by rw [List.take_length]
  have hall2 : sumSz (vs.take vs.length) = sumSz vs := by rw [List.take_length]
  generalize ks.length = nk at *
  generalize vs.length = nv at *
  generalize ls.length = nl at *
  generalize sumSz ks = sk at *
  generalize sumSz vs = sv at *
  have HLE := Lib.hid hle
  have HLE2 := Lib.hid hle2
  have HALL := Lib.hid hall
  have HALL2 := Lib.hid hall2
  have HB := Lib.hid hb2
  have hbk : nk ≤ 1125899906842624 ∧ nv ≤ 1125899906842624 ∧ nl ≤ 1125899906842624 := by omega
  obtain ⟨hbk1, hbk2, hbk3⟩ := hbk
  clear hle hle2 hall hall2 hb2
  have h1 := h.alloc (.cells #[.bool leaf, .slice a1 nk c1, .slice a2 nv c2, .slice a3 nl c3] NT)
  go_enter Tryd.func35, Tryd.ntmps35
  go_wp2_with fail
  generalize hg : w.heap.size = g at h1 ⊢
  have H1 := Lib.hid h1
  clear h h1 hg
  go_loopw [3, 11] (fun sz i wr => ∃ k s : Nat, k ≤ nk ∧ i = .int .i64 k ∧ s = sumSz (ks.take k) ∧ sz = .int .i64 s ∧ Own E wr (Hp.blk g NT #[.bool leaf, .slice a1 nk c1, .slice a2 nv c2, .slice a3 nl c3] :: Hp.ro S :: L)) (fun _ i _ => nk - (intOf i).toNat)
  case atStart => exact ⟨0, 0, by omega, rfl, rfl, rfl, H1.out⟩
  case round =>
    obtain ⟨k, s, hk, rfl, hs, rfl, hw⟩ := hrel
    clear H1
    have HS := Lib.hid hs
    have hsb : s ≤ sk := by rw [HS.out]; exact HLE.out k
    have hsb2 : s ≤ 1125899906842624 := by have := HB.out; omega
    clear hs
    by_cases hlt : k < nk
    · obtain ⟨x, b, off, hx, rfl, hc⟩ := r1.get1 hlt
      have c1 := hw.f1.rd (hc _ rfl)
      have hs2 : s + x.size = sumSz (ks.take (k + 1)) := by rw [sumSz_take ks k x hx, HS.out]
      have hs3 : s + x.size ≤ 1125899906842624 := by have := HLE.out (k + 1); have := HB.out; omega
      have HS2 := Lib.hid hs2
      clear hc hx hs2
      have j1 : IntKind.i64.wrap ((s : Int) + x.size) = ((s + x.size : Nat) : Int) := IntWalk.i64_in _ (by omega)
      go_wp2_with fail
      go_roundw
      case rel => exact ⟨k + 1, s + x.size, by omega, by go_num, HS2.out, rfl, hw⟩
      case measure => simp [intOf]; omega
    · obtain rfl : k = nk := by omega
      have hsk : s = sk := by rw [HS.out, HALL.out]
      subst hsk
      clear HLE hlt hk hsb HS
      have f0 : wr.cell? ⟨g, 0, none⟩ = some (.bool leaf) := hw.cell 0
      have f1 : wr.cell? ⟨g, 1, none⟩ = some (.slice a1 k c1) := hw.cell 1
      have f2 : wr.cell? ⟨g, 2, none⟩ = some (.slice a2 nv c2) := hw.cell 2
      have f3 : wr.cell? ⟨g, 3, none⟩ = some (.slice a3 nl c3) := hw.cell 3
      have HB' := HB.out
      cases leaf with
      | false =>
        have j1 : IntKind.i64.wrap ((s : Int) + k) = ((s + k : Nat) : Int) := IntWalk.i64_in _ (by omega)
        have j2 : IntKind.i64.wrap (4 * (nl : Int)) = ((4 * nl : Nat) : Int) := IntWalk.i64_in _ (by omega)
        have j3 : IntKind.i64.wrap (((s + k : Nat) : Int) + ((4 * nl : Nat) : Int)) = ((s + k + 4 * nl : Nat) : Int) := IntWalk.i64_in _ (by omega)
        clear HB'
        go_wp2_with fail
        go_ret
        refine ⟨ret_i64 ?_, hw.drop⟩
        simp <;> omega
      | true =>
        clear HB'
        go_wp2_with fail
        go_loopw [3, 36] (fun sz i wr => ∃ q s2 : Nat, q ≤ nv ∧ i = .int .i64 q ∧ s2 = sumSz (vs.take q) ∧ sz = .int .i64 ((s : Int) + s2) ∧ Own E wr (Hp.blk g NT #[.bool true, .slice a1 k c1, .slice a2 nv c2, .slice a3 nl c3] :: Hp.ro S :: L)) (fun _ i _ => nv - (intOf i).toNat)
        case atStart => exact ⟨0, 0, by omega, rfl, rfl, rfl, hw⟩
        case round =>
          obtain ⟨q, s2, hq, rfl, hs, rfl, hw⟩ := hrel
          clear f0 f1 f2 f3
          have HS := Lib.hid hs
          have hsb : s2 ≤ sv := by rw [HS.out]; exact HLE2.out q
          have hsb2 : s + s2 ≤ 1125899906842624 := by have := HB.out; omega
          clear hs
          by_cases hlt : q < nv
          · obtain ⟨x, b, off, hx, rfl, hc⟩ := r2.get1 hlt
            have c1 := hw.f1.rd (hc _ rfl)
            have hs2 : s2 + x.size = sumSz (vs.take (q + 1)) := by rw [sumSz_take vs q x hx, HS.out]
            have hs3 : s + s2 + x.size ≤ 1125899906842624 := by have := HLE2.out (q + 1); have := HB.out; omega
            have HS2 := Lib.hid hs2
            clear hc hx hs2
            have j1 : IntKind.i64.wrap ((s : Int) + s2 + x.size) = (s : Int) + ((s2 + x.size : Nat) : Int) := by rw [IntWalk.i64_in _ (by omega)]; omega
            go_wp2_with fail
            go_roundw
            case rel => exact ⟨q + 1, s2 + x.size, by omega, by go_num, HS2.out, rfl, hw⟩
            case measure => simp [intOf]; omega
          · obtain rfl : q = nv := by omega
            have hsk : s2 = sv := by rw [HS.out, HALL2.out]
            subst hsk
            clear HLE2 hlt hq hsb HS
            have f1 : wr.cell? ⟨g, 1, none⟩ = some (.slice a1 k c1) := hw.cell 1
            have f2 : wr.cell? ⟨g, 2, none⟩ = some (.slice a2 q c2) := hw.cell 2
            have HB' := HB.out
            obtain ⟨m, hm⟩ : ∃ m, m = max k q := ⟨_, rfl⟩
            have HM := Lib.hid hm
            have hmk : m ≤ k + q := by omega
            have j1 : IntKind.i64.wrap (2 * (m : Int)) = ((2 * m : Nat) : Int) := IntWalk.i64_in _ (by omega)
            have j3 : IntKind.i64.wrap ((s : Int) + s2 + ((2 * m : Nat) : Int)) = ((s + s2 + 2 * m : Nat) : Int) := IntWalk.i64_in _ (by omega)
            have j5 : (if k < q then Value.int .i64 (q : Int) else Value.int .i64 (k : Int)) = Value.int .i64 (m : Int) := by split <;> (congr 1; omega)
            have j6 : (if k < q then (q : Int) else (k : Int)) = (m : Int) := by split <;> omega
            clear HB' hm
            go_wp2_with fail
            go_ret
            refine ⟨ret_i64 ?_, hw.drop⟩
            have := HM.out
            simp <;> omega
end
end Go.Proofs.YtbclmmneiphcaaaDoor
