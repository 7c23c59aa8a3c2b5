/- node.unlike, formed, wrong. -/
import Derived.Test.YtbclmmneiphcaaaDoorUnlike
namespace Go.Proofs.YtbclmmneiphcaaaDoor
open Go.RowKit Go.MapKept
section
variable {P : Program} {ops : Array Oper} {rest : List Oper} {o : Oper} {a : Act} {w w' : World} {Q : Exit → Act → World → Prop}
theorem wpList_mapupdate_run {T : TypeId} {m k v : Value} {x y z : Operand} (hrun : (Instr.mapUpdate T m k v).run P w = .ok () w') (hgd : o.guard = none) (ho : o.op = .mapUpdate T x y z) (hx : a.eval x = m) (hy : a.eval y = k) (hz : a.eval z = v)
    (h : wpList P ops Q rest (a.put o.dst undef) w') : wpList P ops Q (o :: rest) a w :=
  wpList_plain hgd fun K' hK' => by
    unfold Oper.wp
    simp [execOp, ho, hx, hy, hz, hrun, Result.andThen]
    exact hK' _ _ h
end
section
variable {E : World} {S : Ph} {L : List Hp}
theorem kidsB_iff (ls : List Int) : kidsB ls = true ↔ (∀ k ∈ ls, 2 ≤ k ∧ k ≤ 4294967295) ∧ ls.Nodup := by
  simp [kidsB, kidB, List.all_eq_true]
set_option maxHeartbeats 2000000 in
theorem unlike_any (A : Option Addr) (n c : Nat) (ls : List Int) (w : World) (hn : n ≤ 1125899906842624) (hr : Rds S 1 en64 A n ls) (h : Own E w (Hp.ro S :: L)) :
    Calls Tryd.prog 67 #[.slice A n c] w fun e w' => e = .returned (.bool (kidsB ls)) ∧ Own E w' (Hp.ro S :: L) := by
  have hmk : (Instr.makeMap MT (some (.int .i64 n))).run Tryd.prog w = .ok (.map (some w.heap.size)) (w.alloc (.map #[] 0)) := by
    simp [Instr.makeMap, run_underlying (show Tryd.prog.underlying MT = some (.map 3 3) by kernel_rfl), asInt, asIntOf, Result.andThen]
  have hm : Tryd.prog.underlying MT = some (.map 3 3) := by kernel_rfl
  have hd : Tryd.prog.underlying 3 = some (.int .i64) := by kernel_rfl
  have hz : ∀ w, (zeroValue 3).run Tryd.prog w = .ok (.int .i64 0) w := fun w => by
    obtain ⟨i, hi, hzz⟩ := Option.map_eq_some_iff.1 (show (Tryd.prog.info? 3).map (·.zero) = some (some (.int .i64 0)) by kernel_rfl)
    simp [zeroValue, typeInfo, hi, hzz, Result.andThen]
  have h1 := h.alloc (.map #[] 0)
  obtain ⟨g, hg⟩ : ∃ g, g = w.heap.size := ⟨_, rfl⟩
  rw [← hg] at h1 hmk
  have H1 := Lib.hid h1
  clear h h1 hg
  go_enter Tryd.func67, Tryd.ntmps67
  go_wp2_with fail
  go_loopw [11] (fun i wr => ∃ (k : Nat) (es : Array MapEntry) (clk : Nat), k ≤ n ∧ i = .int .i64 k ∧ kidsB (ls.take k) = true ∧ IsSet es (ls.take k) ∧ Own E wr (Hp.obj g (.map es clk) :: Hp.ro S :: L)) (fun i _ => n - (intOf i).toNat)
  case atStart => exact ⟨0, #[], 0, by omega, rfl, rfl, rfl, H1.out⟩
  case round =>
    obtain ⟨k, es, clk, hk, rfl, hkb, hs, hw⟩ := hrel
    clear H1 hmk
    by_cases hlt : k < n
    · obtain ⟨x, b, off, hx, rfl, hc⟩ := hr.get1 hlt
      have c1 := hw.f1.rd (hc _ rfl)
      have htk : ls.take (k + 1) = ls.take k ++ [x] := by rw [List.take_add_one, hx]; rfl
      have hkk := (kidsB_iff _).1 hkb
      have hat := hw.at_
      by_cases hmem : x ∈ ls.take k
      · have hx2 := hkk.1 x hmem
        have hone := im_one (P := Tryd.prog) hm hd hat hs hmem
        obtain ⟨o, hup, hfind⟩ := im_again (P := Tryd.prog) hm hd hat hs hkk.2 hmem
        have hw2 := hw.setObj o
        have htwo := hfind _ hw2.at_
        have hno : kidsB ls = false := by
          cases e : kidsB ls with
          | false => rfl
          | true =>
            exfalso
            have h1 := ((kidsB_iff _).1 e).2
            rw [← List.take_append_drop (k + 1) ls, htk, List.append_assoc] at h1
            have h2 := (List.nodup_append.1 h1).2.2
            exact h2 x hmem x (by simp) rfl
        have NO := Lib.hid hno
        have n1 : ¬ x < 2 := by omega
        have n2 : ¬ 4294967295 < x := by omega
        have HW2 := Lib.hid hw2
        clear hw hw2 hkk hat hfind hs hkb htk hmem hx hc hz hm hd hno
        go_wp2_with (with_reducible refine at_slot (k := none) ?_; refine wpList_mapupdate_run (o := ⟨none, _, _, _, _, _⟩) hup rfl rfl rfl rfl rfl ?_; clear hup)
        go_ret
        exact ⟨ret_bool NO.out.symm, HW2.out.drop⟩
      · have hzero := im_none (P := Tryd.prog) hm hd (hz wr) hat hs hmem
        have hup := im_push (P := Tryd.prog) hm hd hat hs hmem (.int .i64 1)
        have hs2 := isSet_push hs x clk
        rw [← htk] at hs2
        have hw2 := hw.setObj (.map (es.push ⟨.int .i64 x, .int .i64 1, clk⟩) (clk + 1))
        have hone := im_one (P := Tryd.prog) hm hd hw2.at_ hs2 (k := x) (by rw [htk]; simp)
        have HW2 := Lib.hid hw2
        have HS2 := Lib.hid hs2
        have hmemx : x ∈ ls := List.mem_of_getElem? hx
        have hno : (x < 2 ∨ 4294967295 < x) → kidsB ls = false := fun hb => by
          cases e : kidsB ls with
          | false => rfl
          | true => have := ((kidsB_iff _).1 e).1 x hmemx; omega
        have hyes : ¬ x < 2 → ¬ 4294967295 < x → kidsB (ls.take (k + 1)) = true := fun g1 g2 => by
          rw [kidsB_iff, htk]
          refine ⟨fun y hy => ?_, ?_⟩
          · rcases List.mem_append.1 hy with hy | hy
            · exact hkk.1 y hy
            · have : y = x := by simpa using hy
              omega
          · rw [List.nodup_append]
            refine ⟨hkk.2, by simp, fun a ha b hb => ?_⟩
            have : b = x := by simpa using hb
            subst this
            rintro rfl
            exact hmem ha
        have HNO := Lib.hid hno
        have HYES := Lib.hid hyes
        clear hw hw2 hkk hat hs hkb htk hmem hx hc hz hm hd hs2 hno hyes hmemx
        by_cases n1 : x < 2
        · have e0 := HNO.out (.inl n1)
          have NO := Lib.hid e0
          clear e0
          go_wp2_with (with_reducible refine at_slot (k := none) ?_; refine wpList_mapupdate_run (o := ⟨none, _, _, _, _, _⟩) hup rfl rfl rfl rfl rfl ?_; clear hup)
          go_ret
          exact ⟨ret_bool NO.out.symm, HW2.out.drop⟩
        · by_cases n2 : 4294967295 < x
          · have e0 := HNO.out (.inr n2)
            have NO := Lib.hid e0
            clear e0
            go_wp2_with (with_reducible refine at_slot (k := none) ?_; refine wpList_mapupdate_run (o := ⟨none, _, _, _, _, _⟩) hup rfl rfl rfl rfl rfl ?_; clear hup)
            go_ret
            exact ⟨ret_bool NO.out.symm, HW2.out.drop⟩
          · have HY := Lib.hid (HYES.out n1 n2)
            go_wp2_with (with_reducible refine at_slot (k := none) ?_; refine wpList_mapupdate_run (o := ⟨none, _, _, _, _, _⟩) hup rfl rfl rfl rfl rfl ?_; clear hup)
            go_roundw
            case rel => exact ⟨k + 1, _, _, by omega, by go_num, HY.out, HS2.out, HW2.out⟩
            case measure => simp [intOf]; omega
    · have e0 : kidsB ls = true := by
        rw [List.take_of_length_le (by have := hr.1; omega)] at hkb
        exact hkb
      have NO := Lib.hid e0
      have HW := Lib.hid hw
      clear hw hkb hs e0
      go_wp2_with fail
      go_ret
      exact ⟨ret_bool NO.out.symm, HW.out.drop⟩
end
end Go.Proofs.YtbclmmneiphcaaaDoor
