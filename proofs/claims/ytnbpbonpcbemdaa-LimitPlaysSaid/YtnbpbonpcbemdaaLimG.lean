/- limit.Names. -/
import Derived.Test.YtnbpbonpcbemdaaLimF
namespace Go.Proofs.Ytnbpbonpcbemdaa
open Go.RowKit
attribute [local go_sem] run_store_float
abbrev LST : TypeId := 52
theorem st_info : (Try.prog.info? ST).map (fun i => (i.zero, i.size, i.bytes)) = some (some (.string ⟨#[]⟩), 1, 16) := by kernel_rfl
section
variable {E : World} {L : List Hp}
set_option maxHeartbeats 8000000 in
theorem names_any (b rate burst : Nat) (l : List Bkt) (w : World) (hl : l.length ≤ 1000) (h : Own E w (Hp.lim b rate burst l :: L)) :
    Calls Try.prog 19 #[.pointer (some ⟨b, 0, none⟩)] w fun e w' => ∃ A c, e = .returned (.slice A l.length c) ∧ Own E w' (Hp.lim b rate burst l :: L) := by
  obtain ⟨v, h⟩ := h.ofLim
  obtain ⟨A, c, rfl⟩ := h.f1.lrow
  have c2 : w.cell? ⟨b, 2, none⟩ = some (.slice A l.length c) := h.cell 2
  have h0 := h.nilRow ST 1
  have H := Lib.hid h0
  clear h h0
  go_enter Try.func19, Try.ntmps19
  go_wp2_with fail
  clear c2
  go_loopw [3, 11] (fun out i wr => ∃ k : Nat, k ≤ l.length ∧ i = .int .i64 k ∧ Own E wr (Hp.row ST 1 out k ((l.take k).map fun x => .string x.name) :: Hp.blk b LIMT #[.float .f32 rate, .float .f32 burst, .slice A l.length c] :: Hp.row BKT 3 (.slice A l.length c) l.length (l.flatMap enB) :: L)) (fun _ i _ => l.length - (intOf i).toNat)
  case atStart => exact ⟨0, by omega, rfl, H.out⟩
  case round =>
    obtain ⟨k, hk, rfl, hw⟩ := hrel
    clear H
    obtain ⟨A2, c3, rfl⟩ := hw.rowSlice
    by_cases hlt : k < l.length
    · have hlti : (k : Int) < l.length := by omega
      obtain ⟨x, hx⟩ : ∃ x, l[k]? = some x := ⟨_, List.getElem?_eq_getElem hlt⟩
      obtain ⟨g, rfl, d0, d1, d2⟩ := hw.f2.lcell k x hx
      have h1 := (hw.alloc (.cells #[.string x.name, .float .f32 x.level, .int .i64 x.at_] BKT)).f1
      obtain ⟨v', w5, hap, h5, -⟩ := sl_append_new (P := Try.prog) (t := LST) (ty := LST) (by kernel_rfl) st_info rfl (by omega) h1 #[.string x.name] 1 rfl (by simp [Value.oneCell']) (by unfold maxLen; omega) (by omega)
      have et : ((l.take k).map fun x => Value.string x.name) ++ (#[Value.string x.name] : Array Value).toList = (l.take (k + 1)).map fun x => Value.string x.name := by
        rw [List.take_add_one, hx, List.map_append]; rfl
      rw [et] at h5
      rw [alloc_size] at hap
      have h6 := h5.f1.drop
      have H6 := Lib.hid h6
      clear hw h1 h5 h6 et hx
      go_wp2_with (with_reducible refine at_slot (k := some 19) ?_; refine wpList_append_run (o := ⟨some 19, _, _, _, _, _⟩) hap rfl rfl rfl rfl ?_; clear hap)
      go_roundw
      case rel => exact ⟨k + 1, by omega, by go_num, H6.out⟩
      case measure => simp [intOf]; omega
    · obtain rfl : k = l.length := by omega
      have hlti : ¬ (l.length : Int) < l.length := by omega
      have H := Lib.hid (Own.toLim (hw.drop))
      clear hw hlt hk
      go_wp2_with fail
      go_ret
      first | exact ⟨_, _, rfl, H.out⟩ | exact ⟨⟨_, _, rfl⟩, H.out⟩ | exact ⟨rfl, H.out⟩
end
/-- The two limiters agree on a name. -/
structure Alone (most : Nat) (l m : List Bkt) (z : ByteArray) : Prop where
  okl : LimOk most l
  okm : LimOk most m
  six : Six l
  one : One m z
  kept : keptR l z = keptR m z
theorem Alone.start (most : Nat) (z : ByteArray) : Alone most [] [] z :=
  ⟨⟨by decide, fun _ h => (nomatch h), fun _ h => (nomatch h)⟩, ⟨by decide, fun _ h => (nomatch h), fun _ h => (nomatch h)⟩, ⟨List.nodup_nil, fun _ h => (nomatch h)⟩, .inl rfl, rfl⟩
theorem Alone.both {rate most cost k : Nat} {l m : List Bkt} {now : Int} (hb : most < 2139095040) (hk : k < 16) (h : Alone most l m (nmS k)) : Alone most (tookN rate most l (nmS k) cost now) (tookN rate most m (nmS k) cost now) (nmS k) :=
  ⟨tookN_ok h.okl hb, tookN_ok h.okm hb, (tookN_six h.six hk).2, (took_both h.six hk h.one h.kept).2, (took_both h.six hk h.one h.kept).1⟩
theorem Alone.other {rate most cost k j : Nat} {l m : List Bkt} {now : Int} (hb : most < 2139095040) (hk : k < 16) (hj : j < 16) (hne : k ≠ j) (h : Alone most l m (nmS j)) : Alone most (tookN rate most l (nmS k) cost now) m (nmS j) :=
  ⟨tookN_ok h.okl hb, h.okm, (tookN_six h.six hk).2, h.one, took_other h.six hk hj hne h.kept⟩
end Go.Proofs.Ytnbpbonpcbemdaa
