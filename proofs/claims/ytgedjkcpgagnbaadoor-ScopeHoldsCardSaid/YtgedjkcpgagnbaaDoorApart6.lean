/- latchkeylaw06.mark, apart. -/
import Derived.Test.YtgedjkcpgagnbaaDoorLent6
import Derived.Test.YtgedjkcpgagnbaaDoorLst2
namespace Go.Proofs.YtgedjkcpgagnbaaDoor
open Go.RowKit
abbrev LLST : TypeId := 25
abbrev LIT6 : TypeId := 53
abbrev IT6 : TypeId := 3
theorem sst_info : (Tryd.prog.info? LST).map (fun i => (i.zero, i.size, i.bytes)) = some (some (.slice none 0 0), 1, 24) := by kernel_rfl
theorem llst_u : Tryd.prog.underlying LLST = some (.slice LST) := by kernel_rfl
theorem it6_info : (Tryd.prog.info? IT6).map (fun i => (i.zero, i.size, i.bytes)) = some (some (.int .i64 0), 1, 8) := by kernel_rfl
theorem lit6_u : Tryd.prog.underlying LIT6 = some (.slice IT6) := by kernel_rfl
/-- mark: of the n-th list. -/
def markS (i : Nat) : ByteArray := ⟨#[109, 97, 114, 107, UInt8.ofNat i, UInt8.ofNat (i / 256)]⟩
/-- A list that is kept. -/
structure Kl where
  v : Value
  xs : List ByteArray
def famK (l : List Kl) : Hp := Hp.all (l.map fun r => Hp.lst ST r.v (r.xs.map Value.string))
theorem sep_e6 (A : Hp) : Hp.sep A (Hp.all []) = A := by
  funext h
  refine propext ⟨?_, fun hA => ⟨h, Ph.emp, Ph.apart_emp _, (Ph.join_emp h).symm, hA, rfl⟩⟩
  rintro ⟨a, b, _, rfl, hA, hb⟩
  have hb' : b = Ph.emp := hb
  rw [hb', Ph.join_emp]
  exact hA
theorem famK_app (l : List Kl) (r : Kl) : famK (l ++ [r]) = Hp.sep (famK l) (Hp.lst ST r.v (r.xs.map Value.string)) := by
  unfold famK
  rw [List.map_append, Hp.all_append]
  show Hp.sep _ (Hp.sep _ (Hp.all [])) = _
  rw [sep_e6]
theorem famK_cons (r : Kl) (l : List Kl) : famK (r :: l) = Hp.sep (Hp.lst ST r.v (r.xs.map Value.string)) (famK l) := rfl
section
variable {E w : World} {L : List Hp} {S : Ph}
theorem Own.popK {r : Kl} {l : List Kl} (h : Own E w (famK (r :: l) :: L)) : Own E w (Hp.lst ST r.v (r.xs.map Value.string) :: famK l :: L) := h.ac (by simp only [Hp.all, famK_cons] <;> ac_rfl)
theorem Own.pushK {r : Kl} {l : List Kl} (h : Own E w (Hp.lst ST r.v (r.xs.map Value.string) :: famK l :: L)) : Own E w (famK (l ++ [r]) :: L) := h.ac (by simp only [Hp.all, famK_app] <;> ac_rfl)
theorem Own.nilK (h : Own E w L) : Own E w (famK [] :: L) := Own.emp.2 h
theorem joinL6 {a S : Ph} : Ext a (Ph.join a S) := fun _ _ h => Ph.join_some h
theorem joinR6 {a S : Ph} (hd : Ph.apart a S) : Ext S (Ph.join a S) := fun k o h => by rw [Ph.join_comm hd]; exact Ph.join_some h
/-- A part is lent. -/
theorem Own.lend6 {A : Hp} (h : Own E w (A :: Hp.ro S :: L)) : ∃ a, A a ∧ Ph.apart a S ∧ Own E w (Hp.ro (Ph.join a S) :: L) := by
  obtain ⟨a, hA, h⟩ := h.opened
  obtain ⟨hm, hd⟩ := h.merge
  exact ⟨a, hA, hd, hm⟩
end
/- MARKING -/
def markedK (l : List Kl) : List Kl := l.mapIdx fun j r => ⟨r.v, List.replicate r.xs.length (markS j)⟩
theorem markedK_len (l : List Kl) : (markedK l).length = l.length := by simp [markedK]
theorem markedK_at {l : List Kl} {i : Nat} {r : Kl} (h : l[i]? = some r) : (markedK l)[i]? = some ⟨r.v, List.replicate r.xs.length (markS i)⟩ := by
  unfold markedK
  rw [List.getElem?_mapIdx, h]; rfl
theorem markedK_take {l : List Kl} {i : Nat} {r : Kl} (h : l[i]? = some r) : (markedK l).take (i + 1) = (markedK l).take i ++ [⟨r.v, List.replicate r.xs.length (markS i)⟩] := by
  rw [List.take_add_one, markedK_at h]; rfl
theorem drop_at {α : Type} {l : List α} {i : Nat} {x : α} (h : l[i]? = some x) : l.drop i = x :: l.drop (i + 1) := by
  obtain ⟨hl, rfl⟩ := List.getElem?_eq_some_iff.1 h
  exact List.drop_eq_getElem_cons hl
/-- Written over up to k. -/
def mkd {α : Type} (xs : List α) (k : Nat) (m : α) : List α := List.replicate k m ++ xs.drop k
theorem mkd_len {α : Type} {xs : List α} {k : Nat} {m : α} (h : k ≤ xs.length) : (mkd xs k m).length = xs.length := by
  unfold mkd; simp; omega
theorem mkd_set {α : Type} {xs : List α} {k : Nat} {m : α} (h : k < xs.length) : (mkd xs k m).set k m = mkd xs (k + 1) m := by
  unfold mkd
  rw [List.set_append_right _ _ (by simp), List.length_replicate, Nat.sub_self, List.drop_eq_getElem_cons h, List.set_cons_zero, List.replicate_succ']
  simp
theorem mkd_all {α : Type} {xs : List α} {k : Nat} {m : α} (h : k = xs.length) : mkd xs k m = List.replicate xs.length m := by
  subst h
  simp [mkd]
/- GROWING -/
/-- What was written down reads as marked. -/
def SeenK (S : Ph) (q : Nat) (v : Value) : Prop := ∃ A m c, v = .slice A m c ∧ m ≤ 8589934592 ∧ Rds S 1 enStr A m (List.replicate m (markS (q / 20)))
/-- .. or is a beginning of the list that grows, which lies at A and has m elements. -/
def KeptK (S : Ph) (i : Nat) (A : Option Addr) (m : Nat) (q : Nat) (v : Value) : Prop := SeenK S q v ∨ (q / 20 = i ∧ ∃ m' c, v = .slice A m' c ∧ m' ≤ m)
theorem SeenK.sub {S T : Ph} {q : Nat} {v : Value} (h : SeenK S q v) (hs : Ext S T) : SeenK T q v := by
  obtain ⟨A, m, c, e, hm, hr⟩ := h
  exact ⟨A, m, c, e, hm, hr.sub hs⟩
theorem KeptK.more {S : Ph} {i : Nat} {A : Option Addr} {m : Nat} {q : Nat} {v : Value} (h : KeptK S i A m q v) : KeptK S i A (m + 1) q v := by
  rcases h with h | ⟨e, m', c, e2, hle⟩
  · exact .inl h
  · exact .inr ⟨e, m', c, e2, by omega⟩
theorem KeptK.done {S a : Ph} {i : Nat} {A : Option Addr} {m c : Nat} {q : Nat} {v : Value} (h : KeptK S i A m q v) (hd : Ph.apart a S) (hm : m ≤ 8589934592) (ha : Hp.lst ST (.slice A m c) ((List.replicate m (markS i)).map Value.string) a) : SeenK (Ph.join a S) q v := by
  rcases h with h | ⟨e, m', c, rfl, hle⟩
  · exact h.sub (joinR6 hd)
  · refine ⟨A, m', c, rfl, by omega, ?_⟩
    have h2 : Rds (Ph.join a S) 1 (fun x => [Value.string x]) A m' ((List.replicate m (markS i)).take m') := (((lst_rds ha).1).pre m' hle).sub (T := Ph.join a S) joinL6
    rw [List.take_replicate, Nat.min_eq_left hle] at h2
    rw [e]; exact h2
/-- Whose the first n are. -/
def whoL (n : Nat) : List Value := (List.range n).map fun q => Value.int .i64 ((q / 20 : Nat) : Int)
theorem whoL_len (n : Nat) : (whoL n).length = n := by simp [whoL]
theorem whoL_add {k q : Nat} (hq : q < 20) : whoL (20 * k + q) ++ [Value.int .i64 (k : Int)] = whoL (20 * k + (q + 1)) := by
  unfold whoL
  rw [← Nat.add_assoc, List.range_succ, List.map_append]
  simp
  omega
theorem whoL_rds (n : Nat) : whoL n = (List.range n).map (fun q => Value.int .i64 ((q / 20 : Nat) : Int)) := rfl
section
variable {E : World} {S : Ph} {L : List Hp}
set_option maxRecDepth 100000 in
set_option maxHeartbeats 4000000 in
theorem mark_any (i : Nat) (w : World) (h : Own E w L) :
    Calls Tryd.prog 32 #[.int .i64 i] w fun e w' => e = .returned (.string (markS i)) ∧ Own E w' L := by
  have h2 := h.alloc (.cells #[.int .u8 (UInt8.ofNat i).toNat, .int .u8 (UInt8.ofNat (i / 256)).toNat] U8)
  have hrd : RdC (w.alloc (.cells #[.int .u8 (UInt8.ofNat i).toNat, .int .u8 (UInt8.ofNat (i / 256)).toNat] U8)) (some ⟨w.heap.size, 0, none⟩) ([UInt8.ofNat i, UInt8.ofNat (i / 256)].map V8') := RdC.of_block h2.at_ _ (fun j u hu => by simpa [V8'] using hu)
  have hcv := sl_to_string (P := Tryd.prog) (src := BT) (dst := ST) (e := U8) (by kernel_rfl) (by kernel_rfl) (by kernel_rfl) (some ⟨w.heap.size, 0, none⟩) [UInt8.ofNat i, UInt8.ofNat (i / 256)] 2 2 rfl hrd
  have e1 : IntKind.u8.wrap (i : Int) = ((UInt8.ofNat i).toNat : Int) := by
    rw [UInt8.toNat_ofNat']; simp [IntKind.wrap, IntKind.signed, IntKind.bits]
  have e2 : IntKind.u8.wrap ((i : Int) / 256) = ((UInt8.ofNat (i / 256)).toNat : Int) := by
    rw [UInt8.toNat_ofNat', show (i : Int) / 256 = ((i / 256 : Nat) : Int) by omega]; simp [IntKind.wrap, IntKind.signed, IntKind.bits]
  have e3 : (⟨#[109, 97, 114, 107]⟩ : ByteArray) ++ (⟨[UInt8.ofNat i, UInt8.ofNat (i / 256)].toArray⟩ : ByteArray) = markS i := by
    apply ByteArray.ext
    rw [ByteArray.data_append]; rfl
  have H2 := Lib.hid h2.drop
  have E3 := Lib.hid e3
  clear h h2 hrd e3
  go_enter Tryd.func32, Tryd.ntmps32
  go_wp2_with (with_reducible refine at_slot (k := some 9) ?_; refine wpList_conv_run (o := ⟨some 9, _, _, _, _, _⟩) hcv rfl rfl rfl ?_; clear hcv)
  go_ret
  exact ⟨congrArg (fun s => Ending.returned (.string s)) E3.out, H2.out⟩
set_option maxRecDepth 100000 in
set_option maxHeartbeats 40000000 in
theorem apart_any (A : Option Addr) (c : Nat) (l : List Kl) (w : World) (hbt : l.length ≤ 1000) (hxt : ∀ r ∈ l, r.xs.length ≤ 4294967296) (h : Own E w (Hp.lst LST (.slice A l.length c) (l.map Kl.v) :: famK l :: Hp.ro S :: L)) :
    Calls Tryd.prog 13 #[.slice A l.length c] w fun e w' => e = .returned (.bool true) ∧ Own E w' (Hp.ro S :: L) := by
  obtain ⟨a, ha, hd, h⟩ := (h.f2.f1 : Own E w (Hp.lst LST (.slice A l.length c) (l.map Kl.v) :: Hp.ro S :: famK l :: L)).lend6
  have hr : Rds (Ph.join a S) 1 (fun r : Kl => [r.v]) A l.length l := (lst_rds ha).1.sub joinL6
  have HST : Hid (Ext S (Ph.join a S)) := Lib.hid (joinR6 hd)
  generalize Ph.join a S = T at *
  have HR := Lib.hid hr
  have Hhxt := Lib.hid hxt
  have h : Own E w (famK ((markedK l).take 0) :: famK (l.drop 0) :: Hp.ro T :: L) := Own.nilK h.f1
  have H := Lib.hid h
  repeat clear h
  clear ha hd hr hxt
  go_enter Tryd.func13, Tryd.ntmps13
  go_wp2_with fail
  go_loopw [3] (fun i wr => ∃ k : Nat, k ≤ l.length ∧ i = .int .i64 k ∧ Own E wr (famK ((markedK l).take k) :: famK (l.drop k) :: Hp.ro T :: L)) (fun i _ => l.length - (intOf i).toNat)
  case atStart => exact ⟨0, by omega, rfl, H.out⟩
  case round =>
    obtain ⟨k, hk, rfl, hw⟩ := hrel
    clear H
    by_cases hlt : k < l.length
    · have hlti : (k : Int) < l.length := by omega
      obtain ⟨r, g0, o0, hr, rfl, k0⟩ := HR.out.get1 (k := k) (by omega)
      rw [drop_at hr] at hw
      have h := Own.popK hw.f1
      obtain ⟨Ar, cr, er, -⟩ := h.lstSlice
      rw [List.length_map] at er
      have k0c := k0 _ rfl
      clear k0
      rw [er] at k0c h
      have hlen := Hhxt.out r (List.mem_of_getElem? hr)
      have HTK := Lib.hid (markedK_take hr)
      rw [er] at HTK
      have HC := Lib.hid k0c
      have H := Lib.hid h
      obtain ⟨m, hm⟩ : ∃ m, m = r.xs.length := ⟨_, rfl⟩
      rw [← hm] at H HC HTK hlen
      obtain ⟨xs, hxs⟩ : ∃ xs, xs = r.xs := ⟨_, rfl⟩
      rw [← hxs] at H hm
      have HM := Lib.hid hm
      repeat clear h
      clear hw k0c er hr hm hxs
      go_wp2_with fail
      go_loopw [4] (fun j wr => ∃ q : Nat, q ≤ m ∧ j = .int .i64 q ∧ Own E wr (Hp.lst ST (.slice Ar m cr) ((mkd xs q (markS k)).map Value.string) :: famK (l.drop (k + 1)) :: famK ((markedK l).take k) :: Hp.ro T :: L)) (fun j _ => m - (intOf j).toNat)
      case atStart => exact ⟨0, by omega, rfl, H.out⟩
      case round =>
        obtain ⟨q, hq, rfl, hw⟩ := hrel
        clear H
        have hc1 := hw.f3.rd HC.out
        by_cases hlt2 : q < m
        · have hlti2 : (q : Int) < m := by omega
          have hml : ((mkd xs q (markS k)).map Value.string).length = m := by rw [List.length_map, mkd_len (by have := HM.out; omega), ← HM.out]
          obtain ⟨g2, rfl, -, -⟩ := hw.lstCell q _ (List.getElem?_eq_getElem (by omega))
          clear hml
          have h := hw.drew
          have HW := Lib.hid hw
          clear hw
          go_wp2_with fail
          refine wp_region_text [3] (fun w' => w'.cell? ⟨g0, o0 + k, none⟩ = some (.slice (some ⟨g2, 0, none⟩) m cr)) (by kernel_rfl) ?_ (fun hS => ?_)
          · exact h.f3.rd HC.out
          refine wpAnyG_pure (i := 0) (oi := ⟨some 27, _, _, _, _, _⟩) (v := ?_) rfl (by kernel_rfl) (by kernel_rfl) (by kernel_rfl) (by rfl) (fun _ _ _ h => h) (by rfl) ?_ ?_
          rotate_left
          · intro w
            go_simp
            first | done | with_reducible rfl
          try simp only [Act.put, List.setIfInBounds_toArray, List.set_cons_zero, List.set_cons_succ]
          refine wpAnyG_pure (i := 1) (oi := ⟨some 28, _, _, _, _, _⟩) (v := ?_) rfl (by kernel_rfl) (by kernel_rfl) (by kernel_rfl) (by rfl) (fun _ _ _ h => h) (by rfl) ?_ ?_
          rotate_left
          · intro w
            go_simp
            first | done | with_reducible rfl
          try simp only [Act.put, List.setIfInBounds_toArray, List.set_cons_zero, List.set_cons_succ]
          refine wpAnyG_pure (i := 2) (oi := ⟨some 29, _, _, _, _, _⟩) (v := ?_) rfl (by kernel_rfl) (by kernel_rfl) (by kernel_rfl) (by rfl) (fun _ _ _ h => h) (by rfl) ?_ ?_
          rotate_left
          · intro w
            go_simp
            first | done | with_reducible rfl
          try simp only [Act.put, List.setIfInBounds_toArray, List.set_cons_zero, List.set_cons_succ]
          refine wpAnyG_load (i := 3) (oi := ⟨some 30, _, _, _, _, _⟩) (v := ?_) rfl (by kernel_rfl) (by kernel_rfl) (by kernel_rfl) (by rfl) (fun _ _ _ h => h) (by rfl) ?_ (by assumption) ?_
          rotate_left
          · intro w hS
            try dsimp only at hS
            go_simp
            first | done | with_reducible rfl
          try simp only [Act.put, List.setIfInBounds_toArray, List.set_cons_zero, List.set_cons_succ]
          refine wpAnyG_pure (i := 4) (oi := ⟨some 31, _, _, _, _, _⟩) (v := ?_) rfl (by kernel_rfl) (by kernel_rfl) (by kernel_rfl) (by rfl) (fun _ _ _ h => h) (by rfl) ?_ ?_
          rotate_left
          · intro w
            go_simp
            first | done | with_reducible rfl
          try simp only [Act.put, List.setIfInBounds_toArray, List.set_cons_zero, List.set_cons_succ]
          refine wpAnyG_pure (i := 5) (oi := ⟨some 32, _, _, _, _, _⟩) (v := ?_) rfl (by kernel_rfl) (by kernel_rfl) (by kernel_rfl) (by rfl) (fun _ _ _ h => h) (by rfl) ?_ ?_
          rotate_left
          · intro w
            go_simp
            first | done | with_reducible rfl
          try simp only [Act.put, List.setIfInBounds_toArray, List.set_cons_zero, List.set_cons_succ]
          refine wpAnyG_keep (i := 6) (oi := ⟨some 33, _, _, _, _, _⟩) (by kernel_rfl) rfl (fun K hK => ?_)
          rw [if_pos (by rfl)]
          go_simp
          refine (mark_any k _ h).mono ?_
          rintro e w5 ⟨rfl, h⟩
          refine hK.out _ _ ?_ (fun hS => ?_)
          · exact h.f3.rd HC.out
          clear hK K
          try simp only [Act.put, List.setIfInBounds_toArray, List.set_cons_zero, List.set_cons_succ]
          refine wpAnyG_pure (i := 7) (oi := ⟨some 34, _, _, _, _, _⟩) (v := ?_) rfl (by kernel_rfl) (by kernel_rfl) (by kernel_rfl) (by rfl) (fun _ _ _ h => h) (by rfl) ?_ ?_
          rotate_left
          · intro w
            go_simp
            first | done | with_reducible rfl
          try simp only [Act.put, List.setIfInBounds_toArray, List.set_cons_zero, List.set_cons_succ]
          refine wpAnyG_break (i := 8) (oi := ⟨none, _, _, _, _, _⟩) (by kernel_rfl) rfl (by kernel_rfl) (fun K hK => ?_)
          rw [if_pos (by rfl)]
          obtain ⟨g3, hA3, hcell, hfz, h⟩ := h.lstSet q hlt2 (.string (markS k))
          injection hA3 with hA3
          injection hA3 with hA3
          subst hA3
          generalize List.getD _ _ _ = z at hcell
          go_simp
          refine hK.out _ _ ?_
          clear hK K
          try simp only [Act.put]
          refine wpAnyG_done (by kernel_rfl) ?_ _
          refine NoPanic.normal ?_
          rw [← List.map_set, mkd_set (by have := HM.out; omega)] at h
          have H := Lib.hid h
          repeat clear h
          clear hc1
          go_wp2_with fail
          go_roundw
          case rel => exact ⟨q + 1, by omega, by go_num, H.out⟩
          case measure => simp [intOf]; omega
        · obtain rfl : q = m := by omega
          have hlti2 : ¬ (q : Int) < q := by omega
          rw [mkd_all HM.out] at hw
          rw [← HM.out] at hw
          have hw2 := Own.pushK (r := ⟨.slice Ar q cr, List.replicate q (markS k)⟩) hw.f2.f1
          rw [← HTK.out] at hw2
          have H := Lib.hid hw2
          clear hw hw2 hlt2 hq
          go_wp2_with fail
          go_roundw
          case rel => exact ⟨k + 1, by omega, by go_num, H.out.ac (by simp only [Hp.all] <;> ac_rfl)⟩
          case measure => simp [intOf]; omega
    · obtain rfl : k = l.length := by omega
      have hlti : ¬ ((l.length : Nat) : Int) < ((l.length : Nat) : Int) := by omega
      rw [List.drop_eq_nil_of_le (by omega), List.take_of_length_le (by rw [markedK_len]; omega)] at hw
      have H := Lib.hid hw.f1.drop
      clear hw hlt hk
      go_wp2_with fail
      have h : Own E _ (Hp.ro T :: famK ((markedK l).drop 0) :: Hp.lst LST (.slice none (20 * 0) 0) [] :: Hp.lst IT6 (.slice none (20 * 0) 0) (whoL (20 * 0)) :: L) := (show Own E _ (Hp.lst LST (.slice none (20 * 0) 0) [] :: Hp.lst IT6 (.slice none (20 * 0) 0) [] :: famK ((markedK l).drop 0) :: Hp.ro T :: L) from (H.out.emptyLst IT6 none).emptyLst LST none).ac (by simp only [Hp.all] <;> ac_rfl)
      clear H
      have H := Lib.hid h
      repeat clear h
      go_loopw [5, 6, 7] (fun vt vu i wr => ∃ (k ct cu : Nat) (At Au : Option Addr) (U : Ph) (tv : List Value), k ≤ l.length ∧ i = .int .i64 k ∧ vt = .slice At (20 * k) ct ∧ vu = .slice Au (20 * k) cu ∧ tv.length = 20 * k ∧ Ext T U ∧ (∀ q v, tv[q]? = some v → SeenK U q v) ∧ Own E wr (Hp.ro U :: famK ((markedK l).drop k) :: Hp.lst LST (.slice At (20 * k) ct) tv :: Hp.lst IT6 (.slice Au (20 * k) cu) (whoL (20 * k)) :: L)) (fun _ _ i _ => l.length - (intOf i).toNat)
      case atStart => exact ⟨0, 0, 0, none, none, T, [], by omega, rfl, rfl, rfl, rfl, Ext.refl _, fun _ _ hv => by simp at hv, H.out⟩
      case round =>
        obtain ⟨k, ct, cu, At, Au, U, tv, hk, rfl, rfl, rfl, htl, hxu, hseen, hw⟩ := hrel
        clear H
        have HXU := Lib.hid hxu
        have HS := Lib.hid hseen
        clear hxu hseen
        by_cases hlt : k < l.length
        · have hlti : (k : Int) < l.length := by omega
          obtain ⟨r, g0, o0, hr, rfl, k0⟩ := HR.out.get1 (k := k) (by omega)
          have hmk := markedK_at hr
          rw [drop_at hmk] at hw
          have h := Own.popK hw.f1
          obtain ⟨Ar, cr, er, -⟩ := h.lstSlice
          rw [List.length_map, List.length_replicate] at er
          have er : r.v = .slice Ar r.xs.length cr := er
          have h : Own E wr (Hp.lst ST r.v ((List.replicate r.xs.length (markS k)).map Value.string) :: _) := h
          have hc1 := hw.rd (Ph.cell_sub HXU.out (k0 _ rfl))
          rw [er] at hc1 h
          have hlen := Hhxt.out r (List.mem_of_getElem? hr)
          have h : Own E wr (Hp.lst ST (.slice Ar r.xs.length cr) ((List.replicate r.xs.length (markS k)).map Value.string) :: Hp.ro U :: Hp.lst LST (.slice At (20 * k) ct) tv :: Hp.lst IT6 (.slice Au (20 * k) cu) (whoL (20 * k)) :: famK ((markedK l).drop (k + 1)) :: L) := h.ac (by simp only [Hp.all] <;> ac_rfl)
          have H := Lib.hid h
          generalize r.xs.length = m at *
          repeat clear h
          clear hw k0 er hr hmk
          go_wp2_with fail
          clear hc1
          go_loopw [5, 6, 8, 9] (fun vt vu vx j wr => ∃ (q ct cu cx : Nat) (At Au Ax : Option Addr) (U : Ph) (tv : List Value), q ≤ 20 ∧ j = .int .i64 q ∧ vt = .slice At (20 * k + q) ct ∧ vu = .slice Au (20 * k + q) cu ∧ vx = .slice Ax (m + q) cx ∧ tv.length = 20 * k + q ∧ Ext T U ∧ (∀ q' v, tv[q']? = some v → KeptK U k Ax (m + q) q' v) ∧ Own E wr (Hp.lst ST (.slice Ax (m + q) cx) ((List.replicate (m + q) (markS k)).map Value.string) :: Hp.ro U :: Hp.lst LST (.slice At (20 * k + q) ct) tv :: Hp.lst IT6 (.slice Au (20 * k + q) cu) (whoL (20 * k + q)) :: famK ((markedK l).drop (k + 1)) :: L)) (fun _ _ _ j _ => 20 - (intOf j).toNat)
          case atStart => exact ⟨0, ct, cu, cr, At, Au, Ar, U, tv, by omega, rfl, rfl, rfl, rfl, htl, HXU.out, fun q v hv => .inl (HS.out q v hv), H.out⟩
          case round =>
            clear H HXU HS htl
            obtain ⟨q, ct, cu, cx, At, Au, Ax, U, tv, hq, rfl, rfl, rfl, rfl, htl, hxu, hkept, hw⟩ := hrel
            have HXU := Lib.hid hxu
            have HS := Lib.hid hkept
            clear hxu hkept
            by_cases hlt2 : q < 20
            · have hlti2 : (q : Int) < 20 := by omega
              obtain ⟨v1, w1, hap1, h⟩ := lst_append_new (P := Tryd.prog) (t := LLST) (ty := LLST) llst_u sst_info (by rfl) hw.f2 #[.slice Ax (m + q) cx] 1 rfl (by simp [Value.oneCell']) (by unfold maxLen; omega) (by omega)
              obtain ⟨Bt, bt, rfl, -⟩ := h.lstSlice
              have e9 : (tv ++ (#[.slice Ax (m + q) cx] : Array Value).toList).length = 20 * k + (q + 1) := by rw [List.length_append, htl]; simp; omega
              rw [e9] at h hap1
              have HE9 := Lib.hid e9
              have hwl := whoL_len (20 * k + q)
              obtain ⟨v2, w2, hap2, h⟩ := lst_append_new (P := Tryd.prog) (t := LIT6) (ty := LIT6) lit6_u it6_info (by rfl) (h.f3 : Own E w1 (Hp.lst IT6 (.slice Au (20 * k + q) cu) (whoL (20 * k + q)) :: _)) #[.int .i64 (k : Int)] 1 rfl (by simp [Value.oneCell']) (by unfold maxLen; omega) (by omega)
              have e10 : whoL (20 * k + q) ++ (#[.int .i64 (k : Int)] : Array Value).toList = whoL (20 * k + (q + 1)) := whoL_add hlt2
              rw [e10] at h
              obtain ⟨Bu, bu, rfl, -⟩ := h.lstSlice
              rw [whoL_len] at h hap2
              have h : Own E w2 (Hp.lst ST (.slice Ax (m + q) cx) ((List.replicate (m + q) (markS k)).map Value.string) :: Hp.ro U :: Hp.lst LST (.slice Bt (20 * k + (q + 1)) bt) (tv ++ (#[.slice Ax (m + q) cx] : Array Value).toList) :: Hp.lst IT6 (.slice Bu (20 * k + (q + 1)) bu) (whoL (20 * k + (q + 1))) :: famK ((markedK l).drop (k + 1)) :: L) := h.ac (by simp only [Hp.all] <;> ac_rfl)
              have H := Lib.hid h
              repeat clear h
              clear hw e9 e10 hwl
              go_wp2_with (first | (with_reducible refine at_slot (k := some 52) ?_; refine wpList_append_run (o := ⟨some 52, _, _, _, _, _⟩) hap1 rfl rfl rfl rfl ?_; clear hap1) | (with_reducible refine at_slot (k := some 56) ?_; refine wpList_append_run (o := ⟨some 56, _, _, _, _, _⟩) hap2 rfl rfl rfl rfl ?_; clear hap2))
              with_reducible refine (mark_any k _ H.out).mono ?_
              rintro e w2 ⟨rfl, h⟩
              clear H
              have hlr : ((List.replicate (m + q) (markS k)).map Value.string).length = m + q := by rw [List.length_map, List.length_replicate]
              obtain ⟨Bx, bx, w3, hap3, hor⟩ := lst_append_one (P := Tryd.prog) (t := LST) (ty := LST) lst_u st_info (by rfl) h (.string (markS k)) rfl (by unfold maxLen; omega) (by omega)
              have e8 : (List.replicate (m + q) (markS k)).map Value.string ++ [.string (markS k)] = (List.replicate (m + (q + 1)) (markS k)).map Value.string := by rw [← Nat.add_assoc, List.replicate_succ', List.map_append]; rfl
              rw [e8, Nat.add_assoc] at hor
              rw [Nat.add_assoc] at hap3
              have hfin : ∃ U2, Ext T U2 ∧ (∀ q' v, (tv ++ (#[.slice Ax (m + q) cx] : Array Value).toList)[q']? = some v → KeptK U2 k Bx (m + (q + 1)) q' v) ∧ Own E w3 (Hp.lst ST (.slice Bx (m + (q + 1)) bx) ((List.replicate (m + (q + 1)) (markS k)).map Value.string) :: Hp.ro U2 :: Hp.lst LST (.slice Bt (20 * k + (q + 1)) bt) (tv ++ (#[.slice Ax (m + q) cx] : Array Value).toList) :: Hp.lst IT6 (.slice Bu (20 * k + (q + 1)) bu) (whoL (20 * k + (q + 1))) :: famK ((markedK l).drop (k + 1)) :: L) := by
                have hold : ∀ q' v, (tv ++ (#[.slice Ax (m + q) cx] : Array Value).toList)[q']? = some v → KeptK U k Ax (m + q) q' v := fun q' v hv => by
                  rcases Nat.lt_or_ge q' tv.length with h1 | h1
                  · rw [List.getElem?_append_left h1] at hv
                    exact HS.out q' v hv
                  · rw [List.getElem?_append_right h1] at hv
                    have hz : q' - tv.length = 0 := by
                      have := (List.getElem?_eq_some_iff.1 hv).1
                      simp at this; omega
                    rw [hz] at hv
                    have hv' : v = .slice Ax (m + q) cx := by simpa using hv.symm
                    exact .inr ⟨by omega, m + q, cx, hv', Nat.le_refl _⟩
                rcases hor with ⟨rfl, ho⟩ | ho
                · exact ⟨U, HXU.out, fun q' v hv => (hold q' v hv).more, ho⟩
                · obtain ⟨a, ha, hd, ho3⟩ := (ho.f2.f2 : Own E w3 (Hp.lst ST (.slice Ax (m + q) cx) ((List.replicate (m + q) (markS k)).map Value.string) :: Hp.ro U :: _)).lend6
                  exact ⟨Ph.join a U, HXU.out.trans (joinR6 hd), fun q' v hv => .inl ((hold q' v hv).done hd (by omega) ha), ho3.ac (by simp only [Hp.all] <;> ac_rfl)⟩
              obtain ⟨U2, hx2, hk2, h⟩ := hfin
              have HX2 := Lib.hid hx2
              have HK2 := Lib.hid hk2
              have H := Lib.hid h
              repeat clear h
              clear hx2 hk2 hor HS HXU hlr e8
              go_wp2_with (with_reducible refine at_slot (k := some 61) ?_; refine wpList_append_run (o := ⟨some 61, _, _, _, _, _⟩) hap3 rfl rfl rfl rfl ?_; clear hap3)
              go_roundw
              case rel => exact ⟨q + 1, bt, bu, bx, Bt, Bu, Bx, U2, _, by omega, by go_num, rfl, rfl, rfl, HE9.out, HX2.out, HK2.out, H.out⟩
              case measure => simp [intOf]; omega
            · obtain rfl : q = 20 := by omega
              obtain ⟨a, ha, hd, h⟩ := hw.lend6
              have hs2 : ∀ q' v, tv[q']? = some v → SeenK (Ph.join a U) q' v := fun q' v hv => (HS.out q' v hv).done hd (by omega) ha
              have HSJ := Lib.hid hs2
              have H := Lib.hid h
              repeat clear h
              clear hw ha hs2 hlt2 hq HS
              have HXJ := Lib.hid (HXU.out.trans (joinR6 hd))
              clear hd HXU
              go_wp2_with fail
              go_roundw
              case rel => exact ⟨k + 1, ct, cu, At, Au, Ph.join a U, tv, by omega, by go_num, by rw [show 20 * (k + 1) = 20 * k + 20 by omega], by rw [show 20 * (k + 1) = 20 * k + 20 by omega], by omega, HXJ.out, HSJ.out, by rw [show 20 * (k + 1) = 20 * k + 20 by omega]; exact H.out.ac (by simp only [Hp.all] <;> ac_rfl)⟩
              case measure => simp [intOf]; omega
        · obtain rfl : k = l.length := by omega
          have hlti : ¬ ((l.length : Nat) : Int) < ((l.length : Nat) : Int) := by omega
          rw [List.drop_eq_nil_of_le (by rw [markedK_len]; omega)] at hw
          have H := Lib.hid hw.f1.drop
          clear hw hlt hk
          go_wp2_with fail
          have h := H.out
          clear H
          generalize hN : 20 * l.length = N at *
          obtain ⟨x1, hx1, d1, h⟩ := (h.f1 : Own E _ (Hp.lst LST (.slice At N ct) tv :: Hp.ro U :: _)).lend6
          obtain ⟨x2, hx2, d2, h⟩ := (h.f1 : Own E _ (Hp.lst IT6 (.slice Au N cu) (whoL N) :: Hp.ro _ :: _)).lend6
          have hr1 : Rds (Ph.join x2 (Ph.join x1 U)) 1 (fun x => [x]) At N tv := (((lst_rds (f := id) (l := tv) (by rw [List.map_id]; exact hx1)).1).sub joinL6).sub (joinR6 d2)
          have hr2 : Rds (Ph.join x2 (Ph.join x1 U)) 1 (fun q : Nat => [Value.int .i64 ((q / 20 : Nat) : Int)]) Au N (List.range N) := ((lst_rds (f := fun q : Nat => Value.int .i64 ((q / 20 : Nat) : Int)) hx2).1).sub joinL6
          have hs1 : ∀ q v, tv[q]? = some v → SeenK (Ph.join x2 (Ph.join x1 U)) q v := fun q v hv => ((HS.out q v hv).sub (joinR6 d1)).sub (joinR6 d2)
          have HFINAL := Lib.hid (((HST.out.trans HXU.out).trans (joinR6 d1)).trans (joinR6 d2))
          clear hx1 hx2 d1 d2 HS HXU
          generalize Ph.join x2 (Ph.join x1 U) = V at *
          have HR1 := Lib.hid hr1
          have HR2 := Lib.hid hr2
          have HS1 := Lib.hid hs1
          have H := Lib.hid h
          have hNb : N ≤ 20000 := by omega
          repeat clear h
          clear hr1 hr2 hs1 hN htl
          go_loopw [10] (fun i wr => ∃ k : Nat, k ≤ N ∧ i = .int .i64 k ∧ Own E wr (Hp.ro V :: L)) (fun i _ => N - (intOf i).toNat)
          case atStart => exact ⟨0, by omega, rfl, H.out⟩
          case round =>
            obtain ⟨k, hk, rfl, hw⟩ := hrel
            clear H
            by_cases hlt : k < N
            · have hlti : (k : Int) < (N : Int) := by omega
              obtain ⟨v, g0, o0, hv, rfl, k0⟩ := HR1.out.get1 hlt
              obtain ⟨kk, g1, o1, hkk, rfl, k1⟩ := HR2.out.get1 hlt
              obtain rfl : kk = k := by
                rw [List.getElem?_range hlt] at hkk
                simpa using hkk.symm
              obtain ⟨Ar, m, cr, rfl, hm, hr⟩ := HS1.out kk v hv
              have k1c := k1 _ rfl
              obtain ⟨kq, hkq⟩ : ∃ kq, kq = kk / 20 := ⟨_, rfl⟩
              rw [← hkq] at hr k1c
              have hkb : kq ≤ 20000 := by omega
              clear hkq hkk k1
              have HC := Lib.hid (k0 _ rfl)
              have HC1 := Lib.hid k1c
              have HW := Lib.hid hw
              clear hw k0 hv k1c
              go_wp2_with fail
              go_loopw [11] (fun j wr => ∃ q : Nat, q ≤ m ∧ j = .int .i64 q ∧ Own E wr (Hp.ro V :: L)) (fun j _ => m - (intOf j).toNat)
              case atStart => exact ⟨0, by omega, rfl, HW.out⟩
              case round =>
                obtain ⟨q, hq, rfl, hw⟩ := hrel
                clear HW
                have hc0 := hw.rd HC.out
                by_cases hlt2 : q < m
                · have hlti2 : (q : Int) < m := by omega
                  obtain ⟨x, g2, o2, hx, rfl, k2⟩ := hr.get1 hlt2
                  obtain rfl : x = markS kq := by
                    rw [List.getElem?_replicate, if_pos hlt2] at hx
                    simpa using hx.symm
                  have K2 := Lib.hid (k2 _ rfl)
                  clear hx k2
                  have h := hw.drew
                  have HCC : Hid (∀ w', (∃ L', Own E w' (Hp.ro V :: L')) → w'.cell? ⟨g0, o0 + kk, none⟩ = some (.slice (some ⟨g2, o2, none⟩) m cr) ∧ w'.cell? ⟨g2, o2 + q, none⟩ = some (.string (markS kq)) ∧ w'.cell? ⟨g1, o1 + kk, none⟩ = some (.int .i64 kq)) := Lib.hid fun w' hw' => by
                    obtain ⟨_, hw'⟩ := hw'
                    exact ⟨hw'.rd HC.out, hw'.rd K2.out, hw'.rd HC1.out⟩
                  clear hw
                  go_wp2_with fail
                  refine wp_region_text [3, 6, 10] (fun w' => w'.cell? ⟨g0, o0 + kk, none⟩ = some (.slice (some ⟨g2, o2, none⟩) m cr) ∧ w'.cell? ⟨g2, o2 + q, none⟩ = some (.string (markS kq)) ∧ w'.cell? ⟨g1, o1 + kk, none⟩ = some (.int .i64 kq)) (by kernel_rfl) ?_ (fun hS => ?_)
                  · exact HCC.out _ ⟨_, h⟩
                  refine wpAnyG_pure (i := 0) (oi := ⟨some 77, _, _, _, _, _⟩) (v := ?_) rfl (by kernel_rfl) (by kernel_rfl) (by kernel_rfl) (by rfl) (fun _ _ _ h => h) (by rfl) ?_ ?_
                  rotate_left
                  · intro w
                    go_simp
                    first | done | with_reducible rfl
                  try simp only [Act.put, List.setIfInBounds_toArray, List.set_cons_zero, List.set_cons_succ]
                  refine wpAnyG_pure (i := 1) (oi := ⟨some 78, _, _, _, _, _⟩) (v := ?_) rfl (by kernel_rfl) (by kernel_rfl) (by kernel_rfl) (by rfl) (fun _ _ _ h => h) (by rfl) ?_ ?_
                  rotate_left
                  · intro w
                    go_simp
                    first | done | with_reducible rfl
                  try simp only [Act.put, List.setIfInBounds_toArray, List.set_cons_zero, List.set_cons_succ]
                  refine wpAnyG_pure (i := 2) (oi := ⟨some 79, _, _, _, _, _⟩) (v := ?_) rfl (by kernel_rfl) (by kernel_rfl) (by kernel_rfl) (by rfl) (fun _ _ _ h => h) (by rfl) ?_ ?_
                  rotate_left
                  · intro w
                    go_simp
                    first | done | with_reducible rfl
                  try simp only [Act.put, List.setIfInBounds_toArray, List.set_cons_zero, List.set_cons_succ]
                  refine wpAnyG_load (i := 3) (oi := ⟨some 80, _, _, _, _, _⟩) (v := ?_) rfl (by kernel_rfl) (by kernel_rfl) (by kernel_rfl) (by rfl) (fun _ _ _ h => h) (by rfl) ?_ (by assumption) ?_
                  rotate_left
                  · intro w hS
                    try dsimp only at hS
                    go_simp
                    first | done | with_reducible rfl
                  try simp only [Act.put, List.setIfInBounds_toArray, List.set_cons_zero, List.set_cons_succ]
                  refine wpAnyG_pure (i := 4) (oi := ⟨some 81, _, _, _, _, _⟩) (v := ?_) rfl (by kernel_rfl) (by kernel_rfl) (by kernel_rfl) (by rfl) (fun _ _ _ h => h) (by rfl) ?_ ?_
                  rotate_left
                  · intro w
                    go_simp
                    first | done | with_reducible rfl
                  try simp only [Act.put, List.setIfInBounds_toArray, List.set_cons_zero, List.set_cons_succ]
                  refine wpAnyG_pure (i := 5) (oi := ⟨some 82, _, _, _, _, _⟩) (v := ?_) rfl (by kernel_rfl) (by kernel_rfl) (by kernel_rfl) (by rfl) (fun _ _ _ h => h) (by rfl) ?_ ?_
                  rotate_left
                  · intro w
                    go_simp
                    first | done | with_reducible rfl
                  try simp only [Act.put, List.setIfInBounds_toArray, List.set_cons_zero, List.set_cons_succ]
                  refine wpAnyG_load (i := 6) (oi := ⟨some 83, _, _, _, _, _⟩) (v := ?_) rfl (by kernel_rfl) (by kernel_rfl) (by kernel_rfl) (by rfl) (fun _ _ _ h => h) (by rfl) ?_ (by assumption) ?_
                  rotate_left
                  · intro w hS
                    try dsimp only at hS
                    go_simp
                    first | done | with_reducible rfl
                  try simp only [Act.put, List.setIfInBounds_toArray, List.set_cons_zero, List.set_cons_succ]
                  refine wpAnyG_pure (i := 7) (oi := ⟨some 84, _, _, _, _, _⟩) (v := ?_) rfl (by kernel_rfl) (by kernel_rfl) (by kernel_rfl) (by rfl) (fun _ _ _ h => h) (by rfl) ?_ ?_
                  rotate_left
                  · intro w
                    go_simp
                    first | done | with_reducible rfl
                  try simp only [Act.put, List.setIfInBounds_toArray, List.set_cons_zero, List.set_cons_succ]
                  refine wpAnyG_pure (i := 8) (oi := ⟨some 85, _, _, _, _, _⟩) (v := ?_) rfl (by kernel_rfl) (by kernel_rfl) (by kernel_rfl) (by rfl) (fun _ _ _ h => h) (by rfl) ?_ ?_
                  rotate_left
                  · intro w
                    go_simp
                    first | done | with_reducible rfl
                  try simp only [Act.put, List.setIfInBounds_toArray, List.set_cons_zero, List.set_cons_succ]
                  refine wpAnyG_pure (i := 9) (oi := ⟨some 86, _, _, _, _, _⟩) (v := ?_) rfl (by kernel_rfl) (by kernel_rfl) (by kernel_rfl) (by rfl) (fun _ _ _ h => h) (by rfl) ?_ ?_
                  rotate_left
                  · intro w
                    go_simp
                    first | done | with_reducible rfl
                  try simp only [Act.put, List.setIfInBounds_toArray, List.set_cons_zero, List.set_cons_succ]
                  refine wpAnyG_load (i := 10) (oi := ⟨some 87, _, _, _, _, _⟩) (v := ?_) rfl (by kernel_rfl) (by kernel_rfl) (by kernel_rfl) (by rfl) (fun _ _ _ h => h) (by rfl) ?_ (by assumption) ?_
                  rotate_left
                  · intro w hS
                    try dsimp only at hS
                    go_simp
                    first | done | with_reducible rfl
                  try simp only [Act.put, List.setIfInBounds_toArray, List.set_cons_zero, List.set_cons_succ]
                  refine wpAnyG_keep (i := 11) (oi := ⟨some 88, _, _, _, _, _⟩) (by kernel_rfl) rfl (fun K hK => ?_)
                  rw [if_pos (by rfl)]
                  go_simp
                  refine (mark_any kq _ h).mono ?_
                  rintro e w5 ⟨rfl, h⟩
                  refine hK.out _ _ ?_ (fun hS => ?_)
                  · exact HCC.out _ ⟨_, h⟩
                  clear hK K
                  try simp only [Act.put, List.setIfInBounds_toArray, List.set_cons_zero, List.set_cons_succ]
                  refine wpAnyG_pure (i := 12) (oi := ⟨some 89, _, _, _, _, _⟩) (v := ?_) rfl (by kernel_rfl) (by kernel_rfl) (by kernel_rfl) (by rfl) (fun _ _ _ h => h) (by rfl) ?_ ?_
                  rotate_left
                  · intro w
                    go_simp
                    first | done | with_reducible rfl
                  try simp only [Act.put, List.setIfInBounds_toArray, List.set_cons_zero, List.set_cons_succ]
                  refine wpAnyG_done (by kernel_rfl) ?_ _
                  refine NoPanic.normal ?_
                  have H := Lib.hid h
                  repeat clear h
                  go_wp2_with fail
                  go_roundw
                  case rel => exact ⟨q + 1, by omega, by go_num, H.out⟩
                  case measure => simp [intOf]; omega
                · obtain rfl : q = m := by omega
                  have hlti2 : ¬ (q : Int) < q := by omega
                  have H := Lib.hid hw
                  clear hw hlt2 hq
                  go_wp2_with fail
                  go_roundw
                  case rel => exact ⟨kk + 1, by omega, by go_num, H.out⟩
                  case measure => simp [intOf]; omega
            · obtain rfl : k = N := by omega
              have hlti : ¬ (k : Int) < (k : Int) := by omega
              have H := Lib.hid hw
              clear hw hlt hk
              go_wp2_with fail
              go_ret
              exact ⟨rfl, H.out.shrink HFINAL.out⟩
end
end Go.Proofs.YtgedjkcpgagnbaaDoor
