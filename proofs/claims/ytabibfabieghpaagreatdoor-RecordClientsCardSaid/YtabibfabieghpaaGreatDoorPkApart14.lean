/- latchkeylaw14.apart (turned from layer 6). -/
import Derived.Test.YtabibfabieghpaaGreatDoorPkF2
import Derived.Test.YtabibfabieghpaaGreatDoorPkA
namespace Go.Proofs.YtabibfabieghpaaGreatDoor
open Go.RowKit
/-- All that lies in S lies in T. -/
def Ext (S T : Ph) : Prop := ∀ k o, S k = some o → T k = some o
theorem Ext.refl (S : Ph) : Ext S S := fun _ _ h => h
theorem Ext.trans {S T U : Ph} (h : Ext S T) (h2 : Ext T U) : Ext S U := fun k o hk => h2 k o (h k o hk)
abbrev LLST : TypeId := 67
theorem sst_info : (Tryz.prog.info? LST).map (fun i => (i.zero, i.size, i.bytes)) = some (some (.slice none 0 0), 1, 24) := by kernel_rfl
theorem llst_u : Tryz.prog.underlying LLST = some (.slice LST) := by kernel_rfl
/-- mark: of the n-th list. -/
def markS (i : Nat) : ByteArray := ⟨#[109, 97, 114, 107, UInt8.ofNat i]⟩
/-- A list that is kept. -/
structure Kl where
  v : Value
  xs : List ByteArray
def fmK (l : List Kl) : Hp := Hp.all (l.map fun r => Hp.lst ST r.v (r.xs.map Value.string))
theorem sep_e6 (A : Hp) : Hp.sep A (Hp.all []) = A := by
  funext h
  refine propext ⟨?_, fun hA => ⟨h, Ph.emp, Ph.apart_emp _, (Ph.join_emp h).symm, hA, rfl⟩⟩
  rintro ⟨a, b, _, rfl, hA, hb⟩
  have hb' : b = Ph.emp := hb
  rw [hb', Ph.join_emp]
  exact hA
theorem fmK_app (l : List Kl) (r : Kl) : fmK (l ++ [r]) = Hp.sep (fmK l) (Hp.lst ST r.v (r.xs.map Value.string)) := by
  unfold fmK
  rw [List.map_append, Hp.all_append]
  show Hp.sep _ (Hp.sep _ (Hp.all [])) = _
  rw [sep_e6]
theorem fmK_cons (r : Kl) (l : List Kl) : fmK (r :: l) = Hp.sep (Hp.lst ST r.v (r.xs.map Value.string)) (fmK l) := rfl
section
variable {E w : World} {L : List Hp} {S : Ph}
theorem Own.popK {r : Kl} {l : List Kl} (h : Own E w (fmK (r :: l) :: L)) : Own E w (Hp.lst ST r.v (r.xs.map Value.string) :: fmK l :: L) := h.ac (by simp only [Hp.all, fmK_cons] <;> ac_rfl)
theorem Own.pushK {r : Kl} {l : List Kl} (h : Own E w (Hp.lst ST r.v (r.xs.map Value.string) :: fmK l :: L)) : Own E w (fmK (l ++ [r]) :: L) := h.ac (by simp only [Hp.all, fmK_app] <;> ac_rfl)
theorem Own.nilK (h : Own E w L) : Own E w (fmK [] :: L) := Own.emp.2 h
theorem joinL6 {a S : Ph} : Ext a (Ph.join a S) := fun _ _ h => Ph.join_some h
theorem joinR6 {a S : Ph} (hd : Ph.apart a S) : Ext S (Ph.join a S) := fun k o h => by rw [Ph.join_comm hd]; exact Ph.join_some h
/-- A part is lent. -/
theorem Own.lend6 {A : Hp} (h : Own E w (A :: Hp.ro S :: L)) : ∃ a, A a ∧ Ph.apart a S ∧ Own E w (Hp.ro (Ph.join a S) :: L) := by
  obtain ⟨a, hA, h⟩ := h.opened
  obtain ⟨hm, hd⟩ := h.merge
  exact ⟨a, hA, hd, hm⟩
end
/- MARKING -/
def markedK (l : List Kl) : List Kl := l.mapIdx fun j r => ⟨r.v, List.replicate r.xs.length (markS j)⟩
theorem markedK_len (l : List Kl) : (markedK l).length = l.length := by simp [markedK]
theorem markedK_at {l : List Kl} {i : Nat} {r : Kl} (h : l[i]? = some r) : (markedK l)[i]? = some ⟨r.v, List.replicate r.xs.length (markS i)⟩ := by
  unfold markedK
  rw [List.getElem?_mapIdx, h]; rfl
theorem markedK_take {l : List Kl} {i : Nat} {r : Kl} (h : l[i]? = some r) : (markedK l).take (i + 1) = (markedK l).take i ++ [⟨r.v, List.replicate r.xs.length (markS i)⟩] := by
  rw [List.take_add_one, markedK_at h]; rfl
theorem drop_at {α : Type} {l : List α} {i : Nat} {x : α} (h : l[i]? = some x) : l.drop i = x :: l.drop (i + 1) := by
  obtain ⟨hl, rfl⟩ := List.getElem?_eq_some_iff.1 h
  exact List.drop_eq_getElem_cons hl
/-- Written over up to k. -/
def mkd {α : Type} (xs : List α) (k : Nat) (m : α) : List α := List.replicate k m ++ xs.drop k
theorem mkd_len {α : Type} {xs : List α} {k : Nat} {m : α} (h : k ≤ xs.length) : (mkd xs k m).length = xs.length := by
  unfold mkd; simp; omega
theorem mkd_set {α : Type} {xs : List α} {k : Nat} {m : α} (h : k < xs.length) : (mkd xs k m).set k m = mkd xs (k + 1) m := by
  unfold mkd
  rw [List.set_append_right _ _ (by simp), List.length_replicate, Nat.sub_self, List.drop_eq_getElem_cons h, List.set_cons_zero, List.replicate_succ']
  simp
theorem mkd_all {α : Type} {xs : List α} {k : Nat} {m : α} (h : k = xs.length) : mkd xs k m = List.replicate xs.length m := by
  subst h
  simp [mkd]
/- GROWING -/
/-- What was written down reads as marked. -/
def SeenK (S : Ph) (q : Nat) (v : Value) : Prop := ∃ A m c, v = .slice A m c ∧ m ≤ 8589934592 ∧ Rds S 1 enStr A m (List.replicate m (markS (q / 12)))
/-- .. or is a beginning of the list that grows, which lies at A and has m elements. -/
def KeptK (S : Ph) (i : Nat) (A : Option Addr) (m : Nat) (q : Nat) (v : Value) : Prop := SeenK S q v ∨ (q / 12 = i ∧ ∃ m' c, v = .slice A m' c ∧ m' ≤ m)
theorem SeenK.sub {S T : Ph} {q : Nat} {v : Value} (h : SeenK S q v) (hs : Ext S T) : SeenK T q v := by
  obtain ⟨A, m, c, e, hm, hr⟩ := h
  exact ⟨A, m, c, e, hm, hr.sub hs⟩
theorem KeptK.more {S : Ph} {i : Nat} {A : Option Addr} {m : Nat} {q : Nat} {v : Value} (h : KeptK S i A m q v) : KeptK S i A (m + 1) q v := by
  rcases h with h | ⟨e, m', c, e2, hle⟩
  · exact .inl h
  · exact .inr ⟨e, m', c, e2, by omega⟩
theorem KeptK.done {S a : Ph} {i : Nat} {A : Option Addr} {m c : Nat} {q : Nat} {v : Value} (h : KeptK S i A m q v) (hd : Ph.apart a S) (hm : m ≤ 8589934592) (ha : Hp.lst ST (.slice A m c) ((List.replicate m (markS i)).map Value.string) a) : SeenK (Ph.join a S) q v := by
  rcases h with h | ⟨e, m', c, rfl, hle⟩
  · exact h.sub (joinR6 hd)
  · refine ⟨A, m', c, rfl, by omega, ?_⟩
    have h2 : Rds (Ph.join a S) 1 (fun x => [Value.string x]) A m' ((List.replicate m (markS i)).take m') := (((lst_rds ha).1).pre m' hle).sub (T := Ph.join a S) joinL6
    rw [List.take_replicate, Nat.min_eq_left hle] at h2
    rw [e]; exact h2
section
variable {E : World} {S : Ph} {L : List Hp}
theorem seen_lst {A : Option Addr} {n c : Nat} {xs : List ByteArray} {M : List Hp} (hs : ∀ w, Own E w L → Own E w (Hp.lst ST (.slice A n c) (xs.map Value.string) :: M)) : Seen E L A n xs := fun w h => by
  obtain ⟨a, ha, h2⟩ := (hs w h).opened
  exact (lst_rds ha).1.sub fun k o hk => h2.sub k o hk
theorem fmK_in {l : List Kl} {a : Ph} (h : fmK l a) : ∀ r ∈ l, ∃ A c, r.v = .slice A r.xs.length c ∧ Rds a 1 enStr A r.xs.length r.xs := fun r hr => by
  obtain ⟨x, sx, px⟩ := all_mem h r hr
  obtain ⟨A, c, e, -⟩ := lst_slice px
  rw [List.length_map] at e
  rw [e] at px
  exact ⟨A, c, e, (lst_rds px).1.sub sx⟩
theorem fmK_val {w : World} {l : List Kl} (h : Own E w (fmK l :: L)) {r : Kl} (hr : r ∈ l) : ∃ A c, r.v = .slice A r.xs.length c := by
  obtain ⟨a, ha, -⟩ := h.opened
  obtain ⟨A, c, e, -⟩ := fmK_in ha r hr
  exact ⟨A, c, e⟩
theorem seen_fam {l : List Kl} {r : Kl} (hr : r ∈ l) {A : Option Addr} {c : Nat} (hv : r.v = .slice A r.xs.length c) {M : List Hp} (hs : ∀ w, Own E w L → Own E w (fmK l :: M)) : Seen E L A r.xs.length r.xs := fun w h => by
  obtain ⟨a, ha, h2⟩ := (hs w h).opened
  obtain ⟨A', c', e, h3⟩ := fmK_in ha r hr
  rw [hv] at e
  injection e with e1 e2 e3
  subst e1
  exact h3.sub fun k o hk => h2.sub k o hk
theorem u8_of (i : Nat) : ((UInt8.ofNat i).toNat : Int) = (i : Int) % 256 := by
  rw [UInt8.toNat_ofNat']; omega
theorem mark_cat (i : Nat) : (⟨#[109, 97, 114, 107]⟩ : ByteArray) ++ (⟨[UInt8.ofNat i].toArray⟩ : ByteArray) = markS i := by
  apply ByteArray.ext
  rw [ByteArray.data_append]; rfl
/-- The mark's byte as a text. -/
theorem mark_conv (i : Nat) {w : World} (h : Own E w L) : Own E (w.alloc (.cells #[.int .u8 ((i : Int) % 256)] U8)) L ∧ (convert BT ST (.slice (some ⟨w.heap.size, 0, none⟩) 1 1)).run Tryz.prog (w.alloc (.cells #[.int .u8 ((i : Int) % 256)] U8)) = .ok (.string ⟨[UInt8.ofNat i].toArray⟩) (w.alloc (.cells #[.int .u8 ((i : Int) % 256)] U8)) := by
  have h2 := h.alloc (.cells #[.int .u8 ((i : Int) % 256)] U8)
  have hrd : RdC (w.alloc (.cells #[.int .u8 ((i : Int) % 256)] U8)) (some ⟨w.heap.size, 0, none⟩) ([UInt8.ofNat i].map V8') := RdC.of_block h2.at_ _ (fun j u hu => by rw [← u8_of] ; simpa [V8'] using hu)
  exact ⟨h2.drop, sl_to_string (P := Tryz.prog) (src := BT) (dst := ST) (e := U8) (by kernel_rfl) (by kernel_rfl) (by kernel_rfl) (some ⟨w.heap.size, 0, none⟩) [UInt8.ofNat i] 1 1 rfl hrd⟩
set_option maxRecDepth 100000 in
set_option maxHeartbeats 16000000 in
theorem apart_any (A B : Option Addr) (n c d : Nat) (l ws : List Kl) (w : World) (hn : l.length = n) (hwn : ws.length = n) (hbt : n ≤ 1000) (hxt : ∀ r ∈ l, r.xs.length ≤ 4294967296) (hxs : ws.map Kl.xs = l.map Kl.xs) (h : Own E w (Hp.lst LST (.slice A n c) (l.map Kl.v) :: fmK l :: Hp.lst LST (.slice B n d) (ws.map Kl.v) :: fmK ws :: L)) :
    Calls Tryz.prog 39 #[.slice A n c, .slice B n d] w fun e w' => e = .returned (.bool true) ∧ Own E w' L := by
  have H := Lib.hid h
  have HX := Lib.hid hxt
  have HXS := Lib.hid hxs
  clear h hxt hxs
  go_enter Tryz.func39, Tryz.ntmps39
  go_wp2_with fail
  go_loopw [5] (fun i wr => ∃ k : Nat, k ≤ n ∧ i = .int .i64 k ∧ Own E wr (Hp.lst LST (.slice A n c) (l.map Kl.v) :: fmK l :: Hp.lst LST (.slice B n d) (ws.map Kl.v) :: fmK ws :: L)) (fun i _ => n - (intOf i).toNat)
  case atStart => exact ⟨0, by omega, rfl, H.out⟩
  case round =>
    obtain ⟨k, hk, rfl, hw⟩ := hrel
    clear H
    by_cases hlt : k < n
    · have hlti2 : (k : Int) < n := by omega
      obtain ⟨r, hr⟩ : ∃ r, l[k]? = some r := ⟨_, List.getElem?_eq_getElem (by omega)⟩
      obtain ⟨u, hu⟩ : ∃ u, ws[k]? = some u := ⟨_, List.getElem?_eq_getElem (by omega)⟩
      have hux : u.xs = r.xs := by
        have h2 : (ws.map Kl.xs)[k]? = (l.map Kl.xs)[k]? := by rw [HXS.out]
        rw [List.getElem?_map, List.getElem?_map, hr, hu] at h2
        injection h2
      have hmem := List.mem_of_getElem? hr
      have humem := List.mem_of_getElem? hu
      obtain ⟨Ar, cr, er⟩ := fmK_val hw.f1 hmem
      obtain ⟨Au, cu, eu⟩ := fmK_val hw.f3 humem
      obtain ⟨gl, e3, -, -⟩ := hw.lstCell k r.v (by rw [List.getElem?_map, hr]; rfl)
      obtain ⟨gu, e4, -, -⟩ := hw.f2.lstCell k u.v (by rw [List.getElem?_map, hu]; rfl)
      subst e3 e4
      have HC : Hid (∀ w', Own E w' (Hp.lst LST (.slice (some ⟨gl, 0, none⟩) n c) (l.map Kl.v) :: fmK l :: Hp.lst LST (.slice (some ⟨gu, 0, none⟩) n d) (ws.map Kl.v) :: fmK ws :: L) → w'.cell? ⟨gl, k, none⟩ = some (.slice Ar r.xs.length cr) ∧ w'.cell? ⟨gu, k, none⟩ = some (.slice Au r.xs.length cu)) := Lib.hid fun w' h' => by
        obtain ⟨g5, e5, c5, -⟩ := h'.lstCell k r.v (by rw [List.getElem?_map, hr]; rfl)
        obtain ⟨g6, e6, c6, -⟩ := h'.f2.lstCell k u.v (by rw [List.getElem?_map, hu]; rfl)
        injection e5 with e5
        injection e5 with e5
        injection e6 with e6
        injection e6 with e6
        subst e5 e6
        rw [er] at c5
        rw [eu, hux] at c6
        exact ⟨c5, c6⟩
      have hx8 := HX.out r hmem
      rw [hux] at eu
      have KS : Hid (∀ w', Own E w' (Hp.lst LST (.slice (some ⟨gl, 0, none⟩) n c) (l.map Kl.v) :: fmK l :: Hp.lst LST (.slice (some ⟨gu, 0, none⟩) n d) (ws.map Kl.v) :: fmK ws :: L) → Calls Tryz.prog 93 #[.slice Ar r.xs.length cr, .slice Au r.xs.length cu] w' fun e w2 => e = .returned (.bool true) ∧ Own E w2 (Hp.lst LST (.slice (some ⟨gl, 0, none⟩) n c) (l.map Kl.v) :: fmK l :: Hp.lst LST (.slice (some ⟨gu, 0, none⟩) n d) (ws.map Kl.v) :: fmK ws :: L)) := Lib.hid fun w' h' => by
        have s2 : Seen E (Hp.lst LST (.slice (some ⟨gl, 0, none⟩) n c) (l.map Kl.v) :: fmK l :: Hp.lst LST (.slice (some ⟨gu, 0, none⟩) n d) (ws.map Kl.v) :: fmK ws :: L) Au u.xs.length u.xs := seen_fam humem (by rw [hux]; exact eu) fun w h => h.f3
        rw [hux] at s2
        refine (same_any Ar Au r.xs.length cr r.xs.length cu r.xs r.xs w' (seen_fam hmem er fun w h => h.f1) s2 (by omega) h').mono ?_
        rintro e w2 ⟨rfl, h2⟩
        rw [decide_eq_true rfl]
        exact ⟨rfl, h2⟩
      have h := hw.drew
      clear hw hr hu hmem humem er eu hux hx8
      generalize r.xs.length = rl at *
      go_wp2_with fail
      refine wp_region_text [3, 7] (fun w' => w'.cell? ⟨gl, k, none⟩ = some (.slice Ar rl cr) ∧ w'.cell? ⟨gu, k, none⟩ = some (.slice Au rl cu)) (by kernel_rfl) ?_ (fun hS => ?_)
      · exact HC.out _ h
      refine wpAnyG_pure (i := 0) (oi := ⟨some 21, _, _, _, _, _⟩) (v := ?_) rfl (by kernel_rfl) (by kernel_rfl) (by kernel_rfl) (by rfl) (fun _ _ _ h => h) (by rfl) ?_ ?_
      rotate_left
      · intro w
        go_simp
        first | done | with_reducible rfl
      try simp only [Act.put, List.setIfInBounds_toArray, List.set_cons_zero, List.set_cons_succ]
      refine wpAnyG_pure (i := 1) (oi := ⟨some 22, _, _, _, _, _⟩) (v := ?_) rfl (by kernel_rfl) (by kernel_rfl) (by kernel_rfl) (by rfl) (fun _ _ _ h => h) (by rfl) ?_ ?_
      rotate_left
      · intro w
        go_simp
        first | done | with_reducible rfl
      try simp only [Act.put, List.setIfInBounds_toArray, List.set_cons_zero, List.set_cons_succ]
      refine wpAnyG_pure (i := 2) (oi := ⟨some 23, _, _, _, _, _⟩) (v := ?_) rfl (by kernel_rfl) (by kernel_rfl) (by kernel_rfl) (by rfl) (fun _ _ _ h => h) (by rfl) ?_ ?_
      rotate_left
      · intro w
        go_simp
        first | done | with_reducible rfl
      try simp only [Act.put, List.setIfInBounds_toArray, List.set_cons_zero, List.set_cons_succ]
      refine wpAnyG_load (i := 3) (oi := ⟨some 24, _, _, _, _, _⟩) (v := ?_) rfl (by kernel_rfl) (by kernel_rfl) (by kernel_rfl) (by rfl) (fun _ _ _ h => h) (by rfl) ?_ (by assumption) ?_
      rotate_left
      · intro w hS
        try dsimp only at hS
        go_simp
        first | done | with_reducible rfl
      try simp only [Act.put, List.setIfInBounds_toArray, List.set_cons_zero, List.set_cons_succ]
      refine wpAnyG_pure (i := 4) (oi := ⟨some 25, _, _, _, _, _⟩) (v := ?_) rfl (by kernel_rfl) (by kernel_rfl) (by kernel_rfl) (by rfl) (fun _ _ _ h => h) (by rfl) ?_ ?_
      rotate_left
      · intro w
        go_simp
        first | done | with_reducible rfl
      try simp only [Act.put, List.setIfInBounds_toArray, List.set_cons_zero, List.set_cons_succ]
      refine wpAnyG_pure (i := 5) (oi := ⟨some 26, _, _, _, _, _⟩) (v := ?_) rfl (by kernel_rfl) (by kernel_rfl) (by kernel_rfl) (by rfl) (fun _ _ _ h => h) (by rfl) ?_ ?_
      rotate_left
      · intro w
        go_simp
        first | done | with_reducible rfl
      try simp only [Act.put, List.setIfInBounds_toArray, List.set_cons_zero, List.set_cons_succ]
      refine wpAnyG_pure (i := 6) (oi := ⟨some 27, _, _, _, _, _⟩) (v := ?_) rfl (by kernel_rfl) (by kernel_rfl) (by kernel_rfl) (by rfl) (fun _ _ _ h => h) (by rfl) ?_ ?_
      rotate_left
      · intro w
        go_simp
        first | done | with_reducible rfl
      try simp only [Act.put, List.setIfInBounds_toArray, List.set_cons_zero, List.set_cons_succ]
      refine wpAnyG_load (i := 7) (oi := ⟨some 28, _, _, _, _, _⟩) (v := ?_) rfl (by kernel_rfl) (by kernel_rfl) (by kernel_rfl) (by rfl) (fun _ _ _ h => h) (by rfl) ?_ (by assumption) ?_
      rotate_left
      · intro w hS
        try dsimp only at hS
        go_simp
        first | done | with_reducible rfl
      try simp only [Act.put, List.setIfInBounds_toArray, List.set_cons_zero, List.set_cons_succ]
      refine wpAnyG_keep (i := 8) (oi := ⟨some 29, _, _, _, _, _⟩) (by kernel_rfl) rfl (fun K hK => ?_)
      rw [if_pos (by rfl)]
      go_simp
      refine (KS.out _ h).mono ?_
      rintro e w5 ⟨rfl, h⟩
      refine hK.out _ _ ?_ (fun hS => ?_)
      · exact HC.out _ h
      clear hK K
      try simp only [Act.put, List.setIfInBounds_toArray, List.set_cons_zero, List.set_cons_succ]
      refine wpAnyG_pure (i := 9) (oi := ⟨some 6, _, _, _, _, _⟩) (v := ?_) rfl (by kernel_rfl) (by kernel_rfl) (by kernel_rfl) (by rfl) (fun _ _ _ h => h) (by rfl) ?_ ?_
      rotate_left
      · intro w
        go_simp
        first | done | with_reducible rfl
      try simp only [Act.put, List.setIfInBounds_toArray, List.set_cons_zero, List.set_cons_succ]
      refine wpAnyG_done (by kernel_rfl) ?_ _
      refine NoPanic.normal ?_
      have H := Lib.hid h
      repeat clear h
      go_wp2_with fail
      go_roundw
      case rel => exact ⟨k + 1, by omega, by go_num, H.out⟩
      case measure => simp [intOf]; omega
    · obtain rfl : k = n := by omega
      have hlti : ¬ (k : Int) < k := by omega
      have hxt := HX.out
      subst hn
      obtain ⟨a, h1, ha, -⟩ := hw.opens
      have hr : Rds a 1 (fun r : Kl => [r.v]) A l.length l := (lst_rds ha).1
      have h : Own E wr (fmK ((markedK l).take 0) :: fmK (l.drop 0) :: Hp.ro a :: L) := Own.nilK ((h1.f2.drop.f2.drop).f1)
      clear HX HXS hw h1 ha hlt hk hwn
      generalize a = T at *
      have HR := Lib.hid hr
      have Hhxt := Lib.hid hxt
      have HST := Lib.hid (Ext.refl T)
      have H := Lib.hid h
      repeat clear h
      clear hr hxt
      go_wp2_with fail
      go_loopw [8] (fun i wr => ∃ k : Nat, k ≤ l.length ∧ i = .int .i64 k ∧ Own E wr (fmK ((markedK l).take k) :: fmK (l.drop k) :: Hp.ro T :: L)) (fun i _ => l.length - (intOf i).toNat)
      case atStart => exact ⟨0, by omega, rfl, H.out⟩
      case round =>
        obtain ⟨k, hk, rfl, hw⟩ := hrel
        clear H
        by_cases hlt : k < l.length
        · have hlti : (k : Int) < l.length := by omega
          obtain ⟨r, g0, o0, hr, rfl, k0⟩ := HR.out.get1 (k := k) (by omega)
          rw [drop_at hr] at hw
          have h := Own.popK hw.f1
          obtain ⟨Ar, cr, er, -⟩ := h.lstSlice
          rw [List.length_map] at er
          have k0c := k0 _ rfl
          clear k0
          rw [er] at k0c h
          have hlen := Hhxt.out r (List.mem_of_getElem? hr)
          have HTK := Lib.hid (markedK_take hr)
          rw [er] at HTK
          have HC := Lib.hid k0c
          have H := Lib.hid h
          obtain ⟨m, hm⟩ : ∃ m, m = r.xs.length := ⟨_, rfl⟩
          rw [← hm] at H HC HTK hlen
          obtain ⟨xs, hxs⟩ : ∃ xs, xs = r.xs := ⟨_, rfl⟩
          rw [← hxs] at H hm
          have HM := Lib.hid hm
          repeat clear h
          clear hw k0c er hr hm hxs
          go_wp2_with fail
          go_loopw [9] (fun j wr => ∃ q : Nat, q ≤ m ∧ j = .int .i64 q ∧ Own E wr (Hp.lst ST (.slice Ar m cr) ((mkd xs q (markS k)).map Value.string) :: fmK (l.drop (k + 1)) :: fmK ((markedK l).take k) :: Hp.ro T :: L)) (fun j _ => m - (intOf j).toNat)
          case atStart => exact ⟨0, by omega, rfl, H.out⟩
          case round =>
            obtain ⟨q, hq, rfl, hw⟩ := hrel
            clear H
            have hc1 := hw.f3.rd HC.out
            by_cases hlt2 : q < m
            · have hlti2 : (q : Int) < m := by omega
              have hml : ((mkd xs q (markS k)).map Value.string).length = m := by rw [List.length_map, mkd_len (by have := HM.out; omega), ← HM.out]
              obtain ⟨g2, rfl, -, -⟩ := hw.lstCell q _ (List.getElem?_eq_getElem (by omega))
              clear hml
              have h := hw.drew
              have HW := Lib.hid hw
              clear hw
              go_wp2_with fail
              have hmc := mark_cat k
              refine wp_region_text [3] (fun w' => w'.cell? ⟨g0, o0 + k, none⟩ = some (.slice (some ⟨g2, 0, none⟩) m cr)) (by kernel_rfl) ?_ (fun hS => ?_)
              · exact h.f3.rd HC.out
              refine wpAnyG_pure (i := 0) (oi := ⟨some 47, _, _, _, _, _⟩) (v := ?_) rfl (by kernel_rfl) (by kernel_rfl) (by kernel_rfl) (by rfl) (fun _ _ _ h => h) (by rfl) ?_ ?_
              rotate_left
              · intro w
                go_simp
                first | done | with_reducible rfl
              try simp only [Act.put, List.setIfInBounds_toArray, List.set_cons_zero, List.set_cons_succ]
              refine wpAnyG_pure (i := 1) (oi := ⟨some 48, _, _, _, _, _⟩) (v := ?_) rfl (by kernel_rfl) (by kernel_rfl) (by kernel_rfl) (by rfl) (fun _ _ _ h => h) (by rfl) ?_ ?_
              rotate_left
              · intro w
                go_simp
                first | done | with_reducible rfl
              try simp only [Act.put, List.setIfInBounds_toArray, List.set_cons_zero, List.set_cons_succ]
              refine wpAnyG_pure (i := 2) (oi := ⟨some 49, _, _, _, _, _⟩) (v := ?_) rfl (by kernel_rfl) (by kernel_rfl) (by kernel_rfl) (by rfl) (fun _ _ _ h => h) (by rfl) ?_ ?_
              rotate_left
              · intro w
                go_simp
                first | done | with_reducible rfl
              try simp only [Act.put, List.setIfInBounds_toArray, List.set_cons_zero, List.set_cons_succ]
              refine wpAnyG_load (i := 3) (oi := ⟨some 50, _, _, _, _, _⟩) (v := ?_) rfl (by kernel_rfl) (by kernel_rfl) (by kernel_rfl) (by rfl) (fun _ _ _ h => h) (by rfl) ?_ (by assumption) ?_
              rotate_left
              · intro w hS
                try dsimp only at hS
                go_simp
                first | done | with_reducible rfl
              try simp only [Act.put, List.setIfInBounds_toArray, List.set_cons_zero, List.set_cons_succ]
              refine wpAnyG_pure (i := 4) (oi := ⟨some 51, _, _, _, _, _⟩) (v := ?_) rfl (by kernel_rfl) (by kernel_rfl) (by kernel_rfl) (by rfl) (fun _ _ _ h => h) (by rfl) ?_ ?_
              rotate_left
              · intro w
                go_simp
                first | done | with_reducible rfl
              try simp only [Act.put, List.setIfInBounds_toArray, List.set_cons_zero, List.set_cons_succ]
              refine wpAnyG_pure (i := 5) (oi := ⟨some 52, _, _, _, _, _⟩) (v := ?_) rfl (by kernel_rfl) (by kernel_rfl) (by kernel_rfl) (by rfl) (fun _ _ _ h => h) (by rfl) ?_ ?_
              rotate_left
              · intro w
                go_simp
                first | done | with_reducible rfl
              try simp only [Act.put, List.setIfInBounds_toArray, List.set_cons_zero, List.set_cons_succ]
              refine wpAnyG_pure (i := 6) (oi := ⟨some 53, _, _, _, _, _⟩) (v := ?_) rfl (by kernel_rfl) (by kernel_rfl) (by kernel_rfl) (by rfl) (fun _ _ _ h => h) (by rfl) ?_ ?_
              rotate_left
              · intro w
                go_simp
                first | done | with_reducible rfl
              try simp only [Act.put, List.setIfInBounds_toArray, List.set_cons_zero, List.set_cons_succ]
              refine wpAnyG_keep (i := 7) (oi := ⟨some 54, _, _, _, _, _⟩) (by kernel_rfl) rfl (fun K hK => ?_)
              rw [if_pos (by rfl)]
              obtain ⟨h, hcv⟩ := mark_conv k h
              go_simp
              refine hK.out _ _ ?_ (fun hS => ?_)
              · exact h.f3.rd HC.out
              clear hK K
              try simp only [Act.put, List.setIfInBounds_toArray, List.set_cons_zero, List.set_cons_succ]
              refine wpAnyG_keep (i := 8) (oi := ⟨some 55, _, _, _, _, _⟩) (by kernel_rfl) rfl (fun K hK => ?_)
              rw [if_pos (by rfl)]
              refine wp_conv_run hcv rfl rfl ?_
              clear hcv
              generalize World.alloc _ _ = wa at h ⊢
              refine hK.out _ _ ?_ (fun hS => ?_)
              · exact h.f3.rd HC.out
              clear hK K
              try simp only [Act.put, List.setIfInBounds_toArray, List.set_cons_zero, List.set_cons_succ]
              refine wpAnyG_pure (i := 9) (oi := ⟨some 56, _, _, _, _, _⟩) (v := ?_) rfl (by kernel_rfl) (by kernel_rfl) (by kernel_rfl) (by rfl) (fun _ _ _ h => h) (by rfl) ?_ ?_
              rotate_left
              · intro w
                go_simp
                first | done | with_reducible rfl
              try simp only [Act.put, List.setIfInBounds_toArray, List.set_cons_zero, List.set_cons_succ]
              refine wpAnyG_pure (i := 10) (oi := ⟨some 57, _, _, _, _, _⟩) (v := ?_) rfl (by kernel_rfl) (by kernel_rfl) (by kernel_rfl) (by rfl) (fun _ _ _ h => h) (by rfl) ?_ ?_
              rotate_left
              · intro w
                go_simp
                first | done | with_reducible rfl
              try simp only [Act.put, List.setIfInBounds_toArray, List.set_cons_zero, List.set_cons_succ]
              refine wpAnyG_break (i := 11) (oi := ⟨none, _, _, _, _, _⟩) (by kernel_rfl) rfl (by kernel_rfl) (fun K hK => ?_)
              rw [if_pos (by rfl)]
              obtain ⟨g3, hA3, hcell, hfz, h⟩ := h.lstSet q hlt2 (.string (markS k))
              injection hA3 with hA3
              injection hA3 with hA3
              subst hA3
              generalize List.getD _ _ _ = z at hcell
              go_simp
              refine hK.out _ _ ?_
              clear hK K
              try simp only [Act.put]
              refine wpAnyG_done (by kernel_rfl) ?_ _
              refine NoPanic.normal ?_
              rw [← List.map_set, mkd_set (by have := HM.out; omega)] at h
              have H := Lib.hid h
              repeat clear h
              clear hc1
              go_wp2_with fail
              go_roundw
              case rel => exact ⟨q + 1, by omega, by go_num, H.out⟩
              case measure => simp [intOf]; omega
            · obtain rfl : q = m := by omega
              have hlti2 : ¬ (q : Int) < q := by omega
              rw [mkd_all HM.out] at hw
              rw [← HM.out] at hw
              have hw2 := Own.pushK (r := ⟨.slice Ar q cr, List.replicate q (markS k)⟩) hw.f2.f1
              rw [← HTK.out] at hw2
              have H := Lib.hid hw2
              clear hw hw2 hlt2 hq
              go_wp2_with fail
              go_roundw
              case rel => exact ⟨k + 1, by omega, by go_num, H.out.ac (by simp only [Hp.all] <;> ac_rfl)⟩
              case measure => simp [intOf]; omega
        · obtain rfl : k = l.length := by omega
          have hlti : ¬ ((l.length : Nat) : Int) < ((l.length : Nat) : Int) := by omega
          rw [List.drop_eq_nil_of_le (by omega), List.take_of_length_le (by rw [markedK_len]; omega)] at hw
          have H := Lib.hid hw.f1.drop
          clear hw hlt hk
          go_wp2_with fail
          have h : Own E _ (Hp.ro T :: fmK ((markedK l).drop 0) :: Hp.lst LST (.slice none (12 * 0) 0) [] :: L) := (show Own E _ (Hp.lst LST (.slice none (12 * 0) 0) [] :: fmK ((markedK l).drop 0) :: Hp.ro T :: L) from H.out.emptyLst LST none).ac (by simp only [Hp.all] <;> ac_rfl)
          clear H
          have H := Lib.hid h
          repeat clear h
          go_loopw [7, 10] (fun vt i wr => ∃ (k ct : Nat) (At : Option Addr) (U : Ph) (tv : List Value), k ≤ l.length ∧ i = .int .i64 k ∧ vt = .slice At (12 * k) ct ∧ tv.length = 12 * k ∧ Ext T U ∧ (∀ q v, tv[q]? = some v → SeenK U q v) ∧ Own E wr (Hp.ro U :: fmK ((markedK l).drop k) :: Hp.lst LST (.slice At (12 * k) ct) tv :: L)) (fun _ i _ => l.length - (intOf i).toNat)
          case atStart => exact ⟨0, 0, none, T, [], by omega, rfl, rfl, rfl, Ext.refl _, fun _ _ hv => by simp at hv, H.out⟩
          case round =>
            obtain ⟨k, ct, At, U, tv, hk, rfl, rfl, htl, hxu, hseen, hw⟩ := hrel
            clear H
            have HXU := Lib.hid hxu
            have HS := Lib.hid hseen
            clear hxu hseen
            by_cases hlt : k < l.length
            · have hlti : (k : Int) < l.length := by omega
              obtain ⟨r, g0, o0, hr, rfl, k0⟩ := HR.out.get1 (k := k) (by omega)
              have hmk := markedK_at hr
              rw [drop_at hmk] at hw
              have h := Own.popK hw.f1
              obtain ⟨Ar, cr, er, -⟩ := h.lstSlice
              rw [List.length_map, List.length_replicate] at er
              have er : r.v = .slice Ar r.xs.length cr := er
              have h : Own E wr (Hp.lst ST r.v ((List.replicate r.xs.length (markS k)).map Value.string) :: _) := h
              have hc1 := hw.rd (Ph.cell_sub HXU.out (k0 _ rfl))
              rw [er] at hc1 h
              have hlen := Hhxt.out r (List.mem_of_getElem? hr)
              have h : Own E wr (Hp.lst ST (.slice Ar r.xs.length cr) ((List.replicate r.xs.length (markS k)).map Value.string) :: Hp.ro U :: Hp.lst LST (.slice At (12 * k) ct) tv :: fmK ((markedK l).drop (k + 1)) :: L) := h.ac (by simp only [Hp.all] <;> ac_rfl)
              have H := Lib.hid h
              generalize r.xs.length = m at *
              repeat clear h
              clear hw k0 er hr hmk
              go_wp2_with fail
              clear hc1
              go_loopw [7, 11, 12] (fun vt vx j wr => ∃ (q ct cx : Nat) (At Ax : Option Addr) (U : Ph) (tv : List Value), q ≤ 12 ∧ j = .int .i64 q ∧ vt = .slice At (12 * k + q) ct ∧ vx = .slice Ax (m + q) cx ∧ tv.length = 12 * k + q ∧ Ext T U ∧ (∀ q' v, tv[q']? = some v → KeptK U k Ax (m + q) q' v) ∧ Own E wr (Hp.lst ST (.slice Ax (m + q) cx) ((List.replicate (m + q) (markS k)).map Value.string) :: Hp.ro U :: Hp.lst LST (.slice At (12 * k + q) ct) tv :: fmK ((markedK l).drop (k + 1)) :: L)) (fun _ _ j _ => 12 - (intOf j).toNat)
              case atStart => exact ⟨0, ct, cr, At, Ar, U, tv, by omega, rfl, rfl, rfl, htl, HXU.out, fun q v hv => .inl (HS.out q v hv), H.out⟩
              case round =>
                clear H HXU HS htl
                obtain ⟨q, ct, cx, At, Ax, U, tv, hq, rfl, rfl, rfl, htl, hxu, hkept, hw⟩ := hrel
                have HXU := Lib.hid hxu
                have HS := Lib.hid hkept
                clear hxu hkept
                by_cases hlt2 : q < 12
                · have hlti2 : (q : Int) < 12 := by omega
                  obtain ⟨v1, w1, hap1, h⟩ := lst_append_new (P := Tryz.prog) (t := LLST) (ty := LLST) llst_u sst_info (by rfl) hw.f2 #[.slice Ax (m + q) cx] 1 rfl (by simp [Value.oneCell']) (by unfold maxLen; omega) (by omega)
                  obtain ⟨Bt, bt, rfl, -⟩ := h.lstSlice
                  have e9 : (tv ++ (#[.slice Ax (m + q) cx] : Array Value).toList).length = 12 * k + (q + 1) := by rw [List.length_append, htl]; simp; omega
                  rw [e9] at h hap1
                  have HE9 := Lib.hid e9
                  have h : Own E w1 (Hp.lst ST (.slice Ax (m + q) cx) ((List.replicate (m + q) (markS k)).map Value.string) :: Hp.ro U :: Hp.lst LST (.slice Bt (12 * k + (q + 1)) bt) (tv ++ (#[.slice Ax (m + q) cx] : Array Value).toList) :: fmK ((markedK l).drop (k + 1)) :: L) := h.ac (by simp only [Hp.all] <;> ac_rfl)
                  obtain ⟨h, hcv⟩ := mark_conv k h
                  have hmc := mark_cat k
                  have hlr : ((List.replicate (m + q) (markS k)).map Value.string).length = m + q := by rw [List.length_map, List.length_replicate]
                  obtain ⟨Bx, bx, w3, hap3, hor⟩ := lst_append_one (P := Tryz.prog) (t := LST) (ty := LST) lst_u st_info (by rfl) h (.string (markS k)) rfl (by unfold maxLen; omega) (by omega)
                  have e8 : (List.replicate (m + q) (markS k)).map Value.string ++ [.string (markS k)] = (List.replicate (m + (q + 1)) (markS k)).map Value.string := by rw [← Nat.add_assoc, List.replicate_succ', List.map_append]; rfl
                  rw [alloc_size] at hap3
                  rw [e8, Nat.add_assoc] at hor
                  rw [Nat.add_assoc] at hap3
                  have hfin : ∃ U2, Ext T U2 ∧ (∀ q' v, (tv ++ (#[.slice Ax (m + q) cx] : Array Value).toList)[q']? = some v → KeptK U2 k Bx (m + (q + 1)) q' v) ∧ Own E w3 (Hp.lst ST (.slice Bx (m + (q + 1)) bx) ((List.replicate (m + (q + 1)) (markS k)).map Value.string) :: Hp.ro U2 :: Hp.lst LST (.slice Bt (12 * k + (q + 1)) bt) (tv ++ (#[.slice Ax (m + q) cx] : Array Value).toList) :: fmK ((markedK l).drop (k + 1)) :: L) := by
                    have hold : ∀ q' v, (tv ++ (#[.slice Ax (m + q) cx] : Array Value).toList)[q']? = some v → KeptK U k Ax (m + q) q' v := fun q' v hv => by
                      rcases Nat.lt_or_ge q' tv.length with h1 | h1
                      · rw [List.getElem?_append_left h1] at hv
                        exact HS.out q' v hv
                      · rw [List.getElem?_append_right h1] at hv
                        have hz : q' - tv.length = 0 := by
                          have := (List.getElem?_eq_some_iff.1 hv).1
                          simp at this; omega
                        rw [hz] at hv
                        have hv' : v = .slice Ax (m + q) cx := by simpa using hv.symm
                        exact .inr ⟨by omega, m + q, cx, hv', Nat.le_refl _⟩
                    rcases hor with ⟨rfl, ho⟩ | ho
                    · exact ⟨U, HXU.out, fun q' v hv => (hold q' v hv).more, ho⟩
                    · obtain ⟨a, ha, hd, ho3⟩ := (ho.f2.f2 : Own E w3 (Hp.lst ST (.slice Ax (m + q) cx) ((List.replicate (m + q) (markS k)).map Value.string) :: Hp.ro U :: _)).lend6
                      exact ⟨Ph.join a U, HXU.out.trans (joinR6 hd), fun q' v hv => .inl ((hold q' v hv).done hd (by omega) ha), ho3.ac (by simp only [Hp.all] <;> ac_rfl)⟩
                  obtain ⟨U2, hx2, hk2, h⟩ := hfin
                  have HX2 := Lib.hid hx2
                  have HK2 := Lib.hid hk2
                  have H := Lib.hid h
                  repeat clear h
                  clear hx2 hk2 hor HS HXU hlr e8 hw e9
                  go_wp2_with (first | (with_reducible refine at_slot (k := some 75) ?_; refine wpList_append_run (o := ⟨some 75, _, _, _, _, _⟩) hap1 rfl rfl rfl rfl ?_; clear hap1) | (with_reducible refine at_slot (k := some 80) ?_; refine wpList_conv_run (o := ⟨some 80, _, _, _, _, _⟩) hcv rfl rfl rfl ?_; clear hcv) | (with_reducible refine at_slot (k := some 83) ?_; refine wpList_append_run (o := ⟨some 83, _, _, _, _, _⟩) hap3 rfl rfl rfl rfl ?_; clear hap3))
                  go_roundw
                  case rel => exact ⟨q + 1, bt, bx, Bt, Bx, U2, _, by omega, by go_num, rfl, rfl, HE9.out, HX2.out, HK2.out, H.out⟩
                  case measure => simp [intOf]; omega
                · obtain rfl : q = 12 := by omega
                  obtain ⟨a, ha, hd, h⟩ := hw.lend6
                  have hs2 : ∀ q' v, tv[q']? = some v → SeenK (Ph.join a U) q' v := fun q' v hv => (HS.out q' v hv).done hd (by omega) ha
                  have HSJ := Lib.hid hs2
                  have H := Lib.hid h
                  repeat clear h
                  clear hw ha hs2 hlt2 hq HS
                  have HXJ := Lib.hid (HXU.out.trans (joinR6 hd))
                  clear hd HXU
                  go_wp2_with fail
                  go_roundw
                  case rel => exact ⟨k + 1, ct, At, Ph.join a U, tv, by omega, by go_num, by rw [show 12 * (k + 1) = 12 * k + 12 by omega], by omega, HXJ.out, HSJ.out, by rw [show 12 * (k + 1) = 12 * k + 12 by omega]; exact H.out.ac (by simp only [Hp.all] <;> ac_rfl)⟩
                  case measure => simp [intOf]; omega
            · obtain rfl : k = l.length := by omega
              have hlti : ¬ ((l.length : Nat) : Int) < ((l.length : Nat) : Int) := by omega
              rw [List.drop_eq_nil_of_le (by rw [markedK_len]; omega)] at hw
              have H := Lib.hid hw.f1.drop
              clear hw hlt hk
              go_wp2_with fail
              have h := H.out
              clear H
              generalize hN : 12 * l.length = N at *
              obtain ⟨x1, hx1, d1, h⟩ := (h.f1 : Own E _ (Hp.lst LST (.slice At N ct) tv :: Hp.ro U :: _)).lend6
              have hr1 : Rds (Ph.join x1 U) 1 (fun x => [x]) At N tv := ((lst_rds (f := id) (l := tv) (by rw [List.map_id]; exact hx1)).1).sub joinL6
              have hs1 : ∀ q v, tv[q]? = some v → SeenK (Ph.join x1 U) q v := fun q v hv => (HS.out q v hv).sub (joinR6 d1)
              clear hx1 d1 HS HXU
              generalize Ph.join x1 U = V at *
              have HR1 := Lib.hid hr1
              have HS1 := Lib.hid hs1
              have H := Lib.hid h
              have hNb : N ≤ 12000 := by omega
              repeat clear h
              clear hr1 hs1 hN htl
              go_loopw [13] (fun i wr => ∃ k : Nat, k ≤ N ∧ i = .int .i64 k ∧ Own E wr (Hp.ro V :: L)) (fun i _ => N - (intOf i).toNat)
              case atStart => exact ⟨0, by omega, rfl, H.out⟩
              case round =>
                obtain ⟨k, hk, rfl, hw⟩ := hrel
                clear H
                by_cases hlt : k < N
                · have hlti : (k : Int) < (N : Int) := by omega
                  obtain ⟨v, g0, o0, hv, rfl, k0⟩ := HR1.out.get1 hlt
                  obtain ⟨Ar, m, cr, rfl, hm, hr⟩ := HS1.out k v hv
                  obtain ⟨kq, hkq⟩ : ∃ kq, kq = k / 12 := ⟨_, rfl⟩
                  rw [← hkq] at hr
                  have hkb : kq ≤ 20000 := by omega
                  have hdv : (k : Int) / 12 = (kq : Int) := by omega
                  have hdv2 : Int.tdiv (k : Int) 12 = (kq : Int) := by rw [Int.tdiv_eq_ediv_of_nonneg (by omega)]; exact hdv
                  have hwq : IntKind.i64.wrap (kq : Int) = (kq : Int) := IntWalk.i64_in _ (by omega)
                  have hmc := mark_cat kq
                  clear hkq
                  have HC := Lib.hid (k0 _ rfl)
                  have HW := Lib.hid hw
                  clear hw k0 hv
                  go_wp2_with fail
                  go_loopw [14] (fun j wr => ∃ q : Nat, q ≤ m ∧ j = .int .i64 q ∧ Own E wr (Hp.ro V :: L)) (fun j _ => m - (intOf j).toNat)
                  case atStart => exact ⟨0, by omega, rfl, HW.out⟩
                  case round =>
                    obtain ⟨q, hq, rfl, hw⟩ := hrel
                    clear HW
                    have hc0 := hw.rd HC.out
                    by_cases hlt2 : q < m
                    · have hlti2 : (q : Int) < m := by omega
                      obtain ⟨x, g2, o2, hx, rfl, k2⟩ := hr.get1 hlt2
                      obtain rfl : x = markS kq := by
                        rw [List.getElem?_replicate, if_pos hlt2] at hx
                        simpa using hx.symm
                      have K2 := Lib.hid (k2 _ rfl)
                      clear hx k2
                      have h := hw.drew
                      have HCC : Hid (∀ w', (∃ L', Own E w' (Hp.ro V :: L')) → w'.cell? ⟨g0, o0 + k, none⟩ = some (.slice (some ⟨g2, o2, none⟩) m cr) ∧ w'.cell? ⟨g2, o2 + q, none⟩ = some (.string (markS kq))) := Lib.hid fun w' hw' => by
                        obtain ⟨_, hw'⟩ := hw'
                        exact ⟨hw'.rd HC.out, hw'.rd K2.out⟩
                      clear hw
                      go_wp2_with fail
                      refine wp_region_text [3, 6] (fun w' => w'.cell? ⟨g0, o0 + k, none⟩ = some (.slice (some ⟨g2, o2, none⟩) m cr) ∧ w'.cell? ⟨g2, o2 + q, none⟩ = some (.string (markS kq))) (by kernel_rfl) ?_ (fun hS => ?_)
                      · exact HCC.out _ ⟨_, h⟩
                      refine wpAnyG_pure (i := 0) (oi := ⟨some 99, _, _, _, _, _⟩) (v := ?_) rfl (by kernel_rfl) (by kernel_rfl) (by kernel_rfl) (by rfl) (fun _ _ _ h => h) (by rfl) ?_ ?_
                      rotate_left
                      · intro w
                        go_simp
                        first | done | with_reducible rfl
                      try simp only [Act.put, List.setIfInBounds_toArray, List.set_cons_zero, List.set_cons_succ]
                      refine wpAnyG_pure (i := 1) (oi := ⟨some 100, _, _, _, _, _⟩) (v := ?_) rfl (by kernel_rfl) (by kernel_rfl) (by kernel_rfl) (by rfl) (fun _ _ _ h => h) (by rfl) ?_ ?_
                      rotate_left
                      · intro w
                        go_simp
                        first | done | with_reducible rfl
                      try simp only [Act.put, List.setIfInBounds_toArray, List.set_cons_zero, List.set_cons_succ]
                      refine wpAnyG_pure (i := 2) (oi := ⟨some 101, _, _, _, _, _⟩) (v := ?_) rfl (by kernel_rfl) (by kernel_rfl) (by kernel_rfl) (by rfl) (fun _ _ _ h => h) (by rfl) ?_ ?_
                      rotate_left
                      · intro w
                        go_simp
                        first | done | with_reducible rfl
                      try simp only [Act.put, List.setIfInBounds_toArray, List.set_cons_zero, List.set_cons_succ]
                      refine wpAnyG_load (i := 3) (oi := ⟨some 102, _, _, _, _, _⟩) (v := ?_) rfl (by kernel_rfl) (by kernel_rfl) (by kernel_rfl) (by rfl) (fun _ _ _ h => h) (by rfl) ?_ (by assumption) ?_
                      rotate_left
                      · intro w hS
                        try dsimp only at hS
                        go_simp
                        first | done | with_reducible rfl
                      try simp only [Act.put, List.setIfInBounds_toArray, List.set_cons_zero, List.set_cons_succ]
                      refine wpAnyG_pure (i := 4) (oi := ⟨some 103, _, _, _, _, _⟩) (v := ?_) rfl (by kernel_rfl) (by kernel_rfl) (by kernel_rfl) (by rfl) (fun _ _ _ h => h) (by rfl) ?_ ?_
                      rotate_left
                      · intro w
                        go_simp
                        first | done | with_reducible rfl
                      try simp only [Act.put, List.setIfInBounds_toArray, List.set_cons_zero, List.set_cons_succ]
                      refine wpAnyG_pure (i := 5) (oi := ⟨some 104, _, _, _, _, _⟩) (v := ?_) rfl (by kernel_rfl) (by kernel_rfl) (by kernel_rfl) (by rfl) (fun _ _ _ h => h) (by rfl) ?_ ?_
                      rotate_left
                      · intro w
                        go_simp
                        first | done | with_reducible rfl
                      try simp only [Act.put, List.setIfInBounds_toArray, List.set_cons_zero, List.set_cons_succ]
                      refine wpAnyG_load (i := 6) (oi := ⟨some 105, _, _, _, _, _⟩) (v := ?_) rfl (by kernel_rfl) (by kernel_rfl) (by kernel_rfl) (by rfl) (fun _ _ _ h => h) (by rfl) ?_ (by assumption) ?_
                      rotate_left
                      · intro w hS
                        try dsimp only at hS
                        go_simp
                        first | done | with_reducible rfl
                      try simp only [Act.put, List.setIfInBounds_toArray, List.set_cons_zero, List.set_cons_succ]
                      refine wpAnyG_pure (i := 7) (oi := ⟨some 106, _, _, _, _, _⟩) (v := ?_) rfl (by kernel_rfl) (by kernel_rfl) (by kernel_rfl) (by rfl) (fun _ _ _ h => h) (by rfl) ?_ ?_
                      rotate_left
                      · intro w
                        go_simp
                        first | done | with_reducible rfl
                      try simp only [Act.put, List.setIfInBounds_toArray, List.set_cons_zero, List.set_cons_succ]
                      refine wpAnyG_pure (i := 8) (oi := ⟨some 107, _, _, _, _, _⟩) (v := ?_) rfl (by kernel_rfl) (by kernel_rfl) (by kernel_rfl) (by rfl) (fun _ _ _ h => h) (by rfl) ?_ ?_
                      rotate_left
                      · intro w
                        go_simp
                        first | done | with_reducible rfl
                      try simp only [Act.put, List.setIfInBounds_toArray, List.set_cons_zero, List.set_cons_succ]
                      refine wpAnyG_pure (i := 9) (oi := ⟨some 108, _, _, _, _, _⟩) (v := ?_) rfl (by kernel_rfl) (by kernel_rfl) (by kernel_rfl) (by rfl) (fun _ _ _ h => h) (by rfl) ?_ ?_
                      rotate_left
                      · intro w
                        go_simp
                        first | done | with_reducible rfl
                      try simp only [Act.put, List.setIfInBounds_toArray, List.set_cons_zero, List.set_cons_succ]
                      refine wpAnyG_keep (i := 10) (oi := ⟨some 109, _, _, _, _, _⟩) (by kernel_rfl) rfl (fun K hK => ?_)
                      rw [if_pos (by rfl)]
                      obtain ⟨h, hcv⟩ := mark_conv kq h
                      go_simp
                      refine hK.out _ _ ?_ (fun hS => ?_)
                      · exact HCC.out _ ⟨_, h⟩
                      clear hK K
                      try simp only [Act.put, List.setIfInBounds_toArray, List.set_cons_zero, List.set_cons_succ]
                      refine wpAnyG_keep (i := 11) (oi := ⟨some 110, _, _, _, _, _⟩) (by kernel_rfl) rfl (fun K hK => ?_)
                      rw [if_pos (by rfl)]
                      refine wp_conv_run hcv rfl rfl ?_
                      refine hK.out _ _ ?_ (fun hS => ?_)
                      · exact HCC.out _ ⟨_, h⟩
                      clear hK K
                      try simp only [Act.put, List.setIfInBounds_toArray, List.set_cons_zero, List.set_cons_succ]
                      refine wpAnyG_pure (i := 12) (oi := ⟨some 111, _, _, _, _, _⟩) (v := ?_) rfl (by kernel_rfl) (by kernel_rfl) (by kernel_rfl) (by rfl) (fun _ _ _ h => h) (by rfl) ?_ ?_
                      rotate_left
                      · intro w
                        go_simp
                        first | done | with_reducible rfl
                      try simp only [Act.put, List.setIfInBounds_toArray, List.set_cons_zero, List.set_cons_succ]
                      refine wpAnyG_pure (i := 13) (oi := ⟨some 112, _, _, _, _, _⟩) (v := ?_) rfl (by kernel_rfl) (by kernel_rfl) (by kernel_rfl) (by rfl) (fun _ _ _ h => h) (by rfl) ?_ ?_
                      rotate_left
                      · intro w
                        go_simp
                        first | done | with_reducible rfl
                      try simp only [Act.put, List.setIfInBounds_toArray, List.set_cons_zero, List.set_cons_succ]
                      refine wpAnyG_done (by kernel_rfl) ?_ _
                      refine NoPanic.normal ?_
                      have H := Lib.hid h
                      repeat clear h
                      go_wp2_with fail
                      go_roundw
                      case rel => exact ⟨q + 1, by omega, by go_num, H.out⟩
                      case measure => simp [intOf]; omega
                    · obtain rfl : q = m := by omega
                      have hlti2 : ¬ (q : Int) < q := by omega
                      have H := Lib.hid hw
                      clear hw hlt2 hq
                      go_wp2_with fail
                      go_roundw
                      case rel => exact ⟨k + 1, by omega, by go_num, H.out⟩
                      case measure => simp [intOf]; omega
                · obtain rfl : k = N := by omega
                  have hlti : ¬ (k : Int) < (k : Int) := by omega
                  have H := Lib.hid hw
                  clear hw hlt hk
                  go_wp2_with fail
                  go_ret
                  exact ⟨rfl, H.out.drop⟩
end
end Go.Proofs.YtabibfabieghpaaGreatDoor
