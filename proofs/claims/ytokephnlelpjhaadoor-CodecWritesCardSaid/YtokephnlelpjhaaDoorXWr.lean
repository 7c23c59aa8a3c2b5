/- The reference's Writer in every state: the same. -/
import Derived.Test.YtokephnlelpjhaaDoorWr
import Derived.Test.YtokephnlelpjhaaDoorXRd
namespace Go.Proofs.YtokephnlelpjhaaDoor
open Go.RowKit
abbrev XWT : TypeId := 74
def Hp.xwr (b : Nat) (l : List UInt8) (e : Int) : Hp := Hp.blk b XWT #[.string ⟨l.toArray⟩, .int .i64 e]
theorem byN_snoc (k n : Nat) : byN (k + 1) n = byN k (n / 256) ++ [UInt8.ofNat (n % 256)] := by
  induction k with
  | zero =>
    show [UInt8.ofNat (n / 256 ^ 0)] = [UInt8.ofNat (n % 256)]
    rw [Nat.pow_zero, Nat.div_one]
    congr 1
    refine UInt8.toNat_inj.1 ?_
    rw [UInt8.toNat_ofNat', UInt8.toNat_ofNat']
    omega
  | succ k ih =>
    show UInt8.ofNat (n / 256 ^ (k + 1)) :: byN (k + 1) n = UInt8.ofNat (n / 256 / 256 ^ k) :: byN k (n / 256) ++ [UInt8.ofNat (n % 256)]
    rw [ih, Nat.pow_succ, Nat.mul_comm, ← Nat.div_div_eq_div_mul]
    rfl
section
variable {E : World} {L : List Hp}
theorem xnewwriter_any (w : World) (h : Own E w L) :
    Calls Tryd.prog 11 #[] w fun e w' => ∃ b, e = .returned (.pointer (some ⟨b, 0, none⟩)) ∧ Own E w' (Hp.xwr b [] 0 :: L) := by
  go_enter Tryd.func11, Tryd.ntmps11
  go_wp2_with fail
  go_ret
  exact ⟨_, rfl, h.alloc (.cells #[.string ⟨#[]⟩, .int .i64 0] XWT)⟩
theorem xwrong_any (b : Nat) (l : List UInt8) (e c : Int) (w : World) (h : Own E w (Hp.xwr b l e :: L)) :
    Calls Tryd.prog 53 #[.pointer (some ⟨b, 0, none⟩), .int .i64 c] w fun ev w' => ev = .returned (.tuple #[]) ∧ Own E w' (Hp.xwr b l (orE e c) :: L) := by
  unfold Hp.xwr at h
  have c1 := h.cell 1
  have f1 := h.frozen 1
  by_cases he : e = 0
  · subst he
    rw [show orE 0 c = c from if_pos rfl]
    have H2 := Lib.hid (show Own E (w.setCell ⟨b, 1, none⟩ (.int .i64 c)) (Hp.xwr b l c :: L) from h.set 1 _)
    clear h
    go_enter Tryd.func53, Tryd.ntmps53
    go_wp2_with fail
    go_end0
    exact ⟨rfl, H2.out⟩
  · rw [show orE e c = e from if_neg he]
    have H2 := Lib.hid (show Own E w (Hp.xwr b l e :: L) from h)
    have hb : (e == 0) = false := by rw [beq_eq_false_iff_ne]; exact he
    clear h
    go_enter Tryd.func53, Tryd.ntmps53
    go_wp2_with fail
    go_end0
    exact ⟨rfl, H2.out⟩
theorem xfits_any (k : Nat) (n : Int) (w : World) (hk : k ≤ 8) (hn : n ≤ 9223372036854775807) :
    Calls Tryd.prog 54 #[.int .i64 k, .int .i64 n] w fun ev w' => w = w' ∧ ∃ bb : Bool, ev = .returned (.bool bb) ∧ (bb = true ↔ 0 ≤ n ∧ n.toNat < 256 ^ k) := by
  by_cases hn0 : n < 0
  · have HX : Hid ((false = true) ↔ 0 ≤ n ∧ n.toNat < 256 ^ k) := Lib.hid (by
      constructor
      · intro h
        cases h
      · intro h
        omega)
    go_enter Tryd.func54, Tryd.ntmps54
    go_wp2_with fail
    go_ret
    exact ⟨rfl, _, rfl, HX.out⟩
  obtain ⟨m, rfl⟩ : ∃ m : Nat, n = m := ⟨n.toNat, by omega⟩
  have hm : m ≤ 9223372036854775807 := by omega
  go_enter Tryd.func54, Tryd.ntmps54
  go_wp2_with fail
  go_loopw [1, 5] (fun v i wr => ∃ j : Nat, j ≤ k ∧ i = .int .i64 j ∧ v = .int .i64 (m / 256 ^ j : Nat) ∧ w = wr) (fun _ i _ => k - (intOf i).toNat)
  case atStart => exact ⟨0, by omega, rfl, by rw [Nat.pow_zero, Nat.div_one], rfl⟩
  case round =>
    obtain ⟨j, hj, rfl, rfl, hw⟩ := hrel
    have HW := Lib.hid hw
    clear hw
    by_cases hlt : j < k
    · have e1 : m / 256 ^ (j + 1) = m / 256 ^ j / 256 := by rw [Nat.pow_succ, ← Nat.div_div_eq_div_mul]
      have HE := Lib.hid e1
      have hle : m / 256 ^ j ≤ m := Nat.div_le_self _ _
      clear e1
      generalize m / 256 ^ j = z at *
      have i1 : (j : Int) < k := by omega
      go_wp2_with fail
      go_roundw
      case rel => exact ⟨j + 1, by omega, by go_num, by rw [HE.out]; go_num, HW.out⟩
      case measure => simp [intOf]; omega
    · obtain rfl : j = k := by omega
      have HX : Hid (m / 256 ^ j = 0 ↔ m < 256 ^ j) := Lib.hid (by rw [Nat.div_eq_zero_iff]; have := Nat.pow_pos (n := j) (show 0 < 256 by omega); omega)
      generalize m / 256 ^ j = z at *
      go_wp2_with fail
      go_ret
      exact ⟨HW.out, _, rfl, by simp; rw [← HX.out]⟩
set_option maxRecDepth 20000 in
set_option maxHeartbeats 1000000 in
theorem xby_any (k n : Nat) (w : World) (hk : k ≤ 8) (hn : n ≤ 9223372036854775807) (h : Own E w L) :
    Calls Tryd.prog 55 #[.int .i64 k, .int .i64 n] w fun ev w' => ev = .returned (.string ⟨(byN k n).toArray⟩) ∧ Own E w' L := by
  obtain ⟨w1, hmk, -, h1, -⟩ := sl_make (P := Tryd.prog) (T := BT) (e := U8) (z := .int .u8 0) (bytes := 1) (by kernel_rfl) u8_info rfl .i64 .i64 k k (by omega) (by omega) (by unfold maxLen; omega) h
  generalize w.heap.size = g at *
  have H1 := Lib.hid h1
  clear h h1
  go_enter Tryd.func55, Tryd.ntmps55
  go_wp2_with (with_reducible refine at_slot (k := some 8) ?_; refine wpList_make_run (o := ⟨some 8, _, _, _, _, _⟩) hmk rfl rfl rfl rfl ?_; clear hmk)
  go_loopw [1, 6] (fun v i wr => ∃ (j m : Nat) (o : List UInt8), j ≤ k ∧ o.length = k - j ∧ m ≤ 9223372036854775807 ∧ i = .int .i64 ((j : Int) - 1) ∧ v = .int .i64 m ∧ byN j m ++ o = byN k n ∧ Own E wr (Hp.row U8 1 (.slice (some ⟨g, 0, none⟩) k k) k (List.replicate j (.int .u8 0) ++ o.map V8') :: L)) (fun _ i _ => (intOf i + 1).toNat)
  case atStart => exact ⟨k, n, [], by omega, by simp, hn, rfl, rfl, by rw [List.append_nil], by simpa using H1.out⟩
  case round =>
    obtain ⟨j, m, o, hj, ho, hm, rfl, rfl, hby, hw⟩ := hrel
    clear H1
    by_cases hlt : 0 < j
    · obtain ⟨p, rfl⟩ : ∃ p, j = p + 1 := ⟨j - 1, by omega⟩
      have hpi : ((p + 1 : Nat) : Int) - 1 = (p : Int) := by omega
      rw [hpi]
      obtain ⟨_, e1, c1, f1, h2⟩ := hw.rowSet p (by omega) (V8' (UInt8.ofNat (m % 256)))
      injection e1 with e1
      injection e1 with e1
      subst e1
      have eset : (List.replicate (p + 1) (Value.int .u8 0) ++ o.map V8').set p (V8' (UInt8.ofNat (m % 256))) = List.replicate p (.int .u8 0) ++ (UInt8.ofNat (m % 256) :: o).map V8' := by
        rw [List.replicate_succ', List.append_assoc, List.set_append_right p _ (by rw [List.length_replicate]; exact Nat.le_refl _), List.length_replicate, Nat.sub_self]
        rfl
      rw [eset] at h2
      have hby2 : byN p (m / 256) ++ (UInt8.ofNat (m % 256) :: o) = byN k n := by
        rw [← hby, byN_snoc, List.append_assoc]
        rfl
      obtain ⟨y, hy⟩ : ∃ y, y = UInt8.ofNat (m % 256) := ⟨_, rfl⟩
      have hyn : IntKind.u8.wrap ((m : Int) % 256) = (y.toNat : Int) := by
        rw [IntKind.wrap_u8, hy, UInt8.toNat_ofNat']
        omega
      rw [← hy] at h2 hby2
      have H2 := Lib.hid h2
      have HB := Lib.hid hby2
      have p0 : (0 : Int) ≤ p := by omega
      have pk : (p : Int) < k := by omega
      clear hw h2 eset hby hby2 hy hpi
      go_wp2_with fail
      go_roundw
      case rel => exact ⟨p, m / 256, y :: o, by omega, by rw [List.length_cons]; omega, by omega, rfl, by go_num, HB.out, H2.out⟩
      case measure => simp [intOf]; try omega
    · obtain rfl : j = 0 := by omega
      have ho2 : o = byN k n := hby
      subst ho2
      have hst := hw.rowString (P := Tryd.prog) (src := BT) (dst := ST) (e := U8) (l := byN k n) (by kernel_rfl) (by kernel_rfl) (by kernel_rfl)
      have HW := Lib.hid hw.drop
      clear hw hby
      go_wp2_with (with_reducible refine at_slot (k := some 24) ?_; refine wpList_conv_run (o := ⟨some 24, _, _, _, _, _⟩) hst rfl rfl rfl ?_; clear hst)
      go_ret
      exact ⟨rfl, HW.out⟩
theorem cat_mk (l m : List UInt8) : (⟨l.toArray⟩ ++ ⟨m.toArray⟩ : ByteArray) = ⟨(l ++ m).toArray⟩ := by
  refine bytes_ext _ _ ?_
  rw [app_data]
theorem mk_size (l : List UInt8) : (⟨l.toArray⟩ : ByteArray).size = l.length := by show l.toArray.size = _; simp
theorem xwraw_any (b : Nat) (l : List UInt8) (e : Int) (s : ByteArray) (w : World) (hs : l.length + s.size ≤ 140737488355328) (h : Own E w (Hp.xwr b l e :: L)) :
    Calls Tryd.prog 18 #[.pointer (some ⟨b, 0, none⟩), .string s] w fun ev w' => ev = .returned (.tuple #[]) ∧ Own E w' (Hp.xwr b (l ++ s.data.toList) e :: L) := by
  unfold Hp.xwr at h
  obtain ⟨t, ht⟩ : ∃ t : ByteArray, t = ⟨l.toArray⟩ := ⟨_, rfl⟩
  have hts : t.size = l.length := by rw [ht, mk_size]
  have hc : ¬ 9223372036854775807 < t.size + s.size := by omega
  have hcat : t ++ s = ⟨(l ++ s.data.toList).toArray⟩ := by rw [ht, ← cat_mk]
  rw [← ht] at h
  have c0 := h.cell 0
  have f0 := h.frozen 0
  have H2 := Lib.hid (show Own E (w.setCell ⟨b, 0, none⟩ (.string (t ++ s))) (Hp.xwr b (l ++ s.data.toList) e :: L) from by
    have q := h.set 0 (.string (t ++ s))
    rw [hcat] at q ⊢
    exact q)
  clear h ht hts hcat
  go_enter Tryd.func18, Tryd.ntmps18
  go_wp2_with fail
  go_end0
  exact ⟨rfl, H2.out⟩
theorem xwdone_any (b : Nat) (l : List UInt8) (e : Int) (v : ByteArray) (f : Int) (w : World) (hr : wDone l e = (v, f)) (h : Own E w (Hp.xwr b l e :: L)) :
    Calls Tryd.prog 21 #[.pointer (some ⟨b, 0, none⟩)] w fun ev w' => ev = .returned (.tuple #[.string v, .int .i64 f]) ∧ Own E w' (Hp.xwr b l e :: L) := by
  have H := Lib.hid h
  unfold Hp.xwr at h
  have c0 := h.cell 0
  have c1 := h.cell 1
  unfold wDone at hr
  by_cases he : e ≠ 0
  · rw [if_pos he] at hr
    cases hr
    have hb : (e == 0) = false := by rw [beq_eq_false_iff_ne]; exact he
    have c1' : w.cell? ⟨b, 1, none⟩ = some (.int .i64 e) := c1
    clear h he
    go_enter Tryd.func21, Tryd.ntmps21
    go_wp2_with fail
    refine wp_region_text [3] (fun w' => w'.cell? ⟨b, 1, none⟩ = some (.int .i64 e)) (by kernel_rfl) ?_ (fun hS => ?_)
    · exact c1'
    refine wpAnyG_pure (i := 0) (oi := ⟨some 9, _, _, _, _, _⟩) (v := ?_) rfl (by kernel_rfl) (by kernel_rfl) (by kernel_rfl) (by rfl) (fun _ _ _ h => h) (by rfl) ?_ ?_
    rotate_left
    · intro w
      go_simp
      first | done | with_reducible rfl
    try simp only [Act.put, List.setIfInBounds_toArray, List.set_cons_zero, List.set_cons_succ]
    refine wpAnyG_pure (i := 1) (oi := ⟨some 10, _, _, _, _, _⟩) (v := ?_) rfl (by kernel_rfl) (by kernel_rfl) (by kernel_rfl) (by rfl) (fun _ _ _ h => h) (by rfl) ?_ ?_
    rotate_left
    · intro w
      go_simp
      first | done | with_reducible rfl
    try simp only [Act.put, List.setIfInBounds_toArray, List.set_cons_zero, List.set_cons_succ]
    refine wpAnyG_pure (i := 2) (oi := ⟨some 11, _, _, _, _, _⟩) (v := ?_) rfl (by kernel_rfl) (by kernel_rfl) (by kernel_rfl) (by rfl) (fun _ _ _ h => h) (by rfl) ?_ ?_
    rotate_left
    · intro w
      go_simp
      first | done | with_reducible rfl
    try simp only [Act.put, List.setIfInBounds_toArray, List.set_cons_zero, List.set_cons_succ]
    refine wpAnyG_load (i := 3) (oi := ⟨some 12, _, _, _, _, _⟩) (v := ?_) rfl (by kernel_rfl) (by kernel_rfl) (by kernel_rfl) (by rfl) (fun _ _ _ h => h) (by rfl) ?_ (by assumption) ?_
    rotate_left
    · intro w hS
      try dsimp only at hS
      go_simp
      first | done | with_reducible rfl
    try simp only [Act.put, List.setIfInBounds_toArray, List.set_cons_zero, List.set_cons_succ]
    refine wpAnyG_pure (i := 4) (oi := ⟨some 2, _, _, _, _, _⟩) (v := ?_) rfl (by kernel_rfl) (by kernel_rfl) (by kernel_rfl) (by rfl) (fun _ _ _ h => h) (by rfl) ?_ ?_
    rotate_left
    · intro w
      go_simp
      first | done | with_reducible rfl
    try simp only [Act.put, List.setIfInBounds_toArray, List.set_cons_zero, List.set_cons_succ]
    refine wpAnyG_pure (i := 5) (oi := ⟨some 3, _, _, _, _, _⟩) (v := ?_) rfl (by kernel_rfl) (by kernel_rfl) (by kernel_rfl) (by rfl) (fun _ _ _ h => h) (by rfl) ?_ ?_
    rotate_left
    · intro w
      go_simp
      first | done | with_reducible rfl
    try simp only [Act.put, List.setIfInBounds_toArray, List.set_cons_zero, List.set_cons_succ]
    refine wpAnyG_done (by kernel_rfl) ?_ _
    refine NoPanic.normal ?_
    go_wp2_with fail
    go_ret2
    exact ⟨rfl, H.out.drew⟩
  · rw [if_neg he] at hr
    cases hr
    obtain rfl : e = 0 := Decidable.not_not.1 he
    clear h he
    go_enter Tryd.func21, Tryd.ntmps21
    go_wp2_with fail
    go_ret2
    exact ⟨rfl, H.out⟩
set_option maxRecDepth 20000 in
set_option maxHeartbeats 2000000 in
theorem xwnum_any (b : Nat) (l : List UInt8) (e size n : Int) (l' : List UInt8) (e' : Int) (w : World) (hr : wNum l e size n = (l', e')) (hn : n ≤ 9223372036854775807) (hl : l.length + 8 ≤ 140737488355328) (h : Own E w (Hp.xwr b l e :: L)) :
    Calls Tryd.prog 14 #[.pointer (some ⟨b, 0, none⟩), .int .i64 size, .int .i64 n] w fun ev w' => ev = .returned (.tuple #[]) ∧ Own E w' (Hp.xwr b l' e' :: L) := by
  have H := Lib.hid h
  unfold wNum at hr
  by_cases h1 : size < 1
  · rw [if_pos (.inl h1)] at hr
    cases hr
    clear h
    go_enter Tryd.func14, Tryd.ntmps14
    go_wp2_with fail
    refine (xwrong_any b _ e 1 _ H.out).mono ?_
    rintro e w1 ⟨rfl, h2⟩
    go_wp2_with fail
    refine bodyPost_ret (results_none rfl _ _ _) rfl ?_
    exact ⟨rfl, h2⟩
  by_cases h8 : 8 < size
  · rw [if_pos (.inr h8)] at hr
    cases hr
    clear h
    go_enter Tryd.func14, Tryd.ntmps14
    go_wp2_with fail
    refine (xwrong_any b _ e 1 _ H.out).mono ?_
    rintro e w1 ⟨rfl, h2⟩
    go_wp2_with fail
    refine bodyPost_ret (results_none rfl _ _ _) rfl ?_
    exact ⟨rfl, h2⟩
  rw [if_neg (by omega)] at hr
  obtain ⟨k, rfl⟩ : ∃ k : Nat, size = k := ⟨size.toNat, by omega⟩
  rw [Int.toNat_natCast] at hr
  by_cases hbig : n < 0 ∨ 256 ^ k ≤ n.toNat
  · rw [if_pos hbig] at hr
    cases hr
    have HB := Lib.hid hbig
    clear h hbig
    go_enter Tryd.func14, Tryd.ntmps14
    go_wp2_with fail
    refine (xfits_any k n _ (by omega) hn).mono ?_
    rintro ev w1 ⟨rfl, bb, rfl, hbb⟩
    obtain rfl : bb = false := by
      cases bb with
      | false => rfl
      | true =>
        have q := hbb.1 rfl
        have q2 := HB.out
        omega
    clear hbb
    go_wp2_with fail
    refine (xwrong_any b _ e 20 _ H.out).mono ?_
    rintro e w1 ⟨rfl, h2⟩
    go_wp2_with fail
    refine bodyPost_ret (results_none rfl _ _ _) rfl ?_
    exact ⟨rfl, h2⟩
  · rw [if_neg hbig] at hr
    cases hr
    obtain ⟨m, rfl⟩ : ∃ m : Nat, n = m := ⟨n.toNat, by omega⟩
    rw [Int.toNat_natCast]
    have HB := Lib.hid hbig
    clear h hbig
    obtain ⟨t, ht⟩ : ∃ t : ByteArray, t = ⟨l.toArray⟩ := ⟨_, rfl⟩
    have hts : t.size = l.length := by rw [ht, mk_size]
    obtain ⟨y, hy⟩ : ∃ y : ByteArray, y = ⟨(byN k m).toArray⟩ := ⟨_, rfl⟩
    have hys : y.size = k := by rw [hy, mk_size, byN_len]
    have hc : ¬ 9223372036854775807 < t.size + y.size := by omega
    have HCAT := Lib.hid (show t ++ y = ⟨(l ++ byN k m).toArray⟩ by rw [ht, hy, cat_mk])
    have HT : Hid (∀ w', Own E w' (Hp.xwr b l e :: L) → Own E w' (Hp.blk b XWT #[.string t, .int .i64 e] :: L)) := Lib.hid fun w' hw => by rw [ht]; exact hw
    have HY := Lib.hid hy
    clear ht hts hy hys
    go_enter Tryd.func14, Tryd.ntmps14
    go_wp2_with fail
    refine (xfits_any k m _ (by omega) hn).mono ?_
    rintro ev w1 ⟨rfl, bb, rfl, hbb⟩
    obtain rfl : bb = true := by
      refine hbb.2 ?_
      have q2 := HB.out
      omega
    clear hbb
    go_wp2_with fail
    refine wp_region_text [4] (fun w' => w'.cell? ⟨b, 0, none⟩ = some (.string t)) (by kernel_rfl) ?_ (fun hS => ?_)
    · exact (HT.out _ H.out.drew).cell 0
    refine wpAnyG_pure (i := 0) (oi := ⟨some 22, _, _, _, _, _⟩) (v := ?_) rfl (by kernel_rfl) (by kernel_rfl) (by kernel_rfl) (by rfl) (fun _ _ _ h => h) (by rfl) ?_ ?_
    rotate_left
    · intro w
      go_simp
      first | done | with_reducible rfl
    try simp only [Act.put, List.setIfInBounds_toArray, List.set_cons_zero, List.set_cons_succ]
    refine wpAnyG_pure (i := 1) (oi := ⟨some 23, _, _, _, _, _⟩) (v := ?_) rfl (by kernel_rfl) (by kernel_rfl) (by kernel_rfl) (by rfl) (fun _ _ _ h => h) (by rfl) ?_ ?_
    rotate_left
    · intro w
      go_simp
      first | done | with_reducible rfl
    try simp only [Act.put, List.setIfInBounds_toArray, List.set_cons_zero, List.set_cons_succ]
    refine wpAnyG_pure (i := 2) (oi := ⟨some 24, _, _, _, _, _⟩) (v := ?_) rfl (by kernel_rfl) (by kernel_rfl) (by kernel_rfl) (by rfl) (fun _ _ _ h => h) (by rfl) ?_ ?_
    rotate_left
    · intro w
      go_simp
      first | done | with_reducible rfl
    try simp only [Act.put, List.setIfInBounds_toArray, List.set_cons_zero, List.set_cons_succ]
    refine wpAnyG_pure (i := 3) (oi := ⟨some 25, _, _, _, _, _⟩) (v := ?_) rfl (by kernel_rfl) (by kernel_rfl) (by kernel_rfl) (by rfl) (fun _ _ _ h => h) (by rfl) ?_ ?_
    rotate_left
    · intro w
      go_simp
      first | done | with_reducible rfl
    try simp only [Act.put, List.setIfInBounds_toArray, List.set_cons_zero, List.set_cons_succ]
    refine wpAnyG_load (i := 4) (oi := ⟨some 26, _, _, _, _, _⟩) (v := ?_) rfl (by kernel_rfl) (by kernel_rfl) (by kernel_rfl) (by rfl) (fun _ _ _ h => h) (by rfl) ?_ (by assumption) ?_
    rotate_left
    · intro w hS
      try dsimp only at hS
      go_simp
      first | done | with_reducible rfl
    try simp only [Act.put, List.setIfInBounds_toArray, List.set_cons_zero, List.set_cons_succ]
    refine wpAnyG_pure (i := 5) (oi := ⟨some 27, _, _, _, _, _⟩) (v := ?_) rfl (by kernel_rfl) (by kernel_rfl) (by kernel_rfl) (by rfl) (fun _ _ _ h => h) (by rfl) ?_ ?_
    rotate_left
    · intro w
      go_simp
      first | done | with_reducible rfl
    try simp only [Act.put, List.setIfInBounds_toArray, List.set_cons_zero, List.set_cons_succ]
    refine wpAnyG_pure (i := 6) (oi := ⟨some 28, _, _, _, _, _⟩) (v := ?_) rfl (by kernel_rfl) (by kernel_rfl) (by kernel_rfl) (by rfl) (fun _ _ _ h => h) (by rfl) ?_ ?_
    rotate_left
    · intro w
      go_simp
      first | done | with_reducible rfl
    try simp only [Act.put, List.setIfInBounds_toArray, List.set_cons_zero, List.set_cons_succ]
    refine wpAnyG_keep (i := 7) (oi := ⟨some 29, _, _, _, _, _⟩) (by kernel_rfl) rfl (fun K hK => ?_)
    rw [if_pos (by rfl)]
    go_simp
    refine (xby_any k m _ (by omega) (by omega) H.out.drew).mono ?_
    rintro ev w3 ⟨rfl, h2⟩
    rw [← HY.out]
    refine hK.out _ _ ?_ (fun hS => ?_)
    · exact (HT.out _ h2).cell 0
    clear hK K
    try simp only [Act.put, List.setIfInBounds_toArray, List.set_cons_zero, List.set_cons_succ]
    refine wpAnyG_pure (i := 8) (oi := ⟨some 30, _, _, _, _, _⟩) (v := ?_) rfl (by kernel_rfl) (by kernel_rfl) (by kernel_rfl) (by rfl) (fun _ _ _ h => h) (by rfl) ?_ ?_
    rotate_left
    · intro w
      go_simp
      first | done | with_reducible rfl
    try simp only [Act.put, List.setIfInBounds_toArray, List.set_cons_zero, List.set_cons_succ]
    refine wpAnyG_pure (i := 9) (oi := ⟨some 31, _, _, _, _, _⟩) (v := ?_) rfl (by kernel_rfl) (by kernel_rfl) (by kernel_rfl) (by rfl) (fun _ _ _ h => h) (by rfl) ?_ ?_
    rotate_left
    · intro w
      go_simp
      first | done | with_reducible rfl
    try simp only [Act.put, List.setIfInBounds_toArray, List.set_cons_zero, List.set_cons_succ]
    refine wpAnyG_pure (i := 10) (oi := ⟨some 32, _, _, _, _, _⟩) (v := ?_) rfl (by kernel_rfl) (by kernel_rfl) (by kernel_rfl) (by rfl) (fun _ _ _ h => h) (by rfl) ?_ ?_
    rotate_left
    · intro w
      go_simp
      first | done | with_reducible rfl
    try simp only [Act.put, List.setIfInBounds_toArray, List.set_cons_zero, List.set_cons_succ]
    refine wpAnyG_break (i := 11) (oi := ⟨none, _, _, _, _, _⟩) (by kernel_rfl) rfl (by kernel_rfl) (fun K hK => ?_)
    rw [if_pos (by rfl)]
    have d0 := (HT.out _ h2).cell 0
    have f0 := (HT.out _ h2).frozen 0
    go_simp
    refine hK.out _ _ ?_
    clear hK K
    try simp only [Act.put]
    refine wpAnyG_done (by kernel_rfl) ?_ _
    refine NoPanic.normal ?_
    have h3 := (HT.out _ h2).set 0 (.string (t ++ y))
    have H3 : Hid (Own E (w3.setCell ⟨b, 0, none⟩ (.string (t ++ y))) (Hp.xwr b (l ++ byN k m) e :: L)) := Lib.hid (by rw [HCAT.out] at h3 ⊢; exact h3)
    clear h2 h3
    go_wp2_with fail
    go_end0
    exact ⟨rfl, H3.out⟩
set_option maxRecDepth 20000 in
set_option maxHeartbeats 2000000 in
theorem xwtext_any (b : Nat) (l : List UInt8) (e most : Int) (s : ByteArray) (l' : List UInt8) (e' : Int) (w : World) (hr : wText l e most s = (l', e')) (hl : l.length + 70000 ≤ 140737488355328) (h : Own E w (Hp.xwr b l e :: L)) :
    Calls Tryd.prog 16 #[.pointer (some ⟨b, 0, none⟩), .int .i64 most, .string s] w fun ev w' => ev = .returned (.tuple #[]) ∧ Own E w' (Hp.xwr b l' e' :: L) := by
  have H := Lib.hid h
  unfold wText at hr
  by_cases h1 : most < 0
  · rw [if_pos (.inl h1)] at hr
    cases hr
    clear h
    go_enter Tryd.func16, Tryd.ntmps16
    go_wp2_with fail
    refine (xwrong_any b _ e 1 _ H.out).mono ?_
    rintro e w1 ⟨rfl, h2⟩
    go_wp2_with fail
    refine bodyPost_ret (results_none rfl _ _ _) rfl ?_
    exact ⟨rfl, h2⟩
  by_cases h8 : 65535 < most
  · rw [if_pos (.inr h8)] at hr
    cases hr
    clear h
    go_enter Tryd.func16, Tryd.ntmps16
    go_wp2_with fail
    refine (xwrong_any b _ e 1 _ H.out).mono ?_
    rintro e w1 ⟨rfl, h2⟩
    go_wp2_with fail
    refine bodyPost_ret (results_none rfl _ _ _) rfl ?_
    exact ⟨rfl, h2⟩
  rw [if_neg (by omega)] at hr
  by_cases hs : most < s.size
  · rw [if_pos hs] at hr
    cases hr
    clear h
    go_enter Tryd.func16, Tryd.ntmps16
    go_wp2_with fail
    refine (xwrong_any b _ e 21 _ H.out).mono ?_
    rintro e w1 ⟨rfl, h2⟩
    go_wp2_with fail
    refine bodyPost_ret (results_none rfl _ _ _) rfl ?_
    exact ⟨rfl, h2⟩
  rw [if_neg hs] at hr
  cases hr
  obtain ⟨k, rfl⟩ : ∃ k : Nat, most = k := ⟨most.toNat, by omega⟩
  rw [Int.toNat_natCast]
  have ha2 : 1 ≤ ahead k ∧ ahead k ≤ 2 := by unfold ahead; split <;> omega
  have hah := Lib.hid (xahead_any k)
  generalize ahead k = a at *
  obtain ⟨t, ht⟩ : ∃ t : ByteArray, t = ⟨l.toArray⟩ := ⟨_, rfl⟩
  have hts : t.size = l.length := by rw [ht, mk_size]
  obtain ⟨y, hy⟩ : ∃ y : ByteArray, y = ⟨(byN a s.size).toArray⟩ := ⟨_, rfl⟩
  have hys : y.size = a := by rw [hy, mk_size, byN_len]
  have hc : ¬ 9223372036854775807 < t.size + y.size := by omega
  have hc2 : ¬ 9223372036854775807 < t.size + y.size + s.size := by omega
  have hc3 : ¬ 9223372036854775807 < (t ++ y).size + s.size := by rw [ByteArray.size_append]; omega
  have HCAT := Lib.hid (show t ++ y ++ s = ⟨(l ++ byN a s.size ++ s.data.toList).toArray⟩ by
    refine bytes_ext _ _ ?_
    rw [app_data, app_data, ht, hy])
  have HT : Hid (∀ w', Own E w' (Hp.xwr b l e :: L) → Own E w' (Hp.blk b XWT #[.string t, .int .i64 e] :: L)) := Lib.hid fun w' hw => by rw [ht]; exact hw
  have HY := Lib.hid hy
  have HSS := Lib.hid (show s.size ≤ 65535 by omega)
  clear ht hts hy hys h
  go_enter Tryd.func16, Tryd.ntmps16
  go_wp2_with fail
  refine wp_region_text [4] (fun w' => w'.cell? ⟨b, 0, none⟩ = some (.string t)) (by kernel_rfl) ?_ (fun hS => ?_)
  · exact (HT.out _ H.out.drew).cell 0
  refine wpAnyG_pure (i := 0) (oi := ⟨some 20, _, _, _, _, _⟩) (v := ?_) rfl (by kernel_rfl) (by kernel_rfl) (by kernel_rfl) (by rfl) (fun _ _ _ h => h) (by rfl) ?_ ?_
  rotate_left
  · intro w
    go_simp
    first | done | with_reducible rfl
  try simp only [Act.put, List.setIfInBounds_toArray, List.set_cons_zero, List.set_cons_succ]
  refine wpAnyG_pure (i := 1) (oi := ⟨some 21, _, _, _, _, _⟩) (v := ?_) rfl (by kernel_rfl) (by kernel_rfl) (by kernel_rfl) (by rfl) (fun _ _ _ h => h) (by rfl) ?_ ?_
  rotate_left
  · intro w
    go_simp
    first | done | with_reducible rfl
  try simp only [Act.put, List.setIfInBounds_toArray, List.set_cons_zero, List.set_cons_succ]
  refine wpAnyG_pure (i := 2) (oi := ⟨some 22, _, _, _, _, _⟩) (v := ?_) rfl (by kernel_rfl) (by kernel_rfl) (by kernel_rfl) (by rfl) (fun _ _ _ h => h) (by rfl) ?_ ?_
  rotate_left
  · intro w
    go_simp
    first | done | with_reducible rfl
  try simp only [Act.put, List.setIfInBounds_toArray, List.set_cons_zero, List.set_cons_succ]
  refine wpAnyG_pure (i := 3) (oi := ⟨some 23, _, _, _, _, _⟩) (v := ?_) rfl (by kernel_rfl) (by kernel_rfl) (by kernel_rfl) (by rfl) (fun _ _ _ h => h) (by rfl) ?_ ?_
  rotate_left
  · intro w
    go_simp
    first | done | with_reducible rfl
  try simp only [Act.put, List.setIfInBounds_toArray, List.set_cons_zero, List.set_cons_succ]
  refine wpAnyG_load (i := 4) (oi := ⟨some 24, _, _, _, _, _⟩) (v := ?_) rfl (by kernel_rfl) (by kernel_rfl) (by kernel_rfl) (by rfl) (fun _ _ _ h => h) (by rfl) ?_ (by assumption) ?_
  rotate_left
  · intro w hS
    try dsimp only at hS
    go_simp
    first | done | with_reducible rfl
  try simp only [Act.put, List.setIfInBounds_toArray, List.set_cons_zero, List.set_cons_succ]
  refine wpAnyG_pure (i := 5) (oi := ⟨some 25, _, _, _, _, _⟩) (v := ?_) rfl (by kernel_rfl) (by kernel_rfl) (by kernel_rfl) (by rfl) (fun _ _ _ h => h) (by rfl) ?_ ?_
  rotate_left
  · intro w
    go_simp
    first | done | with_reducible rfl
  try simp only [Act.put, List.setIfInBounds_toArray, List.set_cons_zero, List.set_cons_succ]
  refine wpAnyG_pure (i := 7) (oi := ⟨some 27, _, _, _, _, _⟩) (v := ?_) rfl (by kernel_rfl) (by kernel_rfl) (by kernel_rfl) (by rfl) (fun _ _ _ h => h) (by rfl) ?_ ?_
  rotate_left
  · intro w
    go_simp
    first | done | with_reducible rfl
  try simp only [Act.put, List.setIfInBounds_toArray, List.set_cons_zero, List.set_cons_succ]
  refine wpAnyG_pure (i := 8) (oi := ⟨some 28, _, _, _, _, _⟩) (v := ?_) rfl (by kernel_rfl) (by kernel_rfl) (by kernel_rfl) (by rfl) (fun _ _ _ h => h) (by rfl) ?_ ?_
  rotate_left
  · intro w
    go_simp
    first | done | with_reducible rfl
  try simp only [Act.put, List.setIfInBounds_toArray, List.set_cons_zero, List.set_cons_succ]
  refine wpAnyG_pure (i := 11) (oi := ⟨some 31, _, _, _, _, _⟩) (v := ?_) rfl (by kernel_rfl) (by kernel_rfl) (by kernel_rfl) (by rfl) (fun _ _ _ h => h) (by rfl) ?_ ?_
  rotate_left
  · intro w
    go_simp
    first | done | with_reducible rfl
  try simp only [Act.put, List.setIfInBounds_toArray, List.set_cons_zero, List.set_cons_succ]
  refine wpAnyG_keep (i := 6) (oi := ⟨some 26, _, _, _, _, _⟩) (by kernel_rfl) rfl (fun K hK => ?_)
  rw [if_pos (by rfl)]
  go_simp
  refine (hah.out _).mono ?_
  rintro ev w3 ⟨rfl, rfl⟩
  refine hK.out _ _ ?_ (fun hS => ?_)
  · exact (HT.out _ H.out.drew).cell 0
  clear hK K
  try simp only [Act.put, List.setIfInBounds_toArray, List.set_cons_zero, List.set_cons_succ]
  refine wpAnyG_keep (i := 9) (oi := ⟨some 29, _, _, _, _, _⟩) (by kernel_rfl) rfl (fun K hK => ?_)
  rw [if_pos (by rfl)]
  go_simp
  refine (xby_any a s.size _ (by omega) (by have := HSS.out; omega) H.out.drew).mono ?_
  rintro ev w3 ⟨rfl, h2⟩
  rw [← HY.out]
  refine hK.out _ _ ?_ (fun hS => ?_)
  · exact (HT.out _ h2).cell 0
  clear hK K
  try simp only [Act.put, List.setIfInBounds_toArray, List.set_cons_zero, List.set_cons_succ]
  refine wpAnyG_pure (i := 10) (oi := ⟨some 30, _, _, _, _, _⟩) (v := ?_) rfl (by kernel_rfl) (by kernel_rfl) (by kernel_rfl) (by rfl) (fun _ _ _ h => h) (by rfl) ?_ ?_
  rotate_left
  · intro w
    go_simp
    first | done | with_reducible rfl
  try simp only [Act.put, List.setIfInBounds_toArray, List.set_cons_zero, List.set_cons_succ]
  refine wpAnyG_pure (i := 12) (oi := ⟨some 32, _, _, _, _, _⟩) (v := ?_) rfl (by kernel_rfl) (by kernel_rfl) (by kernel_rfl) (by rfl) (fun _ _ _ h => h) (by rfl) ?_ ?_
  rotate_left
  · intro w
    go_simp
    first | done | with_reducible rfl
  try simp only [Act.put, List.setIfInBounds_toArray, List.set_cons_zero, List.set_cons_succ]
  refine wpAnyG_pure (i := 13) (oi := ⟨some 33, _, _, _, _, _⟩) (v := ?_) rfl (by kernel_rfl) (by kernel_rfl) (by kernel_rfl) (by rfl) (fun _ _ _ h => h) (by rfl) ?_ ?_
  rotate_left
  · intro w
    go_simp
    first | done | with_reducible rfl
  try simp only [Act.put, List.setIfInBounds_toArray, List.set_cons_zero, List.set_cons_succ]
  refine wpAnyG_pure (i := 14) (oi := ⟨some 34, _, _, _, _, _⟩) (v := ?_) rfl (by kernel_rfl) (by kernel_rfl) (by kernel_rfl) (by rfl) (fun _ _ _ h => h) (by rfl) ?_ ?_
  rotate_left
  · intro w
    go_simp
    first | done | with_reducible rfl
  try simp only [Act.put, List.setIfInBounds_toArray, List.set_cons_zero, List.set_cons_succ]
  refine wpAnyG_break (i := 15) (oi := ⟨none, _, _, _, _, _⟩) (by kernel_rfl) rfl (by kernel_rfl) (fun K hK => ?_)
  rw [if_pos (by rfl)]
  have d0 := (HT.out _ h2).cell 0
  have f0 := (HT.out _ h2).frozen 0
  go_simp
  refine hK.out _ _ ?_
  clear hK K
  try simp only [Act.put]
  refine wpAnyG_done (by kernel_rfl) ?_ _
  refine NoPanic.normal ?_
  have h3 := (HT.out _ h2).set 0 (.string (t ++ y ++ s))
  have H3 : Hid (Own E (w3.setCell ⟨b, 0, none⟩ (.string (t ++ y ++ s))) (Hp.xwr b (l ++ byN a s.size ++ s.data.toList) e :: L)) := Lib.hid (by rw [HCAT.out] at h3 ⊢; exact h3)
  clear h2 h3
  go_wp2_with fail
  go_end0
  exact ⟨rfl, H3.out⟩
end
end Go.Proofs.YtokephnlelpjhaaDoor
