/- The reference's ParseIndex of any pair (printed by gen_xidx2.py). -/
import Derived.Test.YtabibfabieghpaaGreatDoorPkz0
import Derived.Test.YtabibfabieghpaaGreatDoorPkz15
namespace Go.Proofs.YtabibfabieghpaaGreatDoor
open Go.RowKit
theorem idx_sizes {k v : ByteArray} {t : ByteArray × Int × Int × ByteArray} (h : IdxR k v t) : 10 ≤ k.size := by
  rcases h with ⟨a, b, c, -, -, -, rfl, -, -⟩ | ⟨fin, id, -, -, rfl, -, -⟩ | ⟨su, id, hn, -, rfl, -, -⟩
  · unfold ofK; rw [fl_size, List.length_cons, List.length_append, byN_len, byN_len]; omega
  · unfold exK; rw [fl_size, List.length_cons, List.length_append, byN_len, byN_len]; omega
  · unfold suK; rw [fl_size, List.length_cons, List.length_append, List.length_cons, byN_len]; omega
theorem xnum_inv {s : ByteArray} {z : Int} (h : xnumV s = z) (hz : 0 ≤ z) : s.data.toList = byN s.size z.toNat := by
  unfold xnumV at h
  split at h
  · omega
  · have e := iv_num s.data.toList
    rw [show s.data.toList.length = s.size from rfl] at e
    rw [← h, Int.toNat_natCast]
    exact e.symm
theorem idx_head {k v : ByteArray} {t : ByteArray × Int × Int × ByteArray} {x : UInt8} {R : List UInt8} (h : IdxR k v t) (hk : k = ⟨(x :: R).toArray⟩) : x = 109 ∨ x = 120 ∨ x = 115 := by
  rcases h with ⟨a, b, c, -, -, -, e, -, -⟩ | ⟨fin, id, -, -, e, -, -⟩ | ⟨su, id, hn, -, e, -, -⟩
  · have := congrArg (fun y => y.data.toList.head?) (hk.symm.trans e)
    exact .inl (by simpa [ofK] using this)
  · have := congrArg (fun y => y.data.toList.head?) (hk.symm.trans e)
    exact .inr (.inl (by simpa [exK] using this))
  · have := congrArg (fun y => y.data.toList.head?) (hk.symm.trans e)
    exact .inr (.inr (by simpa [suK] using this))
section
variable {E : World} {L : List Hp}
set_option maxHeartbeats 2000000 in
theorem xidx_short (k v : ByteArray) (w : World) (hk : k.size < 10) (h : Own E w L) : Calls Tryz.prog 55 #[.agg #[.string k, .string v]] w fun e w' => ((∃ t, IdxR k v t ∧ e = .returned (.tuple #[.string t.1, .int .i64 t.2.1, .int .i64 t.2.2.1, .string t.2.2.2, .int .i64 0])) ∨ ((∀ t, ¬ IdxR k v t) ∧ e = .returned (.tuple #[.string ⟨#[]⟩, .int .i64 0, .int .i64 0, .string ⟨#[]⟩, .int .i64 141]))) ∧ Own E w' L := by
  have HN : Hid (∀ t, ¬ IdxR k v t) := Lib.hid fun t ht => by have := idx_sizes ht; omega
  have H1 := Lib.hid (h.alloc (.cells #[.string k, .string v] ITT))
  have i0 : (k.size : Int) < 10 := by omega
  clear h hk
  go_enter Tryz.func55, Tryz.ntmps55
  go_wp2_with fail
  (try simp only [Exit.inBlock, Exit.then])
  refine bodyPost_ret (results_tmp5 rfl _ _ _) rfl ?_
  exact ⟨.inr ⟨HN.out, rfl⟩, H1.out.drop⟩
set_option maxRecDepth 20000 in
set_option maxHeartbeats 8000000 in
theorem xidx_other (t : UInt8) (R : List UInt8) (v : ByteArray) (w : World) (hk : 10 ≤ (⟨(t :: R).toArray⟩ : ByteArray).size) (hk2 : (⟨(t :: R).toArray⟩ : ByteArray).size ≤ 1000000000000000) (_hv : v.size ≤ 1000000000000000) (ht1 : t ≠ 109) (ht2 : t ≠ 120) (ht3 : t ≠ 115) (h : Own E w L) : Calls Tryz.prog 55 #[.agg #[.string ⟨(t :: R).toArray⟩, .string v]] w fun e w' => ((∃ t1, IdxR ⟨(t :: R).toArray⟩ v t1 ∧ e = .returned (.tuple #[.string t1.1, .int .i64 t1.2.1, .int .i64 t1.2.2.1, .string t1.2.2.2, .int .i64 0])) ∨ ((∀ t1, ¬ IdxR ⟨(t :: R).toArray⟩ v t1) ∧ e = .returned (.tuple #[.string ⟨#[]⟩, .int .i64 0, .int .i64 0, .string ⟨#[]⟩, .int .i64 141]))) ∧ Own E w' L := by
  obtain ⟨k, hkk⟩ : ∃ k : ByteArray, k = ⟨(t :: R).toArray⟩ := ⟨_, rfl⟩
  rw [← hkk]
  rw [← hkk] at hk hk2
  obtain ⟨m, hm⟩ : ∃ m : Nat, k.size = m + 8 := ⟨k.size - 8, by omega⟩
  obtain ⟨s1, hs1⟩ : ∃ s, k.extract m k.size = s := ⟨_, rfl⟩
  obtain ⟨la, hla⟩ : ∃ a, a = xnumV s1 := ⟨_, rfl⟩
  have z1 : s1.size ≤ 1000000000000000 := by rw [← hs1, ByteArray.size_extract]; omega
  have m8 : (k.size : Int) - 8 = (m : Int) := by omega
  have w8 : wrap64 (m : Int) = (m : Int) := wrap_small m (by omega)
  have i0 : ¬ (k.size : Int) < 10 := by omega
  have i1 : (m : Int) ≤ (k.size : Int) := by omega
  have i2 : (0 : Int) ≤ (m : Int) := by omega
  have hix : ∀ W, (Instr.index ST (.string k) (.int .i64 0)).run Tryz.prog W = .ok (.int .u8 t.toNat) W := fun W => by
    rw [byte_index k 0 0 rfl (by omega) W, hkk]
    rfl
  have h1 := h.alloc (.cells #[.string k, .string v] ITT)
  have p0 : _ = some (Value.string k) := (h1.cell 0).trans rfl
  have K1 : Hid (∀ (wq : World) (M : List Hp), Own E wq M → Calls Tryz.prog 110 #[.string s1] wq fun e w' => e = .returned (.int .i64 la) ∧ Own E w' M) := Lib.hid fun wq M h => by rw [hla]; exact xnumber_any s1 wq z1 h
  have KI := fun w => xid_any la w
  have HC : Hid (∀ w', Own E w' (Hp.blk w.heap.size ITT #[.string k, .string v] :: L) → w'.cell? ⟨w.heap.size, 0, none⟩ = some (.string k) ∧ w'.cell? ⟨w.heap.size, 1, none⟩ = some (.string v) ∧ w'.rangeAt w.heap.size 0 [.string k, .string v]) := Lib.hid fun w' h => ⟨(h.cell 0).trans rfl, (h.cell 1).trans rfl, h.range 0 [.string k, .string v] (fun jj u hu => by simpa using hu)⟩
  obtain ⟨ddI, hdI, hrowI⟩ := itt_u
  have H1 := Lib.hid h1
  have HN : Hid (∀ t1, ¬ IdxR k v t1) := Lib.hid fun t1 ht => by
    rcases idx_head ht hkk with h | h | h
    · exact ht1 h
    · exact ht2 h
    · exact ht3 h
  have n1 : ¬ (t.toNat : Int) = 109 := fun e => ht1 (UInt8.toNat_inj.1 (by show t.toNat = 109; omega))
  have n2 : ¬ (t.toNat : Int) = 120 := fun e => ht2 (UInt8.toNat_inj.1 (by show t.toNat = 120; omega))
  have n3 : ¬ (t.toNat : Int) = 115 := fun e => ht3 (UInt8.toNat_inj.1 (by show t.toNat = 115; omega))
  clear h h1 hk hk2 hkk hla z1 hm ht1 ht2 ht3
  go_enter Tryz.func55, Tryz.ntmps55
  go_wp2_with (first
    | (with_reducible refine (K1.out _ _ H1.out).mono ?_; clear K1 H1 p0; rintro e w2 ⟨rfl, h⟩; have H1 := Lib.hid h; clear h; obtain ⟨p0, p1, -⟩ := HC.out _ H1.out)
    | (with_reducible refine (KI _).mono ?_; rintro e w2 ⟨rfl, rfl⟩))
  all_goals (try simp only [Exit.inBlock, Exit.then])
  all_goals refine bodyPost_ret (results_tmp5 rfl _ _ _) rfl ?_
  all_goals exact ⟨.inr ⟨HN.out, rfl⟩, H1.out.drop⟩
set_option maxRecDepth 20000 in
set_option maxHeartbeats 8000000 in
theorem xidx_x (R : List UInt8) (v : ByteArray) (w : World) (hk : 10 ≤ (⟨(120 :: R).toArray⟩ : ByteArray).size) (hk2 : (⟨(120 :: R).toArray⟩ : ByteArray).size ≤ 1000000000000000) (_hv : v.size ≤ 1000000000000000) (h : Own E w L) : Calls Tryz.prog 55 #[.agg #[.string ⟨(120 :: R).toArray⟩, .string v]] w fun e w' => ((∃ t, IdxR ⟨(120 :: R).toArray⟩ v t ∧ e = .returned (.tuple #[.string t.1, .int .i64 t.2.1, .int .i64 t.2.2.1, .string t.2.2.2, .int .i64 0])) ∨ ((∀ t, ¬ IdxR ⟨(120 :: R).toArray⟩ v t) ∧ e = .returned (.tuple #[.string ⟨#[]⟩, .int .i64 0, .int .i64 0, .string ⟨#[]⟩, .int .i64 141]))) ∧ Own E w' L := by
  obtain ⟨k, hkk⟩ : ∃ k : ByteArray, k = ⟨(120 :: R).toArray⟩ := ⟨_, rfl⟩
  rw [← hkk]
  rw [← hkk] at hk hk2
  obtain ⟨m, hm⟩ : ∃ m : Nat, k.size = m + 8 := ⟨k.size - 8, by omega⟩
  obtain ⟨s1, hs1⟩ : ∃ s, k.extract m k.size = s := ⟨_, rfl⟩
  obtain ⟨la, hla⟩ : ∃ a, a = xnumV s1 := ⟨_, rfl⟩
  have z1 : s1.size ≤ 1000000000000000 := by rw [← hs1, ByteArray.size_extract]; omega
  have m8 : (k.size : Int) - 8 = (m : Int) := by omega
  have w8 : wrap64 (m : Int) = (m : Int) := wrap_small m (by omega)
  have i0 : ¬ (k.size : Int) < 10 := by omega
  have i1 : (m : Int) ≤ (k.size : Int) := by omega
  have i2 : (0 : Int) ≤ (m : Int) := by omega
  have hix : ∀ W, (Instr.index ST (.string k) (.int .i64 0)).run Tryz.prog W = .ok (.int .u8 120) W := fun W => by
    rw [byte_index k 0 0 rfl (by omega) W, hkk]
    rfl
  have h1 := h.alloc (.cells #[.string k, .string v] ITT)
  have p0 : _ = some (Value.string k) := (h1.cell 0).trans rfl
  have K1 : Hid (∀ (wq : World) (M : List Hp), Own E wq M → Calls Tryz.prog 110 #[.string s1] wq fun e w' => e = .returned (.int .i64 la) ∧ Own E w' M) := Lib.hid fun wq M h => by rw [hla]; exact xnumber_any s1 wq z1 h
  have KI := fun w => xid_any la w
  have HC : Hid (∀ w', Own E w' (Hp.blk w.heap.size ITT #[.string k, .string v] :: L) → w'.cell? ⟨w.heap.size, 0, none⟩ = some (.string k) ∧ w'.cell? ⟨w.heap.size, 1, none⟩ = some (.string v) ∧ w'.rangeAt w.heap.size 0 [.string k, .string v]) := Lib.hid fun w' h => ⟨(h.cell 0).trans rfl, (h.cell 1).trans rfl, h.range 0 [.string k, .string v] (fun jj u hu => by simpa using hu)⟩
  obtain ⟨ddI, hdI, hrowI⟩ := itt_u
  have H1 := Lib.hid h1
  obtain ⟨s2, hs2⟩ : ∃ s, k.extract 1 m = s := ⟨_, rfl⟩
  obtain ⟨fi, hfi⟩ : ∃ a, a = xnumV s2 := ⟨_, rfl⟩
  have z2 : s2.size ≤ 1000000000000000 := by rw [← hs2, ByteArray.size_extract]; omega
  have i3 : (1 : Int) ≤ (m : Int) := by omega
  have K2 : Hid (∀ (wq : World) (M : List Hp), Own E wq M → Calls Tryz.prog 110 #[.string s2] wq fun e w' => e = .returned (.int .i64 fi) ∧ Own E w' M) := Lib.hid fun wq M h => by rw [hfi]; exact xnumber_any s2 wq z2 h
  have KE : Hid (∀ (wq : World) (M : List Hp), Own E wq M → Calls Tryz.prog 106 #[.int .i64 fi, .int .i64 la] wq fun e w' => ∃ kx : ByteArray, e = .returned (.agg #[.string kx, .string ⟨#[]⟩]) ∧ ((0 ≤ fi ∧ fi ≤ 1099511627776) → (1 ≤ la ∧ la ≤ 4611686018427387904) → kx = exK fi la) ∧ Own E w' M) := Lib.hid fun wq M h => by
    by_cases hr : (0 ≤ fi ∧ fi ≤ 1099511627776) ∧ (1 ≤ la ∧ la ≤ 4611686018427387904)
    · refine (xends_any fi la wq hr.1 hr.2 h).mono ?_
      rintro e w' ⟨rfl, h⟩
      exact ⟨_, rfl, fun _ _ => rfl, h⟩
    · refine (endssome_any fi la wq h).mono ?_
      rintro e w' ⟨t, rfl, h⟩
      exact ⟨t, rfl, fun a b => absurd ⟨a, b⟩ hr, h⟩
  have HNO : Hid (∀ t, IdxR k v t → (k.size : Int) = 15 ∧ (0 ≤ fi ∧ fi ≤ 1099511627776) ∧ (1 ≤ la ∧ la ≤ 4611686018427387904) ∧ k = exK fi la ∧ v = noB) := Lib.hid fun t ht => by
    rcases ht with ⟨a, b, c, -, -, -, e, -, -⟩ | ⟨fin, id, x1, x2, e, ev, -⟩ | ⟨su, id, hn, -, e, -, -⟩
    · have := congrArg (fun y => y.data.toList.head?) (hkk.symm.trans e)
      simp [ofK] at this
    · have e2 : k = ⟨([120] ++ byN 6 fin.toNat ++ byN 8 id.toNat).toArray⟩ := e
      have es : k.size = 15 := by rw [e2, fl_size, List.length_append, List.length_append, byN_len, byN_len]; rfl
      have em : m = 7 := by omega
      have q1 : s2 = ⟨(byN 6 fin.toNat).toArray⟩ := by
        have h2 := ext_mid [120] (byN 6 fin.toNat) (byN 8 id.toNat)
        simp only [byN_len, List.length_cons, List.length_nil] at h2
        rw [← hs2, em, e2]
        exact h2
      have q2 : s1 = ⟨(byN 8 id.toNat).toArray⟩ := by
        have h2 := ext_mid ([120] ++ byN 6 fin.toNat) (byN 8 id.toNat) []
        simp only [byN_len, List.length_append, List.length_cons, List.length_nil, List.append_nil] at h2
        rw [← hs1, em, es, e2]
        exact h2
      have r1 : fi = fin := by rw [hfi, q1, xnum_byN 6 fin.toNat (by omega) (by omega) (by show fin.toNat < 256 ^ 6; omega) (by omega)]; omega
      have r2 : la = id := by rw [hla, q2, xnum_byN 8 id.toNat (by omega) (by omega) (by show id.toNat < 256 ^ 8; omega) (by omega)]; omega
      rw [r1, r2]
      exact ⟨by omega, x1, x2, e, ev⟩
    · have := congrArg (fun y => y.data.toList.head?) (hkk.symm.trans e)
      simp [suK] at this
  have HYES : Hid ((0 ≤ fi ∧ fi ≤ 1099511627776) → (1 ≤ la ∧ la ≤ 4611686018427387904) → k = exK fi la → v = noB → IdxR k v (⟨#[120]⟩, fi, la, ⟨#[]⟩)) := Lib.hid fun a b c d => .inr (.inl ⟨fi, la, a, b, c, d, rfl⟩)
  have KSM := Lib.hid (fun (a b c d : ByteArray) (w : World) (M : List Hp) h => xsame_any (E := E) (L := M) a b c d w h)
  clear h h1 hk hk2 hkk hla hfi z1 z2 hm
  go_enter Tryz.func55, Tryz.ntmps55
  go_wp2_with (first
    | (with_reducible refine (K1.out _ _ H1.out).mono ?_; clear K1 H1 p0; rintro e w2 ⟨rfl, h⟩; have H1 := Lib.hid h; clear h; obtain ⟨p0, p1, -⟩ := HC.out _ H1.out)
    | (with_reducible refine (KI _).mono ?_; rintro e w2 ⟨rfl, rfl⟩)
    | (with_reducible refine (K2.out _ _ H1.out).mono ?_; clear K2 H1 p0 p1; rintro e w2 ⟨rfl, h⟩; have H1 := Lib.hid h; clear h; obtain ⟨p0, p1, -⟩ := HC.out _ H1.out))
  have h := H1.out.drew
  clear H1
  refine wp_region_text [0] (fun w' => w'.rangeAt w.heap.size 0 [.string k, .string v]) (by kernel_rfl) ?_ (fun hS => ?_)
  · exact (HC.out _ h).2.2
  refine gm 0 (some 45) (.agg #[.string k, .string v]) ?_ ?_
  · intro w hS
    exact exec_load_mid ITT (.tmp 1) rfl _ 0 (by rfl) [.string k, .string v] _ hS hdI hrowI (by kernel_rfl)
  refine gp 1 (some 46) ?_
  refine gp 2 (some 47) ?_
  refine gk 3 (some 48) (fun K hK => ?_)
  rw [if_pos (by rfl)]
  go_simp
  refine (KE.out _ _ h).mono ?_
  clear h
  rintro e w4 ⟨kx, rfl, hkx, h⟩
  refine hK.out _ _ ?_ (fun hS => ?_)
  · exact (HC.out _ h).2.2
  clear hK K
  try simp only [Act.put, List.setIfInBounds_toArray, List.set_cons_zero, List.set_cons_succ]
  refine wpAnyG_break (i := 4) (oi := ⟨some 49, _, _, _, _, _⟩) (by kernel_rfl) rfl (by kernel_rfl) (fun K hK => ?_)
  rw [if_pos (by rfl)]
  go_simp
  refine (KSM.out _ _ _ _ _ _ h).mono ?_
  clear h
  rintro e w5 ⟨rfl, h⟩
  refine hK.out _ _ ?_
  clear hK K
  try simp only [Act.put, List.setIfInBounds_toArray, List.set_cons_zero, List.set_cons_succ]
  refine gp 5 (some 12) ?_
  refine wpAnyG_done (by kernel_rfl) ?_ _
  refine NoPanic.normal ?_
  have H1 := Lib.hid h
  clear h p0 p1
  obtain ⟨bn, hbn⟩ : ∃ bn : Int, (decide (k = kx) && decide (v = ⟨#[]⟩)) = decide (bn = 1) ∧ (bn = 1 ↔ k = kx ∧ v = noB) := by
    by_cases hq : k = kx ∧ v = noB
    · exact ⟨1, by rw [decide_eq_true hq.1, decide_eq_true (show v = ⟨#[]⟩ from hq.2)]; rfl, by simp [hq]⟩
    · refine ⟨0, ?_, by simp [hq]⟩
      rw [show decide ((0 : Int) = 1) = false from rfl, ← Bool.not_eq_true, Bool.and_eq_true, decide_eq_true_eq, decide_eq_true_eq]
      exact hq
  rw [hbn.1]
  have HY2 : Hid ((0 ≤ fi ∧ fi ≤ 1099511627776) → (1 ≤ la ∧ la ≤ 4611686018427387904) → bn = 1 → IdxR k v (⟨#[120]⟩, fi, la, ⟨#[]⟩)) := Lib.hid fun a b c => HYES.out a b ((hbn.2.1 c).1.trans (hkx a b)) (hbn.2.1 c).2
  have HBAD : Hid ((¬ (k.size : Int) = 15 ∨ ¬ (0 ≤ fi ∧ fi ≤ 1099511627776) ∨ ¬ (1 ≤ la ∧ la ≤ 4611686018427387904) ∨ ¬ bn = 1) → ∀ t, ¬ IdxR k v t) := Lib.hid fun hor t ht => by
    obtain ⟨y1, y2, y3, y4, y5⟩ := HNO.out t ht
    have y6 := hbn.2.2 ⟨y4.trans (hkx y2 y3).symm, y5⟩
    omega
  clear hbn hkx HNO HYES
  go_wp2_with fail
  all_goals (try simp only [Exit.inBlock, Exit.then])
  all_goals refine bodyPost_ret (results_tmp5 rfl _ _ _) rfl ?_
  all_goals first
    | exact ⟨.inl ⟨_, HY2.out (by (first | omega | ((try simp only [Bool.not_eq_true'] at *); (try simp only [Bool.not_eq_false'] at *); (try simp only [decide_eq_true_eq] at *); (try simp only [decide_eq_false_iff_not] at *); omega))) (by (first | omega | ((try simp only [Bool.not_eq_true'] at *); (try simp only [Bool.not_eq_false'] at *); (try simp only [decide_eq_true_eq] at *); (try simp only [decide_eq_false_iff_not] at *); omega))) (by (first | omega | ((try simp only [Bool.not_eq_true'] at *); (try simp only [Bool.not_eq_false'] at *); (try simp only [decide_eq_true_eq] at *); (try simp only [decide_eq_false_iff_not] at *); omega))), rfl⟩, H1.out.drop⟩
    | exact ⟨.inl ⟨_, _, _, _, HY2.out (by (first | omega | ((try simp only [Bool.not_eq_true'] at *); (try simp only [Bool.not_eq_false'] at *); (try simp only [decide_eq_true_eq] at *); (try simp only [decide_eq_false_iff_not] at *); omega))) (by (first | omega | ((try simp only [Bool.not_eq_true'] at *); (try simp only [Bool.not_eq_false'] at *); (try simp only [decide_eq_true_eq] at *); (try simp only [decide_eq_false_iff_not] at *); omega))) (by (first | omega | ((try simp only [Bool.not_eq_true'] at *); (try simp only [Bool.not_eq_false'] at *); (try simp only [decide_eq_true_eq] at *); (try simp only [decide_eq_false_iff_not] at *); omega))), rfl⟩, H1.out.drop⟩
    | exact ⟨.inr ⟨HBAD.out (by (first | omega | ((try simp only [Bool.not_eq_true'] at *); (try simp only [Bool.not_eq_false'] at *); (try simp only [decide_eq_true_eq] at *); (try simp only [decide_eq_false_iff_not] at *); omega))), rfl⟩, H1.out.drop⟩
    | exact ⟨.inr ⟨fun a b c d => HBAD.out (by (first | omega | ((try simp only [Bool.not_eq_true'] at *); (try simp only [Bool.not_eq_false'] at *); (try simp only [decide_eq_true_eq] at *); (try simp only [decide_eq_false_iff_not] at *); omega))) (a, b, c, d), rfl⟩, H1.out.drop⟩
set_option maxRecDepth 20000 in
set_option maxHeartbeats 8000000 in
theorem xidx_s (R : List UInt8) (v : ByteArray) (w : World) (hk : 10 ≤ (⟨(115 :: R).toArray⟩ : ByteArray).size) (hk2 : (⟨(115 :: R).toArray⟩ : ByteArray).size ≤ 1000000000000000) (_hv : v.size ≤ 1000000000000000) (h : Own E w L) : Calls Tryz.prog 55 #[.agg #[.string ⟨(115 :: R).toArray⟩, .string v]] w fun e w' => ((∃ t, IdxR ⟨(115 :: R).toArray⟩ v t ∧ e = .returned (.tuple #[.string t.1, .int .i64 t.2.1, .int .i64 t.2.2.1, .string t.2.2.2, .int .i64 0])) ∨ ((∀ t, ¬ IdxR ⟨(115 :: R).toArray⟩ v t) ∧ e = .returned (.tuple #[.string ⟨#[]⟩, .int .i64 0, .int .i64 0, .string ⟨#[]⟩, .int .i64 141]))) ∧ Own E w' L := by
  obtain ⟨k, hkk⟩ : ∃ k : ByteArray, k = ⟨(115 :: R).toArray⟩ := ⟨_, rfl⟩
  rw [← hkk]
  rw [← hkk] at hk hk2
  obtain ⟨m, hm⟩ : ∃ m : Nat, k.size = m + 8 := ⟨k.size - 8, by omega⟩
  obtain ⟨s1, hs1⟩ : ∃ s, k.extract m k.size = s := ⟨_, rfl⟩
  obtain ⟨la, hla⟩ : ∃ a, a = xnumV s1 := ⟨_, rfl⟩
  have z1 : s1.size ≤ 1000000000000000 := by rw [← hs1, ByteArray.size_extract]; omega
  have m8 : (k.size : Int) - 8 = (m : Int) := by omega
  have w8 : wrap64 (m : Int) = (m : Int) := wrap_small m (by omega)
  have i0 : ¬ (k.size : Int) < 10 := by omega
  have i1 : (m : Int) ≤ (k.size : Int) := by omega
  have i2 : (0 : Int) ≤ (m : Int) := by omega
  have hix : ∀ W, (Instr.index ST (.string k) (.int .i64 0)).run Tryz.prog W = .ok (.int .u8 115) W := fun W => by
    rw [byte_index k 0 0 rfl (by omega) W, hkk]
    rfl
  have h1 := h.alloc (.cells #[.string k, .string v] ITT)
  have p0 : _ = some (Value.string k) := (h1.cell 0).trans rfl
  have K1 : Hid (∀ (wq : World) (M : List Hp), Own E wq M → Calls Tryz.prog 110 #[.string s1] wq fun e w' => e = .returned (.int .i64 la) ∧ Own E w' M) := Lib.hid fun wq M h => by rw [hla]; exact xnumber_any s1 wq z1 h
  have KI := fun w => xid_any la w
  have HC : Hid (∀ w', Own E w' (Hp.blk w.heap.size ITT #[.string k, .string v] :: L) → w'.cell? ⟨w.heap.size, 0, none⟩ = some (.string k) ∧ w'.cell? ⟨w.heap.size, 1, none⟩ = some (.string v) ∧ w'.rangeAt w.heap.size 0 [.string k, .string v]) := Lib.hid fun w' h => ⟨(h.cell 0).trans rfl, (h.cell 1).trans rfl, h.range 0 [.string k, .string v] (fun jj u hu => by simpa using hu)⟩
  obtain ⟨ddI, hdI, hrowI⟩ := itt_u
  have H1 := Lib.hid h1
  obtain ⟨j, hj⟩ : ∃ j : Nat, m = j + 1 := ⟨m - 1, by omega⟩
  obtain ⟨s2, hs2⟩ : ∃ s, k.extract 1 j = s := ⟨_, rfl⟩
  have z2 : s2.size ≤ 1000000000000000 := by rw [← hs2, ByteArray.size_extract]; omega
  have m9 : (k.size : Int) - 9 = (j : Int) := by omega
  have w9 : wrap64 (j : Int) = (j : Int) := wrap_small j (by omega)
  have i3 : (1 : Int) ≤ (j : Int) := by omega
  have i4 : (j : Int) ≤ (k.size : Int) := by omega
  have KE : Hid (∀ (wq : World) (M : List Hp), Own E wq M → Calls Tryz.prog 107 #[.string s2, .int .i64 la] wq fun e w' => ∃ kx : ByteArray, e = .returned (.agg #[.string kx, .string ⟨#[]⟩]) ∧ (s2.size ≤ 16 → (1 ≤ la ∧ la ≤ 4611686018427387904) → kx = suK s2 la) ∧ Own E w' M) := Lib.hid fun wq M h => by
    by_cases hr : s2.size ≤ 16 ∧ (1 ≤ la ∧ la ≤ 4611686018427387904)
    · refine (xsubjects_any s2 la wq (by omega) hr.2 h).mono ?_
      rintro e w' ⟨rfl, h⟩
      exact ⟨_, rfl, fun _ _ => rfl, h⟩
    · refine (subsome_any s2 la wq z2 h).mono ?_
      rintro e w' ⟨t, rfl, h⟩
      exact ⟨t, rfl, fun a b => absurd ⟨a, b⟩ hr, h⟩
  have HNO : Hid (∀ t, IdxR k v t → (1 ≤ la ∧ la ≤ 4611686018427387904) ∧ nameB s2 = true ∧ k = suK s2 la ∧ v = noB) := Lib.hid fun t ht => by
    rcases ht with ⟨a, b, c, -, -, -, e, -, -⟩ | ⟨fin, id, x1, x2, e, ev, -⟩ | ⟨su, id, hn, x2, e, ev, -⟩
    · have := congrArg (fun y => y.data.toList.head?) (hkk.symm.trans e)
      simp [ofK] at this
    · have := congrArg (fun y => y.data.toList.head?) (hkk.symm.trans e)
      simp [exK] at this
    · have hsl : su.data.toList.length = su.size := rfl
      have e2 : k = ⟨([115] ++ su.data.toList ++ ([0] ++ byN 8 id.toNat)).toArray⟩ := by
        rw [e]
        unfold suK
        refine bytes_ext _ _ ?_
        simp
      have es : k.size = su.size + 10 := by rw [e2, fl_size, List.length_append, List.length_append, List.length_append, byN_len, hsl, List.length_singleton, List.length_singleton]; omega
      have em : j = 1 + su.size := by omega
      have q1 : s2 = su := by
        have h2 := ext_mid [115] su.data.toList ([0] ++ byN 8 id.toNat)
        rw [hsl, List.length_singleton, ← em, ← e2, hs2] at h2
        rw [h2]
      have q2 : s1 = ⟨(byN 8 id.toNat).toArray⟩ := by
        have h2 := ext_mid ([115] ++ su.data.toList ++ [0]) (byN 8 id.toNat) []
        rw [List.append_nil, List.append_assoc ([115] ++ su.data.toList), ← e2, List.length_append, List.length_append, hsl, List.length_singleton, List.length_singleton, byN_len] at h2
        rw [← hs1, show m = 1 + su.size + 1 by omega, show k.size = 1 + su.size + 1 + 8 by omega]
        exact h2
      have r2 : la = id := by rw [hla, q2, xnum_byN 8 id.toNat (by omega) (by omega) (by show id.toNat < 256 ^ 8; omega) (by omega)]; omega
      rw [q1, r2]
      exact ⟨x2, hn, e, ev⟩
  have HYES : Hid ((1 ≤ la ∧ la ≤ 4611686018427387904) → nameB s2 = true → k = suK s2 la → v = noB → IdxR k v (⟨#[115]⟩, 0, la, s2)) := Lib.hid fun a b c d => .inr (.inr ⟨s2, la, b, a, c, d, rfl⟩)
  obtain ⟨nn, hnn⟩ : ∃ nn : Int, nameB s2 = decide (nn = 1) := ⟨if nameB s2 then 1 else 0, by cases nameB s2 <;> rfl⟩
  have KN := fun w => xname_any s2 w (by omega)
  rw [hnn] at KN
  have HNN : Hid (nn = 1 ↔ nameB s2 = true) := Lib.hid (by rw [hnn, decide_eq_true_iff])
  have KSM := Lib.hid (fun (a b c d : ByteArray) (w : World) (M : List Hp) h => xsame_any (E := E) (L := M) a b c d w h)
  clear h h1 hk hk2 hkk hla z1 z2 hm hj hnn
  go_enter Tryz.func55, Tryz.ntmps55
  go_wp2_with (first
    | (with_reducible refine (K1.out _ _ H1.out).mono ?_; clear K1 H1 p0; rintro e w2 ⟨rfl, h⟩; have H1 := Lib.hid h; clear h; obtain ⟨p0, p1, -⟩ := HC.out _ H1.out)
    | (with_reducible refine (KI _).mono ?_; rintro e w2 ⟨rfl, rfl⟩))
  have h := H1.out.drew
  clear H1
  refine wp_region_text [0] (fun w' => w'.rangeAt w.heap.size 0 [.string k, .string v]) (by kernel_rfl) ?_ (fun hS => ?_)
  · exact (HC.out _ h).2.2
  refine gm 0 (some 78) (.agg #[.string k, .string v]) ?_ ?_
  · intro w hS
    exact exec_load_mid ITT (.tmp 1) rfl _ 0 (by rfl) [.string k, .string v] _ hS hdI hrowI (by kernel_rfl)
  refine gp 1 (some 79) ?_
  refine gp 2 (some 80) ?_
  refine gk 3 (some 81) (fun K hK => ?_)
  rw [if_pos (by rfl)]
  go_simp
  refine (KE.out _ _ h).mono ?_
  clear h
  rintro e w4 ⟨kx, rfl, hkx, h⟩
  refine hK.out _ _ ?_ (fun hS => ?_)
  · exact (HC.out _ h).2.2
  clear hK K
  try simp only [Act.put, List.setIfInBounds_toArray, List.set_cons_zero, List.set_cons_succ]
  refine wpAnyG_break (i := 4) (oi := ⟨some 82, _, _, _, _, _⟩) (by kernel_rfl) rfl (by kernel_rfl) (fun K hK => ?_)
  rw [if_pos (by rfl)]
  go_simp
  refine (KSM.out _ _ _ _ _ _ h).mono ?_
  clear h
  rintro e w5 ⟨rfl, h⟩
  refine hK.out _ _ ?_
  clear hK K
  try simp only [Act.put, List.setIfInBounds_toArray, List.set_cons_zero, List.set_cons_succ]
  refine gp 5 (some 14) ?_
  refine wpAnyG_done (by kernel_rfl) ?_ _
  refine NoPanic.normal ?_
  have H1 := Lib.hid h
  clear h p0 p1
  obtain ⟨bn, hbn⟩ : ∃ bn : Int, (decide (k = kx) && decide (v = ⟨#[]⟩)) = decide (bn = 1) ∧ (bn = 1 ↔ k = kx ∧ v = noB) := by
    by_cases hq : k = kx ∧ v = noB
    · exact ⟨1, by rw [decide_eq_true hq.1, decide_eq_true (show v = ⟨#[]⟩ from hq.2)]; rfl, by simp [hq]⟩
    · refine ⟨0, ?_, by simp [hq]⟩
      rw [show decide ((0 : Int) = 1) = false from rfl, ← Bool.not_eq_true, Bool.and_eq_true, decide_eq_true_eq, decide_eq_true_eq]
      exact hq
  rw [hbn.1]
  have HY2 : Hid ((1 ≤ la ∧ la ≤ 4611686018427387904) → nn = 1 → bn = 1 → IdxR k v (⟨#[115]⟩, 0, la, s2)) := Lib.hid fun a b c => HYES.out a (HNN.out.1 b) ((hbn.2.1 c).1.trans (hkx (nm_size (HNN.out.1 b)) a)) (hbn.2.1 c).2
  have HBAD : Hid ((¬ (1 ≤ la ∧ la ≤ 4611686018427387904) ∨ ¬ nn = 1 ∨ ¬ bn = 1) → ∀ t, ¬ IdxR k v t) := Lib.hid fun hor t ht => by
    obtain ⟨y1, y2, y4, y5⟩ := HNO.out t ht
    have y6 := hbn.2.2 ⟨y4.trans (hkx (nm_size y2) y1).symm, y5⟩
    have y7 := HNN.out.2 y2
    omega
  clear hbn hkx HNO HYES
  go_wp2_with (with_reducible refine (KN _).mono ?_; rintro e w2 ⟨rfl, rfl⟩)
  all_goals (try simp only [Exit.inBlock, Exit.then])
  all_goals refine bodyPost_ret (results_tmp5 rfl _ _ _) rfl ?_
  all_goals first
    | exact ⟨.inl ⟨_, HY2.out (by (first | omega | ((try simp only [Bool.not_eq_true'] at *); (try simp only [Bool.not_eq_false'] at *); (try simp only [decide_eq_true_eq] at *); (try simp only [decide_eq_false_iff_not] at *); omega))) (by (first | omega | ((try simp only [Bool.not_eq_true'] at *); (try simp only [Bool.not_eq_false'] at *); (try simp only [decide_eq_true_eq] at *); (try simp only [decide_eq_false_iff_not] at *); omega))) (by (first | omega | ((try simp only [Bool.not_eq_true'] at *); (try simp only [Bool.not_eq_false'] at *); (try simp only [decide_eq_true_eq] at *); (try simp only [decide_eq_false_iff_not] at *); omega))), rfl⟩, H1.out.drop⟩
    | exact ⟨.inl ⟨_, _, _, _, HY2.out (by (first | omega | ((try simp only [Bool.not_eq_true'] at *); (try simp only [Bool.not_eq_false'] at *); (try simp only [decide_eq_true_eq] at *); (try simp only [decide_eq_false_iff_not] at *); omega))) (by (first | omega | ((try simp only [Bool.not_eq_true'] at *); (try simp only [Bool.not_eq_false'] at *); (try simp only [decide_eq_true_eq] at *); (try simp only [decide_eq_false_iff_not] at *); omega))) (by (first | omega | ((try simp only [Bool.not_eq_true'] at *); (try simp only [Bool.not_eq_false'] at *); (try simp only [decide_eq_true_eq] at *); (try simp only [decide_eq_false_iff_not] at *); omega))), rfl⟩, H1.out.drop⟩
    | exact ⟨.inr ⟨HBAD.out (by (first | omega | ((try simp only [Bool.not_eq_true'] at *); (try simp only [Bool.not_eq_false'] at *); (try simp only [decide_eq_true_eq] at *); (try simp only [decide_eq_false_iff_not] at *); omega))), rfl⟩, H1.out.drop⟩
    | exact ⟨.inr ⟨fun a b c d => HBAD.out (by (first | omega | ((try simp only [Bool.not_eq_true'] at *); (try simp only [Bool.not_eq_false'] at *); (try simp only [decide_eq_true_eq] at *); (try simp only [decide_eq_false_iff_not] at *); omega))) (a, b, c, d), rfl⟩, H1.out.drop⟩
set_option maxRecDepth 20000 in
set_option maxHeartbeats 8000000 in
theorem xidx_m (R : List UInt8) (v : ByteArray) (w : World) (hk : 10 ≤ (⟨(109 :: R).toArray⟩ : ByteArray).size) (hk2 : (⟨(109 :: R).toArray⟩ : ByteArray).size ≤ 1000000000000000) (hv : v.size ≤ 1000000000000000) (h : Own E w L) : Calls Tryz.prog 55 #[.agg #[.string ⟨(109 :: R).toArray⟩, .string v]] w fun e w' => ((∃ t, IdxR ⟨(109 :: R).toArray⟩ v t ∧ e = .returned (.tuple #[.string t.1, .int .i64 t.2.1, .int .i64 t.2.2.1, .string t.2.2.2, .int .i64 0])) ∨ ((∀ t, ¬ IdxR ⟨(109 :: R).toArray⟩ v t) ∧ e = .returned (.tuple #[.string ⟨#[]⟩, .int .i64 0, .int .i64 0, .string ⟨#[]⟩, .int .i64 141]))) ∧ Own E w' L := by
  obtain ⟨k, hkk⟩ : ∃ k : ByteArray, k = ⟨(109 :: R).toArray⟩ := ⟨_, rfl⟩
  rw [← hkk]
  rw [← hkk] at hk hk2
  obtain ⟨m, hm⟩ : ∃ m : Nat, k.size = m + 8 := ⟨k.size - 8, by omega⟩
  obtain ⟨s1, hs1⟩ : ∃ s, k.extract m k.size = s := ⟨_, rfl⟩
  obtain ⟨la, hla⟩ : ∃ a, a = xnumV s1 := ⟨_, rfl⟩
  have z1 : s1.size ≤ 1000000000000000 := by rw [← hs1, ByteArray.size_extract]; omega
  have m8 : (k.size : Int) - 8 = (m : Int) := by omega
  have w8 : wrap64 (m : Int) = (m : Int) := wrap_small m (by omega)
  have i0 : ¬ (k.size : Int) < 10 := by omega
  have i1 : (m : Int) ≤ (k.size : Int) := by omega
  have i2 : (0 : Int) ≤ (m : Int) := by omega
  have hix : ∀ W, (Instr.index ST (.string k) (.int .i64 0)).run Tryz.prog W = .ok (.int .u8 109) W := fun W => by
    rw [byte_index k 0 0 rfl (by omega) W, hkk]
    rfl
  have h1 := h.alloc (.cells #[.string k, .string v] ITT)
  have p0 : _ = some (Value.string k) := (h1.cell 0).trans rfl
  have K1 : Hid (∀ (wq : World) (M : List Hp), Own E wq M → Calls Tryz.prog 110 #[.string s1] wq fun e w' => e = .returned (.int .i64 la) ∧ Own E w' M) := Lib.hid fun wq M h => by rw [hla]; exact xnumber_any s1 wq z1 h
  have KI := fun w => xid_any la w
  have HC : Hid (∀ w', Own E w' (Hp.blk w.heap.size ITT #[.string k, .string v] :: L) → w'.cell? ⟨w.heap.size, 0, none⟩ = some (.string k) ∧ w'.cell? ⟨w.heap.size, 1, none⟩ = some (.string v) ∧ w'.rangeAt w.heap.size 0 [.string k, .string v]) := Lib.hid fun w' h => ⟨(h.cell 0).trans rfl, (h.cell 1).trans rfl, h.range 0 [.string k, .string v] (fun jj u hu => by simpa using hu)⟩
  obtain ⟨ddI, hdI, hrowI⟩ := itt_u
  have H1 := Lib.hid h1
  obtain ⟨s2, hs2⟩ : ∃ s, k.extract 1 9 = s := ⟨_, rfl⟩
  obtain ⟨s3, hs3⟩ : ∃ s, k.extract 9 k.size = s := ⟨_, rfl⟩
  obtain ⟨fa, hfa⟩ : ∃ a, a = xnumV s2 := ⟨_, rfl⟩
  obtain ⟨ge, hge⟩ : ∃ a, a = xnumV s3 := ⟨_, rfl⟩
  obtain ⟨iv, hiv⟩ : ∃ a, a = xnumV v := ⟨_, rfl⟩
  have z2 : s2.size ≤ 1000000000000000 := by rw [← hs2, ByteArray.size_extract]; omega
  have z3 : s3.size ≤ 1000000000000000 := by rw [← hs3, ByteArray.size_extract]; omega
  have i4 : (9 : Int) ≤ (k.size : Int) := by omega
  have K2 : Hid (∀ (wq : World) (M : List Hp), Own E wq M → Calls Tryz.prog 110 #[.string s2] wq fun e w' => e = .returned (.int .i64 fa) ∧ Own E w' M) := Lib.hid fun wq M h => by rw [hfa]; exact xnumber_any s2 wq z2 h
  have K3 : Hid (∀ (wq : World) (M : List Hp), Own E wq M → Calls Tryz.prog 110 #[.string s3] wq fun e w' => e = .returned (.int .i64 ge) ∧ Own E w' M) := Lib.hid fun wq M h => by rw [hge]; exact xnumber_any s3 wq z3 h
  have K4 : Hid (∀ (wq : World) (M : List Hp), Own E wq M → Calls Tryz.prog 110 #[.string v] wq fun e w' => e = .returned (.int .i64 iv) ∧ Own E w' M) := Lib.hid fun wq M h => by rw [hiv]; exact xnumber_any v wq hv h
  have KA := fun w => xid_any fa w
  have KV := fun w => xid_any iv w
  have hkl : k.data.toList.length = k.size := rfl
  have d0 : k.data.toList = 109 :: R := by rw [hkk]
  have HNO : Hid (∀ t, IdxR k v t → (k.size : Int) = 13 ∧ (v.size : Int) = 8 ∧ (1 ≤ fa ∧ fa ≤ 4611686018427387904) ∧ (1 ≤ iv ∧ iv ≤ 4611686018427387904) ∧ (1 ≤ ge ∧ ge ≤ 1073741824)) := Lib.hid fun t ht => by
    rcases ht with ⟨a, b, c, x1, x2, x3, e, ev, -⟩ | ⟨fin, id, -, -, e, -, -⟩ | ⟨su, id, -, -, e, -, -⟩
    · have e2 : k = ⟨([109] ++ byN 8 b.toNat ++ byN 4 c.toNat).toArray⟩ := e
      have es : k.size = 13 := by rw [e2, fl_size, List.length_append, List.length_append, byN_len, byN_len]; rfl
      have q1 : s2 = ⟨(byN 8 b.toNat).toArray⟩ := by
        have h2 := ext_mid [109] (byN 8 b.toNat) (byN 4 c.toNat)
        simp only [byN_len, List.length_cons, List.length_nil] at h2
        rw [← hs2, e2]
        exact h2
      have q2 : s3 = ⟨(byN 4 c.toNat).toArray⟩ := by
        have h2 := ext_mid ([109] ++ byN 8 b.toNat) (byN 4 c.toNat) []
        simp only [byN_len, List.length_append, List.length_cons, List.length_nil, List.append_nil] at h2
        rw [← hs3, es, e2]
        exact h2
      have r1 : fa = b := by rw [hfa, q1, xnum_byN 8 b.toNat (by omega) (by omega) (by show b.toNat < 256 ^ 8; omega) (by omega)]; omega
      have r2 : ge = c := by rw [hge, q2, xnum_byN 4 c.toNat (by omega) (by omega) (by show c.toNat < 256 ^ 4; omega) (by omega)]; omega
      have r3 : iv = a := by rw [hiv, ev]; unfold ofV; rw [xnum_byN 8 a.toNat (by omega) (by omega) (by show a.toNat < 256 ^ 8; omega) (by omega)]; omega
      have ez : v.size = 8 := by rw [ev]; unfold ofV; rw [fl_size, byN_len]
      rw [r1, r2, r3]
      exact ⟨by omega, by omega, x2, x1, x3⟩
    · have := congrArg (fun y => y.data.toList.head?) (hkk.symm.trans e)
      simp [exK] at this
    · have := congrArg (fun y => y.data.toList.head?) (hkk.symm.trans e)
      simp [suK] at this
  have HYES : Hid ((k.size : Int) = 13 → (v.size : Int) = 8 → (1 ≤ fa ∧ fa ≤ 4611686018427387904) → (1 ≤ iv ∧ iv ≤ 4611686018427387904) → (1 ≤ ge ∧ ge ≤ 1073741824) → IdxR k v (⟨#[109]⟩, ge, fa, v)) := Lib.hid fun a b c d e => by
    have e1 := xnum_inv hfa.symm (by omega)
    have e2 := xnum_inv hge.symm (by omega)
    have e3 := xnum_inv hiv.symm (by omega)
    have y1 : s2.size = 8 := by rw [← hs2, ByteArray.size_extract]; omega
    have y2 : s3.size = 4 := by rw [← hs3, ByteArray.size_extract]; omega
    have y3 : v.size = 8 := by omega
    rw [y1] at e1
    rw [y2] at e2
    rw [y3] at e3
    have f1 : s2.data.toList = R.take 8 := by rw [← hs2, ext_data, d0]; rfl
    have f2 : s3.data.toList = R.drop 8 := by
      rw [← hs3, ext_data, d0]
      show (R.drop 8).take (k.size - 9) = _
      have hR : R.length + 1 = k.size := by rw [← hkl, d0, List.length_cons]
      exact List.take_of_length_le (by rw [List.length_drop]; omega)
    have hv2 : v = ofV iv := fl_mk _ e3
    refine .inl ⟨iv, fa, ge, d, c, e, ?_, hv2, by rw [← hv2]⟩
    rw [hkk]
    unfold ofK
    rw [← e1, ← e2, f1, f2, List.take_append_drop]
  clear h h1 hk hk2 hkk hla hfa hge hiv z1 z2 z3 hm hv hkl d0
  by_cases hg : (k.size : Int) = 13 ∧ (v.size : Int) = 8 ∧ (1 ≤ fa ∧ fa ≤ 4611686018427387904) ∧ (1 ≤ iv ∧ iv ≤ 4611686018427387904) ∧ (1 ≤ ge ∧ ge ≤ 1073741824)
  · have HG := Lib.hid (HYES.out hg.1 hg.2.1 hg.2.2.1 hg.2.2.2.1 hg.2.2.2.2)
    obtain ⟨g1, g2, g3, g4, g5⟩ := hg
    obtain rfl : m = 5 := by omega
    rw [decide_eq_true g3] at KA
    rw [decide_eq_true g4] at KV
    have g6 : ¬ ge < 1 := by omega
    have g7 : ¬ 1073741824 < ge := by omega
    clear HNO HYES g3 g4 g5
    go_enter Tryz.func55, Tryz.ntmps55
    go_wp2_with (first
      | (with_reducible refine (K1.out _ _ H1.out).mono ?_; clear K1 H1 p0; rintro e w2 ⟨rfl, h⟩; have H1 := Lib.hid h; clear h; obtain ⟨p0, p1, -⟩ := HC.out _ H1.out)
      | (with_reducible refine (KI _).mono ?_; rintro e w2 ⟨rfl, rfl⟩)
      | (with_reducible refine (K2.out _ _ H1.out).mono ?_; clear K2 H1 p0 p1; rintro e w2 ⟨rfl, h⟩; have H1 := Lib.hid h; clear h; obtain ⟨p0, p1, -⟩ := HC.out _ H1.out)
      | (with_reducible refine (K3.out _ _ H1.out).mono ?_; clear K3 H1 p0 p1; rintro e w2 ⟨rfl, h⟩; have H1 := Lib.hid h; clear h; obtain ⟨p0, p1, -⟩ := HC.out _ H1.out)
      | (with_reducible refine (K4.out _ _ H1.out).mono ?_; clear K4 H1 p0 p1; rintro e w2 ⟨rfl, h⟩; have H1 := Lib.hid h; clear h; obtain ⟨p0, p1, -⟩ := HC.out _ H1.out)
      | (with_reducible refine (KA _).mono ?_; rintro e w2 ⟨rfl, rfl⟩)
      | (with_reducible refine (KV _).mono ?_; rintro e w2 ⟨rfl, rfl⟩))
    have h := H1.out.drew
    clear H1
    refine wp_region_text [3] (fun w' => w'.cell? ⟨w.heap.size, 1, none⟩ = some (.string v)) (by kernel_rfl) ?_ (fun hS => ?_)
    · exact (HC.out _ h).2.1
    refine gp 0 (some 138) ?_
    refine gp 1 (some 139) ?_
    refine gp 2 (some 140) ?_
    refine gl 3 (some 141) ?_
    refine gp 4 (some 2) ?_
    refine gp 5 (some 3) ?_
    refine gp 6 (some 4) ?_
    refine gp 7 (some 5) ?_
    refine gp 8 (some 6) ?_
    refine wpAnyG_done (by kernel_rfl) ?_ _
    refine NoPanic.normal ?_
    go_wp2_with fail
    (try simp only [Exit.inBlock, Exit.then])
    refine bodyPost_ret (results_tmp5 rfl _ _ _) rfl ?_
    exact ⟨.inl ⟨_, HG.out, rfl⟩, h.drop⟩
  · have HBAD : Hid (∀ t, ¬ IdxR k v t) := Lib.hid fun t ht => hg (HNO.out t ht)
    have HGG := Lib.hid hg
    clear HNO HYES hg
    go_enter Tryz.func55, Tryz.ntmps55
    go_wp2_with (first
      | (with_reducible refine (K1.out _ _ H1.out).mono ?_; clear K1 H1 p0; rintro e w2 ⟨rfl, h⟩; have H1 := Lib.hid h; clear h; obtain ⟨p0, p1, -⟩ := HC.out _ H1.out)
      | (with_reducible refine (KI _).mono ?_; rintro e w2 ⟨rfl, rfl⟩)
      | (with_reducible refine (K2.out _ _ H1.out).mono ?_; clear K2 H1 p0 p1; rintro e w2 ⟨rfl, h⟩; have H1 := Lib.hid h; clear h; obtain ⟨p0, p1, -⟩ := HC.out _ H1.out)
      | (with_reducible refine (K3.out _ _ H1.out).mono ?_; clear K3 H1 p0 p1; rintro e w2 ⟨rfl, h⟩; have H1 := Lib.hid h; clear h; obtain ⟨p0, p1, -⟩ := HC.out _ H1.out)
      | (with_reducible refine (K4.out _ _ H1.out).mono ?_; clear K4 H1 p0 p1; rintro e w2 ⟨rfl, h⟩; have H1 := Lib.hid h; clear h; obtain ⟨p0, p1, -⟩ := HC.out _ H1.out)
      | (with_reducible refine (KA _).mono ?_; rintro e w2 ⟨rfl, rfl⟩)
      | (with_reducible refine (KV _).mono ?_; rintro e w2 ⟨rfl, rfl⟩))
    all_goals first
      | (exfalso; have hg := HGG.out; simp only [bne_eq_false_iff_eq] at *; omega)
      | ((try simp only [Exit.inBlock, Exit.then]); refine bodyPost_ret (results_tmp5 rfl _ _ _) rfl ?_; first | exact ⟨.inr ⟨HBAD.out, rfl⟩, H1.out.drop⟩ | exact ⟨.inr ⟨fun a b c d => HBAD.out (a, b, c, d), rfl⟩, H1.out.drop⟩)
/-- The reference's ParseIndex of any pair. -/
theorem xidx_any (k v : ByteArray) (w : World) (hk : k.size ≤ 1000000000000000) (hv : v.size ≤ 1000000000000000) (h : Own E w L) : Calls Tryz.prog 55 #[.agg #[.string k, .string v]] w fun e w' => ((∃ t, IdxR k v t ∧ e = .returned (.tuple #[.string t.1, .int .i64 t.2.1, .int .i64 t.2.2.1, .string t.2.2.2, .int .i64 0])) ∨ ((∀ t, ¬ IdxR k v t) ∧ e = .returned (.tuple #[.string ⟨#[]⟩, .int .i64 0, .int .i64 0, .string ⟨#[]⟩, .int .i64 141]))) ∧ Own E w' L := by
  by_cases h10 : k.size < 10
  · exact xidx_short k v w h10 h
  · obtain ⟨⟨l⟩⟩ := k
    have hs : (⟨⟨l⟩⟩ : ByteArray).size = l.length := rfl
    cases l with
    | nil => exact absurd (show (⟨⟨[]⟩⟩ : ByteArray).size < 10 from by show (0 : Nat) < 10; omega) h10
    | cons t R =>
      by_cases h1 : t = 109
      · subst h1; exact xidx_m R v w (Nat.le_of_not_lt h10) hk hv h
      by_cases h2 : t = 120
      · subst h2; exact xidx_x R v w (Nat.le_of_not_lt h10) hk hv h
      by_cases h3 : t = 115
      · subst h3; exact xidx_s R v w (Nat.le_of_not_lt h10) hk hv h
      exact xidx_other t R v w (Nat.le_of_not_lt h10) hk hv h1 h2 h3 h
end
end Go.Proofs.YtabibfabieghpaaGreatDoor
