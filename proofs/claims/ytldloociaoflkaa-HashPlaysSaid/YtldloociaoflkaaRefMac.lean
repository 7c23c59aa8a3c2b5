/- latchkeyref01.MAC. -/
import Derived.Test.YtldloociaoflkaaRefTop2
import Derived.Test.YtldloociaoflkaaAffine
namespace Go.Proofs.Ytldloociaoflkaa
open Go.RowKit
theorem padded_len (k : List UInt8) (x : UInt8) (h : k.length ≤ 64) : (Sha.padded k x).length = 64 := by simp [Sha.padded]; omega
theorem padded_get (K : List UInt8) (x : UInt8) (k : Nat) (h : K.length ≤ 64) (hk : k < 64) : (Sha.padded K x)[k]'(by rw [padded_len K x h]; exact hk) = K.getD k 0 ^^^ x := by
  simp only [Sha.padded, List.getElem_map]
  congr 1
  by_cases hl : k < K.length
  · rw [List.getElem_append_left hl]
    simp [List.getD, hl]
  · rw [List.getElem_append_right (by omega)]
    simp [List.getD, hl]
theorem xor92 (y : UInt8) : bits .xor .u8 (y.toNat : Int) 92 = ((y ^^^ 92).toNat : Int) := xor_bytes y 92
theorem xor54 (y : UInt8) : bits .xor .u8 (y.toNat : Int) 54 = ((y ^^^ 54).toNat : Int) := xor_bytes y 54
theorem curOf_len (z : List UInt8) (k : Nat) : (curOf z k).length = z.length := by simp [curOf]; omega
set_option maxRecDepth 100000 in
set_option maxHeartbeats 4000000 in
theorem refmac_any {E : World} {L : List Hp} (key text : ByteArray) (w : World) (hk : key.size ≤ 140737488354000) (ht : text.size ≤ 140737488354000) (h : Own E w L) :
    Calls Try.prog 19 #[.string key, .string text] w fun e w' => e = .returned (.string ⟨(Sha.mac key.data.toList text.data.toList).toArray⟩) ∧ Own E w' L := by
  obtain ⟨K, hK⟩ : ∃ K : ByteArray, K = ⟨(Sha.key key.data.toList).toArray⟩ := ⟨_, rfl⟩
  have hK2 : K.data.toList = Sha.key key.data.toList := by rw [hK]
  have hKs : K.size ≤ 64 := by
    have e : K.size = (Sha.key key.data.toList).length := by rw [hK]; rfl
    rw [e]
    unfold Sha.key
    split
    · rw [Sha.sum_length]; omega
    · omega
  have hF : Sha.mac key.data.toList text.data.toList = Sha.sum (Sha.padded K.data.toList 92 ++ Sha.sum (Sha.padded K.data.toList 54 ++ text.data.toList)) := by rw [hK2]; rfl
  have HF := Lib.hid hF
  clear hF hK2
  by_cases hlong : 64 < key.size
  · have hk3 : K = ⟨(Sha.sum key.data.toList).toArray⟩ := by
      rw [hK]
      unfold Sha.key
      rw [if_pos (show 64 < key.data.toList.length from hlong)]
    have HK := Lib.hid hk3
    clear hk3 hK
    go_enter Try.func19, Try.ntmps19
    go_wp2_with fail
    refine (refsum_any key _ (by omega) h).mono ?_
    rintro e w1 ⟨rfl, h1⟩
    rw [← HK.out]
    clear h hlong HK
    obtain ⟨w2, hmk0, -, h2, -⟩ := sl_make (P := Try.prog) (T := BT) (e := U8) (z := .int .u8 0) (bytes := 1) (by kernel_rfl) u8_info rfl .i64 .i64 64 64 (by omega) (by omega) (by unfold maxLen; omega) h1
    obtain ⟨w3, hmk1, -, h3, -⟩ := sl_make (P := Try.prog) (T := BT) (e := U8) (z := .int .u8 0) (bytes := 1) (by kernel_rfl) u8_info rfl .i64 .i64 64 64 (by omega) (by omega) (by unfold maxLen; omega) h2
    generalize w2.heap.size = g2 at *
    generalize w1.heap.size = g1 at *
    have hmk2 : (Instr.makeSlice BT (.int .i64 64) (.int .i64 64)).run Try.prog w1 = .ok (.slice (some ⟨g1, 0, none⟩) 64 64) w2 := hmk0
    have hmk3 : (Instr.makeSlice BT (.int .i64 64) (.int .i64 64)).run Try.prog w2 = .ok (.slice (some ⟨g2, 0, none⟩) 64 64) w3 := hmk1
    clear hmk0 hmk1
    have hKl : K.data.toList.length ≤ 64 := hKs
    obtain ⟨O, hO⟩ : ∃ O, O = Sha.padded K.data.toList 92 := ⟨_, rfl⟩
    obtain ⟨I, hI⟩ : ∃ I, I = Sha.padded K.data.toList 54 := ⟨_, rfl⟩
    have lO : O.length = 64 := by rw [hO]; exact padded_len _ _ hKl
    have lI : I.length = 64 := by rw [hI]; exact padded_len _ _ hKl
    have gO : ∀ k (hk : k < O.length), O[k] = K.data.toList.getD k 0 ^^^ 92 := fun k hk => by subst hO; exact padded_get _ _ _ hKl (by rw [lO] at hk; exact hk)
    have gI : ∀ k (hk : k < I.length), I[k] = K.data.toList.getD k 0 ^^^ 54 := fun k hk => by subst hI; exact padded_get _ _ _ hKl (by rw [lI] at hk; exact hk)
    rw [← hO, ← hI] at HF
    have z0 : (curOf O 0).map V8' = List.replicate 64 (.int .u8 0) := by unfold curOf; rw [lO]; rfl
    have z1 : (curOf I 0).map V8' = List.replicate 64 (.int .u8 0) := by unfold curOf; rw [lI]; rfl
    have h4 : Own E w3 (Hp.row U8 1 (.slice (some ⟨g2, 0, none⟩) 64 64) 64 ((curOf I 0).map V8') :: Hp.row U8 1 (.slice (some ⟨g1, 0, none⟩) 64 64) 64 ((curOf O 0).map V8') :: L) := by
      rw [z0, z1]; exact h3
    have H4 := Lib.hid h4
    have LO := Lib.hid lO
    have LI := Lib.hid lI
    have GO := Lib.hid gO
    have GI := Lib.hid gI
    clear h4 h3 h2 h1 lO lI gO gI z0 z1 hO hI
    go_wp2_with (first | (refine wpList_make_run (o := ⟨some 16, _, _, _, _, _⟩) hmk2 rfl rfl rfl rfl ?_; clear hmk2) | (refine wpList_make_run (o := ⟨some 17, _, _, _, _, _⟩) hmk3 rfl rfl rfl rfl ?_; clear hmk3))
    go_loopw [8] (fun i wr => ∃ k : Nat, k ≤ 64 ∧ i = .int .i64 k ∧ Own E wr (Hp.row U8 1 (.slice (some ⟨g2, 0, none⟩) 64 64) 64 ((curOf I k).map V8') :: Hp.row U8 1 (.slice (some ⟨g1, 0, none⟩) 64 64) 64 ((curOf O k).map V8') :: L)) (fun i _ => 64 - (intOf i).toNat)
    case atStart => exact ⟨0, by omega, rfl, H4.out⟩
    case round =>
      obtain ⟨k, hk64, rfl, hw⟩ := hrel
      clear H4
      by_cases hlt : k < 64
      · have hkO : k < O.length := by rw [LO.out]; exact hlt
        have hkI : k < I.length := by rw [LI.out]; exact hlt
        have eO := GO.out k hkO
        have eI := GI.out k hkI
        obtain ⟨g1', hg1, c1, f1, h5⟩ := hw.f1.rowSet k hlt (V8' O[k])
        injection hg1 with hg1
        injection hg1 with hg1
        subst hg1
        rw [curOf_set O k hkO] at h5
        obtain ⟨g2', hg2, c2, f2, h6⟩ := h5.f1.rowSet k hlt (V8' I[k])
        injection hg2 with hg2
        injection hg2 with hg2
        subst hg2
        rw [curOf_set I k hkI] at h6
        have H6 := Lib.hid h6
        clear hw h5 h6
        generalize O[k] = o at *
        generalize I[k] = p at *
        have i1 : (0 : Int) ≤ (k : Int) := by omega
        have i2 : (k : Int) < 64 := by omega
        by_cases hkk : k < K.size
        · have hix := byte_index K (k : Int) k rfl hkk
          generalize K.data.toList.getD k 0 = y at *
          have q1 := xor92 y
          have q2 := xor54 y
          rw [← eO] at q1
          rw [← eI] at q2
          clear eO eI
          go_wp2_with fail
          go_roundw
          case rel => exact ⟨k + 1, by omega, by go_num, H6.out⟩
          case measure => simp [intOf]; omega
        · have hy : K.data.toList.getD k 0 = 0 := by
            rw [List.getD_eq_getElem?_getD, List.getElem?_eq_none (show K.data.toList.length ≤ k by
              have : K.data.toList.length = K.size := rfl
              omega)]
            rfl
          rw [hy] at eO eI
          have q1 : bits .xor .u8 0 92 = (o.toNat : Int) := by rw [eO]; exact xor92 0
          have q2 : bits .xor .u8 0 54 = (p.toNat : Int) := by rw [eI]; exact xor54 0
          clear eO eI hy
          go_wp2_with fail
          go_roundw
          case rel => exact ⟨k + 1, by omega, by go_num, H6.out⟩
          case measure => simp [intOf]; omega
      · obtain rfl : k = 64 := by omega
        have e1 : curOf O 64 = O := by have := curOf_all O; rw [LO.out] at this; exact this
        have e2 : curOf I 64 = I := by have := curOf_all I; rw [LI.out] at this; exact this
        rw [e1, e2] at hw
        obtain ⟨BO, hBO⟩ : ∃ B : ByteArray, B = ⟨O.toArray⟩ := ⟨_, rfl⟩
        obtain ⟨BI, hBI⟩ : ∃ B : ByteArray, B = ⟨I.toArray⟩ := ⟨_, rfl⟩
        have hrO : ∀ W, Own E W (Hp.row U8 1 (.slice (some ⟨g2, 0, none⟩) 64 64) 64 (I.map V8') :: Hp.row U8 1 (.slice (some ⟨g1, 0, none⟩) 64 64) 64 (O.map V8') :: L) → (convert BT ST (.slice (some ⟨g1, 0, none⟩) 64 64)).run Try.prog W = .ok (.string BO) W := fun W hW => by
          rw [hBO]; exact hW.f1.rowString (P := Try.prog) (src := BT) (dst := ST) (e := U8) (by kernel_rfl) (by kernel_rfl) (by kernel_rfl)
        have hrI : ∀ W, Own E W (Hp.row U8 1 (.slice (some ⟨g2, 0, none⟩) 64 64) 64 (I.map V8') :: Hp.row U8 1 (.slice (some ⟨g1, 0, none⟩) 64 64) 64 (O.map V8') :: L) → (convert BT ST (.slice (some ⟨g2, 0, none⟩) 64 64)).run Try.prog W = .ok (.string BI) W := fun W hW => by
          rw [hBI]; exact hW.rowString (P := Try.prog) (src := BT) (dst := ST) (e := U8) (by kernel_rfl) (by kernel_rfl) (by kernel_rfl)
        have sO : BO.size = 64 := by
          have e : BO.size = O.length := by rw [hBO]; rfl
          rw [e, LO.out]
        have sI : BI.size = 64 := by
          have e : BI.size = I.length := by rw [hBI]; rfl
          rw [e, LI.out]
        obtain ⟨D, hD⟩ : ∃ D : ByteArray, D = ⟨(Sha.sum (I ++ text.data.toList)).toArray⟩ := ⟨_, rfl⟩
        have sD : D.size = 32 := by rw [hD]; rfl
        have dI : (BI ++ text).data.toList = I ++ text.data.toList := by rw [app_data, hBI]
        have dO : (BO ++ D).data.toList = O ++ Sha.sum (I ++ text.data.toList) := by rw [app_data, hBO, hD]
        have zI : (BI ++ text).size ≤ 140737488355000 := by rw [ByteArray.size_append, sI]; omega
        have zO : (BO ++ D).size ≤ 140737488355000 := by rw [ByteArray.size_append, sO, sD]; omega
        have hc1 : ¬ 9223372036854775807 < BI.size + text.size := by omega
        have hc2 : ¬ 9223372036854775807 < BO.size + D.size := by omega
        have HW := Lib.hid hw
        have HRO := Lib.hid hrO
        have HRI := Lib.hid hrI
        have HD := Lib.hid hD
        have DI := Lib.hid dI
        have DO := Lib.hid dO
        have ZI := Lib.hid zI
        have ZO := Lib.hid zO
        clear hw hrO hrI hD dI dO zI zO sO sI sD hBO hBI e1 e2 hlt
        go_wp2_with fail
        refine wp_region_text [1, 3] (fun w' => (convert BT ST (.slice (some ⟨g1, 0, none⟩) 64 64)).run Try.prog w' = .ok (.string BO) w' ∧ (convert BT ST (.slice (some ⟨g2, 0, none⟩) 64 64)).run Try.prog w' = .ok (.string BI) w') (by kernel_rfl) ?_ (fun hS => ?_)
        · exact ⟨HRO.out _ HW.out.drew, HRI.out _ HW.out.drew⟩
        refine wpAnyG_pure (i := 0) (oi := ⟨some 39, _, _, _, _, _⟩) (v := ?_) rfl (by kernel_rfl) (by kernel_rfl) (by kernel_rfl) (by rfl) (fun _ _ _ h => h) (by rfl) ?_ ?_
        rotate_left
        · intro w
          go_simp
          first | done | with_reducible rfl
        try simp only [Act.put, List.setIfInBounds_toArray, List.set_cons_zero, List.set_cons_succ]
        refine wpAnyG_load (i := 1) (oi := ⟨some 40, _, _, _, _, _⟩) (v := (.string BO)) rfl (by kernel_rfl) (by kernel_rfl) (by kernel_rfl) (by rfl) (fun _ _ _ h => h) (by rfl) ?_ (by assumption) ?_
        · intro w hS
          exact exec_conv_run hS.1 rfl (by rfl)
        try simp only [Act.put, List.setIfInBounds_toArray, List.set_cons_zero, List.set_cons_succ]
        refine wpAnyG_pure (i := 2) (oi := ⟨some 41, _, _, _, _, _⟩) (v := ?_) rfl (by kernel_rfl) (by kernel_rfl) (by kernel_rfl) (by rfl) (fun _ _ _ h => h) (by rfl) ?_ ?_
        rotate_left
        · intro w
          go_simp
          first | done | with_reducible rfl
        try simp only [Act.put, List.setIfInBounds_toArray, List.set_cons_zero, List.set_cons_succ]
        refine wpAnyG_load (i := 3) (oi := ⟨some 42, _, _, _, _, _⟩) (v := (.string BI)) rfl (by kernel_rfl) (by kernel_rfl) (by kernel_rfl) (by rfl) (fun _ _ _ h => h) (by rfl) ?_ (by assumption) ?_
        · intro w hS
          exact exec_conv_run hS.2 rfl (by rfl)
        try simp only [Act.put, List.setIfInBounds_toArray, List.set_cons_zero, List.set_cons_succ]
        refine wpAnyG_pure (i := 4) (oi := ⟨some 43, _, _, _, _, _⟩) (v := ?_) rfl (by kernel_rfl) (by kernel_rfl) (by kernel_rfl) (by rfl) (fun _ _ _ h => h) (by rfl) ?_ ?_
        rotate_left
        · intro w
          go_simp
          first | done | with_reducible rfl
        try simp only [Act.put, List.setIfInBounds_toArray, List.set_cons_zero, List.set_cons_succ]
        refine wpAnyG_pure (i := 5) (oi := ⟨some 44, _, _, _, _, _⟩) (v := ?_) rfl (by kernel_rfl) (by kernel_rfl) (by kernel_rfl) (by rfl) (fun _ _ _ h => h) (by rfl) ?_ ?_
        rotate_left
        · intro w
          go_simp
          first | done | with_reducible rfl
        try simp only [Act.put, List.setIfInBounds_toArray, List.set_cons_zero, List.set_cons_succ]
        refine wpAnyG_keep (i := 6) (oi := ⟨some 45, _, _, _, _, _⟩) (by kernel_rfl) rfl (fun K hK => ?_)
        rw [if_pos (by rfl)]
        go_simp
        refine (refsum_any (BI ++ text) _ ZI.out (by exact HW.out)).mono ?_
        rintro e w7 ⟨rfl, h7⟩
        rw [DI.out, ← HD.out]
        refine hK.out _ _ ?_ (fun hS => ?_)
        · exact ⟨HRO.out _ h7, HRI.out _ h7⟩
        clear hK K
        try simp only [Act.put, List.setIfInBounds_toArray, List.set_cons_zero, List.set_cons_succ]
        refine wpAnyG_pure (i := 7) (oi := ⟨some 46, _, _, _, _, _⟩) (v := ?_) rfl (by kernel_rfl) (by kernel_rfl) (by kernel_rfl) (by rfl) (fun _ _ _ h => h) (by rfl) ?_ ?_
        rotate_left
        · intro w
          go_simp
          first | done | with_reducible rfl
        try simp only [Act.put, List.setIfInBounds_toArray, List.set_cons_zero, List.set_cons_succ]
        refine wpAnyG_keep (i := 8) (oi := ⟨some 47, _, _, _, _, _⟩) (by kernel_rfl) rfl (fun K hK => ?_)
        rw [if_pos (by rfl)]
        go_simp
        refine (refsum_any (BO ++ D) _ ZO.out (by exact h7)).mono ?_
        rintro e w8 ⟨rfl, h8⟩
        rw [DO.out, ← HF.out]
        refine hK.out _ _ ?_ (fun hS => ?_)
        · exact ⟨HRO.out _ h8, HRI.out _ h8⟩
        clear hK K
        try simp only [Act.put, List.setIfInBounds_toArray, List.set_cons_zero, List.set_cons_succ]
        refine wpAnyG_pure (i := 9) (oi := ⟨some 4, _, _, _, _, _⟩) (v := ?_) rfl (by kernel_rfl) (by kernel_rfl) (by kernel_rfl) (by rfl) (fun _ _ _ h => h) (by rfl) ?_ ?_
        rotate_left
        · intro w
          go_simp
          first | done | with_reducible rfl
        try simp only [Act.put, List.setIfInBounds_toArray, List.set_cons_zero, List.set_cons_succ]
        refine wpAnyG_done (by kernel_rfl) ?_ _
        refine NoPanic.normal ?_
        go_wp2_with fail
        go_ret
        exact ⟨rfl, h8.drop.drop⟩
  · have hk3 : K = key := by
      rw [hK]
      unfold Sha.key
      rw [if_neg (show ¬ 64 < key.data.toList.length from hlong)]
    obtain rfl := hk3
    have h1 := h
    clear hK h
    go_enter Try.func19, Try.ntmps19
    obtain ⟨w2, hmk0, -, h2, -⟩ := sl_make (P := Try.prog) (T := BT) (e := U8) (z := .int .u8 0) (bytes := 1) (by kernel_rfl) u8_info rfl .i64 .i64 64 64 (by omega) (by omega) (by unfold maxLen; omega) h1
    obtain ⟨w3, hmk1, -, h3, -⟩ := sl_make (P := Try.prog) (T := BT) (e := U8) (z := .int .u8 0) (bytes := 1) (by kernel_rfl) u8_info rfl .i64 .i64 64 64 (by omega) (by omega) (by unfold maxLen; omega) h2
    generalize w2.heap.size = g2 at *
    generalize w.heap.size = g1 at *
    have hmk2 : (Instr.makeSlice BT (.int .i64 64) (.int .i64 64)).run Try.prog w = .ok (.slice (some ⟨g1, 0, none⟩) 64 64) w2 := hmk0
    have hmk3 : (Instr.makeSlice BT (.int .i64 64) (.int .i64 64)).run Try.prog w2 = .ok (.slice (some ⟨g2, 0, none⟩) 64 64) w3 := hmk1
    clear hmk0 hmk1
    have hKl : K.data.toList.length ≤ 64 := hKs
    obtain ⟨O, hO⟩ : ∃ O, O = Sha.padded K.data.toList 92 := ⟨_, rfl⟩
    obtain ⟨I, hI⟩ : ∃ I, I = Sha.padded K.data.toList 54 := ⟨_, rfl⟩
    have lO : O.length = 64 := by rw [hO]; exact padded_len _ _ hKl
    have lI : I.length = 64 := by rw [hI]; exact padded_len _ _ hKl
    have gO : ∀ k (hk : k < O.length), O[k] = K.data.toList.getD k 0 ^^^ 92 := fun k hk => by subst hO; exact padded_get _ _ _ hKl (by rw [lO] at hk; exact hk)
    have gI : ∀ k (hk : k < I.length), I[k] = K.data.toList.getD k 0 ^^^ 54 := fun k hk => by subst hI; exact padded_get _ _ _ hKl (by rw [lI] at hk; exact hk)
    rw [← hO, ← hI] at HF
    have z0 : (curOf O 0).map V8' = List.replicate 64 (.int .u8 0) := by unfold curOf; rw [lO]; rfl
    have z1 : (curOf I 0).map V8' = List.replicate 64 (.int .u8 0) := by unfold curOf; rw [lI]; rfl
    have h4 : Own E w3 (Hp.row U8 1 (.slice (some ⟨g2, 0, none⟩) 64 64) 64 ((curOf I 0).map V8') :: Hp.row U8 1 (.slice (some ⟨g1, 0, none⟩) 64 64) 64 ((curOf O 0).map V8') :: L) := by
      rw [z0, z1]; exact h3
    have H4 := Lib.hid h4
    have LO := Lib.hid lO
    have LI := Lib.hid lI
    have GO := Lib.hid gO
    have GI := Lib.hid gI
    clear h4 h3 h2 h1 lO lI gO gI z0 z1 hO hI
    go_wp2_with (first | (refine wpList_make_run (o := ⟨some 16, _, _, _, _, _⟩) hmk2 rfl rfl rfl rfl ?_; clear hmk2) | (refine wpList_make_run (o := ⟨some 17, _, _, _, _, _⟩) hmk3 rfl rfl rfl rfl ?_; clear hmk3))
    go_loopw [8] (fun i wr => ∃ k : Nat, k ≤ 64 ∧ i = .int .i64 k ∧ Own E wr (Hp.row U8 1 (.slice (some ⟨g2, 0, none⟩) 64 64) 64 ((curOf I k).map V8') :: Hp.row U8 1 (.slice (some ⟨g1, 0, none⟩) 64 64) 64 ((curOf O k).map V8') :: L)) (fun i _ => 64 - (intOf i).toNat)
    case atStart => exact ⟨0, by omega, rfl, H4.out⟩
    case round =>
      obtain ⟨k, hk64, rfl, hw⟩ := hrel
      clear H4
      by_cases hlt : k < 64
      · have hkO : k < O.length := by rw [LO.out]; exact hlt
        have hkI : k < I.length := by rw [LI.out]; exact hlt
        have eO := GO.out k hkO
        have eI := GI.out k hkI
        obtain ⟨g1', hg1, c1, f1, h5⟩ := hw.f1.rowSet k hlt (V8' O[k])
        injection hg1 with hg1
        injection hg1 with hg1
        subst hg1
        rw [curOf_set O k hkO] at h5
        obtain ⟨g2', hg2, c2, f2, h6⟩ := h5.f1.rowSet k hlt (V8' I[k])
        injection hg2 with hg2
        injection hg2 with hg2
        subst hg2
        rw [curOf_set I k hkI] at h6
        have H6 := Lib.hid h6
        clear hw h5 h6
        generalize O[k] = o at *
        generalize I[k] = p at *
        have i1 : (0 : Int) ≤ (k : Int) := by omega
        have i2 : (k : Int) < 64 := by omega
        by_cases hkk : k < K.size
        · have hix := byte_index K (k : Int) k rfl hkk
          generalize K.data.toList.getD k 0 = y at *
          have q1 := xor92 y
          have q2 := xor54 y
          rw [← eO] at q1
          rw [← eI] at q2
          clear eO eI
          go_wp2_with fail
          go_roundw
          case rel => exact ⟨k + 1, by omega, by go_num, H6.out⟩
          case measure => simp [intOf]; omega
        · have hy : K.data.toList.getD k 0 = 0 := by
            rw [List.getD_eq_getElem?_getD, List.getElem?_eq_none (show K.data.toList.length ≤ k by
              have : K.data.toList.length = K.size := rfl
              omega)]
            rfl
          rw [hy] at eO eI
          have q1 : bits .xor .u8 0 92 = (o.toNat : Int) := by rw [eO]; exact xor92 0
          have q2 : bits .xor .u8 0 54 = (p.toNat : Int) := by rw [eI]; exact xor54 0
          clear eO eI hy
          go_wp2_with fail
          go_roundw
          case rel => exact ⟨k + 1, by omega, by go_num, H6.out⟩
          case measure => simp [intOf]; omega
      · obtain rfl : k = 64 := by omega
        have e1 : curOf O 64 = O := by have := curOf_all O; rw [LO.out] at this; exact this
        have e2 : curOf I 64 = I := by have := curOf_all I; rw [LI.out] at this; exact this
        rw [e1, e2] at hw
        obtain ⟨BO, hBO⟩ : ∃ B : ByteArray, B = ⟨O.toArray⟩ := ⟨_, rfl⟩
        obtain ⟨BI, hBI⟩ : ∃ B : ByteArray, B = ⟨I.toArray⟩ := ⟨_, rfl⟩
        have hrO : ∀ W, Own E W (Hp.row U8 1 (.slice (some ⟨g2, 0, none⟩) 64 64) 64 (I.map V8') :: Hp.row U8 1 (.slice (some ⟨g1, 0, none⟩) 64 64) 64 (O.map V8') :: L) → (convert BT ST (.slice (some ⟨g1, 0, none⟩) 64 64)).run Try.prog W = .ok (.string BO) W := fun W hW => by
          rw [hBO]; exact hW.f1.rowString (P := Try.prog) (src := BT) (dst := ST) (e := U8) (by kernel_rfl) (by kernel_rfl) (by kernel_rfl)
        have hrI : ∀ W, Own E W (Hp.row U8 1 (.slice (some ⟨g2, 0, none⟩) 64 64) 64 (I.map V8') :: Hp.row U8 1 (.slice (some ⟨g1, 0, none⟩) 64 64) 64 (O.map V8') :: L) → (convert BT ST (.slice (some ⟨g2, 0, none⟩) 64 64)).run Try.prog W = .ok (.string BI) W := fun W hW => by
          rw [hBI]; exact hW.rowString (P := Try.prog) (src := BT) (dst := ST) (e := U8) (by kernel_rfl) (by kernel_rfl) (by kernel_rfl)
        have sO : BO.size = 64 := by
          have e : BO.size = O.length := by rw [hBO]; rfl
          rw [e, LO.out]
        have sI : BI.size = 64 := by
          have e : BI.size = I.length := by rw [hBI]; rfl
          rw [e, LI.out]
        obtain ⟨D, hD⟩ : ∃ D : ByteArray, D = ⟨(Sha.sum (I ++ text.data.toList)).toArray⟩ := ⟨_, rfl⟩
        have sD : D.size = 32 := by rw [hD]; rfl
        have dI : (BI ++ text).data.toList = I ++ text.data.toList := by rw [app_data, hBI]
        have dO : (BO ++ D).data.toList = O ++ Sha.sum (I ++ text.data.toList) := by rw [app_data, hBO, hD]
        have zI : (BI ++ text).size ≤ 140737488355000 := by rw [ByteArray.size_append, sI]; omega
        have zO : (BO ++ D).size ≤ 140737488355000 := by rw [ByteArray.size_append, sO, sD]; omega
        have hc1 : ¬ 9223372036854775807 < BI.size + text.size := by omega
        have hc2 : ¬ 9223372036854775807 < BO.size + D.size := by omega
        have HW := Lib.hid hw
        have HRO := Lib.hid hrO
        have HRI := Lib.hid hrI
        have HD := Lib.hid hD
        have DI := Lib.hid dI
        have DO := Lib.hid dO
        have ZI := Lib.hid zI
        have ZO := Lib.hid zO
        clear hw hrO hrI hD dI dO zI zO sO sI sD hBO hBI e1 e2 hlt
        go_wp2_with fail
        refine wp_region_text [1, 3] (fun w' => (convert BT ST (.slice (some ⟨g1, 0, none⟩) 64 64)).run Try.prog w' = .ok (.string BO) w' ∧ (convert BT ST (.slice (some ⟨g2, 0, none⟩) 64 64)).run Try.prog w' = .ok (.string BI) w') (by kernel_rfl) ?_ (fun hS => ?_)
        · exact ⟨HRO.out _ HW.out.drew, HRI.out _ HW.out.drew⟩
        refine wpAnyG_pure (i := 0) (oi := ⟨some 39, _, _, _, _, _⟩) (v := ?_) rfl (by kernel_rfl) (by kernel_rfl) (by kernel_rfl) (by rfl) (fun _ _ _ h => h) (by rfl) ?_ ?_
        rotate_left
        · intro w
          go_simp
          first | done | with_reducible rfl
        try simp only [Act.put, List.setIfInBounds_toArray, List.set_cons_zero, List.set_cons_succ]
        refine wpAnyG_load (i := 1) (oi := ⟨some 40, _, _, _, _, _⟩) (v := (.string BO)) rfl (by kernel_rfl) (by kernel_rfl) (by kernel_rfl) (by rfl) (fun _ _ _ h => h) (by rfl) ?_ (by assumption) ?_
        · intro w hS
          exact exec_conv_run hS.1 rfl (by rfl)
        try simp only [Act.put, List.setIfInBounds_toArray, List.set_cons_zero, List.set_cons_succ]
        refine wpAnyG_pure (i := 2) (oi := ⟨some 41, _, _, _, _, _⟩) (v := ?_) rfl (by kernel_rfl) (by kernel_rfl) (by kernel_rfl) (by rfl) (fun _ _ _ h => h) (by rfl) ?_ ?_
        rotate_left
        · intro w
          go_simp
          first | done | with_reducible rfl
        try simp only [Act.put, List.setIfInBounds_toArray, List.set_cons_zero, List.set_cons_succ]
        refine wpAnyG_load (i := 3) (oi := ⟨some 42, _, _, _, _, _⟩) (v := (.string BI)) rfl (by kernel_rfl) (by kernel_rfl) (by kernel_rfl) (by rfl) (fun _ _ _ h => h) (by rfl) ?_ (by assumption) ?_
        · intro w hS
          exact exec_conv_run hS.2 rfl (by rfl)
        try simp only [Act.put, List.setIfInBounds_toArray, List.set_cons_zero, List.set_cons_succ]
        refine wpAnyG_pure (i := 4) (oi := ⟨some 43, _, _, _, _, _⟩) (v := ?_) rfl (by kernel_rfl) (by kernel_rfl) (by kernel_rfl) (by rfl) (fun _ _ _ h => h) (by rfl) ?_ ?_
        rotate_left
        · intro w
          go_simp
          first | done | with_reducible rfl
        try simp only [Act.put, List.setIfInBounds_toArray, List.set_cons_zero, List.set_cons_succ]
        refine wpAnyG_pure (i := 5) (oi := ⟨some 44, _, _, _, _, _⟩) (v := ?_) rfl (by kernel_rfl) (by kernel_rfl) (by kernel_rfl) (by rfl) (fun _ _ _ h => h) (by rfl) ?_ ?_
        rotate_left
        · intro w
          go_simp
          first | done | with_reducible rfl
        try simp only [Act.put, List.setIfInBounds_toArray, List.set_cons_zero, List.set_cons_succ]
        refine wpAnyG_keep (i := 6) (oi := ⟨some 45, _, _, _, _, _⟩) (by kernel_rfl) rfl (fun K hK => ?_)
        rw [if_pos (by rfl)]
        go_simp
        refine (refsum_any (BI ++ text) _ ZI.out (by exact HW.out)).mono ?_
        rintro e w7 ⟨rfl, h7⟩
        rw [DI.out, ← HD.out]
        refine hK.out _ _ ?_ (fun hS => ?_)
        · exact ⟨HRO.out _ h7, HRI.out _ h7⟩
        clear hK K
        try simp only [Act.put, List.setIfInBounds_toArray, List.set_cons_zero, List.set_cons_succ]
        refine wpAnyG_pure (i := 7) (oi := ⟨some 46, _, _, _, _, _⟩) (v := ?_) rfl (by kernel_rfl) (by kernel_rfl) (by kernel_rfl) (by rfl) (fun _ _ _ h => h) (by rfl) ?_ ?_
        rotate_left
        · intro w
          go_simp
          first | done | with_reducible rfl
        try simp only [Act.put, List.setIfInBounds_toArray, List.set_cons_zero, List.set_cons_succ]
        refine wpAnyG_keep (i := 8) (oi := ⟨some 47, _, _, _, _, _⟩) (by kernel_rfl) rfl (fun K hK => ?_)
        rw [if_pos (by rfl)]
        go_simp
        refine (refsum_any (BO ++ D) _ ZO.out (by exact h7)).mono ?_
        rintro e w8 ⟨rfl, h8⟩
        rw [DO.out, ← HF.out]
        refine hK.out _ _ ?_ (fun hS => ?_)
        · exact ⟨HRO.out _ h8, HRI.out _ h8⟩
        clear hK K
        try simp only [Act.put, List.setIfInBounds_toArray, List.set_cons_zero, List.set_cons_succ]
        refine wpAnyG_pure (i := 9) (oi := ⟨some 4, _, _, _, _, _⟩) (v := ?_) rfl (by kernel_rfl) (by kernel_rfl) (by kernel_rfl) (by rfl) (fun _ _ _ h => h) (by rfl) ?_ ?_
        rotate_left
        · intro w
          go_simp
          first | done | with_reducible rfl
        try simp only [Act.put, List.setIfInBounds_toArray, List.set_cons_zero, List.set_cons_succ]
        refine wpAnyG_done (by kernel_rfl) ?_ _
        refine NoPanic.normal ?_
        go_wp2_with fail
        go_ret
        exact ⟨rfl, h8.drop.drop⟩
end Go.Proofs.Ytldloociaoflkaa
