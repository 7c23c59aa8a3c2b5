/- RecordOrder: the walk, over contracts that are given (printed by gen_order.py). -/
import Derived.Test.YtabibfabieghpaaGreatDoorOrdLaw
import Derived.Deep.Cut
import Derived.Test.YtabibfabieghpaaGreatDoorFar
namespace Go.Proofs.YtabibfabieghpaaGreatDoor
open Go.RowKit
theorem Laid0.mid {E : World} {A B : Hp} {L : List Hp} (h : Laid0 E (A :: L)) : Laid0 E (A :: B :: L) := fun _ hw => h _ hw.f1.drop
theorem arr_self (l : List Value) : ∀ j u, l[j]? = some u → l.toArray[0 + j]? = some u := fun j u hu => by rw [Nat.zero_add]; simpa using hu
theorem pair_at (a b c d : Value) : ∀ j u, ([a, b] : List Value)[j]? = some u → (#[a, b, c, d] : Array Value)[0 + j]? = some u := fun j u hu => by
  match j, hu with
  | 0, hu => simpa using hu
  | 1, hu => simpa using hu
theorem pair_at2 (a b c d : Value) : ∀ j u, ([c, d] : List Value)[j]? = some u → (#[a, b, c, d] : Array Value)[2 + j]? = some u := fun j u hu => by
  match j, hu with
  | 0, hu => simpa using hu
  | 1, hu => simpa using hu
section
variable {E : World} {S : Ph} {L : List Hp}
set_option maxRecDepth 20000 in
set_option maxHeartbeats 8000000 in
theorem order_walk (CA CB CT CU : List Value) (ida idb : Int) (sua sub ka va kb vb : ByteArray) (ea eb ta tb tc ua ub uc : Int) (kt vt ku vu : ByteArray) (et eu : Int) (w : World)
    (hlA : CA.length = 14) (hlB : CB.length = 14) (hlT : CT.length = 9) (hlU : CU.length = 9)
    (a0 : CA.toArray[0]? = some (.int .i64 ida)) (a2 : CA.toArray[2]? = some (.string sua)) (b0 : CB.toArray[0]? = some (.int .i64 idb)) (b2 : CB.toArray[2]? = some (.string sub))
    (t0 : CT.toArray[0]? = some (.int .i64 ta)) (t1 : CT.toArray[1]? = some (.int .i64 tb)) (t2 : CT.toArray[2]? = some (.int .i64 tc)) (u0 : CU.toArray[0]? = some (.int .i64 ua)) (u1 : CU.toArray[1]? = some (.int .i64 ub)) (u2 : CU.toArray[2]? = some (.int .i64 uc))
    (P1 : ∀ (M : List Hp) (w : World), Laid0 E (Hp.ro S :: M) → Own E w (Hp.ro S :: M) → Calls Tryz.prog 28 #[.agg CA.toArray] w fun ev w' => ev = .returned (.tuple #[.agg #[.string ka, .string va], .int .i64 ea]) ∧ Own E w' (Hp.ro S :: M))
    (P2 : ∀ (M : List Hp) (w : World), Laid0 E (Hp.ro S :: M) → Own E w (Hp.ro S :: M) → Calls Tryz.prog 28 #[.agg CB.toArray] w fun ev w' => ev = .returned (.tuple #[.agg #[.string kb, .string vb], .int .i64 eb]) ∧ Own E w' (Hp.ro S :: M))
    (T1 : ∀ (M : List Hp) (w : World), Laid0 E M → Own E w M → Calls Tryz.prog 11 #[.agg CT.toArray] w fun ev w' => ev = .returned (.tuple #[.agg #[.string kt, .string vt], .int .i64 et]) ∧ Own E w' M)
    (T2 : ∀ (M : List Hp) (w : World), Laid0 E M → Own E w M → Calls Tryz.prog 11 #[.agg CU.toArray] w fun ev w' => ev = .returned (.tuple #[.agg #[.string ku, .string vu], .int .i64 eu]) ∧ Own E w' M)
    (HEa : ea = 0 ∨ ea = 140) (HEb : eb = 0 ∨ eb = 140) (HEt : et = 0 ∨ et = 140) (HEu : eu = 0 ∨ eu = 140)
    (BF : ea = 0 → eb = 0 → ∃ (xa sa xb sb : ByteArray) (m n : Int), (∀ (M : List Hp) (w : World), Laid0 E (Hp.ro S :: M) → Own E w (Hp.ro S :: M) → Calls Tryz.prog 29 #[.agg CA.toArray] w fun ev w' => ∃ g, ev = .returned (.tuple #[.slice (some ⟨g, 0, none⟩) 2 2, .int .i64 0]) ∧ Own E w' (Hp.blk g ITT #[.string xa, .string ⟨#[]⟩, .string sa, .string ⟨#[]⟩] :: Hp.ro S :: M)) ∧ (∀ (M : List Hp) (w : World), Laid0 E (Hp.ro S :: M) → Own E w (Hp.ro S :: M) → Calls Tryz.prog 29 #[.agg CB.toArray] w fun ev w' => ∃ g, ev = .returned (.tuple #[.slice (some ⟨g, 0, none⟩) 2 2, .int .i64 0]) ∧ Own E w' (Hp.blk g ITT #[.string xb, .string ⟨#[]⟩, .string sb, .string ⟨#[]⟩] :: Hp.ro S :: M)) ∧ (∀ (M : List Hp) (w : World), Laid0 E M → Own E w M → Calls Tryz.prog 30 #[.agg CA.toArray] w fun ev w' => ev = .returned (.int .i64 m) ∧ Own E w' M) ∧ (∀ (M : List Hp) (w : World), Laid0 E M → Own E w M → Calls Tryz.prog 30 #[.agg CB.toArray] w fun ev w' => ev = .returned (.int .i64 n) ∧ Own E w' M) ∧ (Op.bytesLess (ka).toList (kb).toList = decide (ida < idb)) ∧ (Op.bytesLess (xa).toList (xb).toList = decide (m < n ∨ m = n ∧ ida < idb)) ∧ (sua = sub → Op.bytesLess (sa).toList (sb).toList = decide (ida < idb)) ∧ (∀ (M : List Hp) (w : World), Laid0 E M → Own E w M → Calls Tryz.prog 31 #[.agg #[.string xa, .string ⟨#[]⟩]] w fun ev w' => ev = .returned (.tuple #[.string ⟨#[120]⟩, .int .i64 m, .int .i64 ida, .string ⟨#[]⟩, .int .i64 0]) ∧ Own E w' M) ∧ (∀ (M : List Hp) (w : World), Laid0 E M → Own E w M → Calls Tryz.prog 31 #[.agg #[.string sa, .string ⟨#[]⟩]] w fun ev w' => ev = .returned (.tuple #[.string ⟨#[115]⟩, .int .i64 0, .int .i64 ida, .string sua, .int .i64 0]) ∧ Own E w' M))
    (BT : et = 0 → eu = 0 → ∃ (xt yt xu yu : ByteArray), (∀ (M : List Hp) (w : World), Laid0 E M → Own E w M → Calls Tryz.prog 14 #[.agg CT.toArray] w fun ev w' => ev = .returned (.tuple #[.agg #[.string xt, .string yt], .int .i64 0]) ∧ Own E w' M) ∧ (∀ (M : List Hp) (w : World), Laid0 E M → Own E w M → Calls Tryz.prog 14 #[.agg CU.toArray] w fun ev w' => ev = .returned (.tuple #[.agg #[.string xu, .string yu], .int .i64 0]) ∧ Own E w' M) ∧ (Op.bytesLess (kt).toList (ku).toList = decide (ta < ua)) ∧ (Op.bytesLess (xt).toList (xu).toList = decide (tb < ub ∨ tb = ub ∧ tc < uc)) ∧ (∀ (M : List Hp) (w : World), Laid0 E M → Own E w M → Calls Tryz.prog 31 #[.agg #[.string xt, .string yt]] w fun ev w' => ev = .returned (.tuple #[.string ⟨#[109]⟩, .int .i64 tc, .int .i64 tb, .string yt, .int .i64 0]) ∧ Own E w' M))
    (hG : Laid0 E (Hp.ro S :: L)) (h : Own E w (Hp.ro S :: L)) :
    Calls Tryz.prog 4 #[.agg CA.toArray, .agg CB.toArray, .agg CT.toArray, .agg CU.toArray] w fun ev w' => ev = .returned (.bool true) ∧ Own E w' (Hp.ro S :: L) := by
  have h1 := h.alloc (.cells CA.toArray FMT)
  have h2 := h1.alloc (.cells CB.toArray FMT)
  have h3 := h2.alloc (.cells CT.toArray TOKT)
  have h4 := h3.alloc (.cells CU.toArray TOKT)
  simp only [alloc_size] at h4
  have H := Lib.hid (show Own E _ (Hp.ro S :: Hp.blk (w.heap.size + 1 + 1 + 1) TOKT CU.toArray :: Hp.blk (w.heap.size + 1 + 1) TOKT CT.toArray :: Hp.blk (w.heap.size + 1) FMT CB.toArray :: Hp.blk w.heap.size FMT CA.toArray :: L) from h4.f4)
  have HG := Lib.hid hG
  have AW : Hid (∀ (M : List Hp) (w : World), Laid0 E M → Own E w M → Calls Tryz.prog 10 #[] w fun ev w' => ev = .returned (.bool true) ∧ Own E w' M) := Lib.hid fun M w hG h => awake14_any w hG h
  obtain ⟨dF, hdF, hrF⟩ := fmt_u
  obtain ⟨dT, hdT, hrT⟩ := tokt_u
  obtain ⟨dP, hdP, hrP⟩ := itt_u
  have P1 := Lib.hid P1
  have P2 := Lib.hid P2
  have T1 := Lib.hid T1
  have T2 := Lib.hid T2
  have BF := Lib.hid BF
  have BT := Lib.hid BT
  have HA := Lib.hid (And.intro (And.intro a0 a2) (And.intro b0 b2))
  have HT := Lib.hid (And.intro (And.intro t0 (And.intro t1 t2)) (And.intro u0 (And.intro u1 u2)))
  have HEa := Lib.hid HEa
  have HEb := Lib.hid HEb
  have HEt := Lib.hid HEt
  have HEu := Lib.hid HEu
  clear h h1 h2 h3 h4 hG a0 a2 b0 b2 t0 t1 t2 u0 u1 u2
  go_enter Tryz.func4, Tryz.ntmps4
  go_upto_region 4 with (first
    | (with_reducible refine (AW.out _ _ (HG.out.mid.mid.mid.mid) H.out).mono ?_; clear H; rintro ev w0 ⟨rfl, h⟩; have H := Lib.hid h; clear h)
    | (with_reducible refine at_slot (k := some 43) ?_; refine wpList_load_arr (o := ⟨some 43, _, _, _, _, _⟩) H.out.f4 0 CA (arr_self _) hdF hrF (by rw [hlA]; kernel_rfl) rfl rfl rfl ?_)
    | (with_reducible refine (P1.out _ _ (HG.out.mid.mid.mid.mid) H.out).mono ?_; clear H P1; rintro ev wA ⟨rfl, h⟩; have H := Lib.hid (h.alloc (.cells #[.string ka, .string va] ITT)).f1; clear h)
    | (with_reducible refine at_slot (k := some 48) ?_; refine wpList_load_arr (o := ⟨some 48, _, _, _, _, _⟩) H.out.f4 0 CB (arr_self _) hdF hrF (by rw [hlB]; kernel_rfl) rfl rfl rfl ?_)
    | (with_reducible refine (P2.out _ _ (HG.out.mid.mid.mid.mid.mid) H.out).mono ?_; clear H P2; rintro ev wB ⟨rfl, h⟩; have H := Lib.hid (h.alloc (.cells #[.string kb, .string vb] ITT)).f1; clear h))
  obtain ⟨bb, hbb⟩ : ∃ bb : Bool, bb = decide (ea = 0 ∧ eb = 0) := ⟨_, rfl⟩
  go_cut [57] from 42 (fun x w' => x = .bool bb ∧ Own E w' (Hp.ro S :: Hp.blk wB.heap.size ITT #[.string kb, .string vb] :: Hp.blk wA.heap.size ITT #[.string ka, .string va] :: Hp.blk (w.heap.size + 1 + 1 + 1) TOKT CU.toArray :: Hp.blk (w.heap.size + 1 + 1) TOKT CT.toArray :: Hp.blk (w.heap.size + 1) FMT CB.toArray :: Hp.blk w.heap.size FMT CA.toArray :: L))
  case first => as_aux_lemma =>
    rcases HEa.out with rfl | rfl <;> rcases HEb.out with rfl | rfl
    all_goals
      go_wp2_with fail
      go_meet
      case rel => exact ⟨by rw [hbb]; rfl, H.out⟩
  case rest => as_aux_lemma =>
    obtain ⟨rfl, h⟩ := hcut
    clear H
    have H := Lib.hid h
    clear h
    go_upto_if 57 with fail
    go_cut [] from 14 (fun w' => Own E w' (Hp.ro S :: Hp.blk wB.heap.size ITT #[.string kb, .string vb] :: Hp.blk wA.heap.size ITT #[.string ka, .string va] :: Hp.blk (w.heap.size + 1 + 1 + 1) TOKT CU.toArray :: Hp.blk (w.heap.size + 1 + 1) TOKT CT.toArray :: Hp.blk (w.heap.size + 1) FMT CB.toArray :: Hp.blk w.heap.size FMT CA.toArray :: L))
    case first => as_aux_lemma =>
      cases bb with
      | false =>
        go_wp2_with fail
        go_meet
        case rel => exact H.out
      | true =>
        have hbb2 := of_decide_eq_true hbb.symm
        obtain ⟨xa, sa, xb, sb, m, n, O1, O2, E1, E2, L1, L2, L3, I1, I2⟩ := BF.out hbb2.1 hbb2.2
        have O1 := Lib.hid O1
        have O2 := Lib.hid O2
        have E1 := Lib.hid E1
        have E2 := Lib.hid E2
        have L2 := Lib.hid L2
        have L3 := Lib.hid L3
        have I1 := Lib.hid I1
        have I2 := Lib.hid I2
        have L1 := Lib.hid L1
        clear BF BT T1 T2 hbb hbb2
        go_upto_region 7 with (first
          | (with_reducible refine at_slot (k := some 59) ?_; refine wpList_load_arr (o := ⟨some 59, _, _, _, _, _⟩) H.out.f6 0 CA (arr_self _) hdF hrF (by rw [hlA]; kernel_rfl) rfl rfl rfl ?_)
          | (with_reducible refine (O1.out _ _ (HG.out.mid.mid.mid.mid.mid.mid) H.out).mono ?_; clear H O1; rintro ev w1 ⟨g1, rfl, h⟩; have H := Lib.hid h.f1; clear h)
          | (with_reducible refine at_slot (k := some 64) ?_; refine wpList_load_arr (o := ⟨some 64, _, _, _, _, _⟩) H.out.f6 0 CB (arr_self _) hdF hrF (by rw [hlB]; kernel_rfl) rfl rfl rfl ?_)
          | (with_reducible refine (O2.out _ _ (HG.out.mid.mid.mid.mid.mid.mid.mid) H.out).mono ?_; clear H O2; rintro ev w2 ⟨g2, rfl, h⟩; have H := Lib.hid h.f1; clear h))
        go_cut [96] from 18 (fun x w' => x = .bool false ∧ w' = w2)
        case first => as_aux_lemma =>
          have cc : w2.cell? ⟨wA.heap.size, 0, none⟩ = some (.string ka) ∧ w2.cell? ⟨wB.heap.size, 0, none⟩ = some (.string kb) ∧ w2.cell? ⟨w.heap.size, 0, none⟩ = some (.int .i64 ida) ∧ w2.cell? ⟨w.heap.size + 1, 0, none⟩ = some (.int .i64 idb) := ⟨(H.out.f4.cell 0).trans rfl, (H.out.f3.cell 0).trans rfl, (H.out.f8.cell 0).trans HA.out.1.1, (H.out.f7.cell 0).trans HA.out.2.1⟩; obtain ⟨k1, k2, k3, k4⟩ := cc
          by_cases hi : ida < idb
          · have l1 : Op.bytesLess ka.toList kb.toList = true := by rw [L1.out, decide_eq_true hi]
            go_wp2_with fail
            go_meet
            case rel => first | exact ⟨rfl, rfl⟩ | exact ⟨by simp [l1], rfl⟩ | exact ⟨by simp [l1, hi], rfl⟩
          · have l1 : Op.bytesLess ka.toList kb.toList = false := by rw [L1.out, decide_eq_false hi]
            go_wp2_with fail
            go_meet
            case rel => first | exact ⟨rfl, rfl⟩ | exact ⟨by simp [l1], rfl⟩ | exact ⟨by simp [l1, hi], rfl⟩
        case rest => as_aux_lemma =>
          obtain ⟨rfl, rfl⟩ := hcut
          go_upto_region 11 with (first
            | (with_reducible refine at_slot (k := some 97) ?_; refine wpList_load_arr (o := ⟨some 97, _, _, _, _, _⟩) H.out.f8 0 CA (arr_self _) hdF hrF (by rw [hlA]; kernel_rfl) rfl rfl rfl ?_)
            | (with_reducible refine (E1.out _ _ (HG.out.mid.mid.mid.mid.mid.mid.mid.mid) H.out).mono ?_; clear H E1; rintro ev w3 ⟨rfl, h⟩; have H := Lib.hid h; clear h)
            | (with_reducible refine at_slot (k := some 99) ?_; refine wpList_load_arr (o := ⟨some 99, _, _, _, _, _⟩) H.out.f7 0 CB (arr_self _) hdF hrF (by rw [hlB]; kernel_rfl) rfl rfl rfl ?_)
            | (with_reducible refine (E2.out _ _ (HG.out.mid.mid.mid.mid.mid.mid.mid.mid) H.out).mono ?_; clear H E2; rintro ev w4 ⟨rfl, h⟩; have H := Lib.hid h; clear h))
          go_cut [125] from 20 (fun x w' => x = .bool false ∧ Own E w' (Hp.ro S :: Hp.blk g2 ITT #[.string xb, .string ⟨#[]⟩, .string sb, .string ⟨#[]⟩] :: Hp.blk g1 ITT #[.string xa, .string ⟨#[]⟩, .string sa, .string ⟨#[]⟩] :: Hp.blk wB.heap.size ITT #[.string kb, .string vb] :: Hp.blk wA.heap.size ITT #[.string ka, .string va] :: Hp.blk (w.heap.size + 1 + 1 + 1) TOKT CU.toArray :: Hp.blk (w.heap.size + 1 + 1) TOKT CT.toArray :: Hp.blk (w.heap.size + 1) FMT CB.toArray :: Hp.blk w.heap.size FMT CA.toArray :: L))
          case first => as_aux_lemma =>
            have h := H.out.drew
            clear H
            have HC : ∀ w', Own E w' (Hp.ro S :: Hp.blk g2 ITT #[.string xb, .string ⟨#[]⟩, .string sb, .string ⟨#[]⟩] :: Hp.blk g1 ITT #[.string xa, .string ⟨#[]⟩, .string sa, .string ⟨#[]⟩] :: Hp.blk wB.heap.size ITT #[.string kb, .string vb] :: Hp.blk wA.heap.size ITT #[.string ka, .string va] :: Hp.blk (w.heap.size + 1 + 1 + 1) TOKT CU.toArray :: Hp.blk (w.heap.size + 1 + 1) TOKT CT.toArray :: Hp.blk (w.heap.size + 1) FMT CB.toArray :: Hp.blk w.heap.size FMT CA.toArray :: L) → (w'.cell? ⟨g1, 0, none⟩ = some (.string xa) ∧ w'.cell? ⟨g2, 0, none⟩ = some (.string xb) ∧ w'.cell? ⟨w.heap.size, 0, none⟩ = some (.int .i64 ida) ∧ w'.cell? ⟨w.heap.size + 1, 0, none⟩ = some (.int .i64 idb)) := fun w' h => ⟨(h.f2.cell 0).trans rfl, (h.f1.cell 0).trans rfl, (h.f8.cell 0).trans HA.out.1.1, (h.f7.cell 0).trans HA.out.2.1⟩
            have HC := Lib.hid HC
            rcases (by omega : m < n ∨ m = n ∨ n < m) with hmn | hmn | hmn
            · have l2 : Op.bytesLess xa.toList xb.toList = true := by rw [L2.out]; exact decide_eq_true (.inl hmn)
              refine wp_region_text [3, 7] (fun w' => w'.cell? ⟨g1, 0, none⟩ = some (.string xa) ∧ w'.cell? ⟨g2, 0, none⟩ = some (.string xb) ∧ w'.cell? ⟨w.heap.size, 0, none⟩ = some (.int .i64 ida) ∧ w'.cell? ⟨w.heap.size + 1, 0, none⟩ = some (.int .i64 idb)) (by kernel_rfl) ?_ (fun hS => ?_)
              · exact HC.out _ h
              refine wpAnyG_pure (i := 0) (oi := ⟨some 101, _, _, _, _, _⟩) (v := ?_) rfl (by kernel_rfl) (by kernel_rfl) (by kernel_rfl) (by rfl) (fun _ _ _ h => h) (by rfl) ?_ ?_
              rotate_left
              · intro w
                go_simp
                first | done | with_reducible rfl
              try simp only [Act.put, List.setIfInBounds_toArray, List.set_cons_zero, List.set_cons_succ]
              refine wpAnyG_pure (i := 1) (oi := ⟨some 102, _, _, _, _, _⟩) (v := ?_) rfl (by kernel_rfl) (by kernel_rfl) (by kernel_rfl) (by rfl) (fun _ _ _ h => h) (by rfl) ?_ ?_
              rotate_left
              · intro w
                go_simp
                first | done | with_reducible rfl
              try simp only [Act.put, List.setIfInBounds_toArray, List.set_cons_zero, List.set_cons_succ]
              refine wpAnyG_pure (i := 2) (oi := ⟨some 103, _, _, _, _, _⟩) (v := ?_) rfl (by kernel_rfl) (by kernel_rfl) (by kernel_rfl) (by rfl) (fun _ _ _ h => h) (by rfl) ?_ ?_
              rotate_left
              · intro w
                go_simp
                first | done | with_reducible rfl
              try simp only [Act.put, List.setIfInBounds_toArray, List.set_cons_zero, List.set_cons_succ]
              refine wpAnyG_load (i := 3) (oi := ⟨some 104, _, _, _, _, _⟩) (v := ?_) rfl (by kernel_rfl) (by kernel_rfl) (by kernel_rfl) (by rfl) (fun _ _ _ h => h) (by rfl) ?_ (by assumption) ?_
              rotate_left
              · intro w hS
                try dsimp only at hS
                go_simp
                first | done | with_reducible rfl
              try simp only [Act.put, List.setIfInBounds_toArray, List.set_cons_zero, List.set_cons_succ]
              refine wpAnyG_pure (i := 4) (oi := ⟨some 105, _, _, _, _, _⟩) (v := ?_) rfl (by kernel_rfl) (by kernel_rfl) (by kernel_rfl) (by rfl) (fun _ _ _ h => h) (by rfl) ?_ ?_
              rotate_left
              · intro w
                go_simp
                first | done | with_reducible rfl
              try simp only [Act.put, List.setIfInBounds_toArray, List.set_cons_zero, List.set_cons_succ]
              refine wpAnyG_pure (i := 5) (oi := ⟨some 106, _, _, _, _, _⟩) (v := ?_) rfl (by kernel_rfl) (by kernel_rfl) (by kernel_rfl) (by rfl) (fun _ _ _ h => h) (by rfl) ?_ ?_
              rotate_left
              · intro w
                go_simp
                first | done | with_reducible rfl
              try simp only [Act.put, List.setIfInBounds_toArray, List.set_cons_zero, List.set_cons_succ]
              refine wpAnyG_pure (i := 6) (oi := ⟨some 107, _, _, _, _, _⟩) (v := ?_) rfl (by kernel_rfl) (by kernel_rfl) (by kernel_rfl) (by rfl) (fun _ _ _ h => h) (by rfl) ?_ ?_
              rotate_left
              · intro w
                go_simp
                first | done | with_reducible rfl
              try simp only [Act.put, List.setIfInBounds_toArray, List.set_cons_zero, List.set_cons_succ]
              refine wpAnyG_load (i := 7) (oi := ⟨some 108, _, _, _, _, _⟩) (v := ?_) rfl (by kernel_rfl) (by kernel_rfl) (by kernel_rfl) (by rfl) (fun _ _ _ h => h) (by rfl) ?_ (by assumption) ?_
              rotate_left
              · intro w hS
                try dsimp only at hS
                go_simp
                first | done | with_reducible rfl
              try simp only [Act.put, List.setIfInBounds_toArray, List.set_cons_zero, List.set_cons_succ]
              refine wpAnyG_pure (i := 8) (oi := ⟨some 109, _, _, _, _, _⟩) (v := (.bool true)) rfl (by kernel_rfl) (by kernel_rfl) (by kernel_rfl) (by rfl) (fun _ _ _ h => h) (by rfl) ?_ ?_
              · intro w
                go_simp; first | done | exact l2 | omega | exact ⟨by omega, fun h => by omega⟩ | simp [l2]
              try simp only [Act.put, List.setIfInBounds_toArray, List.set_cons_zero, List.set_cons_succ]
              refine wpAnyG_pure (i := 9) (oi := ⟨some 110, _, _, _, _, _⟩) (v := ?_) rfl (by kernel_rfl) (by kernel_rfl) (by kernel_rfl) (by rfl) (fun _ _ _ h => h) (by rfl) ?_ ?_
              rotate_left
              · intro w
                go_simp
                first | done | with_reducible rfl
              try simp only [Act.put, List.setIfInBounds_toArray, List.set_cons_zero, List.set_cons_succ]
              refine wpAnyG_pure (i := 10) (oi := ⟨some 111, _, _, _, _, _⟩) (v := ?_) rfl (by kernel_rfl) (by kernel_rfl) (by kernel_rfl) (by rfl) (fun _ _ _ h => h) (by rfl) ?_ ?_
              rotate_left
              · intro w
                go_simp
                first | done | with_reducible rfl
              try simp only [Act.put, List.setIfInBounds_toArray, List.set_cons_zero, List.set_cons_succ]
              refine wpAnyG_pure (i := 11) (oi := ⟨some 112, _, _, _, _, _⟩) (v := (.bool true)) rfl (by kernel_rfl) (by kernel_rfl) (by kernel_rfl) (by rfl) (fun _ _ _ h => h) (by rfl) ?_ ?_
              · intro w
                go_simp; first | done | omega | (simp; omega)
              try simp only [Act.put, List.setIfInBounds_toArray, List.set_cons_zero, List.set_cons_succ]
              refine wpAnyG_pure (i := 12) (oi := ⟨some 113, _, _, _, _, _⟩) (v := ?_) rfl (by kernel_rfl) (by kernel_rfl) (by kernel_rfl) (by rfl) (fun _ _ _ h => h) (by rfl) ?_ ?_
              rotate_left
              · intro w
                go_simp
                first | done | with_reducible rfl
              try simp only [Act.put, List.setIfInBounds_toArray, List.set_cons_zero, List.set_cons_succ]
              refine wpAnyG_skip (i := 13) (oi := ⟨some 114, _, _, _, _, _⟩) rfl (by kernel_rfl) (by kernel_rfl) (by kernel_rfl) (by rfl) (fun _ _ _ h => h) (by rfl) ?_
              try simp only [Act.put, List.setIfInBounds_toArray, List.set_cons_zero, List.set_cons_succ]
              refine wpAnyG_skip (i := 14) (oi := ⟨some 115, _, _, _, _, _⟩) rfl (by kernel_rfl) (by kernel_rfl) (by kernel_rfl) (by rfl) (fun _ _ _ h => h) (by rfl) ?_
              try simp only [Act.put, List.setIfInBounds_toArray, List.set_cons_zero, List.set_cons_succ]
              refine wpAnyG_skip (i := 15) (oi := ⟨some 116, _, _, _, _, _⟩) rfl (by kernel_rfl) (by kernel_rfl) (by kernel_rfl) (by rfl) (fun _ _ _ h => h) (by rfl) ?_
              try simp only [Act.put, List.setIfInBounds_toArray, List.set_cons_zero, List.set_cons_succ]
              refine wpAnyG_skip (i := 16) (oi := ⟨some 117, _, _, _, _, _⟩) rfl (by kernel_rfl) (by kernel_rfl) (by kernel_rfl) (by rfl) (fun _ _ _ h => h) (by rfl) ?_
              try simp only [Act.put, List.setIfInBounds_toArray, List.set_cons_zero, List.set_cons_succ]
              refine wpAnyG_skip (i := 17) (oi := ⟨some 118, _, _, _, _, _⟩) rfl (by kernel_rfl) (by kernel_rfl) (by kernel_rfl) (by rfl) (fun _ _ _ h => h) (by rfl) ?_
              try simp only [Act.put, List.setIfInBounds_toArray, List.set_cons_zero, List.set_cons_succ]
              refine wpAnyG_skip (i := 18) (oi := ⟨some 119, _, _, _, _, _⟩) rfl (by kernel_rfl) (by kernel_rfl) (by kernel_rfl) (by rfl) (fun _ _ _ h => h) (by rfl) ?_
              try simp only [Act.put, List.setIfInBounds_toArray, List.set_cons_zero, List.set_cons_succ]
              refine wpAnyG_skip (i := 19) (oi := ⟨some 120, _, _, _, _, _⟩) rfl (by kernel_rfl) (by kernel_rfl) (by kernel_rfl) (by rfl) (fun _ _ _ h => h) (by rfl) ?_
              try simp only [Act.put, List.setIfInBounds_toArray, List.set_cons_zero, List.set_cons_succ]
              refine wpAnyG_skip (i := 20) (oi := ⟨some 121, _, _, _, _, _⟩) rfl (by kernel_rfl) (by kernel_rfl) (by kernel_rfl) (by rfl) (fun _ _ _ h => h) (by rfl) ?_
              try simp only [Act.put, List.setIfInBounds_toArray, List.set_cons_zero, List.set_cons_succ]
              refine wpAnyG_skip (i := 21) (oi := ⟨some 122, _, _, _, _, _⟩) rfl (by kernel_rfl) (by kernel_rfl) (by kernel_rfl) (by rfl) (fun _ _ _ h => h) (by rfl) ?_
              try simp only [Act.put, List.setIfInBounds_toArray, List.set_cons_zero, List.set_cons_succ]
              refine wpAnyG_skip (i := 22) (oi := ⟨some 123, _, _, _, _, _⟩) rfl (by kernel_rfl) (by kernel_rfl) (by kernel_rfl) (by rfl) (fun _ _ _ h => h) (by rfl) ?_
              try simp only [Act.put, List.setIfInBounds_toArray, List.set_cons_zero, List.set_cons_succ]
              refine wpAnyG_pure (i := 23) (oi := ⟨some 124, _, _, _, _, _⟩) (v := ?_) rfl (by kernel_rfl) (by kernel_rfl) (by kernel_rfl) (by rfl) (fun _ _ _ h => h) (by rfl) ?_ ?_
              rotate_left
              · intro w
                go_simp
                first | done | with_reducible rfl
              try simp only [Act.put, List.setIfInBounds_toArray, List.set_cons_zero, List.set_cons_succ]
              refine wpAnyG_pure (i := 24) (oi := ⟨some 125, _, _, _, _, _⟩) (v := (.bool false)) rfl (by kernel_rfl) (by kernel_rfl) (by kernel_rfl) (by rfl) (fun _ _ _ h => h) (by rfl) ?_ ?_
              · intro w
                go_simp; first | done | rfl | simp
              try simp only [Act.put, List.setIfInBounds_toArray, List.set_cons_zero, List.set_cons_succ]
              refine wpAnyG_done (by kernel_rfl) ?_ _
              refine NoPanic.normal ?_
              go_wp2_with fail
              go_meet
              case rel => exact ⟨rfl, h⟩
            · subst hmn
              by_cases hi : ida < idb
              · have l2 : Op.bytesLess xa.toList xb.toList = true := by rw [L2.out]; exact decide_eq_true (.inr ⟨rfl, hi⟩)
                refine wp_region_text [3, 7, 18, 20] (fun w' => w'.cell? ⟨g1, 0, none⟩ = some (.string xa) ∧ w'.cell? ⟨g2, 0, none⟩ = some (.string xb) ∧ w'.cell? ⟨w.heap.size, 0, none⟩ = some (.int .i64 ida) ∧ w'.cell? ⟨w.heap.size + 1, 0, none⟩ = some (.int .i64 idb)) (by kernel_rfl) ?_ (fun hS => ?_)
                · exact HC.out _ h
                refine wpAnyG_pure (i := 0) (oi := ⟨some 101, _, _, _, _, _⟩) (v := ?_) rfl (by kernel_rfl) (by kernel_rfl) (by kernel_rfl) (by rfl) (fun _ _ _ h => h) (by rfl) ?_ ?_
                rotate_left
                · intro w
                  go_simp
                  first | done | with_reducible rfl
                try simp only [Act.put, List.setIfInBounds_toArray, List.set_cons_zero, List.set_cons_succ]
                refine wpAnyG_pure (i := 1) (oi := ⟨some 102, _, _, _, _, _⟩) (v := ?_) rfl (by kernel_rfl) (by kernel_rfl) (by kernel_rfl) (by rfl) (fun _ _ _ h => h) (by rfl) ?_ ?_
                rotate_left
                · intro w
                  go_simp
                  first | done | with_reducible rfl
                try simp only [Act.put, List.setIfInBounds_toArray, List.set_cons_zero, List.set_cons_succ]
                refine wpAnyG_pure (i := 2) (oi := ⟨some 103, _, _, _, _, _⟩) (v := ?_) rfl (by kernel_rfl) (by kernel_rfl) (by kernel_rfl) (by rfl) (fun _ _ _ h => h) (by rfl) ?_ ?_
                rotate_left
                · intro w
                  go_simp
                  first | done | with_reducible rfl
                try simp only [Act.put, List.setIfInBounds_toArray, List.set_cons_zero, List.set_cons_succ]
                refine wpAnyG_load (i := 3) (oi := ⟨some 104, _, _, _, _, _⟩) (v := ?_) rfl (by kernel_rfl) (by kernel_rfl) (by kernel_rfl) (by rfl) (fun _ _ _ h => h) (by rfl) ?_ (by assumption) ?_
                rotate_left
                · intro w hS
                  try dsimp only at hS
                  go_simp
                  first | done | with_reducible rfl
                try simp only [Act.put, List.setIfInBounds_toArray, List.set_cons_zero, List.set_cons_succ]
                refine wpAnyG_pure (i := 4) (oi := ⟨some 105, _, _, _, _, _⟩) (v := ?_) rfl (by kernel_rfl) (by kernel_rfl) (by kernel_rfl) (by rfl) (fun _ _ _ h => h) (by rfl) ?_ ?_
                rotate_left
                · intro w
                  go_simp
                  first | done | with_reducible rfl
                try simp only [Act.put, List.setIfInBounds_toArray, List.set_cons_zero, List.set_cons_succ]
                refine wpAnyG_pure (i := 5) (oi := ⟨some 106, _, _, _, _, _⟩) (v := ?_) rfl (by kernel_rfl) (by kernel_rfl) (by kernel_rfl) (by rfl) (fun _ _ _ h => h) (by rfl) ?_ ?_
                rotate_left
                · intro w
                  go_simp
                  first | done | with_reducible rfl
                try simp only [Act.put, List.setIfInBounds_toArray, List.set_cons_zero, List.set_cons_succ]
                refine wpAnyG_pure (i := 6) (oi := ⟨some 107, _, _, _, _, _⟩) (v := ?_) rfl (by kernel_rfl) (by kernel_rfl) (by kernel_rfl) (by rfl) (fun _ _ _ h => h) (by rfl) ?_ ?_
                rotate_left
                · intro w
                  go_simp
                  first | done | with_reducible rfl
                try simp only [Act.put, List.setIfInBounds_toArray, List.set_cons_zero, List.set_cons_succ]
                refine wpAnyG_load (i := 7) (oi := ⟨some 108, _, _, _, _, _⟩) (v := ?_) rfl (by kernel_rfl) (by kernel_rfl) (by kernel_rfl) (by rfl) (fun _ _ _ h => h) (by rfl) ?_ (by assumption) ?_
                rotate_left
                · intro w hS
                  try dsimp only at hS
                  go_simp
                  first | done | with_reducible rfl
                try simp only [Act.put, List.setIfInBounds_toArray, List.set_cons_zero, List.set_cons_succ]
                refine wpAnyG_pure (i := 8) (oi := ⟨some 109, _, _, _, _, _⟩) (v := (.bool true)) rfl (by kernel_rfl) (by kernel_rfl) (by kernel_rfl) (by rfl) (fun _ _ _ h => h) (by rfl) ?_ ?_
                · intro w
                  go_simp; first | done | exact l2 | omega | exact ⟨by omega, fun h => by omega⟩ | simp [l2]
                try simp only [Act.put, List.setIfInBounds_toArray, List.set_cons_zero, List.set_cons_succ]
                refine wpAnyG_pure (i := 9) (oi := ⟨some 110, _, _, _, _, _⟩) (v := ?_) rfl (by kernel_rfl) (by kernel_rfl) (by kernel_rfl) (by rfl) (fun _ _ _ h => h) (by rfl) ?_ ?_
                rotate_left
                · intro w
                  go_simp
                  first | done | with_reducible rfl
                try simp only [Act.put, List.setIfInBounds_toArray, List.set_cons_zero, List.set_cons_succ]
                refine wpAnyG_pure (i := 10) (oi := ⟨some 111, _, _, _, _, _⟩) (v := ?_) rfl (by kernel_rfl) (by kernel_rfl) (by kernel_rfl) (by rfl) (fun _ _ _ h => h) (by rfl) ?_ ?_
                rotate_left
                · intro w
                  go_simp
                  first | done | with_reducible rfl
                try simp only [Act.put, List.setIfInBounds_toArray, List.set_cons_zero, List.set_cons_succ]
                refine wpAnyG_pure (i := 11) (oi := ⟨some 112, _, _, _, _, _⟩) (v := (.bool false)) rfl (by kernel_rfl) (by kernel_rfl) (by kernel_rfl) (by rfl) (fun _ _ _ h => h) (by rfl) ?_ ?_
                · intro w
                  go_simp; first | done | omega | (simp; omega)
                try simp only [Act.put, List.setIfInBounds_toArray, List.set_cons_zero, List.set_cons_succ]
                refine wpAnyG_pure (i := 12) (oi := ⟨some 113, _, _, _, _, _⟩) (v := ?_) rfl (by kernel_rfl) (by kernel_rfl) (by kernel_rfl) (by rfl) (fun _ _ _ h => h) (by rfl) ?_ ?_
                rotate_left
                · intro w
                  go_simp
                  first | done | with_reducible rfl
                try simp only [Act.put, List.setIfInBounds_toArray, List.set_cons_zero, List.set_cons_succ]
                refine wpAnyG_pure (i := 13) (oi := ⟨some 114, _, _, _, _, _⟩) (v := ?_) rfl (by kernel_rfl) (by kernel_rfl) (by kernel_rfl) (by rfl) (fun _ _ _ h => h) (by rfl) ?_ ?_
                rotate_left
                · intro w
                  go_simp
                  first | done | with_reducible rfl
                try simp only [Act.put, List.setIfInBounds_toArray, List.set_cons_zero, List.set_cons_succ]
                refine wpAnyG_pure (i := 14) (oi := ⟨some 115, _, _, _, _, _⟩) (v := ?_) rfl (by kernel_rfl) (by kernel_rfl) (by kernel_rfl) (by rfl) (fun _ _ _ h => h) (by rfl) ?_ ?_
                rotate_left
                · intro w
                  go_simp
                  first | done | with_reducible rfl
                try simp only [Act.put, List.setIfInBounds_toArray, List.set_cons_zero, List.set_cons_succ]
                refine wpAnyG_pure (i := 15) (oi := ⟨some 116, _, _, _, _, _⟩) (v := (.bool true)) rfl (by kernel_rfl) (by kernel_rfl) (by kernel_rfl) (by rfl) (fun _ _ _ h => h) (by rfl) ?_ ?_
                · intro w
                  go_simp; first | done | rfl | simp
                try simp only [Act.put, List.setIfInBounds_toArray, List.set_cons_zero, List.set_cons_succ]
                refine wpAnyG_pure (i := 16) (oi := ⟨some 117, _, _, _, _, _⟩) (v := ?_) rfl (by kernel_rfl) (by kernel_rfl) (by kernel_rfl) (by rfl) (fun _ _ _ h => h) (by rfl) ?_ ?_
                rotate_left
                · intro w
                  go_simp
                  first | done | with_reducible rfl
                try simp only [Act.put, List.setIfInBounds_toArray, List.set_cons_zero, List.set_cons_succ]
                refine wpAnyG_pure (i := 17) (oi := ⟨some 118, _, _, _, _, _⟩) (v := ?_) rfl (by kernel_rfl) (by kernel_rfl) (by kernel_rfl) (by rfl) (fun _ _ _ h => h) (by rfl) ?_ ?_
                rotate_left
                · intro w
                  go_simp
                  first | done | with_reducible rfl
                try simp only [Act.put, List.setIfInBounds_toArray, List.set_cons_zero, List.set_cons_succ]
                refine wpAnyG_load (i := 18) (oi := ⟨some 119, _, _, _, _, _⟩) (v := ?_) rfl (by kernel_rfl) (by kernel_rfl) (by kernel_rfl) (by rfl) (fun _ _ _ h => h) (by rfl) ?_ (by assumption) ?_
                rotate_left
                · intro w hS
                  try dsimp only at hS
                  go_simp
                  first | done | with_reducible rfl
                try simp only [Act.put, List.setIfInBounds_toArray, List.set_cons_zero, List.set_cons_succ]
                refine wpAnyG_pure (i := 19) (oi := ⟨some 120, _, _, _, _, _⟩) (v := ?_) rfl (by kernel_rfl) (by kernel_rfl) (by kernel_rfl) (by rfl) (fun _ _ _ h => h) (by rfl) ?_ ?_
                rotate_left
                · intro w
                  go_simp
                  first | done | with_reducible rfl
                try simp only [Act.put, List.setIfInBounds_toArray, List.set_cons_zero, List.set_cons_succ]
                refine wpAnyG_load (i := 20) (oi := ⟨some 121, _, _, _, _, _⟩) (v := ?_) rfl (by kernel_rfl) (by kernel_rfl) (by kernel_rfl) (by rfl) (fun _ _ _ h => h) (by rfl) ?_ (by assumption) ?_
                rotate_left
                · intro w hS
                  try dsimp only at hS
                  go_simp
                  first | done | with_reducible rfl
                try simp only [Act.put, List.setIfInBounds_toArray, List.set_cons_zero, List.set_cons_succ]
                refine wpAnyG_pure (i := 21) (oi := ⟨some 122, _, _, _, _, _⟩) (v := (.bool true)) rfl (by kernel_rfl) (by kernel_rfl) (by kernel_rfl) (by rfl) (fun _ _ _ h => h) (by rfl) ?_ ?_
                · intro w
                  go_simp; first | done | omega | (simp; omega)
                try simp only [Act.put, List.setIfInBounds_toArray, List.set_cons_zero, List.set_cons_succ]
                refine wpAnyG_pure (i := 22) (oi := ⟨some 123, _, _, _, _, _⟩) (v := ?_) rfl (by kernel_rfl) (by kernel_rfl) (by kernel_rfl) (by rfl) (fun _ _ _ h => h) (by rfl) ?_ ?_
                rotate_left
                · intro w
                  go_simp
                  first | done | with_reducible rfl
                try simp only [Act.put, List.setIfInBounds_toArray, List.set_cons_zero, List.set_cons_succ]
                refine wpAnyG_pure (i := 23) (oi := ⟨some 124, _, _, _, _, _⟩) (v := ?_) rfl (by kernel_rfl) (by kernel_rfl) (by kernel_rfl) (by rfl) (fun _ _ _ h => h) (by rfl) ?_ ?_
                rotate_left
                · intro w
                  go_simp
                  first | done | with_reducible rfl
                try simp only [Act.put, List.setIfInBounds_toArray, List.set_cons_zero, List.set_cons_succ]
                refine wpAnyG_pure (i := 24) (oi := ⟨some 125, _, _, _, _, _⟩) (v := (.bool false)) rfl (by kernel_rfl) (by kernel_rfl) (by kernel_rfl) (by rfl) (fun _ _ _ h => h) (by rfl) ?_ ?_
                · intro w
                  go_simp; first | done | rfl | simp
                try simp only [Act.put, List.setIfInBounds_toArray, List.set_cons_zero, List.set_cons_succ]
                refine wpAnyG_done (by kernel_rfl) ?_ _
                refine NoPanic.normal ?_
                go_wp2_with fail
                go_meet
                case rel => exact ⟨rfl, h⟩
              · have l2 : Op.bytesLess xa.toList xb.toList = false := by rw [L2.out]; exact decide_eq_false (by omega)
                refine wp_region_text [3, 7, 18, 20] (fun w' => w'.cell? ⟨g1, 0, none⟩ = some (.string xa) ∧ w'.cell? ⟨g2, 0, none⟩ = some (.string xb) ∧ w'.cell? ⟨w.heap.size, 0, none⟩ = some (.int .i64 ida) ∧ w'.cell? ⟨w.heap.size + 1, 0, none⟩ = some (.int .i64 idb)) (by kernel_rfl) ?_ (fun hS => ?_)
                · exact HC.out _ h
                refine wpAnyG_pure (i := 0) (oi := ⟨some 101, _, _, _, _, _⟩) (v := ?_) rfl (by kernel_rfl) (by kernel_rfl) (by kernel_rfl) (by rfl) (fun _ _ _ h => h) (by rfl) ?_ ?_
                rotate_left
                · intro w
                  go_simp
                  first | done | with_reducible rfl
                try simp only [Act.put, List.setIfInBounds_toArray, List.set_cons_zero, List.set_cons_succ]
                refine wpAnyG_pure (i := 1) (oi := ⟨some 102, _, _, _, _, _⟩) (v := ?_) rfl (by kernel_rfl) (by kernel_rfl) (by kernel_rfl) (by rfl) (fun _ _ _ h => h) (by rfl) ?_ ?_
                rotate_left
                · intro w
                  go_simp
                  first | done | with_reducible rfl
                try simp only [Act.put, List.setIfInBounds_toArray, List.set_cons_zero, List.set_cons_succ]
                refine wpAnyG_pure (i := 2) (oi := ⟨some 103, _, _, _, _, _⟩) (v := ?_) rfl (by kernel_rfl) (by kernel_rfl) (by kernel_rfl) (by rfl) (fun _ _ _ h => h) (by rfl) ?_ ?_
                rotate_left
                · intro w
                  go_simp
                  first | done | with_reducible rfl
                try simp only [Act.put, List.setIfInBounds_toArray, List.set_cons_zero, List.set_cons_succ]
                refine wpAnyG_load (i := 3) (oi := ⟨some 104, _, _, _, _, _⟩) (v := ?_) rfl (by kernel_rfl) (by kernel_rfl) (by kernel_rfl) (by rfl) (fun _ _ _ h => h) (by rfl) ?_ (by assumption) ?_
                rotate_left
                · intro w hS
                  try dsimp only at hS
                  go_simp
                  first | done | with_reducible rfl
                try simp only [Act.put, List.setIfInBounds_toArray, List.set_cons_zero, List.set_cons_succ]
                refine wpAnyG_pure (i := 4) (oi := ⟨some 105, _, _, _, _, _⟩) (v := ?_) rfl (by kernel_rfl) (by kernel_rfl) (by kernel_rfl) (by rfl) (fun _ _ _ h => h) (by rfl) ?_ ?_
                rotate_left
                · intro w
                  go_simp
                  first | done | with_reducible rfl
                try simp only [Act.put, List.setIfInBounds_toArray, List.set_cons_zero, List.set_cons_succ]
                refine wpAnyG_pure (i := 5) (oi := ⟨some 106, _, _, _, _, _⟩) (v := ?_) rfl (by kernel_rfl) (by kernel_rfl) (by kernel_rfl) (by rfl) (fun _ _ _ h => h) (by rfl) ?_ ?_
                rotate_left
                · intro w
                  go_simp
                  first | done | with_reducible rfl
                try simp only [Act.put, List.setIfInBounds_toArray, List.set_cons_zero, List.set_cons_succ]
                refine wpAnyG_pure (i := 6) (oi := ⟨some 107, _, _, _, _, _⟩) (v := ?_) rfl (by kernel_rfl) (by kernel_rfl) (by kernel_rfl) (by rfl) (fun _ _ _ h => h) (by rfl) ?_ ?_
                rotate_left
                · intro w
                  go_simp
                  first | done | with_reducible rfl
                try simp only [Act.put, List.setIfInBounds_toArray, List.set_cons_zero, List.set_cons_succ]
                refine wpAnyG_load (i := 7) (oi := ⟨some 108, _, _, _, _, _⟩) (v := ?_) rfl (by kernel_rfl) (by kernel_rfl) (by kernel_rfl) (by rfl) (fun _ _ _ h => h) (by rfl) ?_ (by assumption) ?_
                rotate_left
                · intro w hS
                  try dsimp only at hS
                  go_simp
                  first | done | with_reducible rfl
                try simp only [Act.put, List.setIfInBounds_toArray, List.set_cons_zero, List.set_cons_succ]
                refine wpAnyG_pure (i := 8) (oi := ⟨some 109, _, _, _, _, _⟩) (v := (.bool false)) rfl (by kernel_rfl) (by kernel_rfl) (by kernel_rfl) (by rfl) (fun _ _ _ h => h) (by rfl) ?_ ?_
                · intro w
                  go_simp; first | done | exact l2 | omega | exact ⟨by omega, fun h => by omega⟩ | simp [l2]
                try simp only [Act.put, List.setIfInBounds_toArray, List.set_cons_zero, List.set_cons_succ]
                refine wpAnyG_pure (i := 9) (oi := ⟨some 110, _, _, _, _, _⟩) (v := ?_) rfl (by kernel_rfl) (by kernel_rfl) (by kernel_rfl) (by rfl) (fun _ _ _ h => h) (by rfl) ?_ ?_
                rotate_left
                · intro w
                  go_simp
                  first | done | with_reducible rfl
                try simp only [Act.put, List.setIfInBounds_toArray, List.set_cons_zero, List.set_cons_succ]
                refine wpAnyG_pure (i := 10) (oi := ⟨some 111, _, _, _, _, _⟩) (v := ?_) rfl (by kernel_rfl) (by kernel_rfl) (by kernel_rfl) (by rfl) (fun _ _ _ h => h) (by rfl) ?_ ?_
                rotate_left
                · intro w
                  go_simp
                  first | done | with_reducible rfl
                try simp only [Act.put, List.setIfInBounds_toArray, List.set_cons_zero, List.set_cons_succ]
                refine wpAnyG_pure (i := 11) (oi := ⟨some 112, _, _, _, _, _⟩) (v := (.bool false)) rfl (by kernel_rfl) (by kernel_rfl) (by kernel_rfl) (by rfl) (fun _ _ _ h => h) (by rfl) ?_ ?_
                · intro w
                  go_simp; first | done | omega | (simp; omega)
                try simp only [Act.put, List.setIfInBounds_toArray, List.set_cons_zero, List.set_cons_succ]
                refine wpAnyG_pure (i := 12) (oi := ⟨some 113, _, _, _, _, _⟩) (v := ?_) rfl (by kernel_rfl) (by kernel_rfl) (by kernel_rfl) (by rfl) (fun _ _ _ h => h) (by rfl) ?_ ?_
                rotate_left
                · intro w
                  go_simp
                  first | done | with_reducible rfl
                try simp only [Act.put, List.setIfInBounds_toArray, List.set_cons_zero, List.set_cons_succ]
                refine wpAnyG_pure (i := 13) (oi := ⟨some 114, _, _, _, _, _⟩) (v := ?_) rfl (by kernel_rfl) (by kernel_rfl) (by kernel_rfl) (by rfl) (fun _ _ _ h => h) (by rfl) ?_ ?_
                rotate_left
                · intro w
                  go_simp
                  first | done | with_reducible rfl
                try simp only [Act.put, List.setIfInBounds_toArray, List.set_cons_zero, List.set_cons_succ]
                refine wpAnyG_pure (i := 14) (oi := ⟨some 115, _, _, _, _, _⟩) (v := ?_) rfl (by kernel_rfl) (by kernel_rfl) (by kernel_rfl) (by rfl) (fun _ _ _ h => h) (by rfl) ?_ ?_
                rotate_left
                · intro w
                  go_simp
                  first | done | with_reducible rfl
                try simp only [Act.put, List.setIfInBounds_toArray, List.set_cons_zero, List.set_cons_succ]
                refine wpAnyG_pure (i := 15) (oi := ⟨some 116, _, _, _, _, _⟩) (v := (.bool true)) rfl (by kernel_rfl) (by kernel_rfl) (by kernel_rfl) (by rfl) (fun _ _ _ h => h) (by rfl) ?_ ?_
                · intro w
                  go_simp; first | done | rfl | simp
                try simp only [Act.put, List.setIfInBounds_toArray, List.set_cons_zero, List.set_cons_succ]
                refine wpAnyG_pure (i := 16) (oi := ⟨some 117, _, _, _, _, _⟩) (v := ?_) rfl (by kernel_rfl) (by kernel_rfl) (by kernel_rfl) (by rfl) (fun _ _ _ h => h) (by rfl) ?_ ?_
                rotate_left
                · intro w
                  go_simp
                  first | done | with_reducible rfl
                try simp only [Act.put, List.setIfInBounds_toArray, List.set_cons_zero, List.set_cons_succ]
                refine wpAnyG_pure (i := 17) (oi := ⟨some 118, _, _, _, _, _⟩) (v := ?_) rfl (by kernel_rfl) (by kernel_rfl) (by kernel_rfl) (by rfl) (fun _ _ _ h => h) (by rfl) ?_ ?_
                rotate_left
                · intro w
                  go_simp
                  first | done | with_reducible rfl
                try simp only [Act.put, List.setIfInBounds_toArray, List.set_cons_zero, List.set_cons_succ]
                refine wpAnyG_load (i := 18) (oi := ⟨some 119, _, _, _, _, _⟩) (v := ?_) rfl (by kernel_rfl) (by kernel_rfl) (by kernel_rfl) (by rfl) (fun _ _ _ h => h) (by rfl) ?_ (by assumption) ?_
                rotate_left
                · intro w hS
                  try dsimp only at hS
                  go_simp
                  first | done | with_reducible rfl
                try simp only [Act.put, List.setIfInBounds_toArray, List.set_cons_zero, List.set_cons_succ]
                refine wpAnyG_pure (i := 19) (oi := ⟨some 120, _, _, _, _, _⟩) (v := ?_) rfl (by kernel_rfl) (by kernel_rfl) (by kernel_rfl) (by rfl) (fun _ _ _ h => h) (by rfl) ?_ ?_
                rotate_left
                · intro w
                  go_simp
                  first | done | with_reducible rfl
                try simp only [Act.put, List.setIfInBounds_toArray, List.set_cons_zero, List.set_cons_succ]
                refine wpAnyG_load (i := 20) (oi := ⟨some 121, _, _, _, _, _⟩) (v := ?_) rfl (by kernel_rfl) (by kernel_rfl) (by kernel_rfl) (by rfl) (fun _ _ _ h => h) (by rfl) ?_ (by assumption) ?_
                rotate_left
                · intro w hS
                  try dsimp only at hS
                  go_simp
                  first | done | with_reducible rfl
                try simp only [Act.put, List.setIfInBounds_toArray, List.set_cons_zero, List.set_cons_succ]
                refine wpAnyG_pure (i := 21) (oi := ⟨some 122, _, _, _, _, _⟩) (v := (.bool false)) rfl (by kernel_rfl) (by kernel_rfl) (by kernel_rfl) (by rfl) (fun _ _ _ h => h) (by rfl) ?_ ?_
                · intro w
                  go_simp; first | done | omega | (simp; omega)
                try simp only [Act.put, List.setIfInBounds_toArray, List.set_cons_zero, List.set_cons_succ]
                refine wpAnyG_pure (i := 22) (oi := ⟨some 123, _, _, _, _, _⟩) (v := ?_) rfl (by kernel_rfl) (by kernel_rfl) (by kernel_rfl) (by rfl) (fun _ _ _ h => h) (by rfl) ?_ ?_
                rotate_left
                · intro w
                  go_simp
                  first | done | with_reducible rfl
                try simp only [Act.put, List.setIfInBounds_toArray, List.set_cons_zero, List.set_cons_succ]
                refine wpAnyG_pure (i := 23) (oi := ⟨some 124, _, _, _, _, _⟩) (v := ?_) rfl (by kernel_rfl) (by kernel_rfl) (by kernel_rfl) (by rfl) (fun _ _ _ h => h) (by rfl) ?_ ?_
                rotate_left
                · intro w
                  go_simp
                  first | done | with_reducible rfl
                try simp only [Act.put, List.setIfInBounds_toArray, List.set_cons_zero, List.set_cons_succ]
                refine wpAnyG_pure (i := 24) (oi := ⟨some 125, _, _, _, _, _⟩) (v := (.bool false)) rfl (by kernel_rfl) (by kernel_rfl) (by kernel_rfl) (by rfl) (fun _ _ _ h => h) (by rfl) ?_ ?_
                · intro w
                  go_simp; first | done | rfl | simp
                try simp only [Act.put, List.setIfInBounds_toArray, List.set_cons_zero, List.set_cons_succ]
                refine wpAnyG_done (by kernel_rfl) ?_ _
                refine NoPanic.normal ?_
                go_wp2_with fail
                go_meet
                case rel => exact ⟨rfl, h⟩
            · have l2 : Op.bytesLess xa.toList xb.toList = false := by rw [L2.out]; exact decide_eq_false (by omega)
              refine wp_region_text [3, 7] (fun w' => w'.cell? ⟨g1, 0, none⟩ = some (.string xa) ∧ w'.cell? ⟨g2, 0, none⟩ = some (.string xb) ∧ w'.cell? ⟨w.heap.size, 0, none⟩ = some (.int .i64 ida) ∧ w'.cell? ⟨w.heap.size + 1, 0, none⟩ = some (.int .i64 idb)) (by kernel_rfl) ?_ (fun hS => ?_)
              · exact HC.out _ h
              refine wpAnyG_pure (i := 0) (oi := ⟨some 101, _, _, _, _, _⟩) (v := ?_) rfl (by kernel_rfl) (by kernel_rfl) (by kernel_rfl) (by rfl) (fun _ _ _ h => h) (by rfl) ?_ ?_
              rotate_left
              · intro w
                go_simp
                first | done | with_reducible rfl
              try simp only [Act.put, List.setIfInBounds_toArray, List.set_cons_zero, List.set_cons_succ]
              refine wpAnyG_pure (i := 1) (oi := ⟨some 102, _, _, _, _, _⟩) (v := ?_) rfl (by kernel_rfl) (by kernel_rfl) (by kernel_rfl) (by rfl) (fun _ _ _ h => h) (by rfl) ?_ ?_
              rotate_left
              · intro w
                go_simp
                first | done | with_reducible rfl
              try simp only [Act.put, List.setIfInBounds_toArray, List.set_cons_zero, List.set_cons_succ]
              refine wpAnyG_pure (i := 2) (oi := ⟨some 103, _, _, _, _, _⟩) (v := ?_) rfl (by kernel_rfl) (by kernel_rfl) (by kernel_rfl) (by rfl) (fun _ _ _ h => h) (by rfl) ?_ ?_
              rotate_left
              · intro w
                go_simp
                first | done | with_reducible rfl
              try simp only [Act.put, List.setIfInBounds_toArray, List.set_cons_zero, List.set_cons_succ]
              refine wpAnyG_load (i := 3) (oi := ⟨some 104, _, _, _, _, _⟩) (v := ?_) rfl (by kernel_rfl) (by kernel_rfl) (by kernel_rfl) (by rfl) (fun _ _ _ h => h) (by rfl) ?_ (by assumption) ?_
              rotate_left
              · intro w hS
                try dsimp only at hS
                go_simp
                first | done | with_reducible rfl
              try simp only [Act.put, List.setIfInBounds_toArray, List.set_cons_zero, List.set_cons_succ]
              refine wpAnyG_pure (i := 4) (oi := ⟨some 105, _, _, _, _, _⟩) (v := ?_) rfl (by kernel_rfl) (by kernel_rfl) (by kernel_rfl) (by rfl) (fun _ _ _ h => h) (by rfl) ?_ ?_
              rotate_left
              · intro w
                go_simp
                first | done | with_reducible rfl
              try simp only [Act.put, List.setIfInBounds_toArray, List.set_cons_zero, List.set_cons_succ]
              refine wpAnyG_pure (i := 5) (oi := ⟨some 106, _, _, _, _, _⟩) (v := ?_) rfl (by kernel_rfl) (by kernel_rfl) (by kernel_rfl) (by rfl) (fun _ _ _ h => h) (by rfl) ?_ ?_
              rotate_left
              · intro w
                go_simp
                first | done | with_reducible rfl
              try simp only [Act.put, List.setIfInBounds_toArray, List.set_cons_zero, List.set_cons_succ]
              refine wpAnyG_pure (i := 6) (oi := ⟨some 107, _, _, _, _, _⟩) (v := ?_) rfl (by kernel_rfl) (by kernel_rfl) (by kernel_rfl) (by rfl) (fun _ _ _ h => h) (by rfl) ?_ ?_
              rotate_left
              · intro w
                go_simp
                first | done | with_reducible rfl
              try simp only [Act.put, List.setIfInBounds_toArray, List.set_cons_zero, List.set_cons_succ]
              refine wpAnyG_load (i := 7) (oi := ⟨some 108, _, _, _, _, _⟩) (v := ?_) rfl (by kernel_rfl) (by kernel_rfl) (by kernel_rfl) (by rfl) (fun _ _ _ h => h) (by rfl) ?_ (by assumption) ?_
              rotate_left
              · intro w hS
                try dsimp only at hS
                go_simp
                first | done | with_reducible rfl
              try simp only [Act.put, List.setIfInBounds_toArray, List.set_cons_zero, List.set_cons_succ]
              refine wpAnyG_pure (i := 8) (oi := ⟨some 109, _, _, _, _, _⟩) (v := (.bool false)) rfl (by kernel_rfl) (by kernel_rfl) (by kernel_rfl) (by rfl) (fun _ _ _ h => h) (by rfl) ?_ ?_
              · intro w
                go_simp; first | done | exact l2 | omega | exact ⟨by omega, fun h => by omega⟩ | simp [l2]
              try simp only [Act.put, List.setIfInBounds_toArray, List.set_cons_zero, List.set_cons_succ]
              refine wpAnyG_pure (i := 9) (oi := ⟨some 110, _, _, _, _, _⟩) (v := ?_) rfl (by kernel_rfl) (by kernel_rfl) (by kernel_rfl) (by rfl) (fun _ _ _ h => h) (by rfl) ?_ ?_
              rotate_left
              · intro w
                go_simp
                first | done | with_reducible rfl
              try simp only [Act.put, List.setIfInBounds_toArray, List.set_cons_zero, List.set_cons_succ]
              refine wpAnyG_pure (i := 10) (oi := ⟨some 111, _, _, _, _, _⟩) (v := ?_) rfl (by kernel_rfl) (by kernel_rfl) (by kernel_rfl) (by rfl) (fun _ _ _ h => h) (by rfl) ?_ ?_
              rotate_left
              · intro w
                go_simp
                first | done | with_reducible rfl
              try simp only [Act.put, List.setIfInBounds_toArray, List.set_cons_zero, List.set_cons_succ]
              refine wpAnyG_pure (i := 11) (oi := ⟨some 112, _, _, _, _, _⟩) (v := (.bool false)) rfl (by kernel_rfl) (by kernel_rfl) (by kernel_rfl) (by rfl) (fun _ _ _ h => h) (by rfl) ?_ ?_
              · intro w
                go_simp; first | done | omega | (simp; omega)
              try simp only [Act.put, List.setIfInBounds_toArray, List.set_cons_zero, List.set_cons_succ]
              refine wpAnyG_pure (i := 12) (oi := ⟨some 113, _, _, _, _, _⟩) (v := ?_) rfl (by kernel_rfl) (by kernel_rfl) (by kernel_rfl) (by rfl) (fun _ _ _ h => h) (by rfl) ?_ ?_
              rotate_left
              · intro w
                go_simp
                first | done | with_reducible rfl
              try simp only [Act.put, List.setIfInBounds_toArray, List.set_cons_zero, List.set_cons_succ]
              refine wpAnyG_pure (i := 13) (oi := ⟨some 114, _, _, _, _, _⟩) (v := ?_) rfl (by kernel_rfl) (by kernel_rfl) (by kernel_rfl) (by rfl) (fun _ _ _ h => h) (by rfl) ?_ ?_
              rotate_left
              · intro w
                go_simp
                first | done | with_reducible rfl
              try simp only [Act.put, List.setIfInBounds_toArray, List.set_cons_zero, List.set_cons_succ]
              refine wpAnyG_pure (i := 14) (oi := ⟨some 115, _, _, _, _, _⟩) (v := ?_) rfl (by kernel_rfl) (by kernel_rfl) (by kernel_rfl) (by rfl) (fun _ _ _ h => h) (by rfl) ?_ ?_
              rotate_left
              · intro w
                go_simp
                first | done | with_reducible rfl
              try simp only [Act.put, List.setIfInBounds_toArray, List.set_cons_zero, List.set_cons_succ]
              refine wpAnyG_pure (i := 15) (oi := ⟨some 116, _, _, _, _, _⟩) (v := (.bool false)) rfl (by kernel_rfl) (by kernel_rfl) (by kernel_rfl) (by rfl) (fun _ _ _ h => h) (by rfl) ?_ ?_
              · intro w
                go_simp; first | done | omega | (simp; omega)
              try simp only [Act.put, List.setIfInBounds_toArray, List.set_cons_zero, List.set_cons_succ]
              refine wpAnyG_pure (i := 16) (oi := ⟨some 117, _, _, _, _, _⟩) (v := ?_) rfl (by kernel_rfl) (by kernel_rfl) (by kernel_rfl) (by rfl) (fun _ _ _ h => h) (by rfl) ?_ ?_
              rotate_left
              · intro w
                go_simp
                first | done | with_reducible rfl
              try simp only [Act.put, List.setIfInBounds_toArray, List.set_cons_zero, List.set_cons_succ]
              refine wpAnyG_skip (i := 17) (oi := ⟨some 118, _, _, _, _, _⟩) rfl (by kernel_rfl) (by kernel_rfl) (by kernel_rfl) (by rfl) (fun _ _ _ h => h) (by rfl) ?_
              try simp only [Act.put, List.setIfInBounds_toArray, List.set_cons_zero, List.set_cons_succ]
              refine wpAnyG_skip (i := 18) (oi := ⟨some 119, _, _, _, _, _⟩) rfl (by kernel_rfl) (by kernel_rfl) (by kernel_rfl) (by rfl) (fun _ _ _ h => h) (by rfl) ?_
              try simp only [Act.put, List.setIfInBounds_toArray, List.set_cons_zero, List.set_cons_succ]
              refine wpAnyG_skip (i := 19) (oi := ⟨some 120, _, _, _, _, _⟩) rfl (by kernel_rfl) (by kernel_rfl) (by kernel_rfl) (by rfl) (fun _ _ _ h => h) (by rfl) ?_
              try simp only [Act.put, List.setIfInBounds_toArray, List.set_cons_zero, List.set_cons_succ]
              refine wpAnyG_skip (i := 20) (oi := ⟨some 121, _, _, _, _, _⟩) rfl (by kernel_rfl) (by kernel_rfl) (by kernel_rfl) (by rfl) (fun _ _ _ h => h) (by rfl) ?_
              try simp only [Act.put, List.setIfInBounds_toArray, List.set_cons_zero, List.set_cons_succ]
              refine wpAnyG_skip (i := 21) (oi := ⟨some 122, _, _, _, _, _⟩) rfl (by kernel_rfl) (by kernel_rfl) (by kernel_rfl) (by rfl) (fun _ _ _ h => h) (by rfl) ?_
              try simp only [Act.put, List.setIfInBounds_toArray, List.set_cons_zero, List.set_cons_succ]
              refine wpAnyG_pure (i := 22) (oi := ⟨some 123, _, _, _, _, _⟩) (v := ?_) rfl (by kernel_rfl) (by kernel_rfl) (by kernel_rfl) (by rfl) (fun _ _ _ h => h) (by rfl) ?_ ?_
              rotate_left
              · intro w
                go_simp
                first | done | with_reducible rfl
              try simp only [Act.put, List.setIfInBounds_toArray, List.set_cons_zero, List.set_cons_succ]
              refine wpAnyG_pure (i := 23) (oi := ⟨some 124, _, _, _, _, _⟩) (v := ?_) rfl (by kernel_rfl) (by kernel_rfl) (by kernel_rfl) (by rfl) (fun _ _ _ h => h) (by rfl) ?_ ?_
              rotate_left
              · intro w
                go_simp
                first | done | with_reducible rfl
              try simp only [Act.put, List.setIfInBounds_toArray, List.set_cons_zero, List.set_cons_succ]
              refine wpAnyG_pure (i := 24) (oi := ⟨some 125, _, _, _, _, _⟩) (v := (.bool false)) rfl (by kernel_rfl) (by kernel_rfl) (by kernel_rfl) (by rfl) (fun _ _ _ h => h) (by rfl) ?_ ?_
              · intro w
                go_simp; first | done | rfl | simp
              try simp only [Act.put, List.setIfInBounds_toArray, List.set_cons_zero, List.set_cons_succ]
              refine wpAnyG_done (by kernel_rfl) ?_ _
              refine NoPanic.normal ?_
              go_wp2_with fail
              go_meet
              case rel => exact ⟨rfl, h⟩
          case rest => as_aux_lemma =>
            obtain ⟨rfl, h⟩ := hcut
            clear H
            have H := Lib.hid h
            clear h
            go_upto_region 13 with fail
            go_cut [147] from 20 (fun x w' => x = .bool false ∧ Own E w' (Hp.ro S :: Hp.blk g2 ITT #[.string xb, .string ⟨#[]⟩, .string sb, .string ⟨#[]⟩] :: Hp.blk g1 ITT #[.string xa, .string ⟨#[]⟩, .string sa, .string ⟨#[]⟩] :: Hp.blk wB.heap.size ITT #[.string kb, .string vb] :: Hp.blk wA.heap.size ITT #[.string ka, .string va] :: Hp.blk (w.heap.size + 1 + 1 + 1) TOKT CU.toArray :: Hp.blk (w.heap.size + 1 + 1) TOKT CT.toArray :: Hp.blk (w.heap.size + 1) FMT CB.toArray :: Hp.blk w.heap.size FMT CA.toArray :: L))
            case first => as_aux_lemma =>
              have h := H.out.drew
              clear H
              have HC : ∀ w', Own E w' (Hp.ro S :: Hp.blk g2 ITT #[.string xb, .string ⟨#[]⟩, .string sb, .string ⟨#[]⟩] :: Hp.blk g1 ITT #[.string xa, .string ⟨#[]⟩, .string sa, .string ⟨#[]⟩] :: Hp.blk wB.heap.size ITT #[.string kb, .string vb] :: Hp.blk wA.heap.size ITT #[.string ka, .string va] :: Hp.blk (w.heap.size + 1 + 1 + 1) TOKT CU.toArray :: Hp.blk (w.heap.size + 1 + 1) TOKT CT.toArray :: Hp.blk (w.heap.size + 1) FMT CB.toArray :: Hp.blk w.heap.size FMT CA.toArray :: L) → (w'.cell? ⟨w.heap.size, 2, none⟩ = some (.string sua) ∧ w'.cell? ⟨w.heap.size + 1, 2, none⟩ = some (.string sub) ∧ w'.cell? ⟨g1, 2, none⟩ = some (.string sa) ∧ w'.cell? ⟨g2, 2, none⟩ = some (.string sb) ∧ w'.cell? ⟨w.heap.size, 0, none⟩ = some (.int .i64 ida) ∧ w'.cell? ⟨w.heap.size + 1, 0, none⟩ = some (.int .i64 idb)) := fun w' h => ⟨(h.f8.cell 2).trans HA.out.1.2, (h.f7.cell 2).trans HA.out.2.2, (h.f2.cell 2).trans rfl, (h.f1.cell 2).trans rfl, (h.f8.cell 0).trans HA.out.1.1, (h.f7.cell 0).trans HA.out.2.1⟩
              have HC := Lib.hid HC
              by_cases hs : sua = sub
              · have e5 : (sua.toList == sub.toList) = true := by rw [hs]; exact beq_self_eq_true _
                by_cases hi : ida < idb
                · have l3 : Op.bytesLess sa.toList sb.toList = true := by rw [L3.out hs]; exact decide_eq_true hi
                  refine wp_region_text [1, 3, 9, 13, 16, 18] (fun w' => w'.cell? ⟨w.heap.size, 2, none⟩ = some (.string sua) ∧ w'.cell? ⟨w.heap.size + 1, 2, none⟩ = some (.string sub) ∧ w'.cell? ⟨g1, 2, none⟩ = some (.string sa) ∧ w'.cell? ⟨g2, 2, none⟩ = some (.string sb) ∧ w'.cell? ⟨w.heap.size, 0, none⟩ = some (.int .i64 ida) ∧ w'.cell? ⟨w.heap.size + 1, 0, none⟩ = some (.int .i64 idb)) (by kernel_rfl) ?_ (fun hS => ?_)
                  · exact HC.out _ h
                  refine wpAnyG_pure (i := 0) (oi := ⟨some 126, _, _, _, _, _⟩) (v := ?_) rfl (by kernel_rfl) (by kernel_rfl) (by kernel_rfl) (by rfl) (fun _ _ _ h => h) (by rfl) ?_ ?_
                  rotate_left
                  · intro w
                    go_simp
                    first | done | with_reducible rfl
                  try simp only [Act.put, List.setIfInBounds_toArray, List.set_cons_zero, List.set_cons_succ]
                  refine wpAnyG_load (i := 1) (oi := ⟨some 127, _, _, _, _, _⟩) (v := ?_) rfl (by kernel_rfl) (by kernel_rfl) (by kernel_rfl) (by rfl) (fun _ _ _ h => h) (by rfl) ?_ (by assumption) ?_
                  rotate_left
                  · intro w hS
                    try dsimp only at hS
                    go_simp
                    first | done | with_reducible rfl
                  try simp only [Act.put, List.setIfInBounds_toArray, List.set_cons_zero, List.set_cons_succ]
                  refine wpAnyG_pure (i := 2) (oi := ⟨some 128, _, _, _, _, _⟩) (v := ?_) rfl (by kernel_rfl) (by kernel_rfl) (by kernel_rfl) (by rfl) (fun _ _ _ h => h) (by rfl) ?_ ?_
                  rotate_left
                  · intro w
                    go_simp
                    first | done | with_reducible rfl
                  try simp only [Act.put, List.setIfInBounds_toArray, List.set_cons_zero, List.set_cons_succ]
                  refine wpAnyG_load (i := 3) (oi := ⟨some 129, _, _, _, _, _⟩) (v := ?_) rfl (by kernel_rfl) (by kernel_rfl) (by kernel_rfl) (by rfl) (fun _ _ _ h => h) (by rfl) ?_ (by assumption) ?_
                  rotate_left
                  · intro w hS
                    try dsimp only at hS
                    go_simp
                    first | done | with_reducible rfl
                  try simp only [Act.put, List.setIfInBounds_toArray, List.set_cons_zero, List.set_cons_succ]
                  refine wpAnyG_pure (i := 4) (oi := ⟨some 130, _, _, _, _, _⟩) (v := (.bool true)) rfl (by kernel_rfl) (by kernel_rfl) (by kernel_rfl) (by rfl) (fun _ _ _ h => h) (by rfl) ?_ ?_
                  · intro w
                    go_simp; first | done | exact e5 | omega | exact ⟨by omega, fun h => by omega⟩ | simp [e5]
                  try simp only [Act.put, List.setIfInBounds_toArray, List.set_cons_zero, List.set_cons_succ]
                  refine wpAnyG_pure (i := 5) (oi := ⟨some 131, _, _, _, _, _⟩) (v := ?_) rfl (by kernel_rfl) (by kernel_rfl) (by kernel_rfl) (by rfl) (fun _ _ _ h => h) (by rfl) ?_ ?_
                  rotate_left
                  · intro w
                    go_simp
                    first | done | with_reducible rfl
                  try simp only [Act.put, List.setIfInBounds_toArray, List.set_cons_zero, List.set_cons_succ]
                  refine wpAnyG_pure (i := 6) (oi := ⟨some 132, _, _, _, _, _⟩) (v := ?_) rfl (by kernel_rfl) (by kernel_rfl) (by kernel_rfl) (by rfl) (fun _ _ _ h => h) (by rfl) ?_ ?_
                  rotate_left
                  · intro w
                    go_simp
                    first | done | with_reducible rfl
                  try simp only [Act.put, List.setIfInBounds_toArray, List.set_cons_zero, List.set_cons_succ]
                  refine wpAnyG_pure (i := 7) (oi := ⟨some 133, _, _, _, _, _⟩) (v := ?_) rfl (by kernel_rfl) (by kernel_rfl) (by kernel_rfl) (by rfl) (fun _ _ _ h => h) (by rfl) ?_ ?_
                  rotate_left
                  · intro w
                    go_simp
                    first | done | with_reducible rfl
                  try simp only [Act.put, List.setIfInBounds_toArray, List.set_cons_zero, List.set_cons_succ]
                  refine wpAnyG_pure (i := 8) (oi := ⟨some 134, _, _, _, _, _⟩) (v := ?_) rfl (by kernel_rfl) (by kernel_rfl) (by kernel_rfl) (by rfl) (fun _ _ _ h => h) (by rfl) ?_ ?_
                  rotate_left
                  · intro w
                    go_simp
                    first | done | with_reducible rfl
                  try simp only [Act.put, List.setIfInBounds_toArray, List.set_cons_zero, List.set_cons_succ]
                  refine wpAnyG_load (i := 9) (oi := ⟨some 135, _, _, _, _, _⟩) (v := ?_) rfl (by kernel_rfl) (by kernel_rfl) (by kernel_rfl) (by rfl) (fun _ _ _ h => h) (by rfl) ?_ (by assumption) ?_
                  rotate_left
                  · intro w hS
                    try dsimp only at hS
                    go_simp
                    first | done | with_reducible rfl
                  try simp only [Act.put, List.setIfInBounds_toArray, List.set_cons_zero, List.set_cons_succ]
                  refine wpAnyG_pure (i := 10) (oi := ⟨some 136, _, _, _, _, _⟩) (v := ?_) rfl (by kernel_rfl) (by kernel_rfl) (by kernel_rfl) (by rfl) (fun _ _ _ h => h) (by rfl) ?_ ?_
                  rotate_left
                  · intro w
                    go_simp
                    first | done | with_reducible rfl
                  try simp only [Act.put, List.setIfInBounds_toArray, List.set_cons_zero, List.set_cons_succ]
                  refine wpAnyG_pure (i := 11) (oi := ⟨some 137, _, _, _, _, _⟩) (v := ?_) rfl (by kernel_rfl) (by kernel_rfl) (by kernel_rfl) (by rfl) (fun _ _ _ h => h) (by rfl) ?_ ?_
                  rotate_left
                  · intro w
                    go_simp
                    first | done | with_reducible rfl
                  try simp only [Act.put, List.setIfInBounds_toArray, List.set_cons_zero, List.set_cons_succ]
                  refine wpAnyG_pure (i := 12) (oi := ⟨some 138, _, _, _, _, _⟩) (v := ?_) rfl (by kernel_rfl) (by kernel_rfl) (by kernel_rfl) (by rfl) (fun _ _ _ h => h) (by rfl) ?_ ?_
                  rotate_left
                  · intro w
                    go_simp
                    first | done | with_reducible rfl
                  try simp only [Act.put, List.setIfInBounds_toArray, List.set_cons_zero, List.set_cons_succ]
                  refine wpAnyG_load (i := 13) (oi := ⟨some 139, _, _, _, _, _⟩) (v := ?_) rfl (by kernel_rfl) (by kernel_rfl) (by kernel_rfl) (by rfl) (fun _ _ _ h => h) (by rfl) ?_ (by assumption) ?_
                  rotate_left
                  · intro w hS
                    try dsimp only at hS
                    go_simp
                    first | done | with_reducible rfl
                  try simp only [Act.put, List.setIfInBounds_toArray, List.set_cons_zero, List.set_cons_succ]
                  refine wpAnyG_pure (i := 14) (oi := ⟨some 140, _, _, _, _, _⟩) (v := (.bool true)) rfl (by kernel_rfl) (by kernel_rfl) (by kernel_rfl) (by rfl) (fun _ _ _ h => h) (by rfl) ?_ ?_
                  · intro w
                    go_simp; first | done | exact l3 | omega | exact ⟨by omega, fun h => by omega⟩ | simp [l3]
                  try simp only [Act.put, List.setIfInBounds_toArray, List.set_cons_zero, List.set_cons_succ]
                  refine wpAnyG_pure (i := 15) (oi := ⟨some 141, _, _, _, _, _⟩) (v := ?_) rfl (by kernel_rfl) (by kernel_rfl) (by kernel_rfl) (by rfl) (fun _ _ _ h => h) (by rfl) ?_ ?_
                  rotate_left
                  · intro w
                    go_simp
                    first | done | with_reducible rfl
                  try simp only [Act.put, List.setIfInBounds_toArray, List.set_cons_zero, List.set_cons_succ]
                  refine wpAnyG_load (i := 16) (oi := ⟨some 142, _, _, _, _, _⟩) (v := ?_) rfl (by kernel_rfl) (by kernel_rfl) (by kernel_rfl) (by rfl) (fun _ _ _ h => h) (by rfl) ?_ (by assumption) ?_
                  rotate_left
                  · intro w hS
                    try dsimp only at hS
                    go_simp
                    first | done | with_reducible rfl
                  try simp only [Act.put, List.setIfInBounds_toArray, List.set_cons_zero, List.set_cons_succ]
                  refine wpAnyG_pure (i := 17) (oi := ⟨some 143, _, _, _, _, _⟩) (v := ?_) rfl (by kernel_rfl) (by kernel_rfl) (by kernel_rfl) (by rfl) (fun _ _ _ h => h) (by rfl) ?_ ?_
                  rotate_left
                  · intro w
                    go_simp
                    first | done | with_reducible rfl
                  try simp only [Act.put, List.setIfInBounds_toArray, List.set_cons_zero, List.set_cons_succ]
                  refine wpAnyG_load (i := 18) (oi := ⟨some 144, _, _, _, _, _⟩) (v := ?_) rfl (by kernel_rfl) (by kernel_rfl) (by kernel_rfl) (by rfl) (fun _ _ _ h => h) (by rfl) ?_ (by assumption) ?_
                  rotate_left
                  · intro w hS
                    try dsimp only at hS
                    go_simp
                    first | done | with_reducible rfl
                  try simp only [Act.put, List.setIfInBounds_toArray, List.set_cons_zero, List.set_cons_succ]
                  refine wpAnyG_pure (i := 19) (oi := ⟨some 145, _, _, _, _, _⟩) (v := (.bool true)) rfl (by kernel_rfl) (by kernel_rfl) (by kernel_rfl) (by rfl) (fun _ _ _ h => h) (by rfl) ?_ ?_
                  · intro w
                    go_simp; first | done | omega | (simp; omega)
                  try simp only [Act.put, List.setIfInBounds_toArray, List.set_cons_zero, List.set_cons_succ]
                  refine wpAnyG_pure (i := 20) (oi := ⟨some 146, _, _, _, _, _⟩) (v := (.bool false)) rfl (by kernel_rfl) (by kernel_rfl) (by kernel_rfl) (by rfl) (fun _ _ _ h => h) (by rfl) ?_ ?_
                  · intro w
                    go_simp; first | done | rfl | simp
                  try simp only [Act.put, List.setIfInBounds_toArray, List.set_cons_zero, List.set_cons_succ]
                  refine wpAnyG_pure (i := 21) (oi := ⟨some 147, _, _, _, _, _⟩) (v := ?_) rfl (by kernel_rfl) (by kernel_rfl) (by kernel_rfl) (by rfl) (fun _ _ _ h => h) (by rfl) ?_ ?_
                  rotate_left
                  · intro w
                    go_simp
                    first | done | with_reducible rfl
                  try simp only [Act.put, List.setIfInBounds_toArray, List.set_cons_zero, List.set_cons_succ]
                  refine wpAnyG_done (by kernel_rfl) ?_ _
                  refine NoPanic.normal ?_
                  go_wp2_with fail
                  go_meet
                  case rel => exact ⟨rfl, h⟩
                · have l3 : Op.bytesLess sa.toList sb.toList = false := by rw [L3.out hs]; exact decide_eq_false hi
                  refine wp_region_text [1, 3, 9, 13, 16, 18] (fun w' => w'.cell? ⟨w.heap.size, 2, none⟩ = some (.string sua) ∧ w'.cell? ⟨w.heap.size + 1, 2, none⟩ = some (.string sub) ∧ w'.cell? ⟨g1, 2, none⟩ = some (.string sa) ∧ w'.cell? ⟨g2, 2, none⟩ = some (.string sb) ∧ w'.cell? ⟨w.heap.size, 0, none⟩ = some (.int .i64 ida) ∧ w'.cell? ⟨w.heap.size + 1, 0, none⟩ = some (.int .i64 idb)) (by kernel_rfl) ?_ (fun hS => ?_)
                  · exact HC.out _ h
                  refine wpAnyG_pure (i := 0) (oi := ⟨some 126, _, _, _, _, _⟩) (v := ?_) rfl (by kernel_rfl) (by kernel_rfl) (by kernel_rfl) (by rfl) (fun _ _ _ h => h) (by rfl) ?_ ?_
                  rotate_left
                  · intro w
                    go_simp
                    first | done | with_reducible rfl
                  try simp only [Act.put, List.setIfInBounds_toArray, List.set_cons_zero, List.set_cons_succ]
                  refine wpAnyG_load (i := 1) (oi := ⟨some 127, _, _, _, _, _⟩) (v := ?_) rfl (by kernel_rfl) (by kernel_rfl) (by kernel_rfl) (by rfl) (fun _ _ _ h => h) (by rfl) ?_ (by assumption) ?_
                  rotate_left
                  · intro w hS
                    try dsimp only at hS
                    go_simp
                    first | done | with_reducible rfl
                  try simp only [Act.put, List.setIfInBounds_toArray, List.set_cons_zero, List.set_cons_succ]
                  refine wpAnyG_pure (i := 2) (oi := ⟨some 128, _, _, _, _, _⟩) (v := ?_) rfl (by kernel_rfl) (by kernel_rfl) (by kernel_rfl) (by rfl) (fun _ _ _ h => h) (by rfl) ?_ ?_
                  rotate_left
                  · intro w
                    go_simp
                    first | done | with_reducible rfl
                  try simp only [Act.put, List.setIfInBounds_toArray, List.set_cons_zero, List.set_cons_succ]
                  refine wpAnyG_load (i := 3) (oi := ⟨some 129, _, _, _, _, _⟩) (v := ?_) rfl (by kernel_rfl) (by kernel_rfl) (by kernel_rfl) (by rfl) (fun _ _ _ h => h) (by rfl) ?_ (by assumption) ?_
                  rotate_left
                  · intro w hS
                    try dsimp only at hS
                    go_simp
                    first | done | with_reducible rfl
                  try simp only [Act.put, List.setIfInBounds_toArray, List.set_cons_zero, List.set_cons_succ]
                  refine wpAnyG_pure (i := 4) (oi := ⟨some 130, _, _, _, _, _⟩) (v := (.bool true)) rfl (by kernel_rfl) (by kernel_rfl) (by kernel_rfl) (by rfl) (fun _ _ _ h => h) (by rfl) ?_ ?_
                  · intro w
                    go_simp; first | done | exact e5 | omega | exact ⟨by omega, fun h => by omega⟩ | simp [e5]
                  try simp only [Act.put, List.setIfInBounds_toArray, List.set_cons_zero, List.set_cons_succ]
                  refine wpAnyG_pure (i := 5) (oi := ⟨some 131, _, _, _, _, _⟩) (v := ?_) rfl (by kernel_rfl) (by kernel_rfl) (by kernel_rfl) (by rfl) (fun _ _ _ h => h) (by rfl) ?_ ?_
                  rotate_left
                  · intro w
                    go_simp
                    first | done | with_reducible rfl
                  try simp only [Act.put, List.setIfInBounds_toArray, List.set_cons_zero, List.set_cons_succ]
                  refine wpAnyG_pure (i := 6) (oi := ⟨some 132, _, _, _, _, _⟩) (v := ?_) rfl (by kernel_rfl) (by kernel_rfl) (by kernel_rfl) (by rfl) (fun _ _ _ h => h) (by rfl) ?_ ?_
                  rotate_left
                  · intro w
                    go_simp
                    first | done | with_reducible rfl
                  try simp only [Act.put, List.setIfInBounds_toArray, List.set_cons_zero, List.set_cons_succ]
                  refine wpAnyG_pure (i := 7) (oi := ⟨some 133, _, _, _, _, _⟩) (v := ?_) rfl (by kernel_rfl) (by kernel_rfl) (by kernel_rfl) (by rfl) (fun _ _ _ h => h) (by rfl) ?_ ?_
                  rotate_left
                  · intro w
                    go_simp
                    first | done | with_reducible rfl
                  try simp only [Act.put, List.setIfInBounds_toArray, List.set_cons_zero, List.set_cons_succ]
                  refine wpAnyG_pure (i := 8) (oi := ⟨some 134, _, _, _, _, _⟩) (v := ?_) rfl (by kernel_rfl) (by kernel_rfl) (by kernel_rfl) (by rfl) (fun _ _ _ h => h) (by rfl) ?_ ?_
                  rotate_left
                  · intro w
                    go_simp
                    first | done | with_reducible rfl
                  try simp only [Act.put, List.setIfInBounds_toArray, List.set_cons_zero, List.set_cons_succ]
                  refine wpAnyG_load (i := 9) (oi := ⟨some 135, _, _, _, _, _⟩) (v := ?_) rfl (by kernel_rfl) (by kernel_rfl) (by kernel_rfl) (by rfl) (fun _ _ _ h => h) (by rfl) ?_ (by assumption) ?_
                  rotate_left
                  · intro w hS
                    try dsimp only at hS
                    go_simp
                    first | done | with_reducible rfl
                  try simp only [Act.put, List.setIfInBounds_toArray, List.set_cons_zero, List.set_cons_succ]
                  refine wpAnyG_pure (i := 10) (oi := ⟨some 136, _, _, _, _, _⟩) (v := ?_) rfl (by kernel_rfl) (by kernel_rfl) (by kernel_rfl) (by rfl) (fun _ _ _ h => h) (by rfl) ?_ ?_
                  rotate_left
                  · intro w
                    go_simp
                    first | done | with_reducible rfl
                  try simp only [Act.put, List.setIfInBounds_toArray, List.set_cons_zero, List.set_cons_succ]
                  refine wpAnyG_pure (i := 11) (oi := ⟨some 137, _, _, _, _, _⟩) (v := ?_) rfl (by kernel_rfl) (by kernel_rfl) (by kernel_rfl) (by rfl) (fun _ _ _ h => h) (by rfl) ?_ ?_
                  rotate_left
                  · intro w
                    go_simp
                    first | done | with_reducible rfl
                  try simp only [Act.put, List.setIfInBounds_toArray, List.set_cons_zero, List.set_cons_succ]
                  refine wpAnyG_pure (i := 12) (oi := ⟨some 138, _, _, _, _, _⟩) (v := ?_) rfl (by kernel_rfl) (by kernel_rfl) (by kernel_rfl) (by rfl) (fun _ _ _ h => h) (by rfl) ?_ ?_
                  rotate_left
                  · intro w
                    go_simp
                    first | done | with_reducible rfl
                  try simp only [Act.put, List.setIfInBounds_toArray, List.set_cons_zero, List.set_cons_succ]
                  refine wpAnyG_load (i := 13) (oi := ⟨some 139, _, _, _, _, _⟩) (v := ?_) rfl (by kernel_rfl) (by kernel_rfl) (by kernel_rfl) (by rfl) (fun _ _ _ h => h) (by rfl) ?_ (by assumption) ?_
                  rotate_left
                  · intro w hS
                    try dsimp only at hS
                    go_simp
                    first | done | with_reducible rfl
                  try simp only [Act.put, List.setIfInBounds_toArray, List.set_cons_zero, List.set_cons_succ]
                  refine wpAnyG_pure (i := 14) (oi := ⟨some 140, _, _, _, _, _⟩) (v := (.bool false)) rfl (by kernel_rfl) (by kernel_rfl) (by kernel_rfl) (by rfl) (fun _ _ _ h => h) (by rfl) ?_ ?_
                  · intro w
                    go_simp; first | done | exact l3 | omega | exact ⟨by omega, fun h => by omega⟩ | simp [l3]
                  try simp only [Act.put, List.setIfInBounds_toArray, List.set_cons_zero, List.set_cons_succ]
                  refine wpAnyG_pure (i := 15) (oi := ⟨some 141, _, _, _, _, _⟩) (v := ?_) rfl (by kernel_rfl) (by kernel_rfl) (by kernel_rfl) (by rfl) (fun _ _ _ h => h) (by rfl) ?_ ?_
                  rotate_left
                  · intro w
                    go_simp
                    first | done | with_reducible rfl
                  try simp only [Act.put, List.setIfInBounds_toArray, List.set_cons_zero, List.set_cons_succ]
                  refine wpAnyG_load (i := 16) (oi := ⟨some 142, _, _, _, _, _⟩) (v := ?_) rfl (by kernel_rfl) (by kernel_rfl) (by kernel_rfl) (by rfl) (fun _ _ _ h => h) (by rfl) ?_ (by assumption) ?_
                  rotate_left
                  · intro w hS
                    try dsimp only at hS
                    go_simp
                    first | done | with_reducible rfl
                  try simp only [Act.put, List.setIfInBounds_toArray, List.set_cons_zero, List.set_cons_succ]
                  refine wpAnyG_pure (i := 17) (oi := ⟨some 143, _, _, _, _, _⟩) (v := ?_) rfl (by kernel_rfl) (by kernel_rfl) (by kernel_rfl) (by rfl) (fun _ _ _ h => h) (by rfl) ?_ ?_
                  rotate_left
                  · intro w
                    go_simp
                    first | done | with_reducible rfl
                  try simp only [Act.put, List.setIfInBounds_toArray, List.set_cons_zero, List.set_cons_succ]
                  refine wpAnyG_load (i := 18) (oi := ⟨some 144, _, _, _, _, _⟩) (v := ?_) rfl (by kernel_rfl) (by kernel_rfl) (by kernel_rfl) (by rfl) (fun _ _ _ h => h) (by rfl) ?_ (by assumption) ?_
                  rotate_left
                  · intro w hS
                    try dsimp only at hS
                    go_simp
                    first | done | with_reducible rfl
                  try simp only [Act.put, List.setIfInBounds_toArray, List.set_cons_zero, List.set_cons_succ]
                  refine wpAnyG_pure (i := 19) (oi := ⟨some 145, _, _, _, _, _⟩) (v := (.bool false)) rfl (by kernel_rfl) (by kernel_rfl) (by kernel_rfl) (by rfl) (fun _ _ _ h => h) (by rfl) ?_ ?_
                  · intro w
                    go_simp; first | done | omega | (simp; omega)
                  try simp only [Act.put, List.setIfInBounds_toArray, List.set_cons_zero, List.set_cons_succ]
                  refine wpAnyG_pure (i := 20) (oi := ⟨some 146, _, _, _, _, _⟩) (v := (.bool false)) rfl (by kernel_rfl) (by kernel_rfl) (by kernel_rfl) (by rfl) (fun _ _ _ h => h) (by rfl) ?_ ?_
                  · intro w
                    go_simp; first | done | rfl | simp
                  try simp only [Act.put, List.setIfInBounds_toArray, List.set_cons_zero, List.set_cons_succ]
                  refine wpAnyG_pure (i := 21) (oi := ⟨some 147, _, _, _, _, _⟩) (v := ?_) rfl (by kernel_rfl) (by kernel_rfl) (by kernel_rfl) (by rfl) (fun _ _ _ h => h) (by rfl) ?_ ?_
                  rotate_left
                  · intro w
                    go_simp
                    first | done | with_reducible rfl
                  try simp only [Act.put, List.setIfInBounds_toArray, List.set_cons_zero, List.set_cons_succ]
                  refine wpAnyG_done (by kernel_rfl) ?_ _
                  refine NoPanic.normal ?_
                  go_wp2_with fail
                  go_meet
                  case rel => exact ⟨rfl, h⟩
              · have e5 : (sua.toList == sub.toList) = false := by
                  cases e : (sua.toList == sub.toList) with
                  | false => rfl
                  | true => exact absurd (by simpa [ByteArray.toList_eq, ByteArray.ext_iff, Array.toList_inj] using e) hs
                refine wp_region_text [1, 3] (fun w' => w'.cell? ⟨w.heap.size, 2, none⟩ = some (.string sua) ∧ w'.cell? ⟨w.heap.size + 1, 2, none⟩ = some (.string sub) ∧ w'.cell? ⟨g1, 2, none⟩ = some (.string sa) ∧ w'.cell? ⟨g2, 2, none⟩ = some (.string sb) ∧ w'.cell? ⟨w.heap.size, 0, none⟩ = some (.int .i64 ida) ∧ w'.cell? ⟨w.heap.size + 1, 0, none⟩ = some (.int .i64 idb)) (by kernel_rfl) ?_ (fun hS => ?_)
                · exact HC.out _ h
                refine wpAnyG_pure (i := 0) (oi := ⟨some 126, _, _, _, _, _⟩) (v := ?_) rfl (by kernel_rfl) (by kernel_rfl) (by kernel_rfl) (by rfl) (fun _ _ _ h => h) (by rfl) ?_ ?_
                rotate_left
                · intro w
                  go_simp
                  first | done | with_reducible rfl
                try simp only [Act.put, List.setIfInBounds_toArray, List.set_cons_zero, List.set_cons_succ]
                refine wpAnyG_load (i := 1) (oi := ⟨some 127, _, _, _, _, _⟩) (v := ?_) rfl (by kernel_rfl) (by kernel_rfl) (by kernel_rfl) (by rfl) (fun _ _ _ h => h) (by rfl) ?_ (by assumption) ?_
                rotate_left
                · intro w hS
                  try dsimp only at hS
                  go_simp
                  first | done | with_reducible rfl
                try simp only [Act.put, List.setIfInBounds_toArray, List.set_cons_zero, List.set_cons_succ]
                refine wpAnyG_pure (i := 2) (oi := ⟨some 128, _, _, _, _, _⟩) (v := ?_) rfl (by kernel_rfl) (by kernel_rfl) (by kernel_rfl) (by rfl) (fun _ _ _ h => h) (by rfl) ?_ ?_
                rotate_left
                · intro w
                  go_simp
                  first | done | with_reducible rfl
                try simp only [Act.put, List.setIfInBounds_toArray, List.set_cons_zero, List.set_cons_succ]
                refine wpAnyG_load (i := 3) (oi := ⟨some 129, _, _, _, _, _⟩) (v := ?_) rfl (by kernel_rfl) (by kernel_rfl) (by kernel_rfl) (by rfl) (fun _ _ _ h => h) (by rfl) ?_ (by assumption) ?_
                rotate_left
                · intro w hS
                  try dsimp only at hS
                  go_simp
                  first | done | with_reducible rfl
                try simp only [Act.put, List.setIfInBounds_toArray, List.set_cons_zero, List.set_cons_succ]
                refine wpAnyG_pure (i := 4) (oi := ⟨some 130, _, _, _, _, _⟩) (v := (.bool false)) rfl (by kernel_rfl) (by kernel_rfl) (by kernel_rfl) (by rfl) (fun _ _ _ h => h) (by rfl) ?_ ?_
                · intro w
                  go_simp; first | done | exact e5 | omega | exact ⟨by omega, fun h => by omega⟩ | simp [e5]
                try simp only [Act.put, List.setIfInBounds_toArray, List.set_cons_zero, List.set_cons_succ]
                refine wpAnyG_pure (i := 5) (oi := ⟨some 131, _, _, _, _, _⟩) (v := ?_) rfl (by kernel_rfl) (by kernel_rfl) (by kernel_rfl) (by rfl) (fun _ _ _ h => h) (by rfl) ?_ ?_
                rotate_left
                · intro w
                  go_simp
                  first | done | with_reducible rfl
                try simp only [Act.put, List.setIfInBounds_toArray, List.set_cons_zero, List.set_cons_succ]
                refine wpAnyG_skip (i := 6) (oi := ⟨some 132, _, _, _, _, _⟩) rfl (by kernel_rfl) (by kernel_rfl) (by kernel_rfl) (by rfl) (fun _ _ _ h => h) (by rfl) ?_
                try simp only [Act.put, List.setIfInBounds_toArray, List.set_cons_zero, List.set_cons_succ]
                refine wpAnyG_skip (i := 7) (oi := ⟨some 133, _, _, _, _, _⟩) rfl (by kernel_rfl) (by kernel_rfl) (by kernel_rfl) (by rfl) (fun _ _ _ h => h) (by rfl) ?_
                try simp only [Act.put, List.setIfInBounds_toArray, List.set_cons_zero, List.set_cons_succ]
                refine wpAnyG_skip (i := 8) (oi := ⟨some 134, _, _, _, _, _⟩) rfl (by kernel_rfl) (by kernel_rfl) (by kernel_rfl) (by rfl) (fun _ _ _ h => h) (by rfl) ?_
                try simp only [Act.put, List.setIfInBounds_toArray, List.set_cons_zero, List.set_cons_succ]
                refine wpAnyG_skip (i := 9) (oi := ⟨some 135, _, _, _, _, _⟩) rfl (by kernel_rfl) (by kernel_rfl) (by kernel_rfl) (by rfl) (fun _ _ _ h => h) (by rfl) ?_
                try simp only [Act.put, List.setIfInBounds_toArray, List.set_cons_zero, List.set_cons_succ]
                refine wpAnyG_skip (i := 10) (oi := ⟨some 136, _, _, _, _, _⟩) rfl (by kernel_rfl) (by kernel_rfl) (by kernel_rfl) (by rfl) (fun _ _ _ h => h) (by rfl) ?_
                try simp only [Act.put, List.setIfInBounds_toArray, List.set_cons_zero, List.set_cons_succ]
                refine wpAnyG_skip (i := 11) (oi := ⟨some 137, _, _, _, _, _⟩) rfl (by kernel_rfl) (by kernel_rfl) (by kernel_rfl) (by rfl) (fun _ _ _ h => h) (by rfl) ?_
                try simp only [Act.put, List.setIfInBounds_toArray, List.set_cons_zero, List.set_cons_succ]
                refine wpAnyG_skip (i := 12) (oi := ⟨some 138, _, _, _, _, _⟩) rfl (by kernel_rfl) (by kernel_rfl) (by kernel_rfl) (by rfl) (fun _ _ _ h => h) (by rfl) ?_
                try simp only [Act.put, List.setIfInBounds_toArray, List.set_cons_zero, List.set_cons_succ]
                refine wpAnyG_skip (i := 13) (oi := ⟨some 139, _, _, _, _, _⟩) rfl (by kernel_rfl) (by kernel_rfl) (by kernel_rfl) (by rfl) (fun _ _ _ h => h) (by rfl) ?_
                try simp only [Act.put, List.setIfInBounds_toArray, List.set_cons_zero, List.set_cons_succ]
                refine wpAnyG_skip (i := 14) (oi := ⟨some 140, _, _, _, _, _⟩) rfl (by kernel_rfl) (by kernel_rfl) (by kernel_rfl) (by rfl) (fun _ _ _ h => h) (by rfl) ?_
                try simp only [Act.put, List.setIfInBounds_toArray, List.set_cons_zero, List.set_cons_succ]
                refine wpAnyG_skip (i := 15) (oi := ⟨some 141, _, _, _, _, _⟩) rfl (by kernel_rfl) (by kernel_rfl) (by kernel_rfl) (by rfl) (fun _ _ _ h => h) (by rfl) ?_
                try simp only [Act.put, List.setIfInBounds_toArray, List.set_cons_zero, List.set_cons_succ]
                refine wpAnyG_skip (i := 16) (oi := ⟨some 142, _, _, _, _, _⟩) rfl (by kernel_rfl) (by kernel_rfl) (by kernel_rfl) (by rfl) (fun _ _ _ h => h) (by rfl) ?_
                try simp only [Act.put, List.setIfInBounds_toArray, List.set_cons_zero, List.set_cons_succ]
                refine wpAnyG_skip (i := 17) (oi := ⟨some 143, _, _, _, _, _⟩) rfl (by kernel_rfl) (by kernel_rfl) (by kernel_rfl) (by rfl) (fun _ _ _ h => h) (by rfl) ?_
                try simp only [Act.put, List.setIfInBounds_toArray, List.set_cons_zero, List.set_cons_succ]
                refine wpAnyG_skip (i := 18) (oi := ⟨some 144, _, _, _, _, _⟩) rfl (by kernel_rfl) (by kernel_rfl) (by kernel_rfl) (by rfl) (fun _ _ _ h => h) (by rfl) ?_
                try simp only [Act.put, List.setIfInBounds_toArray, List.set_cons_zero, List.set_cons_succ]
                refine wpAnyG_skip (i := 19) (oi := ⟨some 145, _, _, _, _, _⟩) rfl (by kernel_rfl) (by kernel_rfl) (by kernel_rfl) (by rfl) (fun _ _ _ h => h) (by rfl) ?_
                try simp only [Act.put, List.setIfInBounds_toArray, List.set_cons_zero, List.set_cons_succ]
                refine wpAnyG_skip (i := 20) (oi := ⟨some 146, _, _, _, _, _⟩) rfl (by kernel_rfl) (by kernel_rfl) (by kernel_rfl) (by rfl) (fun _ _ _ h => h) (by rfl) ?_
                try simp only [Act.put, List.setIfInBounds_toArray, List.set_cons_zero, List.set_cons_succ]
                refine wpAnyG_pure (i := 21) (oi := ⟨some 147, _, _, _, _, _⟩) (v := ?_) rfl (by kernel_rfl) (by kernel_rfl) (by kernel_rfl) (by rfl) (fun _ _ _ h => h) (by rfl) ?_ ?_
                rotate_left
                · intro w
                  go_simp
                  first | done | with_reducible rfl
                try simp only [Act.put, List.setIfInBounds_toArray, List.set_cons_zero, List.set_cons_succ]
                refine wpAnyG_done (by kernel_rfl) ?_ _
                refine NoPanic.normal ?_
                go_wp2_with fail
                go_meet
                case rel => exact ⟨rfl, h⟩
            case rest => as_aux_lemma =>
              obtain ⟨rfl, h⟩ := hcut
              clear H
              have H := Lib.hid h
              clear h
              have e6 : (sua.toList == sua.toList) = true := beq_self_eq_true _
              go_upto_if 196 with (first
                | (with_reducible refine at_slot (k := some 151) ?_; refine wpList_load_arr (o := ⟨some 151, _, _, _, _, _⟩) H.out.f2 0 [.string xa, .string ⟨#[]⟩] (pair_at _ _ _ _) hdP hrP (by kernel_rfl) rfl rfl rfl ?_)
                | (with_reducible refine (I1.out _ _ (HG.out.mid.mid.mid.mid.mid.mid.mid.mid) H.out).mono ?_; clear H I1; rintro ev w5 ⟨rfl, h⟩; have H := Lib.hid h; clear h)
                | (with_reducible refine at_slot (k := some 161) ?_; refine wpList_load_arr (o := ⟨some 161, _, _, _, _, _⟩) H.out.f2 2 [.string sa, .string ⟨#[]⟩] (pair_at2 _ _ _ _) hdP hrP (by kernel_rfl) rfl rfl rfl ?_)
                | (with_reducible refine (I2.out _ _ (HG.out.mid.mid.mid.mid.mid.mid.mid.mid) H.out).mono ?_; clear H I2; rintro ev w6 ⟨rfl, h⟩; have H := Lib.hid h; clear h; have c1 := (H.out.f8.cell 0).trans HA.out.1.1; have c2 := (H.out.f8.cell 2).trans HA.out.1.2))
              all_goals
                go_wp2_with fail
                go_meet
                case rel => exact H.out.f1.drop.f1.drop
    case rest => as_aux_lemma =>
      have H := Lib.hid hcut
      clear hcut
      clear BF
      go_upto_region 21 with (first
        | (with_reducible refine at_slot (k := some 198) ?_; refine wpList_load_arr (o := ⟨some 198, _, _, _, _, _⟩) H.out.f4 0 CT (arr_self _) hdT hrT (by rw [hlT]; kernel_rfl) rfl rfl rfl ?_)
        | (with_reducible refine (T1.out _ _ (HG.out.mid.mid.mid.mid.mid.mid) H.out).mono ?_; clear H T1; rintro ev wT ⟨rfl, h⟩; have H := Lib.hid (h.alloc (.cells #[.string kt, .string vt] ITT)); clear h)
        | (with_reducible refine at_slot (k := some 203) ?_; refine wpList_load_arr (o := ⟨some 203, _, _, _, _, _⟩) H.out.f4 0 CU (arr_self _) hdT hrT (by rw [hlU]; kernel_rfl) rfl rfl rfl ?_)
        | (with_reducible refine (T2.out _ _ (HG.out.mid.mid.mid.mid.mid.mid.cons) H.out).mono ?_; clear H T2; rintro ev wU ⟨rfl, h⟩; have H := Lib.hid (h.alloc (.cells #[.string ku, .string vu] ITT)); clear h))
      obtain ⟨bt, hbt⟩ : ∃ bt : Bool, bt = decide (et = 0 ∧ eu = 0) := ⟨_, rfl⟩
      go_cut [212] from 42 (fun x w' => x = .bool bt ∧ Own E w' (Hp.blk wU.heap.size ITT #[.string ku, .string vu] :: Hp.blk wT.heap.size ITT #[.string kt, .string vt] :: Hp.ro S :: Hp.blk wB.heap.size ITT #[.string kb, .string vb] :: Hp.blk wA.heap.size ITT #[.string ka, .string va] :: Hp.blk (w.heap.size + 1 + 1 + 1) TOKT CU.toArray :: Hp.blk (w.heap.size + 1 + 1) TOKT CT.toArray :: Hp.blk (w.heap.size + 1) FMT CB.toArray :: Hp.blk w.heap.size FMT CA.toArray :: L))
      case first => as_aux_lemma =>
        rcases HEt.out with rfl | rfl <;> rcases HEu.out with rfl | rfl
        all_goals
          go_wp2_with fail
          go_meet
          case rel => exact ⟨by rw [hbt]; rfl, H.out⟩
      case rest => as_aux_lemma =>
        obtain ⟨rfl, h⟩ := hcut
        clear H
        have H := Lib.hid h
        clear h
        cases bt with
        | false =>
          go_wp2_with fail
          go_ret
          exact ⟨rfl, H.out.drop.drop.f1.drop.f1.drop.f1.drop.f1.drop.f1.drop.f1.drop⟩
        | true =>
          have hbt2 := of_decide_eq_true hbt.symm
          obtain ⟨xt, yt, xu, yu, F1, F2, L4, L5, I1⟩ := BT.out hbt2.1 hbt2.2
          have F1 := Lib.hid F1
          have F2 := Lib.hid F2
          have L4 := Lib.hid L4
          have L5 := Lib.hid L5
          have I1 := Lib.hid I1
          clear BT hbt hbt2
          go_upto_region 24 with (first
            | (with_reducible refine at_slot (k := some 214) ?_; refine wpList_load_arr (o := ⟨some 214, _, _, _, _, _⟩) H.out.f6 0 CT (arr_self _) hdT hrT (by rw [hlT]; kernel_rfl) rfl rfl rfl ?_)
            | (with_reducible refine (F1.out _ _ (HG.out.mid.mid.mid.mid.mid.mid.cons.cons) H.out).mono ?_; clear H F1; rintro ev wV ⟨rfl, h⟩; have H := Lib.hid (h.alloc (.cells #[.string xt, .string yt] ITT)); clear h)
            | (with_reducible refine at_slot (k := some 219) ?_; refine wpList_load_arr (o := ⟨some 219, _, _, _, _, _⟩) H.out.f6 0 CU (arr_self _) hdT hrT (by rw [hlU]; kernel_rfl) rfl rfl rfl ?_)
            | (with_reducible refine (F2.out _ _ (HG.out.mid.mid.mid.mid.mid.mid.cons.cons.cons) H.out).mono ?_; clear H F2; rintro ev wW ⟨rfl, h⟩; have H := Lib.hid (h.alloc (.cells #[.string xu, .string yu] ITT)); clear h))
          have HC : ∀ w', Own E w' (Hp.blk wW.heap.size ITT #[.string xu, .string yu] :: Hp.blk wV.heap.size ITT #[.string xt, .string yt] :: Hp.blk wU.heap.size ITT #[.string ku, .string vu] :: Hp.blk wT.heap.size ITT #[.string kt, .string vt] :: Hp.ro S :: Hp.blk wB.heap.size ITT #[.string kb, .string vb] :: Hp.blk wA.heap.size ITT #[.string ka, .string va] :: Hp.blk (w.heap.size + 1 + 1 + 1) TOKT CU.toArray :: Hp.blk (w.heap.size + 1 + 1) TOKT CT.toArray :: Hp.blk (w.heap.size + 1) FMT CB.toArray :: Hp.blk w.heap.size FMT CA.toArray :: L) → (w'.cell? ⟨wT.heap.size, 0, none⟩ = some (.string kt) ∧ w'.cell? ⟨wU.heap.size, 0, none⟩ = some (.string ku) ∧ w'.cell? ⟨wV.heap.size, 0, none⟩ = some (.string xt) ∧ w'.cell? ⟨wW.heap.size, 0, none⟩ = some (.string xu) ∧ w'.cell? ⟨w.heap.size + 1 + 1, 0, none⟩ = some (.int .i64 ta) ∧ w'.cell? ⟨w.heap.size + 1 + 1, 1, none⟩ = some (.int .i64 tb) ∧ w'.cell? ⟨w.heap.size + 1 + 1, 2, none⟩ = some (.int .i64 tc) ∧ w'.cell? ⟨w.heap.size + 1 + 1 + 1, 0, none⟩ = some (.int .i64 ua) ∧ w'.cell? ⟨w.heap.size + 1 + 1 + 1, 1, none⟩ = some (.int .i64 ub) ∧ w'.cell? ⟨w.heap.size + 1 + 1 + 1, 2, none⟩ = some (.int .i64 uc)) := fun w' h => ⟨(h.f3.cell 0).trans rfl, (h.f2.cell 0).trans rfl, (h.f1.cell 0).trans rfl, (h.cell 0).trans rfl, (h.f8.cell 0).trans HT.out.1.1, (h.f8.cell 1).trans HT.out.1.2.1, (h.f8.cell 2).trans HT.out.1.2.2, (h.f7.cell 0).trans HT.out.2.1, (h.f7.cell 1).trans HT.out.2.2.1, (h.f7.cell 2).trans HT.out.2.2.2⟩
          have HC := Lib.hid HC
          go_cut [268] from 36 (fun x w' => x = .bool false ∧ Own E w' (Hp.blk wW.heap.size ITT #[.string xu, .string yu] :: Hp.blk wV.heap.size ITT #[.string xt, .string yt] :: Hp.blk wU.heap.size ITT #[.string ku, .string vu] :: Hp.blk wT.heap.size ITT #[.string kt, .string vt] :: Hp.ro S :: Hp.blk wB.heap.size ITT #[.string kb, .string vb] :: Hp.blk wA.heap.size ITT #[.string ka, .string va] :: Hp.blk (w.heap.size + 1 + 1 + 1) TOKT CU.toArray :: Hp.blk (w.heap.size + 1 + 1) TOKT CT.toArray :: Hp.blk (w.heap.size + 1) FMT CB.toArray :: Hp.blk w.heap.size FMT CA.toArray :: L))
          case first => as_aux_lemma =>
            obtain ⟨k1, k2, k3, k4, k5, k6, k7, k8, k9, ka2⟩ := HC.out _ H.out
            by_cases hi : ta < ua
            · have l4 : Op.bytesLess kt.toList ku.toList = true := by rw [L4.out]; exact decide_eq_true hi
              rcases (by omega : tb < ub ∨ tb = ub ∨ ub < tb) with hb | hb | hb
              · have l5 : Op.bytesLess xt.toList xu.toList = true := by rw [L5.out]; exact decide_eq_true (.inl hb)
                go_wp2_with fail
                go_meet
                case rel => first | exact ⟨rfl, H.out⟩ | exact ⟨by simp [l4, l5], H.out⟩
              · subst hb
                by_cases hc : tc < uc
                · have l5 : Op.bytesLess xt.toList xu.toList = true := by rw [L5.out]; exact decide_eq_true (.inr ⟨rfl, hc⟩)
                  go_wp2_with fail
                  go_meet
                  case rel => first | exact ⟨rfl, H.out⟩ | exact ⟨by simp [l4, l5], H.out⟩
                · have l5 : Op.bytesLess xt.toList xu.toList = false := by rw [L5.out]; exact decide_eq_false (by omega)
                  go_wp2_with fail
                  go_meet
                  case rel => first | exact ⟨rfl, H.out⟩ | exact ⟨by simp [l4, l5], H.out⟩
              · have l5 : Op.bytesLess xt.toList xu.toList = false := by rw [L5.out]; exact decide_eq_false (by omega)
                have hb2 : ¬ tb < ub := by omega
                have hb3 : ¬ tb = ub := by omega
                go_wp2_with fail
                go_meet
                case rel => first | exact ⟨rfl, H.out⟩ | exact ⟨by simp [l4, l5], H.out⟩
            · have l4 : Op.bytesLess kt.toList ku.toList = false := by rw [L4.out]; exact decide_eq_false hi
              rcases (by omega : tb < ub ∨ tb = ub ∨ ub < tb) with hb | hb | hb
              · have l5 : Op.bytesLess xt.toList xu.toList = true := by rw [L5.out]; exact decide_eq_true (.inl hb)
                go_wp2_with fail
                go_meet
                case rel => first | exact ⟨rfl, H.out⟩ | exact ⟨by simp [l4, l5], H.out⟩
              · subst hb
                by_cases hc : tc < uc
                · have l5 : Op.bytesLess xt.toList xu.toList = true := by rw [L5.out]; exact decide_eq_true (.inr ⟨rfl, hc⟩)
                  go_wp2_with fail
                  go_meet
                  case rel => first | exact ⟨rfl, H.out⟩ | exact ⟨by simp [l4, l5], H.out⟩
                · have l5 : Op.bytesLess xt.toList xu.toList = false := by rw [L5.out]; exact decide_eq_false (by omega)
                  go_wp2_with fail
                  go_meet
                  case rel => first | exact ⟨rfl, H.out⟩ | exact ⟨by simp [l4, l5], H.out⟩
              · have l5 : Op.bytesLess xt.toList xu.toList = false := by rw [L5.out]; exact decide_eq_false (by omega)
                have hb2 : ¬ tb < ub := by omega
                have hb3 : ¬ tb = ub := by omega
                go_wp2_with fail
                go_meet
                case rel => first | exact ⟨rfl, H.out⟩ | exact ⟨by simp [l4, l5], H.out⟩
          case rest => as_aux_lemma =>
            obtain ⟨rfl, h⟩ := hcut
            clear H
            have H := Lib.hid h
            clear h
            go_upto_if 290 with (first
              | (with_reducible refine at_slot (k := some 270) ?_; refine wpList_load_arr (o := ⟨some 270, _, _, _, _, _⟩) H.out.f1 0 [.string xt, .string yt] (arr_self _) hdP hrP (by kernel_rfl) rfl rfl rfl ?_)
              | (with_reducible refine (I1.out _ _ (HG.out.mid.mid.mid.mid.mid.mid.cons.cons.cons.cons) H.out).mono ?_; clear H I1; rintro ev w7 ⟨rfl, h⟩; have H := Lib.hid h; clear h; obtain ⟨k1, k2, k3, k4, k5, k6, k7, k8, k9, ka2⟩ := HC.out _ H.out))
            all_goals
              go_wp2_with fail
              go_ret
              exact ⟨rfl, H.out.drop.drop.drop.drop.f1.drop.f1.drop.f1.drop.f1.drop.f1.drop.f1.drop⟩
end
end Go.Proofs.YtabibfabieghpaaGreatDoor
