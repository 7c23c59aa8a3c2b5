/- RecordSmall: the walk (begun: as far as the token's conditions). -/
import Derived.Test.YtabibfabieghpaaGreatDoorSmall
namespace Go.Proofs.YtabibfabieghpaaGreatDoor
open Go.RowKit
abbrev SMT : TypeId := 31
structure Sm where
  (a b c : Int) (s : ByteArray) (d : Int) (f : Bool) (e g : Int) (r : ByteArray)
  (kg : Int) (ks : ByteArray) (ka kb : Int)
  (ei et ek ej : Int) (es : ByteArray)
  (ca cb : Int) (cs cr : ByteArray)
  (nx ny : Int)
def Sm.tok (m : Sm) : List Value := tokC m.a m.b m.c m.s m.d m.f m.e m.g m.r
def Sm.key (m : Sm) : List Value := [.int .i64 m.kg, .string m.ks, .int .i64 m.ka, .int .i64 m.kb]
def Sm.event (m : Sm) : List Value := [.int .i64 m.ei, .int .i64 m.et, .int .i64 m.ek, .int .i64 m.ej, .string m.es]
def Sm.chain (m : Sm) : List Value := [.int .i64 m.ca, .int .i64 m.cb, .string m.cs, .string m.cr]
def Sm.cells (m : Sm) : List Value := m.tok ++ m.key ++ m.event ++ m.chain ++ [.int .i64 m.nx, .int .i64 m.ny]
theorem part_at (A B C : List Value) (off : Nat) (h : A.length = off) (j : Nat) (u : Value) (hu : B[j]? = some u) : (A ++ B ++ C).toArray[off + j]? = some u := by
  have hj : j < B.length := (List.getElem?_eq_some_iff.1 hu).1
  rw [List.getElem?_toArray, List.append_assoc, List.getElem?_append_right (by omega), h, Nat.add_sub_cancel_left, List.getElem?_append_left hj]
  exact hu
theorem Sm.tok_at (m : Sm) (j : Nat) (u : Value) (hu : m.tok[j]? = some u) : m.cells.toArray[0 + j]? = some u := by
  have h := part_at [] m.tok (m.key ++ m.event ++ m.chain ++ [.int .i64 m.nx, .int .i64 m.ny]) 0 rfl j u hu
  have e : m.cells = [] ++ m.tok ++ (m.key ++ m.event ++ m.chain ++ [.int .i64 m.nx, .int .i64 m.ny]) := by unfold Sm.cells; simp
  rw [e]; exact h
theorem Sm.key_at (m : Sm) (j : Nat) (u : Value) (hu : m.key[j]? = some u) : m.cells.toArray[9 + j]? = some u := by
  have h := part_at m.tok m.key (m.event ++ m.chain ++ [.int .i64 m.nx, .int .i64 m.ny]) 9 rfl j u hu
  have e : m.cells = m.tok ++ m.key ++ (m.event ++ m.chain ++ [.int .i64 m.nx, .int .i64 m.ny]) := by unfold Sm.cells; simp
  rw [e]; exact h
theorem Sm.event_at (m : Sm) (j : Nat) (u : Value) (hu : m.event[j]? = some u) : m.cells.toArray[13 + j]? = some u := by
  have h := part_at (m.tok ++ m.key) m.event (m.chain ++ [.int .i64 m.nx, .int .i64 m.ny]) 13 rfl j u hu
  have e : m.cells = (m.tok ++ m.key) ++ m.event ++ (m.chain ++ [.int .i64 m.nx, .int .i64 m.ny]) := by unfold Sm.cells; simp
  rw [e]; exact h
theorem Sm.chain_at (m : Sm) (j : Nat) (u : Value) (hu : m.chain[j]? = some u) : m.cells.toArray[18 + j]? = some u := by
  have h := part_at (m.tok ++ m.key ++ m.event) m.chain [.int .i64 m.nx, .int .i64 m.ny] 18 rfl j u hu
  exact h
theorem pt_u : ∃ d, Tryz.prog.underlying TOKT = some d ∧ d.isRow = true := tokt_u
theorem pair_same (k v : ByteArray) (w : World) : (binOp .neq ITT (.agg #[.string k, .string v]) (.agg #[.string k, .string v])).run Tryz.prog w = .ok (.bool false) w := by
  rw [run_pair, decide_eq_true ⟨rfl, rfl⟩]; rfl
section
variable {E : World} {L : List Hp}
set_option maxRecDepth 20000 in
set_option maxHeartbeats 8000000 in
theorem small_any (m : Sm) (w : World) (hes : m.es.size ≤ 1000000000000000000) (hG : Laid0 E L) (h : Own E w L) :
    Calls Tryz.prog 3 #[.agg m.cells.toArray] w fun ev w' => ev = .returned (.bool true) ∧ Own E w' L := by
  have h1 := h.alloc (.cells m.cells.toArray SMT)
  have H3 := Lib.hid h1
  have HG := Lib.hid hG
  obtain ⟨dt, hdt, hrt⟩ := tokt_u
  obtain ⟨dp, hdp, hrp⟩ := itt_u
  obtain ⟨x1, x2, er, x3, x4, y1, y2, y3, y4, y5, y6, y7, y8, y9, te, q1, q2, q3, z1, z2, HT⟩ := tok_sees m.a m.b m.c m.s m.d m.f m.e m.g m.r
  have AW : Hid (∀ (M : List Hp) (w : World), Laid0 E M → Own E w M → Calls Tryz.prog 10 #[] w fun ev w' => ev = .returned (.bool true) ∧ Own E w' M) := Lib.hid fun M w hG h => awake14_any w hG h
  have P1 : Hid (∀ (M : List Hp) (w : World), Laid0 E M → Own E w M → Calls Tryz.prog 11 #[.agg m.tok.toArray] w fun ev w' => ev = .returned (.tuple #[.agg #[.string x1, .string x2], .int .i64 er]) ∧ Own E w' M) := Lib.hid fun M w hG h => by
    have hh := printtok_any m.a m.b m.c m.s m.d m.f m.e m.g m.r w hG h
    rw [q1] at hh; exact hh
  have P2 : Hid (∀ (M : List Hp) (w : World), Own E w M → Calls Tryz.prog 12 #[.agg m.tok.toArray] w fun ev w' => ev = .returned (.tuple #[.agg #[.string x1, .string x2], .int .i64 er]) ∧ Own E w' M) := Lib.hid fun M w h => by
    have hh := xprinttok_any m.a m.b m.c m.s m.d m.f m.e m.g m.r w h
    rw [q1] at hh; exact hh
  have P3 : Hid (∀ (M : List Hp) (w : World), Laid0 E M → Own E w M → Calls Tryz.prog 13 #[.agg #[.string x1, .string x2]] w fun ev w' => ev = .returned (.tuple #[.agg #[.int .i64 y1, .int .i64 y2, .int .i64 y3, .string y4, .int .i64 y5, .bool y6, .int .i64 y7, .int .i64 y8, .string y9], .int .i64 te]) ∧ Own E w' M) := Lib.hid fun M w hG h => by
    have hh := parsetok_any x1 x2 w z1 z2 hG h
    rw [q3] at hh; exact hh
  have P4 : Hid (∀ (M : List Hp) (w : World), Laid0 E M → Own E w M → Calls Tryz.prog 14 #[.agg m.tok.toArray] w fun ev w' => ev = .returned (.tuple #[.agg #[.string x3, .string x4], .int .i64 er]) ∧ Own E w' M) := Lib.hid fun M w hG h => by
    have hh := oftok_any m.a m.b m.c m.s m.d m.f m.e m.g m.r w hG h
    rw [q2] at hh; exact hh
  have P5 : Hid (∀ (M : List Hp) (w : World), Own E w M → Calls Tryz.prog 15 #[.agg m.tok.toArray] w fun ev w' => ev = .returned (.tuple #[.agg #[.string x3, .string x4], .int .i64 er]) ∧ Own E w' M) := Lib.hid fun M w h => by
    have hh := xoftok_any m.a m.b m.c m.s m.d m.f m.e m.g m.r w h
    rw [q2] at hh; exact hh
  clear h h1 hG q1 q2 q3 z1 z2
  generalize hcs : m.cells = SC at *
  have TA : Hid (∀ j u, m.tok[j]? = some u → SC.toArray[0 + j]? = some u) := Lib.hid fun j u hu => by rw [← hcs]; exact m.tok_at j u hu
  go_enter Tryz.func3, Tryz.ntmps3
  go_upto_region 7 with (first
    | (with_reducible refine (AW.out _ _ HG.out.cons H3.out).mono ?_; clear H3; rintro ev w0 ⟨rfl, h⟩; have H3 := Lib.hid h; clear h)
    | (with_reducible refine at_slot (k := some 30) ?_; refine wpList_load_arr (o := ⟨some 30, _, _, _, _, _⟩) H3.out 0 m.tok TA.out hdt hrt (by kernel_rfl) rfl rfl rfl ?_)
    | (with_reducible refine (P1.out _ _ HG.out.cons H3.out).mono ?_; clear H3 P1; rintro ev wA ⟨rfl, h⟩; have H3 := Lib.hid (h.alloc (.cells #[.string x1, .string x2] ITT)); clear h)
    | (with_reducible refine at_slot (k := some 36) ?_; refine wpList_load_arr (o := ⟨some 36, _, _, _, _, _⟩) H3.out.f1 0 m.tok TA.out hdt hrt (by kernel_rfl) rfl rfl rfl ?_)
    | (with_reducible refine (P2.out _ _ H3.out).mono ?_; clear H3 P2; rintro ev wB ⟨rfl, h⟩; have H3 := Lib.hid (h.alloc (.cells #[.string x1, .string x2] ITT)); clear h)
    | (with_reducible refine at_slot (k := some 41) ?_; refine wpList_load_arr (o := ⟨some 41, _, _, _, _, _⟩) H3.out.f1 0 [.string x1, .string x2] (fun j u hu => by simpa using hu) hdp hrp (by kernel_rfl) rfl rfl rfl ?_)
    | (with_reducible refine (P3.out _ _ HG.out.cons.cons.cons H3.out).mono ?_; clear H3 P3; rintro ev wC ⟨rfl, h⟩; have H3 := Lib.hid (h.alloc (.cells #[.int .i64 y1, .int .i64 y2, .int .i64 y3, .string y4, .int .i64 y5, .bool y6, .int .i64 y7, .int .i64 y8, .string y9] TOKT)); clear h)
    | (with_reducible refine at_slot (k := some 47) ?_; refine wpList_load_arr (o := ⟨some 47, _, _, _, _, _⟩) H3.out.f3 0 m.tok TA.out hdt hrt (by kernel_rfl) rfl rfl rfl ?_)
    | (with_reducible refine (P4.out _ _ HG.out.cons.cons.cons.cons H3.out).mono ?_; clear H3 P4; rintro ev wD ⟨rfl, h⟩; have H3 := Lib.hid (h.alloc (.cells #[.string x3, .string x4] ITT)); clear h)
    | (with_reducible refine at_slot (k := some 53) ?_; refine wpList_load_arr (o := ⟨some 53, _, _, _, _, _⟩) H3.out.f4 0 m.tok TA.out hdt hrt (by kernel_rfl) rfl rfl rfl ?_)
    | (with_reducible refine (P5.out _ _ H3.out).mono ?_; clear H3 P5; rintro ev wE ⟨rfl, h⟩; have H3 := Lib.hid (h.alloc (.cells #[.string x3, .string x4] ITT)); clear h))
  have c4a := H3.out.f4.cell 0
  have c4b := H3.out.f4.cell 1
  have c6a := H3.out.f3.cell 0
  have c6b := H3.out.f3.cell 1
  have cDa := H3.out.f1.cell 0
  have cDb := H3.out.f1.cell 1
  simp only [List.getElem?_toArray, List.getElem?_cons_zero, List.getElem?_cons_succ] at c4a c4b c6a c6b cDa cDb
  have s1 := pair_same x1 x2
  have s2 := pair_same x3 x4
  go_cut [100] from 27 (fun x w' => x = .bool false ∧ w' = wE.alloc (.cells #[.string x3, .string x4] ITT))
  case first => as_aux_lemma =>
    rcases HT with ⟨rfl, rfl, rfl, rfl, rfl, rfl, rfl, rfl, rfl, rfl, rfl⟩ | ⟨rfl, rfl⟩
    · skip
      have b0 : _ = some (Value.int .i64 m.a) := H3.out.f2.cell 0
      have d0 : _ = some (Value.int .i64 m.a) := (H3.out.f5.cell 0).trans (by rw [← hcs]; rfl)
      have b1 : _ = some (Value.int .i64 m.b) := H3.out.f2.cell 1
      have d1 : _ = some (Value.int .i64 m.b) := (H3.out.f5.cell 1).trans (by rw [← hcs]; rfl)
      have b2 : _ = some (Value.int .i64 m.c) := H3.out.f2.cell 2
      have d2 : _ = some (Value.int .i64 m.c) := (H3.out.f5.cell 2).trans (by rw [← hcs]; rfl)
      have b3 : _ = some (Value.string m.s) := H3.out.f2.cell 3
      have d3 : _ = some (Value.string m.s) := (H3.out.f5.cell 3).trans (by rw [← hcs]; rfl)
      have b4 : _ = some (Value.int .i64 m.d) := H3.out.f2.cell 4
      have d4 : _ = some (Value.int .i64 m.d) := (H3.out.f5.cell 4).trans (by rw [← hcs]; rfl)
      have b5 : _ = some (Value.bool m.f) := H3.out.f2.cell 5
      have d5 : _ = some (Value.bool m.f) := (H3.out.f5.cell 5).trans (by rw [← hcs]; rfl)
      have b6 : _ = some (Value.int .i64 m.e) := H3.out.f2.cell 6
      have d6 : _ = some (Value.int .i64 m.e) := (H3.out.f5.cell 6).trans (by rw [← hcs]; rfl)
      have b7 : _ = some (Value.int .i64 m.g) := H3.out.f2.cell 7
      have d7 : _ = some (Value.int .i64 m.g) := (H3.out.f5.cell 7).trans (by rw [← hcs]; rfl)
      have b8 : _ = some (Value.string m.r) := H3.out.f2.cell 8
      have d8 : _ = some (Value.string m.r) := (H3.out.f5.cell 8).trans (by rw [← hcs]; rfl)
      have hqT : ∀ w, (binOp .neq TOKT (.agg #[.int .i64 m.a, .int .i64 m.b, .int .i64 m.c, .string m.s, .int .i64 m.d, .bool m.f, .int .i64 m.e, .int .i64 m.g, .string m.r]) (.agg #[.int .i64 m.a, .int .i64 m.b, .int .i64 m.c, .string m.s, .int .i64 m.d, .bool m.f, .int .i64 m.e, .int .i64 m.g, .string m.r])).run Tryz.prog w = .ok (.bool false) w := fun w => by
        rw [run_neq_struct, show (Op.equalIn 10000 TOKT (.agg #[.int .i64 m.a, .int .i64 m.b, .int .i64 m.c, .string m.s, .int .i64 m.d, .bool m.f, .int .i64 m.e, .int .i64 m.g, .string m.r]) (.agg #[.int .i64 m.a, .int .i64 m.b, .int .i64 m.c, .string m.s, .int .i64 m.d, .bool m.f, .int .i64 m.e, .int .i64 m.g, .string m.r])).run Tryz.prog w = .ok true w from eq_tok m.a m.b m.c m.s m.d m.f m.e m.g m.r]
        rfl
      go_wp2_with fail
      go_meet
      case rel => exact ⟨rfl, rfl⟩
    · go_wp2_with fail
      go_meet
      case rel => exact ⟨rfl, rfl⟩
  case rest => as_aux_lemma =>
    obtain ⟨rfl, rfl⟩ := hcut
    obtain ⟨k1, k2, kr, vk1, vk2, vk3, vk4, kt, q1, q2, z1, z2, HT⟩ := key_sees m.kg m.ks m.ka m.kb
    have Q1 : Hid (∀ (M : List Hp) (w : World), Laid0 E M → Own E w M → Calls Tryz.prog 16 #[.agg m.key.toArray] w fun ev w' => ev = .returned (.tuple #[.agg #[.string k1, .string k2], .int .i64 kr]) ∧ Own E w' M) := Lib.hid fun M w hG h => by
      have hh := printkey_any m.kg m.ks m.ka m.kb w hG h
      rw [q1] at hh; exact hh
    have Q2 : Hid (∀ (M : List Hp) (w : World), Own E w M → Calls Tryz.prog 17 #[.agg m.key.toArray] w fun ev w' => ev = .returned (.tuple #[.agg #[.string k1, .string k2], .int .i64 kr]) ∧ Own E w' M) := Lib.hid fun M w h => by
      have hh := xprintkey_any m.kg m.ks m.ka m.kb w h
      rw [q1] at hh; exact hh
    have Q3 : Hid (∀ (M : List Hp) (w : World), Laid0 E M → Own E w M → Calls Tryz.prog 18 #[.agg #[.string k1, .string k2]] w fun ev w' => ev = .returned (.tuple #[.agg #[.int .i64 vk1, .string vk2, .int .i64 vk3, .int .i64 vk4], .int .i64 kt]) ∧ Own E w' M) := Lib.hid fun M w hG h => by
      have hh := parsekey_any k1 k2 w z1 z2 hG h
      rw [q2] at hh; exact hh
    have PA : Hid (∀ j u, m.key[j]? = some u → SC.toArray[9 + j]? = some u) := Lib.hid fun j u hu => by rw [← hcs]; exact m.key_at j u hu
    obtain ⟨dkey, hdkey, hrkey⟩ := keyt_u
    have H3 := Lib.hid (show Own E _ (Hp.blk wA.heap.size ITT #[.string x1, .string x2] :: Hp.blk wB.heap.size ITT #[.string x1, .string x2] :: Hp.blk w.heap.size SMT SC.toArray :: L) from H3.out.drop.drop.drop.f1)
    clear c4a c4b c6a c6b cDa cDb s1 s2 q1 q2 z1 z2
    go_upto_region 12 with (first
      | (with_reducible refine at_slot (k := some 103) ?_; refine wpList_load_arr (o := ⟨some 103, _, _, _, _, _⟩) H3.out.f2 9 m.key PA.out hdkey hrkey (by kernel_rfl) rfl rfl rfl ?_)
      | (with_reducible refine (Q1.out _ _ HG.out.cons.cons.cons H3.out).mono ?_; clear H3 Q1; rintro ev wK0 ⟨rfl, h⟩; have H3 := Lib.hid h; clear h)
      | (with_reducible refine at_slot (k := some 109) ?_; refine wpList_load_arr (o := ⟨some 109, _, _, _, _, _⟩) H3.out.f2 9 m.key PA.out hdkey hrkey (by kernel_rfl) rfl rfl rfl ?_)
      | (with_reducible refine (Q2.out _ _ H3.out).mono ?_; clear H3 Q2; rintro ev wK1 ⟨rfl, h⟩; have H3 := Lib.hid h; clear h)
      | (with_reducible refine at_slot (k := some 114) ?_; refine wpList_load_arr (o := ⟨some 114, _, _, _, _, _⟩) H3.out 0 [.string k1, .string k2] (fun j u hu => by simpa using hu) hdp hrp (by kernel_rfl) rfl rfl rfl ?_)
      | (with_reducible refine (Q3.out _ _ HG.out.cons.cons.cons H3.out).mono ?_; clear H3 Q3; rintro ev wK2 ⟨rfl, h⟩; have H3 := Lib.hid (h.alloc (.cells #[.int .i64 vk1, .string vk2, .int .i64 vk3, .int .i64 vk4] 25)); clear h)
      | (with_reducible refine at_slot (k := none) ?_; refine wpList_store_whole (o := ⟨none, _, _, _, _, _⟩) (cs := [.string x1, .string x2]) (vs := [.string k1, .string k2]) H3.out rfl (pair_one _ _) (by kernel_rfl) rfl rfl rfl rfl ?_; clear H3; intro w7 h; have H3 := Lib.hid h; clear h)
      | (with_reducible refine at_slot (k := none) ?_; refine wpList_store_whole (o := ⟨none, _, _, _, _, _⟩) (cs := [.string x1, .string x2]) (vs := [.string k1, .string k2]) H3.out.f1 rfl (pair_one _ _) (by kernel_rfl) rfl rfl rfl rfl ?_; clear H3; intro w7 h; have H3 := Lib.hid h.f1; clear h))
    have c4a := H3.out.f1.cell 0
    have c4b := H3.out.f1.cell 1
    have c6a := H3.out.f2.cell 0
    have c6b := H3.out.f2.cell 1
    simp only [List.getElem?_toArray, List.getElem?_cons_zero, List.getElem?_cons_succ] at c4a c4b c6a c6b
    have s1 := pair_same k1 k2
    go_cut [147] from 27 (fun x w' => x = .bool false ∧ w' = wK2.alloc (.cells #[.int .i64 vk1, .string vk2, .int .i64 vk3, .int .i64 vk4] 25))
    case first => as_aux_lemma =>
      rcases HT with ⟨rfl, rfl, rfl, rfl, rfl, rfl⟩ | ⟨rfl, rfl⟩
      · skip
        have d0 : _ = some (Value.int .i64 m.kg) := (H3.out.f3.cell 9).trans (by rw [← hcs]; rfl)
        have d1 : _ = some (Value.string m.ks) := (H3.out.f3.cell 10).trans (by rw [← hcs]; rfl)
        have d2 : _ = some (Value.int .i64 m.ka) := (H3.out.f3.cell 11).trans (by rw [← hcs]; rfl)
        have d3 : _ = some (Value.int .i64 m.kb) := (H3.out.f3.cell 12).trans (by rw [← hcs]; rfl)
        have hqT : ∀ w, (binOp .neq 25 (.agg #[.int .i64 m.kg, .string m.ks, .int .i64 m.ka, .int .i64 m.kb]) (.agg #[.int .i64 m.kg, .string m.ks, .int .i64 m.ka, .int .i64 m.kb])).run Tryz.prog w = .ok (.bool false) w := fun w => by
          rw [run_neq_struct, eq_key]; rfl
        go_wp2_with fail
        go_meet
        case rel => exact ⟨rfl, rfl⟩
      · go_wp2_with fail
        go_meet
        case rel => exact ⟨rfl, rfl⟩
    case rest => as_aux_lemma =>
      obtain ⟨rfl, rfl⟩ := hcut
      obtain ⟨n1, n2, nr, ve1, ve2, ve3, ve4, ve5, nt, q1, q2, z1, z2, HT⟩ := event_sees m.ei m.et m.ek m.ej m.es
      have Q1 : Hid (∀ (M : List Hp) (w : World), Laid0 E M → Own E w M → Calls Tryz.prog 19 #[.agg m.event.toArray] w fun ev w' => ev = .returned (.tuple #[.agg #[.string n1, .string n2], .int .i64 nr]) ∧ Own E w' M) := Lib.hid fun M w hG h => by
        have hh := printevent_any m.ei m.et m.ek m.ej m.es w hG h
        rw [q1] at hh; exact hh
      have Q2 : Hid (∀ (M : List Hp) (w : World), Own E w M → Calls Tryz.prog 20 #[.agg m.event.toArray] w fun ev w' => ev = .returned (.tuple #[.agg #[.string n1, .string n2], .int .i64 nr]) ∧ Own E w' M) := Lib.hid fun M w h => by
        have hh := xprintevent_any m.ei m.et m.ek m.ej m.es w hes h
        rw [q1] at hh; exact hh
      have Q3 : Hid (∀ (M : List Hp) (w : World), Laid0 E M → Own E w M → Calls Tryz.prog 21 #[.agg #[.string n1, .string n2]] w fun ev w' => ev = .returned (.tuple #[.agg #[.int .i64 ve1, .int .i64 ve2, .int .i64 ve3, .int .i64 ve4, .string ve5], .int .i64 nt]) ∧ Own E w' M) := Lib.hid fun M w hG h => by
        have hh := parseevent_any n1 n2 w z1 z2 hG h
        rw [q2] at hh; exact hh
      have PA : Hid (∀ j u, m.event[j]? = some u → SC.toArray[13 + j]? = some u) := Lib.hid fun j u hu => by rw [← hcs]; exact m.event_at j u hu
      obtain ⟨devent, hdevent, hrevent⟩ := evt_u
      have H3 := Lib.hid (show Own E _ (Hp.blk wA.heap.size ITT #[.string k1, .string k2] :: Hp.blk wB.heap.size ITT #[.string k1, .string k2] :: Hp.blk w.heap.size SMT SC.toArray :: L) from H3.out.drop)
      clear c4a c4b c6a c6b s1 q1 q2 z1 z2
      go_upto_region 17 with (first
        | (with_reducible refine at_slot (k := some 150) ?_; refine wpList_load_arr (o := ⟨some 150, _, _, _, _, _⟩) H3.out.f2 13 m.event PA.out hdevent hrevent (by kernel_rfl) rfl rfl rfl ?_)
        | (with_reducible refine (Q1.out _ _ HG.out.cons.cons.cons H3.out).mono ?_; clear H3 Q1; rintro ev wE0 ⟨rfl, h⟩; have H3 := Lib.hid h; clear h)
        | (with_reducible refine at_slot (k := some 156) ?_; refine wpList_load_arr (o := ⟨some 156, _, _, _, _, _⟩) H3.out.f2 13 m.event PA.out hdevent hrevent (by kernel_rfl) rfl rfl rfl ?_)
        | (with_reducible refine (Q2.out _ _ H3.out).mono ?_; clear H3 Q2; rintro ev wE1 ⟨rfl, h⟩; have H3 := Lib.hid h; clear h)
        | (with_reducible refine at_slot (k := some 161) ?_; refine wpList_load_arr (o := ⟨some 161, _, _, _, _, _⟩) H3.out 0 [.string n1, .string n2] (fun j u hu => by simpa using hu) hdp hrp (by kernel_rfl) rfl rfl rfl ?_)
        | (with_reducible refine (Q3.out _ _ HG.out.cons.cons.cons H3.out).mono ?_; clear H3 Q3; rintro ev wE2 ⟨rfl, h⟩; have H3 := Lib.hid (h.alloc (.cells #[.int .i64 ve1, .int .i64 ve2, .int .i64 ve3, .int .i64 ve4, .string ve5] 27)); clear h)
        | (with_reducible refine at_slot (k := none) ?_; refine wpList_store_whole (o := ⟨none, _, _, _, _, _⟩) (cs := [.string k1, .string k2]) (vs := [.string n1, .string n2]) H3.out rfl (pair_one _ _) (by kernel_rfl) rfl rfl rfl rfl ?_; clear H3; intro w7 h; have H3 := Lib.hid h; clear h)
        | (with_reducible refine at_slot (k := none) ?_; refine wpList_store_whole (o := ⟨none, _, _, _, _, _⟩) (cs := [.string k1, .string k2]) (vs := [.string n1, .string n2]) H3.out.f1 rfl (pair_one _ _) (by kernel_rfl) rfl rfl rfl rfl ?_; clear H3; intro w7 h; have H3 := Lib.hid h.f1; clear h))
      have c4a := H3.out.f1.cell 0
      have c4b := H3.out.f1.cell 1
      have c6a := H3.out.f2.cell 0
      have c6b := H3.out.f2.cell 1
      simp only [List.getElem?_toArray, List.getElem?_cons_zero, List.getElem?_cons_succ] at c4a c4b c6a c6b
      have s1 := pair_same n1 n2
      go_cut [194] from 27 (fun x w' => x = .bool false ∧ w' = wE2.alloc (.cells #[.int .i64 ve1, .int .i64 ve2, .int .i64 ve3, .int .i64 ve4, .string ve5] 27))
      case first => as_aux_lemma =>
        rcases HT with ⟨rfl, rfl, rfl, rfl, rfl, rfl, rfl⟩ | ⟨rfl, rfl⟩
        · skip
          have d0 : _ = some (Value.int .i64 m.ei) := (H3.out.f3.cell 13).trans (by rw [← hcs]; rfl)
          have d1 : _ = some (Value.int .i64 m.et) := (H3.out.f3.cell 14).trans (by rw [← hcs]; rfl)
          have d2 : _ = some (Value.int .i64 m.ek) := (H3.out.f3.cell 15).trans (by rw [← hcs]; rfl)
          have d3 : _ = some (Value.int .i64 m.ej) := (H3.out.f3.cell 16).trans (by rw [← hcs]; rfl)
          have d4 : _ = some (Value.string m.es) := (H3.out.f3.cell 17).trans (by rw [← hcs]; rfl)
          have hqT : ∀ w, (binOp .neq 27 (.agg #[.int .i64 m.ei, .int .i64 m.et, .int .i64 m.ek, .int .i64 m.ej, .string m.es]) (.agg #[.int .i64 m.ei, .int .i64 m.et, .int .i64 m.ek, .int .i64 m.ej, .string m.es])).run Tryz.prog w = .ok (.bool false) w := fun w => by
            rw [run_neq_struct, eq_event]; rfl
          go_wp2_with fail
          go_meet
          case rel => exact ⟨rfl, rfl⟩
        · go_wp2_with fail
          go_meet
          case rel => exact ⟨rfl, rfl⟩
      case rest => as_aux_lemma =>
        obtain ⟨rfl, rfl⟩ := hcut
        obtain ⟨c1, c2, cr, vc1, vc2, vc3, vc4, ct, q1, q2, z2, HT⟩ := chain_sees m.ca m.cb m.cs m.cr
        have Q1 : Hid (∀ (M : List Hp) (w : World), Laid0 E M → Own E w M → Calls Tryz.prog 22 #[.agg m.chain.toArray] w fun ev w' => ev = .returned (.tuple #[.agg #[.string c1, .string c2], .int .i64 cr]) ∧ Own E w' M) := Lib.hid fun M w hG h => by
          have hh := printchain_any m.ca m.cb m.cs m.cr w hG h
          rw [q1] at hh; exact hh
        have Q2 : Hid (∀ (M : List Hp) (w : World), Own E w M → Calls Tryz.prog 23 #[.agg m.chain.toArray] w fun ev w' => ev = .returned (.tuple #[.agg #[.string c1, .string c2], .int .i64 cr]) ∧ Own E w' M) := Lib.hid fun M w h => by
          have hh := xprintchain_any m.ca m.cb m.cs m.cr w h
          rw [q1] at hh; exact hh
        have Q3 : Hid (∀ (M : List Hp) (w : World), Laid0 E M → Own E w M → Calls Tryz.prog 24 #[.agg #[.string c1, .string c2]] w fun ev w' => ev = .returned (.tuple #[.agg #[.int .i64 vc1, .int .i64 vc2, .string vc3, .string vc4], .int .i64 ct]) ∧ Own E w' M) := Lib.hid fun M w hG h => by
          have hh := parsechain_any c1 c2 w z2 hG h
          rw [q2] at hh; exact hh
        have PA : Hid (∀ j u, m.chain[j]? = some u → SC.toArray[18 + j]? = some u) := Lib.hid fun j u hu => by rw [← hcs]; exact m.chain_at j u hu
        obtain ⟨dchain, hdchain, hrchain⟩ := cht_u
        have H3 := Lib.hid (show Own E _ (Hp.blk wA.heap.size ITT #[.string n1, .string n2] :: Hp.blk wB.heap.size ITT #[.string n1, .string n2] :: Hp.blk w.heap.size SMT SC.toArray :: L) from H3.out.drop)
        clear c4a c4b c6a c6b s1 q1 q2 z2
        go_upto_region 22 with (first
          | (with_reducible refine at_slot (k := some 197) ?_; refine wpList_load_arr (o := ⟨some 197, _, _, _, _, _⟩) H3.out.f2 18 m.chain PA.out hdchain hrchain (by kernel_rfl) rfl rfl rfl ?_)
          | (with_reducible refine (Q1.out _ _ HG.out.cons.cons.cons H3.out).mono ?_; clear H3 Q1; rintro ev wC0 ⟨rfl, h⟩; have H3 := Lib.hid h; clear h)
          | (with_reducible refine at_slot (k := some 203) ?_; refine wpList_load_arr (o := ⟨some 203, _, _, _, _, _⟩) H3.out.f2 18 m.chain PA.out hdchain hrchain (by kernel_rfl) rfl rfl rfl ?_)
          | (with_reducible refine (Q2.out _ _ H3.out).mono ?_; clear H3 Q2; rintro ev wC1 ⟨rfl, h⟩; have H3 := Lib.hid h; clear h)
          | (with_reducible refine at_slot (k := some 208) ?_; refine wpList_load_arr (o := ⟨some 208, _, _, _, _, _⟩) H3.out 0 [.string c1, .string c2] (fun j u hu => by simpa using hu) hdp hrp (by kernel_rfl) rfl rfl rfl ?_)
          | (with_reducible refine (Q3.out _ _ HG.out.cons.cons.cons H3.out).mono ?_; clear H3 Q3; rintro ev wC2 ⟨rfl, h⟩; have H3 := Lib.hid (h.alloc (.cells #[.int .i64 vc1, .int .i64 vc2, .string vc3, .string vc4] 29)); clear h)
          | (with_reducible refine at_slot (k := none) ?_; refine wpList_store_whole (o := ⟨none, _, _, _, _, _⟩) (cs := [.string n1, .string n2]) (vs := [.string c1, .string c2]) H3.out rfl (pair_one _ _) (by kernel_rfl) rfl rfl rfl rfl ?_; clear H3; intro w7 h; have H3 := Lib.hid h; clear h)
          | (with_reducible refine at_slot (k := none) ?_; refine wpList_store_whole (o := ⟨none, _, _, _, _, _⟩) (cs := [.string n1, .string n2]) (vs := [.string c1, .string c2]) H3.out.f1 rfl (pair_one _ _) (by kernel_rfl) rfl rfl rfl rfl ?_; clear H3; intro w7 h; have H3 := Lib.hid h.f1; clear h))
        have c4a := H3.out.f1.cell 0
        have c4b := H3.out.f1.cell 1
        have c6a := H3.out.f2.cell 0
        have c6b := H3.out.f2.cell 1
        simp only [List.getElem?_toArray, List.getElem?_cons_zero, List.getElem?_cons_succ] at c4a c4b c6a c6b
        have s1 := pair_same c1 c2
        go_cut [241] from 27 (fun x w' => x = .bool false ∧ w' = wC2.alloc (.cells #[.int .i64 vc1, .int .i64 vc2, .string vc3, .string vc4] 29))
        case first => as_aux_lemma =>
          rcases HT with ⟨rfl, rfl, rfl, rfl, rfl, rfl⟩ | ⟨rfl, rfl⟩
          · skip
            have d0 : _ = some (Value.int .i64 m.ca) := (H3.out.f3.cell 18).trans (by rw [← hcs]; rfl)
            have d1 : _ = some (Value.int .i64 m.cb) := (H3.out.f3.cell 19).trans (by rw [← hcs]; rfl)
            have d2 : _ = some (Value.string m.cs) := (H3.out.f3.cell 20).trans (by rw [← hcs]; rfl)
            have d3 : _ = some (Value.string m.cr) := (H3.out.f3.cell 21).trans (by rw [← hcs]; rfl)
            have hqT : ∀ w, (binOp .neq 29 (.agg #[.int .i64 m.ca, .int .i64 m.cb, .string m.cs, .string m.cr]) (.agg #[.int .i64 m.ca, .int .i64 m.cb, .string m.cs, .string m.cr])).run Tryz.prog w = .ok (.bool false) w := fun w => by
              rw [run_neq_struct, eq_chain]; rfl
            go_wp2_with fail
            go_meet
            case rel => exact ⟨rfl, rfl⟩
          · go_wp2_with fail
            go_meet
            case rel => exact ⟨rfl, rfl⟩
        case rest => as_aux_lemma =>
          obtain ⟨rfl, rfl⟩ := hcut
          obtain ⟨o1, oer, vo1, vo2, ot, q1, q2, z1, HT⟩ := note_sees m.nx m.ny
          have Q1 : Hid (∀ (M : List Hp) (w : World), Laid0 E M → Own E w M → Calls Tryz.prog 25 #[.int .i64 m.nx, .int .i64 m.ny] w fun ev w' => ev = .returned (.tuple #[.string o1, .int .i64 oer]) ∧ Own E w' M) := Lib.hid fun M w hG h => by
            have hh := printnote_any m.nx m.ny w hG h
            rw [q1] at hh; exact hh
          have Q2 : Hid (∀ (M : List Hp) (w : World), Own E w M → Calls Tryz.prog 26 #[.int .i64 m.nx, .int .i64 m.ny] w fun ev w' => ev = .returned (.tuple #[.string o1, .int .i64 oer]) ∧ Own E w' M) := Lib.hid fun M w h => by
            have hh := xprintnote_any m.nx m.ny w h
            rw [q1] at hh; exact hh
          have Q3 : Hid (∀ (M : List Hp) (w : World), Laid0 E M → Own E w M → Calls Tryz.prog 27 #[.string o1] w fun ev w' => ev = .returned (.tuple #[.int .i64 vo1, .int .i64 vo2, .int .i64 ot]) ∧ Own E w' M) := Lib.hid fun M w hG h => by
            have hh := parsenote_any o1 w z1 hG h
            rw [q2] at hh; exact hh
          have H3 := Lib.hid (show Own E _ (Hp.blk w.heap.size SMT SC.toArray :: L) from H3.out.drop.drop.drop)
          clear c4a c4b c6a c6b s1 q1 q2 z1
          have n0 : _ = some (Value.int .i64 m.nx) := (H3.out.cell 22).trans (by rw [← hcs]; rfl)
          have n1 : _ = some (Value.int .i64 m.ny) := (H3.out.cell 23).trans (by rw [← hcs]; rfl)
          have e1 : (o1.toList == o1.toList) = true := beq_self_eq_true _
          have e2 : (o1.toList != o1.toList) = false := by simp [bne]
          rcases HT with ⟨rfl, rfl, rfl, rfl⟩ | ⟨rfl, rfl⟩
          · skip
            go_wp2_with fail
            with_reducible refine (Q1.out _ _ HG.out.cons H3.out).mono ?_
            clear H3 Q1 n0 n1
            rintro ev wn ⟨rfl, h⟩
            have n0 : _ = some (Value.int .i64 m.nx) := (h.cell 22).trans (by rw [← hcs]; rfl)
            have n1 : _ = some (Value.int .i64 m.ny) := (h.cell 23).trans (by rw [← hcs]; rfl)
            have H3 := Lib.hid h
            clear h
            go_wp2_with fail
            with_reducible refine (Q2.out _ _ H3.out).mono ?_
            clear H3 Q2 n0 n1
            rintro ev wn ⟨rfl, h⟩
            have n0 : _ = some (Value.int .i64 m.nx) := (h.cell 22).trans (by rw [← hcs]; rfl)
            have n1 : _ = some (Value.int .i64 m.ny) := (h.cell 23).trans (by rw [← hcs]; rfl)
            have H3 := Lib.hid h
            clear h
            go_wp2_with fail
            with_reducible refine (Q3.out _ _ HG.out.cons H3.out).mono ?_
            clear H3 Q3 n0 n1
            rintro ev wn ⟨rfl, h⟩
            have n0 : _ = some (Value.int .i64 m.nx) := (h.cell 22).trans (by rw [← hcs]; rfl)
            have n1 : _ = some (Value.int .i64 m.ny) := (h.cell 23).trans (by rw [← hcs]; rfl)
            have H3 := Lib.hid h
            clear h
            go_wp2_with fail
            go_ret
            exact ⟨rfl, H3.out.drop⟩
          · skip
            go_wp2_with fail
            with_reducible refine (Q1.out _ _ HG.out.cons H3.out).mono ?_
            clear H3 Q1 n0 n1
            rintro ev wn ⟨rfl, h⟩
            have n0 : _ = some (Value.int .i64 m.nx) := (h.cell 22).trans (by rw [← hcs]; rfl)
            have n1 : _ = some (Value.int .i64 m.ny) := (h.cell 23).trans (by rw [← hcs]; rfl)
            have H3 := Lib.hid h
            clear h
            go_wp2_with fail
            with_reducible refine (Q2.out _ _ H3.out).mono ?_
            clear H3 Q2 n0 n1
            rintro ev wn ⟨rfl, h⟩
            have n0 : _ = some (Value.int .i64 m.nx) := (h.cell 22).trans (by rw [← hcs]; rfl)
            have n1 : _ = some (Value.int .i64 m.ny) := (h.cell 23).trans (by rw [← hcs]; rfl)
            have H3 := Lib.hid h
            clear h
            go_wp2_with fail
            with_reducible refine (Q3.out _ _ HG.out.cons H3.out).mono ?_
            clear H3 Q3 n0 n1
            rintro ev wn ⟨rfl, h⟩
            have n0 : _ = some (Value.int .i64 m.nx) := (h.cell 22).trans (by rw [← hcs]; rfl)
            have n1 : _ = some (Value.int .i64 m.ny) := (h.cell 23).trans (by rw [← hcs]; rfl)
            have H3 := Lib.hid h
            clear h
            go_wp2_with fail
            go_ret
            exact ⟨rfl, H3.out.drop⟩
end
end Go.Proofs.YtabibfabieghpaaGreatDoor
