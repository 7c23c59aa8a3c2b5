/- node.Parse. -/
import Derived.Test.YtbclmmneiphcaaaDoorPage
import Derived.Test.YtbclmmneiphcaaaDoorRd
import Derived.Test.YtbclmmneiphcaaaDoorText2
namespace Go.Proofs.YtbclmmneiphcaaaDoor
open Go.RowKit
/- WHAT IS READ -/
abbrev PState := List ByteArray × List ByteArray × ByteArray × Int
def pStep (leaf : Bool) (st : PState) : PState :=
  if leaf then (st.1 ++ [(rText st.2.2.1 st.2.2.2 255).1], st.2.1 ++ [(rText (rText st.2.2.1 st.2.2.2 255).2.1 (rText st.2.2.1 st.2.2.2 255).2.2 255).1], (rText (rText st.2.2.1 st.2.2.2 255).2.1 (rText st.2.2.1 st.2.2.2 255).2.2 255).2)
  else (st.1 ++ [(rText st.2.2.1 st.2.2.2 255).1], st.2.1, (rText st.2.2.1 st.2.2.2 255).2)
def pRun (leaf : Bool) (s : ByteArray) (e : Int) : Nat → PState
  | 0 => ([], [], s, e)
  | k + 1 => pStep leaf (pRun leaf s e k)
def Pg.leaf (p : Pg) : Bool := decide (p.kind = 1)
def Pg.last (p : Pg) : PState := pRun p.leaf (rNum p.body 0 1).2.1 (rNum p.body 0 1).2.2 (rNum p.body 0 1).1.toNat
def Pg.read (p : Pg) : Nd := ⟨p.leaf, p.last.1, p.last.2.1, p.links⟩
def Pg.bad (p : Pg) : Bool := decide (rDone p.last.2.2.1 p.last.2.2.2 ≠ 0 ∨ (p.kind ≠ 1 ∧ p.kind ≠ 2) ∨ p.read.wrong ≠ 0)
def Pg.node (p : Pg) : Nd := if p.bad then Nd.nil else p.read
def Pg.wrong (p : Pg) : Int := if p.bad then 100 else 0
theorem rText_size (s : ByteArray) (e : Int) : (rText s e 255).1.size ≤ 255 ∧ (rText s e 255).2.1.size ≤ s.size := by
  have h0 : (⟨#[]⟩ : ByteArray).size = 0 := rfl
  have ha : ahead (255 : Int).toNat = 1 := by decide
  unfold rText
  rw [ha]
  split
  · exact ⟨by show (⟨#[]⟩ : ByteArray).size ≤ 255; decide, Nat.le_refl _⟩
  split
  · exact ⟨by show (⟨#[]⟩ : ByteArray).size ≤ 255; decide, Nat.le_refl _⟩
  split
  · exact ⟨by show (⟨#[]⟩ : ByteArray).size ≤ 255; decide, Nat.le_refl _⟩
  split
  · exact ⟨by show (⟨#[]⟩ : ByteArray).size ≤ 255; decide, Nat.le_refl _⟩
  split
  · exact ⟨by show (⟨#[]⟩ : ByteArray).size ≤ 255; decide, Nat.le_refl _⟩
  · rename_i h1 h2 h3 h4 h5
    refine ⟨?_, ?_⟩
    · show (restB (frontB s (1 + numL (s.data.toList.take 1))) 1).size ≤ 255
      rw [rest_size, front_size _ _ (by omega)]
      omega
    · show (restB s _).size ≤ s.size
      rw [rest_size]; omega
theorem pRun_facts (leaf : Bool) (s : ByteArray) (e : Int) : ∀ k, (pRun leaf s e k).1.length = k ∧ (pRun leaf s e k).2.1.length = (if leaf then k else 0) ∧ sumSz (pRun leaf s e k).1 ≤ 255 * k ∧ sumSz (pRun leaf s e k).2.1 ≤ 255 * k ∧ (pRun leaf s e k).2.2.1.size ≤ s.size
  | 0 => by cases leaf <;> simp [pRun, sumSz]
  | k + 1 => by
    obtain ⟨h1, h2, h3, h4, h5⟩ := pRun_facts leaf s e k
    obtain ⟨q1, q2⟩ := rText_size (pRun leaf s e k).2.2.1 (pRun leaf s e k).2.2.2
    obtain ⟨q3, q4⟩ := rText_size (rText (pRun leaf s e k).2.2.1 (pRun leaf s e k).2.2.2 255).2.1 (rText (pRun leaf s e k).2.2.1 (pRun leaf s e k).2.2.2 255).2.2
    unfold pRun pStep
    cases leaf
    · refine ⟨by simpa using h1, by simpa using h2, ?_, ?_, ?_⟩
      · simp only [sumSz_app, Bool.false_eq_true, if_false]; simp only [sumSz, List.map_cons, List.map_nil, List.sum_cons, List.sum_nil] at *; omega
      · simp only [Bool.false_eq_true, if_false]; omega
      · simp only [Bool.false_eq_true, if_false]; omega
    · refine ⟨by simpa using h1, by simpa using h2, ?_, ?_, ?_⟩
      · simp only [sumSz_app, if_true]; simp only [sumSz, List.map_cons, List.map_nil, List.sum_cons, List.sum_nil] at *; omega
      · simp only [sumSz_app, if_true]; simp only [sumSz, List.map_cons, List.map_nil, List.sum_cons, List.sum_nil] at *; omega
      · simp only [if_true]; omega
theorem rNum_one (s : ByteArray) : 0 ≤ (rNum s 0 1).1 ∧ (rNum s 0 1).1 ≤ 255 ∧ (rNum s 0 1).2.1.size ≤ s.size := by
  have hl := numL_lt (s.data.toList.take 1)
  have hl2 : (s.data.toList.take 1).length ≤ 1 := by simp; omega
  have hl3 : numL (s.data.toList.take 1) < 256 := by
    have : 256 ^ (s.data.toList.take 1).length ≤ 256 ^ 1 := Nat.pow_le_pow_right (by omega) hl2
    omega
  have h1 : ((1 : Int).toNat) = 1 := rfl
  unfold rNum
  rw [if_neg (by omega), if_neg (by omega), h1]
  split
  · exact ⟨by simp, by simp, Nat.le_refl _⟩
  split
  · exact ⟨by simp, by simp, Nat.le_refl _⟩
  · exact ⟨by simp, by simp; omega, by show (restB s 1).size ≤ s.size; rw [rest_size]; omega⟩
theorem Pg.read_bulk (p : Pg) (h : p.links.length ≤ 4294960000) : p.read.bulk ≤ 1125899906842624 ∧ p.read.ks.length ≤ 255 ∧ p.read.vs.length ≤ 255 := by
  obtain ⟨h1, h2, -⟩ := rNum_one p.body
  obtain ⟨q1, q2, q3, q4, -⟩ := pRun_facts p.leaf (rNum p.body 0 1).2.1 (rNum p.body 0 1).2.2 (rNum p.body 0 1).1.toNat
  have e1 : p.read.ks = p.last.1 := rfl
  have e2 : p.read.vs = p.last.2.1 := rfl
  have e3 : p.read.ls = p.links := rfl
  unfold Pg.last at e1 e2
  have q5 : p.last.2.1.length ≤ 255 := by
    unfold Pg.last
    rw [q2]; split <;> omega
  have hk : p.read.ks.length ≤ 255 := by rw [e1]; omega
  have hv : p.read.vs.length ≤ 255 := q5
  refine ⟨?_, hk, hv⟩
  unfold Nd.bulk
  rw [e1, e2, e3]
  rw [e1] at hk
  rw [e2] at hv
  omega
abbrev Pg.val (A : Option Addr) (c : Nat) (p : Pg) : Value := .agg #[VI p.kind, VI p.number, VI p.birth, .slice A p.links.length c, .string p.body]
theorem ND_all1 (b : Bool) (x y z : Value) (hx : x.oneCell' = true) (hy : y.oneCell' = true) (hz : z.oneCell' = true) : ∀ v ∈ [Value.bool b, x, y, z], v.oneCell' = true := by
  simp only [List.mem_cons, List.not_mem_nil, or_false]
  rintro v (rfl | rfl | rfl | rfl) <;> first | rfl | assumption
section
variable {E : World} {S : Ph} {L : List Hp}
set_option maxRecDepth 100000 in
set_option maxHeartbeats 4000000 in
theorem parse_any (A : Option Addr) (c : Nat) (p : Pg) (w : World) (hG : Laid0 E (Hp.ro S :: L)) (hb : p.links.length ≤ 4294960000) (hbs : p.body.size ≤ 1000000000000) (hr : Rds S 1 en64 A p.links.length p.links) (h : Own E w (Hp.ro S :: L)) :
    Calls Tryd.prog 25 #[p.val A c] w fun e w' => ∃ nv, e = .returned (.tuple #[nv, .int .i64 p.wrong]) ∧ Own E w' (Hp.node nv p.node :: Hp.ro S :: L) := by
  have hlf : (p.kind == 1) = p.leaf := by unfold Pg.leaf; by_cases hk : p.kind = 1 <;> simp [hk]
  have h1 := (h.alloc (.cells #[VI p.kind, VI p.number, VI p.birth, .slice A p.links.length c, .string p.body] PT)).alloc (.cells #[.bool false, .slice none 0 0, .slice none 0 0, .slice none 0 0] NT)
  rw [alloc_size] at h1
  obtain ⟨g1, hg⟩ : ∃ g, g = w.heap.size := ⟨_, rfl⟩
  rw [← hg] at h1
  obtain ⟨nt, hnt, hnr⟩ := nt_u
  have H1 := Lib.hid h1
  have HLF := Lib.hid hlf
  have HG := Lib.hid hG
  generalize hpn : p.node = pn
  generalize hpw : p.wrong = pw
  have HPN := Lib.hid hpn
  have HPW := Lib.hid hpw
  clear h h1 hlf hG hpn hpw
  go_enter Tryd.func25, Tryd.ntmps25
  go_wp2_with fail
  rw [← hg]
  clear hg
  have h : Own E _ (Hp.blk (g1 + 1) NT #[.bool false, .slice none 0 0, .slice none 0 0, .slice none 0 0] :: Hp.blk g1 PT #[VI p.kind, VI p.number, VI p.birth, .slice A p.links.length c, .string p.body] :: Hp.ro S :: L) := H1.out
  generalize (w.alloc (.cells #[VI p.kind, VI p.number, VI p.birth, .slice A p.links.length c, .string p.body] PT)).alloc (.cells #[.bool false, .slice none 0 0, .slice none 0 0, .slice none 0 0] NT) = w1 at h ⊢
  clear H1
  have hcells : ∀ w', (∃ L', Own E w' (Hp.blk g1 PT #[VI p.kind, VI p.number, VI p.birth, .slice A p.links.length c, .string p.body] :: L')) → w'.cell? ⟨g1, 0, none⟩ = some (VI p.kind) ∧ w'.cell? ⟨g1, 3, none⟩ = some (.slice A p.links.length c) ∧ w'.cell? ⟨g1, 4, none⟩ = some (.string p.body) := fun w' hw => by
    obtain ⟨_, hw⟩ := hw
    exact ⟨hw.cell 0, hw.cell 3, hw.cell 4⟩
  have HC := Lib.hid hcells
  clear hcells
  go_cut [4] from 66 (fun x4 w' => ∃ (g4 c4 : Nat) (A4 : Option Addr), x4 = .pointer (some ⟨g4, 0, none⟩) ∧ Own E w' (Hp.blk g4 NT #[.bool p.leaf, .slice none 0 0, .slice none 0 0, .slice A4 p.links.length c4] :: Hp.ints (.slice A4 p.links.length c4) p.links :: Hp.blk (g1 + 1) NT #[.bool false, .slice none 0 0, .slice none 0 0, .slice none 0 0] :: Hp.blk g1 PT #[VI p.kind, VI p.number, VI p.birth, .slice A p.links.length c, .string p.body] :: Hp.ro S :: L))
  case first =>
    have h := h.drew
    refine wp_region_text [1, 4] (fun w' => w'.cell? ⟨g1, 0, none⟩ = some (VI p.kind) ∧ w'.cell? ⟨g1, 3, none⟩ = some (.slice A p.links.length c) ∧ w'.cell? ⟨g1, 4, none⟩ = some (.string p.body)) (by kernel_rfl) ?_ (fun hS => ?_)
    · exact HC.out _ ⟨_, h.f1⟩
    refine wpAnyG_pure (i := 0) (oi := ⟨some 6, _, _, _, _, _⟩) (v := ?_) rfl (by kernel_rfl) (by kernel_rfl) (by kernel_rfl) (by rfl) (fun _ _ _ h => h) (by rfl) ?_ ?_
    rotate_left
    · intro w
      go_simp
      first | done | with_reducible rfl
    try simp only [Act.put, List.setIfInBounds_toArray, List.set_cons_zero, List.set_cons_succ]
    refine wpAnyG_load (i := 1) (oi := ⟨some 7, _, _, _, _, _⟩) (v := ?_) rfl (by kernel_rfl) (by kernel_rfl) (by kernel_rfl) (by rfl) (fun _ _ _ h => h) (by rfl) ?_ (by assumption) ?_
    rotate_left
    · intro w hS
      try dsimp only at hS
      go_simp
      first | done | with_reducible rfl
    try simp only [Act.put, List.setIfInBounds_toArray, List.set_cons_zero, List.set_cons_succ]
    refine wpAnyG_pure (i := 2) (oi := ⟨some 8, _, _, _, _, _⟩) (v := (.bool p.leaf)) rfl (by kernel_rfl) (by kernel_rfl) (by kernel_rfl) (by rfl) (fun _ _ _ h => h) (by rfl) ?_ ?_
    · intro w
      go_simp; rw [HLF.out]
    try simp only [Act.put, List.setIfInBounds_toArray, List.set_cons_zero, List.set_cons_succ]
    refine wpAnyG_pure (i := 3) (oi := ⟨some 9, _, _, _, _, _⟩) (v := ?_) rfl (by kernel_rfl) (by kernel_rfl) (by kernel_rfl) (by rfl) (fun _ _ _ h => h) (by rfl) ?_ ?_
    rotate_left
    · intro w
      go_simp
      first | done | with_reducible rfl
    try simp only [Act.put, List.setIfInBounds_toArray, List.set_cons_zero, List.set_cons_succ]
    refine wpAnyG_load (i := 4) (oi := ⟨some 10, _, _, _, _, _⟩) (v := ?_) rfl (by kernel_rfl) (by kernel_rfl) (by kernel_rfl) (by rfl) (fun _ _ _ h => h) (by rfl) ?_ (by assumption) ?_
    rotate_left
    · intro w hS
      try dsimp only at hS
      go_simp
      first | done | with_reducible rfl
    try simp only [Act.put, List.setIfInBounds_toArray, List.set_cons_zero, List.set_cons_succ]
    refine wpAnyG_two (i := 5) (oi := ⟨some 11, _, _, _, _, _⟩) (j := 8) (oj := ⟨some 4, _, _, _, _, _⟩) (by kernel_rfl) rfl rfl (fun K hK => ?_) (fun K hK => ?_)
    · skip
      rw [if_pos (by rfl)]
      go_simp
      first | have h := (h : Own _ _ (Hp.ro S :: _)) | have h := (h.f1 : Own _ _ (Hp.ro S :: _)) | have h := (h.f2 : Own _ _ (Hp.ro S :: _)) | have h := (h.f3 : Own _ _ (Hp.ro S :: _)) | have h := (h.f4 : Own _ _ (Hp.ro S :: _)) | have h := (h.f5 : Own _ _ (Hp.ro S :: _)) | have h := (h.f6 : Own _ _ (Hp.ro S :: _)) | have h := (h.f7 : Own _ _ (Hp.ro S :: _)) | have h := (h.f8 : Own _ _ (Hp.ro S :: _)) | have h := (h.f9 : Own _ _ (Hp.ro S :: _)) | have h := (h.f10 : Own _ _ (Hp.ro S :: _)) | have h := (h.f11 : Own _ _ (Hp.ro S :: _)) | have h := (h.f12 : Own _ _ (Hp.ro S :: _)) | have h := (h.f13 : Own _ _ (Hp.ro S :: _)) | have h := (h.f14 : Own _ _ (Hp.ro S :: _)) | have h := (h.f15 : Own _ _ (Hp.ro S :: _))
      refine (clone_int A p.links.length c p.links _ (by omega) hr h).mono ?_
      rintro e w5 ⟨v5, rfl, h⟩
      obtain ⟨A5, c5, rfl, -⟩ := h.lstSlice
      rw [List.length_map] at h ⊢
      refine hK.out _ _ ?_ (fun hS => ?_)
      · exact HC.out _ (by first | exact ⟨_, h⟩ | exact ⟨_, h.f1⟩ | exact ⟨_, h.f2⟩ | exact ⟨_, h.f3⟩ | exact ⟨_, h.f4⟩ | exact ⟨_, h.f5⟩ | exact ⟨_, h.f6⟩ | exact ⟨_, h.f7⟩ | exact ⟨_, h.f8⟩ | exact ⟨_, h.f9⟩ | exact ⟨_, h.f10⟩ | exact ⟨_, h.f11⟩ | exact ⟨_, h.f12⟩ | exact ⟨_, h.f13⟩ | exact ⟨_, h.f14⟩ | exact ⟨_, h.f15⟩)
      clear hK K
      try simp only [Act.put, List.setIfInBounds_toArray, List.set_cons_zero, List.set_cons_succ]
      refine wpAnyG_two (i := 6) (oi := ⟨some 12, _, _, _, _, _⟩) (j := 8) (oj := ⟨some 4, _, _, _, _, _⟩) (by kernel_rfl) rfl rfl (fun K hK => ?_) (fun K hK => ?_)
      · skip
        rw [if_pos (by rfl)]
        go_simp
        first | have h := (h : Own _ _ (Hp.ints _ p.links :: _)) | have h := (h.f1 : Own _ _ (Hp.ints _ p.links :: _)) | have h := (h.f2 : Own _ _ (Hp.ints _ p.links :: _)) | have h := (h.f3 : Own _ _ (Hp.ints _ p.links :: _)) | have h := (h.f4 : Own _ _ (Hp.ints _ p.links :: _)) | have h := (h.f5 : Own _ _ (Hp.ints _ p.links :: _)) | have h := (h.f6 : Own _ _ (Hp.ints _ p.links :: _)) | have h := (h.f7 : Own _ _ (Hp.ints _ p.links :: _)) | have h := (h.f8 : Own _ _ (Hp.ints _ p.links :: _)) | have h := (h.f9 : Own _ _ (Hp.ints _ p.links :: _)) | have h := (h.f10 : Own _ _ (Hp.ints _ p.links :: _)) | have h := (h.f11 : Own _ _ (Hp.ints _ p.links :: _)) | have h := (h.f12 : Own _ _ (Hp.ints _ p.links :: _)) | have h := (h.f13 : Own _ _ (Hp.ints _ p.links :: _)) | have h := (h.f14 : Own _ _ (Hp.ints _ p.links :: _)) | have h := (h.f15 : Own _ _ (Hp.ints _ p.links :: _))
        refine (clip_int _ _ _ p.links _ h).mono ?_
        rintro e w6 ⟨v6, rfl, h⟩
        obtain ⟨A6, c6, rfl, -⟩ := h.lstSlice
        rw [List.length_map] at h ⊢
        refine hK.out _ _ ?_ (fun hS => ?_)
        · exact HC.out _ (by first | exact ⟨_, h⟩ | exact ⟨_, h.f1⟩ | exact ⟨_, h.f2⟩ | exact ⟨_, h.f3⟩ | exact ⟨_, h.f4⟩ | exact ⟨_, h.f5⟩ | exact ⟨_, h.f6⟩ | exact ⟨_, h.f7⟩ | exact ⟨_, h.f8⟩ | exact ⟨_, h.f9⟩ | exact ⟨_, h.f10⟩ | exact ⟨_, h.f11⟩ | exact ⟨_, h.f12⟩ | exact ⟨_, h.f13⟩ | exact ⟨_, h.f14⟩ | exact ⟨_, h.f15⟩)
        clear hK K
        try simp only [Act.put, List.setIfInBounds_toArray, List.set_cons_zero, List.set_cons_succ]
        refine wpAnyG_pure (i := 7) (oi := ⟨some 13, _, _, _, _, _⟩) (v := ?_) rfl (by kernel_rfl) (by kernel_rfl) (by kernel_rfl) (by rfl) (fun _ _ _ h => h) (by rfl) ?_ ?_
        rotate_left
        · intro w
          go_simp
          first | done | with_reducible rfl
        try simp only [Act.put, List.setIfInBounds_toArray, List.set_cons_zero, List.set_cons_succ]
        refine wpAnyG_keep (i := 8) (oi := ⟨some 4, _, _, _, _, _⟩) (by kernel_rfl) rfl (fun K hK => ?_)
        rw [if_pos (by rfl)]
        refine wp_alloc_own (cs := #[.bool false, .slice none 0 0, .slice none 0 0, .slice none 0 0]) (T := NT) h (by go_simp) (fun g4 w8 h => ?_)
        refine hK.out _ _ ?_ (fun hS => ?_)
        · exact HC.out _ (by first | exact ⟨_, h⟩ | exact ⟨_, h.f1⟩ | exact ⟨_, h.f2⟩ | exact ⟨_, h.f3⟩ | exact ⟨_, h.f4⟩ | exact ⟨_, h.f5⟩ | exact ⟨_, h.f6⟩ | exact ⟨_, h.f7⟩ | exact ⟨_, h.f8⟩ | exact ⟨_, h.f9⟩ | exact ⟨_, h.f10⟩ | exact ⟨_, h.f11⟩ | exact ⟨_, h.f12⟩ | exact ⟨_, h.f13⟩ | exact ⟨_, h.f14⟩ | exact ⟨_, h.f15⟩)
        clear hK K
        try simp only [Act.put, List.setIfInBounds_toArray, List.set_cons_zero, List.set_cons_succ]
        refine wpAnyG_keep (i := 9) (oi := ⟨none, _, _, _, _, _⟩) (by kernel_rfl) rfl (fun K hK => ?_)
        rw [if_pos (by rfl)]
        first | have h := (h : Own _ _ (Hp.blk g4 NT _ :: _)) | have h := (h.f1 : Own _ _ (Hp.blk g4 NT _ :: _)) | have h := (h.f2 : Own _ _ (Hp.blk g4 NT _ :: _)) | have h := (h.f3 : Own _ _ (Hp.blk g4 NT _ :: _)) | have h := (h.f4 : Own _ _ (Hp.blk g4 NT _ :: _)) | have h := (h.f5 : Own _ _ (Hp.blk g4 NT _ :: _)) | have h := (h.f6 : Own _ _ (Hp.blk g4 NT _ :: _)) | have h := (h.f7 : Own _ _ (Hp.blk g4 NT _ :: _)) | have h := (h.f8 : Own _ _ (Hp.blk g4 NT _ :: _)) | have h := (h.f9 : Own _ _ (Hp.blk g4 NT _ :: _)) | have h := (h.f10 : Own _ _ (Hp.blk g4 NT _ :: _)) | have h := (h.f11 : Own _ _ (Hp.blk g4 NT _ :: _)) | have h := (h.f12 : Own _ _ (Hp.blk g4 NT _ :: _)) | have h := (h.f13 : Own _ _ (Hp.blk g4 NT _ :: _)) | have h := (h.f14 : Own _ _ (Hp.blk g4 NT _ :: _)) | have h := (h.f15 : Own _ _ (Hp.blk g4 NT _ :: _))
        refine wp_store_whole (cs := [.bool false, .slice none 0 0, .slice none 0 0, .slice none 0 0]) (vs := [.bool p.leaf, .slice none 0 0, .slice none 0 0, .slice A6 p.links.length c6]) h rfl (ND_all1 _ _ _ _ rfl rfl rfl) (by kernel_rfl) rfl rfl rfl (fun w9 h => ?_)
        refine hK.out _ _ ?_ (fun hS => ?_)
        · exact HC.out _ (by first | exact ⟨_, h⟩ | exact ⟨_, h.f1⟩ | exact ⟨_, h.f2⟩ | exact ⟨_, h.f3⟩ | exact ⟨_, h.f4⟩ | exact ⟨_, h.f5⟩ | exact ⟨_, h.f6⟩ | exact ⟨_, h.f7⟩ | exact ⟨_, h.f8⟩ | exact ⟨_, h.f9⟩ | exact ⟨_, h.f10⟩ | exact ⟨_, h.f11⟩ | exact ⟨_, h.f12⟩ | exact ⟨_, h.f13⟩ | exact ⟨_, h.f14⟩ | exact ⟨_, h.f15⟩)
        clear hK K
        try simp only [Act.put]
        refine wpAnyG_done (by kernel_rfl) ?_ _
        refine NoPanic.normal ?_
        go_wp2_with fail
        go_meet
        case rel => exact ⟨g4, c6, A6, rfl, h.ac (by simp only [Hp.all] <;> ac_rfl)⟩
      · skip
        rw [if_pos (by rfl)]
        refine wp_alloc_own (cs := #[.bool false, .slice none 0 0, .slice none 0 0, .slice none 0 0]) (T := NT) h (by go_simp) (fun g4 w8 h => ?_)
        refine hK.out _ _ ?_ (fun hS => ?_)
        · exact HC.out _ (by first | exact ⟨_, h⟩ | exact ⟨_, h.f1⟩ | exact ⟨_, h.f2⟩ | exact ⟨_, h.f3⟩ | exact ⟨_, h.f4⟩ | exact ⟨_, h.f5⟩ | exact ⟨_, h.f6⟩ | exact ⟨_, h.f7⟩ | exact ⟨_, h.f8⟩ | exact ⟨_, h.f9⟩ | exact ⟨_, h.f10⟩ | exact ⟨_, h.f11⟩ | exact ⟨_, h.f12⟩ | exact ⟨_, h.f13⟩ | exact ⟨_, h.f14⟩ | exact ⟨_, h.f15⟩)
        clear hK K
        try simp only [Act.put, List.setIfInBounds_toArray, List.set_cons_zero, List.set_cons_succ]
        refine wpAnyG_keep (i := 6) (oi := ⟨some 12, _, _, _, _, _⟩) (by kernel_rfl) rfl (fun K hK => ?_)
        rw [if_pos (by rfl)]
        go_simp
        first | have h := (h : Own _ _ (Hp.ints _ p.links :: _)) | have h := (h.f1 : Own _ _ (Hp.ints _ p.links :: _)) | have h := (h.f2 : Own _ _ (Hp.ints _ p.links :: _)) | have h := (h.f3 : Own _ _ (Hp.ints _ p.links :: _)) | have h := (h.f4 : Own _ _ (Hp.ints _ p.links :: _)) | have h := (h.f5 : Own _ _ (Hp.ints _ p.links :: _)) | have h := (h.f6 : Own _ _ (Hp.ints _ p.links :: _)) | have h := (h.f7 : Own _ _ (Hp.ints _ p.links :: _)) | have h := (h.f8 : Own _ _ (Hp.ints _ p.links :: _)) | have h := (h.f9 : Own _ _ (Hp.ints _ p.links :: _)) | have h := (h.f10 : Own _ _ (Hp.ints _ p.links :: _)) | have h := (h.f11 : Own _ _ (Hp.ints _ p.links :: _)) | have h := (h.f12 : Own _ _ (Hp.ints _ p.links :: _)) | have h := (h.f13 : Own _ _ (Hp.ints _ p.links :: _)) | have h := (h.f14 : Own _ _ (Hp.ints _ p.links :: _)) | have h := (h.f15 : Own _ _ (Hp.ints _ p.links :: _))
        refine (clip_int _ _ _ p.links _ h).mono ?_
        rintro e w6 ⟨v6, rfl, h⟩
        obtain ⟨A6, c6, rfl, -⟩ := h.lstSlice
        rw [List.length_map] at h ⊢
        refine hK.out _ _ ?_ (fun hS => ?_)
        · exact HC.out _ (by first | exact ⟨_, h⟩ | exact ⟨_, h.f1⟩ | exact ⟨_, h.f2⟩ | exact ⟨_, h.f3⟩ | exact ⟨_, h.f4⟩ | exact ⟨_, h.f5⟩ | exact ⟨_, h.f6⟩ | exact ⟨_, h.f7⟩ | exact ⟨_, h.f8⟩ | exact ⟨_, h.f9⟩ | exact ⟨_, h.f10⟩ | exact ⟨_, h.f11⟩ | exact ⟨_, h.f12⟩ | exact ⟨_, h.f13⟩ | exact ⟨_, h.f14⟩ | exact ⟨_, h.f15⟩)
        clear hK K
        try simp only [Act.put, List.setIfInBounds_toArray, List.set_cons_zero, List.set_cons_succ]
        refine wpAnyG_pure (i := 7) (oi := ⟨some 13, _, _, _, _, _⟩) (v := ?_) rfl (by kernel_rfl) (by kernel_rfl) (by kernel_rfl) (by rfl) (fun _ _ _ h => h) (by rfl) ?_ ?_
        rotate_left
        · intro w
          go_simp
          first | done | with_reducible rfl
        try simp only [Act.put, List.setIfInBounds_toArray, List.set_cons_zero, List.set_cons_succ]
        refine wpAnyG_keep (i := 9) (oi := ⟨none, _, _, _, _, _⟩) (by kernel_rfl) rfl (fun K hK => ?_)
        rw [if_pos (by rfl)]
        first | have h := (h : Own _ _ (Hp.blk g4 NT _ :: _)) | have h := (h.f1 : Own _ _ (Hp.blk g4 NT _ :: _)) | have h := (h.f2 : Own _ _ (Hp.blk g4 NT _ :: _)) | have h := (h.f3 : Own _ _ (Hp.blk g4 NT _ :: _)) | have h := (h.f4 : Own _ _ (Hp.blk g4 NT _ :: _)) | have h := (h.f5 : Own _ _ (Hp.blk g4 NT _ :: _)) | have h := (h.f6 : Own _ _ (Hp.blk g4 NT _ :: _)) | have h := (h.f7 : Own _ _ (Hp.blk g4 NT _ :: _)) | have h := (h.f8 : Own _ _ (Hp.blk g4 NT _ :: _)) | have h := (h.f9 : Own _ _ (Hp.blk g4 NT _ :: _)) | have h := (h.f10 : Own _ _ (Hp.blk g4 NT _ :: _)) | have h := (h.f11 : Own _ _ (Hp.blk g4 NT _ :: _)) | have h := (h.f12 : Own _ _ (Hp.blk g4 NT _ :: _)) | have h := (h.f13 : Own _ _ (Hp.blk g4 NT _ :: _)) | have h := (h.f14 : Own _ _ (Hp.blk g4 NT _ :: _)) | have h := (h.f15 : Own _ _ (Hp.blk g4 NT _ :: _))
        refine wp_store_whole (cs := [.bool false, .slice none 0 0, .slice none 0 0, .slice none 0 0]) (vs := [.bool p.leaf, .slice none 0 0, .slice none 0 0, .slice A6 p.links.length c6]) h rfl (ND_all1 _ _ _ _ rfl rfl rfl) (by kernel_rfl) rfl rfl rfl (fun w9 h => ?_)
        refine hK.out _ _ ?_ (fun hS => ?_)
        · exact HC.out _ (by first | exact ⟨_, h⟩ | exact ⟨_, h.f1⟩ | exact ⟨_, h.f2⟩ | exact ⟨_, h.f3⟩ | exact ⟨_, h.f4⟩ | exact ⟨_, h.f5⟩ | exact ⟨_, h.f6⟩ | exact ⟨_, h.f7⟩ | exact ⟨_, h.f8⟩ | exact ⟨_, h.f9⟩ | exact ⟨_, h.f10⟩ | exact ⟨_, h.f11⟩ | exact ⟨_, h.f12⟩ | exact ⟨_, h.f13⟩ | exact ⟨_, h.f14⟩ | exact ⟨_, h.f15⟩)
        clear hK K
        try simp only [Act.put]
        refine wpAnyG_done (by kernel_rfl) ?_ _
        refine NoPanic.normal ?_
        go_wp2_with fail
        go_meet
        case rel => exact ⟨g4, c6, A6, rfl, h.ac (by simp only [Hp.all] <;> ac_rfl)⟩
    · skip
      rw [if_pos (by rfl)]
      refine wp_alloc_own (cs := #[.bool false, .slice none 0 0, .slice none 0 0, .slice none 0 0]) (T := NT) h (by go_simp) (fun g4 w8 h => ?_)
      refine hK.out _ _ ?_ (fun hS => ?_)
      · exact HC.out _ (by first | exact ⟨_, h⟩ | exact ⟨_, h.f1⟩ | exact ⟨_, h.f2⟩ | exact ⟨_, h.f3⟩ | exact ⟨_, h.f4⟩ | exact ⟨_, h.f5⟩ | exact ⟨_, h.f6⟩ | exact ⟨_, h.f7⟩ | exact ⟨_, h.f8⟩ | exact ⟨_, h.f9⟩ | exact ⟨_, h.f10⟩ | exact ⟨_, h.f11⟩ | exact ⟨_, h.f12⟩ | exact ⟨_, h.f13⟩ | exact ⟨_, h.f14⟩ | exact ⟨_, h.f15⟩)
      clear hK K
      try simp only [Act.put, List.setIfInBounds_toArray, List.set_cons_zero, List.set_cons_succ]
      refine wpAnyG_keep (i := 5) (oi := ⟨some 11, _, _, _, _, _⟩) (by kernel_rfl) rfl (fun K hK => ?_)
      rw [if_pos (by rfl)]
      go_simp
      first | have h := (h : Own _ _ (Hp.ro S :: _)) | have h := (h.f1 : Own _ _ (Hp.ro S :: _)) | have h := (h.f2 : Own _ _ (Hp.ro S :: _)) | have h := (h.f3 : Own _ _ (Hp.ro S :: _)) | have h := (h.f4 : Own _ _ (Hp.ro S :: _)) | have h := (h.f5 : Own _ _ (Hp.ro S :: _)) | have h := (h.f6 : Own _ _ (Hp.ro S :: _)) | have h := (h.f7 : Own _ _ (Hp.ro S :: _)) | have h := (h.f8 : Own _ _ (Hp.ro S :: _)) | have h := (h.f9 : Own _ _ (Hp.ro S :: _)) | have h := (h.f10 : Own _ _ (Hp.ro S :: _)) | have h := (h.f11 : Own _ _ (Hp.ro S :: _)) | have h := (h.f12 : Own _ _ (Hp.ro S :: _)) | have h := (h.f13 : Own _ _ (Hp.ro S :: _)) | have h := (h.f14 : Own _ _ (Hp.ro S :: _)) | have h := (h.f15 : Own _ _ (Hp.ro S :: _))
      refine (clone_int A p.links.length c p.links _ (by omega) hr h).mono ?_
      rintro e w5 ⟨v5, rfl, h⟩
      obtain ⟨A5, c5, rfl, -⟩ := h.lstSlice
      rw [List.length_map] at h ⊢
      refine hK.out _ _ ?_ (fun hS => ?_)
      · exact HC.out _ (by first | exact ⟨_, h⟩ | exact ⟨_, h.f1⟩ | exact ⟨_, h.f2⟩ | exact ⟨_, h.f3⟩ | exact ⟨_, h.f4⟩ | exact ⟨_, h.f5⟩ | exact ⟨_, h.f6⟩ | exact ⟨_, h.f7⟩ | exact ⟨_, h.f8⟩ | exact ⟨_, h.f9⟩ | exact ⟨_, h.f10⟩ | exact ⟨_, h.f11⟩ | exact ⟨_, h.f12⟩ | exact ⟨_, h.f13⟩ | exact ⟨_, h.f14⟩ | exact ⟨_, h.f15⟩)
      clear hK K
      try simp only [Act.put, List.setIfInBounds_toArray, List.set_cons_zero, List.set_cons_succ]
      refine wpAnyG_keep (i := 6) (oi := ⟨some 12, _, _, _, _, _⟩) (by kernel_rfl) rfl (fun K hK => ?_)
      rw [if_pos (by rfl)]
      go_simp
      first | have h := (h : Own _ _ (Hp.ints _ p.links :: _)) | have h := (h.f1 : Own _ _ (Hp.ints _ p.links :: _)) | have h := (h.f2 : Own _ _ (Hp.ints _ p.links :: _)) | have h := (h.f3 : Own _ _ (Hp.ints _ p.links :: _)) | have h := (h.f4 : Own _ _ (Hp.ints _ p.links :: _)) | have h := (h.f5 : Own _ _ (Hp.ints _ p.links :: _)) | have h := (h.f6 : Own _ _ (Hp.ints _ p.links :: _)) | have h := (h.f7 : Own _ _ (Hp.ints _ p.links :: _)) | have h := (h.f8 : Own _ _ (Hp.ints _ p.links :: _)) | have h := (h.f9 : Own _ _ (Hp.ints _ p.links :: _)) | have h := (h.f10 : Own _ _ (Hp.ints _ p.links :: _)) | have h := (h.f11 : Own _ _ (Hp.ints _ p.links :: _)) | have h := (h.f12 : Own _ _ (Hp.ints _ p.links :: _)) | have h := (h.f13 : Own _ _ (Hp.ints _ p.links :: _)) | have h := (h.f14 : Own _ _ (Hp.ints _ p.links :: _)) | have h := (h.f15 : Own _ _ (Hp.ints _ p.links :: _))
      refine (clip_int _ _ _ p.links _ h).mono ?_
      rintro e w6 ⟨v6, rfl, h⟩
      obtain ⟨A6, c6, rfl, -⟩ := h.lstSlice
      rw [List.length_map] at h ⊢
      refine hK.out _ _ ?_ (fun hS => ?_)
      · exact HC.out _ (by first | exact ⟨_, h⟩ | exact ⟨_, h.f1⟩ | exact ⟨_, h.f2⟩ | exact ⟨_, h.f3⟩ | exact ⟨_, h.f4⟩ | exact ⟨_, h.f5⟩ | exact ⟨_, h.f6⟩ | exact ⟨_, h.f7⟩ | exact ⟨_, h.f8⟩ | exact ⟨_, h.f9⟩ | exact ⟨_, h.f10⟩ | exact ⟨_, h.f11⟩ | exact ⟨_, h.f12⟩ | exact ⟨_, h.f13⟩ | exact ⟨_, h.f14⟩ | exact ⟨_, h.f15⟩)
      clear hK K
      try simp only [Act.put, List.setIfInBounds_toArray, List.set_cons_zero, List.set_cons_succ]
      refine wpAnyG_pure (i := 7) (oi := ⟨some 13, _, _, _, _, _⟩) (v := ?_) rfl (by kernel_rfl) (by kernel_rfl) (by kernel_rfl) (by rfl) (fun _ _ _ h => h) (by rfl) ?_ ?_
      rotate_left
      · intro w
        go_simp
        first | done | with_reducible rfl
      try simp only [Act.put, List.setIfInBounds_toArray, List.set_cons_zero, List.set_cons_succ]
      refine wpAnyG_keep (i := 9) (oi := ⟨none, _, _, _, _, _⟩) (by kernel_rfl) rfl (fun K hK => ?_)
      rw [if_pos (by rfl)]
      first | have h := (h : Own _ _ (Hp.blk g4 NT _ :: _)) | have h := (h.f1 : Own _ _ (Hp.blk g4 NT _ :: _)) | have h := (h.f2 : Own _ _ (Hp.blk g4 NT _ :: _)) | have h := (h.f3 : Own _ _ (Hp.blk g4 NT _ :: _)) | have h := (h.f4 : Own _ _ (Hp.blk g4 NT _ :: _)) | have h := (h.f5 : Own _ _ (Hp.blk g4 NT _ :: _)) | have h := (h.f6 : Own _ _ (Hp.blk g4 NT _ :: _)) | have h := (h.f7 : Own _ _ (Hp.blk g4 NT _ :: _)) | have h := (h.f8 : Own _ _ (Hp.blk g4 NT _ :: _)) | have h := (h.f9 : Own _ _ (Hp.blk g4 NT _ :: _)) | have h := (h.f10 : Own _ _ (Hp.blk g4 NT _ :: _)) | have h := (h.f11 : Own _ _ (Hp.blk g4 NT _ :: _)) | have h := (h.f12 : Own _ _ (Hp.blk g4 NT _ :: _)) | have h := (h.f13 : Own _ _ (Hp.blk g4 NT _ :: _)) | have h := (h.f14 : Own _ _ (Hp.blk g4 NT _ :: _)) | have h := (h.f15 : Own _ _ (Hp.blk g4 NT _ :: _))
      refine wp_store_whole (cs := [.bool false, .slice none 0 0, .slice none 0 0, .slice none 0 0]) (vs := [.bool p.leaf, .slice none 0 0, .slice none 0 0, .slice A6 p.links.length c6]) h rfl (ND_all1 _ _ _ _ rfl rfl rfl) (by kernel_rfl) rfl rfl rfl (fun w9 h => ?_)
      refine hK.out _ _ ?_ (fun hS => ?_)
      · exact HC.out _ (by first | exact ⟨_, h⟩ | exact ⟨_, h.f1⟩ | exact ⟨_, h.f2⟩ | exact ⟨_, h.f3⟩ | exact ⟨_, h.f4⟩ | exact ⟨_, h.f5⟩ | exact ⟨_, h.f6⟩ | exact ⟨_, h.f7⟩ | exact ⟨_, h.f8⟩ | exact ⟨_, h.f9⟩ | exact ⟨_, h.f10⟩ | exact ⟨_, h.f11⟩ | exact ⟨_, h.f12⟩ | exact ⟨_, h.f13⟩ | exact ⟨_, h.f14⟩ | exact ⟨_, h.f15⟩)
      clear hK K
      try simp only [Act.put]
      refine wpAnyG_done (by kernel_rfl) ?_ _
      refine NoPanic.normal ?_
      go_wp2_with fail
      go_meet
      case rel => exact ⟨g4, c6, A6, rfl, h.ac (by simp only [Hp.all] <;> ac_rfl)⟩
  obtain ⟨g4, c4, A4, rfl, hw⟩ := hcut
  clear h
  have f4 : wc.cell? ⟨g1, 4, none⟩ = some (.string p.body) := hw.f3.cell 4
  have HW := Lib.hid hw
  clear hw
  go_wp2_with fail
  refine (newreader_any p.body _ HW.out).mono ?_
  rintro e w2 ⟨b, rfl, hw⟩
  have hw := hw.toRdr0
  have HW2 := Lib.hid hw
  clear hw HW f4
  obtain ⟨v0, s0, e0, hrn⟩ : ∃ v s e, rNum p.body 0 1 = (v, s, e) := ⟨_, _, _, rfl⟩
  have hone := rNum_one p.body
  rw [hrn] at hone
  obtain ⟨N, rfl⟩ : ∃ N : Nat, v0 = (N : Int) := ⟨v0.toNat, by have := hone.1; dsimp only at this; omega⟩
  have hN : N ≤ 255 := by have := hone.2.1; dsimp only at this; omega
  have hs0 : s0.size ≤ 1000000000000 := by have := hone.2.2; dsimp only at this; omega
  have hlast : p.last = pRun p.leaf s0 e0 N := by unfold Pg.last; rw [hrn]; rfl
  have hfac := pRun_facts p.leaf s0 e0
  have HFAC := Lib.hid hfac
  have HLAST := Lib.hid hlast
  have HS0 := Lib.hid hs0
  have HRN := Lib.hid hrn
  clear hone hfac hlast hs0 hrn
  go_wp2_with fail
  refine (rnum_all b p.body 0 1 N s0 e0 _ HRN.out HW2.out).mono ?_
  rintro e w3 ⟨rfl, hw⟩
  have HW3 := Lib.hid hw
  clear hw HW2
  obtain ⟨lv, hlv⟩ : ∃ lv, lv = Value.slice A4 p.links.length c4 := ⟨_, rfl⟩
  have HLV := Lib.hid hlv
  clear hlv
  go_wp2_with fail
  go_loopw [19] (fun i wr => ∃ (k : Nat) (kv vv : Value), k ≤ N ∧ i = .int .i64 k ∧ Own E wr (Hp.rdr b (pRun p.leaf s0 e0 k).2.2.1 (pRun p.leaf s0 e0 k).2.2.2 :: Hp.blk g4 NT #[.bool p.leaf, kv, vv, .slice A4 p.links.length c4] :: Hp.strs kv (pRun p.leaf s0 e0 k).1 :: Hp.strs vv (pRun p.leaf s0 e0 k).2.1 :: Hp.ints (.slice A4 p.links.length c4) p.links :: Hp.blk (g1 + 1) NT #[.bool false, .slice none 0 0, .slice none 0 0, .slice none 0 0] :: Hp.blk g1 PT #[VI p.kind, VI p.number, VI p.birth, .slice A p.links.length c, .string p.body] :: Hp.ro S :: L)) (fun i _ => N - (intOf i).toNat)
  case atStart =>
    refine ⟨0, .slice none 0 0, .slice none 0 0, by omega, rfl, ?_⟩
    have h9 := (HW3.out.emptyLst ST none).emptyLst ST none
    exact h9.f3.f3
  case round =>
    obtain ⟨k, kv, vv, hk, rfl, hw⟩ := hrel
    obtain ⟨q1, q2, q3, q4, q5⟩ := HFAC.out k
    obtain ⟨ks, vs, s, e, hst⟩ : ∃ ks vs s e, pRun p.leaf s0 e0 k = (ks, vs, s, e) := ⟨_, _, _, _, rfl⟩
    rw [hst] at hw q1 q2 q3 q4 q5
    dsimp only at hw q1 q2 q5
    clear q3 q4
    by_cases hlt : k < N
    · obtain ⟨x, s1, e1, hrt⟩ : ∃ x s1 e1, rText s e 255 = (x, s1, e1) := ⟨_, _, _, rfl⟩
      have hsz : s.size ≤ 1000000000000 := Nat.le_trans q5 HS0.out
      have hsz1 : s1.size ≤ 1000000000000 := by have := (rText_size s e).2; rw [hrt] at this; dsimp only at this; omega
      have HST := Lib.hid hst
      have HRT := Lib.hid hrt
      have HSZ := Lib.hid hsz
      have HSZ1 := Lib.hid hsz1
      have Q1 := Lib.hid q1
      have Q2 := Lib.hid q2
      obtain ⟨Ak, ck, rfl, -⟩ := hw.f2.lstSlice
      obtain ⟨Av, cv, rfl, -⟩ := hw.f3.lstSlice
      rw [List.length_map, List.length_map] at hw
      have H := Lib.hid hw
      have hcell4 : ∀ w', (∃ L', Own E w' (Hp.blk g4 NT #[.bool p.leaf, .slice Ak ks.length ck, .slice Av vs.length cv, .slice A4 p.links.length c4] :: L')) → w'.cell? ⟨g4, 1, none⟩ = some (.slice Ak ks.length ck) := fun w' hw => by
        obtain ⟨_, hw⟩ := hw
        exact hw.cell 1
      have HC4 := Lib.hid hcell4
      clear hcell4 hst hrt hsz hsz1 q1 q2 q5 hw HW3
      go_wp2_with fail
      go_cut [] from 66 (fun w' => ∃ (A5 : Option Addr) (c5 : Nat), Own E w' (Hp.rdr b s1 e1 :: Hp.blk g4 NT #[.bool p.leaf, .slice A5 (ks.length + 1) c5, .slice Av vs.length cv, .slice A4 p.links.length c4] :: Hp.strs (.slice A5 (ks.length + 1) c5) (ks ++ [x]) :: Hp.strs (.slice Av vs.length cv) vs :: Hp.ints (.slice A4 p.links.length c4) p.links :: Hp.blk (g1 + 1) NT #[.bool false, .slice none 0 0, .slice none 0 0, .slice none 0 0] :: Hp.blk g1 PT #[VI p.kind, VI p.number, VI p.birth, .slice A p.links.length c, .string p.body] :: Hp.ro S :: L))
      case first =>
        have h := H.out.drew
        refine wp_region_text [1] (fun w' => w'.cell? ⟨g4, 1, none⟩ = some (.slice Ak ks.length ck)) (by kernel_rfl) ?_ (fun hS => ?_)
        · exact HC4.out _ ⟨_, h.f1⟩
        refine wpAnyG_pure (i := 0) (oi := ⟨some 21, _, _, _, _, _⟩) (v := ?_) rfl (by kernel_rfl) (by kernel_rfl) (by kernel_rfl) (by rfl) (fun _ _ _ h => h) (by rfl) ?_ ?_
        rotate_left
        · intro w
          go_simp
          first | done | with_reducible rfl
        try simp only [Act.put, List.setIfInBounds_toArray, List.set_cons_zero, List.set_cons_succ]
        refine wpAnyG_load (i := 1) (oi := ⟨some 22, _, _, _, _, _⟩) (v := ?_) rfl (by kernel_rfl) (by kernel_rfl) (by kernel_rfl) (by rfl) (fun _ _ _ h => h) (by rfl) ?_ (by assumption) ?_
        rotate_left
        · intro w hS
          try dsimp only at hS
          go_simp
          first | done | with_reducible rfl
        try simp only [Act.put, List.setIfInBounds_toArray, List.set_cons_zero, List.set_cons_succ]
        refine wpAnyG_pure (i := 2) (oi := ⟨some 23, _, _, _, _, _⟩) (v := ?_) rfl (by kernel_rfl) (by kernel_rfl) (by kernel_rfl) (by rfl) (fun _ _ _ h => h) (by rfl) ?_ ?_
        rotate_left
        · intro w
          go_simp
          first | done | with_reducible rfl
        try simp only [Act.put, List.setIfInBounds_toArray, List.set_cons_zero, List.set_cons_succ]
        refine wpAnyG_keep (i := 3) (oi := ⟨some 24, _, _, _, _, _⟩) (by kernel_rfl) rfl (fun K hK => ?_)
        rw [if_pos (by rfl)]
        go_simp
        refine (rtext_all b s e 255 x s1 e1 _ HRT.out HSZ.out h).mono ?_
        rintro e w5 ⟨rfl, h⟩
        refine hK.out _ _ ?_ (fun hS => ?_)
        · exact HC4.out _ (by first | exact ⟨_, h⟩ | exact ⟨_, h.f1⟩ | exact ⟨_, h.f2⟩ | exact ⟨_, h.f3⟩ | exact ⟨_, h.f4⟩ | exact ⟨_, h.f5⟩ | exact ⟨_, h.f6⟩ | exact ⟨_, h.f7⟩ | exact ⟨_, h.f8⟩ | exact ⟨_, h.f9⟩ | exact ⟨_, h.f10⟩ | exact ⟨_, h.f11⟩ | exact ⟨_, h.f12⟩ | exact ⟨_, h.f13⟩ | exact ⟨_, h.f14⟩ | exact ⟨_, h.f15⟩)
        clear hK K
        try simp only [Act.put, List.setIfInBounds_toArray, List.set_cons_zero, List.set_cons_succ]
        refine wpAnyG_keep (i := 4) (oi := ⟨some 25, _, _, _, _, _⟩) (by kernel_rfl) rfl (fun K hK => ?_)
        rw [if_pos (by rfl)]
        go_simp
        have h4 := (h.f1.alloc (.cells #[.string x] ST)).f1
        first | have h := (h : Own _ _ (Hp.strs (.slice Ak ks.length ck) ks :: _)) | have h := (h.f1 : Own _ _ (Hp.strs (.slice Ak ks.length ck) ks :: _)) | have h := (h.f2 : Own _ _ (Hp.strs (.slice Ak ks.length ck) ks :: _)) | have h := (h.f3 : Own _ _ (Hp.strs (.slice Ak ks.length ck) ks :: _)) | have h := (h.f4 : Own _ _ (Hp.strs (.slice Ak ks.length ck) ks :: _)) | have h := (h.f5 : Own _ _ (Hp.strs (.slice Ak ks.length ck) ks :: _)) | have h := (h.f6 : Own _ _ (Hp.strs (.slice Ak ks.length ck) ks :: _)) | have h := (h.f7 : Own _ _ (Hp.strs (.slice Ak ks.length ck) ks :: _)) | have h := (h.f8 : Own _ _ (Hp.strs (.slice Ak ks.length ck) ks :: _)) | have h := (h.f9 : Own _ _ (Hp.strs (.slice Ak ks.length ck) ks :: _)) | have h := (h.f10 : Own _ _ (Hp.strs (.slice Ak ks.length ck) ks :: _)) | have h := (h.f11 : Own _ _ (Hp.strs (.slice Ak ks.length ck) ks :: _)) | have h := (h.f12 : Own _ _ (Hp.strs (.slice Ak ks.length ck) ks :: _)) | have h := (h.f13 : Own _ _ (Hp.strs (.slice Ak ks.length ck) ks :: _)) | have h := (h.f14 : Own _ _ (Hp.strs (.slice Ak ks.length ck) ks :: _)) | have h := (h.f15 : Own _ _ (Hp.strs (.slice Ak ks.length ck) ks :: _))
        obtain ⟨v', w6, hap, h⟩ := lst_append_new (P := Tryd.prog) (t := LST) (ty := LST) lst_u st_info (by rfl) h #[.string x] 1 rfl (VS_one [x]) (by unfold maxLen; rw [List.length_map, Q1.out]; omega) (by rw [List.length_map, Q1.out]; omega)
        refine hK.out _ _ ?_ (fun hS => ?_)
        · exact HC4.out _ ⟨_, h4⟩
        clear hK K
        try simp only [Act.put, List.setIfInBounds_toArray, List.set_cons_zero, List.set_cons_succ]
        refine wpAnyG_break (i := 5) (oi := ⟨some 26, _, _, _, _, _⟩) (by kernel_rfl) rfl (by kernel_rfl) (fun K hK => ?_)
        rw [if_pos (by rfl)]
        refine wp_append_run hap rfl rfl rfl ?_
        obtain ⟨A5, c5, rfl, -⟩ := h.lstSlice
        have hl5 : (ks.map VS ++ [Value.string x]).length = ks.length + 1 := by simp
        rw [hl5] at h ⊢
        refine hK.out _ _ ?_
        clear hK K
        try simp only [Act.put, List.setIfInBounds_toArray, List.set_cons_zero, List.set_cons_succ]
        refine wpAnyG_pure (i := 6) (oi := ⟨some 27, _, _, _, _, _⟩) (v := ?_) rfl (by kernel_rfl) (by kernel_rfl) (by kernel_rfl) (by rfl) (fun _ _ _ h => h) (by rfl) ?_ ?_
        rotate_left
        · intro w
          go_simp
          first | done | with_reducible rfl
        try simp only [Act.put, List.setIfInBounds_toArray, List.set_cons_zero, List.set_cons_succ]
        refine wpAnyG_break (i := 7) (oi := ⟨none, _, _, _, _, _⟩) (by kernel_rfl) rfl (by kernel_rfl) (fun K hK => ?_)
        rw [if_pos (by rfl)]
        first | have h := (h : Own _ _ (Hp.blk g4 NT _ :: _)) | have h := (h.f1 : Own _ _ (Hp.blk g4 NT _ :: _)) | have h := (h.f2 : Own _ _ (Hp.blk g4 NT _ :: _)) | have h := (h.f3 : Own _ _ (Hp.blk g4 NT _ :: _)) | have h := (h.f4 : Own _ _ (Hp.blk g4 NT _ :: _)) | have h := (h.f5 : Own _ _ (Hp.blk g4 NT _ :: _)) | have h := (h.f6 : Own _ _ (Hp.blk g4 NT _ :: _)) | have h := (h.f7 : Own _ _ (Hp.blk g4 NT _ :: _)) | have h := (h.f8 : Own _ _ (Hp.blk g4 NT _ :: _)) | have h := (h.f9 : Own _ _ (Hp.blk g4 NT _ :: _)) | have h := (h.f10 : Own _ _ (Hp.blk g4 NT _ :: _)) | have h := (h.f11 : Own _ _ (Hp.blk g4 NT _ :: _)) | have h := (h.f12 : Own _ _ (Hp.blk g4 NT _ :: _)) | have h := (h.f13 : Own _ _ (Hp.blk g4 NT _ :: _)) | have h := (h.f14 : Own _ _ (Hp.blk g4 NT _ :: _)) | have h := (h.f15 : Own _ _ (Hp.blk g4 NT _ :: _))
        have f5 := h.cell 1
        have f6 := h.frozen 1
        have h := h.set 1 (.slice A5 (ks.length + 1) c5)
        go_simp
        refine hK.out _ _ ?_
        clear hK K
        try simp only [Act.put]
        refine wpAnyG_done (by kernel_rfl) ?_ _
        refine NoPanic.normal ?_
        go_wp2_with fail
        go_meet
        case rel =>
          have e9 : ks.map VS ++ [Value.string x] = (ks ++ [x]).map VS := by simp
          rw [e9] at h
          exact ⟨A5, c5, h.f2⟩
      obtain ⟨A5, c5, hw⟩ := hcut
      clear HC4 H
      have f0 : wc.cell? ⟨g4, 0, none⟩ = some (.bool p.leaf) := hw.f1.cell 0
      rcases (show p.leaf = false ∨ p.leaf = true by cases p.leaf <;> simp) with hl | hl
      · rw [hl] at f0
        have hnx : pRun p.leaf s0 e0 (k + 1) = (ks ++ [x], vs, s1, e1) := by
          show pStep p.leaf (pRun p.leaf s0 e0 k) = _
          rw [HST.out]
          unfold pStep
          rw [hl]
          dsimp only
          rw [HRT.out]
          rfl
        have HNX := Lib.hid hnx
        have HW := Lib.hid hw
        clear hnx hl hw
        go_wp2_with fail
        go_roundw
        case rel => exact ⟨k + 1, _, _, by omega, by go_num, by rw [HNX.out]; exact HW.out⟩
        case measure => simp [intOf]; omega
      · rw [hl] at f0
        obtain ⟨y, s2, e2, hrt2⟩ : ∃ y s2 e2, rText s1 e1 255 = (y, s2, e2) := ⟨_, _, _, rfl⟩
        have hnx : pRun p.leaf s0 e0 (k + 1) = (ks ++ [x], vs ++ [y], s2, e2) := by
          show pStep p.leaf (pRun p.leaf s0 e0 k) = _
          rw [HST.out]
          unfold pStep
          rw [hl]
          dsimp only
          rw [HRT.out]
          dsimp only
          rw [hrt2]
          rfl
        have hvl : vs.length ≤ 255 := by have := Q2.out; rw [hl] at this; simp at this; omega
        have VL := Lib.hid hvl
        have HRT2 := Lib.hid hrt2
        have HNX := Lib.hid hnx
        have H := Lib.hid hw
        have hcell4 : ∀ w', (∃ L', Own E w' (Hp.blk g4 NT #[.bool p.leaf, .slice A5 (ks.length + 1) c5, .slice Av vs.length cv, .slice A4 p.links.length c4] :: L')) → w'.cell? ⟨g4, 2, none⟩ = some (.slice Av vs.length cv) := fun w' hw => by
          obtain ⟨_, hw⟩ := hw
          exact hw.cell 2
        have HC4 := Lib.hid hcell4
        clear hnx hl hw hcell4 hrt2 hvl
        go_wp2_with fail
        have h := H.out.drew
        refine wp_region_text [1] (fun w' => w'.cell? ⟨g4, 2, none⟩ = some (.slice Av vs.length cv)) (by kernel_rfl) ?_ (fun hS => ?_)
        · exact HC4.out _ ⟨_, h.f1⟩
        refine wpAnyG_pure (i := 0) (oi := ⟨some 30, _, _, _, _, _⟩) (v := ?_) rfl (by kernel_rfl) (by kernel_rfl) (by kernel_rfl) (by rfl) (fun _ _ _ h => h) (by rfl) ?_ ?_
        rotate_left
        · intro w
          go_simp
          first | done | with_reducible rfl
        try simp only [Act.put, List.setIfInBounds_toArray, List.set_cons_zero, List.set_cons_succ]
        refine wpAnyG_load (i := 1) (oi := ⟨some 31, _, _, _, _, _⟩) (v := ?_) rfl (by kernel_rfl) (by kernel_rfl) (by kernel_rfl) (by rfl) (fun _ _ _ h => h) (by rfl) ?_ (by assumption) ?_
        rotate_left
        · intro w hS
          try dsimp only at hS
          go_simp
          first | done | with_reducible rfl
        try simp only [Act.put, List.setIfInBounds_toArray, List.set_cons_zero, List.set_cons_succ]
        refine wpAnyG_pure (i := 2) (oi := ⟨some 32, _, _, _, _, _⟩) (v := ?_) rfl (by kernel_rfl) (by kernel_rfl) (by kernel_rfl) (by rfl) (fun _ _ _ h => h) (by rfl) ?_ ?_
        rotate_left
        · intro w
          go_simp
          first | done | with_reducible rfl
        try simp only [Act.put, List.setIfInBounds_toArray, List.set_cons_zero, List.set_cons_succ]
        refine wpAnyG_keep (i := 3) (oi := ⟨some 33, _, _, _, _, _⟩) (by kernel_rfl) rfl (fun K hK => ?_)
        rw [if_pos (by rfl)]
        go_simp
        refine (rtext_all b s1 e1 255 y s2 e2 _ HRT2.out HSZ1.out h).mono ?_
        rintro e w5 ⟨rfl, h⟩
        refine hK.out _ _ ?_ (fun hS => ?_)
        · exact HC4.out _ (by first | exact ⟨_, h⟩ | exact ⟨_, h.f1⟩ | exact ⟨_, h.f2⟩ | exact ⟨_, h.f3⟩ | exact ⟨_, h.f4⟩ | exact ⟨_, h.f5⟩ | exact ⟨_, h.f6⟩ | exact ⟨_, h.f7⟩ | exact ⟨_, h.f8⟩ | exact ⟨_, h.f9⟩ | exact ⟨_, h.f10⟩ | exact ⟨_, h.f11⟩ | exact ⟨_, h.f12⟩ | exact ⟨_, h.f13⟩ | exact ⟨_, h.f14⟩ | exact ⟨_, h.f15⟩)
        clear hK K
        try simp only [Act.put, List.setIfInBounds_toArray, List.set_cons_zero, List.set_cons_succ]
        refine wpAnyG_keep (i := 4) (oi := ⟨some 34, _, _, _, _, _⟩) (by kernel_rfl) rfl (fun K hK => ?_)
        rw [if_pos (by rfl)]
        go_simp
        have h4 := (h.f1.alloc (.cells #[.string y] ST)).f1
        first | have h := (h : Own _ _ (Hp.strs (.slice Av vs.length cv) vs :: _)) | have h := (h.f1 : Own _ _ (Hp.strs (.slice Av vs.length cv) vs :: _)) | have h := (h.f2 : Own _ _ (Hp.strs (.slice Av vs.length cv) vs :: _)) | have h := (h.f3 : Own _ _ (Hp.strs (.slice Av vs.length cv) vs :: _)) | have h := (h.f4 : Own _ _ (Hp.strs (.slice Av vs.length cv) vs :: _)) | have h := (h.f5 : Own _ _ (Hp.strs (.slice Av vs.length cv) vs :: _)) | have h := (h.f6 : Own _ _ (Hp.strs (.slice Av vs.length cv) vs :: _)) | have h := (h.f7 : Own _ _ (Hp.strs (.slice Av vs.length cv) vs :: _)) | have h := (h.f8 : Own _ _ (Hp.strs (.slice Av vs.length cv) vs :: _)) | have h := (h.f9 : Own _ _ (Hp.strs (.slice Av vs.length cv) vs :: _)) | have h := (h.f10 : Own _ _ (Hp.strs (.slice Av vs.length cv) vs :: _)) | have h := (h.f11 : Own _ _ (Hp.strs (.slice Av vs.length cv) vs :: _)) | have h := (h.f12 : Own _ _ (Hp.strs (.slice Av vs.length cv) vs :: _)) | have h := (h.f13 : Own _ _ (Hp.strs (.slice Av vs.length cv) vs :: _)) | have h := (h.f14 : Own _ _ (Hp.strs (.slice Av vs.length cv) vs :: _)) | have h := (h.f15 : Own _ _ (Hp.strs (.slice Av vs.length cv) vs :: _))
        obtain ⟨v', w6, hap, h⟩ := lst_append_new (P := Tryd.prog) (t := LST) (ty := LST) lst_u st_info (by rfl) h #[.string y] 1 rfl (VS_one [y]) (by unfold maxLen; rw [List.length_map]; have := VL.out; omega) (by rw [List.length_map]; have := VL.out; omega)
        refine hK.out _ _ ?_ (fun hS => ?_)
        · exact HC4.out _ ⟨_, h4⟩
        clear hK K
        try simp only [Act.put, List.setIfInBounds_toArray, List.set_cons_zero, List.set_cons_succ]
        refine wpAnyG_break (i := 5) (oi := ⟨some 35, _, _, _, _, _⟩) (by kernel_rfl) rfl (by kernel_rfl) (fun K hK => ?_)
        rw [if_pos (by rfl)]
        refine wp_append_run hap rfl rfl rfl ?_
        obtain ⟨A6, c6, rfl, -⟩ := h.lstSlice
        have hl5 : (vs.map VS ++ [Value.string y]).length = vs.length + 1 := by simp
        rw [hl5] at h ⊢
        refine hK.out _ _ ?_
        clear hK K
        try simp only [Act.put, List.setIfInBounds_toArray, List.set_cons_zero, List.set_cons_succ]
        refine wpAnyG_pure (i := 6) (oi := ⟨some 36, _, _, _, _, _⟩) (v := ?_) rfl (by kernel_rfl) (by kernel_rfl) (by kernel_rfl) (by rfl) (fun _ _ _ h => h) (by rfl) ?_ ?_
        rotate_left
        · intro w
          go_simp
          first | done | with_reducible rfl
        try simp only [Act.put, List.setIfInBounds_toArray, List.set_cons_zero, List.set_cons_succ]
        refine wpAnyG_break (i := 7) (oi := ⟨none, _, _, _, _, _⟩) (by kernel_rfl) rfl (by kernel_rfl) (fun K hK => ?_)
        rw [if_pos (by rfl)]
        first | have h := (h : Own _ _ (Hp.blk g4 NT _ :: _)) | have h := (h.f1 : Own _ _ (Hp.blk g4 NT _ :: _)) | have h := (h.f2 : Own _ _ (Hp.blk g4 NT _ :: _)) | have h := (h.f3 : Own _ _ (Hp.blk g4 NT _ :: _)) | have h := (h.f4 : Own _ _ (Hp.blk g4 NT _ :: _)) | have h := (h.f5 : Own _ _ (Hp.blk g4 NT _ :: _)) | have h := (h.f6 : Own _ _ (Hp.blk g4 NT _ :: _)) | have h := (h.f7 : Own _ _ (Hp.blk g4 NT _ :: _)) | have h := (h.f8 : Own _ _ (Hp.blk g4 NT _ :: _)) | have h := (h.f9 : Own _ _ (Hp.blk g4 NT _ :: _)) | have h := (h.f10 : Own _ _ (Hp.blk g4 NT _ :: _)) | have h := (h.f11 : Own _ _ (Hp.blk g4 NT _ :: _)) | have h := (h.f12 : Own _ _ (Hp.blk g4 NT _ :: _)) | have h := (h.f13 : Own _ _ (Hp.blk g4 NT _ :: _)) | have h := (h.f14 : Own _ _ (Hp.blk g4 NT _ :: _)) | have h := (h.f15 : Own _ _ (Hp.blk g4 NT _ :: _))
        have f5 := h.cell 2
        have f6 := h.frozen 2
        have h := h.set 2 (.slice A6 (vs.length + 1) c6)
        go_simp
        refine hK.out _ _ ?_
        clear hK K
        try simp only [Act.put]
        refine wpAnyG_done (by kernel_rfl) ?_ _
        refine NoPanic.normal ?_
        have e9 : vs.map VS ++ [Value.string y] = (vs ++ [y]).map VS := by simp
        rw [e9] at h
        have hw := h.f2.f3.f2.f2
        have HW := Lib.hid hw
        clear HC4 H hw f0
        go_wp2_with fail
        go_roundw
        case rel => exact ⟨k + 1, _, _, by omega, by go_num, by rw [HNX.out]; exact HW.out⟩
        case measure => simp [intOf]; omega
    · obtain rfl : k = N := by omega
      obtain ⟨Ak, ck, rfl, -⟩ := hw.f2.lstSlice
      obtain ⟨Av, cv, rfl, -⟩ := hw.f3.lstSlice
      rw [List.length_map, List.length_map] at hw
      have hread : p.read = ⟨p.leaf, ks, vs, p.links⟩ := by unfold Pg.read; rw [HLAST.out, hst]
      have hbulk := Pg.read_bulk p hb
      have hdone : p.bad = decide (rDone s e ≠ 0 ∨ (p.kind ≠ 1 ∧ p.kind ≠ 2) ∨ p.read.wrong ≠ 0) := by unfold Pg.bad; rw [HLAST.out, hst]
      rw [hread] at hbulk hdone
      have h2 : Own E wr (Hp.strs (.slice Ak ks.length ck) ks :: Hp.strs (.slice Av vs.length cv) vs :: Hp.ints (.slice A4 p.links.length c4) p.links :: Hp.ro S :: Hp.rdr b s e :: Hp.blk g4 NT #[.bool p.leaf, .slice Ak ks.length ck, .slice Av vs.length cv, .slice A4 p.links.length c4] :: Hp.blk (g1 + 1) NT #[.bool false, .slice none 0 0, .slice none 0 0, .slice none 0 0] :: Hp.blk g1 PT #[VI p.kind, VI p.number, VI p.birth, .slice A p.links.length c, .string p.body] :: L) := hw.ac (by simp only [Hp.all] <;> ac_rfl)
      have h3 := Own.toNode (n := ⟨p.leaf, ks, vs, p.links⟩) h2
      obtain ⟨a, hA, had, h4⟩ := h3.lend
      obtain ⟨q, hq, hin⟩ := node_in hA
      obtain ⟨qa1, qc1, qa2, qc2, qa3, qc3⟩ := q
      simp only [Nv.val, Value.agg.injEq, Array.mk.injEq, List.cons.injEq, Value.slice.injEq, and_true, true_and] at hq
      obtain ⟨⟨rfl, rfl⟩, ⟨rfl, rfl⟩, rfl, rfl⟩ := hq
      have hin2 := hin.sub (T := Ph.join a S) Ph.join_l
      have hwr := fun (B : Hp) (M : List Hp) w hw => wrong_any (E := E) (S := Ph.join a S) (L := B :: M) ⟨Ak, ck, Av, cv, A4, c4⟩ ⟨p.leaf, ks, vs, p.links⟩ w hbulk.1 hin2 hw
      have HWR := Lib.hid hwr
      have HREAD := Lib.hid hread
      have hA := Lib.hid hA
      have HB := Lib.hid hdone
      have H4 := Lib.hid h4
      clear hread hbulk hdone h2 h3 h4 hin hin2 hwr hw hst q1 q2 q5 HW3
      go_wp2_with fail
      refine (rdone_all b s e _ (fun w hw => HG.out w ((((Own.give hA.out had hw).drop.f1.drop).f1.drop).f1.drop)) H4.out.f1).mono ?_
      rintro e' w4 ⟨rfl, h⟩
      have q0 : w4.cell? ⟨g4, 0, none⟩ = some (.bool p.leaf) := h.f2.cell 0
      have q1 : w4.cell? ⟨g4, 1, none⟩ = some (.slice Ak ks.length ck) := h.f2.cell 1
      have q2 : w4.cell? ⟨g4, 2, none⟩ = some (.slice Av vs.length cv) := h.f2.cell 2
      have q3 : w4.cell? ⟨g4, 3, none⟩ = some (.slice A4 p.links.length c4) := h.f2.cell 3
      have q4 : w4.cell? ⟨g1, 0, none⟩ = some (VI p.kind) := h.f4.cell 0
      clear H4
      generalize p.leaf = lf at *
      by_cases hd : rDone s e = 0
      · cases lf
        rotate_left
        · have hk1 : p.kind = 1 := by simpa using HLF.out
          have hbad1 : p.bad = decide (Nd.wrong ⟨true, ks, vs, p.links⟩ ≠ 0) := by rw [HB.out]; simp [hd, hk1]
          have HB1 := Lib.hid hbad1
          have H := Lib.hid h
          clear hbad1 hk1 h
          go_wp2_with fail
          with_reducible refine (HWR.out _ _ _ (H.out.f1)).mono ?_
          rintro e' w5 ⟨rfl, h⟩
          clear q0 q1 q2 q3 q4 H
          by_cases hw0 : Nd.wrong ⟨true, ks, vs, p.links⟩ = 0
          · have hbad : ¬ p.bad = true := by rw [HB1.out]; simp [hw0]
            rw [hw0]
            obtain rfl : pw = 0 := by rw [← HPW.out]; unfold Pg.wrong; rw [if_neg hbad]
            obtain rfl : pn = ⟨true, ks, vs, p.links⟩ := by rw [← HPN.out]; unfold Pg.node; rw [if_neg hbad]; exact HREAD.out
            first | have h := (h : Own _ _ (Hp.ro (Ph.join a S) :: _)) | have h := (h.f1 : Own _ _ (Hp.ro (Ph.join a S) :: _)) | have h := (h.f2 : Own _ _ (Hp.ro (Ph.join a S) :: _)) | have h := (h.f3 : Own _ _ (Hp.ro (Ph.join a S) :: _)) | have h := (h.f4 : Own _ _ (Hp.ro (Ph.join a S) :: _)) | have h := (h.f5 : Own _ _ (Hp.ro (Ph.join a S) :: _)) | have h := (h.f6 : Own _ _ (Hp.ro (Ph.join a S) :: _)) | have h := (h.f7 : Own _ _ (Hp.ro (Ph.join a S) :: _)) | have h := (h.f8 : Own _ _ (Hp.ro (Ph.join a S) :: _)) | have h := (h.f9 : Own _ _ (Hp.ro (Ph.join a S) :: _)) | have h := (h.f10 : Own _ _ (Hp.ro (Ph.join a S) :: _)) | have h := (h.f11 : Own _ _ (Hp.ro (Ph.join a S) :: _)) | have h := (h.f12 : Own _ _ (Hp.ro (Ph.join a S) :: _)) | have h := (h.f13 : Own _ _ (Hp.ro (Ph.join a S) :: _)) | have h := (h.f14 : Own _ _ (Hp.ro (Ph.join a S) :: _)) | have h := (h.f15 : Own _ _ (Hp.ro (Ph.join a S) :: _))
            have h := Own.give hA.out had h
            obtain ⟨z1, z2, z3, hz, h⟩ := h.ofNode
            simp only [Value.agg.injEq, Array.mk.injEq, List.cons.injEq, and_true, true_and] at hz
            obtain ⟨rfl, rfl, rfl⟩ := hz
            have hcell4 : ∀ w', (∃ L', Own E w' (Hp.blk g4 NT #[.bool true, .slice Ak ks.length ck, .slice Av vs.length cv, .slice A4 p.links.length c4] :: L')) → w'.cell? ⟨g4, 1, none⟩ = some (.slice Ak ks.length ck) ∧ w'.cell? ⟨g4, 2, none⟩ = some (.slice Av vs.length cv) := fun w' hw => by
              obtain ⟨_, hw⟩ := hw
              exact ⟨hw.cell 1, hw.cell 2⟩
            have HC4 := Lib.hid hcell4
            have H := Lib.hid h
            clear h hbad hcell4
            go_wp2_with fail
            have h := H.out.drew
            refine wp_region_text [1, 4] (fun w' => w'.cell? ⟨g4, 1, none⟩ = some (.slice Ak ks.length ck) ∧ w'.cell? ⟨g4, 2, none⟩ = some (.slice Av vs.length cv)) (by kernel_rfl) ?_ (fun hS => ?_)
            · exact HC4.out _ (by first | exact ⟨_, h⟩ | exact ⟨_, h.f1⟩ | exact ⟨_, h.f2⟩ | exact ⟨_, h.f3⟩ | exact ⟨_, h.f4⟩ | exact ⟨_, h.f5⟩ | exact ⟨_, h.f6⟩ | exact ⟨_, h.f7⟩ | exact ⟨_, h.f8⟩ | exact ⟨_, h.f9⟩ | exact ⟨_, h.f10⟩ | exact ⟨_, h.f11⟩ | exact ⟨_, h.f12⟩ | exact ⟨_, h.f13⟩ | exact ⟨_, h.f14⟩ | exact ⟨_, h.f15⟩)
            refine wpAnyG_pure (i := 0) (oi := ⟨some 57, _, _, _, _, _⟩) (v := ?_) rfl (by kernel_rfl) (by kernel_rfl) (by kernel_rfl) (by rfl) (fun _ _ _ h => h) (by rfl) ?_ ?_
            rotate_left
            · intro w
              go_simp
              first | done | with_reducible rfl
            try simp only [Act.put, List.setIfInBounds_toArray, List.set_cons_zero, List.set_cons_succ]
            refine wpAnyG_load (i := 1) (oi := ⟨some 58, _, _, _, _, _⟩) (v := ?_) rfl (by kernel_rfl) (by kernel_rfl) (by kernel_rfl) (by rfl) (fun _ _ _ h => h) (by rfl) ?_ (by assumption) ?_
            rotate_left
            · intro w hS
              try dsimp only at hS
              go_simp
              first | done | with_reducible rfl
            try simp only [Act.put, List.setIfInBounds_toArray, List.set_cons_zero, List.set_cons_succ]
            refine wpAnyG_pure (i := 3) (oi := ⟨some 60, _, _, _, _, _⟩) (v := ?_) rfl (by kernel_rfl) (by kernel_rfl) (by kernel_rfl) (by rfl) (fun _ _ _ h => h) (by rfl) ?_ ?_
            rotate_left
            · intro w
              go_simp
              first | done | with_reducible rfl
            try simp only [Act.put, List.setIfInBounds_toArray, List.set_cons_zero, List.set_cons_succ]
            refine wpAnyG_load (i := 4) (oi := ⟨some 61, _, _, _, _, _⟩) (v := ?_) rfl (by kernel_rfl) (by kernel_rfl) (by kernel_rfl) (by rfl) (fun _ _ _ h => h) (by rfl) ?_ (by assumption) ?_
            rotate_left
            · intro w hS
              try dsimp only at hS
              go_simp
              first | done | with_reducible rfl
            try simp only [Act.put, List.setIfInBounds_toArray, List.set_cons_zero, List.set_cons_succ]
            refine wpAnyG_keep (i := 2) (oi := ⟨some 59, _, _, _, _, _⟩) (by kernel_rfl) rfl (fun K hK => ?_)
            rw [if_pos (by rfl)]
            go_simp
            first | have h := (h : Own _ _ (Hp.strs (.slice Ak ks.length ck) ks :: _)) | have h := (h.f1 : Own _ _ (Hp.strs (.slice Ak ks.length ck) ks :: _)) | have h := (h.f2 : Own _ _ (Hp.strs (.slice Ak ks.length ck) ks :: _)) | have h := (h.f3 : Own _ _ (Hp.strs (.slice Ak ks.length ck) ks :: _)) | have h := (h.f4 : Own _ _ (Hp.strs (.slice Ak ks.length ck) ks :: _)) | have h := (h.f5 : Own _ _ (Hp.strs (.slice Ak ks.length ck) ks :: _)) | have h := (h.f6 : Own _ _ (Hp.strs (.slice Ak ks.length ck) ks :: _)) | have h := (h.f7 : Own _ _ (Hp.strs (.slice Ak ks.length ck) ks :: _)) | have h := (h.f8 : Own _ _ (Hp.strs (.slice Ak ks.length ck) ks :: _)) | have h := (h.f9 : Own _ _ (Hp.strs (.slice Ak ks.length ck) ks :: _)) | have h := (h.f10 : Own _ _ (Hp.strs (.slice Ak ks.length ck) ks :: _)) | have h := (h.f11 : Own _ _ (Hp.strs (.slice Ak ks.length ck) ks :: _)) | have h := (h.f12 : Own _ _ (Hp.strs (.slice Ak ks.length ck) ks :: _)) | have h := (h.f13 : Own _ _ (Hp.strs (.slice Ak ks.length ck) ks :: _)) | have h := (h.f14 : Own _ _ (Hp.strs (.slice Ak ks.length ck) ks :: _)) | have h := (h.f15 : Own _ _ (Hp.strs (.slice Ak ks.length ck) ks :: _))
            refine (clip_str _ _ _ ks _ h).mono ?_
            rintro e w5 ⟨v5, rfl, h⟩
            obtain ⟨A7, c7, rfl, -⟩ := h.lstSlice
            rw [List.length_map] at h ⊢
            refine hK.out _ _ ?_ (fun hS => ?_)
            · exact HC4.out _ (by first | exact ⟨_, h⟩ | exact ⟨_, h.f1⟩ | exact ⟨_, h.f2⟩ | exact ⟨_, h.f3⟩ | exact ⟨_, h.f4⟩ | exact ⟨_, h.f5⟩ | exact ⟨_, h.f6⟩ | exact ⟨_, h.f7⟩ | exact ⟨_, h.f8⟩ | exact ⟨_, h.f9⟩ | exact ⟨_, h.f10⟩ | exact ⟨_, h.f11⟩ | exact ⟨_, h.f12⟩ | exact ⟨_, h.f13⟩ | exact ⟨_, h.f14⟩ | exact ⟨_, h.f15⟩)
            clear hK K
            try simp only [Act.put, List.setIfInBounds_toArray, List.set_cons_zero, List.set_cons_succ]
            refine wpAnyG_pure (i := 6) (oi := ⟨some 63, _, _, _, _, _⟩) (v := ?_) rfl (by kernel_rfl) (by kernel_rfl) (by kernel_rfl) (by rfl) (fun _ _ _ h => h) (by rfl) ?_ ?_
            rotate_left
            · intro w
              go_simp
              first | done | with_reducible rfl
            try simp only [Act.put, List.setIfInBounds_toArray, List.set_cons_zero, List.set_cons_succ]
            refine wpAnyG_keep (i := 5) (oi := ⟨some 62, _, _, _, _, _⟩) (by kernel_rfl) rfl (fun K hK => ?_)
            rw [if_pos (by rfl)]
            go_simp
            first | have h := (h : Own _ _ (Hp.strs (.slice Av vs.length cv) vs :: _)) | have h := (h.f1 : Own _ _ (Hp.strs (.slice Av vs.length cv) vs :: _)) | have h := (h.f2 : Own _ _ (Hp.strs (.slice Av vs.length cv) vs :: _)) | have h := (h.f3 : Own _ _ (Hp.strs (.slice Av vs.length cv) vs :: _)) | have h := (h.f4 : Own _ _ (Hp.strs (.slice Av vs.length cv) vs :: _)) | have h := (h.f5 : Own _ _ (Hp.strs (.slice Av vs.length cv) vs :: _)) | have h := (h.f6 : Own _ _ (Hp.strs (.slice Av vs.length cv) vs :: _)) | have h := (h.f7 : Own _ _ (Hp.strs (.slice Av vs.length cv) vs :: _)) | have h := (h.f8 : Own _ _ (Hp.strs (.slice Av vs.length cv) vs :: _)) | have h := (h.f9 : Own _ _ (Hp.strs (.slice Av vs.length cv) vs :: _)) | have h := (h.f10 : Own _ _ (Hp.strs (.slice Av vs.length cv) vs :: _)) | have h := (h.f11 : Own _ _ (Hp.strs (.slice Av vs.length cv) vs :: _)) | have h := (h.f12 : Own _ _ (Hp.strs (.slice Av vs.length cv) vs :: _)) | have h := (h.f13 : Own _ _ (Hp.strs (.slice Av vs.length cv) vs :: _)) | have h := (h.f14 : Own _ _ (Hp.strs (.slice Av vs.length cv) vs :: _)) | have h := (h.f15 : Own _ _ (Hp.strs (.slice Av vs.length cv) vs :: _))
            refine (clip_str _ _ _ vs _ h).mono ?_
            rintro e w6 ⟨v6, rfl, h⟩
            obtain ⟨A8, c8, rfl, -⟩ := h.lstSlice
            rw [List.length_map] at h ⊢
            refine hK.out _ _ ?_ (fun hS => ?_)
            · exact HC4.out _ (by first | exact ⟨_, h⟩ | exact ⟨_, h.f1⟩ | exact ⟨_, h.f2⟩ | exact ⟨_, h.f3⟩ | exact ⟨_, h.f4⟩ | exact ⟨_, h.f5⟩ | exact ⟨_, h.f6⟩ | exact ⟨_, h.f7⟩ | exact ⟨_, h.f8⟩ | exact ⟨_, h.f9⟩ | exact ⟨_, h.f10⟩ | exact ⟨_, h.f11⟩ | exact ⟨_, h.f12⟩ | exact ⟨_, h.f13⟩ | exact ⟨_, h.f14⟩ | exact ⟨_, h.f15⟩)
            clear hK K
            try simp only [Act.put, List.setIfInBounds_toArray, List.set_cons_zero, List.set_cons_succ]
            refine wpAnyG_break (i := 7) (oi := ⟨none, _, _, _, _, _⟩) (by kernel_rfl) rfl (by kernel_rfl) (fun K hK => ?_)
            rw [if_pos (by rfl)]
            first | have h := (h : Own _ _ (Hp.blk g4 NT _ :: _)) | have h := (h.f1 : Own _ _ (Hp.blk g4 NT _ :: _)) | have h := (h.f2 : Own _ _ (Hp.blk g4 NT _ :: _)) | have h := (h.f3 : Own _ _ (Hp.blk g4 NT _ :: _)) | have h := (h.f4 : Own _ _ (Hp.blk g4 NT _ :: _)) | have h := (h.f5 : Own _ _ (Hp.blk g4 NT _ :: _)) | have h := (h.f6 : Own _ _ (Hp.blk g4 NT _ :: _)) | have h := (h.f7 : Own _ _ (Hp.blk g4 NT _ :: _)) | have h := (h.f8 : Own _ _ (Hp.blk g4 NT _ :: _)) | have h := (h.f9 : Own _ _ (Hp.blk g4 NT _ :: _)) | have h := (h.f10 : Own _ _ (Hp.blk g4 NT _ :: _)) | have h := (h.f11 : Own _ _ (Hp.blk g4 NT _ :: _)) | have h := (h.f12 : Own _ _ (Hp.blk g4 NT _ :: _)) | have h := (h.f13 : Own _ _ (Hp.blk g4 NT _ :: _)) | have h := (h.f14 : Own _ _ (Hp.blk g4 NT _ :: _)) | have h := (h.f15 : Own _ _ (Hp.blk g4 NT _ :: _))
            have f5 := h.cell 1
            have f6 := h.frozen 1
            have h := h.set 1 (.slice A7 ks.length c7)
            go_simp
            refine hK.out _ _ ?_
            clear hK K
            try simp only [Act.put]
            refine wpAnyG_pure (i := 8) (oi := ⟨some 64, _, _, _, _, _⟩) (v := ?_) rfl (by kernel_rfl) (by kernel_rfl) (by kernel_rfl) (by rfl) (fun _ _ _ h => h) (by rfl) ?_ ?_
            rotate_left
            · intro w
              go_simp
              first | done | with_reducible rfl
            try simp only [Act.put, List.setIfInBounds_toArray, List.set_cons_zero, List.set_cons_succ]
            refine wpAnyG_break (i := 9) (oi := ⟨none, _, _, _, _, _⟩) (by kernel_rfl) rfl (by kernel_rfl) (fun K hK => ?_)
            rw [if_pos (by rfl)]
            have f7 := h.cell 2
            have f8 := h.frozen 2
            have h := h.set 2 (.slice A8 vs.length c8)
            go_simp
            refine hK.out _ _ ?_
            clear hK K
            try simp only [Act.put]
            refine wpAnyG_done (by kernel_rfl) ?_ _
            refine NoPanic.normal ?_
            have h : Own E _ (Hp.blk g4 NT #[.bool true, .slice A7 ks.length c7, .slice A8 vs.length c8, .slice A4 p.links.length c4] :: _) := h
            generalize World.setCell _ _ _ = w8 at h ⊢
            have q0 := h.cell 0
            have q1 := h.cell 1
            have q2 := h.cell 2
            have q3 := h.cell 3
            first | have h := (h : Own _ _ (Hp.blk (g1 + 1) NT _ :: _)) | have h := (h.f1 : Own _ _ (Hp.blk (g1 + 1) NT _ :: _)) | have h := (h.f2 : Own _ _ (Hp.blk (g1 + 1) NT _ :: _)) | have h := (h.f3 : Own _ _ (Hp.blk (g1 + 1) NT _ :: _)) | have h := (h.f4 : Own _ _ (Hp.blk (g1 + 1) NT _ :: _)) | have h := (h.f5 : Own _ _ (Hp.blk (g1 + 1) NT _ :: _)) | have h := (h.f6 : Own _ _ (Hp.blk (g1 + 1) NT _ :: _)) | have h := (h.f7 : Own _ _ (Hp.blk (g1 + 1) NT _ :: _)) | have h := (h.f8 : Own _ _ (Hp.blk (g1 + 1) NT _ :: _)) | have h := (h.f9 : Own _ _ (Hp.blk (g1 + 1) NT _ :: _)) | have h := (h.f10 : Own _ _ (Hp.blk (g1 + 1) NT _ :: _)) | have h := (h.f11 : Own _ _ (Hp.blk (g1 + 1) NT _ :: _)) | have h := (h.f12 : Own _ _ (Hp.blk (g1 + 1) NT _ :: _)) | have h := (h.f13 : Own _ _ (Hp.blk (g1 + 1) NT _ :: _)) | have h := (h.f14 : Own _ _ (Hp.blk (g1 + 1) NT _ :: _)) | have h := (h.f15 : Own _ _ (Hp.blk (g1 + 1) NT _ :: _))
            have H8 := Lib.hid h
            clear h H HC4
            go_wp2_with (with_reducible refine at_slot (k := none) ?_; refine wpList_store_whole (o := ⟨none, _, _, _, _, _⟩) (cs := [.bool false, .slice none 0 0, .slice none 0 0, .slice none 0 0]) (vs := [.bool true, .slice A7 ks.length c7, .slice A8 vs.length c8, .slice A4 p.links.length c4]) H8.out rfl (ND_all1 _ _ _ _ rfl rfl rfl) (by kernel_rfl) rfl rfl rfl rfl ?_; intro w9 h)
            refine bodyPost_ret (results_ct rfl rfl h hnt hnr (by kernel_rfl)) rfl ?_
            refine ⟨_, rfl, ?_⟩
            refine Own.toNode (n := ⟨true, ks, vs, p.links⟩) ?_
            have h := h.drop
            first | have h := (h : Own _ _ (Hp.ro S :: _)) | have h := (h.f1 : Own _ _ (Hp.ro S :: _)) | have h := (h.f2 : Own _ _ (Hp.ro S :: _)) | have h := (h.f3 : Own _ _ (Hp.ro S :: _)) | have h := (h.f4 : Own _ _ (Hp.ro S :: _)) | have h := (h.f5 : Own _ _ (Hp.ro S :: _)) | have h := (h.f6 : Own _ _ (Hp.ro S :: _)) | have h := (h.f7 : Own _ _ (Hp.ro S :: _)) | have h := (h.f8 : Own _ _ (Hp.ro S :: _)) | have h := (h.f9 : Own _ _ (Hp.ro S :: _)) | have h := (h.f10 : Own _ _ (Hp.ro S :: _)) | have h := (h.f11 : Own _ _ (Hp.ro S :: _)) | have h := (h.f12 : Own _ _ (Hp.ro S :: _)) | have h := (h.f13 : Own _ _ (Hp.ro S :: _)) | have h := (h.f14 : Own _ _ (Hp.ro S :: _)) | have h := (h.f15 : Own _ _ (Hp.ro S :: _))
            first | have h := (h : Own _ _ (Hp.ints _ _ :: _)) | have h := (h.f1 : Own _ _ (Hp.ints _ _ :: _)) | have h := (h.f2 : Own _ _ (Hp.ints _ _ :: _)) | have h := (h.f3 : Own _ _ (Hp.ints _ _ :: _)) | have h := (h.f4 : Own _ _ (Hp.ints _ _ :: _)) | have h := (h.f5 : Own _ _ (Hp.ints _ _ :: _)) | have h := (h.f6 : Own _ _ (Hp.ints _ _ :: _)) | have h := (h.f7 : Own _ _ (Hp.ints _ _ :: _)) | have h := (h.f8 : Own _ _ (Hp.ints _ _ :: _)) | have h := (h.f9 : Own _ _ (Hp.ints _ _ :: _)) | have h := (h.f10 : Own _ _ (Hp.ints _ _ :: _)) | have h := (h.f11 : Own _ _ (Hp.ints _ _ :: _)) | have h := (h.f12 : Own _ _ (Hp.ints _ _ :: _)) | have h := (h.f13 : Own _ _ (Hp.ints _ _ :: _)) | have h := (h.f14 : Own _ _ (Hp.ints _ _ :: _)) | have h := (h.f15 : Own _ _ (Hp.ints _ _ :: _))
            first | have h := (h : Own _ _ (Hp.strs (.slice A8 vs.length c8) vs :: _)) | have h := (h.f1 : Own _ _ (Hp.strs (.slice A8 vs.length c8) vs :: _)) | have h := (h.f2 : Own _ _ (Hp.strs (.slice A8 vs.length c8) vs :: _)) | have h := (h.f3 : Own _ _ (Hp.strs (.slice A8 vs.length c8) vs :: _)) | have h := (h.f4 : Own _ _ (Hp.strs (.slice A8 vs.length c8) vs :: _)) | have h := (h.f5 : Own _ _ (Hp.strs (.slice A8 vs.length c8) vs :: _)) | have h := (h.f6 : Own _ _ (Hp.strs (.slice A8 vs.length c8) vs :: _)) | have h := (h.f7 : Own _ _ (Hp.strs (.slice A8 vs.length c8) vs :: _)) | have h := (h.f8 : Own _ _ (Hp.strs (.slice A8 vs.length c8) vs :: _)) | have h := (h.f9 : Own _ _ (Hp.strs (.slice A8 vs.length c8) vs :: _)) | have h := (h.f10 : Own _ _ (Hp.strs (.slice A8 vs.length c8) vs :: _)) | have h := (h.f11 : Own _ _ (Hp.strs (.slice A8 vs.length c8) vs :: _)) | have h := (h.f12 : Own _ _ (Hp.strs (.slice A8 vs.length c8) vs :: _)) | have h := (h.f13 : Own _ _ (Hp.strs (.slice A8 vs.length c8) vs :: _)) | have h := (h.f14 : Own _ _ (Hp.strs (.slice A8 vs.length c8) vs :: _)) | have h := (h.f15 : Own _ _ (Hp.strs (.slice A8 vs.length c8) vs :: _))
            first | have h := (h : Own _ _ (Hp.strs (.slice A7 ks.length c7) ks :: _)) | have h := (h.f1 : Own _ _ (Hp.strs (.slice A7 ks.length c7) ks :: _)) | have h := (h.f2 : Own _ _ (Hp.strs (.slice A7 ks.length c7) ks :: _)) | have h := (h.f3 : Own _ _ (Hp.strs (.slice A7 ks.length c7) ks :: _)) | have h := (h.f4 : Own _ _ (Hp.strs (.slice A7 ks.length c7) ks :: _)) | have h := (h.f5 : Own _ _ (Hp.strs (.slice A7 ks.length c7) ks :: _)) | have h := (h.f6 : Own _ _ (Hp.strs (.slice A7 ks.length c7) ks :: _)) | have h := (h.f7 : Own _ _ (Hp.strs (.slice A7 ks.length c7) ks :: _)) | have h := (h.f8 : Own _ _ (Hp.strs (.slice A7 ks.length c7) ks :: _)) | have h := (h.f9 : Own _ _ (Hp.strs (.slice A7 ks.length c7) ks :: _)) | have h := (h.f10 : Own _ _ (Hp.strs (.slice A7 ks.length c7) ks :: _)) | have h := (h.f11 : Own _ _ (Hp.strs (.slice A7 ks.length c7) ks :: _)) | have h := (h.f12 : Own _ _ (Hp.strs (.slice A7 ks.length c7) ks :: _)) | have h := (h.f13 : Own _ _ (Hp.strs (.slice A7 ks.length c7) ks :: _)) | have h := (h.f14 : Own _ _ (Hp.strs (.slice A7 ks.length c7) ks :: _)) | have h := (h.f15 : Own _ _ (Hp.strs (.slice A7 ks.length c7) ks :: _))
            exact h.f4.drop.f4.drop.f4.drop
          · have hbad : p.bad = true := by rw [HB1.out]; simp [hw0]
            generalize Nd.wrong ⟨true, ks, vs, p.links⟩ = wn at *
            obtain rfl : pw = 100 := by rw [← HPW.out]; unfold Pg.wrong; rw [if_pos hbad]
            obtain rfl : pn = Nd.nil := by rw [← HPN.out]; unfold Pg.node; rw [if_pos hbad]
            first | have h := (h : Own _ _ (Hp.blk (g1 + 1) NT _ :: _)) | have h := (h.f1 : Own _ _ (Hp.blk (g1 + 1) NT _ :: _)) | have h := (h.f2 : Own _ _ (Hp.blk (g1 + 1) NT _ :: _)) | have h := (h.f3 : Own _ _ (Hp.blk (g1 + 1) NT _ :: _)) | have h := (h.f4 : Own _ _ (Hp.blk (g1 + 1) NT _ :: _)) | have h := (h.f5 : Own _ _ (Hp.blk (g1 + 1) NT _ :: _)) | have h := (h.f6 : Own _ _ (Hp.blk (g1 + 1) NT _ :: _)) | have h := (h.f7 : Own _ _ (Hp.blk (g1 + 1) NT _ :: _)) | have h := (h.f8 : Own _ _ (Hp.blk (g1 + 1) NT _ :: _)) | have h := (h.f9 : Own _ _ (Hp.blk (g1 + 1) NT _ :: _)) | have h := (h.f10 : Own _ _ (Hp.blk (g1 + 1) NT _ :: _)) | have h := (h.f11 : Own _ _ (Hp.blk (g1 + 1) NT _ :: _)) | have h := (h.f12 : Own _ _ (Hp.blk (g1 + 1) NT _ :: _)) | have h := (h.f13 : Own _ _ (Hp.blk (g1 + 1) NT _ :: _)) | have h := (h.f14 : Own _ _ (Hp.blk (g1 + 1) NT _ :: _)) | have h := (h.f15 : Own _ _ (Hp.blk (g1 + 1) NT _ :: _))
            have H := Lib.hid h
            clear h hbad
            go_wp2_with (with_reducible refine at_slot (k := none) ?_; refine wpList_store_whole (o := ⟨none, _, _, _, _, _⟩) (cs := [.bool false, .slice none 0 0, .slice none 0 0, .slice none 0 0]) (vs := [.bool false, .slice none 0 0, .slice none 0 0, .slice none 0 0]) H.out rfl (ND_all1 _ _ _ _ rfl rfl rfl) (by kernel_rfl) rfl rfl rfl rfl ?_; intro w7 h)
            refine bodyPost_ret (results_ct rfl rfl h hnt hnr (by kernel_rfl)) rfl ?_
            refine ⟨_, rfl, ?_⟩
            have h := h.drop
            first | have h := (h : Own _ _ (Hp.ro (Ph.join a S) :: _)) | have h := (h.f1 : Own _ _ (Hp.ro (Ph.join a S) :: _)) | have h := (h.f2 : Own _ _ (Hp.ro (Ph.join a S) :: _)) | have h := (h.f3 : Own _ _ (Hp.ro (Ph.join a S) :: _)) | have h := (h.f4 : Own _ _ (Hp.ro (Ph.join a S) :: _)) | have h := (h.f5 : Own _ _ (Hp.ro (Ph.join a S) :: _)) | have h := (h.f6 : Own _ _ (Hp.ro (Ph.join a S) :: _)) | have h := (h.f7 : Own _ _ (Hp.ro (Ph.join a S) :: _)) | have h := (h.f8 : Own _ _ (Hp.ro (Ph.join a S) :: _)) | have h := (h.f9 : Own _ _ (Hp.ro (Ph.join a S) :: _)) | have h := (h.f10 : Own _ _ (Hp.ro (Ph.join a S) :: _)) | have h := (h.f11 : Own _ _ (Hp.ro (Ph.join a S) :: _)) | have h := (h.f12 : Own _ _ (Hp.ro (Ph.join a S) :: _)) | have h := (h.f13 : Own _ _ (Hp.ro (Ph.join a S) :: _)) | have h := (h.f14 : Own _ _ (Hp.ro (Ph.join a S) :: _)) | have h := (h.f15 : Own _ _ (Hp.ro (Ph.join a S) :: _))
            have h := (h.part had).drop
            exact (h.f1.drop.f1.drop.f1.drop).nilNode
        · have hk1 : ¬ p.kind = 1 := by simpa using HLF.out
          by_cases hk : p.kind = 2
          · have hbad1 : p.bad = decide (Nd.wrong ⟨false, ks, vs, p.links⟩ ≠ 0) := by rw [HB.out]; simp [hd, hk]
            have HB1 := Lib.hid hbad1
            have H := Lib.hid h
            clear hbad1 h
            go_wp2_with fail
            with_reducible refine (HWR.out _ _ _ (H.out.f1)).mono ?_
            rintro e' w5 ⟨rfl, h⟩
            clear q0 q1 q2 q3 q4 H
            by_cases hw0 : Nd.wrong ⟨false, ks, vs, p.links⟩ = 0
            · have hbad : ¬ p.bad = true := by rw [HB1.out]; simp [hw0]
              rw [hw0]
              obtain rfl : pw = 0 := by rw [← HPW.out]; unfold Pg.wrong; rw [if_neg hbad]
              obtain rfl : pn = ⟨false, ks, vs, p.links⟩ := by rw [← HPN.out]; unfold Pg.node; rw [if_neg hbad]; exact HREAD.out
              first | have h := (h : Own _ _ (Hp.ro (Ph.join a S) :: _)) | have h := (h.f1 : Own _ _ (Hp.ro (Ph.join a S) :: _)) | have h := (h.f2 : Own _ _ (Hp.ro (Ph.join a S) :: _)) | have h := (h.f3 : Own _ _ (Hp.ro (Ph.join a S) :: _)) | have h := (h.f4 : Own _ _ (Hp.ro (Ph.join a S) :: _)) | have h := (h.f5 : Own _ _ (Hp.ro (Ph.join a S) :: _)) | have h := (h.f6 : Own _ _ (Hp.ro (Ph.join a S) :: _)) | have h := (h.f7 : Own _ _ (Hp.ro (Ph.join a S) :: _)) | have h := (h.f8 : Own _ _ (Hp.ro (Ph.join a S) :: _)) | have h := (h.f9 : Own _ _ (Hp.ro (Ph.join a S) :: _)) | have h := (h.f10 : Own _ _ (Hp.ro (Ph.join a S) :: _)) | have h := (h.f11 : Own _ _ (Hp.ro (Ph.join a S) :: _)) | have h := (h.f12 : Own _ _ (Hp.ro (Ph.join a S) :: _)) | have h := (h.f13 : Own _ _ (Hp.ro (Ph.join a S) :: _)) | have h := (h.f14 : Own _ _ (Hp.ro (Ph.join a S) :: _)) | have h := (h.f15 : Own _ _ (Hp.ro (Ph.join a S) :: _))
              have h := Own.give hA.out had h
              obtain ⟨z1, z2, z3, hz, h⟩ := h.ofNode
              simp only [Value.agg.injEq, Array.mk.injEq, List.cons.injEq, and_true, true_and] at hz
              obtain ⟨rfl, rfl, rfl⟩ := hz
              have hcell4 : ∀ w', (∃ L', Own E w' (Hp.blk g4 NT #[.bool false, .slice Ak ks.length ck, .slice Av vs.length cv, .slice A4 p.links.length c4] :: L')) → w'.cell? ⟨g4, 1, none⟩ = some (.slice Ak ks.length ck) ∧ w'.cell? ⟨g4, 2, none⟩ = some (.slice Av vs.length cv) := fun w' hw => by
                obtain ⟨_, hw⟩ := hw
                exact ⟨hw.cell 1, hw.cell 2⟩
              have HC4 := Lib.hid hcell4
              have H := Lib.hid h
              clear h hbad hcell4
              go_wp2_with fail
              have h := H.out.drew
              refine wp_region_text [1, 4] (fun w' => w'.cell? ⟨g4, 1, none⟩ = some (.slice Ak ks.length ck) ∧ w'.cell? ⟨g4, 2, none⟩ = some (.slice Av vs.length cv)) (by kernel_rfl) ?_ (fun hS => ?_)
              · exact HC4.out _ (by first | exact ⟨_, h⟩ | exact ⟨_, h.f1⟩ | exact ⟨_, h.f2⟩ | exact ⟨_, h.f3⟩ | exact ⟨_, h.f4⟩ | exact ⟨_, h.f5⟩ | exact ⟨_, h.f6⟩ | exact ⟨_, h.f7⟩ | exact ⟨_, h.f8⟩ | exact ⟨_, h.f9⟩ | exact ⟨_, h.f10⟩ | exact ⟨_, h.f11⟩ | exact ⟨_, h.f12⟩ | exact ⟨_, h.f13⟩ | exact ⟨_, h.f14⟩ | exact ⟨_, h.f15⟩)
              refine wpAnyG_pure (i := 0) (oi := ⟨some 57, _, _, _, _, _⟩) (v := ?_) rfl (by kernel_rfl) (by kernel_rfl) (by kernel_rfl) (by rfl) (fun _ _ _ h => h) (by rfl) ?_ ?_
              rotate_left
              · intro w
                go_simp
                first | done | with_reducible rfl
              try simp only [Act.put, List.setIfInBounds_toArray, List.set_cons_zero, List.set_cons_succ]
              refine wpAnyG_load (i := 1) (oi := ⟨some 58, _, _, _, _, _⟩) (v := ?_) rfl (by kernel_rfl) (by kernel_rfl) (by kernel_rfl) (by rfl) (fun _ _ _ h => h) (by rfl) ?_ (by assumption) ?_
              rotate_left
              · intro w hS
                try dsimp only at hS
                go_simp
                first | done | with_reducible rfl
              try simp only [Act.put, List.setIfInBounds_toArray, List.set_cons_zero, List.set_cons_succ]
              refine wpAnyG_pure (i := 3) (oi := ⟨some 60, _, _, _, _, _⟩) (v := ?_) rfl (by kernel_rfl) (by kernel_rfl) (by kernel_rfl) (by rfl) (fun _ _ _ h => h) (by rfl) ?_ ?_
              rotate_left
              · intro w
                go_simp
                first | done | with_reducible rfl
              try simp only [Act.put, List.setIfInBounds_toArray, List.set_cons_zero, List.set_cons_succ]
              refine wpAnyG_load (i := 4) (oi := ⟨some 61, _, _, _, _, _⟩) (v := ?_) rfl (by kernel_rfl) (by kernel_rfl) (by kernel_rfl) (by rfl) (fun _ _ _ h => h) (by rfl) ?_ (by assumption) ?_
              rotate_left
              · intro w hS
                try dsimp only at hS
                go_simp
                first | done | with_reducible rfl
              try simp only [Act.put, List.setIfInBounds_toArray, List.set_cons_zero, List.set_cons_succ]
              refine wpAnyG_keep (i := 2) (oi := ⟨some 59, _, _, _, _, _⟩) (by kernel_rfl) rfl (fun K hK => ?_)
              rw [if_pos (by rfl)]
              go_simp
              first | have h := (h : Own _ _ (Hp.strs (.slice Ak ks.length ck) ks :: _)) | have h := (h.f1 : Own _ _ (Hp.strs (.slice Ak ks.length ck) ks :: _)) | have h := (h.f2 : Own _ _ (Hp.strs (.slice Ak ks.length ck) ks :: _)) | have h := (h.f3 : Own _ _ (Hp.strs (.slice Ak ks.length ck) ks :: _)) | have h := (h.f4 : Own _ _ (Hp.strs (.slice Ak ks.length ck) ks :: _)) | have h := (h.f5 : Own _ _ (Hp.strs (.slice Ak ks.length ck) ks :: _)) | have h := (h.f6 : Own _ _ (Hp.strs (.slice Ak ks.length ck) ks :: _)) | have h := (h.f7 : Own _ _ (Hp.strs (.slice Ak ks.length ck) ks :: _)) | have h := (h.f8 : Own _ _ (Hp.strs (.slice Ak ks.length ck) ks :: _)) | have h := (h.f9 : Own _ _ (Hp.strs (.slice Ak ks.length ck) ks :: _)) | have h := (h.f10 : Own _ _ (Hp.strs (.slice Ak ks.length ck) ks :: _)) | have h := (h.f11 : Own _ _ (Hp.strs (.slice Ak ks.length ck) ks :: _)) | have h := (h.f12 : Own _ _ (Hp.strs (.slice Ak ks.length ck) ks :: _)) | have h := (h.f13 : Own _ _ (Hp.strs (.slice Ak ks.length ck) ks :: _)) | have h := (h.f14 : Own _ _ (Hp.strs (.slice Ak ks.length ck) ks :: _)) | have h := (h.f15 : Own _ _ (Hp.strs (.slice Ak ks.length ck) ks :: _))
              refine (clip_str _ _ _ ks _ h).mono ?_
              rintro e w5 ⟨v5, rfl, h⟩
              obtain ⟨A7, c7, rfl, -⟩ := h.lstSlice
              rw [List.length_map] at h ⊢
              refine hK.out _ _ ?_ (fun hS => ?_)
              · exact HC4.out _ (by first | exact ⟨_, h⟩ | exact ⟨_, h.f1⟩ | exact ⟨_, h.f2⟩ | exact ⟨_, h.f3⟩ | exact ⟨_, h.f4⟩ | exact ⟨_, h.f5⟩ | exact ⟨_, h.f6⟩ | exact ⟨_, h.f7⟩ | exact ⟨_, h.f8⟩ | exact ⟨_, h.f9⟩ | exact ⟨_, h.f10⟩ | exact ⟨_, h.f11⟩ | exact ⟨_, h.f12⟩ | exact ⟨_, h.f13⟩ | exact ⟨_, h.f14⟩ | exact ⟨_, h.f15⟩)
              clear hK K
              try simp only [Act.put, List.setIfInBounds_toArray, List.set_cons_zero, List.set_cons_succ]
              refine wpAnyG_pure (i := 6) (oi := ⟨some 63, _, _, _, _, _⟩) (v := ?_) rfl (by kernel_rfl) (by kernel_rfl) (by kernel_rfl) (by rfl) (fun _ _ _ h => h) (by rfl) ?_ ?_
              rotate_left
              · intro w
                go_simp
                first | done | with_reducible rfl
              try simp only [Act.put, List.setIfInBounds_toArray, List.set_cons_zero, List.set_cons_succ]
              refine wpAnyG_keep (i := 5) (oi := ⟨some 62, _, _, _, _, _⟩) (by kernel_rfl) rfl (fun K hK => ?_)
              rw [if_pos (by rfl)]
              go_simp
              first | have h := (h : Own _ _ (Hp.strs (.slice Av vs.length cv) vs :: _)) | have h := (h.f1 : Own _ _ (Hp.strs (.slice Av vs.length cv) vs :: _)) | have h := (h.f2 : Own _ _ (Hp.strs (.slice Av vs.length cv) vs :: _)) | have h := (h.f3 : Own _ _ (Hp.strs (.slice Av vs.length cv) vs :: _)) | have h := (h.f4 : Own _ _ (Hp.strs (.slice Av vs.length cv) vs :: _)) | have h := (h.f5 : Own _ _ (Hp.strs (.slice Av vs.length cv) vs :: _)) | have h := (h.f6 : Own _ _ (Hp.strs (.slice Av vs.length cv) vs :: _)) | have h := (h.f7 : Own _ _ (Hp.strs (.slice Av vs.length cv) vs :: _)) | have h := (h.f8 : Own _ _ (Hp.strs (.slice Av vs.length cv) vs :: _)) | have h := (h.f9 : Own _ _ (Hp.strs (.slice Av vs.length cv) vs :: _)) | have h := (h.f10 : Own _ _ (Hp.strs (.slice Av vs.length cv) vs :: _)) | have h := (h.f11 : Own _ _ (Hp.strs (.slice Av vs.length cv) vs :: _)) | have h := (h.f12 : Own _ _ (Hp.strs (.slice Av vs.length cv) vs :: _)) | have h := (h.f13 : Own _ _ (Hp.strs (.slice Av vs.length cv) vs :: _)) | have h := (h.f14 : Own _ _ (Hp.strs (.slice Av vs.length cv) vs :: _)) | have h := (h.f15 : Own _ _ (Hp.strs (.slice Av vs.length cv) vs :: _))
              refine (clip_str _ _ _ vs _ h).mono ?_
              rintro e w6 ⟨v6, rfl, h⟩
              obtain ⟨A8, c8, rfl, -⟩ := h.lstSlice
              rw [List.length_map] at h ⊢
              refine hK.out _ _ ?_ (fun hS => ?_)
              · exact HC4.out _ (by first | exact ⟨_, h⟩ | exact ⟨_, h.f1⟩ | exact ⟨_, h.f2⟩ | exact ⟨_, h.f3⟩ | exact ⟨_, h.f4⟩ | exact ⟨_, h.f5⟩ | exact ⟨_, h.f6⟩ | exact ⟨_, h.f7⟩ | exact ⟨_, h.f8⟩ | exact ⟨_, h.f9⟩ | exact ⟨_, h.f10⟩ | exact ⟨_, h.f11⟩ | exact ⟨_, h.f12⟩ | exact ⟨_, h.f13⟩ | exact ⟨_, h.f14⟩ | exact ⟨_, h.f15⟩)
              clear hK K
              try simp only [Act.put, List.setIfInBounds_toArray, List.set_cons_zero, List.set_cons_succ]
              refine wpAnyG_break (i := 7) (oi := ⟨none, _, _, _, _, _⟩) (by kernel_rfl) rfl (by kernel_rfl) (fun K hK => ?_)
              rw [if_pos (by rfl)]
              first | have h := (h : Own _ _ (Hp.blk g4 NT _ :: _)) | have h := (h.f1 : Own _ _ (Hp.blk g4 NT _ :: _)) | have h := (h.f2 : Own _ _ (Hp.blk g4 NT _ :: _)) | have h := (h.f3 : Own _ _ (Hp.blk g4 NT _ :: _)) | have h := (h.f4 : Own _ _ (Hp.blk g4 NT _ :: _)) | have h := (h.f5 : Own _ _ (Hp.blk g4 NT _ :: _)) | have h := (h.f6 : Own _ _ (Hp.blk g4 NT _ :: _)) | have h := (h.f7 : Own _ _ (Hp.blk g4 NT _ :: _)) | have h := (h.f8 : Own _ _ (Hp.blk g4 NT _ :: _)) | have h := (h.f9 : Own _ _ (Hp.blk g4 NT _ :: _)) | have h := (h.f10 : Own _ _ (Hp.blk g4 NT _ :: _)) | have h := (h.f11 : Own _ _ (Hp.blk g4 NT _ :: _)) | have h := (h.f12 : Own _ _ (Hp.blk g4 NT _ :: _)) | have h := (h.f13 : Own _ _ (Hp.blk g4 NT _ :: _)) | have h := (h.f14 : Own _ _ (Hp.blk g4 NT _ :: _)) | have h := (h.f15 : Own _ _ (Hp.blk g4 NT _ :: _))
              have f5 := h.cell 1
              have f6 := h.frozen 1
              have h := h.set 1 (.slice A7 ks.length c7)
              go_simp
              refine hK.out _ _ ?_
              clear hK K
              try simp only [Act.put]
              refine wpAnyG_pure (i := 8) (oi := ⟨some 64, _, _, _, _, _⟩) (v := ?_) rfl (by kernel_rfl) (by kernel_rfl) (by kernel_rfl) (by rfl) (fun _ _ _ h => h) (by rfl) ?_ ?_
              rotate_left
              · intro w
                go_simp
                first | done | with_reducible rfl
              try simp only [Act.put, List.setIfInBounds_toArray, List.set_cons_zero, List.set_cons_succ]
              refine wpAnyG_break (i := 9) (oi := ⟨none, _, _, _, _, _⟩) (by kernel_rfl) rfl (by kernel_rfl) (fun K hK => ?_)
              rw [if_pos (by rfl)]
              have f7 := h.cell 2
              have f8 := h.frozen 2
              have h := h.set 2 (.slice A8 vs.length c8)
              go_simp
              refine hK.out _ _ ?_
              clear hK K
              try simp only [Act.put]
              refine wpAnyG_done (by kernel_rfl) ?_ _
              refine NoPanic.normal ?_
              have h : Own E _ (Hp.blk g4 NT #[.bool false, .slice A7 ks.length c7, .slice A8 vs.length c8, .slice A4 p.links.length c4] :: _) := h
              generalize World.setCell _ _ _ = w8 at h ⊢
              have q0 := h.cell 0
              have q1 := h.cell 1
              have q2 := h.cell 2
              have q3 := h.cell 3
              first | have h := (h : Own _ _ (Hp.blk (g1 + 1) NT _ :: _)) | have h := (h.f1 : Own _ _ (Hp.blk (g1 + 1) NT _ :: _)) | have h := (h.f2 : Own _ _ (Hp.blk (g1 + 1) NT _ :: _)) | have h := (h.f3 : Own _ _ (Hp.blk (g1 + 1) NT _ :: _)) | have h := (h.f4 : Own _ _ (Hp.blk (g1 + 1) NT _ :: _)) | have h := (h.f5 : Own _ _ (Hp.blk (g1 + 1) NT _ :: _)) | have h := (h.f6 : Own _ _ (Hp.blk (g1 + 1) NT _ :: _)) | have h := (h.f7 : Own _ _ (Hp.blk (g1 + 1) NT _ :: _)) | have h := (h.f8 : Own _ _ (Hp.blk (g1 + 1) NT _ :: _)) | have h := (h.f9 : Own _ _ (Hp.blk (g1 + 1) NT _ :: _)) | have h := (h.f10 : Own _ _ (Hp.blk (g1 + 1) NT _ :: _)) | have h := (h.f11 : Own _ _ (Hp.blk (g1 + 1) NT _ :: _)) | have h := (h.f12 : Own _ _ (Hp.blk (g1 + 1) NT _ :: _)) | have h := (h.f13 : Own _ _ (Hp.blk (g1 + 1) NT _ :: _)) | have h := (h.f14 : Own _ _ (Hp.blk (g1 + 1) NT _ :: _)) | have h := (h.f15 : Own _ _ (Hp.blk (g1 + 1) NT _ :: _))
              have H8 := Lib.hid h
              clear h H HC4
              go_wp2_with (with_reducible refine at_slot (k := none) ?_; refine wpList_store_whole (o := ⟨none, _, _, _, _, _⟩) (cs := [.bool false, .slice none 0 0, .slice none 0 0, .slice none 0 0]) (vs := [.bool false, .slice A7 ks.length c7, .slice A8 vs.length c8, .slice A4 p.links.length c4]) H8.out rfl (ND_all1 _ _ _ _ rfl rfl rfl) (by kernel_rfl) rfl rfl rfl rfl ?_; intro w9 h)
              refine bodyPost_ret (results_ct rfl rfl h hnt hnr (by kernel_rfl)) rfl ?_
              refine ⟨_, rfl, ?_⟩
              refine Own.toNode (n := ⟨false, ks, vs, p.links⟩) ?_
              have h := h.drop
              first | have h := (h : Own _ _ (Hp.ro S :: _)) | have h := (h.f1 : Own _ _ (Hp.ro S :: _)) | have h := (h.f2 : Own _ _ (Hp.ro S :: _)) | have h := (h.f3 : Own _ _ (Hp.ro S :: _)) | have h := (h.f4 : Own _ _ (Hp.ro S :: _)) | have h := (h.f5 : Own _ _ (Hp.ro S :: _)) | have h := (h.f6 : Own _ _ (Hp.ro S :: _)) | have h := (h.f7 : Own _ _ (Hp.ro S :: _)) | have h := (h.f8 : Own _ _ (Hp.ro S :: _)) | have h := (h.f9 : Own _ _ (Hp.ro S :: _)) | have h := (h.f10 : Own _ _ (Hp.ro S :: _)) | have h := (h.f11 : Own _ _ (Hp.ro S :: _)) | have h := (h.f12 : Own _ _ (Hp.ro S :: _)) | have h := (h.f13 : Own _ _ (Hp.ro S :: _)) | have h := (h.f14 : Own _ _ (Hp.ro S :: _)) | have h := (h.f15 : Own _ _ (Hp.ro S :: _))
              first | have h := (h : Own _ _ (Hp.ints _ _ :: _)) | have h := (h.f1 : Own _ _ (Hp.ints _ _ :: _)) | have h := (h.f2 : Own _ _ (Hp.ints _ _ :: _)) | have h := (h.f3 : Own _ _ (Hp.ints _ _ :: _)) | have h := (h.f4 : Own _ _ (Hp.ints _ _ :: _)) | have h := (h.f5 : Own _ _ (Hp.ints _ _ :: _)) | have h := (h.f6 : Own _ _ (Hp.ints _ _ :: _)) | have h := (h.f7 : Own _ _ (Hp.ints _ _ :: _)) | have h := (h.f8 : Own _ _ (Hp.ints _ _ :: _)) | have h := (h.f9 : Own _ _ (Hp.ints _ _ :: _)) | have h := (h.f10 : Own _ _ (Hp.ints _ _ :: _)) | have h := (h.f11 : Own _ _ (Hp.ints _ _ :: _)) | have h := (h.f12 : Own _ _ (Hp.ints _ _ :: _)) | have h := (h.f13 : Own _ _ (Hp.ints _ _ :: _)) | have h := (h.f14 : Own _ _ (Hp.ints _ _ :: _)) | have h := (h.f15 : Own _ _ (Hp.ints _ _ :: _))
              first | have h := (h : Own _ _ (Hp.strs (.slice A8 vs.length c8) vs :: _)) | have h := (h.f1 : Own _ _ (Hp.strs (.slice A8 vs.length c8) vs :: _)) | have h := (h.f2 : Own _ _ (Hp.strs (.slice A8 vs.length c8) vs :: _)) | have h := (h.f3 : Own _ _ (Hp.strs (.slice A8 vs.length c8) vs :: _)) | have h := (h.f4 : Own _ _ (Hp.strs (.slice A8 vs.length c8) vs :: _)) | have h := (h.f5 : Own _ _ (Hp.strs (.slice A8 vs.length c8) vs :: _)) | have h := (h.f6 : Own _ _ (Hp.strs (.slice A8 vs.length c8) vs :: _)) | have h := (h.f7 : Own _ _ (Hp.strs (.slice A8 vs.length c8) vs :: _)) | have h := (h.f8 : Own _ _ (Hp.strs (.slice A8 vs.length c8) vs :: _)) | have h := (h.f9 : Own _ _ (Hp.strs (.slice A8 vs.length c8) vs :: _)) | have h := (h.f10 : Own _ _ (Hp.strs (.slice A8 vs.length c8) vs :: _)) | have h := (h.f11 : Own _ _ (Hp.strs (.slice A8 vs.length c8) vs :: _)) | have h := (h.f12 : Own _ _ (Hp.strs (.slice A8 vs.length c8) vs :: _)) | have h := (h.f13 : Own _ _ (Hp.strs (.slice A8 vs.length c8) vs :: _)) | have h := (h.f14 : Own _ _ (Hp.strs (.slice A8 vs.length c8) vs :: _)) | have h := (h.f15 : Own _ _ (Hp.strs (.slice A8 vs.length c8) vs :: _))
              first | have h := (h : Own _ _ (Hp.strs (.slice A7 ks.length c7) ks :: _)) | have h := (h.f1 : Own _ _ (Hp.strs (.slice A7 ks.length c7) ks :: _)) | have h := (h.f2 : Own _ _ (Hp.strs (.slice A7 ks.length c7) ks :: _)) | have h := (h.f3 : Own _ _ (Hp.strs (.slice A7 ks.length c7) ks :: _)) | have h := (h.f4 : Own _ _ (Hp.strs (.slice A7 ks.length c7) ks :: _)) | have h := (h.f5 : Own _ _ (Hp.strs (.slice A7 ks.length c7) ks :: _)) | have h := (h.f6 : Own _ _ (Hp.strs (.slice A7 ks.length c7) ks :: _)) | have h := (h.f7 : Own _ _ (Hp.strs (.slice A7 ks.length c7) ks :: _)) | have h := (h.f8 : Own _ _ (Hp.strs (.slice A7 ks.length c7) ks :: _)) | have h := (h.f9 : Own _ _ (Hp.strs (.slice A7 ks.length c7) ks :: _)) | have h := (h.f10 : Own _ _ (Hp.strs (.slice A7 ks.length c7) ks :: _)) | have h := (h.f11 : Own _ _ (Hp.strs (.slice A7 ks.length c7) ks :: _)) | have h := (h.f12 : Own _ _ (Hp.strs (.slice A7 ks.length c7) ks :: _)) | have h := (h.f13 : Own _ _ (Hp.strs (.slice A7 ks.length c7) ks :: _)) | have h := (h.f14 : Own _ _ (Hp.strs (.slice A7 ks.length c7) ks :: _)) | have h := (h.f15 : Own _ _ (Hp.strs (.slice A7 ks.length c7) ks :: _))
              exact h.f4.drop.f4.drop.f4.drop
            · have hbad : p.bad = true := by rw [HB1.out]; simp [hw0]
              generalize Nd.wrong ⟨false, ks, vs, p.links⟩ = wn at *
              obtain rfl : pw = 100 := by rw [← HPW.out]; unfold Pg.wrong; rw [if_pos hbad]
              obtain rfl : pn = Nd.nil := by rw [← HPN.out]; unfold Pg.node; rw [if_pos hbad]
              first | have h := (h : Own _ _ (Hp.blk (g1 + 1) NT _ :: _)) | have h := (h.f1 : Own _ _ (Hp.blk (g1 + 1) NT _ :: _)) | have h := (h.f2 : Own _ _ (Hp.blk (g1 + 1) NT _ :: _)) | have h := (h.f3 : Own _ _ (Hp.blk (g1 + 1) NT _ :: _)) | have h := (h.f4 : Own _ _ (Hp.blk (g1 + 1) NT _ :: _)) | have h := (h.f5 : Own _ _ (Hp.blk (g1 + 1) NT _ :: _)) | have h := (h.f6 : Own _ _ (Hp.blk (g1 + 1) NT _ :: _)) | have h := (h.f7 : Own _ _ (Hp.blk (g1 + 1) NT _ :: _)) | have h := (h.f8 : Own _ _ (Hp.blk (g1 + 1) NT _ :: _)) | have h := (h.f9 : Own _ _ (Hp.blk (g1 + 1) NT _ :: _)) | have h := (h.f10 : Own _ _ (Hp.blk (g1 + 1) NT _ :: _)) | have h := (h.f11 : Own _ _ (Hp.blk (g1 + 1) NT _ :: _)) | have h := (h.f12 : Own _ _ (Hp.blk (g1 + 1) NT _ :: _)) | have h := (h.f13 : Own _ _ (Hp.blk (g1 + 1) NT _ :: _)) | have h := (h.f14 : Own _ _ (Hp.blk (g1 + 1) NT _ :: _)) | have h := (h.f15 : Own _ _ (Hp.blk (g1 + 1) NT _ :: _))
              have H := Lib.hid h
              clear h hbad
              go_wp2_with (with_reducible refine at_slot (k := none) ?_; refine wpList_store_whole (o := ⟨none, _, _, _, _, _⟩) (cs := [.bool false, .slice none 0 0, .slice none 0 0, .slice none 0 0]) (vs := [.bool false, .slice none 0 0, .slice none 0 0, .slice none 0 0]) H.out rfl (ND_all1 _ _ _ _ rfl rfl rfl) (by kernel_rfl) rfl rfl rfl rfl ?_; intro w7 h)
              refine bodyPost_ret (results_ct rfl rfl h hnt hnr (by kernel_rfl)) rfl ?_
              refine ⟨_, rfl, ?_⟩
              have h := h.drop
              first | have h := (h : Own _ _ (Hp.ro (Ph.join a S) :: _)) | have h := (h.f1 : Own _ _ (Hp.ro (Ph.join a S) :: _)) | have h := (h.f2 : Own _ _ (Hp.ro (Ph.join a S) :: _)) | have h := (h.f3 : Own _ _ (Hp.ro (Ph.join a S) :: _)) | have h := (h.f4 : Own _ _ (Hp.ro (Ph.join a S) :: _)) | have h := (h.f5 : Own _ _ (Hp.ro (Ph.join a S) :: _)) | have h := (h.f6 : Own _ _ (Hp.ro (Ph.join a S) :: _)) | have h := (h.f7 : Own _ _ (Hp.ro (Ph.join a S) :: _)) | have h := (h.f8 : Own _ _ (Hp.ro (Ph.join a S) :: _)) | have h := (h.f9 : Own _ _ (Hp.ro (Ph.join a S) :: _)) | have h := (h.f10 : Own _ _ (Hp.ro (Ph.join a S) :: _)) | have h := (h.f11 : Own _ _ (Hp.ro (Ph.join a S) :: _)) | have h := (h.f12 : Own _ _ (Hp.ro (Ph.join a S) :: _)) | have h := (h.f13 : Own _ _ (Hp.ro (Ph.join a S) :: _)) | have h := (h.f14 : Own _ _ (Hp.ro (Ph.join a S) :: _)) | have h := (h.f15 : Own _ _ (Hp.ro (Ph.join a S) :: _))
              have h := (h.part had).drop
              exact (h.f1.drop.f1.drop.f1.drop).nilNode
          · have hbad : p.bad = true := by rw [HB.out]; simp [hk, hk1]
            clear hk1
            obtain rfl : pw = 100 := by rw [← HPW.out]; unfold Pg.wrong; rw [if_pos hbad]
            obtain rfl : pn = Nd.nil := by rw [← HPN.out]; unfold Pg.node; rw [if_pos hbad]
            first | have h := (h : Own _ _ (Hp.blk (g1 + 1) NT _ :: _)) | have h := (h.f1 : Own _ _ (Hp.blk (g1 + 1) NT _ :: _)) | have h := (h.f2 : Own _ _ (Hp.blk (g1 + 1) NT _ :: _)) | have h := (h.f3 : Own _ _ (Hp.blk (g1 + 1) NT _ :: _)) | have h := (h.f4 : Own _ _ (Hp.blk (g1 + 1) NT _ :: _)) | have h := (h.f5 : Own _ _ (Hp.blk (g1 + 1) NT _ :: _)) | have h := (h.f6 : Own _ _ (Hp.blk (g1 + 1) NT _ :: _)) | have h := (h.f7 : Own _ _ (Hp.blk (g1 + 1) NT _ :: _)) | have h := (h.f8 : Own _ _ (Hp.blk (g1 + 1) NT _ :: _)) | have h := (h.f9 : Own _ _ (Hp.blk (g1 + 1) NT _ :: _)) | have h := (h.f10 : Own _ _ (Hp.blk (g1 + 1) NT _ :: _)) | have h := (h.f11 : Own _ _ (Hp.blk (g1 + 1) NT _ :: _)) | have h := (h.f12 : Own _ _ (Hp.blk (g1 + 1) NT _ :: _)) | have h := (h.f13 : Own _ _ (Hp.blk (g1 + 1) NT _ :: _)) | have h := (h.f14 : Own _ _ (Hp.blk (g1 + 1) NT _ :: _)) | have h := (h.f15 : Own _ _ (Hp.blk (g1 + 1) NT _ :: _))
            have H := Lib.hid h
            clear h hbad
            go_wp2_with (with_reducible refine at_slot (k := none) ?_; refine wpList_store_whole (o := ⟨none, _, _, _, _, _⟩) (cs := [.bool false, .slice none 0 0, .slice none 0 0, .slice none 0 0]) (vs := [.bool false, .slice none 0 0, .slice none 0 0, .slice none 0 0]) H.out rfl (ND_all1 _ _ _ _ rfl rfl rfl) (by kernel_rfl) rfl rfl rfl rfl ?_; intro w7 h)
            refine bodyPost_ret (results_ct rfl rfl h hnt hnr (by kernel_rfl)) rfl ?_
            refine ⟨_, rfl, ?_⟩
            have h := h.drop
            first | have h := (h : Own _ _ (Hp.ro (Ph.join a S) :: _)) | have h := (h.f1 : Own _ _ (Hp.ro (Ph.join a S) :: _)) | have h := (h.f2 : Own _ _ (Hp.ro (Ph.join a S) :: _)) | have h := (h.f3 : Own _ _ (Hp.ro (Ph.join a S) :: _)) | have h := (h.f4 : Own _ _ (Hp.ro (Ph.join a S) :: _)) | have h := (h.f5 : Own _ _ (Hp.ro (Ph.join a S) :: _)) | have h := (h.f6 : Own _ _ (Hp.ro (Ph.join a S) :: _)) | have h := (h.f7 : Own _ _ (Hp.ro (Ph.join a S) :: _)) | have h := (h.f8 : Own _ _ (Hp.ro (Ph.join a S) :: _)) | have h := (h.f9 : Own _ _ (Hp.ro (Ph.join a S) :: _)) | have h := (h.f10 : Own _ _ (Hp.ro (Ph.join a S) :: _)) | have h := (h.f11 : Own _ _ (Hp.ro (Ph.join a S) :: _)) | have h := (h.f12 : Own _ _ (Hp.ro (Ph.join a S) :: _)) | have h := (h.f13 : Own _ _ (Hp.ro (Ph.join a S) :: _)) | have h := (h.f14 : Own _ _ (Hp.ro (Ph.join a S) :: _)) | have h := (h.f15 : Own _ _ (Hp.ro (Ph.join a S) :: _))
            have h := (h.part had).drop
            exact (h.f1.drop.f1.drop.f1.drop).nilNode
      · have hbad : p.bad = true := by rw [HB.out]; simp [hd]
        obtain rfl : pw = 100 := by rw [← HPW.out]; unfold Pg.wrong; rw [if_pos hbad]
        obtain rfl : pn = Nd.nil := by rw [← HPN.out]; unfold Pg.node; rw [if_pos hbad]
        first | have h := (h : Own _ _ (Hp.blk (g1 + 1) NT _ :: _)) | have h := (h.f1 : Own _ _ (Hp.blk (g1 + 1) NT _ :: _)) | have h := (h.f2 : Own _ _ (Hp.blk (g1 + 1) NT _ :: _)) | have h := (h.f3 : Own _ _ (Hp.blk (g1 + 1) NT _ :: _)) | have h := (h.f4 : Own _ _ (Hp.blk (g1 + 1) NT _ :: _)) | have h := (h.f5 : Own _ _ (Hp.blk (g1 + 1) NT _ :: _)) | have h := (h.f6 : Own _ _ (Hp.blk (g1 + 1) NT _ :: _)) | have h := (h.f7 : Own _ _ (Hp.blk (g1 + 1) NT _ :: _)) | have h := (h.f8 : Own _ _ (Hp.blk (g1 + 1) NT _ :: _)) | have h := (h.f9 : Own _ _ (Hp.blk (g1 + 1) NT _ :: _)) | have h := (h.f10 : Own _ _ (Hp.blk (g1 + 1) NT _ :: _)) | have h := (h.f11 : Own _ _ (Hp.blk (g1 + 1) NT _ :: _)) | have h := (h.f12 : Own _ _ (Hp.blk (g1 + 1) NT _ :: _)) | have h := (h.f13 : Own _ _ (Hp.blk (g1 + 1) NT _ :: _)) | have h := (h.f14 : Own _ _ (Hp.blk (g1 + 1) NT _ :: _)) | have h := (h.f15 : Own _ _ (Hp.blk (g1 + 1) NT _ :: _))
        have H := Lib.hid h
        clear h hbad
        go_wp2_with (with_reducible refine at_slot (k := none) ?_; refine wpList_store_whole (o := ⟨none, _, _, _, _, _⟩) (cs := [.bool false, .slice none 0 0, .slice none 0 0, .slice none 0 0]) (vs := [.bool false, .slice none 0 0, .slice none 0 0, .slice none 0 0]) H.out rfl (ND_all1 _ _ _ _ rfl rfl rfl) (by kernel_rfl) rfl rfl rfl rfl ?_; intro w7 h)
        refine bodyPost_ret (results_ct rfl rfl h hnt hnr (by kernel_rfl)) rfl ?_
        refine ⟨_, rfl, ?_⟩
        have h := h.drop
        first | have h := (h : Own _ _ (Hp.ro (Ph.join a S) :: _)) | have h := (h.f1 : Own _ _ (Hp.ro (Ph.join a S) :: _)) | have h := (h.f2 : Own _ _ (Hp.ro (Ph.join a S) :: _)) | have h := (h.f3 : Own _ _ (Hp.ro (Ph.join a S) :: _)) | have h := (h.f4 : Own _ _ (Hp.ro (Ph.join a S) :: _)) | have h := (h.f5 : Own _ _ (Hp.ro (Ph.join a S) :: _)) | have h := (h.f6 : Own _ _ (Hp.ro (Ph.join a S) :: _)) | have h := (h.f7 : Own _ _ (Hp.ro (Ph.join a S) :: _)) | have h := (h.f8 : Own _ _ (Hp.ro (Ph.join a S) :: _)) | have h := (h.f9 : Own _ _ (Hp.ro (Ph.join a S) :: _)) | have h := (h.f10 : Own _ _ (Hp.ro (Ph.join a S) :: _)) | have h := (h.f11 : Own _ _ (Hp.ro (Ph.join a S) :: _)) | have h := (h.f12 : Own _ _ (Hp.ro (Ph.join a S) :: _)) | have h := (h.f13 : Own _ _ (Hp.ro (Ph.join a S) :: _)) | have h := (h.f14 : Own _ _ (Hp.ro (Ph.join a S) :: _)) | have h := (h.f15 : Own _ _ (Hp.ro (Ph.join a S) :: _))
        have h := (h.part had).drop
        exact (h.f1.drop.f1.drop.f1.drop).nilNode
end
end Go.Proofs.YtbclmmneiphcaaaDoor
