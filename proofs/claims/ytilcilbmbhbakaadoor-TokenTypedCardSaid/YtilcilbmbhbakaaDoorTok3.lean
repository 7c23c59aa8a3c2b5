/- token.read and token.Parse. -/
import Derived.Test.YtilcilbmbhbakaaDoorTok2
import Derived.Test.YtilcilbmbhbakaaDoorLaid
import Derived.Test.YtilcilbmbhbakaaDoorIs
import Derived.Test.YtilcilbmbhbakaaDoorFilled
import Derived.OwnWalk
namespace Go.Proofs.YtilcilbmbhbakaaDoor
open Go.RowKit
abbrev FT : TypeId := 56
abbrev PFT : TypeId := 54
abbrev faultV (f : Nat) : Value := .iface PFT (.pointer (some ⟨f, 0, none⟩))
instance begins_dec (s p : ByteArray) : Decidable (begins s p) := inferInstanceAs (Decidable (_ ∧ _))
/-- What is read of a text of a kind: the ID, the secret, the number of what is wrong. -/
def readT (k : Int) (s : ByteArray) : Int × ByteArray × Int :=
  if begins s (pfx (3 - k)) then (0, ⟨#[]⟩, 170)
  else if s.size ≠ 52 ∨ ¬ begins s (pfx k) then (0, ⟨#[]⟩, 171)
  else match fromS namesB.data.toList (s.data.toList.drop 4) with
    | none => (0, ⟨#[]⟩, 171)
    | some b =>
      if numL (b.take 8) < 1 ∨ 4611686018427387904 < numL (b.take 8) then (0, ⟨#[]⟩, 171)
      else if b = laidT k (numL (b.take 8)) ((b.drop 8).take 24) then ((numL (b.take 8) : Nat), ⟨((b.drop 8).take 24).toArray⟩, 0) else (0, ⟨#[]⟩, 172)
/-- What read answers: an ID and a secret, or a fault about a sentinel. -/
def ReadSaid (E : World) (L : List Hp) (k : Int) (a0 a1 a2 : Addr) (r : Int × ByteArray × Int) (ev : Ending) (w' : World) : Prop :=
  (r.2.2 = 0 ∧ ev = .returned (.tuple #[.int .i64 r.1, .string r.2.1, .nilIface]) ∧ Own E w' L) ∨
  (∃ (f : Nat) (a : Addr), ((r.2.2 = 170 ∧ a = a0) ∨ (r.2.2 = 171 ∧ a = a1) ∨ (r.2.2 = 172 ∧ a = a2)) ∧ ev = .returned (.tuple #[.int .i64 0, .string ⟨#[]⟩, faultV f]) ∧ Own E w' (Hp.blk f FT #[.int .i64 k, sentV a] :: L))
section
variable {E : World} {L : List Hp}
set_option maxRecDepth 100000 in
set_option maxHeartbeats 4000000 in
theorem read_any (k : Int) (s : ByteArray) (a0 a1 a2 : Addr) (w : World) (hk : k = 1 ∨ k = 2) (hG : Sent E L a0 a1 a2) (h : Own E w L) :
    Calls Tryd.prog 19 #[.int .i64 k, .string s] w fun ev w' => ReadSaid E L k a0 a1 a2 (readT k s) ev w' := by
  have hw3 : IntKind.i64.wrap (3 - k) = 3 - k := IntWalk.i64_in _ (by omega)
  have H := Lib.hid h
  have hp4 := pfx_four k (by omega)
  by_cases ho : begins s (pfx (3 - k))
  · have er : readT k s = (0, ⟨#[]⟩, 170) := by unfold readT; rw [if_pos ho]
    rw [er]
    have HF : Hid (∀ w' f, Own E w' (Hp.blk f FT #[.int .i64 k, sentV a0] :: L) → ReadSaid E L k a0 a1 a2 (0, ⟨#[]⟩, 170) (.returned (.tuple #[.int .i64 0, .string ⟨#[]⟩, faultV f])) w') := Lib.hid fun w' f hq => .inr ⟨f, a0, .inl ⟨rfl, rfl⟩, rfl, hq⟩
    have HO := Lib.hid ho
    clear er ho h
    go_enter Tryd.func19, Tryd.ntmps19
    go_wp2_with fail
    refine (prefix_any k _).mono ?_
    rintro e w1 ⟨rfl, rfl⟩
    go_wp2_with fail
    refine (cutprefix_any s (pfx k) _).mono ?_
    rintro e w1 ⟨rfl, hcut⟩
    obtain ⟨v, bb, rfl⟩ : ∃ v bb, e = .returned (.tuple #[.string v, .bool bb]) := by
      rcases hcut with ⟨-, rfl⟩ | ⟨-, rfl⟩
      · exact ⟨_, _, rfl⟩
      · exact ⟨_, _, rfl⟩
    clear hcut
    go_wp2_with fail
    refine (prefix_any (3 - k) _).mono ?_
    rintro e w1 ⟨rfl, rfl⟩
    go_wp2_with fail
    refine (hasprefix_any s (pfx (3 - k)) _).mono ?_
    rintro e w1 ⟨rfl, hhas⟩
    obtain rfl : e = .returned (.bool true) := by
      rcases hhas with ⟨hb, rfl⟩ | ⟨hb, rfl⟩
      · exact rfl
      · exact absurd HO.out hb
    clear hhas
    go_wp2_with fail
    refine wp_region_text [1] (fun w' => w'.cell? ⟨0, 0, none⟩ = some (sentV a0)) (by kernel_rfl) ?_ (fun hS => ?_)
    · exact (hG.2 _ H.out.drew).1.1
    refine wpAnyG_pure (i := 0) (oi := ⟨some 26, _, _, _, _, _⟩) (v := ?_) rfl (by kernel_rfl) (by kernel_rfl) (by kernel_rfl) (by rfl) (fun _ _ _ h => h) (by rfl) ?_ ?_
    rotate_left
    · intro w
      go_simp
      first | done | with_reducible rfl
    try simp only [Act.put, List.setIfInBounds_toArray, List.set_cons_zero, List.set_cons_succ]
    refine wpAnyG_load (i := 1) (oi := ⟨some 27, _, _, _, _, _⟩) (v := ?_) rfl (by kernel_rfl) (by kernel_rfl) (by kernel_rfl) (by rfl) (fun _ _ _ h => h) (by rfl) ?_ (by assumption) ?_
    rotate_left
    · intro w hS
      try dsimp only at hS
      go_simp
      first | done | with_reducible rfl
    try simp only [Act.put, List.setIfInBounds_toArray, List.set_cons_zero, List.set_cons_succ]
    refine wpAnyG_pure (i := 2) (oi := ⟨some 28, _, _, _, _, _⟩) (v := ?_) rfl (by kernel_rfl) (by kernel_rfl) (by kernel_rfl) (by rfl) (fun _ _ _ h => h) (by rfl) ?_ ?_
    rotate_left
    · intro w
      go_simp
      first | done | with_reducible rfl
    try simp only [Act.put, List.setIfInBounds_toArray, List.set_cons_zero, List.set_cons_succ]
    refine wpAnyG_pure (i := 5) (oi := ⟨some 4, _, _, _, _, _⟩) (v := ?_) rfl (by kernel_rfl) (by kernel_rfl) (by kernel_rfl) (by rfl) (fun _ _ _ h => h) (by rfl) ?_ ?_
    rotate_left
    · intro w
      go_simp
      first | done | with_reducible rfl
    try simp only [Act.put, List.setIfInBounds_toArray, List.set_cons_zero, List.set_cons_succ]
    refine wpAnyG_pure (i := 6) (oi := ⟨some 5, _, _, _, _, _⟩) (v := ?_) rfl (by kernel_rfl) (by kernel_rfl) (by kernel_rfl) (by rfl) (fun _ _ _ h => h) (by rfl) ?_ ?_
    rotate_left
    · intro w
      go_simp
      first | done | with_reducible rfl
    try simp only [Act.put, List.setIfInBounds_toArray, List.set_cons_zero, List.set_cons_succ]
    refine wpAnyG_keep (i := 3) (oi := ⟨some 29, _, _, _, _, _⟩) (by kernel_rfl) rfl (fun K hK => ?_)
    rw [if_pos (by rfl)]
    go_simp
    refine hK.out _ _ ?_ (fun hS => ?_)
    · exact (hG.cons.2 _ (H.out.drew.alloc _)).1.1
    clear hK K
    try simp only [Act.put, List.setIfInBounds_toArray, List.set_cons_zero, List.set_cons_succ]
    refine wpAnyG_pure (i := 4) (oi := ⟨some 30, _, _, _, _, _⟩) (v := ?_) rfl (by kernel_rfl) (by kernel_rfl) (by kernel_rfl) (by rfl) (fun _ _ _ h => h) (by rfl) ?_ ?_
    rotate_left
    · intro w
      go_simp
      first | done | with_reducible rfl
    try simp only [Act.put, List.setIfInBounds_toArray, List.set_cons_zero, List.set_cons_succ]
    refine wpAnyG_pure (i := 7) (oi := ⟨some 6, _, _, _, _, _⟩) (v := ?_) rfl (by kernel_rfl) (by kernel_rfl) (by kernel_rfl) (by rfl) (fun _ _ _ h => h) (by rfl) ?_ ?_
    rotate_left
    · intro w
      go_simp
      first | done | with_reducible rfl
    try simp only [Act.put, List.setIfInBounds_toArray, List.set_cons_zero, List.set_cons_succ]
    refine wpAnyG_done (by kernel_rfl) ?_ _
    refine NoPanic.normal ?_
    go_wp2_with fail
    go_ret3
    exact HF.out _ _ (H.out.drew.alloc _).drew
  have HO := Lib.hid ho
  by_cases hsz : s.size ≠ 52
  · have er : readT k s = (0, ⟨#[]⟩, 171) := by unfold readT; rw [if_neg ho, if_pos (.inl hsz)]
    rw [er]
    have HF : Hid (∀ w' f, Own E w' (Hp.blk f FT #[.int .i64 k, sentV a1] :: L) → ReadSaid E L k a0 a1 a2 (0, ⟨#[]⟩, 171) (.returned (.tuple #[.int .i64 0, .string ⟨#[]⟩, faultV f])) w') := Lib.hid fun w' f hq => .inr ⟨f, a1, .inr (.inl ⟨rfl, rfl⟩), rfl, hq⟩
    have hszi : ((s.size : Int) != 52) = true := by rw [bne_iff_ne]; omega
    clear er ho h hsz
    go_enter Tryd.func19, Tryd.ntmps19
    go_wp2_with fail
    refine (prefix_any k _).mono ?_
    rintro e w1 ⟨rfl, rfl⟩
    go_wp2_with fail
    refine (cutprefix_any s (pfx k) _).mono ?_
    rintro e w1 ⟨rfl, hcut⟩
    obtain ⟨v, bb, rfl⟩ : ∃ v bb, e = .returned (.tuple #[.string v, .bool bb]) := by
      rcases hcut with ⟨-, rfl⟩ | ⟨-, rfl⟩
      · exact ⟨_, _, rfl⟩
      · exact ⟨_, _, rfl⟩
    clear hcut
    go_wp2_with fail
    refine (prefix_any (3 - k) _).mono ?_
    rintro e w1 ⟨rfl, rfl⟩
    go_wp2_with fail
    refine (hasprefix_any s (pfx (3 - k)) _).mono ?_
    rintro e w1 ⟨rfl, hhas⟩
    obtain rfl : e = .returned (.bool false) := by
      rcases hhas with ⟨hb, rfl⟩ | ⟨hb, rfl⟩
      · exact absurd hb HO.out
      · exact rfl
    clear hhas
    go_wp2_with fail
    refine wp_region_text [1] (fun w' => w'.cell? ⟨1, 0, none⟩ = some (sentV a1)) (by kernel_rfl) ?_ (fun hS => ?_)
    · exact (hG.2 _ H.out.drew).1.2.1
    refine wpAnyG_pure (i := 0) (oi := ⟨some 38, _, _, _, _, _⟩) (v := ?_) rfl (by kernel_rfl) (by kernel_rfl) (by kernel_rfl) (by rfl) (fun _ _ _ h => h) (by rfl) ?_ ?_
    rotate_left
    · intro w
      go_simp
      first | done | with_reducible rfl
    try simp only [Act.put, List.setIfInBounds_toArray, List.set_cons_zero, List.set_cons_succ]
    refine wpAnyG_load (i := 1) (oi := ⟨some 39, _, _, _, _, _⟩) (v := ?_) rfl (by kernel_rfl) (by kernel_rfl) (by kernel_rfl) (by rfl) (fun _ _ _ h => h) (by rfl) ?_ (by assumption) ?_
    rotate_left
    · intro w hS
      try dsimp only at hS
      go_simp
      first | done | with_reducible rfl
    try simp only [Act.put, List.setIfInBounds_toArray, List.set_cons_zero, List.set_cons_succ]
    refine wpAnyG_pure (i := 2) (oi := ⟨some 40, _, _, _, _, _⟩) (v := ?_) rfl (by kernel_rfl) (by kernel_rfl) (by kernel_rfl) (by rfl) (fun _ _ _ h => h) (by rfl) ?_ ?_
    rotate_left
    · intro w
      go_simp
      first | done | with_reducible rfl
    try simp only [Act.put, List.setIfInBounds_toArray, List.set_cons_zero, List.set_cons_succ]
    refine wpAnyG_pure (i := 5) (oi := ⟨some 4, _, _, _, _, _⟩) (v := ?_) rfl (by kernel_rfl) (by kernel_rfl) (by kernel_rfl) (by rfl) (fun _ _ _ h => h) (by rfl) ?_ ?_
    rotate_left
    · intro w
      go_simp
      first | done | with_reducible rfl
    try simp only [Act.put, List.setIfInBounds_toArray, List.set_cons_zero, List.set_cons_succ]
    refine wpAnyG_pure (i := 6) (oi := ⟨some 5, _, _, _, _, _⟩) (v := ?_) rfl (by kernel_rfl) (by kernel_rfl) (by kernel_rfl) (by rfl) (fun _ _ _ h => h) (by rfl) ?_ ?_
    rotate_left
    · intro w
      go_simp
      first | done | with_reducible rfl
    try simp only [Act.put, List.setIfInBounds_toArray, List.set_cons_zero, List.set_cons_succ]
    refine wpAnyG_keep (i := 3) (oi := ⟨some 41, _, _, _, _, _⟩) (by kernel_rfl) rfl (fun K hK => ?_)
    rw [if_pos (by rfl)]
    go_simp
    refine hK.out _ _ ?_ (fun hS => ?_)
    · exact (hG.cons.2 _ (H.out.drew.alloc _)).1.2.1
    clear hK K
    try simp only [Act.put, List.setIfInBounds_toArray, List.set_cons_zero, List.set_cons_succ]
    refine wpAnyG_pure (i := 4) (oi := ⟨some 42, _, _, _, _, _⟩) (v := ?_) rfl (by kernel_rfl) (by kernel_rfl) (by kernel_rfl) (by rfl) (fun _ _ _ h => h) (by rfl) ?_ ?_
    rotate_left
    · intro w
      go_simp
      first | done | with_reducible rfl
    try simp only [Act.put, List.setIfInBounds_toArray, List.set_cons_zero, List.set_cons_succ]
    refine wpAnyG_pure (i := 7) (oi := ⟨some 6, _, _, _, _, _⟩) (v := ?_) rfl (by kernel_rfl) (by kernel_rfl) (by kernel_rfl) (by rfl) (fun _ _ _ h => h) (by rfl) ?_ ?_
    rotate_left
    · intro w
      go_simp
      first | done | with_reducible rfl
    try simp only [Act.put, List.setIfInBounds_toArray, List.set_cons_zero, List.set_cons_succ]
    refine wpAnyG_done (by kernel_rfl) ?_ _
    refine NoPanic.normal ?_
    go_wp2_with fail
    go_ret3
    exact HF.out _ _ (H.out.drew.alloc _).drew
  have hs52 : s.size = 52 := Decidable.not_not.1 hsz
  have hsi : (s.size : Int) = 52 := by omega
  by_cases hmine : ¬ begins s (pfx k)
  · have er : readT k s = (0, ⟨#[]⟩, 171) := by unfold readT; rw [if_neg ho, if_pos (.inr hmine)]
    rw [er]
    have HF : Hid (∀ w' f, Own E w' (Hp.blk f FT #[.int .i64 k, sentV a1] :: L) → ReadSaid E L k a0 a1 a2 (0, ⟨#[]⟩, 171) (.returned (.tuple #[.int .i64 0, .string ⟨#[]⟩, faultV f])) w') := Lib.hid fun w' f hq => .inr ⟨f, a1, .inr (.inl ⟨rfl, rfl⟩), rfl, hq⟩
    have HMINE := Lib.hid hmine
    clear er ho h hsz hmine
    go_enter Tryd.func19, Tryd.ntmps19
    go_wp2_with fail
    refine (prefix_any k _).mono ?_
    rintro e w1 ⟨rfl, rfl⟩
    go_wp2_with fail
    refine (cutprefix_any s (pfx k) _).mono ?_
    rintro e w1 ⟨rfl, hcut⟩
    obtain rfl : e = .returned (.tuple #[.string s, .bool false]) := by
      rcases hcut with ⟨hb, -⟩ | ⟨-, rfl⟩
      · exact absurd hb HMINE.out
      · rfl
    clear hcut
    go_wp2_with fail
    refine (prefix_any (3 - k) _).mono ?_
    rintro e w1 ⟨rfl, rfl⟩
    go_wp2_with fail
    refine (hasprefix_any s (pfx (3 - k)) _).mono ?_
    rintro e w1 ⟨rfl, hhas⟩
    obtain rfl : e = .returned (.bool false) := by
      rcases hhas with ⟨hb, rfl⟩ | ⟨hb, rfl⟩
      · exact absurd hb HO.out
      · exact rfl
    clear hhas
    go_wp2_with fail
    refine wp_region_text [1] (fun w' => w'.cell? ⟨1, 0, none⟩ = some (sentV a1)) (by kernel_rfl) ?_ (fun hS => ?_)
    · exact (hG.2 _ H.out.drew).1.2.1
    refine wpAnyG_pure (i := 0) (oi := ⟨some 38, _, _, _, _, _⟩) (v := ?_) rfl (by kernel_rfl) (by kernel_rfl) (by kernel_rfl) (by rfl) (fun _ _ _ h => h) (by rfl) ?_ ?_
    rotate_left
    · intro w
      go_simp
      first | done | with_reducible rfl
    try simp only [Act.put, List.setIfInBounds_toArray, List.set_cons_zero, List.set_cons_succ]
    refine wpAnyG_load (i := 1) (oi := ⟨some 39, _, _, _, _, _⟩) (v := ?_) rfl (by kernel_rfl) (by kernel_rfl) (by kernel_rfl) (by rfl) (fun _ _ _ h => h) (by rfl) ?_ (by assumption) ?_
    rotate_left
    · intro w hS
      try dsimp only at hS
      go_simp
      first | done | with_reducible rfl
    try simp only [Act.put, List.setIfInBounds_toArray, List.set_cons_zero, List.set_cons_succ]
    refine wpAnyG_pure (i := 2) (oi := ⟨some 40, _, _, _, _, _⟩) (v := ?_) rfl (by kernel_rfl) (by kernel_rfl) (by kernel_rfl) (by rfl) (fun _ _ _ h => h) (by rfl) ?_ ?_
    rotate_left
    · intro w
      go_simp
      first | done | with_reducible rfl
    try simp only [Act.put, List.setIfInBounds_toArray, List.set_cons_zero, List.set_cons_succ]
    refine wpAnyG_pure (i := 5) (oi := ⟨some 4, _, _, _, _, _⟩) (v := ?_) rfl (by kernel_rfl) (by kernel_rfl) (by kernel_rfl) (by rfl) (fun _ _ _ h => h) (by rfl) ?_ ?_
    rotate_left
    · intro w
      go_simp
      first | done | with_reducible rfl
    try simp only [Act.put, List.setIfInBounds_toArray, List.set_cons_zero, List.set_cons_succ]
    refine wpAnyG_pure (i := 6) (oi := ⟨some 5, _, _, _, _, _⟩) (v := ?_) rfl (by kernel_rfl) (by kernel_rfl) (by kernel_rfl) (by rfl) (fun _ _ _ h => h) (by rfl) ?_ ?_
    rotate_left
    · intro w
      go_simp
      first | done | with_reducible rfl
    try simp only [Act.put, List.setIfInBounds_toArray, List.set_cons_zero, List.set_cons_succ]
    refine wpAnyG_keep (i := 3) (oi := ⟨some 41, _, _, _, _, _⟩) (by kernel_rfl) rfl (fun K hK => ?_)
    rw [if_pos (by rfl)]
    go_simp
    refine hK.out _ _ ?_ (fun hS => ?_)
    · exact (hG.cons.2 _ (H.out.drew.alloc _)).1.2.1
    clear hK K
    try simp only [Act.put, List.setIfInBounds_toArray, List.set_cons_zero, List.set_cons_succ]
    refine wpAnyG_pure (i := 4) (oi := ⟨some 42, _, _, _, _, _⟩) (v := ?_) rfl (by kernel_rfl) (by kernel_rfl) (by kernel_rfl) (by rfl) (fun _ _ _ h => h) (by rfl) ?_ ?_
    rotate_left
    · intro w
      go_simp
      first | done | with_reducible rfl
    try simp only [Act.put, List.setIfInBounds_toArray, List.set_cons_zero, List.set_cons_succ]
    refine wpAnyG_pure (i := 7) (oi := ⟨some 6, _, _, _, _, _⟩) (v := ?_) rfl (by kernel_rfl) (by kernel_rfl) (by kernel_rfl) (by rfl) (fun _ _ _ h => h) (by rfl) ?_ ?_
    rotate_left
    · intro w
      go_simp
      first | done | with_reducible rfl
    try simp only [Act.put, List.setIfInBounds_toArray, List.set_cons_zero, List.set_cons_succ]
    refine wpAnyG_done (by kernel_rfl) ?_ _
    refine NoPanic.normal ?_
    go_wp2_with fail
    go_ret3
    exact HF.out _ _ (H.out.drew.alloc _).drew
  have HMINE := Lib.hid (Decidable.not_not.1 hmine)
  have HP4 := Lib.hid hp4
  have er0 : readT k s = match fromS namesB.data.toList (s.data.toList.drop 4) with
    | none => (0, ⟨#[]⟩, 171)
    | some b =>
      if numL (b.take 8) < 1 ∨ 4611686018427387904 < numL (b.take 8) then (0, ⟨#[]⟩, 171)
      else if b = laidT k (numL (b.take 8)) ((b.drop 8).take 24) then ((numL (b.take 8) : Nat), ⟨((b.drop 8).take 24).toArray⟩, 0) else (0, ⟨#[]⟩, 172) := by
    unfold readT
    rw [if_neg ho, if_neg (by rintro (hc | hc); exact hsz hc; exact hmine hc)]
  have hrd := rest_data s 4
  have hrs := rest_size s 4
  obtain ⟨r, hr⟩ : ∃ r, r = restB s 4 := ⟨_, rfl⟩
  have HRR := Lib.hid hr
  rw [← hr] at hrd hrs
  rw [← hrd] at er0
  have HRS : Hid (r.size ≤ 10000000000000) := Lib.hid (by omega)
  have hrlen : r.data.toList.length = 48 := by show r.size = 48; omega
  clear hr hrd hrs
  cases hfs : fromS namesB.data.toList r.data.toList with
  | none =>
    rw [hfs] at er0
    rw [er0]
    have HF : Hid (∀ w' f, Own E w' (Hp.blk f FT #[.int .i64 k, sentV a1] :: L) → ReadSaid E L k a0 a1 a2 (0, ⟨#[]⟩, 171) (.returned (.tuple #[.int .i64 0, .string ⟨#[]⟩, faultV f])) w') := Lib.hid fun w' f hq => .inr ⟨f, a1, .inr (.inl ⟨rfl, rfl⟩), rfl, hq⟩
    have HFS := Lib.hid hfs
    clear er0 ho h hsz hmine hfs hp4 hrlen
    go_enter Tryd.func19, Tryd.ntmps19
    go_wp2_with fail
    refine (prefix_any k _).mono ?_
    rintro e w1 ⟨rfl, rfl⟩
    go_wp2_with fail
    refine (cutprefix_any s (pfx k) _).mono ?_
    rintro e w1 ⟨rfl, hcut⟩
    obtain rfl : e = .returned (.tuple #[.string (restB s 4), .bool true]) := by
      rcases hcut with ⟨-, rfl⟩ | ⟨hb, -⟩
      · rw [HP4.out]
      · exact absurd HMINE.out hb
    clear hcut
    go_wp2_with fail
    refine (prefix_any (3 - k) _).mono ?_
    rintro e w1 ⟨rfl, rfl⟩
    go_wp2_with fail
    refine (hasprefix_any s (pfx (3 - k)) _).mono ?_
    rintro e w1 ⟨rfl, hhas⟩
    obtain rfl : e = .returned (.bool false) := by
      rcases hhas with ⟨hb, rfl⟩ | ⟨hb, rfl⟩
      · exact absurd hb HO.out
      · exact rfl
    clear hhas
    go_wp2_with fail
    rw [← HRR.out]
    refine (frombase64_any r _ HRS.out H.out).mono ?_
    rintro e w2 ⟨rfl, h2⟩
    rw [HFS.out]
    have H2 := Lib.hid h2
    clear h2
    have hrv : readV none = .tuple #[.string ⟨#[]⟩, .int .i64 24] := rfl
    rw [hrv]
    go_wp2_with fail
    refine wp_region_text [1] (fun w' => w'.cell? ⟨1, 0, none⟩ = some (sentV a1)) (by kernel_rfl) ?_ (fun hS => ?_)
    · exact (hG.2 _ H2.out.drew).1.2.1
    refine wpAnyG_pure (i := 0) (oi := ⟨some 50, _, _, _, _, _⟩) (v := ?_) rfl (by kernel_rfl) (by kernel_rfl) (by kernel_rfl) (by rfl) (fun _ _ _ h => h) (by rfl) ?_ ?_
    rotate_left
    · intro w
      go_simp
      first | done | with_reducible rfl
    try simp only [Act.put, List.setIfInBounds_toArray, List.set_cons_zero, List.set_cons_succ]
    refine wpAnyG_load (i := 1) (oi := ⟨some 51, _, _, _, _, _⟩) (v := ?_) rfl (by kernel_rfl) (by kernel_rfl) (by kernel_rfl) (by rfl) (fun _ _ _ h => h) (by rfl) ?_ (by assumption) ?_
    rotate_left
    · intro w hS
      try dsimp only at hS
      go_simp
      first | done | with_reducible rfl
    try simp only [Act.put, List.setIfInBounds_toArray, List.set_cons_zero, List.set_cons_succ]
    refine wpAnyG_pure (i := 2) (oi := ⟨some 52, _, _, _, _, _⟩) (v := ?_) rfl (by kernel_rfl) (by kernel_rfl) (by kernel_rfl) (by rfl) (fun _ _ _ h => h) (by rfl) ?_ ?_
    rotate_left
    · intro w
      go_simp
      first | done | with_reducible rfl
    try simp only [Act.put, List.setIfInBounds_toArray, List.set_cons_zero, List.set_cons_succ]
    refine wpAnyG_pure (i := 5) (oi := ⟨some 4, _, _, _, _, _⟩) (v := ?_) rfl (by kernel_rfl) (by kernel_rfl) (by kernel_rfl) (by rfl) (fun _ _ _ h => h) (by rfl) ?_ ?_
    rotate_left
    · intro w
      go_simp
      first | done | with_reducible rfl
    try simp only [Act.put, List.setIfInBounds_toArray, List.set_cons_zero, List.set_cons_succ]
    refine wpAnyG_pure (i := 6) (oi := ⟨some 5, _, _, _, _, _⟩) (v := ?_) rfl (by kernel_rfl) (by kernel_rfl) (by kernel_rfl) (by rfl) (fun _ _ _ h => h) (by rfl) ?_ ?_
    rotate_left
    · intro w
      go_simp
      first | done | with_reducible rfl
    try simp only [Act.put, List.setIfInBounds_toArray, List.set_cons_zero, List.set_cons_succ]
    refine wpAnyG_keep (i := 3) (oi := ⟨some 53, _, _, _, _, _⟩) (by kernel_rfl) rfl (fun K hK => ?_)
    rw [if_pos (by rfl)]
    go_simp
    refine hK.out _ _ ?_ (fun hS => ?_)
    · exact (hG.cons.2 _ (H2.out.drew.alloc _)).1.2.1
    clear hK K
    try simp only [Act.put, List.setIfInBounds_toArray, List.set_cons_zero, List.set_cons_succ]
    refine wpAnyG_pure (i := 4) (oi := ⟨some 54, _, _, _, _, _⟩) (v := ?_) rfl (by kernel_rfl) (by kernel_rfl) (by kernel_rfl) (by rfl) (fun _ _ _ h => h) (by rfl) ?_ ?_
    rotate_left
    · intro w
      go_simp
      first | done | with_reducible rfl
    try simp only [Act.put, List.setIfInBounds_toArray, List.set_cons_zero, List.set_cons_succ]
    refine wpAnyG_pure (i := 7) (oi := ⟨some 6, _, _, _, _, _⟩) (v := ?_) rfl (by kernel_rfl) (by kernel_rfl) (by kernel_rfl) (by rfl) (fun _ _ _ h => h) (by rfl) ?_ ?_
    rotate_left
    · intro w
      go_simp
      first | done | with_reducible rfl
    try simp only [Act.put, List.setIfInBounds_toArray, List.set_cons_zero, List.set_cons_succ]
    refine wpAnyG_done (by kernel_rfl) ?_ _
    refine NoPanic.normal ?_
    go_wp2_with fail
    go_ret3
    exact HF.out _ _ (H2.out.drew.alloc _).drew
  | some b =>
    rw [hfs] at er0
    have hbl : b.length = 36 := by
      have e1 := ((fromS_some _ _ _).1 hfs).2
      have e2 := congrArg List.length e1
      rw [Six.enc_len, hrlen] at e2
      omega
    have HFS := Lib.hid hfs
    obtain ⟨B, hB⟩ : ∃ B : ByteArray, B = ⟨b.toArray⟩ := ⟨_, rfl⟩
    have hBd : B.data.toList = b := by rw [hB]
    have hBs : B.size = 36 := by show B.data.toList.length = 36; rw [hBd, hbl]
    have hrv : readV (some b) = .tuple #[.string B, .int .i64 0] := by rw [hB]; rfl
    have HRV := Lib.hid hrv
    obtain ⟨n, hn⟩ : ∃ n, n = numL (b.take 8) := ⟨_, rfl⟩
    dsimp only at er0
    rw [← hn] at er0
    have hrn : rNum B 0 8 = if 9223372036854775808 ≤ n then (0, B, 20) else ((n : Int), restB B 8, 0) := by
      unfold rNum
      rw [if_neg (by omega), if_neg (by omega), hBs, if_neg (by omega), hBd, hn]
      rfl
    have hLB : (⟨(laidT k n ((b.drop 8).take 24)).toArray⟩ : ByteArray) = B ↔ b = laidT k n ((b.drop 8).take 24) := by
      constructor
      · intro e
        have e2 := congrArg (fun x : ByteArray => x.data.toList) e
        dsimp only at e2
        rw [hBd] at e2
        exact e2.symm
      · intro e
        rw [hB]
        exact congrArg (fun l : List UInt8 => (⟨l.toArray⟩ : ByteArray)) e.symm
    by_cases hbig : 9223372036854775808 ≤ n
    · rw [if_pos hbig] at hrn
      rw [if_pos (by omega)] at er0
      rw [er0]
      have HF : Hid (∀ w' f, Own E w' (Hp.blk f FT #[.int .i64 k, sentV a1] :: L) → ReadSaid E L k a0 a1 a2 (0, ⟨#[]⟩, 171) (.returned (.tuple #[.int .i64 0, .string ⟨#[]⟩, faultV f])) w') := Lib.hid fun w' f hq => .inr ⟨f, a1, .inr (.inl ⟨rfl, rfl⟩), rfl, hq⟩
      have hrw : rRaw B 20 24 = (⟨#[]⟩, B, 20) := by unfold rRaw; rw [if_pos (by omega)]
      have HN := Lib.hid hrn
      have HW := Lib.hid hrw
      clear er0 ho h hsz hmine hfs hp4 hrlen hrn hrw hB hBd hrv hLB hn
      go_enter Tryd.func19, Tryd.ntmps19
      go_wp2_with fail
      refine (prefix_any k _).mono ?_
      rintro e w1 ⟨rfl, rfl⟩
      go_wp2_with fail
      refine (cutprefix_any s (pfx k) _).mono ?_
      rintro e w1 ⟨rfl, hcut⟩
      obtain rfl : e = .returned (.tuple #[.string (restB s 4), .bool true]) := by
        rcases hcut with ⟨-, rfl⟩ | ⟨hb, -⟩
        · rw [HP4.out]
        · exact absurd HMINE.out hb
      clear hcut
      go_wp2_with fail
      refine (prefix_any (3 - k) _).mono ?_
      rintro e w1 ⟨rfl, rfl⟩
      go_wp2_with fail
      refine (hasprefix_any s (pfx (3 - k)) _).mono ?_
      rintro e w1 ⟨rfl, hhas⟩
      obtain rfl : e = .returned (.bool false) := by
        rcases hhas with ⟨hb, rfl⟩ | ⟨hb, rfl⟩
        · exact absurd hb HO.out
        · exact rfl
      clear hhas
      go_wp2_with fail
      rw [← HRR.out]
      refine (frombase64_any r _ HRS.out H.out).mono ?_
      rintro e w2 ⟨rfl, h2⟩
      rw [HFS.out, HRV.out]
      go_wp2_with fail
      refine (newreader_any B _ h2).mono ?_
      rintro e w3 ⟨rb, rfl, h3⟩
      have H3 := Lib.hid h3.toRdr0
      clear h2 h3
      go_wp2_with fail
      refine (rnum_all rb B 0 8 0 B 20 _ HN.out H3.out).mono ?_
      rintro e w4 ⟨rfl, h4⟩
      go_wp2_with fail
      refine (rraw_all rb B 20 24 ⟨#[]⟩ B 20 _ HW.out h4).mono ?_
      rintro e w5 ⟨rfl, h5⟩
      have H5 := Lib.hid h5.drop
      clear h4 h5
      go_wp2_with fail
      refine wp_region_text [1] (fun w' => w'.cell? ⟨1, 0, none⟩ = some (sentV a1)) (by kernel_rfl) ?_ (fun hS => ?_)
      · exact (hG.2 _ H5.out.drew).1.2.1
      refine wpAnyG_pure (i := 0) (oi := ⟨some 67, _, _, _, _, _⟩) (v := ?_) rfl (by kernel_rfl) (by kernel_rfl) (by kernel_rfl) (by rfl) (fun _ _ _ h => h) (by rfl) ?_ ?_
      rotate_left
      · intro w
        go_simp
        first | done | with_reducible rfl
      try simp only [Act.put, List.setIfInBounds_toArray, List.set_cons_zero, List.set_cons_succ]
      refine wpAnyG_load (i := 1) (oi := ⟨some 68, _, _, _, _, _⟩) (v := ?_) rfl (by kernel_rfl) (by kernel_rfl) (by kernel_rfl) (by rfl) (fun _ _ _ h => h) (by rfl) ?_ (by assumption) ?_
      rotate_left
      · intro w hS
        try dsimp only at hS
        go_simp
        first | done | with_reducible rfl
      try simp only [Act.put, List.setIfInBounds_toArray, List.set_cons_zero, List.set_cons_succ]
      refine wpAnyG_pure (i := 2) (oi := ⟨some 69, _, _, _, _, _⟩) (v := ?_) rfl (by kernel_rfl) (by kernel_rfl) (by kernel_rfl) (by rfl) (fun _ _ _ h => h) (by rfl) ?_ ?_
      rotate_left
      · intro w
        go_simp
        first | done | with_reducible rfl
      try simp only [Act.put, List.setIfInBounds_toArray, List.set_cons_zero, List.set_cons_succ]
      refine wpAnyG_pure (i := 5) (oi := ⟨some 4, _, _, _, _, _⟩) (v := ?_) rfl (by kernel_rfl) (by kernel_rfl) (by kernel_rfl) (by rfl) (fun _ _ _ h => h) (by rfl) ?_ ?_
      rotate_left
      · intro w
        go_simp
        first | done | with_reducible rfl
      try simp only [Act.put, List.setIfInBounds_toArray, List.set_cons_zero, List.set_cons_succ]
      refine wpAnyG_pure (i := 6) (oi := ⟨some 5, _, _, _, _, _⟩) (v := ?_) rfl (by kernel_rfl) (by kernel_rfl) (by kernel_rfl) (by rfl) (fun _ _ _ h => h) (by rfl) ?_ ?_
      rotate_left
      · intro w
        go_simp
        first | done | with_reducible rfl
      try simp only [Act.put, List.setIfInBounds_toArray, List.set_cons_zero, List.set_cons_succ]
      refine wpAnyG_keep (i := 3) (oi := ⟨some 70, _, _, _, _, _⟩) (by kernel_rfl) rfl (fun K hK => ?_)
      rw [if_pos (by rfl)]
      go_simp
      refine hK.out _ _ ?_ (fun hS => ?_)
      · exact (hG.cons.2 _ (H5.out.drew.alloc _)).1.2.1
      clear hK K
      try simp only [Act.put, List.setIfInBounds_toArray, List.set_cons_zero, List.set_cons_succ]
      refine wpAnyG_pure (i := 4) (oi := ⟨some 71, _, _, _, _, _⟩) (v := ?_) rfl (by kernel_rfl) (by kernel_rfl) (by kernel_rfl) (by rfl) (fun _ _ _ h => h) (by rfl) ?_ ?_
      rotate_left
      · intro w
        go_simp
        first | done | with_reducible rfl
      try simp only [Act.put, List.setIfInBounds_toArray, List.set_cons_zero, List.set_cons_succ]
      refine wpAnyG_pure (i := 7) (oi := ⟨some 6, _, _, _, _, _⟩) (v := ?_) rfl (by kernel_rfl) (by kernel_rfl) (by kernel_rfl) (by rfl) (fun _ _ _ h => h) (by rfl) ?_ ?_
      rotate_left
      · intro w
        go_simp
        first | done | with_reducible rfl
      try simp only [Act.put, List.setIfInBounds_toArray, List.set_cons_zero, List.set_cons_succ]
      refine wpAnyG_done (by kernel_rfl) ?_ _
      refine NoPanic.normal ?_
      go_wp2_with fail
      go_ret3
      exact HF.out _ _ (H5.out.drew.alloc _).drew
    rw [if_neg hbig] at hrn
    have hrest := rest_data B 8
    have hrsz := rest_size B 8
    obtain ⟨C, hC⟩ : ∃ C, C = frontB (restB B 8) 24 := ⟨_, rfl⟩
    have hCd : C.data.toList = (b.drop 8).take 24 := by rw [hC, front_data, hrest, hBd]
    have hrw : rRaw (restB B 8) 0 24 = (C, restB (restB B 8) 24, 0) := by
      unfold rRaw
      rw [if_neg (by omega), if_neg (by omega), if_neg (by omega), hC]
      rfl
    have HN := Lib.hid hrn
    have HW := Lib.hid hrw
    by_cases hbad : n < 1 ∨ 4611686018427387904 < n
    · rw [if_pos hbad] at er0
      rw [er0]
      have HF : Hid (∀ w' f, Own E w' (Hp.blk f FT #[.int .i64 k, sentV a1] :: L) → ReadSaid E L k a0 a1 a2 (0, ⟨#[]⟩, 171) (.returned (.tuple #[.int .i64 0, .string ⟨#[]⟩, faultV f])) w') := Lib.hid fun w' f hq => .inr ⟨f, a1, .inr (.inl ⟨rfl, rfl⟩), rfl, hq⟩
      have HBAD := Lib.hid hbad
      clear er0 ho h hsz hmine hfs hp4 hrlen hrn hrw hB hBd hrv hLB hn hrest hrsz hC hCd hbad
      go_enter Tryd.func19, Tryd.ntmps19
      go_wp2_with fail
      refine (prefix_any k _).mono ?_
      rintro e w1 ⟨rfl, rfl⟩
      go_wp2_with fail
      refine (cutprefix_any s (pfx k) _).mono ?_
      rintro e w1 ⟨rfl, hcut⟩
      obtain rfl : e = .returned (.tuple #[.string (restB s 4), .bool true]) := by
        rcases hcut with ⟨-, rfl⟩ | ⟨hb, -⟩
        · rw [HP4.out]
        · exact absurd HMINE.out hb
      clear hcut
      go_wp2_with fail
      refine (prefix_any (3 - k) _).mono ?_
      rintro e w1 ⟨rfl, rfl⟩
      go_wp2_with fail
      refine (hasprefix_any s (pfx (3 - k)) _).mono ?_
      rintro e w1 ⟨rfl, hhas⟩
      obtain rfl : e = .returned (.bool false) := by
        rcases hhas with ⟨hb, rfl⟩ | ⟨hb, rfl⟩
        · exact absurd hb HO.out
        · exact rfl
      clear hhas
      go_wp2_with fail
      rw [← HRR.out]
      refine (frombase64_any r _ HRS.out H.out).mono ?_
      rintro e w2 ⟨rfl, h2⟩
      rw [HFS.out, HRV.out]
      go_wp2_with fail
      refine (newreader_any B _ h2).mono ?_
      rintro e w3 ⟨rb, rfl, h3⟩
      have H3 := Lib.hid h3.toRdr0
      clear h2 h3
      go_wp2_with fail
      refine (rnum_all rb B 0 8 n (restB B 8) 0 _ HN.out H3.out).mono ?_
      rintro e w4 ⟨rfl, h4⟩
      go_wp2_with fail
      refine (rraw_all rb (restB B 8) 0 24 C (restB (restB B 8) 24) 0 _ HW.out h4).mono ?_
      rintro e w5 ⟨rfl, h5⟩
      have H5 := Lib.hid h5.drop
      clear h4 h5
      rcases HBAD.out with hlow | hhigh
      · have hni : (n : Int) < 1 := by omega
        go_wp2_with fail
        refine wp_region_text [1] (fun w' => w'.cell? ⟨1, 0, none⟩ = some (sentV a1)) (by kernel_rfl) ?_ (fun hS => ?_)
        · exact (hG.2 _ H5.out.drew).1.2.1
        refine wpAnyG_pure (i := 0) (oi := ⟨some 67, _, _, _, _, _⟩) (v := ?_) rfl (by kernel_rfl) (by kernel_rfl) (by kernel_rfl) (by rfl) (fun _ _ _ h => h) (by rfl) ?_ ?_
        rotate_left
        · intro w
          go_simp
          first | done | with_reducible rfl
        try simp only [Act.put, List.setIfInBounds_toArray, List.set_cons_zero, List.set_cons_succ]
        refine wpAnyG_load (i := 1) (oi := ⟨some 68, _, _, _, _, _⟩) (v := ?_) rfl (by kernel_rfl) (by kernel_rfl) (by kernel_rfl) (by rfl) (fun _ _ _ h => h) (by rfl) ?_ (by assumption) ?_
        rotate_left
        · intro w hS
          try dsimp only at hS
          go_simp
          first | done | with_reducible rfl
        try simp only [Act.put, List.setIfInBounds_toArray, List.set_cons_zero, List.set_cons_succ]
        refine wpAnyG_pure (i := 2) (oi := ⟨some 69, _, _, _, _, _⟩) (v := ?_) rfl (by kernel_rfl) (by kernel_rfl) (by kernel_rfl) (by rfl) (fun _ _ _ h => h) (by rfl) ?_ ?_
        rotate_left
        · intro w
          go_simp
          first | done | with_reducible rfl
        try simp only [Act.put, List.setIfInBounds_toArray, List.set_cons_zero, List.set_cons_succ]
        refine wpAnyG_pure (i := 5) (oi := ⟨some 4, _, _, _, _, _⟩) (v := ?_) rfl (by kernel_rfl) (by kernel_rfl) (by kernel_rfl) (by rfl) (fun _ _ _ h => h) (by rfl) ?_ ?_
        rotate_left
        · intro w
          go_simp
          first | done | with_reducible rfl
        try simp only [Act.put, List.setIfInBounds_toArray, List.set_cons_zero, List.set_cons_succ]
        refine wpAnyG_pure (i := 6) (oi := ⟨some 5, _, _, _, _, _⟩) (v := ?_) rfl (by kernel_rfl) (by kernel_rfl) (by kernel_rfl) (by rfl) (fun _ _ _ h => h) (by rfl) ?_ ?_
        rotate_left
        · intro w
          go_simp
          first | done | with_reducible rfl
        try simp only [Act.put, List.setIfInBounds_toArray, List.set_cons_zero, List.set_cons_succ]
        refine wpAnyG_keep (i := 3) (oi := ⟨some 70, _, _, _, _, _⟩) (by kernel_rfl) rfl (fun K hK => ?_)
        rw [if_pos (by rfl)]
        go_simp
        refine hK.out _ _ ?_ (fun hS => ?_)
        · exact (hG.cons.2 _ (H5.out.drew.alloc _)).1.2.1
        clear hK K
        try simp only [Act.put, List.setIfInBounds_toArray, List.set_cons_zero, List.set_cons_succ]
        refine wpAnyG_pure (i := 4) (oi := ⟨some 71, _, _, _, _, _⟩) (v := ?_) rfl (by kernel_rfl) (by kernel_rfl) (by kernel_rfl) (by rfl) (fun _ _ _ h => h) (by rfl) ?_ ?_
        rotate_left
        · intro w
          go_simp
          first | done | with_reducible rfl
        try simp only [Act.put, List.setIfInBounds_toArray, List.set_cons_zero, List.set_cons_succ]
        refine wpAnyG_pure (i := 7) (oi := ⟨some 6, _, _, _, _, _⟩) (v := ?_) rfl (by kernel_rfl) (by kernel_rfl) (by kernel_rfl) (by rfl) (fun _ _ _ h => h) (by rfl) ?_ ?_
        rotate_left
        · intro w
          go_simp
          first | done | with_reducible rfl
        try simp only [Act.put, List.setIfInBounds_toArray, List.set_cons_zero, List.set_cons_succ]
        refine wpAnyG_done (by kernel_rfl) ?_ _
        refine NoPanic.normal ?_
        go_wp2_with fail
        go_ret3
        exact HF.out _ _ (H5.out.drew.alloc _).drew
      · have hni : ¬ (n : Int) < 1 := by omega
        have hnj : (4611686018427387904 : Int) < n := by omega
        go_wp2_with fail
        refine wp_region_text [1] (fun w' => w'.cell? ⟨1, 0, none⟩ = some (sentV a1)) (by kernel_rfl) ?_ (fun hS => ?_)
        · exact (hG.2 _ H5.out.drew).1.2.1
        refine wpAnyG_pure (i := 0) (oi := ⟨some 67, _, _, _, _, _⟩) (v := ?_) rfl (by kernel_rfl) (by kernel_rfl) (by kernel_rfl) (by rfl) (fun _ _ _ h => h) (by rfl) ?_ ?_
        rotate_left
        · intro w
          go_simp
          first | done | with_reducible rfl
        try simp only [Act.put, List.setIfInBounds_toArray, List.set_cons_zero, List.set_cons_succ]
        refine wpAnyG_load (i := 1) (oi := ⟨some 68, _, _, _, _, _⟩) (v := ?_) rfl (by kernel_rfl) (by kernel_rfl) (by kernel_rfl) (by rfl) (fun _ _ _ h => h) (by rfl) ?_ (by assumption) ?_
        rotate_left
        · intro w hS
          try dsimp only at hS
          go_simp
          first | done | with_reducible rfl
        try simp only [Act.put, List.setIfInBounds_toArray, List.set_cons_zero, List.set_cons_succ]
        refine wpAnyG_pure (i := 2) (oi := ⟨some 69, _, _, _, _, _⟩) (v := ?_) rfl (by kernel_rfl) (by kernel_rfl) (by kernel_rfl) (by rfl) (fun _ _ _ h => h) (by rfl) ?_ ?_
        rotate_left
        · intro w
          go_simp
          first | done | with_reducible rfl
        try simp only [Act.put, List.setIfInBounds_toArray, List.set_cons_zero, List.set_cons_succ]
        refine wpAnyG_pure (i := 5) (oi := ⟨some 4, _, _, _, _, _⟩) (v := ?_) rfl (by kernel_rfl) (by kernel_rfl) (by kernel_rfl) (by rfl) (fun _ _ _ h => h) (by rfl) ?_ ?_
        rotate_left
        · intro w
          go_simp
          first | done | with_reducible rfl
        try simp only [Act.put, List.setIfInBounds_toArray, List.set_cons_zero, List.set_cons_succ]
        refine wpAnyG_pure (i := 6) (oi := ⟨some 5, _, _, _, _, _⟩) (v := ?_) rfl (by kernel_rfl) (by kernel_rfl) (by kernel_rfl) (by rfl) (fun _ _ _ h => h) (by rfl) ?_ ?_
        rotate_left
        · intro w
          go_simp
          first | done | with_reducible rfl
        try simp only [Act.put, List.setIfInBounds_toArray, List.set_cons_zero, List.set_cons_succ]
        refine wpAnyG_keep (i := 3) (oi := ⟨some 70, _, _, _, _, _⟩) (by kernel_rfl) rfl (fun K hK => ?_)
        rw [if_pos (by rfl)]
        go_simp
        refine hK.out _ _ ?_ (fun hS => ?_)
        · exact (hG.cons.2 _ (H5.out.drew.alloc _)).1.2.1
        clear hK K
        try simp only [Act.put, List.setIfInBounds_toArray, List.set_cons_zero, List.set_cons_succ]
        refine wpAnyG_pure (i := 4) (oi := ⟨some 71, _, _, _, _, _⟩) (v := ?_) rfl (by kernel_rfl) (by kernel_rfl) (by kernel_rfl) (by rfl) (fun _ _ _ h => h) (by rfl) ?_ ?_
        rotate_left
        · intro w
          go_simp
          first | done | with_reducible rfl
        try simp only [Act.put, List.setIfInBounds_toArray, List.set_cons_zero, List.set_cons_succ]
        refine wpAnyG_pure (i := 7) (oi := ⟨some 6, _, _, _, _, _⟩) (v := ?_) rfl (by kernel_rfl) (by kernel_rfl) (by kernel_rfl) (by rfl) (fun _ _ _ h => h) (by rfl) ?_ ?_
        rotate_left
        · intro w
          go_simp
          first | done | with_reducible rfl
        try simp only [Act.put, List.setIfInBounds_toArray, List.set_cons_zero, List.set_cons_succ]
        refine wpAnyG_done (by kernel_rfl) ?_ _
        refine NoPanic.normal ?_
        go_wp2_with fail
        go_ret3
        exact HF.out _ _ (H5.out.drew.alloc _).drew
    rw [if_neg hbad] at er0
    have hni : ¬ (n : Int) < 1 := by omega
    have hnj : ¬ (4611686018427387904 : Int) < n := by omega
    have HN63 := Lib.hid (show n < 9223372036854775808 by omega)
    have HCS : Hid (C.size ≤ 1000000000000) := Lib.hid (by
      show C.data.toList.length ≤ _
      rw [hCd, List.length_take, List.length_drop]
      omega)
    have HCD := Lib.hid hCd
    obtain ⟨D, hD⟩ : ∃ D : ByteArray, D = ⟨(laidT k n ((b.drop 8).take 24)).toArray⟩ := ⟨_, rfl⟩
    rw [← hD] at hLB
    have HDD : Hid ((⟨(laidT k n C.data.toList).toArray⟩ : ByteArray) = D) := Lib.hid (by rw [hCd, hD])
    by_cases heq : b = laidT k n ((b.drop 8).take 24)
    · rw [if_pos heq] at er0
      rw [er0]
      have hDB := hLB.2 heq
      have HCE : Hid ((⟨((b.drop 8).take 24).toArray⟩ : ByteArray) = C) := Lib.hid (bytes_ext C _ hCd).symm
      rw [HCE.out]
      clear er0 ho h hsz hmine hfs hp4 hrlen hrn hrw hB hBd hrv hLB hn hrest hrsz hC hCd hbad heq hD
      go_enter Tryd.func19, Tryd.ntmps19
      go_wp2_with fail
      refine (prefix_any k _).mono ?_
      rintro e w1 ⟨rfl, rfl⟩
      go_wp2_with fail
      refine (cutprefix_any s (pfx k) _).mono ?_
      rintro e w1 ⟨rfl, hcut⟩
      obtain rfl : e = .returned (.tuple #[.string (restB s 4), .bool true]) := by
        rcases hcut with ⟨-, rfl⟩ | ⟨hb, -⟩
        · rw [HP4.out]
        · exact absurd HMINE.out hb
      clear hcut
      go_wp2_with fail
      refine (prefix_any (3 - k) _).mono ?_
      rintro e w1 ⟨rfl, rfl⟩
      go_wp2_with fail
      refine (hasprefix_any s (pfx (3 - k)) _).mono ?_
      rintro e w1 ⟨rfl, hhas⟩
      obtain rfl : e = .returned (.bool false) := by
        rcases hhas with ⟨hb, rfl⟩ | ⟨hb, rfl⟩
        · exact absurd hb HO.out
        · exact rfl
      clear hhas
      go_wp2_with fail
      rw [← HRR.out]
      refine (frombase64_any r _ HRS.out H.out).mono ?_
      rintro e w2 ⟨rfl, h2⟩
      rw [HFS.out, HRV.out]
      go_wp2_with fail
      refine (newreader_any B _ h2).mono ?_
      rintro e w3 ⟨rb, rfl, h3⟩
      have H3 := Lib.hid h3.toRdr0
      clear h2 h3
      go_wp2_with fail
      refine (rnum_all rb B 0 8 n (restB B 8) 0 _ HN.out H3.out).mono ?_
      rintro e w4 ⟨rfl, h4⟩
      go_wp2_with fail
      refine (rraw_all rb (restB B 8) 0 24 C (restB (restB B 8) 24) 0 _ HW.out h4).mono ?_
      rintro e w5 ⟨rfl, h5⟩
      have H5 := Lib.hid h5.drop
      clear h4 h5
      go_wp2_with fail
      refine (laid_any k n C _ HN63.out HCS.out H5.out).mono ?_
      rintro e w6 ⟨rfl, h6⟩
      rw [HDD.out, hDB]
      have H6 := Lib.hid h6
      clear h6 hDB
      go_wp2_with fail
      go_ret3
      exact .inl ⟨rfl, rfl, H6.out⟩
    · rw [if_neg heq] at er0
      rw [er0]
      have hDB : (B.toList == D.toList) = false := by
        rw [Bool.eq_false_iff]
        exact fun e => heq (hLB.1 ((str_iff _ _).1 e).symm)
      have HF : Hid (∀ w' f, Own E w' (Hp.blk f FT #[.int .i64 k, sentV a2] :: L) → ReadSaid E L k a0 a1 a2 (0, ⟨#[]⟩, 172) (.returned (.tuple #[.int .i64 0, .string ⟨#[]⟩, faultV f])) w') := Lib.hid fun w' f hq => .inr ⟨f, a2, .inr (.inr ⟨rfl, rfl⟩), rfl, hq⟩
      clear er0 ho h hsz hmine hfs hp4 hrlen hrn hrw hB hBd hrv hLB hn hrest hrsz hC hCd hbad heq hD
      go_enter Tryd.func19, Tryd.ntmps19
      go_wp2_with fail
      refine (prefix_any k _).mono ?_
      rintro e w1 ⟨rfl, rfl⟩
      go_wp2_with fail
      refine (cutprefix_any s (pfx k) _).mono ?_
      rintro e w1 ⟨rfl, hcut⟩
      obtain rfl : e = .returned (.tuple #[.string (restB s 4), .bool true]) := by
        rcases hcut with ⟨-, rfl⟩ | ⟨hb, -⟩
        · rw [HP4.out]
        · exact absurd HMINE.out hb
      clear hcut
      go_wp2_with fail
      refine (prefix_any (3 - k) _).mono ?_
      rintro e w1 ⟨rfl, rfl⟩
      go_wp2_with fail
      refine (hasprefix_any s (pfx (3 - k)) _).mono ?_
      rintro e w1 ⟨rfl, hhas⟩
      obtain rfl : e = .returned (.bool false) := by
        rcases hhas with ⟨hb, rfl⟩ | ⟨hb, rfl⟩
        · exact absurd hb HO.out
        · exact rfl
      clear hhas
      go_wp2_with fail
      rw [← HRR.out]
      refine (frombase64_any r _ HRS.out H.out).mono ?_
      rintro e w2 ⟨rfl, h2⟩
      rw [HFS.out, HRV.out]
      go_wp2_with fail
      refine (newreader_any B _ h2).mono ?_
      rintro e w3 ⟨rb, rfl, h3⟩
      have H3 := Lib.hid h3.toRdr0
      clear h2 h3
      go_wp2_with fail
      refine (rnum_all rb B 0 8 n (restB B 8) 0 _ HN.out H3.out).mono ?_
      rintro e w4 ⟨rfl, h4⟩
      go_wp2_with fail
      refine (rraw_all rb (restB B 8) 0 24 C (restB (restB B 8) 24) 0 _ HW.out h4).mono ?_
      rintro e w5 ⟨rfl, h5⟩
      have H5 := Lib.hid h5.drop
      clear h4 h5
      go_wp2_with fail
      refine (laid_any k n C _ HN63.out HCS.out H5.out).mono ?_
      rintro e w6 ⟨rfl, h6⟩
      rw [HDD.out]
      have H6 := Lib.hid h6
      clear h6
      go_wp2_with fail
      refine wp_region_text [1] (fun w' => w'.cell? ⟨2, 0, none⟩ = some (sentV a2)) (by kernel_rfl) ?_ (fun hS => ?_)
      · exact (hG.2 _ H6.out.drew).1.2.2
      refine wpAnyG_pure (i := 0) (oi := ⟨some 78, _, _, _, _, _⟩) (v := ?_) rfl (by kernel_rfl) (by kernel_rfl) (by kernel_rfl) (by rfl) (fun _ _ _ h => h) (by rfl) ?_ ?_
      rotate_left
      · intro w
        go_simp
        first | done | with_reducible rfl
      try simp only [Act.put, List.setIfInBounds_toArray, List.set_cons_zero, List.set_cons_succ]
      refine wpAnyG_load (i := 1) (oi := ⟨some 79, _, _, _, _, _⟩) (v := ?_) rfl (by kernel_rfl) (by kernel_rfl) (by kernel_rfl) (by rfl) (fun _ _ _ h => h) (by rfl) ?_ (by assumption) ?_
      rotate_left
      · intro w hS
        try dsimp only at hS
        go_simp
        first | done | with_reducible rfl
      try simp only [Act.put, List.setIfInBounds_toArray, List.set_cons_zero, List.set_cons_succ]
      refine wpAnyG_pure (i := 2) (oi := ⟨some 80, _, _, _, _, _⟩) (v := ?_) rfl (by kernel_rfl) (by kernel_rfl) (by kernel_rfl) (by rfl) (fun _ _ _ h => h) (by rfl) ?_ ?_
      rotate_left
      · intro w
        go_simp
        first | done | with_reducible rfl
      try simp only [Act.put, List.setIfInBounds_toArray, List.set_cons_zero, List.set_cons_succ]
      refine wpAnyG_pure (i := 5) (oi := ⟨some 4, _, _, _, _, _⟩) (v := ?_) rfl (by kernel_rfl) (by kernel_rfl) (by kernel_rfl) (by rfl) (fun _ _ _ h => h) (by rfl) ?_ ?_
      rotate_left
      · intro w
        go_simp
        first | done | with_reducible rfl
      try simp only [Act.put, List.setIfInBounds_toArray, List.set_cons_zero, List.set_cons_succ]
      refine wpAnyG_pure (i := 6) (oi := ⟨some 5, _, _, _, _, _⟩) (v := ?_) rfl (by kernel_rfl) (by kernel_rfl) (by kernel_rfl) (by rfl) (fun _ _ _ h => h) (by rfl) ?_ ?_
      rotate_left
      · intro w
        go_simp
        first | done | with_reducible rfl
      try simp only [Act.put, List.setIfInBounds_toArray, List.set_cons_zero, List.set_cons_succ]
      refine wpAnyG_keep (i := 3) (oi := ⟨some 81, _, _, _, _, _⟩) (by kernel_rfl) rfl (fun K hK => ?_)
      rw [if_pos (by rfl)]
      go_simp
      refine hK.out _ _ ?_ (fun hS => ?_)
      · exact (hG.cons.2 _ (H6.out.drew.alloc _)).1.2.2
      clear hK K
      try simp only [Act.put, List.setIfInBounds_toArray, List.set_cons_zero, List.set_cons_succ]
      refine wpAnyG_pure (i := 4) (oi := ⟨some 82, _, _, _, _, _⟩) (v := ?_) rfl (by kernel_rfl) (by kernel_rfl) (by kernel_rfl) (by rfl) (fun _ _ _ h => h) (by rfl) ?_ ?_
      rotate_left
      · intro w
        go_simp
        first | done | with_reducible rfl
      try simp only [Act.put, List.setIfInBounds_toArray, List.set_cons_zero, List.set_cons_succ]
      refine wpAnyG_pure (i := 7) (oi := ⟨some 6, _, _, _, _, _⟩) (v := ?_) rfl (by kernel_rfl) (by kernel_rfl) (by kernel_rfl) (by rfl) (fun _ _ _ h => h) (by rfl) ?_ ?_
      rotate_left
      · intro w
        go_simp
        first | done | with_reducible rfl
      try simp only [Act.put, List.setIfInBounds_toArray, List.set_cons_zero, List.set_cons_succ]
      refine wpAnyG_done (by kernel_rfl) ?_ _
      refine NoPanic.normal ?_
      go_wp2_with fail
      go_ret3
      exact HF.out _ _ (H6.out.drew.alloc _).drew
end
end Go.Proofs.YtilcilbmbhbakaaDoor
