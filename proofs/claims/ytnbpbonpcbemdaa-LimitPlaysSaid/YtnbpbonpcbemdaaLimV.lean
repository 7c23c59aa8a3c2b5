/- Take of anything, the program's and the reference's, by one relation; a place of two limiters. -/
import Derived.Test.YtnbpbonpcbemdaaLimT
import Derived.Test.YtnbpbonpcbemdaaLimU
import Derived.Test.YtnbpbonpcbemdaaLimQ
namespace Go.Proofs.Ytnbpbonpcbemdaa
open Go.RowKit
theorem nmF_size (c : Int) (s : ByteArray) (h : s.size ≤ 1000000000000000000) : (nmF c s).size ≤ 1000000000000000000 := by
  unfold nmF
  split
  · exact h
  · exact nmS_size _
/-- what a Real comes to -/
def RealR (x : Rl) (r : Nat) : Prop := (x.kind = 1 ∧ Fl.prB r = false ∧ r < 4294967296) ∨ (x.kind ≠ 1 ∧ r = realF x)
theorem RealR.lt {x : Rl} {r : Nat} (h : RealR x r) : r < 4294967296 := by
  rcases h with ⟨_, _, h⟩ | ⟨_, rfl⟩
  · exact h
  · exact realF_lt x
theorem RealR.same {x : Rl} {r u : Nat} (h1 : RealR x r) (h2 : RealR x u) : r = u ∨ (Fl.prB r = false ∧ Fl.prB u = false) := by
  rcases h1 with ⟨a, b, _⟩ | ⟨a, b⟩ <;> rcases h2 with ⟨c, d, _⟩ | ⟨c, d⟩
  · exact .inr ⟨b, d⟩
  · exact absurd a c
  · exact absurd c a
  · exact .inl (b.trans d.symm)
/-- what Take comes to -/
def TakeR (rate burst : Nat) (l : List Bkt) (s : ByteArray) (cost : Nat) (now : Int) (n er : Nat) (l' : List Bkt) : Prop :=
  ((nameB s = false ∨ Fl.prB cost = false) ∧ n = 0 ∧ er = 1 ∧ l' = l) ∨
  (nameB s = true ∧ Fl.prB cost = true ∧ hasN rate burst l s now < Fl.Z cost ∧ IsWait (fun d => enoughB rate burst (ofN burst l s (nearN now)).level cost ((nearN now - (ofN burst l s (nearN now)).at_).toNat + d)) n ∧ er = 241 ∧ l' = l) ∨
  (nameB s = true ∧ Fl.prB cost = true ∧ Fl.Z cost ≤ hasN rate burst l s now ∧ n = 0 ∧ er = 0 ∧ l' = tookN rate burst l s cost now)
theorem TakeR.same {rate burst : Nat} {l : List Bkt} {s : ByteArray} {r u : Nat} {now : Int} {n er m f : Nat} {l1 l2 : List Bkt} (h1 : TakeR rate burst l s r now n er l1) (h2 : TakeR rate burst l s u now m f l2)
    (hru : r = u ∨ (Fl.prB r = false ∧ Fl.prB u = false)) : n = m ∧ er = f ∧ l1 = l2 := by
  rcases hru with rfl | ⟨b1, b2⟩
  · rcases h1 with ⟨a, rfl, rfl, rfl⟩ | ⟨a1, a2, a3, a4, rfl, rfl⟩ | ⟨a1, a2, a3, rfl, rfl, rfl⟩ <;>
      rcases h2 with ⟨c, rfl, rfl, rfl⟩ | ⟨c1, c2, c3, c4, rfl, rfl⟩ | ⟨c1, c2, c3, rfl, rfl, rfl⟩
    · exact ⟨rfl, rfl, rfl⟩
    · rw [c1, c2] at a; rcases a with a | a <;> cases a
    · rw [c1, c2] at a; rcases a with a | a <;> cases a
    · rw [a1, a2] at c; rcases c with c | c <;> cases c
    · exact ⟨a4.uniq c4, rfl, rfl⟩
    · omega
    · rw [a1, a2] at c; rcases c with c | c <;> cases c
    · omega
    · exact ⟨rfl, rfl, rfl⟩
  · rcases h1 with ⟨a, rfl, rfl, rfl⟩ | ⟨a1, a2, -⟩ | ⟨a1, a2, -⟩
    · rcases h2 with ⟨c, rfl, rfl, rfl⟩ | ⟨c1, c2, -⟩ | ⟨c1, c2, -⟩
      · exact ⟨rfl, rfl, rfl⟩
      · rw [b2] at c2; cases c2
      · rw [b2] at c2; cases c2
    · rw [b1] at a2; cases a2
    · rw [b1] at a2; cases a2
theorem TakeR.ok {rate burst : Nat} {l : List Bkt} {s : ByteArray} {r : Nat} {now : Int} {n er : Nat} {l1 : List Bkt} (h1 : TakeR rate burst l s r now n er l1) (hb : burst < 2139095040) (hok : LimOk burst l) (hnd : (l.map Bkt.name).Nodup) : LimOk burst l1 ∧ (l1.map Bkt.name).Nodup := by
  rcases h1 with ⟨-, -, -, rfl⟩ | ⟨-, -, -, -, -, rfl⟩ | ⟨-, -, -, -, -, rfl⟩
  · exact ⟨hok, hnd⟩
  · exact ⟨hok, hnd⟩
  · exact ⟨tookN_ok hok hb, took_nodup hnd⟩
/-- A limiter as it stands. -/
structure Lm where
  rate : Nat
  burst : Nat
  l : List Bkt
structure LmOk (x : Lm) : Prop where
  r : Fl.Pr x.rate
  b : x.burst < 2139095040
  ok : LimOk x.burst x.l
  nd : (x.l.map Bkt.name).Nodup
/-- A place of both: two that list the same, or none. -/
def Hp.two (x : Option Lm) (p q : Value) : Hp := match x with
  | none => Hp.pure (p = .pointer none ∧ q = .pointer none)
  | some y => Hp.ex fun b : Nat => Hp.ex fun b2 : Nat => Hp.all [Hp.pure (LmOk y ∧ p = .pointer (some ⟨b, 0, none⟩) ∧ q = .pointer (some ⟨b2, 0, none⟩)), Hp.lim b y.rate y.burst y.l, Hp.rlim b2 y.rate y.burst y.l]
/-- A part that is there only if c. -/
def Hp.opt (c : Bool) (A : Hp) : Hp := if c then A else Hp.emp
theorem Own.optTrue {E w : World} {L : List Hp} {A : Hp} {c : Bool} (hc : c = true) (h : Own E w (A :: L)) : Own E w (Hp.opt c A :: L) := by subst hc; exact h
theorem Own.ofOpt {E w : World} {L : List Hp} {A : Hp} {c : Bool} (hc : c = true) (h : Own E w (Hp.opt c A :: L)) : Own E w (A :: L) := by subst hc; exact h
theorem Own.optFalse {E w : World} {L : List Hp} (A : Hp) (h : Own E w L) : Own E w (Hp.opt false A :: L) := Own.emp.2 h
section
variable {E w : World} {L : List Hp}
theorem Own.twoNone {p q : Value} (h : Own E w (Hp.two none p q :: L)) : p = .pointer none ∧ q = .pointer none := (Own.pure.1 h).1
theorem Own.toNone (h : Own E w L) : Own E w (Hp.two none (.pointer none) (.pointer none) :: L) := Own.pure.2 ⟨⟨rfl, rfl⟩, h⟩
theorem Own.twoSome {y : Lm} {p q : Value} (h : Own E w (Hp.two (some y) p q :: L)) : ∃ b b2 : Nat, LmOk y ∧ p = .pointer (some ⟨b, 0, none⟩) ∧ q = .pointer (some ⟨b2, 0, none⟩) ∧ Own E w (Hp.lim b y.rate y.burst y.l :: Hp.rlim b2 y.rate y.burst y.l :: L) := by
  obtain ⟨b, h⟩ := Own.ex.1 h
  obtain ⟨b2, h⟩ := Own.ex.1 h
  have h := Own.star.1 h
  obtain ⟨⟨h1, h2, h3⟩, h⟩ := Own.pure.1 h
  exact ⟨b, b2, h1, h2, h3, h⟩
theorem Own.toSome {y : Lm} {b b2 : Nat} (hy : LmOk y) (h : Own E w (Hp.lim b y.rate y.burst y.l :: Hp.rlim b2 y.rate y.burst y.l :: L)) : Own E w (Hp.two (some y) (.pointer (some ⟨b, 0, none⟩)) (.pointer (some ⟨b2, 0, none⟩)) :: L) :=
  Own.ex.2 ⟨b, Own.ex.2 ⟨b2, Own.star.2 (Own.pure.2 ⟨⟨hy, rfl, rfl⟩, h⟩)⟩⟩
abbrev LAT : TypeId := 44
abbrev RLAT : TypeId := 46
/-- Both arrays and what they point to. -/
def twos (ga gb : Nat) (X : Nat → Option Lm) (p q : Nat → Value) (L : List Hp) : List Hp := Hp.blk ga LAT #[p 0, p 1] :: Hp.blk gb RLAT #[q 0, q 1] :: Hp.two (X 0) (p 0) (q 0) :: Hp.two (X 1) (p 1) (q 1) :: L
def putAt {α : Type} (f : Nat → α) (k : Nat) (v : α) : Nat → α := fun j => if j = k then v else f j
theorem Own.twosAt {ga gb : Nat} {X : Nat → Option Lm} {p q : Nat → Value} (k : Nat) (hk : k < 2) (h : Own E w (twos ga gb X p q L)) :
    Own E w (Hp.two (X k) (p k) (q k) :: Hp.blk ga LAT #[p 0, p 1] :: Hp.blk gb RLAT #[q 0, q 1] :: Hp.two (X (1 - k)) (p (1 - k)) (q (1 - k)) :: L) := by
  unfold twos at h
  rcases (by omega : k = 0 ∨ k = 1) with rfl | rfl
  · exact h.f2
  · exact h.f3
theorem Own.twosBack {ga gb : Nat} {X : Nat → Option Lm} {p q : Nat → Value} (k : Nat) (hk : k < 2) (x : Option Lm)
    (h : Own E w (Hp.two x (p k) (q k) :: Hp.blk ga LAT #[p 0, p 1] :: Hp.blk gb RLAT #[q 0, q 1] :: Hp.two (X (1 - k)) (p (1 - k)) (q (1 - k)) :: L)) : Own E w (twos ga gb (putAt X k x) p q L) := by
  unfold twos
  rcases (by omega : k = 0 ∨ k = 1) with rfl | rfl
  · exact h.b2
  · exact h.b3
theorem Own.twosPut {ga gb : Nat} {X : Nat → Option Lm} {p q : Nat → Value} (k : Nat) (hk : k < 2) (x : Option Lm) (u v : Value)
    (h : Own E w (Hp.two x u v :: Hp.blk ga LAT (#[p 0, p 1].setIfInBounds k u) :: Hp.blk gb RLAT (#[q 0, q 1].setIfInBounds k v) :: Hp.two (X (1 - k)) (p (1 - k)) (q (1 - k)) :: L)) : Own E w (twos ga gb (putAt X k x) (putAt p k u) (putAt q k v) L) := by
  unfold twos
  rcases (by omega : k = 0 ∨ k = 1) with rfl | rfl
  · exact h.b2
  · exact h.b3
theorem Own.set2 {ga gb k : Nat} {p q : Nat → Value} {T : Hp} (hk : k < 2) (u v : Value) (h : Own E w (T :: Hp.blk ga LAT #[p 0, p 1] :: Hp.blk gb RLAT #[q 0, q 1] :: L)) :
    w.cell? ⟨ga, k, none⟩ = some (p k) ∧ w.frozen? ⟨ga, k, none⟩ = false ∧ (w.setCell ⟨ga, k, none⟩ u).cell? ⟨gb, k, none⟩ = some (q k) ∧ (w.setCell ⟨ga, k, none⟩ u).frozen? ⟨gb, k, none⟩ = false ∧
    Own E ((w.setCell ⟨ga, k, none⟩ u).setCell ⟨gb, k, none⟩ v) (T :: Hp.blk ga LAT (#[p 0, p 1].setIfInBounds k u) :: Hp.blk gb RLAT (#[q 0, q 1].setIfInBounds k v) :: L) := by
  have g0 : ∀ f : Nat → Value, (#[f 0, f 1] : Array Value)[k]? = some (f k) := fun f => by rcases (by omega : k = 0 ∨ k = 1) with rfl | rfl <;> rfl
  have h1 := h.f1
  have h2 := (h1.set k u).f2
  have h3 := (h2.set k v)
  refine ⟨by rw [h1.cell k]; exact g0 p, h1.frozen k, by rw [h2.cell k]; exact g0 q, h2.frozen k, ?_⟩
  exact h3.f2.f2.f1
theorem pair_get {α : Type} (p : Nat → α) (k : Nat) (hk : k < 2) : (#[p 0, p 1] : Array α)[k]? = some (p k) := by
  rcases (by omega : k = 0 ∨ k = 1) with rfl | rfl <;> rfl
end
section
variable {E : World} {L : List Hp}
theorem takeg_any (b rate burst cost : Nat) (l : List Bkt) (s : ByteArray) (now : Int) (w : World) (hr : Fl.Pr rate) (hb : burst < 2139095040) (hc : cost < 4294967296) (hs : s.size ≤ 1000000000000000000) (hok : LimOk burst l) (h : Own E w (Hp.lim b rate burst l :: L)) :
    Calls Try.prog 12 #[.pointer (some ⟨b, 0, none⟩), .string s, .float .f32 cost, .int .i64 now] w fun e w' =>
      ∃ (n er : Nat) (l' : List Bkt), e = .returned (.tuple #[.int .i64 n, .int .i64 er]) ∧ TakeR rate burst l s cost now n er l' ∧ Own E w' (Hp.lim b rate burst l' :: L) := by
  by_cases hg : nameB s = true ∧ Fl.prB cost = true
  · refine (take_any b rate burst cost l s now w hr hb (Fl.prB_Pr hg.2) hs hg.1 hok h).mono ?_
    rintro e w' (⟨h1, ⟨W, rfl, hW⟩, h⟩ | ⟨h1, rfl, h⟩)
    · exact ⟨W, 241, l, rfl, .inr (.inl ⟨hg.1, hg.2, h1, hW, rfl, rfl⟩), h⟩
    · exact ⟨0, 0, _, rfl, .inr (.inr ⟨hg.1, hg.2, h1, rfl, rfl, rfl⟩), h⟩
  · have hbad : nameB s = false ∨ Fl.prB cost = false := by
      cases h1 : nameB s
      · exact .inl rfl
      · cases h2 : Fl.prB cost
        · exact .inr rfl
        · exact absurd ⟨h1, h2⟩ hg
    refine (take_bad b rate burst cost l s now w hc hs hbad h).mono ?_
    rintro e w' ⟨rfl, h⟩
    exact ⟨0, 1, l, rfl, .inl ⟨hbad, rfl, rfl, rfl⟩, h⟩
theorem xtakeg_any (b rate burst cost : Nat) (l : List Bkt) (s : ByteArray) (now : Int) (w : World) (hr : Fl.Pr rate) (hb : burst < 2139095040) (hc : cost < 4294967296) (hs : s.size ≤ 1000000000000000000) (hok : LimOk burst l) (hnd : (l.map Bkt.name).Nodup) (h : Own E w (Hp.rlim b rate burst l :: L)) :
    Calls Try.prog 16 #[.pointer (some ⟨b, 0, none⟩), .string s, .float .f32 cost, .int .i64 now] w fun e w' =>
      ∃ (n er : Nat) (l' : List Bkt), e = .returned (.tuple #[.int .i64 n, .int .i64 er]) ∧ TakeR rate burst l s cost now n er l' ∧ Own E w' (Hp.rlim b rate burst l' :: L) := by
  by_cases hg : nameB s = true ∧ Fl.prB cost = true
  · refine (xtake_any b rate burst cost l s now w hr hb (Fl.prB_Pr hg.2) hs hg.1 hok hnd h).mono ?_
    rintro e w' (⟨h1, ⟨W, rfl, hW⟩, h⟩ | ⟨h1, rfl, h⟩)
    · exact ⟨W, 241, l, rfl, .inr (.inl ⟨hg.1, hg.2, h1, hW, rfl, rfl⟩), h⟩
    · exact ⟨0, 0, _, rfl, .inr (.inr ⟨hg.1, hg.2, h1, rfl, rfl, rfl⟩), h⟩
  · have hbad : nameB s = false ∨ Fl.prB cost = false := by
      cases h1 : nameB s
      · exact .inl rfl
      · cases h2 : Fl.prB cost
        · exact .inr rfl
        · exact absurd ⟨h1, h2⟩ hg
    refine (xtake_bad b cost s now w hc hs hbad h).mono ?_
    rintro e w' ⟨rfl, h⟩
    exact ⟨0, 1, l, rfl, .inl ⟨hbad, rfl, rfl, rfl⟩, h⟩
/-- what New answers -/
def NewV (c : Bool) (bb : Nat) (p : Value) (er : Nat) : Prop := (c = true ∧ p = .pointer (some ⟨bb, 0, none⟩) ∧ er = 0) ∨ (c = false ∧ p = .pointer none ∧ er = 240)
theorem new2_any (rate burst : Nat) (w : World) (hr : rate < 4294967296) (hb : burst < 4294967296) (h : Own E w L) :
    Calls Try.prog 8 #[.float .f32 rate, .float .f32 burst] w fun e w' => ∃ (bb er : Nat) (p : Value), e = .returned (.tuple #[p, .int .i64 er]) ∧ NewV (newB rate burst) bb p er ∧ Own E w' (Hp.opt (newB rate burst) (Hp.lim bb rate burst []) :: L) := by
  refine (newg_any rate burst w hr hb h).mono ?_
  rintro e w' (⟨h1, b, rfl, h⟩ | ⟨h1, rfl, h⟩)
  · exact ⟨b, 0, _, rfl, .inl ⟨h1, rfl, rfl⟩, Own.optTrue h1 h⟩
  · exact ⟨0, 240, _, rfl, .inr ⟨h1, rfl, rfl⟩, by rw [h1]; exact Own.optFalse _ h⟩
theorem xnew2_any (rate burst : Nat) (w : World) (hr : rate < 4294967296) (hb : burst < 4294967296) (h : Own E w L) :
    Calls Try.prog 15 #[.float .f32 rate, .float .f32 burst] w fun e w' => ∃ (bb er : Nat) (p : Value), e = .returned (.tuple #[p, .int .i64 er]) ∧ NewV (newB rate burst) bb p er ∧ Own E w' (Hp.opt (newB rate burst) (Hp.rlim bb rate burst []) :: L) := by
  refine (xnew_any rate burst w hr hb h).mono ?_
  rintro e w' (⟨h1, b, rfl, h⟩ | ⟨h1, rfl, h⟩)
  · exact ⟨b, 0, _, rfl, .inl ⟨h1, rfl, rfl⟩, Own.optTrue h1 h⟩
  · exact ⟨0, 240, _, rfl, .inr ⟨h1, rfl, rfl⟩, by rw [h1]; exact Own.optFalse _ h⟩
/-- what New comes to, of two Reals -/
theorem newB_bad1 {r b : Nat} (h : Fl.prB r = false) : newB r b = false := by unfold newB; rw [h]; rfl
theorem newB_bad2 {r b : Nat} (h : Fl.prB b = false) : newB r b = false := by unfold newB; rw [h, Bool.and_false]; rfl
theorem newB_same {x y : Rl} {r b r2 b2 : Nat} (h1 : RealR x r) (h2 : RealR y b) (h3 : RealR x r2) (h4 : RealR y b2) : (newB r b = false ∧ newB r2 b2 = false) ∨ (newB r b = true ∧ r = r2 ∧ b = b2) := by
  rcases h1.same h3 with rfl | ⟨e1, e2⟩
  · rcases h2.same h4 with rfl | ⟨e1, e2⟩
    · cases h : newB r b
      · exact .inl ⟨rfl, rfl⟩
      · exact .inr ⟨rfl, rfl, rfl⟩
    · exact .inl ⟨newB_bad2 e1, newB_bad2 e2⟩
  · exact .inl ⟨newB_bad1 e1, newB_bad1 e2⟩
theorem newB_LmOk {r b : Nat} (h : newB r b = true) : LmOk ⟨r, b, []⟩ := by
  obtain ⟨h1, h2, h3⟩ := newB_fin h
  exact ⟨h1, h2, ⟨Nat.zero_le _, fun x hx => (by cases hx), fun x hx => (by cases hx)⟩, List.nodup_nil⟩
end
end Go.Proofs.Ytnbpbonpcbemdaa
