/- RecordOrder: the walk with its contracts laid in. -/
import Derived.Test.YtabibfabieghpaaGreatDoorOrdWalk
namespace Go.Proofs.YtabibfabieghpaaGreatDoor
open Go.RowKit
structure Fmv where
  (id : Int) (cl su : ByteArray) (A : Option Addr) (n c : Nat) (xs : List ByteArray) (cr us ii ab gr ge tk st en co : Int)
structure Tkv where
  (a b c : Int) (s : ByteArray) (d : Int) (f : Bool) (e g : Int) (r : ByteArray)
def Fmv.C (x : Fmv) : List Value := famC x.id x.cl x.su x.A x.n x.c x.cr x.us x.ii x.ab x.gr x.ge x.tk x.st x.en x.co
def Fmv.May (x : Fmv) : Prop := famMay x.id x.cl x.su x.xs x.cr x.us x.ii x.ab x.gr x.ge x.tk x.st x.en x.co
def Fmv.R (x : Fmv) : ByteArray × ByteArray × Int := famR x.id x.cl x.su x.xs x.cr x.us x.ii x.ab x.gr x.ge x.tk x.st x.en x.co
def Fmv.fin (x : Fmv) : Int := endV x.st x.cr x.us x.ii x.ab x.en
def Fmv.In (S : Ph) (x : Fmv) : Prop := Rds S 1 enStr x.A x.n x.xs ∧ x.n ≤ x.c ∧ x.n ≤ 8796093022208
def Tkv.C (x : Tkv) : List Value := tokC x.a x.b x.c x.s x.d x.f x.e x.g x.r
def Tkv.May (x : Tkv) : Prop := tokMay x.a x.b x.c x.s x.d x.f x.e x.g x.r
def Tkv.R (x : Tkv) : ByteArray × ByteArray × Int := tokR x.a x.b x.c x.s x.d x.f x.e x.g x.r
theorem Fmv.err (x : Fmv) : x.R.2.2 = 0 ∨ x.R.2.2 = 140 := by
  unfold Fmv.R famR
  split
  · exact .inl rfl
  · exact .inr rfl
theorem Fmv.ok {x : Fmv} (h : x.R.2.2 = 0) : x.May ∧ x.R.1 = famK x.id := by
  unfold Fmv.R famR at h ⊢
  split at h
  · rename_i hm
    exact ⟨hm, by rw [if_pos hm]⟩
  · cases h
theorem Tkv.err (x : Tkv) : x.R.2.2 = 0 ∨ x.R.2.2 = 140 := by
  unfold Tkv.R tokR
  split
  · exact .inl rfl
  · exact .inr rfl
theorem Tkv.ok {x : Tkv} (h : x.R.2.2 = 0) : x.May ∧ x.R.1 = tokK x.a := by
  unfold Tkv.R tokR at h ⊢
  split at h
  · rename_i hm
    exact ⟨hm, by rw [if_pos hm]⟩
  · cases h
section
variable {E : World} {S : Ph} {L : List Hp}
theorem Fmv.print (x : Fmv) (hx : x.In S) (M : List Hp) (w : World) (hG : Laid0 E (Hp.ro S :: M)) (h : Own E w (Hp.ro S :: M)) :
    Calls Tryz.prog 28 #[.agg x.C.toArray] w fun ev w' => ev = .returned (.tuple #[.agg #[.string x.R.1, .string x.R.2.1], .int .i64 x.R.2.2]) ∧ Own E w' (Hp.ro S :: M) :=
  printfam_any x.id x.cl x.su x.A x.n x.c x.cr x.us x.ii x.ab x.gr x.ge x.tk x.st x.en x.co x.xs w hx.1 hx.2.1 hx.2.2 hG h
theorem Fmv.off (x : Fmv) (hx : x.In S) (hm : x.May) (M : List Hp) (w : World) (hG : Laid0 E (Hp.ro S :: M)) (h : Own E w (Hp.ro S :: M)) :
    Calls Tryz.prog 29 #[.agg x.C.toArray] w fun ev w' => ∃ g, ev = .returned (.tuple #[.slice (some ⟨g, 0, none⟩) 2 2, .int .i64 0]) ∧ Own E w' (Hp.blk g ITT #[.string (exK x.fin x.id), .string ⟨#[]⟩, .string (suK x.su x.id), .string ⟨#[]⟩] :: Hp.ro S :: M) :=
  offam_any x.id x.cl x.su x.A x.n x.c x.cr x.us x.ii x.ab x.gr x.ge x.tk x.st x.en x.co x.xs w hm hx.1 hx.2.1 hx.2.2 hG h
theorem Fmv.ends (x : Fmv) (M : List Hp) (w : World) (_ : Laid0 E M) (h : Own E w M) :
    Calls Tryz.prog 30 #[.agg x.C.toArray] w fun ev w' => ev = .returned (.int .i64 x.fin) ∧ Own E w' M :=
  end_any x.id x.cl x.su x.A x.n x.c x.cr x.us x.ii x.ab x.gr x.ge x.tk x.st x.en x.co w h
theorem Tkv.print (x : Tkv) (M : List Hp) (w : World) (hG : Laid0 E M) (h : Own E w M) :
    Calls Tryz.prog 11 #[.agg x.C.toArray] w fun ev w' => ev = .returned (.tuple #[.agg #[.string x.R.1, .string x.R.2.1], .int .i64 x.R.2.2]) ∧ Own E w' M :=
  printtok_any x.a x.b x.c x.s x.d x.f x.e x.g x.r w hG h
theorem Tkv.off (x : Tkv) (hm : x.May) (M : List Hp) (w : World) (hG : Laid0 E M) (h : Own E w M) :
    Calls Tryz.prog 14 #[.agg x.C.toArray] w fun ev w' => ev = .returned (.tuple #[.agg #[.string (ofK x.b x.c), .string (ofV x.a)], .int .i64 0]) ∧ Own E w' M := by
  have hh := oftok_any x.a x.b x.c x.s x.d x.f x.e x.g x.r w hG h
  have e : ofR x.a x.b x.c x.s x.d x.f x.e x.g x.r = (ofK x.b x.c, ofV x.a, 0) := if_pos hm
  rw [e] at hh
  exact hh
theorem id_range {z : Int} (h : 1 ≤ z ∧ z ≤ 4611686018427387904) : 0 ≤ z ∧ z < 256 ^ 8 := by
  have : (256 : Int) ^ 8 = 18446744073709551616 := by decide
  omega
theorem tm_range {z : Int} (h : 0 ≤ z ∧ z ≤ 1099511627776) : 0 ≤ z ∧ z < 256 ^ 6 := by
  have : (256 : Int) ^ 6 = 281474976710656 := by decide
  omega
theorem gn_range {z : Int} (h : 1 ≤ z ∧ z ≤ 1073741824) : 0 ≤ z ∧ z < 256 ^ 4 := by
  have : (256 : Int) ^ 4 = 4294967296 := by decide
  omega
theorem order_any (x y : Fmv) (t u : Tkv) (w : World) (hx : x.In S) (hy : y.In S) (hG : Laid0 E (Hp.ro S :: L)) (h : Own E w (Hp.ro S :: L)) :
    Calls Tryz.prog 4 #[.agg x.C.toArray, .agg y.C.toArray, .agg t.C.toArray, .agg u.C.toArray] w fun ev w' => ev = .returned (.bool true) ∧ Own E w' (Hp.ro S :: L) := by
  refine order_walk x.C y.C t.C u.C x.id y.id x.su y.su x.R.1 x.R.2.1 y.R.1 y.R.2.1 x.R.2.2 y.R.2.2 t.a t.b t.c u.a u.b u.c t.R.1 t.R.2.1 u.R.1 u.R.2.1 t.R.2.2 u.R.2.2 w rfl rfl rfl rfl rfl rfl rfl rfl rfl rfl rfl rfl rfl rfl
    (x.print hx) (y.print hy) t.print u.print x.err y.err t.err u.err ?_ ?_ hG h
  · intro h1 h2
    obtain ⟨m1, k1⟩ := Fmv.ok h1
    obtain ⟨m2, k2⟩ := Fmv.ok h2
    have i1 : 1 ≤ x.id ∧ x.id ≤ 4611686018427387904 := m1.1
    have i2 : 1 ≤ y.id ∧ y.id ≤ 4611686018427387904 := m2.1
    have e1 : 0 ≤ x.fin ∧ x.fin ≤ 1099511627776 := end_range m1
    have e2 : 0 ≤ y.fin ∧ y.fin ≤ 1099511627776 := end_range m2
    have n1 : nameB x.su = true := m1.2.2.1
    refine ⟨exK x.fin x.id, suK x.su x.id, exK y.fin y.id, suK y.su y.id, x.fin, y.fin, x.off hx m1, y.off hy m2, x.ends, y.ends, ?_, ?_, ?_, ?_, ?_⟩
    · rw [slt_walk, k1, k2]
      exact key_less 102 8 _ _ (id_range i1) (id_range i2)
    · rw [slt_walk]
      exact pair_less 120 6 8 _ _ _ _ (tm_range e1) (tm_range e2) (id_range i1) (id_range i2)
    · intro hs
      rw [slt_walk, hs]
      exact su_less _ _ _ (id_range i1) (id_range i2)
    · exact fun M w hG h => pidx_x x.fin x.id w e1 i1 hG h
    · exact fun M w hG h => pidx_s x.su x.id w n1 i1 hG h
  · intro h1 h2
    obtain ⟨m1, k1⟩ := Tkv.ok h1
    obtain ⟨m2, k2⟩ := Tkv.ok h2
    obtain ⟨a1, b1, c1, -⟩ := tok_range m1
    obtain ⟨a2, b2, c2, -⟩ := tok_range m2
    refine ⟨ofK t.b t.c, ofV t.a, ofK u.b u.c, ofV u.a, t.off m1, u.off m2, ?_, ?_, ?_⟩
    · rw [slt_walk, k1, k2]
      exact key_less 116 8 _ _ (id_range a1) (id_range a2)
    · rw [slt_walk]
      exact pair_less 109 8 4 _ _ _ _ (id_range b1) (id_range b2) (gn_range c1) (gn_range c2)
    · exact fun M w hG h => pidx_m t.a t.b t.c w a1 b1 c1 hG h
end
end Go.Proofs.YtabibfabieghpaaGreatDoor
