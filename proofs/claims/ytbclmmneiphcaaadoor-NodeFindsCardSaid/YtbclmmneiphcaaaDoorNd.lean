/- Nodes as data: their form, size and rightness, in plain Lean; a node in memory. -/
import Derived.Test.YtbclmmneiphcaaaDoorBetween
namespace Go.Proofs.YtbclmmneiphcaaaDoor
open Go.RowKit
/-- A node, as data. -/
structure Nd where
  leaf : Bool
  ks : List ByteArray
  vs : List ByteArray
  ls : List Int
def Nd.nil : Nd := ⟨false, [], [], []⟩
def sumSz (l : List ByteArray) : Nat := (l.map ByteArray.size).sum
theorem sumSz_nil : sumSz [] = 0 := rfl
theorem sumSz_app (a b : List ByteArray) : sumSz (a ++ b) = sumSz a + sumSz b := by simp [sumSz]
theorem sumSz_take (l : List ByteArray) (k : Nat) (x : ByteArray) (h : l[k]? = some x) : sumSz (l.take (k + 1)) = sumSz (l.take k) + x.size := by
  rw [List.take_add_one, h, sumSz_app]; simp [sumSz]
theorem sumSz_le (l : List ByteArray) (k : Nat) : sumSz (l.take k) ≤ sumSz l := by
  conv => rhs; rw [← List.take_append_drop k l]
  rw [sumSz_app]; omega
/-- Size. -/
def Nd.size (n : Nd) : Nat := if n.leaf then sumSz n.ks + sumSz n.vs + 2 * max n.ks.length n.vs.length else sumSz n.ks + n.ks.length + 4 * n.ls.length
/-- All that is reckoned with. -/
def Nd.bulk (n : Nd) : Nat := sumSz n.ks + sumSz n.vs + n.ks.length + n.vs.length + n.ls.length
theorem Nd.size_le (n : Nd) : n.size ≤ 5 * n.bulk := by
  unfold Nd.size Nd.bulk
  split <;> omega
def isKeyB (s : ByteArray) : Bool := decide (1 ≤ s.size ∧ s.size ≤ 36)
def mayB (l : List ByteArray) : Bool := l.all isKeyB && risesB l
def kidB (k : Int) : Bool := decide (2 ≤ k ∧ k ≤ 4294967295)
def kidsB (l : List Int) : Bool := l.all kidB && decide l.Nodup
def Nd.formed (n : Nd) (least : Nat) : Bool :=
  if n.leaf then decide (least ≤ n.ks.length ∧ n.vs.length = n.ks.length ∧ n.ls.length = 0) && n.vs.all (fun s => decide (s.size ≤ 200))
  else decide (1 ≤ n.ks.length ∧ n.ls.length = n.ks.length + 1 ∧ n.vs.length = 0) && kidsB n.ls
def Nd.wrong (n : Nd) : Int := if n.formed 1 then if mayB n.ks then if 480 < n.size then 102 else 0 else 101 else 100
/- IN MEMORY -/
/-- Where a node's lists lie. -/
structure Nv where
  a1 : Option Addr
  c1 : Nat
  a2 : Option Addr
  c2 : Nat
  a3 : Option Addr
  c3 : Nat
abbrev Nv.val (v : Nv) (n : Nd) : Value := .agg #[.bool n.leaf, .slice v.a1 n.ks.length v.c1, .slice v.a2 n.vs.length v.c2, .slice v.a3 n.ls.length v.c3]
structure NdIn (S : Ph) (v : Nv) (n : Nd) : Prop where
  r1 : Rds S 1 enStr v.a1 n.ks.length n.ks
  r2 : Rds S 1 enStr v.a2 n.vs.length n.vs
  r3 : Rds S 1 en64 v.a3 n.ls.length n.ls
  h1 : n.ks.length ≤ v.c1
  h2 : n.vs.length ≤ v.c2
  h3 : n.ls.length ≤ v.c3
  m1 : v.c1 ≤ maxLen
  m2 : v.c2 ≤ maxLen
  m3 : v.c3 ≤ maxLen
theorem NdIn.sub {S T : Ph} {v : Nv} {n : Nd} (h : NdIn S v n) (hs : ∀ k o, S k = some o → T k = some o) : NdIn T v n :=
  ⟨h.r1.sub hs, h.r2.sub hs, h.r3.sub hs, h.h1, h.h2, h.h3, h.m1, h.m2, h.m3⟩
/-- A part is lent, and given back. -/
theorem Own.lend {E w : World} {A : Hp} {S : Ph} {L : List Hp} (h : Own E w (A :: Hp.ro S :: L)) :
    ∃ a : Ph, A a ∧ Ph.apart a S ∧ Own E w (Hp.ro (Ph.join a S) :: L) := by
  obtain ⟨h1, h2, h3, _, hx, a, b, hd, rfl, hA, hL⟩ := h
  have h4 : Own E w (Hp.ro a :: Hp.ro S :: L) := ⟨h1, h2, h3, _, hx, a, b, hd, rfl, rfl, hL⟩
  exact ⟨a, hA, h4.merge.2, h4.merge.1⟩
theorem Own.give {E w : World} {A : Hp} {S a : Ph} {L : List Hp} (hA : A a) (hd : Ph.apart a S) (h : Own E w (Hp.ro (Ph.join a S) :: L)) : Own E w (A :: Hp.ro S :: L) :=
  (h.part hd).imp fun x hx => by have hx' : x = a := hx; rw [hx']; exact hA
theorem Ph.join_l {a S : Ph} : ∀ k o, a k = some o → (Ph.join a S) k = some o := fun _ _ h => Ph.join_some h
theorem Ph.join_r {a S : Ph} (hd : Ph.apart a S) : ∀ k o, S k = some o → (Ph.join a S) k = some o := fun k o h => by
  rw [Ph.join_comm hd]; exact Ph.join_some h
end Go.Proofs.YtbclmmneiphcaaaDoor
