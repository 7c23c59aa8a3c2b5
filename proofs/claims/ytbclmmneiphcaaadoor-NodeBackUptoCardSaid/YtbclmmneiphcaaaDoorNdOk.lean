/- Nodes as data: their form, size and rightness, in plain Lean; a node in memory. node.isKey, mayBe, unlike, Size, formed, wrong. node.Size, latchkeyref10.Size. node.unlike: kids told apart by a map. node.unlike, formed, wrong. node.formed, node.wrong. -/
import Derived.Test.YtbclmmneiphcaaaDoorBetween
import Derived.MapKept
namespace Go.Proofs.YtbclmmneiphcaaaDoor
open Go.RowKit
/-- A node, as data. -/
structure Nd where
  leaf : Bool
  ks : List ByteArray
  vs : List ByteArray
  ls : List Int
def Nd.nil : Nd := ⟨false, [], [], []⟩
def sumSz (l : List ByteArray) : Nat := (l.map ByteArray.size).sum
theorem sumSz_nil : sumSz [] = 0 := rfl
theorem sumSz_app (a b : List ByteArray) : sumSz (a ++ b) = sumSz a + sumSz b := by simp [sumSz]
theorem sumSz_take (l : List ByteArray) (k : Nat) (x : ByteArray) (h : l[k]? = some x) : sumSz (l.take (k + 1)) = sumSz (l.take k) + x.size := by
  rw [List.take_add_one, h, sumSz_app]; simp [sumSz]
theorem sumSz_le (l : List ByteArray) (k : Nat) : sumSz (l.take k) ≤ sumSz l := by
  conv => rhs; rw [← List.take_append_drop k l]
  rw [sumSz_app]; omega
/-- Size. -/
def Nd.size (n : Nd) : Nat := if n.leaf then sumSz n.ks + sumSz n.vs + 2 * max n.ks.length n.vs.length else sumSz n.ks + n.ks.length + 4 * n.ls.length
/-- All that is reckoned with. -/
def Nd.bulk (n : Nd) : Nat := sumSz n.ks + sumSz n.vs + n.ks.length + n.vs.length + n.ls.length
theorem Nd.size_le (n : Nd) : n.size ≤ 5 * n.bulk := by
  unfold Nd.size Nd.bulk
  split <;> omega
def isKeyB (s : ByteArray) : Bool := decide (1 ≤ s.size ∧ s.size ≤ 36)
def mayB (l : List ByteArray) : Bool := l.all isKeyB && risesB l
def kidB (k : Int) : Bool := decide (2 ≤ k ∧ k ≤ 4294967295)
def kidsB (l : List Int) : Bool := l.all kidB && decide l.Nodup
def Nd.formed (n : Nd) (least : Nat) : Bool :=
  if n.leaf then decide (least ≤ n.ks.length ∧ n.vs.length = n.ks.length ∧ n.ls.length = 0) && n.vs.all (fun s => decide (s.size ≤ 200))
  else decide (1 ≤ n.ks.length ∧ n.ls.length = n.ks.length + 1 ∧ n.vs.length = 0) && kidsB n.ls
def Nd.wrong (n : Nd) : Int := if n.formed 1 then if mayB n.ks then if 480 < n.size then 102 else 0 else 101 else 100
/- IN MEMORY -/
/-- Where a node's lists lie. -/
structure Nv where
  a1 : Option Addr
  c1 : Nat
  a2 : Option Addr
  c2 : Nat
  a3 : Option Addr
  c3 : Nat
abbrev Nv.val (v : Nv) (n : Nd) : Value := .agg #[.bool n.leaf, .slice v.a1 n.ks.length v.c1, .slice v.a2 n.vs.length v.c2, .slice v.a3 n.ls.length v.c3]
structure NdIn (S : Ph) (v : Nv) (n : Nd) : Prop where
  r1 : Rds S 1 enStr v.a1 n.ks.length n.ks
  r2 : Rds S 1 enStr v.a2 n.vs.length n.vs
  r3 : Rds S 1 en64 v.a3 n.ls.length n.ls
  h1 : n.ks.length ≤ v.c1
  h2 : n.vs.length ≤ v.c2
  h3 : n.ls.length ≤ v.c3
  m1 : v.c1 ≤ maxLen
  m2 : v.c2 ≤ maxLen
  m3 : v.c3 ≤ maxLen
theorem NdIn.sub {S T : Ph} {v : Nv} {n : Nd} (h : NdIn S v n) (hs : ∀ k o, S k = some o → T k = some o) : NdIn T v n :=
  ⟨h.r1.sub hs, h.r2.sub hs, h.r3.sub hs, h.h1, h.h2, h.h3, h.m1, h.m2, h.m3⟩
/-- A part is lent, and given back. -/
theorem Own.lend {E w : World} {A : Hp} {S : Ph} {L : List Hp} (h : Own E w (A :: Hp.ro S :: L)) :
    ∃ a : Ph, A a ∧ Ph.apart a S ∧ Own E w (Hp.ro (Ph.join a S) :: L) := by
  obtain ⟨h1, h2, h3, _, hx, a, b, hd, rfl, hA, hL⟩ := h
  have h4 : Own E w (Hp.ro a :: Hp.ro S :: L) := ⟨h1, h2, h3, _, hx, a, b, hd, rfl, rfl, hL⟩
  exact ⟨a, hA, h4.merge.2, h4.merge.1⟩
theorem Own.give {E w : World} {A : Hp} {S a : Ph} {L : List Hp} (hA : A a) (hd : Ph.apart a S) (h : Own E w (Hp.ro (Ph.join a S) :: L)) : Own E w (A :: Hp.ro S :: L) :=
  (h.part hd).imp fun x hx => by have hx' : x = a := hx; rw [hx']; exact hA
theorem Ph.join_l {a S : Ph} : ∀ k o, a k = some o → (Ph.join a S) k = some o := fun _ _ h => Ph.join_some h
theorem Ph.join_r {a S : Ph} (hd : Ph.apart a S) : ∀ k o, S k = some o → (Ph.join a S) k = some o := fun k o h => by
  rw [Ph.join_comm hd]; exact Ph.join_some h
end Go.Proofs.YtbclmmneiphcaaaDoor
namespace Go.Proofs.YtbclmmneiphcaaaDoor
open Go.RowKit
section
theorem iskey_any (s : ByteArray) (w : World) : Calls Tryd.prog 64 #[.string s] w fun e w' => e = .returned (.bool (isKeyB s)) ∧ w = w' := by
  by_cases h1 : 0 < s.size
  · have h1i : (0 : Int) < s.size := by omega
    by_cases h2 : s.size ≤ 36
    · have h2i : (s.size : Int) ≤ 36 := by omega
      have e0 : isKeyB s = true := by simp [isKeyB]; omega
      rw [e0]
      go_enter Tryd.func64, Tryd.ntmps64
      go_wp2_with fail
      go_ret
      exact ⟨rfl, rfl⟩
    · have h2i : ¬ (s.size : Int) ≤ 36 := by omega
      have e0 : isKeyB s = false := by simp [isKeyB]; omega
      rw [e0]
      go_enter Tryd.func64, Tryd.ntmps64
      go_wp2_with fail
      go_ret
      exact ⟨rfl, rfl⟩
  · have h1i : ¬ (0 : Int) < s.size := by omega
    have e0 : isKeyB s = false := by simp [isKeyB]; omega
    rw [e0]
    go_enter Tryd.func64, Tryd.ntmps64
    go_wp2_with fail
    go_ret
    exact ⟨rfl, rfl⟩
theorem nokey_any (s : ByteArray) (w : World) : Calls Tryd.prog 90 #[.string s] w fun e w' => e = .returned (.bool (!isKeyB s)) ∧ w = w' := by
  go_enter Tryd.func90, Tryd.ntmps90
  go_wp2_with fail
  refine (iskey_any s _).mono ?_
  rintro e w1 ⟨rfl, rfl⟩
  go_wp2_with fail
  go_ret
  exact ⟨rfl, rfl⟩
theorem long_any (s : ByteArray) (w : World) : Calls Tryd.prog 88 #[.string s] w fun e w' => e = .returned (.bool (decide (200 < s.size))) ∧ w = w' := by
  by_cases h1 : 200 < s.size
  · have h1i : (200 : Int) < s.size := by omega
    have e0 : decide (200 < s.size) = true := by simp [h1]
    rw [e0]
    go_enter Tryd.func88, Tryd.ntmps88
    go_wp2_with fail
    go_ret
    exact ⟨rfl, rfl⟩
  · have h1i : ¬ (200 : Int) < s.size := by omega
    have e0 : decide (200 < s.size) = false := by simp [h1]
    rw [e0]
    go_enter Tryd.func88, Tryd.ntmps88
    go_wp2_with fail
    go_ret
    exact ⟨rfl, rfl⟩
variable {E : World} {S : Ph} {L : List Hp}
set_option maxHeartbeats 1000000 in
theorem indexf_any (g : Nat) (p : ByteArray → Bool) (eg : ∀ args w, (callFunc g args).run Tryd.prog w = .ok (.enter g args) w)
    (hp : ∀ (x : ByteArray) (w : World), Calls Tryd.prog g #[.string x] w fun e w' => e = .returned (.bool (p x)) ∧ w = w')
    (A : Option Addr) (n c : Nat) (xs : List ByteArray) (w : World) (hn : n ≤ maxLen) (hr : Rds S 1 enStr A n xs) (h : Own E w (Hp.ro S :: L)) :
    Calls Tryd.prog 94 #[.slice A n c, .func (.func g) #[] #[]] w fun e w' => ((xs.any p = true ∧ ∃ k : Nat, e = .returned (.int .i64 k)) ∨ (xs.any p = false ∧ e = .returned (.int .i64 (-1)))) ∧ Own E w' (Hp.ro S :: L) := by
  unfold maxLen at hn
  go_enter Tryd.func94, Tryd.ntmps94
  go_wp2_with fail
  go_loopw [8] (fun i wr => ∃ k : Nat, k ≤ n ∧ i = .int .i64 k ∧ (xs.take k).any p = false ∧ Own E wr (Hp.ro S :: L)) (fun i _ => n - (intOf i).toNat)
  case atStart => exact ⟨0, by omega, rfl, rfl, h⟩
  case round =>
    obtain ⟨k, hk, rfl, hp0, hw⟩ := hrel
    clear h
    have HP := Lib.hid hp0
    clear hp0
    by_cases hlt : k < n
    · obtain ⟨x, b, off, hx, rfl, hc⟩ := hr.get1 hlt
      have c1 := hw.rd (hc _ rfl)
      have hcall := hp x
      have HX := Lib.hid hx
      clear hc hx
      cases hq : p x with
      | true =>
        have e0 : xs.any p = true := List.any_eq_true.2 ⟨x, List.mem_of_getElem? HX.out, hq⟩
        have E0 := Lib.hid e0
        rw [hq] at hcall
        clear e0 hq
        go_wp2_with fail
        refine (hcall _).mono ?_
        rintro e w' ⟨rfl, rfl⟩
        go_wp2_with fail
        go_ret
        exact ⟨.inl ⟨E0.out, k, rfl⟩, hw⟩
      | false =>
        have e0 : (xs.take (k + 1)).any p = false := by rw [List.take_add_one, HX.out, List.any_append, HP.out]; simp [hq]
        have E0 := Lib.hid e0
        rw [hq] at hcall
        clear e0 hq
        go_wp2_with fail
        refine (hcall _).mono ?_
        rintro e w' ⟨rfl, rfl⟩
        go_wp2_with fail
        go_roundw
        case rel => exact ⟨k + 1, by omega, by go_num, E0.out, hw⟩
        case measure => simp [intOf]; omega
    · have e0 : xs.any p = false := by
        have h1 := HP.out
        rw [List.take_of_length_le (by have := hr.1; omega)] at h1
        exact h1
      have E0 := Lib.hid e0
      clear e0
      go_wp2_with fail
      go_ret
      exact ⟨.inr ⟨E0.out, rfl⟩, hw⟩
theorem containsf_any (g : Nat) (p : ByteArray → Bool) (eg : ∀ args w, (callFunc g args).run Tryd.prog w = .ok (.enter g args) w)
    (hp : ∀ (x : ByteArray) (w : World), Calls Tryd.prog g #[.string x] w fun e w' => e = .returned (.bool (p x)) ∧ w = w')
    (A : Option Addr) (n c : Nat) (xs : List ByteArray) (w : World) (hn : n ≤ maxLen) (hr : Rds S 1 enStr A n xs) (h : Own E w (Hp.ro S :: L)) :
    Calls Tryd.prog 89 #[.slice A n c, .func (.func g) #[] #[]] w fun e w' => e = .returned (.bool (xs.any p)) ∧ Own E w' (Hp.ro S :: L) := by
  have hcall := indexf_any g p eg hp A n c xs w hn hr h
  clear hp h
  generalize xs.any p = r at *
  cases r with
  | true =>
    go_enter Tryd.func89, Tryd.ntmps89
    go_wp2_with fail
    refine hcall.mono ?_
    rintro e w1 ⟨⟨-, k, rfl⟩ | ⟨h1, -⟩, hw⟩
    · have j0 : (0 : Int) ≤ (k : Int) := by omega
      go_wp2_with fail
      go_ret
      exact ⟨rfl, hw⟩
    · cases h1
  | false =>
    go_enter Tryd.func89, Tryd.ntmps89
    go_wp2_with fail
    refine hcall.mono ?_
    rintro e w1 ⟨⟨h1, -⟩ | ⟨-, rfl⟩, hw⟩
    · cases h1
    · go_wp2_with fail
      go_ret
      exact ⟨rfl, hw⟩
theorem enters_body {P : Program} {f : FuncId} {fn : Func} {c : Code} (hf : P.funcs[f]? = some fn) (hname : (fn.name == "runtime.NumGoroutine") = false) (hb : fn.body = some c) : ∀ (args : Array Value) (w : World), (callFunc f args).run P w = .ok (.enter f args) w := fun args w => by
  have h1 : fn.name ≠ "runtime.NumGoroutine" := by simpa using hname
  simp [callFunc, hf, h1, hb, mark]
theorem any_not {α : Type} (p : α → Bool) : ∀ l : List α, (l.any fun x => !p x) = !l.all p
  | [] => rfl
  | a :: l => by simp [any_not p l]
theorem maybe_any (A : Option Addr) (n c : Nat) (xs : List ByteArray) (w : World) (hn : n ≤ maxLen) (hr : Rds S 1 enStr A n xs) (h : Own E w (Hp.ro S :: L)) :
    Calls Tryd.prog 63 #[.slice A n c] w fun e w' => e = .returned (.bool (mayB xs)) ∧ Own E w' (Hp.ro S :: L) := by
  have eg : ∀ args w, (callFunc 90 args).run Tryd.prog w = .ok (.enter 90 args) w := enters_body Tryd.func90 (by kernel_rfl) rfl
  have hcall := containsf_any 90 (fun x => !isKeyB x) eg nokey_any A n c xs w hn hr h
  rw [any_not] at hcall
  have HR : ∀ w, Own E w (Hp.ro S :: L) → Calls Tryd.prog 38 #[.slice A n c] w fun e w' => e = .returned (.bool (risesB xs)) ∧ Own E w' (Hp.ro S :: L) := fun w => rises_any A n c xs w hn hr
  unfold mayB
  clear h eg
  cases hk : xs.all isKeyB with
  | true =>
    rw [hk] at hcall
    clear hk
    generalize risesB xs = r at *
    go_enter Tryd.func63, Tryd.ntmps63
    go_wp2_with fail
    refine hcall.mono ?_
    rintro e w1 ⟨rfl, hw⟩
    go_wp2_with fail
    refine (HR _ hw).mono ?_
    rintro e w2 ⟨rfl, hw2⟩
    go_wp2_with fail
    go_ret
    exact ⟨rfl, hw2⟩
  | false =>
    rw [hk] at hcall
    clear hk HR
    go_enter Tryd.func63, Tryd.ntmps63
    go_wp2_with fail
    refine hcall.mono ?_
    rintro e w1 ⟨rfl, hw⟩
    go_wp2_with fail
    go_ret
    exact ⟨rfl, hw⟩
end
end Go.Proofs.YtbclmmneiphcaaaDoor
namespace Go.Proofs.YtbclmmneiphcaaaDoor
open Go.RowKit
abbrev NT : TypeId := 25
section
variable {E : World} {S : Ph} {L : List Hp}
set_option maxHeartbeats 2000000 in
theorem size_any (v : Nv) (n : Nd) (w : World) (hb : n.bulk ≤ 1125899906842624) (hi : NdIn S v n) (h : Own E w (Hp.ro S :: L)) :
    Calls Tryd.prog 35 #[v.val n] w fun e w' => e = .returned (.int .i64 (n.size : Nat)) ∧ Own E w' (Hp.ro S :: L) := by
  obtain ⟨leaf, ks, vs, ls⟩ := n
  obtain ⟨a1, c1, a2, c2, a3, c3⟩ := v
  obtain ⟨r1, r2, -, -, -, -, -, -, -⟩ := hi
  have hsz : Nd.size ⟨leaf, ks, vs, ls⟩ = if leaf then sumSz ks + sumSz vs + 2 * max ks.length vs.length else sumSz ks + ks.length + 4 * ls.length := rfl
  rw [hsz]
  have hb2 : sumSz ks + sumSz vs + ks.length + vs.length + ls.length ≤ 1125899906842624 := hb
  clear hb hsz
  dsimp only [Nv.val] at r1 r2 ⊢
  have hle : ∀ k, sumSz (ks.take k) ≤ sumSz ks := sumSz_le ks
  have hle2 : ∀ k, sumSz (vs.take k) ≤ sumSz vs := sumSz_le vs
  have hall : sumSz (ks.take ks.length) = sumSz ks := by rw [List.take_length]
  have hall2 : sumSz (vs.take vs.length) = sumSz vs := by rw [List.take_length]
  generalize ks.length = nk at *
  generalize vs.length = nv at *
  generalize ls.length = nl at *
  generalize sumSz ks = sk at *
  generalize sumSz vs = sv at *
  have HLE := Lib.hid hle
  have HLE2 := Lib.hid hle2
  have HALL := Lib.hid hall
  have HALL2 := Lib.hid hall2
  have HB := Lib.hid hb2
  have hbk : nk ≤ 1125899906842624 ∧ nv ≤ 1125899906842624 ∧ nl ≤ 1125899906842624 := by omega
  obtain ⟨hbk1, hbk2, hbk3⟩ := hbk
  clear hle hle2 hall hall2 hb2
  have h1 := h.alloc (.cells #[.bool leaf, .slice a1 nk c1, .slice a2 nv c2, .slice a3 nl c3] NT)
  go_enter Tryd.func35, Tryd.ntmps35
  go_wp2_with fail
  generalize hg : w.heap.size = g at h1 ⊢
  have H1 := Lib.hid h1
  clear h h1 hg
  go_loopw [3, 11] (fun sz i wr => ∃ k s : Nat, k ≤ nk ∧ i = .int .i64 k ∧ s = sumSz (ks.take k) ∧ sz = .int .i64 s ∧ Own E wr (Hp.blk g NT #[.bool leaf, .slice a1 nk c1, .slice a2 nv c2, .slice a3 nl c3] :: Hp.ro S :: L)) (fun _ i _ => nk - (intOf i).toNat)
  case atStart => exact ⟨0, 0, by omega, rfl, rfl, rfl, H1.out⟩
  case round =>
    obtain ⟨k, s, hk, rfl, hs, rfl, hw⟩ := hrel
    clear H1
    have HS := Lib.hid hs
    have hsb : s ≤ sk := by rw [HS.out]; exact HLE.out k
    have hsb2 : s ≤ 1125899906842624 := by have := HB.out; omega
    clear hs
    by_cases hlt : k < nk
    · obtain ⟨x, b, off, hx, rfl, hc⟩ := r1.get1 hlt
      have c1 := hw.f1.rd (hc _ rfl)
      have hs2 : s + x.size = sumSz (ks.take (k + 1)) := by rw [sumSz_take ks k x hx, HS.out]
      have hs3 : s + x.size ≤ 1125899906842624 := by have := HLE.out (k + 1); have := HB.out; omega
      have HS2 := Lib.hid hs2
      clear hc hx hs2
      have j1 : IntKind.i64.wrap ((s : Int) + x.size) = ((s + x.size : Nat) : Int) := IntWalk.i64_in _ (by omega)
      go_wp2_with fail
      go_roundw
      case rel => exact ⟨k + 1, s + x.size, by omega, by go_num, HS2.out, rfl, hw⟩
      case measure => simp [intOf]; omega
    · obtain rfl : k = nk := by omega
      have hsk : s = sk := by rw [HS.out, HALL.out]
      subst hsk
      clear HLE hlt hk hsb HS
      have f0 : wr.cell? ⟨g, 0, none⟩ = some (.bool leaf) := hw.cell 0
      have f1 : wr.cell? ⟨g, 1, none⟩ = some (.slice a1 k c1) := hw.cell 1
      have f2 : wr.cell? ⟨g, 2, none⟩ = some (.slice a2 nv c2) := hw.cell 2
      have f3 : wr.cell? ⟨g, 3, none⟩ = some (.slice a3 nl c3) := hw.cell 3
      have HB' := HB.out
      cases leaf with
      | false =>
        have j1 : IntKind.i64.wrap ((s : Int) + k) = ((s + k : Nat) : Int) := IntWalk.i64_in _ (by omega)
        have j2 : IntKind.i64.wrap (4 * (nl : Int)) = ((4 * nl : Nat) : Int) := IntWalk.i64_in _ (by omega)
        have j3 : IntKind.i64.wrap (((s + k : Nat) : Int) + ((4 * nl : Nat) : Int)) = ((s + k + 4 * nl : Nat) : Int) := IntWalk.i64_in _ (by omega)
        clear HB'
        go_wp2_with fail
        go_ret
        refine ⟨ret_i64 ?_, hw.drop⟩
        simp <;> omega
      | true =>
        clear HB'
        go_wp2_with fail
        go_loopw [3, 36] (fun sz i wr => ∃ q s2 : Nat, q ≤ nv ∧ i = .int .i64 q ∧ s2 = sumSz (vs.take q) ∧ sz = .int .i64 ((s : Int) + s2) ∧ Own E wr (Hp.blk g NT #[.bool true, .slice a1 k c1, .slice a2 nv c2, .slice a3 nl c3] :: Hp.ro S :: L)) (fun _ i _ => nv - (intOf i).toNat)
        case atStart => exact ⟨0, 0, by omega, rfl, rfl, rfl, hw⟩
        case round =>
          obtain ⟨q, s2, hq, rfl, hs, rfl, hw⟩ := hrel
          clear f0 f1 f2 f3
          have HS := Lib.hid hs
          have hsb : s2 ≤ sv := by rw [HS.out]; exact HLE2.out q
          have hsb2 : s + s2 ≤ 1125899906842624 := by have := HB.out; omega
          clear hs
          by_cases hlt : q < nv
          · obtain ⟨x, b, off, hx, rfl, hc⟩ := r2.get1 hlt
            have c1 := hw.f1.rd (hc _ rfl)
            have hs2 : s2 + x.size = sumSz (vs.take (q + 1)) := by rw [sumSz_take vs q x hx, HS.out]
            have hs3 : s + s2 + x.size ≤ 1125899906842624 := by have := HLE2.out (q + 1); have := HB.out; omega
            have HS2 := Lib.hid hs2
            clear hc hx hs2
            have j1 : IntKind.i64.wrap ((s : Int) + s2 + x.size) = (s : Int) + ((s2 + x.size : Nat) : Int) := by rw [IntWalk.i64_in _ (by omega)]; omega
            go_wp2_with fail
            go_roundw
            case rel => exact ⟨q + 1, s2 + x.size, by omega, by go_num, HS2.out, rfl, hw⟩
            case measure => simp [intOf]; omega
          · obtain rfl : q = nv := by omega
            have hsk : s2 = sv := by rw [HS.out, HALL2.out]
            subst hsk
            clear HLE2 hlt hq hsb HS
            have f1 : wr.cell? ⟨g, 1, none⟩ = some (.slice a1 k c1) := hw.cell 1
            have f2 : wr.cell? ⟨g, 2, none⟩ = some (.slice a2 q c2) := hw.cell 2
            have HB' := HB.out
            obtain ⟨m, hm⟩ : ∃ m, m = max k q := ⟨_, rfl⟩
            have HM := Lib.hid hm
            have hmk : m ≤ k + q := by omega
            have j1 : IntKind.i64.wrap (2 * (m : Int)) = ((2 * m : Nat) : Int) := IntWalk.i64_in _ (by omega)
            have j3 : IntKind.i64.wrap ((s : Int) + s2 + ((2 * m : Nat) : Int)) = ((s + s2 + 2 * m : Nat) : Int) := IntWalk.i64_in _ (by omega)
            have j5 : (if k < q then Value.int .i64 (q : Int) else Value.int .i64 (k : Int)) = Value.int .i64 (m : Int) := by split <;> (congr 1; omega)
            have j6 : (if k < q then (q : Int) else (k : Int)) = (m : Int) := by split <;> omega
            clear HB' hm
            go_wp2_with fail
            go_ret
            refine ⟨ret_i64 ?_, hw.drop⟩
            have := HM.out
            simp <;> omega
end
end Go.Proofs.YtbclmmneiphcaaaDoor
namespace Go.Proofs.YtbclmmneiphcaaaDoor
open Go.RowKit Go.MapKept
abbrev MT : TypeId := 113
/-- A map that counts one of each. -/
def IsSet (es : Array MapEntry) (ks : List Int) : Prop := es.toList.map (fun e => (e.key, e.val)) = ks.map (fun k => (Value.int .i64 k, Value.int .i64 1))
theorem isSet_nil : IsSet #[] [] := rfl
theorem isSet_push {es : Array MapEntry} {ks : List Int} (h : IsSet es ks) (k : Int) (b : Nat) : IsSet (es.push ⟨.int .i64 k, .int .i64 1, b⟩) (ks ++ [k]) := by
  unfold IsSet at h ⊢
  rw [Array.toList_push, List.map_append, List.map_append, h]
  rfl
theorem IsSet.mem {es : Array MapEntry} {ks : List Int} (h : IsSet es ks) {x : MapEntry} (hx : x ∈ es.toList) : ∃ k ∈ ks, x.key = .int .i64 k ∧ x.val = .int .i64 1 := by
  have h1 : (x.key, x.val) ∈ es.toList.map (fun e => (e.key, e.val)) := List.mem_map.2 ⟨x, hx, rfl⟩
  unfold IsSet at h
  rw [h] at h1
  obtain ⟨k, hk, e⟩ := List.mem_map.1 h1
  injection e with e1 e2
  exact ⟨k, hk, e1.symm, e2.symm⟩
theorem IsSet.has {es : Array MapEntry} {ks : List Int} (h : IsSet es ks) {k : Int} (hk : k ∈ ks) : ∃ x ∈ es.toList, x.key = .int .i64 k := by
  have h1 : (Value.int .i64 k, Value.int .i64 1) ∈ ks.map (fun k => (Value.int .i64 k, Value.int .i64 1)) := List.mem_map.2 ⟨k, hk, rfl⟩
  unfold IsSet at h
  rw [← h] at h1
  obtain ⟨x, hx, e⟩ := List.mem_map.1 h1
  injection e with e1 e2
  exact ⟨x, hx, e1⟩
theorem IsSet.keys {es : Array MapEntry} {ks : List Int} (h : IsSet es ks) : ∀ x ∈ es.toList, IsKey (.int .i64) x.key := fun x hx => by
  obtain ⟨k, _, e, _⟩ := h.mem hx
  rw [e]; simp [IsKey]
section
variable {P : Program} {w : World} {mty kt et : TypeId} {r clk : Nat} {es : Array MapEntry} {ks : List Int} {k : Int}
theorem findNow_none (h : IsSet es ks) (hk : k ∉ ks) : Instr.findNow (.int .i64) (.int .i64 k) es.toList 0 = some none := by
  rcases findNow_spec (d := .int .i64) (k := .int .i64 k) (by simp [IsKey]) es.toList 0 h.keys with ⟨h1, _⟩ | ⟨j, e, _, h2, h3⟩
  · exact h1
  · obtain ⟨k', hk', e1, _⟩ := h.mem (List.mem_of_getElem? h2)
    rw [h3] at e1
    injection e1 with _ e1
    subst e1
    exact absurd hk' hk
theorem findNow_hit (h : IsSet es ks) (hk : k ∈ ks) : ∃ j e, Instr.findNow (.int .i64) (.int .i64 k) es.toList 0 = some (some (j, .int .i64 1)) ∧ es[j]? = some e ∧ e.key = .int .i64 k := by
  rcases findNow_spec (d := .int .i64) (k := .int .i64 k) (by simp [IsKey]) es.toList 0 h.keys with ⟨_, h2⟩ | ⟨j, e, h1, h2, h3⟩
  · obtain ⟨x, hx, e⟩ := h.has hk
    exact absurd e (h2 x hx)
  · obtain ⟨k', hk', _, e2⟩ := h.mem (List.mem_of_getElem? h2)
    refine ⟨j, e, ?_, by simpa using h2, h3⟩
    rw [h1, e2, Nat.zero_add]
theorem im_none (hm : P.underlying mty = some (.map kt et)) (hd : P.underlying kt = some (.int .i64)) (hz : (zeroValue et).run P w = .ok (.int .i64 0) w) (hb : w.heap[r]? = some (.map es clk)) (h : IsSet es ks) (hk : k ∉ ks) :
    (Instr.lookup mty (.map (some r)) (.int .i64 k) false).run P w = .ok (.int .i64 0) w := by
  simp [Instr.lookup, run_underlying hm, MapKept.run_getObj_map hb, MapKept.run_checkKey (d := .int .i64) hd (show IsKey (.int .i64) (.int .i64 k) by simp [IsKey]), MapKept.run_findKey hd (findNow_none h hk), hz, Result.andThen]
theorem im_one (hm : P.underlying mty = some (.map kt et)) (hd : P.underlying kt = some (.int .i64)) (hb : w.heap[r]? = some (.map es clk)) (h : IsSet es ks) (hk : k ∈ ks) :
    (Instr.lookup mty (.map (some r)) (.int .i64 k) false).run P w = .ok (.int .i64 1) w := by
  obtain ⟨j, e, h1, _, _⟩ := findNow_hit h hk
  simp [Instr.lookup, run_underlying hm, MapKept.run_getObj_map hb, MapKept.run_checkKey (d := .int .i64) hd (show IsKey (.int .i64) (.int .i64 k) by simp [IsKey]), MapKept.run_findKey hd h1, Result.andThen]
theorem im_push (hm : P.underlying mty = some (.map kt et)) (hd : P.underlying kt = some (.int .i64)) (hb : w.heap[r]? = some (.map es clk)) (h : IsSet es ks) (hk : k ∉ ks) (v : Value) :
    (Instr.mapUpdate mty (.map (some r)) (.int .i64 k) v).run P w = .ok () { w with heap := w.heap.setIfInBounds r (.map (es.push ⟨.int .i64 k, v, clk⟩) (clk + 1)) } := by
  simp [Instr.mapUpdate, run_underlying hm, MapKept.run_getObj_map hb, MapKept.run_checkKey (d := .int .i64) hd (show IsKey (.int .i64) (.int .i64 k) by simp [IsKey]), MapKept.run_findKey hd (findNow_none h hk), MapKept.run_setObj_map _ hb, Result.andThen]
/-- One that is there is counted again: it is found as what it is now. -/
theorem im_again (hm : P.underlying mty = some (.map kt et)) (hd : P.underlying kt = some (.int .i64)) (hb : w.heap[r]? = some (.map es clk)) (h : IsSet es ks) (hnd : ks.Nodup) (hk : k ∈ ks) :
    ∃ o, (Instr.mapUpdate mty (.map (some r)) (.int .i64 k) (.int .i64 2)).run P w = .ok () { w with heap := w.heap.setIfInBounds r o } ∧
      ∀ w2 : World, w2.heap[r]? = some o → (Instr.lookup mty (.map (some r)) (.int .i64 k) false).run P w2 = .ok (.int .i64 2) w2 := by
  have hik : IsKey (.int .i64) (.int .i64 k) := by simp [IsKey]
  obtain ⟨j, e, h1, h2, h3⟩ := findNow_hit h hk
  refine ⟨.map (es.modify j fun e => { e with key := .int .i64 k, val := .int .i64 2 }) clk, ?_, fun w2 hb2 => ?_⟩
  · simp [Instr.mapUpdate, run_underlying hm, MapKept.run_getObj_map hb, MapKept.run_checkKey (d := .int .i64) hd hik, MapKept.run_findKey hd h1, h2, h3, run_keyThatStays (d := .int .i64) hik, MapKept.run_setObj_map _ hb, Result.andThen]
  · have hkk : ∀ x ∈ (es.modify j fun e => ({ e with key := .int .i64 k, val := .int .i64 2 } : MapEntry)).toList, IsKey (.int .i64) x.key :=
      isKey_modify h.keys j _ (fun e' he' => by rw [h2] at he'; injection he' with he'; subst he'; exact h3.symm)
    have hf : ∃ j', Instr.findNow (.int .i64) (.int .i64 k) (es.modify j fun e => ({ e with key := .int .i64 k, val := .int .i64 2 } : MapEntry)).toList 0 = some (some (j', .int .i64 2)) := by
      rcases findNow_spec (d := .int .i64) hik _ 0 hkk with ⟨_, g2⟩ | ⟨j', e', g1, g2, g3⟩
      · refine absurd rfl (g2 ⟨.int .i64 k, .int .i64 2, e.born⟩ ?_)
        refine List.mem_of_getElem? (i := j) ?_
        rw [Array.getElem?_toList, Array.getElem?_modify, if_pos rfl, h2]; rfl
      · refine ⟨j', ?_⟩
        rw [g1, Nat.zero_add]
        rw [Array.getElem?_toList, Array.getElem?_modify] at g2
        by_cases hj : j = j'
        · subst hj
          rw [if_pos rfl, h2] at g2
          injection g2 with g2
          rw [← g2]
        · exfalso
          rw [if_neg hj] at g2
          have hkeys : es.toList.map (·.key) = ks.map (Value.int .i64) := by
            have e := congrArg (List.map Prod.fst) h
            rw [List.map_map, List.map_map] at e
            exact e
          have q1 : (es.toList.map (·.key))[j]? = some (.int .i64 k) := by rw [List.getElem?_map, Array.getElem?_toList, h2, Option.map_some, h3]
          have q2 : (es.toList.map (·.key))[j']? = some (.int .i64 k) := by rw [List.getElem?_map, Array.getElem?_toList, g2, Option.map_some, g3]
          rw [hkeys, List.getElem?_map, Option.map_eq_some_iff] at q1 q2
          obtain ⟨x1, p1, e1⟩ := q1
          obtain ⟨x2, p2, e2⟩ := q2
          injection e1 with _ e1
          injection e2 with _ e2
          subst e1 e2
          exact hj ((List.getElem?_inj (List.getElem?_eq_some_iff.1 p1).1 hnd).1 (p1.trans p2.symm))
    obtain ⟨j', hf⟩ := hf
    generalize (es.modify j fun e => ({ e with key := .int .i64 k, val := .int .i64 2 } : MapEntry)) = es' at *
    simp [Instr.lookup, run_underlying hm, MapKept.run_getObj_map hb2, MapKept.run_checkKey (d := .int .i64) hd hik, MapKept.run_findKey hd hf, Result.andThen]
end
end Go.Proofs.YtbclmmneiphcaaaDoor
namespace Go.Proofs.YtbclmmneiphcaaaDoor
open Go.RowKit Go.MapKept
section
variable {P : Program} {ops : Array Oper} {rest : List Oper} {o : Oper} {a : Act} {w w' : World} {Q : Exit → Act → World → Prop}
theorem wpList_mapupdate_run {T : TypeId} {m k v : Value} {x y z : Operand} (hrun : (Instr.mapUpdate T m k v).run P w = .ok () w') (hgd : o.guard = none) (ho : o.op = .mapUpdate T x y z) (hx : a.eval x = m) (hy : a.eval y = k) (hz : a.eval z = v)
    (h : wpList P ops Q rest (a.put o.dst undef) w') : wpList P ops Q (o :: rest) a w :=
  wpList_plain hgd fun K' hK' => by
    unfold Oper.wp
    simp [execOp, ho, hx, hy, hz, hrun, Result.andThen]
    exact hK' _ _ h
end
section
variable {E : World} {S : Ph} {L : List Hp}
theorem kidsB_iff (ls : List Int) : kidsB ls = true ↔ (∀ k ∈ ls, 2 ≤ k ∧ k ≤ 4294967295) ∧ ls.Nodup := by
  simp [kidsB, kidB, List.all_eq_true]
set_option maxHeartbeats 2000000 in
theorem unlike_any (A : Option Addr) (n c : Nat) (ls : List Int) (w : World) (hn : n ≤ 1125899906842624) (hr : Rds S 1 en64 A n ls) (h : Own E w (Hp.ro S :: L)) :
    Calls Tryd.prog 67 #[.slice A n c] w fun e w' => e = .returned (.bool (kidsB ls)) ∧ Own E w' (Hp.ro S :: L) := by
  have hmk : (Instr.makeMap MT (some (.int .i64 n))).run Tryd.prog w = .ok (.map (some w.heap.size)) (w.alloc (.map #[] 0)) := by
    simp [Instr.makeMap, run_underlying (show Tryd.prog.underlying MT = some (.map 3 3) by kernel_rfl), asInt, asIntOf, Result.andThen]
  have hm : Tryd.prog.underlying MT = some (.map 3 3) := by kernel_rfl
  have hd : Tryd.prog.underlying 3 = some (.int .i64) := by kernel_rfl
  have hz : ∀ w, (zeroValue 3).run Tryd.prog w = .ok (.int .i64 0) w := fun w => by
    obtain ⟨i, hi, hzz⟩ := Option.map_eq_some_iff.1 (show (Tryd.prog.info? 3).map (·.zero) = some (some (.int .i64 0)) by kernel_rfl)
    simp [zeroValue, typeInfo, hi, hzz, Result.andThen]
  have h1 := h.alloc (.map #[] 0)
  obtain ⟨g, hg⟩ : ∃ g, g = w.heap.size := ⟨_, rfl⟩
  rw [← hg] at h1 hmk
  have H1 := Lib.hid h1
  clear h h1 hg
  go_enter Tryd.func67, Tryd.ntmps67
  go_wp2_with fail
  go_loopw [11] (fun i wr => ∃ (k : Nat) (es : Array MapEntry) (clk : Nat), k ≤ n ∧ i = .int .i64 k ∧ kidsB (ls.take k) = true ∧ IsSet es (ls.take k) ∧ Own E wr (Hp.obj g (.map es clk) :: Hp.ro S :: L)) (fun i _ => n - (intOf i).toNat)
  case atStart => exact ⟨0, #[], 0, by omega, rfl, rfl, rfl, H1.out⟩
  case round =>
    obtain ⟨k, es, clk, hk, rfl, hkb, hs, hw⟩ := hrel
    clear H1 hmk
    by_cases hlt : k < n
    · obtain ⟨x, b, off, hx, rfl, hc⟩ := hr.get1 hlt
      have c1 := hw.f1.rd (hc _ rfl)
      have htk : ls.take (k + 1) = ls.take k ++ [x] := by rw [List.take_add_one, hx]; rfl
      have hkk := (kidsB_iff _).1 hkb
      have hat := hw.at_
      by_cases hmem : x ∈ ls.take k
      · have hx2 := hkk.1 x hmem
        have hone := im_one (P := Tryd.prog) hm hd hat hs hmem
        obtain ⟨o, hup, hfind⟩ := im_again (P := Tryd.prog) hm hd hat hs hkk.2 hmem
        have hw2 := hw.setObj o
        have htwo := hfind _ hw2.at_
        have hno : kidsB ls = false := by
          cases e : kidsB ls with
          | false => rfl
          | true =>
            exfalso
            have h1 := ((kidsB_iff _).1 e).2
            rw [← List.take_append_drop (k + 1) ls, htk, List.append_assoc] at h1
            have h2 := (List.nodup_append.1 h1).2.2
            exact h2 x hmem x (by simp) rfl
        have NO := Lib.hid hno
        have n1 : ¬ x < 2 := by omega
        have n2 : ¬ 4294967295 < x := by omega
        have HW2 := Lib.hid hw2
        clear hw hw2 hkk hat hfind hs hkb htk hmem hx hc hz hm hd hno
        go_wp2_with (with_reducible refine at_slot (k := none) ?_; refine wpList_mapupdate_run (o := ⟨none, _, _, _, _, _⟩) hup rfl rfl rfl rfl rfl ?_; clear hup)
        go_ret
        exact ⟨ret_bool NO.out.symm, HW2.out.drop⟩
      · have hzero := im_none (P := Tryd.prog) hm hd (hz wr) hat hs hmem
        have hup := im_push (P := Tryd.prog) hm hd hat hs hmem (.int .i64 1)
        have hs2 := isSet_push hs x clk
        rw [← htk] at hs2
        have hw2 := hw.setObj (.map (es.push ⟨.int .i64 x, .int .i64 1, clk⟩) (clk + 1))
        have hone := im_one (P := Tryd.prog) hm hd hw2.at_ hs2 (k := x) (by rw [htk]; simp)
        have HW2 := Lib.hid hw2
        have HS2 := Lib.hid hs2
        have hmemx : x ∈ ls := List.mem_of_getElem? hx
        have hno : (x < 2 ∨ 4294967295 < x) → kidsB ls = false := fun hb => by
          cases e : kidsB ls with
          | false => rfl
          | true => have := ((kidsB_iff _).1 e).1 x hmemx; omega
        have hyes : ¬ x < 2 → ¬ 4294967295 < x → kidsB (ls.take (k + 1)) = true := fun g1 g2 => by
          rw [kidsB_iff, htk]
          refine ⟨fun y hy => ?_, ?_⟩
          · rcases List.mem_append.1 hy with hy | hy
            · exact hkk.1 y hy
            · have : y = x := by simpa using hy
              omega
          · rw [List.nodup_append]
            refine ⟨hkk.2, by simp, fun a ha b hb => ?_⟩
            have : b = x := by simpa using hb
            subst this
            rintro rfl
            exact hmem ha
        have HNO := Lib.hid hno
        have HYES := Lib.hid hyes
        clear hw hw2 hkk hat hs hkb htk hmem hx hc hz hm hd hs2 hno hyes hmemx
        by_cases n1 : x < 2
        · have e0 := HNO.out (.inl n1)
          have NO := Lib.hid e0
          clear e0
          go_wp2_with (with_reducible refine at_slot (k := none) ?_; refine wpList_mapupdate_run (o := ⟨none, _, _, _, _, _⟩) hup rfl rfl rfl rfl rfl ?_; clear hup)
          go_ret
          exact ⟨ret_bool NO.out.symm, HW2.out.drop⟩
        · by_cases n2 : 4294967295 < x
          · have e0 := HNO.out (.inr n2)
            have NO := Lib.hid e0
            clear e0
            go_wp2_with (with_reducible refine at_slot (k := none) ?_; refine wpList_mapupdate_run (o := ⟨none, _, _, _, _, _⟩) hup rfl rfl rfl rfl rfl ?_; clear hup)
            go_ret
            exact ⟨ret_bool NO.out.symm, HW2.out.drop⟩
          · have HY := Lib.hid (HYES.out n1 n2)
            go_wp2_with (with_reducible refine at_slot (k := none) ?_; refine wpList_mapupdate_run (o := ⟨none, _, _, _, _, _⟩) hup rfl rfl rfl rfl rfl ?_; clear hup)
            go_roundw
            case rel => exact ⟨k + 1, _, _, by omega, by go_num, HY.out, HS2.out, HW2.out⟩
            case measure => simp [intOf]; omega
    · have e0 : kidsB ls = true := by
        rw [List.take_of_length_le (by have := hr.1; omega)] at hkb
        exact hkb
      have NO := Lib.hid e0
      have HW := Lib.hid hw
      clear hw hkb hs e0
      go_wp2_with fail
      go_ret
      exact ⟨ret_bool NO.out.symm, HW.out.drop⟩
end
end Go.Proofs.YtbclmmneiphcaaaDoor
namespace Go.Proofs.YtbclmmneiphcaaaDoor
open Go.RowKit
theorem long_all (vs : List ByteArray) : (vs.all fun s => decide (s.size ≤ 200)) = !(vs.any fun x => decide (200 < x.size)) := by
  induction vs with
  | nil => rfl
  | cons a l ih =>
    have e : decide (a.size ≤ 200) = !decide (200 < a.size) := by by_cases h : 200 < a.size <;> simp [h] <;> omega
    rw [List.all_cons, List.any_cons, ih, Bool.not_or, e]
section
variable {E : World} {S : Ph} {L : List Hp}
set_option maxRecDepth 100000 in
set_option maxHeartbeats 2000000 in
theorem formed_any (v : Nv) (n : Nd) (least : Nat) (w : World) (hb : n.bulk ≤ 1125899906842624) (hi : NdIn S v n) (h : Own E w (Hp.ro S :: L)) :
    Calls Tryd.prog 62 #[v.val n, .int .i64 least] w fun e w' => e = .returned (.bool (n.formed least)) ∧ Own E w' (Hp.ro S :: L) := by
  obtain ⟨leaf, ks, vs, ls⟩ := n
  obtain ⟨a1, c1, a2, c2, a3, c3⟩ := v
  obtain ⟨r1, r2, r3, -, -, -, m1, m2, m3⟩ := hi
  have hb2 : sumSz ks + sumSz vs + ks.length + vs.length + ls.length ≤ 1125899906842624 := hb
  have hbk : ks.length ≤ 1125899906842624 ∧ vs.length ≤ 1125899906842624 ∧ ls.length ≤ 1125899906842624 := by omega
  clear hb hb2
  dsimp only [Nv.val] at r1 r2 r3 ⊢
  cases leaf with
  | true =>
    have e0 : Nd.formed ⟨true, ks, vs, ls⟩ least = (decide (least ≤ ks.length ∧ vs.length = ks.length ∧ ls.length = 0) && !(vs.any fun x => decide (200 < x.size))) := by rw [← long_all]; rfl
    rw [e0]
    clear e0 r1 r3
    generalize ks.length = nk at *
    generalize vs.length = nv at *
    generalize ls.length = nl at *
    obtain ⟨hbk1, hbk2, hbk3⟩ := hbk
    have eg : ∀ args w, (callFunc 88 args).run Tryd.prog w = .ok (.enter 88 args) w := enters_body Tryd.func88 (by kernel_rfl) rfl
    have hcall := containsf_any (L := Hp.blk w.heap.size NT #[.bool true, .slice a1 nk c1, .slice a2 nv c2, .slice a3 nl c3] :: L) 88 (fun x => decide (200 < x.size)) eg long_any a2 nv c2 vs (w.alloc (.cells #[.bool true, .slice a1 nk c1, .slice a2 nv c2, .slice a3 nl c3] NT)) (by unfold maxLen; omega) r2 (h.alloc _).f1
    have h1 := (h.alloc (.cells #[.bool true, .slice a1 nk c1, .slice a2 nv c2, .slice a3 nl c3] NT)).drop
    clear eg r2
    generalize (vs.any fun x => decide (200 < x.size)) = r at *
    by_cases p1 : least ≤ nk
    · by_cases p2 : nv = nk
      · by_cases p3 : nl = 0
        · have e1 : (decide (least ≤ nk ∧ nv = nk ∧ nl = 0) && !r) = !r := by simp [p1, p2, p3]
          rw [e1]
          clear e1
          subst p2 p3
          go_enter Tryd.func62, Tryd.ntmps62
          go_wp2_with fail
          refine hcall.mono ?_
          rintro e w1 ⟨rfl, hw⟩
          cases r
          all_goals
            go_wp2_with fail
            go_ret
            exact ⟨rfl, hw.f1.drop⟩
        · have e1 : (decide (least ≤ nk ∧ nv = nk ∧ nl = 0) && !r) = false := by simp [p3]
          rw [e1]
          have p3i : ¬ (nl : Int) = 0 := by omega
          clear e1 hcall
          subst p2
          go_enter Tryd.func62, Tryd.ntmps62
          go_wp2_with fail
          go_ret
          exact ⟨rfl, h1⟩
      · have e1 : (decide (least ≤ nk ∧ nv = nk ∧ nl = 0) && !r) = false := by simp [p2]
        rw [e1]
        have p2i : ¬ (nv : Int) = nk := by omega
        clear e1 hcall
        go_enter Tryd.func62, Tryd.ntmps62
        go_wp2_with fail
        go_ret
        exact ⟨rfl, h1⟩
    · have e1 : (decide (least ≤ nk ∧ nv = nk ∧ nl = 0) && !r) = false := by simp [p1]
      rw [e1]
      have p1i : ¬ (least : Int) ≤ nk := by omega
      clear e1 hcall
      go_enter Tryd.func62, Tryd.ntmps62
      go_wp2_with fail
      go_ret
      exact ⟨rfl, h1⟩
  | false =>
    have e0 : Nd.formed ⟨false, ks, vs, ls⟩ least = (decide (1 ≤ ks.length ∧ ls.length = ks.length + 1 ∧ vs.length = 0) && kidsB ls) := rfl
    rw [e0]
    clear e0 r1 r2
    generalize ks.length = nk at *
    generalize vs.length = nv at *
    generalize ls.length = nl at *
    obtain ⟨hbk1, hbk2, hbk3⟩ := hbk
    have hcall := unlike_any (L := Hp.blk w.heap.size NT #[.bool false, .slice a1 nk c1, .slice a2 nv c2, .slice a3 nl c3] :: L) a3 nl c3 ls (w.alloc (.cells #[.bool false, .slice a1 nk c1, .slice a2 nv c2, .slice a3 nl c3] NT)) hbk3 r3 (h.alloc _).f1
    have h1 := (h.alloc (.cells #[.bool false, .slice a1 nk c1, .slice a2 nv c2, .slice a3 nl c3] NT)).drop
    clear r3
    generalize kidsB ls = r at *
    by_cases p1 : 1 ≤ nk
    · have p1i : (1 : Int) ≤ nk := by omega
      by_cases p2 : nl = nk + 1
      · subst p2
        have p2w : IntKind.i64.wrap ((nk : Int) + 1) = (nk : Int) + 1 := IntWalk.i64_in _ (by omega)
        by_cases p3 : nv = 0
        · have e1 : (decide (1 ≤ nk ∧ nk + 1 = nk + 1 ∧ nv = 0) && r) = r := by simp [p1, p3]
          rw [e1]
          clear e1
          subst p3
          go_enter Tryd.func62, Tryd.ntmps62
          go_wp2_with fail
          refine hcall.mono ?_
          rintro e w1 ⟨rfl, hw⟩
          cases r
          all_goals
            go_wp2_with fail
            go_ret
            exact ⟨rfl, hw.f1.drop⟩
        · have e1 : (decide (1 ≤ nk ∧ nk + 1 = nk + 1 ∧ nv = 0) && r) = false := by simp [p3]
          rw [e1]
          have p3i : ¬ (nv : Int) = 0 := by omega
          clear e1 hcall
          go_enter Tryd.func62, Tryd.ntmps62
          go_wp2_with fail
          go_ret
          exact ⟨rfl, h1⟩
      · have e1 : (decide (1 ≤ nk ∧ nl = nk + 1 ∧ nv = 0) && r) = false := by simp [p2]
        rw [e1]
        have p2i : ¬ (nl : Int) = (nk : Int) + 1 := by omega
        have p2w : IntKind.i64.wrap ((nk : Int) + 1) = (nk : Int) + 1 := IntWalk.i64_in _ (by omega)
        clear e1 hcall
        go_enter Tryd.func62, Tryd.ntmps62
        go_wp2_with fail
        go_ret
        exact ⟨rfl, h1⟩
    · have e1 : (decide (1 ≤ nk ∧ nl = nk + 1 ∧ nv = 0) && r) = false := by simp [p1]
      rw [e1]
      have p1i : ¬ (1 : Int) ≤ nk := by omega
      clear e1 hcall
      go_enter Tryd.func62, Tryd.ntmps62
      go_wp2_with fail
      go_ret
      exact ⟨rfl, h1⟩
set_option maxHeartbeats 2000000 in
theorem wrong_any (v : Nv) (n : Nd) (w : World) (hb : n.bulk ≤ 1125899906842624) (hi : NdIn S v n) (h : Own E w (Hp.ro S :: L)) :
    Calls Tryd.prog 48 #[v.val n] w fun e w' => e = .returned (.int .i64 n.wrong) ∧ Own E w' (Hp.ro S :: L) := by
  have h1 := h.alloc (.cells #[.bool n.leaf, .slice v.a1 n.ks.length v.c1, .slice v.a2 n.vs.length v.c2, .slice v.a3 n.ls.length v.c3] NT)
  have hf := fun (B : Hp) w (hw : Own E w (Hp.ro S :: B :: L)) => formed_any v n 1 w hb hi hw
  have hm := fun (B : Hp) w (hw : Own E w (Hp.ro S :: B :: L)) => maybe_any v.a1 n.ks.length v.c1 n.ks w (Nat.le_trans hi.h1 hi.m1) hi.r1 hw
  have hs := fun (B : Hp) w (hw : Own E w (Hp.ro S :: B :: L)) => size_any v n w hb hi hw
  have hsz : n.size ≤ 5 * 1125899906842624 := Nat.le_trans n.size_le (by omega)
  have e0 : n.wrong = if n.formed 1 then if mayB n.ks then if 480 < n.size then 102 else 0 else 101 else 100 := rfl
  rw [e0]
  clear hi hb h e0
  dsimp only [Nv.val] at hf hs ⊢
  generalize n.formed 1 = r1 at *
  generalize mayB n.ks = r2 at *
  generalize n.size = sz at *
  generalize n.ks.length = nk at *
  generalize n.vs.length = nv at *
  generalize n.ls.length = nl at *
  generalize n.leaf = leaf at *
  generalize v.a1 = a1 at *
  generalize v.a2 = a2 at *
  generalize v.a3 = a3 at *
  generalize v.c1 = c1 at *
  generalize v.c2 = c2 at *
  generalize v.c3 = c3 at *
  have H1 := Lib.hid h1
  have HF := Lib.hid hf
  have HM := Lib.hid hm
  have HS := Lib.hid hs
  clear h1 hf hm hs
  go_enter Tryd.func48, Tryd.ntmps48
  go_wp2_with fail
  refine (HF.out _ _ H1.out.f1).mono ?_
  rintro e w1 ⟨rfl, hw⟩
  have f0 := hw.f1.cell 0
  have f1 := hw.f1.cell 1
  have f2 := hw.f1.cell 2
  have f3 := hw.f1.cell 3
  cases r1 with
  | false =>
    go_wp2_with fail
    go_ret
    exact ⟨rfl, hw.f1.drop⟩
  | true =>
    have HW := Lib.hid hw
    clear hw
    go_wp2_with fail
    refine (HM.out _ _ HW.out).mono ?_
    rintro e w2 ⟨rfl, hw⟩
    clear f0 f1 f2 f3 HW
    have f0 := hw.f1.cell 0
    have f1 := hw.f1.cell 1
    have f2 := hw.f1.cell 2
    have f3 := hw.f1.cell 3
    cases r2 with
    | false =>
      go_wp2_with fail
      go_ret
      exact ⟨rfl, hw.f1.drop⟩
    | true =>
      have HW := Lib.hid hw
      clear hw
      go_wp2_with fail
      refine (HS.out _ _ HW.out).mono ?_
      rintro e w3 ⟨rfl, hw⟩
      clear f0 f1 f2 f3 HW
      by_cases hq : 480 < sz
      · have hqi : (480 : Int) < sz := by omega
        go_wp2_with fail
        go_ret
        refine ⟨ret_i64 ?_, hw.f1.drop⟩
        simp
      · have hqi : ¬ (480 : Int) < sz := by omega
        go_wp2_with fail
        go_ret
        refine ⟨ret_i64 ?_, hw.f1.drop⟩
        simp
end
end Go.Proofs.YtbclmmneiphcaaaDoor
