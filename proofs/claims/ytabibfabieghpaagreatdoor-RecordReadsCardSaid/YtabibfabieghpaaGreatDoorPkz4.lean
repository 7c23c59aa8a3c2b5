/- strings.Join of texts with a space between them, up to 2^48 bytes. Go's order of texts, and lists of texts that rise, in plain Lean. scope.Print, scope.Right of any list; record.scoped. A map among the parts of memory. A loop over a map, among the parts of memory: the map's block and the iterator's. No program in sight. Texts as a rising list without doubles, in plain Lean: how a name is laid into it, and that the list is fixed by what stands in it. -/
import Derived.Test.YtabibfabieghpaaGreatDoorPkNamed
import Derived.Test.YtabibfabieghpaaGreatDoorPkz2
import Derived.Test.YtabibfabieghpaaGreatDoorPkz3
import Derived.Test.YtabibfabieghpaaGreatDoorPkz1
import Derived.Test.YtabibfabieghpaaGreatDoorPkKg
import Derived.Test.YtabibfabieghpaaGreatDoorPkz0
import Derived.Maps.OwnSet
import Derived.Maps.RangeWalk
import Derived.Sort.KeysCollected
namespace Go.Proofs.YtabibfabieghpaaGreatDoor
open Go.RowKit
section
open Go.Lib
variable {P : Program} {E w w' : World} {L : List Hp}
/-- What lies behind the end of an elder world is taken in. -/
theorem Own.adopt (h : Own E w L) (hb : Below w.heap.size w w') (p : Ph) (hp : ∀ k o, p k = some o → w.heap.size ≤ k ∧ w'.heap[k]? = some o) : Own E w' (Hp.ro p :: L) := by
  obtain ⟨h1, h2, h3, x, hx, hL⟩ := h
  obtain ⟨b1, b2, b3, b4, b5⟩ := hb
  have hd : Ph.apart p x := fun k => by
    cases e : p k with
    | none => exact .inl rfl
    | some o =>
      right
      cases e2 : x k with
      | none => rfl
      | some o2 =>
        have := lt_of_some (hx k o2 e2)
        have := (hp k o e).1
        omega
  refine ⟨b1.trans h1, b2.trans h2, b3.trans h3, Ph.join p x, fun k o hk => ?_, p, x, hd, rfl, rfl, hL⟩
  unfold Ph.join at hk
  cases e : p k with
  | some o2 =>
    rw [e] at hk
    have : o2 = o := by simpa using hk
    rw [← this]
    exact (hp k o2 e).2
  | none =>
    rw [e] at hk
    have hk2 : x k = some o := by simpa using hk
    have hk3 := hx k o hk2
    rw [b5 k (lt_of_some hk3)]
    exact hk3
theorem Own.adopt2 (h : Own E w L) (hb : Below w.heap.size w w') {b g : Nat} {o o' : Obj} (hne : b ≠ g) (hb1 : w.heap.size ≤ b) (hg1 : w.heap.size ≤ g) (hbo : w'.heap[b]? = some o) (hgo : w'.heap[g]? = some o') :
    Own E w' (Hp.obj b o :: Hp.obj g o' :: L) := by
  have hd : Ph.apart (Ph.one b o) (Ph.one g o') := fun k => by
    unfold Ph.one
    by_cases e : k = b
    · right
      rw [if_neg (by omega)]
    · left
      rw [if_neg e]
  refine (h.adopt hb (Ph.join (Ph.one b o) (Ph.one g o')) fun k u hk => ?_).part hd
  unfold Ph.join Ph.one at hk
  by_cases e : k = b
  · subst e
    simp at hk
    subst hk
    exact ⟨hb1, hbo⟩
  · rw [if_neg e] at hk
    by_cases e2 : k = g
    · subst e2
      simp at hk
      subst hk
      exact ⟨hg1, hgo⟩
    · rw [if_neg e2] at hk
      simp at hk
/-- A block of bytes of which the first ones are these. -/
def Hp.buf (g cap : Nat) (xs : List Value) : Hp := fun h => ∃ cur : Array Value, Hp.blk g U8 cur h ∧ cur.size = cap ∧ cap ≤ maxLen ∧ xs.length ≤ cap ∧ cur.toList.take xs.length = xs
theorem Own.unbuf {g cap : Nat} {xs : List Value} (h : Own E w (Hp.buf g cap xs :: L)) : ∃ cur : Array Value, cur.size = cap ∧ cap ≤ maxLen ∧ xs.length ≤ cap ∧ cur.toList.take xs.length = xs ∧ Own E w (Hp.blk g U8 cur :: L) := by
  obtain ⟨h1, h2, h3, y, hx, a, b, hd, rfl, ⟨cur, hc, c1, c2, c3, c4⟩, hL⟩ := h
  exact ⟨cur, c1, c2, c3, c4, h1, h2, h3, _, hx, a, b, hd, rfl, hc, hL⟩
theorem Own.toBuf {g cap : Nat} {xs : List Value} {cur : Array Value} (h : Own E w (Hp.blk g U8 cur :: L)) (c1 : cur.size = cap) (c2 : cap ≤ maxLen) (c3 : xs.length ≤ cap) (c4 : cur.toList.take xs.length = xs) : Own E w (Hp.buf g cap xs :: L) :=
  h.imp fun _ hx => ⟨cur, hx, c1, c2, c3, c4⟩
theorem sl_append_string_in {t u ty : TypeId} (ht : P.underlying t = some (.slice U8)) (hu : P.underlying u = some .string) (hinfo : (P.info? U8).map (fun i => (i.zero, i.size, i.bytes)) = some (some (.int .u8 0), 1, 1))
    {g cap : Nat} {xs : List Value} (h : Own E w (Hp.buf g cap xs :: L)) (s : ByteArray) (hroom : xs.length + s.size ≤ cap) :
    ∃ w', (Builtin.append_ #[t, u] ty #[.slice (some ⟨g, 0, none⟩) xs.length cap, .string s]).run P w = .ok (.slice (some ⟨g, 0, none⟩) (xs.length + s.size) cap) w' ∧ Own E w' (Hp.buf g cap (xs ++ s.data.toList.map V8') :: L) := by
  obtain ⟨i, hi, hzz⟩ := Option.map_eq_some_iff.1 hinfo
  simp only [Prod.mk.injEq] at hzz
  obtain ⟨hz, hsize, hby⟩ := hzz
  obtain ⟨cur, hcs, hcm, hxc, htake, ho⟩ := h.unbuf
  have hcells : strCells s = s.data.toList.map V8' := rfl
  have hlen : (xs ++ s.data.toList.map V8').length = xs.length + s.size := by rw [List.length_append, ← hcells, strCells_length]
  have hfit : xs.length + (strCells s).length ≤ cur.size := by rw [strCells_length]; omega
  have hf := run_firstCells_string (P := P) w 1 s
  have hst := run_storeCells_cells (P := P) g xs.length (strCells s) 0 w (fun j hj => by rw [ho.cell, Array.getElem?_eq_getElem (by omega)]; rfl) (fun j hj => ho.frozen _) (strCells_oneCell s)
  simp only [Nat.add_zero] at hst
  refine ⟨w.setCells g xs.length (strCells s), ?_, ?_⟩
  · simp [Builtin.append_, run_underlying ht, run_underlying hu, sizeOf, typeInfo, hi, hsize, Builtin.lenOf, hroom, hf, Addr.add_lit, hst]
  · refine (ho.setCells (strCells s) xs.length).toBuf (by rw [putArr_size]; exact hcs) hcm (by rw [hlen]; exact hroom) ?_
    have e8 := putArr_splice cur.toList (strCells s) xs.length (by simpa using hfit)
    have e9 : cur.toList.toArray = cur := by simp
    rw [e9] at e8
    rw [e8, hlen]
    unfold splice
    rw [htake, ← List.append_assoc, ← hcells]
    have e10 : xs.length + s.size = (xs ++ strCells s).length := by rw [List.length_append, strCells_length]
    rw [e10]
    exact List.take_left
end
section
variable {E : World} {L : List Hp}
abbrev SBT : TypeId := 199
set_option maxHeartbeats 1000000 in
theorem bwrite_any (b g cap : Nat) (xs : List Value) (s : ByteArray) (w : World) (hroom : xs.length + s.size ≤ cap) (h : Own E w (Hp.blk b SBT #[.pointer (some ⟨b, 0, none⟩), .slice (some ⟨g, 0, none⟩) xs.length cap] :: Hp.buf g cap xs :: L)) :
    Calls Tryz.prog 150 #[.pointer (some ⟨b, 0, none⟩), .string s] w fun e w' => ∃ v, e = .returned v ∧ Own E w' (Hp.blk b SBT #[.pointer (some ⟨b, 0, none⟩), .slice (some ⟨g, 0, none⟩) (xs.length + s.size) cap] :: Hp.buf g cap (xs ++ s.data.toList.map V8') :: L) := by
  have hc0 : w.cell? ⟨b, 0, none⟩ = some (.pointer (some ⟨b, 0, none⟩)) := h.cell 0
  have hc1 : w.cell? ⟨b, 1, none⟩ = some (.slice (some ⟨g, 0, none⟩) xs.length cap) := h.cell 1
  obtain ⟨w5, hap, h2⟩ := sl_append_string_in (P := Tryz.prog) (t := BT) (u := ST) (ty := BT) (by kernel_rfl) (by kernel_rfl) u8_info h.f1 s hroom
  have f1 := h2.f1.frozen 1
  have d0 := h2.f1.cell 1
  have h3 := h2.f1.set 1 (.slice (some ⟨g, 0, none⟩) (xs.length + s.size) cap)
  have H4 := Lib.hid h3
  have K1 := Any.Builder_copyCheck_used (P := Tryz.prog) (ρ := Tryz.lays165_ren) { Tryz.lays165 with } { Tryz.Builder_Extra_165 with } b w hc0
  clear h h2 h3
  go_enter Tryz.func150, Tryz.ntmps150
  go_wp2_with (first
    | (refine K1.mono ?_; rintro e w2 ⟨rfl, rfl⟩)
    | (with_reducible refine at_slot (k := some 14) ?_; refine wpList_append_run (o := ⟨some 14, _, _, _, _, _⟩) hap rfl rfl rfl rfl ?_; clear hap))
  go_ret2
  exact ⟨_, rfl, H4.out⟩
/-- A builder that has been written: its two fields, and its bytes. -/
def Hp.bld (b g cap : Nat) (l : List UInt8) : Hp := Hp.all [Hp.blk b SBT #[.pointer (some ⟨b, 0, none⟩), .slice (some ⟨g, 0, none⟩) l.length cap], Hp.buf g cap (l.map V8')]
theorem Own.bld {w : World} {b g cap : Nat} {l : List UInt8} : Own E w (Hp.bld b g cap l :: L) ↔ Own E w (Hp.blk b SBT #[.pointer (some ⟨b, 0, none⟩), .slice (some ⟨g, 0, none⟩) l.length cap] :: Hp.buf g cap (l.map V8') :: L) := Own.star
theorem bput_any (b g cap : Nat) (l : List UInt8) (s : ByteArray) (w : World) (hroom : l.length + s.size ≤ cap) (h : Own E w (Hp.bld b g cap l :: L)) :
    Calls Tryz.prog 150 #[.pointer (some ⟨b, 0, none⟩), .string s] w fun e w' => ∃ v, e = .returned v ∧ Own E w' (Hp.bld b g cap (l ++ s.data.toList) :: L) := by
  have h1 := Own.bld.1 h
  have e1 : (l.map V8').length = l.length := List.length_map ..
  rw [← e1] at h1
  refine (bwrite_any b g cap (l.map V8') s w (by rw [e1]; exact hroom) h1).mono ?_
  rintro e w' ⟨v, rfl, h2⟩
  refine ⟨v, rfl, Own.bld.2 ?_⟩
  rw [e1] at h2
  rw [List.map_append, List.length_append]
  exact h2
theorem bgrow_any (T : Nat) (w : World) (hT : 0 < T) (hT2 : T ≤ 281474976710656) (h : Own E w L) :
    Calls Tryz.prog 149 #[.pointer (some ⟨w.heap.size, 0, none⟩), .int .i64 T] (w.alloc (.cells #[.pointer none, .slice none 0 0] SBT)) fun e w' => ∃ v g cap, e = .returned v ∧ T ≤ cap ∧ w.heap.size ≤ g ∧ Own E w' (Hp.bld w.heap.size g cap [] :: L) := by
  have h1 := h.alloc (.cells #[.pointer none, .slice none 0 0] SBT)
  refine (Tryz.Builder_Grow_fresh_cap w.heap.size w.heap.size T _ (Nat.le_refl _) h1.at_ (by show _ ≤ (w.heap.push _).size; rw [Array.size_push]; omega) hT2).mono ?_
  rintro e w' ⟨rfl, ⟨⟨-, v, hbk, hown, hne⟩, hbl⟩, p, cap, hc1, hcap⟩
  have hv : v = .slice p 0 cap := by
    rw [cell_of_row _ _ 1 _ _ _ hbk] at hc1
    simpa using hc1
  subst hv
  rcases hown.2 with ⟨hv, -⟩ | ⟨g, cap', cur, hv, hB, hg, -, hcm, hcs, -⟩
  · injection hv with e1 e2 e3
    omega
  · injection hv with e1 e2 e3
    subst e1 e3
    refine ⟨_, g, cap, rfl, hcap, hB, Own.bld.2 ?_⟩
    have hbe : Below w.heap.size w w' := ((Below.refl _ w).alloc (Nat.le_refl _) _).trans hbl
    have h5 := h.adopt2 hbe (b := w.heap.size) (g := g) (fun e => hne (by simp [Value.ownBlock, e])) (Nat.le_refl _) hB hbk hg
    exact (Own.toBuf (xs := []) h5.f1 (by omega) hcm (by simp) (by simp)).f1
theorem bstring_any (b g cap : Nat) (l : List UInt8) (w0 w : World) (hb : w0.heap.size ≤ b) (hg : w0.heap.size ≤ g) (h : Own w0 w (Hp.bld b g cap l :: [Hp.ro (Ph.of w0)])) :
    Calls Tryz.prog 151 #[.pointer (some ⟨b, 0, none⟩)] w fun e w' => e = .returned (.string ⟨l.toArray⟩) ∧ Below w0.heap.size w0 w' := by
  have h1 := Own.bld.1 h
  obtain ⟨cur, c1, c2, c3, c4, h2⟩ := h1.f1.unbuf
  have hbelow := h.f1.below
  have hne := h2.ne
  refine (Tryz.Builder_String_any w0.heap.size b l w (.inr ⟨hb, .slice (some ⟨g, 0, none⟩) l.length cap, h1.at_, ?_, ?_⟩) hbelow.size).mono ?_
  · rw [List.length_map] at c3 c4
    exact ⟨by simp [Lib.byteCells], .inr ⟨g, cap, cur, by simp [Lib.byteCells], hg, h2.at_, by simpa [Lib.byteCells] using c3, c2, by omega, by simpa [Lib.byteCells] using c4⟩⟩
  · simp only [Value.ownBlock]
    intro e
    injection e with e
    exact hne e
  · rintro e w' ⟨rfl, hb2⟩
    exact ⟨rfl, hbelow.trans hb2⟩
def tot : List ByteArray → Nat
  | [] => 0
  | x :: r => x.size + tot r
def joinL : List ByteArray → List UInt8
  | [] => []
  | x :: r => x.data.toList ++ r.flatMap fun y => 32 :: y.data.toList
theorem tot_take (xs : List ByteArray) : ∀ (k : Nat) (x : ByteArray), xs[k]? = some x → tot (xs.take (k + 1)) = tot (xs.take k) + x.size := by
  induction xs with
  | nil => intro k x h; simp at h
  | cons y r ih =>
    intro k x h
    cases k with
    | zero =>
      simp at h
      subst h
      simp [tot]
    | succ k =>
      have := ih k x (by simpa using h)
      show y.size + tot (r.take (k + 1)) = y.size + tot (r.take k) + x.size
      omega
theorem tot_le (xs : List ByteArray) : ∀ k, tot (xs.take k) ≤ tot xs := by
  induction xs with
  | nil => intro k; simp [tot]
  | cons y r ih =>
    intro k
    cases k with
    | zero => simp [tot]
    | succ k =>
      have := ih k
      show y.size + tot (r.take k) ≤ y.size + tot r
      omega
def flatJ (r : List ByteArray) : List UInt8 := r.flatMap fun y => 32 :: y.data.toList
theorem flatJ_take (r : List ByteArray) : ∀ (k : Nat) (y : ByteArray), r[k]? = some y → flatJ (r.take (k + 1)) = flatJ (r.take k) ++ [32] ++ y.data.toList := by
  induction r with
  | nil => intro k y h; simp at h
  | cons z r ih =>
    intro k y h
    cases k with
    | zero =>
      simp at h
      subst h
      simp [flatJ]
    | succ k =>
      have := ih k y (by simpa using h)
      show 32 :: z.data.toList ++ flatJ (r.take (k + 1)) = 32 :: z.data.toList ++ flatJ (r.take k) ++ [32] ++ y.data.toList
      rw [this]
      simp
theorem flatJ_len (r : List ByteArray) : (flatJ r).length = r.length + tot r := by
  induction r with
  | nil => rfl
  | cons z r ih =>
    show (32 :: z.data.toList ++ flatJ r).length = r.length + 1 + (z.size + tot r)
    rw [List.length_append, ih]
    have : (32 :: z.data.toList).length = z.size + 1 := by simp
    omega
abbrev LST : TypeId := 54
theorem lst_u : Tryz.prog.underlying LST = some (.slice ST) := by kernel_rfl
set_option maxRecDepth 20000 in
set_option maxHeartbeats 2000000 in
theorem joinmany_any (b off n c : Nat) (xs : List ByteArray) (w : World) (hn : xs.length = n) (h2 : 2 ≤ n) (hnc : n ≤ c) (hc : ∀ (k : Nat) (x : ByteArray), xs[k]? = some x → w.cell? ⟨b, off + k, none⟩ = some (.string x))
    (hsz : n - 1 + tot xs ≤ 281474976710656) :
    Calls Tryz.prog 140 #[.slice (some ⟨b, off, none⟩) n c, .string ⟨#[32]⟩] w fun e w' => e = .returned (.string ⟨(joinL xs).toArray⟩) ∧ Below w.heap.size w w' := by
  have q0 : ¬ (n : Int) = 0 := by omega
  have q1 : ¬ (n : Int) = 1 := by omega
  have q2 : ¬ (n : Int) - 1 = 0 := by omega
  have hT : n - 1 + tot xs ≤ 281474976710656 := hsz
  have q3 : wrap64 ((n : Int) - 1) = (n : Int) - 1 := by unfold wrap64; omega
  have q4 : 2 ≤ 9223372036854775807 / ((n : Int) - 1) := (Int.le_ediv_iff_mul_le (by omega)).2 (by omega)
  have q7 : 9223372036854775807 / ((n : Int) - 1) ≤ 9223372036854775807 := Int.ediv_le_self _ (by omega)
  have q8 : Int.tdiv 9223372036854775807 ((n : Int) - 1) = 9223372036854775807 / ((n : Int) - 1) := Int.tdiv_eq_ediv_of_nonneg (by omega)
  have q5 : wrap64 (9223372036854775807 / ((n : Int) - 1)) = 9223372036854775807 / ((n : Int) - 1) := by unfold wrap64; omega
  have q6 : ¬ 9223372036854775807 / ((n : Int) - 1) ≤ 1 := by omega
  have hsl : ∀ w, (Instr.sliceAt LST (.slice (some ⟨b, off, none⟩) n c) (some (.int .i64 1)) none none).run Tryz.prog w = .ok (.slice (tailAt (some ⟨b, off, none⟩) c 1 1) (n - 1) (c - 1)) w := fun w => run_slice_low (P := Tryz.prog) (i := 1) lst_u (by kernel_rfl) (by omega)
  have HSZ := Lib.hid hT
  clear hsz hT q4 q7
  go_enter Tryz.func140, Tryz.ntmps140
  go_wp2_with fail
  go_loopw [5, 41] (fun s i wr => ∃ k : Nat, k ≤ n ∧ i = .int .i64 k ∧ s = .int .i64 ((n - 1 + tot (xs.take k) : Nat) : Int) ∧ w = wr) (fun _ i _ => n - (intOf i).toNat)
  case atStart => exact ⟨0, by omega, rfl, by simp [tot]; omega, rfl⟩
  case round =>
    obtain ⟨k, hk, rfl, rfl, rfl⟩ := hrel
    by_cases hlt : k < n
    · cases hx : xs[k]? with
      | none =>
        rw [List.getElem?_eq_none_iff] at hx
        omega
      | some x =>
      have hcx := hc k x hx
      have ht := tot_take xs k x hx
      have hle := tot_le xs (k + 1)
      have hz := HSZ.out
      have i1 : (k : Int) < n := by omega
      have hs := Lib.hid (show n - 1 + tot (xs.take (k + 1)) = n - 1 + tot (xs.take k) + x.size by omega)
      generalize hs0 : n - 1 + tot (xs.take k) = s0 at *
      have i2 : wrap64 (9223372036854775807 - (s0 : Int)) = 9223372036854775807 - s0 := by unfold wrap64; omega
      have i3 : ¬ 9223372036854775807 - (s0 : Int) < x.size := by omega
      have i5 : wrap64 ((k : Int) + 1) = ((k + 1 : Nat) : Int) := by unfold wrap64; omega
      have HB := Lib.hid (show s0 + x.size ≤ 281474976710656 by omega)
      clear hz ht hle hx hc hs0
      go_wp2_with fail
      go_roundw
      case rel =>
        have hb := HB.out
        clear q2 q3 q5 q6 q8 i2 i3
        refine ⟨k + 1, by omega, by rw [i5], ?_, by first | trivial | rfl⟩
        rw [hs.out]
        first | rfl | (congr 1; omega)
      case measure =>
        clear q2 q3 q5 q6 q8 i2 i3
        rw [i5]
        simp only [intOf]
        omega
    · obtain rfl : k = n := by omega
      cases xs with
      | nil => simp at hn; omega
      | cons x0 r =>
      have hrl : r.length + 1 = k := by simpa using hn
      have c0 : w.cell? ⟨b, off, none⟩ = some (.string x0) := hc 0 x0 rfl
      have hcr : ∀ (j : Nat) (x : ByteArray), r[j]? = some x → w.cell? ⟨b, off + 1 + j, none⟩ = some (.string x) := fun j x hx => by
        have := hc (j + 1) x (by simpa using hx)
        rwa [show off + (j + 1) = off + 1 + j by omega] at this
      have ht : tot ((x0 :: r).take k) = x0.size + tot r := by
        rw [List.take_of_length_le (by simp; omega)]; rfl
      rw [ht] at *
      have hz : k - 1 + (x0.size + tot r) ≤ 281474976710656 := HSZ.out
      have hta : tailAt (some ⟨b, off, none⟩) c 1 1 = some ⟨b, off + 1, none⟩ := by
        unfold tailAt
        rw [if_neg (by omega)]
        rfl
      rw [hta] at hsl
      have HT := Lib.hid (show k - 1 + (x0.size + tot r) = r.length + x0.size + tot r by omega)
      have G := bgrow_any (k - 1 + (x0.size + tot r)) w (by omega) hz (Own.start w)
      have HK := Lib.hid (show r.length = k - 1 by omega)
      have HCR := Lib.hid hcr
      have hkr : ((k - 1 : Nat) : Int) = (r.length : Int) := by omega
      generalize k - 1 + (x0.size + tot r) = T at *
      clear hc ht hz q2 q3 q5 q6 q8 hta hn hcr
      go_wp2_with (first
        | (refine G.mono ?_; clear G; rintro e w2 ⟨v, g, cap, rfl, hcap, hg, h⟩; have c0' := h.f1.old c0; have B1 := bput_any w.heap.size g cap [] x0 w2 (by have := HT.out; simp; omega) h; clear h)
        | (refine B1.mono ?_; clear B1; rintro e w3 ⟨v, rfl, h⟩; have H := Lib.hid h; clear h))
      go_loopw [65] (fun i wr => ∃ j : Nat, j ≤ r.length ∧ i = .int .i64 j ∧ Own w wr (Hp.bld w.heap.size g cap (x0.data.toList ++ flatJ (r.take j)) :: [Hp.ro (Ph.of w)])) (fun i _ => r.length - (intOf i).toNat)
      case atStart => exact ⟨0, by omega, rfl, by simpa [flatJ] using H.out⟩
      case round =>
        obtain ⟨j, hj, rfl, hw⟩ := hrel
        clear H c0 c0'
        by_cases hlt2 : j < r.length
        · cases hx : r[j]? with
          | none =>
            rw [List.getElem?_eq_none_iff] at hx
            omega
          | some y =>
          have hcx := hw.f1.old (HCR.out j y hx)
          have e5 := flatJ_take r j y hx
          have l1 := flatJ_len (r.take j)
          have l2 := flatJ_len (r.take (j + 1))
          have l3 := tot_le r (j + 1)
          have l4 := tot_take r j y hx
          have l5 : (r.take j).length = j := by rw [List.length_take]; omega
          have l6 : (r.take (j + 1)).length = j + 1 := by rw [List.length_take]; omega
          have hT := HT.out
          have B1 := bput_any w.heap.size g cap (x0.data.toList ++ flatJ (r.take j)) ⟨#[32]⟩ wr (by
            rw [List.length_append, l1, l5]
            show x0.size + _ + 1 ≤ cap
            omega) hw
          have B2 := Lib.hid (fun (w3 : World) h => bput_any (E := w) (L := [Hp.ro (Ph.of w)]) w.heap.size g cap (x0.data.toList ++ flatJ (r.take j) ++ [32]) y w3 (by
            rw [List.length_append, List.length_append, l1, l5]
            show x0.size + _ + 1 + y.size ≤ cap
            omega) h)
          have E5 := Lib.hid e5
          have i1 : (j : Int) < (r.length : Int) := by omega
          clear hx e5 l1 l2 l3 l4 l5 l6 hT hw
          go_wp2_with (first
            | (refine B1.mono ?_; clear B1; rintro e w3 ⟨v, rfl, h⟩; have B3 := B2.out w3 h; clear h B2)
            | (refine B3.mono ?_; clear B3; rintro e w4 ⟨v, rfl, h⟩; have H := Lib.hid h; clear h))
          have i5 : wrap64 ((j : Int) + 1) = ((j + 1 : Nat) : Int) := by
            have := HSZ.out
            unfold wrap64
            omega
          go_roundw
          case rel => exact ⟨j + 1, by omega, by rw [i5], by rw [E5.out, ← List.append_assoc, ← List.append_assoc]; exact H.out⟩
          case measure =>
            rw [i5]
            simp only [intOf]
            omega
        · have e6 : r.take j = r := List.take_of_length_le (by omega)
          rw [e6] at hw
          have hcap3 := bstring_any w.heap.size g cap (x0.data.toList ++ flatJ r) w wr (Nat.le_refl _) hg hw
          have i1 : ¬ (j : Int) < (r.length : Int) := by omega
          clear hw
          go_wp2_with (refine hcap3.mono ?_; clear hcap3; rintro e w3 ⟨rfl, h⟩)
          go_ret
          exact ⟨rfl, h⟩
/-- Any texts with a space between them. -/
theorem join_any {S : Ph} (A : Option Addr) (n c : Nat) (xs : List ByteArray) (w : World) (hr : Rds S 1 enStr A n xs) (hnc : n ≤ c) (hsz : n - 1 + tot xs ≤ 281474976710656) (h : Own E w (Hp.ro S :: L)) :
    Calls Tryz.prog 140 #[.slice A n c, .string ⟨#[32]⟩] w fun e w' => e = .returned (.string ⟨(joinL xs).toArray⟩) ∧ Own E w' (Hp.ro S :: L) := by
  have hn := hr.1
  by_cases h0 : n = 0
  · subst h0
    have : xs = [] := List.eq_nil_of_length_eq_zero hn
    subst this
    have H := Lib.hid h
    clear h hr hsz
    go_enter Tryz.func140, Tryz.ntmps140
    go_wp2_with fail
    go_ret
    exact ⟨rfl, H.out⟩
  · obtain ⟨x, b, off, hx, rfl, hc⟩ := hr.get1 (k := 0) (by omega)
    by_cases h1 : n = 1
    · subst h1
      obtain ⟨y, rfl⟩ : ∃ y, xs = [y] := List.length_eq_one_iff.1 hn
      have hxy : x = y := by simpa using hx.symm
      subst hxy
      have c0 : w.cell? ⟨b, off, none⟩ = some (.string x) := h.rd (hc _ rfl)
      have ej : joinL [x] = x.data.toList := by simp [joinL]
      rw [ej]
      have H := Lib.hid h
      clear h hr hsz ej hc hx
      go_enter Tryz.func140, Tryz.ntmps140
      go_wp2_with fail
      go_ret
      exact ⟨rfl, H.out⟩
    · refine (joinmany_any b off n c xs w hn (by omega) hnc (fun k y hy => ?_) hsz).mono ?_
      · have hk : k < n := by rw [← hn]; exact (List.getElem?_eq_some_iff.1 hy).1
        obtain ⟨y', b', off', hy', e, hc'⟩ := hr.get1 hk
        injection e with e
        injection e with e1 e2
        subst e1 e2
        rw [hy] at hy'
        injection hy' with hy'
        subst hy'
        exact h.rd (hc' _ rfl)
      · rintro e w' ⟨rfl, hb⟩
        exact ⟨rfl, h.ofBelow hb⟩
end
end Go.Proofs.YtabibfabieghpaaGreatDoor
namespace Go.Proofs.YtabibfabieghpaaGreatDoor
open Go.RowKit
namespace Tx
theorem lt_irrefl : ∀ a : List UInt8, Op.bytesLess a a = false
  | [] => rfl
  | a :: x => by simp [Op.bytesLess, lt_irrefl x]
theorem lt_tri : ∀ a b : List UInt8, Op.bytesLess a b = true ∨ a = b ∨ Op.bytesLess b a = true
  | [], [] => .inr (.inl rfl)
  | [], _ :: _ => .inl rfl
  | _ :: _, [] => .inr (.inr rfl)
  | a :: x, b :: y => by
    simp only [Op.bytesLess, Bool.or_eq_true, decide_eq_true_eq, Bool.and_eq_true, beq_iff_eq, List.cons.injEq]
    rcases (by have h := @UInt8.toNat_inj a b; have h1 := @UInt8.lt_iff_toNat_lt a b; have h2 := @UInt8.lt_iff_toNat_lt b a; rcases Nat.lt_trichotomy a.toNat b.toNat with e | e | e; exact .inl (h1.2 e); exact .inr (.inl (h.1 e)); exact .inr (.inr (h2.2 e)) : a < b ∨ a = b ∨ b < a) with e | e | e
    · exact .inl (.inl e)
    · subst e
      rcases lt_tri x y with e2 | e2 | e2
      · exact .inl (.inr ⟨rfl, e2⟩)
      · exact .inr (.inl ⟨rfl, e2⟩)
      · exact .inr (.inr (.inr ⟨rfl, e2⟩))
    · exact .inr (.inr (.inl e))
theorem lt_trans : ∀ {a b c : List UInt8}, Op.bytesLess a b = true → Op.bytesLess b c = true → Op.bytesLess a c = true
  | _, [], _, h, _ => by simp [Op.bytesLess] at h
  | _, _ :: _, [], _, h => by simp [Op.bytesLess] at h
  | [], _ :: _, _ :: _, _, _ => rfl
  | a :: x, b :: y, c :: z, h1, h2 => by
    simp only [Op.bytesLess, Bool.or_eq_true, decide_eq_true_eq, Bool.and_eq_true, beq_iff_eq] at h1 h2 ⊢
    have hab := @UInt8.lt_iff_toNat_lt a b
    have hbc := @UInt8.lt_iff_toNat_lt b c
    have hac := @UInt8.lt_iff_toNat_lt a c
    rcases h1 with h1 | ⟨rfl, h1⟩ <;> rcases h2 with h2 | ⟨rfl, h2⟩
    · exact .inl (hac.2 (Nat.lt_trans (hab.1 h1) (hbc.1 h2)))
    · exact .inl h1
    · exact .inl h2
    · exact .inr ⟨rfl, lt_trans h1 h2⟩
theorem lt_asymm {a b : List UInt8} (h : Op.bytesLess a b = true) : Op.bytesLess b a = false := by
  cases e : Op.bytesLess b a with
  | false => rfl
  | true => exact absurd (lt_trans h e) (by rw [lt_irrefl]; decide)
theorem lt_ne {a b : List UInt8} (h : Op.bytesLess a b = true) : a ≠ b := by
  rintro rfl; rw [lt_irrefl] at h; cases h
end Tx
/-- a below b. -/
def slt (a b : ByteArray) : Bool := Op.bytesLess a.data.toList b.data.toList
theorem slt_walk (a b : ByteArray) : Op.bytesLess a.toList b.toList = slt a b := by unfold slt; rw [ByteArray.toList_eq, ByteArray.toList_eq]
theorem str_eq_of {a b : ByteArray} (h : a.data.toList = b.data.toList) : a = b := ByteArray.ext (Array.toList_inj.1 h)
/-- How two texts stand, as the walk spells it. -/
theorem slt_tri (a b : ByteArray) : (slt a b = true ∧ slt b a = false ∧ a ≠ b ∧ Op.bytesLess a.toList b.toList = true ∧ Op.bytesLess b.toList a.toList = false ∧ (a.toList == b.toList) = false ∧ (b.toList == a.toList) = false)
    ∨ (slt a b = false ∧ slt b a = false ∧ a = b ∧ Op.bytesLess a.toList b.toList = false ∧ Op.bytesLess b.toList a.toList = false ∧ (a.toList == b.toList) = true ∧ (b.toList == a.toList) = true)
    ∨ (slt a b = false ∧ slt b a = true ∧ a ≠ b ∧ Op.bytesLess a.toList b.toList = false ∧ Op.bytesLess b.toList a.toList = true ∧ (a.toList == b.toList) = false ∧ (b.toList == a.toList) = false) := by
  simp only [slt_walk]
  simp only [slt, ByteArray.toList_eq, beq_eq_false_iff_ne, beq_iff_eq]
  rcases Tx.lt_tri a.data.toList b.data.toList with h | h | h
  · have h2 := Tx.lt_asymm h
    have h3 := Tx.lt_ne h
    exact .inl ⟨h, h2, fun e => h3 (by rw [e]), h, h2, h3, h3.symm⟩
  · obtain rfl := str_eq_of h
    have h2 := Tx.lt_irrefl a.data.toList
    exact .inr (.inl ⟨h2, h2, rfl, h2, h2, rfl, rfl⟩)
  · have h2 := Tx.lt_asymm h
    have h3 := Tx.lt_ne h
    exact .inr (.inr ⟨h2, h, fun e => h3 (by rw [e]), h2, h, h3.symm, h3⟩)
theorem slt_trans {a b c : ByteArray} (h1 : slt a b = true) (h2 : slt b c = true) : slt a c = true := Tx.lt_trans h1 h2
theorem slt_irrefl (a : ByteArray) : slt a a = false := Tx.lt_irrefl _
theorem slt_asymm {a b : ByteArray} (h1 : slt a b = true) : slt b a = false := Tx.lt_asymm h1
/-- Each above the one ahead of it. -/
def risesB : List ByteArray → Bool
  | a :: b :: l => slt a b && risesB (b :: l)
  | _ => true
theorem risesB_iff : ∀ xs : List ByteArray, risesB xs = true ↔ ∀ i a b, xs[i]? = some a → xs[i + 1]? = some b → slt a b = true
  | [] => by simp [risesB]
  | [_] => by simp [risesB]
  | a :: b :: l => by
    have ih := risesB_iff (b :: l)
    simp only [risesB, Bool.and_eq_true]
    constructor
    · rintro ⟨h1, h2⟩ i x y hx hy
      cases i with
      | zero =>
        simp at hx hy
        subst hx hy
        exact h1
      | succ i => exact ih.1 h2 i x y (by simpa using hx) (by simpa using hy)
    · intro h
      exact ⟨h 0 a b rfl rfl, ih.2 fun i x y hx hy => h (i + 1) x y (by simpa using hx) (by simpa using hy)⟩
/-- In a list that rises, whatever stands further back is above. -/
theorem rises_lt {xs : List ByteArray} (h : risesB xs = true) : ∀ (d i : Nat) (a b : ByteArray), xs[i]? = some a → xs[i + d + 1]? = some b → slt a b = true
  | 0, i, a, b, ha, hb => (risesB_iff xs).1 h i a b ha hb
  | d + 1, i, a, b, ha, hb => by
    have hl : i + d + 1 < xs.length := by have := (List.getElem?_eq_some_iff.1 hb).1; omega
    exact slt_trans (rises_lt h d i a _ ha (List.getElem?_eq_getElem hl)) ((risesB_iff xs).1 h (i + d + 1) _ b (List.getElem?_eq_getElem hl) hb)
end Go.Proofs.YtabibfabieghpaaGreatDoor
namespace Go.Proofs.YtabibfabieghpaaGreatDoor
open Go.RowKit
theorem rises_step {xs : List ByteArray} {k : Nat} {a b : ByteArray} (hp : ∀ i a b, i + 1 < k + 1 → xs[i]? = some a → xs[i + 1]? = some b → slt a b = true) (ha : xs[k]? = some a) (hb : xs[k + 1]? = some b) (h : slt a b = true) :
    ∀ i a b, i + 1 < k + 1 + 1 → xs[i]? = some a → xs[i + 1]? = some b → slt a b = true := fun i x y hi hx hy => by
  by_cases e : i = k
  · subst e
    rw [ha] at hx
    rw [hb] at hy
    injection hx with hx
    injection hy with hy
    subst hx hy
    exact h
  · exact hp i x y (by omega) hx hy
theorem rises_not {xs : List ByteArray} {k : Nat} {a b : ByteArray} (ha : xs[k]? = some a) (hb : xs[k + 1]? = some b) (h : slt a b = false) : risesB xs = false := by
  cases e : risesB xs with
  | false => rfl
  | true => rw [(risesB_iff xs).1 e k a b ha hb] at h; cases h
end Go.Proofs.YtabibfabieghpaaGreatDoor
namespace Go.Proofs.YtabibfabieghpaaGreatDoor
open Go.RowKit
/-- Names that rise. -/
def scOk (xs : List ByteArray) : Bool := xs.all nameB && risesB xs
def scErr (xs : List ByteArray) : Int := if scOk xs then (if xs.length ≤ 8 ∧ (joinL xs).length ≤ 60 then 0 else 61) else 60
def scTxt (xs : List ByteArray) : ByteArray := if scErr xs = 0 then ⟨(joinL xs).toArray⟩ else ⟨#[]⟩
theorem joinL_len (xs : List ByteArray) : (joinL xs).length ≤ xs.length - 1 + tot xs := by
  cases xs with
  | nil => simp [joinL]
  | cons x r =>
    have := flatJ_len r
    show (x.data.toList ++ flatJ r).length ≤ _
    rw [List.length_append, this]
    show x.size + (r.length + tot r) ≤ r.length + 1 - 1 + (x.size + tot r)
    omega
theorem nm_size {s : ByteArray} (h : nameB s = true) : s.size ≤ 16 := by
  unfold nameB at h
  simp only [Bool.and_eq_true, decide_eq_true_eq] at h
  exact h.2
theorem tot_names : ∀ xs : List ByteArray, xs.all nameB = true → tot xs ≤ 16 * xs.length
  | [], _ => by simp [tot]
  | x :: r, h => by
    rw [List.all_cons, Bool.and_eq_true] at h
    have h1 := nm_size h.1
    have h2 := tot_names r h.2
    show x.size + tot r ≤ 16 * (r.length + 1)
    omega
theorem names_all {xs : List ByteArray} {k : Nat} (hk : k = xs.length) (h : ∀ i a, i < k → xs[i]? = some a → nameB a = true) : xs.all nameB = true := by
  rw [List.all_eq_true]
  intro x hx
  obtain ⟨i, hi, rfl⟩ := List.getElem_of_mem hx
  exact h i _ (by omega) (List.getElem?_eq_getElem hi)
theorem names_not {xs : List ByteArray} {k : Nat} {a : ByteArray} (hk : xs[k]? = some a) (h : nameB a = false) : scErr xs = 60 := by
  have : xs.all nameB = false := by
    cases e : xs.all nameB with
    | false => rfl
    | true =>
      have := List.all_eq_true.1 e a (List.mem_of_getElem? hk)
      rw [h] at this
      cases this
  unfold scErr scOk
  rw [this]
  rfl
theorem rise_not {xs : List ByteArray} {k : Nat} {a b : ByteArray} (ha : xs[k]? = some a) (hb : xs[k + 1]? = some b) (h : slt a b = false) : scErr xs = 60 := by
  unfold scErr scOk
  rw [rises_not ha hb h, Bool.and_false]
  rfl
theorem scTxt_60 {xs : List ByteArray} (h : scErr xs = 60) : scTxt xs = ⟨#[]⟩ := by
  unfold scTxt
  rw [h]
  rfl
theorem scTxt_61 {xs : List ByteArray} (h : scErr xs = 61) : scTxt xs = ⟨#[]⟩ := by
  unfold scTxt
  rw [h]
  rfl
theorem run_geq_str (T : TypeId) (a b : ByteArray) (w : World) : (binOp .geq T (.string a) (.string b)).run Tryz.prog w = .ok (.bool (!slt a b)) w := by
  simp [binOp, Op.stringOp, slt_walk, go_sem]
section
variable {E : World} {S : Ph} {L : List Hp}
set_option maxRecDepth 20000 in
set_option maxHeartbeats 2000000 in
theorem print_any (A : Option Addr) (n c : Nat) (xs : List ByteArray) (w : World) (hr : Rds S 1 enStr A n xs) (hnc : n ≤ c) (hn43 : n ≤ 8796093022208) (h : Own E w (Hp.ro S :: L)) :
    Calls Tryz.prog 124 #[.slice A n c] w fun e w' => e = .returned (.tuple #[.string (scTxt xs), .int .i64 (scErr xs)]) ∧ Own E w' (Hp.ro S :: L) := by
  have HN43 := Lib.hid hn43
  have HLEN := Lib.hid hr.1
  clear hn43
  go_enter Tryz.func124, Tryz.ntmps124
  go_wp2_with fail
  go_loopw [9] (fun i wr => ∃ k : Nat, k ≤ n ∧ i = .int .i64 k ∧ (∀ i a, i < k → xs[i]? = some a → nameB a = true) ∧ (∀ i a b, i + 1 < k → xs[i]? = some a → xs[i + 1]? = some b → slt a b = true) ∧ Own E wr (Hp.ro S :: L)) (fun i _ => n - (intOf i).toNat)
  case atStart => exact ⟨0, by omega, rfl, fun _ _ h => absurd h (by omega), fun _ _ _ h => absurd h (by omega), h⟩
  case round =>
    obtain ⟨k, hk, rfl, hnm, hri, hw⟩ := hrel
    clear h
    by_cases hlt : k < n
    · obtain ⟨x, b, off, hx, rfl, hc⟩ := hr.get1 hlt
      have hcx := hw.rd (hc _ rfl)
      have HNM := Lib.hid hnm
      have HRI := Lib.hid hri
      clear hnm hri
      cases k with
      | zero =>
        have hcx : wr.cell? ⟨b, off, none⟩ = some (.string x) := hcx
        have HN := fun h => named_any (E := E) (L := Hp.ro S :: L) x wr h
        have HX := Lib.hid hx
        have i1 : (0 : Int) < n := by omega
        clear hr hx hc hk hlt
        cases e : nameB x with
        | false =>
          have HE := Lib.hid e
          rw [e] at HN
          clear e
          go_wp2_with (refine (HN hw).mono ?_; clear HN hw; rintro e wr2 ⟨rfl, hw⟩)
          go_ret2
          have e6 := names_not HX.out HE.out
          rw [e6, scTxt_60 e6]
          exact ⟨rfl, hw⟩
        | true =>
          have HE := Lib.hid e
          rw [e] at HN
          clear e
          go_wp2_with (refine (HN hw).mono ?_; clear HN hw; rintro e wr2 ⟨rfl, hw⟩)
          go_roundw
          case rel =>
            refine ⟨1, by omega, by first | rfl | go_num, fun i a hi ha => ?_, fun _ _ _ h => absurd h (by omega), hw⟩
            obtain rfl : i = 0 := by omega
            rw [HX.out] at ha
            injection ha with ha
            rw [← ha]; exact HE.out
          case measure => simp [intOf]; omega
      | succ k =>
        obtain ⟨y, b', off', hy, e, hc'⟩ := hr.get1 (k := k) (by omega)
        injection e with e
        injection e with e1 e2
        subst e1 e2
        have HCY := Lib.hid (hc' _ rfl)
        have HN := fun h => named_any (E := E) (L := Hp.ro S :: L) x wr h
        have i1 : (((k + 1 : Nat) : Int)) < n := by omega
        have i2 : wrap64 (k : Int) = (k : Int) := by have := HN43.out; unfold wrap64; omega
        have i4 : (k : Int) < n := by omega
        have i3 : (0 : Int) < ((k + 1 : Nat) : Int) := by omega
        have i5 := Lib.hid (show wrap64 ((k : Int) + 1 + 1) = ((k + 2 : Nat) : Int) by have := HN43.out; unfold wrap64; omega)
        have HX := Lib.hid hx
        have HY := Lib.hid hy
        have HK2 := Lib.hid hlt
        clear hr hx hy hc hc' hk hlt
        cases e : nameB x with
        | false =>
          have HE := Lib.hid e
          rw [e] at HN
          clear e
          go_wp2_with (refine (HN hw).mono ?_; clear HN hw; rintro e wr2 ⟨rfl, hw⟩; have hcy := hw.rd HCY.out)
          go_ret2
          have e6 := names_not HX.out HE.out
          rw [e6, scTxt_60 e6]
          exact ⟨rfl, hw⟩
        | true =>
          have HE := Lib.hid e
          rw [e] at HN
          clear e
          have hl := fun w => run_geq_str 9 y x w
          cases e2 : slt y x with
          | true =>
            have HE2 := Lib.hid e2
            simp only [e2, Bool.not_true] at hl
            clear e2
            go_wp2_with (refine (HN hw).mono ?_; clear HN hw; rintro e wr2 ⟨rfl, hw⟩; have hcy := hw.rd HCY.out)
            go_roundw
            case rel =>
              refine ⟨k + 2, by have := HK2.out; omega, ?_, fun i a hi ha => ?_, rises_step HRI.out HY.out HX.out HE2.out, hw⟩
              · first | rfl | exact congrArg (Value.int .i64) i5.out | (rw [← i5.out]; simp)
              by_cases hi2 : i < k + 1
              · exact HNM.out i a hi2 ha
              · obtain rfl : i = k + 1 := by omega
                rw [HX.out] at ha
                injection ha with ha
                rw [← ha]; exact HE.out
            case measure =>
              have e7 := i5.out
              have e8 := HK2.out
              first
                | (rw [e7]; simp only [intOf]; omega)
                | (simp [intOf]; omega)
          | false =>
            have HE2 := Lib.hid e2
            simp only [e2, Bool.not_false] at hl
            clear e2
            go_wp2_with (refine (HN hw).mono ?_; clear HN hw; rintro e wr2 ⟨rfl, hw⟩; have hcy := hw.rd HCY.out)
            go_ret2
            have e6 := rise_not HY.out HX.out HE2.out
            rw [e6, scTxt_60 e6]
            exact ⟨rfl, hw⟩
    · obtain rfl : k = n := by omega
      have hall := names_all HLEN.out.symm hnm
      have hris : risesB xs = true := (risesB_iff xs).2 fun i a b ha hb => hri i a b (by rw [← HLEN.out]; exact (List.getElem?_eq_some_iff.1 hb).1) ha hb
      have hok : scOk xs = true := by unfold scOk; rw [hall, hris]; rfl
      have ht := tot_names xs hall
      have hJ := join_any (E := E) (L := L) A k c xs wr hr hnc (by have := HN43.out; have := HLEN.out; omega) hw
      have he : scErr xs = if xs.length ≤ 8 ∧ (joinL xs).length ≤ 60 then 0 else 61 := by unfold scErr; rw [if_pos hok]
      have hjl : (⟨(joinL xs).toArray⟩ : ByteArray).size = (joinL xs).length := fl_size _
      rw [HLEN.out] at he
      have HJL := Lib.hid hjl
      have HE := Lib.hid he
      have HT := Lib.hid (show scErr xs = 0 → scTxt xs = ⟨(joinL xs).toArray⟩ from fun h => by unfold scTxt; rw [if_pos h])
      clear hall hris hok ht he hjl hnm hri hw hr
      generalize (⟨(joinL xs).toArray⟩ : ByteArray) = J at *
      go_wp2_with (refine hJ.mono ?_; clear hJ; rintro e w3 ⟨rfl, h⟩; have H := Lib.hid h; clear h)
      all_goals go_ret2
      all_goals (have h1 := HE.out; have h2 := HJL.out; have h3 := HT.out)
      all_goals first
        | (rw [if_pos (by omega)] at h1; exact ⟨by rw [h3 h1, h1]; rfl, H.out⟩)
        | (rw [if_neg (by omega)] at h1; exact ⟨by rw [scTxt_61 h1, h1]; rfl, H.out⟩)
theorem right_any (A : Option Addr) (n c : Nat) (xs : List ByteArray) (w : World) (hr : Rds S 1 enStr A n xs) (hnc : n ≤ c) (hn43 : n ≤ 8796093022208) (h : Own E w (Hp.ro S :: L)) :
    Calls Tryz.prog 122 #[.slice A n c] w fun e w' => e = .returned (.bool (decide (scErr xs = 0))) ∧ Own E w' (Hp.ro S :: L) := by
  go_enter Tryz.func122, Tryz.ntmps122
  go_wp2_with (refine (print_any A n c xs _ hr hnc hn43 h).mono ?_; clear h; rintro e w2 ⟨rfl, h⟩)
  go_ret
  exact ⟨rfl, h⟩
theorem scoped_any (A : Option Addr) (n c : Nat) (xs : List ByteArray) (w : World) (hr : Rds S 1 enStr A n xs) (hnc : n ≤ c) (hn43 : n ≤ 8796093022208) (h : Own E w (Hp.ro S :: L)) :
    Calls Tryz.prog 82 #[.slice A n c] w fun e w' => e = .returned (.tuple #[.string (scTxt xs), .bool (decide (scErr xs = 0))]) ∧ Own E w' (Hp.ro S :: L) := by
  go_enter Tryz.func82, Tryz.ntmps82
  go_wp2_with (refine (print_any A n c xs _ hr hnc hn43 h).mono ?_; clear h; rintro e w2 ⟨rfl, h⟩)
  go_ret2
  exact ⟨rfl, h⟩
end
end Go.Proofs.YtabibfabieghpaaGreatDoor
namespace Go.Proofs.YtabibfabieghpaaGreatDoor
open Go.RowKit Go.Maps
open Go.WideElems (Fit rg)
section
variable {P : Program} {K : TypeId} {R : Value → Option (DataW Unit × List MemPlace)}
/-- A map of at most n entries that reads as D. -/
def Hp.mp (P : Program) (K : TypeId) (R : Value → Option (DataW Unit × List MemPlace)) (b n : Nat) (D : DataW Unit) : Hp := fun h =>
  ∃ es clock, Hp.obj b (.map es clock) h ∧ Fit P K R es clock ∧ es.size ≤ n ∧ D = .map ((es.toList.map (rg P K R)).foldr DataW.insert [])
theorem Own.mp_obj {E w : World} {L : List Hp} {b n : Nat} {D : DataW Unit} (h : Own E w (Hp.mp P K R b n D :: L)) :
    ∃ es clock, Fit P K R es clock ∧ es.size ≤ n ∧ D = .map ((es.toList.map (rg P K R)).foldr DataW.insert []) ∧ Own E w (Hp.obj b (.map es clock) :: L) := by
  obtain ⟨h1, h2, h3, y, hx, a, c, hd, rfl, ⟨es, clock, ho, f1, f2, f3⟩, hL⟩ := h
  exact ⟨es, clock, f1, f2, f3, h1, h2, h3, _, hx, a, c, hd, rfl, ho, hL⟩
theorem Own.mpOwns {E w : World} {L : List Hp} {b n : Nat} {D : DataW Unit} (h : Own E w (Hp.mp P K R b n D :: L)) : w.ownsMap P K R b n D := by
  obtain ⟨es, clock, f1, f2, f3, ho⟩ := h.mp_obj
  exact ⟨es, clock, ho.at_, f1, f2, f3⟩
theorem Own.mpTurn {E w w' : World} {L : List Hp} {b n n' : Nat} {D D' : DataW Unit} (h : Own E w (Hp.mp P K R b n D :: L)) (h2 : w'.ownsMap P K R b n' D') (hg : w.grownBy w' (some b)) :
    Own E w' (Hp.mp P K R b n' D' :: L) := by
  obtain ⟨es, clock, f1, f2, f3, ho⟩ := h.mp_obj
  obtain ⟨es', clock', hb', g1, g2, g3⟩ := h2
  have h5 := ho.turn (o' := .map es' clock') hg.os hg.tape hg.output hb' (fun k hk hne => hg.block k hk (fun e => hne (Option.some.inj e)))
  exact h5.imp fun _ hx => ⟨es', clock', hx, g1, g2, g3⟩
theorem Own.mpMade {E w : World} {L : List Hp} (h : Own E w L) : Own E (w.alloc (.map #[] 0)) (Hp.mp P K R w.heap.size 0 (.map []) :: L) := by
  have h1 := h.alloc (.map #[] 0)
  obtain ⟨es, clock, hb, f1, f2, f3⟩ := World.ownsMap_made w P K R
  have e : (.map #[] 0 : Obj) = .map es clock := Option.some.inj (h1.at_.symm.trans hb)
  rw [e] at h1 ⊢
  exact h1.imp fun _ hx => ⟨es, clock, hx, f1, f2, f3⟩
end
end Go.Proofs.YtabibfabieghpaaGreatDoor
namespace Go.Proofs.YtabibfabieghpaaGreatDoor
open Go.RowKit Go.Maps Go.ChangeMaps Go.MapKept
open Go.WideElems (Fit rg)
section
variable {P : Program} {K : TypeId} {R : Value → Option (DataW Unit × List MemPlace)}
/-- A map (block b) over which a loop goes (its iterator: block r). -/
def Hp.rng (P : Program) (K : TypeId) (R : Value → Option (DataW Unit × List MemPlace)) (b r n : Nat) (D : DataW Unit) (left : Lit → Bool) (cnt : Nat) : Hp := fun h =>
  ∃ es clock since seen c0, Hp.sep (Hp.obj b (.map es clock)) (Hp.obj r (.mapIter (some b) since seen c0)) h ∧ Fit P K R es clock ∧ es.size ≤ n ∧ D = .map ((es.toList.map (rg P K R)).foldr DataW.insert []) ∧
    (∀ x ∈ es.toList, x.born < since) ∧ (leftOf es seen).size = cnt ∧
    (∀ x ∈ es.toList, left (rg P K R x).1 = !seen.contains x.born) ∧ (∀ kl, left kl = true → ∃ x ∈ es.toList, (rg P K R x).1 = kl) ∧ since ≤ c0 ∧ since ≤ clock
theorem Own.sepTwo {E w : World} {A B : Hp} {L : List Hp} : Own E w (Hp.sep A B :: L) ↔ Own E w (A :: B :: L) := by
  unfold Own
  simp only [Hp.all, Hp.sep_assoc]
theorem Own.rngObj {E w : World} {L : List Hp} {b r n cnt : Nat} {D : DataW Unit} {left : Lit → Bool} (h : Own E w (Hp.rng P K R b r n D left cnt :: L)) :
    ∃ es clock since seen c0, Fit P K R es clock ∧ es.size ≤ n ∧ D = .map ((es.toList.map (rg P K R)).foldr DataW.insert []) ∧
    (∀ x ∈ es.toList, x.born < since) ∧ (leftOf es seen).size = cnt ∧
    (∀ x ∈ es.toList, left (rg P K R x).1 = !seen.contains x.born) ∧ (∀ kl, left kl = true → ∃ x ∈ es.toList, (rg P K R x).1 = kl) ∧ since ≤ c0 ∧ since ≤ clock ∧
    Own E w (Hp.obj b (.map es clock) :: Hp.obj r (.mapIter (some b) since seen c0) :: L) := by
  obtain ⟨h1, h2, h3, y, hx, a, c, hd, rfl, ⟨es, clock, since, seen, c0, ho, f1, f2, f3, f4, f5, f6, f7, f8, f9⟩, hL⟩ := h
  exact ⟨es, clock, since, seen, c0, f1, f2, f3, f4, f5, f6, f7, f8, f9, Own.sepTwo.1 ⟨h1, h2, h3, _, hx, a, c, hd, rfl, ho, hL⟩⟩
theorem Own.ranges {E w : World} {L : List Hp} {b r n cnt : Nat} {D : DataW Unit} {left : Lit → Bool} (h : Own E w (Hp.rng P K R b r n D left cnt :: L)) : w.ranges P K R b r n D left cnt := by
  obtain ⟨es, clock, since, seen, c0, f1, f2, f3, f4, f5, f6, f7, f8, f9, ho⟩ := h.rngObj
  exact ⟨es, clock, since, seen, c0, ho.at_, f1, f2, f3, ho.f1.at_, f4, f5, f6, f7, f8, f9⟩
/-- Behind the loop: the map again. -/
theorem Own.rngMap {E w : World} {L : List Hp} {b r n cnt : Nat} {D : DataW Unit} {left : Lit → Bool} (h : Own E w (Hp.rng P K R b r n D left cnt :: L)) : Own E w (Hp.mp P K R b n D :: L) := by
  obtain ⟨es, clock, since, seen, c0, f1, f2, f3, f4, f5, f6, f7, f8, f9, ho⟩ := h.rngObj
  exact ho.f1.drop.imp fun _ hx => ⟨es, clock, hx, f1, f2, f3⟩
/-- The step of the iterator. -/
theorem Own.rngStep {E w w' : World} {L : List Hp} {b r n cnt cnt' : Nat} {D : DataW Unit} {left left' : Lit → Bool} (h : Own E w (Hp.rng P K R b r n D left cnt :: L)) (h2 : w'.ranges P K R b r n D left' cnt') (hg : w.grownBy w' (some r)) :
    Own E w' (Hp.rng P K R b r n D left' cnt' :: L) := by
  obtain ⟨es, clock, since, seen, c0, f1, f2, f3, f4, f5, f6, f7, f8, f9, ho⟩ := h.rngObj
  obtain ⟨es', clock', since', seen', c0', hb', g1, g2, g3, hr', g4, g5, g6, g7, g8, g9⟩ := h2
  have hne : b ≠ r := ho.ne
  have e1 := (hg.block b ho.lt (fun e => hne (Option.some.inj e))).symm.trans hb'
  rw [ho.at_] at e1
  obtain ⟨e2, e3⟩ := Obj.map.inj (Option.some.inj e1)
  subst e2 e3
  have h5 := ho.f1.turn (o' := .mapIter (some b) since' seen' c0') hg.os hg.tape hg.output hr' (fun k hk hne => hg.block k hk (fun e => hne (Option.some.inj e)))
  exact (Own.sepTwo.2 h5.f1).imp fun _ hx => ⟨es, clock, since', seen', c0', hx, g1, g2, g3, g4, g5, g6, g7, g8, g9⟩
/-- A block more, behind all that was there. -/
theorem Own.grown1 {E w w' : World} {L : List Hp} {o : Obj} (h : Own E w L) (hg : w.grownBy w' none) (ho : w'.heap[w.heap.size]? = some o) : Own E w' (Hp.obj w.heap.size o :: L) := by
  obtain ⟨h1, h2, h3, x, hx, hL⟩ := h
  have hlt : ∀ k u, x k = some u → k < w.heap.size := fun k u hk => (Array.getElem?_eq_some_iff.1 (hx k u hk)).1
  refine ⟨hg.os.trans h1, hg.tape.trans h2, hg.output.trans h3, Ph.join (Ph.one w.heap.size o) x, fun k u hk => ?_, Ph.one w.heap.size o, x, fun k => ?_, rfl, rfl, hL⟩
  · unfold Ph.join Ph.one at hk
    by_cases e : k = w.heap.size
    · subst e
      simp at hk
      rw [← hk, ho]
    · rw [if_neg e] at hk
      simp at hk
      rw [hg.block k (hlt k u hk) (by simp), hx k u hk]
  · unfold Ph.one
    by_cases e : k = w.heap.size
    · right
      cases e2 : x k with
      | none => rfl
      | some u => have := hlt k u e2; omega
    · exact .inl (if_neg e)
/-- 'range m'. -/
theorem Own.rngStart {E w w' : World} {L : List Hp} {b n cnt : Nat} {D : DataW Unit} {left : Lit → Bool} (h : Own E w (Hp.mp P K R b n D :: L)) (h2 : w'.ranges P K R b w.heap.size n D left cnt) (hg : w.grownBy w' none) :
    Own E w' (Hp.rng P K R b w.heap.size n D left cnt :: L) := by
  obtain ⟨es, clock, f1, f2, f3, ho⟩ := h.mp_obj
  obtain ⟨es', clock', since', seen', c0', hb', g1, g2, g3, hr', g4, g5, g6, g7, g8, g9⟩ := h2
  have e1 := (hg.block b ho.lt (by simp)).symm.trans hb'
  rw [ho.at_] at e1
  obtain ⟨e2, e3⟩ := Obj.map.inj (Option.some.inj e1)
  subst e2 e3
  have h5 := ho.grown1 hg hr'
  exact (Own.sepTwo.2 h5.f1).imp fun _ hx => ⟨es, clock, since', seen', c0', hx, g1, g2, g3, g4, g5, g6, g7, g8, g9⟩
end
end Go.Proofs.YtabibfabieghpaaGreatDoor
namespace Go.Proofs.YtabibfabieghpaaGreatDoor
open Go.RowKit
/-- Each below all behind it. -/
def Rise (l : List ByteArray) : Prop := l.Pairwise fun a b => slt a b = true
theorem rise_risesB {l : List ByteArray} (h : Rise l) : risesB l = true := by
  refine (risesB_iff l).2 fun i a b ha hb => ?_
  have h1 := (List.pairwise_iff_getElem.1 h) i (i + 1) (List.getElem?_eq_some_iff.1 ha).1 (List.getElem?_eq_some_iff.1 hb).1 (by omega)
  rw [(List.getElem?_eq_some_iff.1 ha).2, (List.getElem?_eq_some_iff.1 hb).2] at h1
  exact h1
theorem risesB_rise {l : List ByteArray} (h : risesB l = true) : Rise l := by
  refine List.pairwise_iff_getElem.2 fun i j hi hj hij => ?_
  exact rises_lt h (j - i - 1) i _ _ (List.getElem?_eq_getElem hi) (by rw [show i + (j - i - 1) + 1 = j by omega]; exact List.getElem?_eq_getElem hj)
theorem Rise.nodup {l : List ByteArray} (h : Rise l) : l.Nodup := h.imp fun {a b} h e => by
  subst e; rw [slt_irrefl] at h; cases h
/-- Two rising lists with the same members are one. -/
theorem Rise.unique : ∀ {l m : List ByteArray}, Rise l → Rise m → (∀ x, x ∈ l ↔ x ∈ m) → l = m
  | [], [], _, _, _ => rfl
  | [], b :: m, _, _, h => absurd ((h b).2 (List.mem_cons_self ..)) (by simp)
  | a :: l, [], _, _, h => absurd ((h a).1 (List.mem_cons_self ..)) (by simp)
  | a :: l, b :: m, h1, h2, h => by
    obtain ⟨p1, p2⟩ := List.pairwise_cons.1 h1
    obtain ⟨q1, q2⟩ := List.pairwise_cons.1 h2
    have hab : a = b := by
      rcases List.mem_cons.1 ((h a).1 (List.mem_cons_self ..)) with e | e
      · exact e
      · rcases List.mem_cons.1 ((h b).2 (List.mem_cons_self ..)) with e2 | e2
        · exact e2.symm
        · exact absurd (slt_asymm (p1 b e2)) (by rw [q1 a e]; decide)
    subst hab
    rw [Rise.unique p2 q2 fun x => ?_]
    constructor
    · intro hx
      rcases List.mem_cons.1 ((h x).1 (List.mem_cons_of_mem _ hx)) with e | e
      · subst e; have := p1 x hx; rw [slt_irrefl] at this; cases this
      · exact e
    · intro hx
      rcases List.mem_cons.1 ((h x).2 (List.mem_cons_of_mem _ hx)) with e | e
      · subst e; have := q1 x hx; rw [slt_irrefl] at this; cases this
      · exact e
/-- A name more, at its place, if it is not there. -/
def insL (s : ByteArray) : List ByteArray → List ByteArray
  | [] => [s]
  | a :: l => if slt a s then a :: insL s l else if slt s a then s :: a :: l else a :: l
theorem mem_insL (s x : ByteArray) : ∀ l : List ByteArray, x ∈ insL s l ↔ x = s ∨ x ∈ l
  | [] => by simp [insL]
  | a :: l => by
    unfold insL
    split
    · rw [List.mem_cons, mem_insL s x l, List.mem_cons]
      constructor <;> (rintro (h | h | h) <;> simp [h])
    · split
      · rw [List.mem_cons]
      · rename_i h1 h2
        rcases slt_tri a s with ⟨h, -⟩ | ⟨-, -, rfl, -⟩ | ⟨-, h, -⟩
        · exact absurd h h1
        · rw [List.mem_cons]
          constructor
          · exact .inr
          · rintro (h | h)
            · exact .inl h
            · exact h
        · exact absurd h h2
theorem Rise.insL (s : ByteArray) : ∀ {l : List ByteArray}, Rise l → Rise (insL s l)
  | [], _ => List.pairwise_singleton ..
  | a :: l, h => by
    obtain ⟨p1, p2⟩ := List.pairwise_cons.1 h
    unfold Go.Proofs.YtabibfabieghpaaGreatDoor.insL
    split
    · rename_i h1
      refine List.pairwise_cons.2 ⟨fun b hb => ?_, Rise.insL s p2⟩
      rcases (mem_insL s b l).1 hb with rfl | hb
      · exact h1
      · exact p1 b hb
    · split
      · rename_i h1 h2
        refine List.pairwise_cons.2 ⟨fun b hb => ?_, h⟩
        rcases List.mem_cons.1 hb with rfl | hb
        · exact h2
        · exact slt_trans h2 (p1 b hb)
      · exact h
/-- The members of a list, rising. -/
def sortL (xs : List ByteArray) : List ByteArray := xs.foldl (fun l s => insL s l) []
theorem mem_sortFold (x : ByteArray) : ∀ xs l : List ByteArray, x ∈ xs.foldl (fun l s => insL s l) l ↔ x ∈ l ∨ x ∈ xs
  | [], l => by simp
  | a :: xs, l => by
    rw [List.foldl_cons, mem_sortFold x xs, mem_insL, List.mem_cons]
    constructor
    · rintro ((h | h) | h)
      · exact .inr (.inl h)
      · exact .inl h
      · exact .inr (.inr h)
    · rintro (h | h | h)
      · exact .inl (.inr h)
      · exact .inl (.inl h)
      · exact .inr h
theorem rise_sortFold : ∀ (xs l : List ByteArray), Rise l → Rise (xs.foldl (fun l s => insL s l) l)
  | [], _, h => h
  | a :: xs, _, h => rise_sortFold xs _ (h.insL a)
theorem mem_sortL (x : ByteArray) (xs : List ByteArray) : x ∈ sortL xs ↔ x ∈ xs := by unfold sortL; rw [mem_sortFold]; simp
theorem rise_sortL (xs : List ByteArray) : Rise (sortL xs) := rise_sortFold xs [] List.Pairwise.nil
theorem sortL_of_rise {xs : List ByteArray} (h : Rise xs) : sortL xs = xs := (rise_sortL xs).unique h fun x => mem_sortL x xs
theorem sortL_congr {xs ys : List ByteArray} (h : ∀ x, x ∈ xs ↔ x ∈ ys) : sortL xs = sortL ys := (rise_sortL xs).unique (rise_sortL ys) fun x => by rw [mem_sortL, mem_sortL, h]
/-- Two lists without doubles with the same members are as long as one another. -/
theorem nodup_perm {l m : List ByteArray} (h1 : l.Nodup) (h2 : m.Nodup) (h : ∀ x, x ∈ l ↔ x ∈ m) : l.Perm m := (List.perm_ext_iff_of_nodup h1 h2).2 h
/-- Go's order of texts is Lean's of their bytes. -/
theorem bytesLess_iff : ∀ a b : List UInt8, Op.bytesLess a b = true ↔ a < b
  | [], [] => by simp [Op.bytesLess]
  | [], _ :: _ => by simp [Op.bytesLess]
  | _ :: _, [] => by simp [Op.bytesLess]
  | a :: x, b :: y => by
    simp only [Op.bytesLess, Bool.or_eq_true, decide_eq_true_eq, Bool.and_eq_true, beq_iff_eq, List.cons_lt_cons_iff, bytesLess_iff x y]
theorem slt_iff (a b : ByteArray) : slt a b = true ↔ a.data.toList < b.data.toList := bytesLess_iff ..
/-- What is sorted by the library is the rising list of its members. -/
theorem mergeSort_eq {l : List ByteArray} (hd : l.Nodup) : ((l.map fun s => s.data.toList).mergeSort fun x y => decide (x ≤ y)) = (sortL l).map fun s => s.data.toList := by
  have hp := List.mergeSort_perm (l.map fun s => s.data.toList) (fun x y => decide (x ≤ y))
  have hs := List.pairwise_mergeSort (le := fun x y : List UInt8 => decide (x ≤ y)) (fun a b c h1 h2 => by
    simp only [decide_eq_true_eq] at h1 h2 ⊢; exact List.le_trans h1 h2) (fun a b => by
    simp only [Bool.or_eq_true, decide_eq_true_eq]; exact List.le_total a b) (l.map fun s => s.data.toList)
  have hmap : ((l.map fun s => s.data.toList).mergeSort fun x y => decide (x ≤ y)) = (((l.map fun s => s.data.toList).mergeSort fun x y => decide (x ≤ y)).map fun b => (⟨b.toArray⟩ : ByteArray)).map fun s => s.data.toList := by
    rw [List.map_map]
    have e : ((fun s : ByteArray => s.data.toList) ∘ fun b : List UInt8 => (⟨b.toArray⟩ : ByteArray)) = id := by funext b; simp
    rw [e, List.map_id]
  generalize hL : (((l.map fun s => s.data.toList).mergeSort fun x y => decide (x ≤ y)).map fun b => (⟨b.toArray⟩ : ByteArray)) = L at hmap
  rw [hmap]
  have hmem : ∀ x, x ∈ L ↔ x ∈ l := fun x => by
    rw [← hL]
    constructor
    · intro hx
      obtain ⟨b, hb, rfl⟩ := List.mem_map.1 hx
      obtain ⟨s, hs, rfl⟩ := List.mem_map.1 (hp.mem_iff.1 hb)
      exact hs
    · intro hx
      exact List.mem_map.2 ⟨x.data.toList, hp.mem_iff.2 (List.mem_map.2 ⟨x, hx, rfl⟩), rfl⟩
  have hnd : L.Nodup := by
    have h1 : L.Perm l := by
      rw [← hL]
      have h2 := hp.map fun b : List UInt8 => (⟨b.toArray⟩ : ByteArray)
      rw [List.map_map] at h2
      have e : ((fun b : List UInt8 => (⟨b.toArray⟩ : ByteArray)) ∘ fun s : ByteArray => s.data.toList) = id := by funext b; rfl
      rw [e, List.map_id] at h2
      exact h2
    exact h1.nodup_iff.2 hd
  have hr : Rise L := by
    rw [hmap, List.pairwise_map] at hs
    refine (hs.and hnd).imp fun {a b} h => ?_
    obtain ⟨h1, h2⟩ := h
    simp only [decide_eq_true_eq] at h1
    rcases slt_tri a b with ⟨h, -⟩ | ⟨-, -, e, -⟩ | ⟨-, h, -⟩
    · exact h
    · exact absurd e h2
    · exact absurd ((slt_iff b a).1 h) (List.not_lt.2 h1)
  rw [hr.unique (rise_sortL l) fun x => by rw [hmem, mem_sortL]]
end Go.Proofs.YtabibfabieghpaaGreatDoor
