/- strings.Join of texts with a space between them, up to 2^48 bytes. -/
import Derived.Test.YtabibfabieghpaaGreatDoorNamed
import Derived.Test.YtabibfabieghpaaGreatDoorTail
import Derived.Test.YtabibfabieghpaaGreatDoorShelf2
namespace Go.Proofs.YtabibfabieghpaaGreatDoor
open Go.RowKit
section
open Go.Lib
variable {P : Program} {E w w' : World} {L : List Hp}
/-- What lies behind the end of an elder world is taken in. -/
theorem Own.adopt (h : Own E w L) (hb : Below w.heap.size w w') (p : Ph) (hp : ∀ k o, p k = some o → w.heap.size ≤ k ∧ w'.heap[k]? = some o) : Own E w' (Hp.ro p :: L) := by
  obtain ⟨h1, h2, h3, x, hx, hL⟩ := h
  obtain ⟨b1, b2, b3, b4, b5⟩ := hb
  have hd : Ph.apart p x := fun k => by
    cases e : p k with
    | none => exact .inl rfl
    | some o =>
      right
      cases e2 : x k with
      | none => rfl
      | some o2 =>
        have := lt_of_some (hx k o2 e2)
        have := (hp k o e).1
        omega
  refine ⟨b1.trans h1, b2.trans h2, b3.trans h3, Ph.join p x, fun k o hk => ?_, p, x, hd, rfl, rfl, hL⟩
  unfold Ph.join at hk
  cases e : p k with
  | some o2 =>
    rw [e] at hk
    have : o2 = o := by simpa using hk
    rw [← this]
    exact (hp k o2 e).2
  | none =>
    rw [e] at hk
    have hk2 : x k = some o := by simpa using hk
    have hk3 := hx k o hk2
    rw [b5 k (lt_of_some hk3)]
    exact hk3
theorem Own.adopt2 (h : Own E w L) (hb : Below w.heap.size w w') {b g : Nat} {o o' : Obj} (hne : b ≠ g) (hb1 : w.heap.size ≤ b) (hg1 : w.heap.size ≤ g) (hbo : w'.heap[b]? = some o) (hgo : w'.heap[g]? = some o') :
    Own E w' (Hp.obj b o :: Hp.obj g o' :: L) := by
  have hd : Ph.apart (Ph.one b o) (Ph.one g o') := fun k => by
    unfold Ph.one
    by_cases e : k = b
    · right
      rw [if_neg (by omega)]
    · left
      rw [if_neg e]
  refine (h.adopt hb (Ph.join (Ph.one b o) (Ph.one g o')) fun k u hk => ?_).part hd
  unfold Ph.join Ph.one at hk
  by_cases e : k = b
  · subst e
    simp at hk
    subst hk
    exact ⟨hb1, hbo⟩
  · rw [if_neg e] at hk
    by_cases e2 : k = g
    · subst e2
      simp at hk
      subst hk
      exact ⟨hg1, hgo⟩
    · rw [if_neg e2] at hk
      simp at hk
/-- A block of bytes of which the first ones are these. -/
def Hp.buf (g cap : Nat) (xs : List Value) : Hp := fun h => ∃ cur : Array Value, Hp.blk g U8 cur h ∧ cur.size = cap ∧ cap ≤ maxLen ∧ xs.length ≤ cap ∧ cur.toList.take xs.length = xs
theorem Own.unbuf {g cap : Nat} {xs : List Value} (h : Own E w (Hp.buf g cap xs :: L)) : ∃ cur : Array Value, cur.size = cap ∧ cap ≤ maxLen ∧ xs.length ≤ cap ∧ cur.toList.take xs.length = xs ∧ Own E w (Hp.blk g U8 cur :: L) := by
  obtain ⟨h1, h2, h3, y, hx, a, b, hd, rfl, ⟨cur, hc, c1, c2, c3, c4⟩, hL⟩ := h
  exact ⟨cur, c1, c2, c3, c4, h1, h2, h3, _, hx, a, b, hd, rfl, hc, hL⟩
theorem Own.toBuf {g cap : Nat} {xs : List Value} {cur : Array Value} (h : Own E w (Hp.blk g U8 cur :: L)) (c1 : cur.size = cap) (c2 : cap ≤ maxLen) (c3 : xs.length ≤ cap) (c4 : cur.toList.take xs.length = xs) : Own E w (Hp.buf g cap xs :: L) :=
  h.imp fun _ hx => ⟨cur, hx, c1, c2, c3, c4⟩
theorem sl_append_string_in {t u ty : TypeId} (ht : P.underlying t = some (.slice U8)) (hu : P.underlying u = some .string) (hinfo : (P.info? U8).map (fun i => (i.zero, i.size, i.bytes)) = some (some (.int .u8 0), 1, 1))
    {g cap : Nat} {xs : List Value} (h : Own E w (Hp.buf g cap xs :: L)) (s : ByteArray) (hroom : xs.length + s.size ≤ cap) :
    ∃ w', (Builtin.append_ #[t, u] ty #[.slice (some ⟨g, 0, none⟩) xs.length cap, .string s]).run P w = .ok (.slice (some ⟨g, 0, none⟩) (xs.length + s.size) cap) w' ∧ Own E w' (Hp.buf g cap (xs ++ s.data.toList.map V8') :: L) := by
  obtain ⟨i, hi, hzz⟩ := Option.map_eq_some_iff.1 hinfo
  simp only [Prod.mk.injEq] at hzz
  obtain ⟨hz, hsize, hby⟩ := hzz
  obtain ⟨cur, hcs, hcm, hxc, htake, ho⟩ := h.unbuf
  have hcells : strCells s = s.data.toList.map V8' := rfl
  have hlen : (xs ++ s.data.toList.map V8').length = xs.length + s.size := by rw [List.length_append, ← hcells, strCells_length]
  have hfit : xs.length + (strCells s).length ≤ cur.size := by rw [strCells_length]; omega
  have hf := run_firstCells_string (P := P) w 1 s
  have hst := run_storeCells_cells (P := P) g xs.length (strCells s) 0 w (fun j hj => by rw [ho.cell, Array.getElem?_eq_getElem (by omega)]; rfl) (fun j hj => ho.frozen _) (strCells_oneCell s)
  simp only [Nat.add_zero] at hst
  refine ⟨w.setCells g xs.length (strCells s), ?_, ?_⟩
  · simp [Builtin.append_, run_underlying ht, run_underlying hu, sizeOf, typeInfo, hi, hsize, Builtin.lenOf, hroom, hf, Addr.add_lit, hst]
  · refine (ho.setCells (strCells s) xs.length).toBuf (by rw [putArr_size]; exact hcs) hcm (by rw [hlen]; exact hroom) ?_
    have e8 := putArr_splice cur.toList (strCells s) xs.length (by simpa using hfit)
    have e9 : cur.toList.toArray = cur := by simp
    rw [e9] at e8
    rw [e8, hlen]
    unfold splice
    rw [htake, ← List.append_assoc, ← hcells]
    have e10 : xs.length + s.size = (xs ++ strCells s).length := by rw [List.length_append, strCells_length]
    rw [e10]
    exact List.take_left
end
section
variable {E : World} {L : List Hp}
abbrev SBT : TypeId := 199
set_option maxHeartbeats 1000000 in
theorem bwrite_any (b g cap : Nat) (xs : List Value) (s : ByteArray) (w : World) (hroom : xs.length + s.size ≤ cap) (h : Own E w (Hp.blk b SBT #[.pointer (some ⟨b, 0, none⟩), .slice (some ⟨g, 0, none⟩) xs.length cap] :: Hp.buf g cap xs :: L)) :
    Calls Tryz.prog 150 #[.pointer (some ⟨b, 0, none⟩), .string s] w fun e w' => ∃ v, e = .returned v ∧ Own E w' (Hp.blk b SBT #[.pointer (some ⟨b, 0, none⟩), .slice (some ⟨g, 0, none⟩) (xs.length + s.size) cap] :: Hp.buf g cap (xs ++ s.data.toList.map V8') :: L) := by
  have hc0 : w.cell? ⟨b, 0, none⟩ = some (.pointer (some ⟨b, 0, none⟩)) := h.cell 0
  have hc1 : w.cell? ⟨b, 1, none⟩ = some (.slice (some ⟨g, 0, none⟩) xs.length cap) := h.cell 1
  obtain ⟨w5, hap, h2⟩ := sl_append_string_in (P := Tryz.prog) (t := BT) (u := ST) (ty := BT) (by kernel_rfl) (by kernel_rfl) u8_info h.f1 s hroom
  have f1 := h2.f1.frozen 1
  have d0 := h2.f1.cell 1
  have h3 := h2.f1.set 1 (.slice (some ⟨g, 0, none⟩) (xs.length + s.size) cap)
  have H4 := Lib.hid h3
  have K1 := Any.Builder_copyCheck_used (P := Tryz.prog) (ρ := Tryz.lays165_ren) { Tryz.lays165 with } { Tryz.Builder_Extra_165 with } b w hc0
  clear h h2 h3
  go_enter Tryz.func150, Tryz.ntmps150
  go_wp2_with (first
    | (refine K1.mono ?_; rintro e w2 ⟨rfl, rfl⟩)
    | (with_reducible refine at_slot (k := some 14) ?_; refine wpList_append_run (o := ⟨some 14, _, _, _, _, _⟩) hap rfl rfl rfl rfl ?_; clear hap))
  go_ret2
  exact ⟨_, rfl, H4.out⟩
/-- A builder that has been written: its two fields, and its bytes. -/
def Hp.bld (b g cap : Nat) (l : List UInt8) : Hp := Hp.all [Hp.blk b SBT #[.pointer (some ⟨b, 0, none⟩), .slice (some ⟨g, 0, none⟩) l.length cap], Hp.buf g cap (l.map V8')]
theorem Own.bld {w : World} {b g cap : Nat} {l : List UInt8} : Own E w (Hp.bld b g cap l :: L) ↔ Own E w (Hp.blk b SBT #[.pointer (some ⟨b, 0, none⟩), .slice (some ⟨g, 0, none⟩) l.length cap] :: Hp.buf g cap (l.map V8') :: L) := Own.star
theorem bput_any (b g cap : Nat) (l : List UInt8) (s : ByteArray) (w : World) (hroom : l.length + s.size ≤ cap) (h : Own E w (Hp.bld b g cap l :: L)) :
    Calls Tryz.prog 150 #[.pointer (some ⟨b, 0, none⟩), .string s] w fun e w' => ∃ v, e = .returned v ∧ Own E w' (Hp.bld b g cap (l ++ s.data.toList) :: L) := by
  have h1 := Own.bld.1 h
  have e1 : (l.map V8').length = l.length := List.length_map ..
  rw [← e1] at h1
  refine (bwrite_any b g cap (l.map V8') s w (by rw [e1]; exact hroom) h1).mono ?_
  rintro e w' ⟨v, rfl, h2⟩
  refine ⟨v, rfl, Own.bld.2 ?_⟩
  rw [e1] at h2
  rw [List.map_append, List.length_append]
  exact h2
theorem bgrow_any (T : Nat) (w : World) (hT : 0 < T) (hT2 : T ≤ 281474976710656) (h : Own E w L) :
    Calls Tryz.prog 149 #[.pointer (some ⟨w.heap.size, 0, none⟩), .int .i64 T] (w.alloc (.cells #[.pointer none, .slice none 0 0] SBT)) fun e w' => ∃ v g cap, e = .returned v ∧ T ≤ cap ∧ w.heap.size ≤ g ∧ Own E w' (Hp.bld w.heap.size g cap [] :: L) := by
  have h1 := h.alloc (.cells #[.pointer none, .slice none 0 0] SBT)
  refine (Tryz.Builder_Grow_fresh_cap w.heap.size w.heap.size T _ (Nat.le_refl _) h1.at_ (by show _ ≤ (w.heap.push _).size; rw [Array.size_push]; omega) hT2).mono ?_
  rintro e w' ⟨rfl, ⟨⟨-, v, hbk, hown, hne⟩, hbl⟩, p, cap, hc1, hcap⟩
  have hv : v = .slice p 0 cap := by
    rw [cell_of_row _ _ 1 _ _ _ hbk] at hc1
    simpa using hc1
  subst hv
  rcases hown.2 with ⟨hv, -⟩ | ⟨g, cap', cur, hv, hB, hg, -, hcm, hcs, -⟩
  · injection hv with e1 e2 e3
    omega
  · injection hv with e1 e2 e3
    subst e1 e3
    refine ⟨_, g, cap, rfl, hcap, hB, Own.bld.2 ?_⟩
    have hbe : Below w.heap.size w w' := ((Below.refl _ w).alloc (Nat.le_refl _) _).trans hbl
    have h5 := h.adopt2 hbe (b := w.heap.size) (g := g) (fun e => hne (by simp [Value.ownBlock, e])) (Nat.le_refl _) hB hbk hg
    exact (Own.toBuf (xs := []) h5.f1 (by omega) hcm (by simp) (by simp)).f1
theorem bstring_any (b g cap : Nat) (l : List UInt8) (w0 w : World) (hb : w0.heap.size ≤ b) (hg : w0.heap.size ≤ g) (h : Own w0 w (Hp.bld b g cap l :: [Hp.ro (Ph.of w0)])) :
    Calls Tryz.prog 151 #[.pointer (some ⟨b, 0, none⟩)] w fun e w' => e = .returned (.string ⟨l.toArray⟩) ∧ Below w0.heap.size w0 w' := by
  have h1 := Own.bld.1 h
  obtain ⟨cur, c1, c2, c3, c4, h2⟩ := h1.f1.unbuf
  have hbelow := h.f1.below
  have hne := h2.ne
  refine (Tryz.Builder_String_any w0.heap.size b l w (.inr ⟨hb, .slice (some ⟨g, 0, none⟩) l.length cap, h1.at_, ?_, ?_⟩) hbelow.size).mono ?_
  · rw [List.length_map] at c3 c4
    exact ⟨by simp [Lib.byteCells], .inr ⟨g, cap, cur, by simp [Lib.byteCells], hg, h2.at_, by simpa [Lib.byteCells] using c3, c2, by omega, by simpa [Lib.byteCells] using c4⟩⟩
  · simp only [Value.ownBlock]
    intro e
    injection e with e
    exact hne e
  · rintro e w' ⟨rfl, hb2⟩
    exact ⟨rfl, hbelow.trans hb2⟩
def tot : List ByteArray → Nat
  | [] => 0
  | x :: r => x.size + tot r
def joinL : List ByteArray → List UInt8
  | [] => []
  | x :: r => x.data.toList ++ r.flatMap fun y => 32 :: y.data.toList
theorem tot_take (xs : List ByteArray) : ∀ (k : Nat) (x : ByteArray), xs[k]? = some x → tot (xs.take (k + 1)) = tot (xs.take k) + x.size := by
  induction xs with
  | nil => intro k x h; simp at h
  | cons y r ih =>
    intro k x h
    cases k with
    | zero =>
      simp at h
      subst h
      simp [tot]
    | succ k =>
      have := ih k x (by simpa using h)
      show y.size + tot (r.take (k + 1)) = y.size + tot (r.take k) + x.size
      omega
theorem tot_le (xs : List ByteArray) : ∀ k, tot (xs.take k) ≤ tot xs := by
  induction xs with
  | nil => intro k; simp [tot]
  | cons y r ih =>
    intro k
    cases k with
    | zero => simp [tot]
    | succ k =>
      have := ih k
      show y.size + tot (r.take k) ≤ y.size + tot r
      omega
def flatJ (r : List ByteArray) : List UInt8 := r.flatMap fun y => 32 :: y.data.toList
theorem flatJ_take (r : List ByteArray) : ∀ (k : Nat) (y : ByteArray), r[k]? = some y → flatJ (r.take (k + 1)) = flatJ (r.take k) ++ [32] ++ y.data.toList := by
  induction r with
  | nil => intro k y h; simp at h
  | cons z r ih =>
    intro k y h
    cases k with
    | zero =>
      simp at h
      subst h
      simp [flatJ]
    | succ k =>
      have := ih k y (by simpa using h)
      show 32 :: z.data.toList ++ flatJ (r.take (k + 1)) = 32 :: z.data.toList ++ flatJ (r.take k) ++ [32] ++ y.data.toList
      rw [this]
      simp
theorem flatJ_len (r : List ByteArray) : (flatJ r).length = r.length + tot r := by
  induction r with
  | nil => rfl
  | cons z r ih =>
    show (32 :: z.data.toList ++ flatJ r).length = r.length + 1 + (z.size + tot r)
    rw [List.length_append, ih]
    have : (32 :: z.data.toList).length = z.size + 1 := by simp
    omega
abbrev LST : TypeId := 54
theorem lst_u : Tryz.prog.underlying LST = some (.slice ST) := by kernel_rfl
set_option maxRecDepth 20000 in
set_option maxHeartbeats 2000000 in
theorem joinmany_any (b off n c : Nat) (xs : List ByteArray) (w : World) (hn : xs.length = n) (h2 : 2 ≤ n) (hnc : n ≤ c) (hc : ∀ (k : Nat) (x : ByteArray), xs[k]? = some x → w.cell? ⟨b, off + k, none⟩ = some (.string x))
    (hsz : n - 1 + tot xs ≤ 281474976710656) :
    Calls Tryz.prog 140 #[.slice (some ⟨b, off, none⟩) n c, .string ⟨#[32]⟩] w fun e w' => e = .returned (.string ⟨(joinL xs).toArray⟩) ∧ Below w.heap.size w w' := by
  have q0 : ¬ (n : Int) = 0 := by omega
  have q1 : ¬ (n : Int) = 1 := by omega
  have q2 : ¬ (n : Int) - 1 = 0 := by omega
  have hT : n - 1 + tot xs ≤ 281474976710656 := hsz
  have q3 : wrap64 ((n : Int) - 1) = (n : Int) - 1 := by unfold wrap64; omega
  have q4 : 2 ≤ 9223372036854775807 / ((n : Int) - 1) := (Int.le_ediv_iff_mul_le (by omega)).2 (by omega)
  have q7 : 9223372036854775807 / ((n : Int) - 1) ≤ 9223372036854775807 := Int.ediv_le_self _ (by omega)
  have q8 : Int.tdiv 9223372036854775807 ((n : Int) - 1) = 9223372036854775807 / ((n : Int) - 1) := Int.tdiv_eq_ediv_of_nonneg (by omega)
  have q5 : wrap64 (9223372036854775807 / ((n : Int) - 1)) = 9223372036854775807 / ((n : Int) - 1) := by unfold wrap64; omega
  have q6 : ¬ 9223372036854775807 / ((n : Int) - 1) ≤ 1 := by omega
  have hsl : ∀ w, (Instr.sliceAt LST (.slice (some ⟨b, off, none⟩) n c) (some (.int .i64 1)) none none).run Tryz.prog w = .ok (.slice (tailAt (some ⟨b, off, none⟩) c 1 1) (n - 1) (c - 1)) w := fun w => run_slice_low (P := Tryz.prog) (i := 1) lst_u (by kernel_rfl) (by omega)
  have HSZ := Lib.hid hT
  clear hsz hT q4 q7
  go_enter Tryz.func140, Tryz.ntmps140
  go_wp2_with fail
  go_loopw [5, 41] (fun s i wr => ∃ k : Nat, k ≤ n ∧ i = .int .i64 k ∧ s = .int .i64 ((n - 1 + tot (xs.take k) : Nat) : Int) ∧ w = wr) (fun _ i _ => n - (intOf i).toNat)
  case atStart => exact ⟨0, by omega, rfl, by simp [tot]; omega, rfl⟩
  case round =>
    obtain ⟨k, hk, rfl, rfl, rfl⟩ := hrel
    by_cases hlt : k < n
    · cases hx : xs[k]? with
      | none =>
        rw [List.getElem?_eq_none_iff] at hx
        omega
      | some x =>
      have hcx := hc k x hx
      have ht := tot_take xs k x hx
      have hle := tot_le xs (k + 1)
      have hz := HSZ.out
      have i1 : (k : Int) < n := by omega
      have hs := Lib.hid (show n - 1 + tot (xs.take (k + 1)) = n - 1 + tot (xs.take k) + x.size by omega)
      generalize hs0 : n - 1 + tot (xs.take k) = s0 at *
      have i2 : wrap64 (9223372036854775807 - (s0 : Int)) = 9223372036854775807 - s0 := by unfold wrap64; omega
      have i3 : ¬ 9223372036854775807 - (s0 : Int) < x.size := by omega
      have i5 : wrap64 ((k : Int) + 1) = ((k + 1 : Nat) : Int) := by unfold wrap64; omega
      have HB := Lib.hid (show s0 + x.size ≤ 281474976710656 by omega)
      clear hz ht hle hx hc hs0
      go_wp2_with fail
      go_roundw
      case rel =>
        have hb := HB.out
        clear q2 q3 q5 q6 q8 i2 i3
        refine ⟨k + 1, by omega, by rw [i5], ?_, by first | trivial | rfl⟩
        rw [hs.out]
        first | rfl | (congr 1; omega)
      case measure =>
        clear q2 q3 q5 q6 q8 i2 i3
        rw [i5]
        simp only [intOf]
        omega
    · obtain rfl : k = n := by omega
      cases xs with
      | nil => simp at hn; omega
      | cons x0 r =>
      have hrl : r.length + 1 = k := by simpa using hn
      have c0 : w.cell? ⟨b, off, none⟩ = some (.string x0) := hc 0 x0 rfl
      have hcr : ∀ (j : Nat) (x : ByteArray), r[j]? = some x → w.cell? ⟨b, off + 1 + j, none⟩ = some (.string x) := fun j x hx => by
        have := hc (j + 1) x (by simpa using hx)
        rwa [show off + (j + 1) = off + 1 + j by omega] at this
      have ht : tot ((x0 :: r).take k) = x0.size + tot r := by
        rw [List.take_of_length_le (by simp; omega)]; rfl
      rw [ht] at *
      have hz : k - 1 + (x0.size + tot r) ≤ 281474976710656 := HSZ.out
      have hta : tailAt (some ⟨b, off, none⟩) c 1 1 = some ⟨b, off + 1, none⟩ := by
        unfold tailAt
        rw [if_neg (by omega)]
        rfl
      rw [hta] at hsl
      have HT := Lib.hid (show k - 1 + (x0.size + tot r) = r.length + x0.size + tot r by omega)
      have G := bgrow_any (k - 1 + (x0.size + tot r)) w (by omega) hz (Own.start w)
      have HK := Lib.hid (show r.length = k - 1 by omega)
      have HCR := Lib.hid hcr
      have hkr : ((k - 1 : Nat) : Int) = (r.length : Int) := by omega
      generalize k - 1 + (x0.size + tot r) = T at *
      clear hc ht hz q2 q3 q5 q6 q8 hta hn hcr
      go_wp2_with (first
        | (refine G.mono ?_; clear G; rintro e w2 ⟨v, g, cap, rfl, hcap, hg, h⟩; have c0' := h.f1.old c0; have B1 := bput_any w.heap.size g cap [] x0 w2 (by have := HT.out; simp; omega) h; clear h)
        | (refine B1.mono ?_; clear B1; rintro e w3 ⟨v, rfl, h⟩; have H := Lib.hid h; clear h))
      go_loopw [65] (fun i wr => ∃ j : Nat, j ≤ r.length ∧ i = .int .i64 j ∧ Own w wr (Hp.bld w.heap.size g cap (x0.data.toList ++ flatJ (r.take j)) :: [Hp.ro (Ph.of w)])) (fun i _ => r.length - (intOf i).toNat)
      case atStart => exact ⟨0, by omega, rfl, by simpa [flatJ] using H.out⟩
      case round =>
        obtain ⟨j, hj, rfl, hw⟩ := hrel
        clear H c0 c0'
        by_cases hlt2 : j < r.length
        · cases hx : r[j]? with
          | none =>
            rw [List.getElem?_eq_none_iff] at hx
            omega
          | some y =>
          have hcx := hw.f1.old (HCR.out j y hx)
          have e5 := flatJ_take r j y hx
          have l1 := flatJ_len (r.take j)
          have l2 := flatJ_len (r.take (j + 1))
          have l3 := tot_le r (j + 1)
          have l4 := tot_take r j y hx
          have l5 : (r.take j).length = j := by rw [List.length_take]; omega
          have l6 : (r.take (j + 1)).length = j + 1 := by rw [List.length_take]; omega
          have hT := HT.out
          have B1 := bput_any w.heap.size g cap (x0.data.toList ++ flatJ (r.take j)) ⟨#[32]⟩ wr (by
            rw [List.length_append, l1, l5]
            show x0.size + _ + 1 ≤ cap
            omega) hw
          have B2 := Lib.hid (fun (w3 : World) h => bput_any (E := w) (L := [Hp.ro (Ph.of w)]) w.heap.size g cap (x0.data.toList ++ flatJ (r.take j) ++ [32]) y w3 (by
            rw [List.length_append, List.length_append, l1, l5]
            show x0.size + _ + 1 + y.size ≤ cap
            omega) h)
          have E5 := Lib.hid e5
          have i1 : (j : Int) < (r.length : Int) := by omega
          clear hx e5 l1 l2 l3 l4 l5 l6 hT hw
          go_wp2_with (first
            | (refine B1.mono ?_; clear B1; rintro e w3 ⟨v, rfl, h⟩; have B3 := B2.out w3 h; clear h B2)
            | (refine B3.mono ?_; clear B3; rintro e w4 ⟨v, rfl, h⟩; have H := Lib.hid h; clear h))
          have i5 : wrap64 ((j : Int) + 1) = ((j + 1 : Nat) : Int) := by
            have := HSZ.out
            unfold wrap64
            omega
          go_roundw
          case rel => exact ⟨j + 1, by omega, by rw [i5], by rw [E5.out, ← List.append_assoc, ← List.append_assoc]; exact H.out⟩
          case measure =>
            rw [i5]
            simp only [intOf]
            omega
        · have e6 : r.take j = r := List.take_of_length_le (by omega)
          rw [e6] at hw
          have hcap3 := bstring_any w.heap.size g cap (x0.data.toList ++ flatJ r) w wr (Nat.le_refl _) hg hw
          have i1 : ¬ (j : Int) < (r.length : Int) := by omega
          clear hw
          go_wp2_with (refine hcap3.mono ?_; clear hcap3; rintro e w3 ⟨rfl, h⟩)
          go_ret
          exact ⟨rfl, h⟩
/-- Any texts with a space between them. -/
theorem join_any {S : Ph} (A : Option Addr) (n c : Nat) (xs : List ByteArray) (w : World) (hr : Rds S 1 enStr A n xs) (hnc : n ≤ c) (hsz : n - 1 + tot xs ≤ 281474976710656) (h : Own E w (Hp.ro S :: L)) :
    Calls Tryz.prog 140 #[.slice A n c, .string ⟨#[32]⟩] w fun e w' => e = .returned (.string ⟨(joinL xs).toArray⟩) ∧ Own E w' (Hp.ro S :: L) := by
  have hn := hr.1
  by_cases h0 : n = 0
  · subst h0
    have : xs = [] := List.eq_nil_of_length_eq_zero hn
    subst this
    have H := Lib.hid h
    clear h hr hsz
    go_enter Tryz.func140, Tryz.ntmps140
    go_wp2_with fail
    go_ret
    exact ⟨rfl, H.out⟩
  · obtain ⟨x, b, off, hx, rfl, hc⟩ := hr.get1 (k := 0) (by omega)
    by_cases h1 : n = 1
    · subst h1
      obtain ⟨y, rfl⟩ : ∃ y, xs = [y] := List.length_eq_one_iff.1 hn
      have hxy : x = y := by simpa using hx.symm
      subst hxy
      have c0 : w.cell? ⟨b, off, none⟩ = some (.string x) := h.rd (hc _ rfl)
      have ej : joinL [x] = x.data.toList := by simp [joinL]
      rw [ej]
      have H := Lib.hid h
      clear h hr hsz ej hc hx
      go_enter Tryz.func140, Tryz.ntmps140
      go_wp2_with fail
      go_ret
      exact ⟨rfl, H.out⟩
    · refine (joinmany_any b off n c xs w hn (by omega) hnc (fun k y hy => ?_) hsz).mono ?_
      · have hk : k < n := by rw [← hn]; exact (List.getElem?_eq_some_iff.1 hy).1
        obtain ⟨y', b', off', hy', e, hc'⟩ := hr.get1 hk
        injection e with e
        injection e with e1 e2
        subst e1 e2
        rw [hy] at hy'
        injection hy' with hy'
        subst hy'
        exact h.rd (hc' _ rfl)
      · rintro e w' ⟨rfl, hb⟩
        exact ⟨rfl, h.ofBelow hb⟩
end
end Go.Proofs.YtabibfabieghpaaGreatDoor
