/- Fields of records in plain Lean: how they are laid down and read; what was laid down is read back. Fields in memory: record.num, text, raw; printed. record.printed. record.read: fields are filled from bytes. -/
import Derived.Test.YtabibfabieghpaaGreatDoorPkz0
import Derived.Test.YtabibfabieghpaaGreatDoorPkz2
namespace Go.Proofs.YtabibfabieghpaaGreatDoor
open Go.RowKit
/-- A kind of field: a number by so many bytes, a short text, just so many bytes. -/
inductive Fk where
  | num (size : Nat)
  | text
  | raw (size : Nat)
/-- What stands in it. -/
inductive Fv where
  | n (z : Int)
  | s (t : ByteArray)
def Fv.val : Fv → Value
  | .n z => .int .i64 z
  | .s t => .string t
def Fv.num : Fv → Int
  | .n z => z
  | .s _ => 0
def Fv.str : Fv → ByteArray
  | .n _ => ⟨#[]⟩
  | .s t => t
/-- Does the value suit the kind? -/
def suits : Fk → Fv → Prop
  | .num _, .n _ => True
  | .text, .s _ => True
  | .raw _, .s _ => True
  | _, _ => False
def layF (st : List UInt8 × Int) (f : Fk × Fv) : List UInt8 × Int :=
  match f.1 with
  | .num k => wNum st.1 st.2 k f.2.num
  | .text => wText st.1 st.2 255 f.2.str
  | .raw _ => (st.1 ++ f.2.str.data.toList, st.2)
def layL (fs : List (Fk × Fv)) : List UInt8 × Int := fs.foldl layF ([], 0)
def printedV (fs : List (Fk × Fv)) : ByteArray := (wDone (layL fs).1 (layL fs).2).1
def readF (k : Fk) (s : ByteArray) (e : Int) : Fv × ByteArray × Int :=
  match k with
  | .num k => (.n (rNum s e k).1, (rNum s e k).2)
  | .text => (.s (rText s e 255).1, (rText s e 255).2)
  | .raw k => (.s (rRaw s e k).1, (rRaw s e k).2)
def readL : List Fk → ByteArray → Int → List Fv × ByteArray × Int
  | [], s, e => ([], s, e)
  | k :: ks, s, e => ((readF k s e).1 :: (readL ks (readF k s e).2.1 (readF k s e).2.2).1, (readL ks (readF k s e).2.1 (readF k s e).2.2).2)
def readV (ks : List Fk) (s : ByteArray) : List Fv × Bool := ((readL ks s 0).1, decide (rDone (readL ks s 0).2.1 (readL ks s 0).2.2 = 0))
/-- What fits. -/
def fits1 (f : Fk × Fv) : Prop :=
  match f with
  | (.num k, .n z) => 1 ≤ k ∧ k ≤ 8 ∧ 0 ≤ z ∧ z < 256 ^ k ∧ z ≤ 9223372036854775807
  | (.text, .s t) => t.size ≤ 255
  | (.raw k, .s t) => t.size = k
  | _ => False
def bytesF (f : Fk × Fv) : List UInt8 :=
  match f.1 with
  | .num k => byN k f.2.num.toNat
  | .text => byN 1 f.2.str.size ++ f.2.str.data.toList
  | .raw _ => f.2.str.data.toList
theorem fl_numL_byN (k m : Nat) : numL (byN k m) = m % 256 ^ k := by
  induction k with
  | zero => rw [Nat.pow_zero, Nat.mod_one]; rfl
  | succ k ih =>
    show numL (UInt8.ofNat (m / 256 ^ k) :: byN k m) = _
    have e := Nat.mod_pow_succ (x := m) (b := 256) (k := k)
    rw [numL_cons, byN_len, ih, UInt8.toNat_ofNat', e, Nat.mul_comm, Nat.add_comm]
theorem fl_mk (s : ByteArray) {l : List UInt8} (h : s.data.toList = l) : s = ⟨l.toArray⟩ := by subst h; rfl
theorem fl_size (l : List UInt8) : (⟨l.toArray⟩ : ByteArray).size = l.length := by show l.toArray.size = _; simp
theorem fl_rest (l m : List UInt8) (k : Nat) (h : l.length = k) : restB ⟨(l ++ m).toArray⟩ k = ⟨m.toArray⟩ := by
  refine fl_mk _ ?_
  rw [rest_data]
  exact List.drop_left' h
theorem fl_front (l m : List UInt8) (k : Nat) (h : l.length = k) : frontB ⟨(l ++ m).toArray⟩ k = ⟨l.toArray⟩ := by
  refine fl_mk _ ?_
  rw [front_data]
  exact List.take_left' h
theorem ahead_255 : ahead (255 : Int).toNat = 1 := by decide
/-- A field that fits is laid down as it is. -/
theorem lay_fits {f : Fk × Fv} (h : fits1 f) (l : List UInt8) : layF (l, 0) f = (l ++ bytesF f, 0) := by
  obtain ⟨k, v⟩ := f
  cases k with
  | num k =>
    cases v with
    | n z =>
      obtain ⟨h1, h2, h3, h4, h5⟩ := h
      show wNum l 0 k z = (l ++ byN k z.toNat, 0)
      unfold wNum
      have e : ((256 ^ k : Nat) : Int) = (256 : Int) ^ k := by rw [Int.natCast_pow]; rfl
      rw [if_neg (by omega), Int.toNat_natCast, if_neg (by
        rintro (h | h)
        · omega
        · have : ((256 ^ k : Nat) : Int) ≤ z := by omega
          rw [e] at this; omega)]
    | s t => exact h.elim
  | text =>
    cases v with
    | n z => exact h.elim
    | s t =>
      have h1 : t.size ≤ 255 := h
      show wText l 0 255 t = (l ++ (byN 1 t.size ++ t.data.toList), 0)
      unfold wText
      rw [if_neg (by omega), if_neg (by omega), ahead_255, List.append_assoc]
  | raw k =>
    cases v with
    | n z => exact h.elim
    | s t => rfl
theorem lay_all : ∀ (fs : List (Fk × Fv)) (l : List UInt8), (∀ f ∈ fs, fits1 f) → fs.foldl layF (l, 0) = (l ++ fs.flatMap bytesF, 0)
  | [], l, _ => by simp
  | f :: fs, l, h => by
    rw [List.foldl_cons, lay_fits (h f (List.mem_cons_self ..)), lay_all fs _ fun g hg => h g (List.mem_cons_of_mem _ hg), List.flatMap_cons, List.append_assoc]
theorem printed_fits {fs : List (Fk × Fv)} (h : ∀ f ∈ fs, fits1 f) : printedV fs = ⟨(fs.flatMap bytesF).toArray⟩ := by
  have e : layL fs = (fs.flatMap bytesF, 0) := by
    unfold layL
    rw [lay_all fs [] h]; rfl
  unfold printedV
  rw [e]
  rfl
/-- And read. -/
theorem read_fits {f : Fk × Fv} (h : fits1 f) (R : List UInt8) : readF f.1 ⟨(bytesF f ++ R).toArray⟩ 0 = (f.2, ⟨R.toArray⟩, 0) := by
  obtain ⟨k, v⟩ := f
  cases k with
  | num k =>
    cases v with
    | n z =>
      obtain ⟨h1, h2, h3, h4, h5⟩ := h
      obtain ⟨m, rfl⟩ := Int.eq_ofNat_of_zero_le h3
      have hm : m < 256 ^ k := by
        have e : ((256 ^ k : Nat) : Int) = (256 : Int) ^ k := by rw [Int.natCast_pow]; rfl
        rw [← e] at h4; omega
      show ((.n (rNum ⟨(byN k (m : Int).toNat ++ R).toArray⟩ 0 k).1, (rNum ⟨(byN k (m : Int).toNat ++ R).toArray⟩ 0 k).2) : Fv × ByteArray × Int) = (.n m, ⟨R.toArray⟩, 0)
      have e1 : (⟨(byN k m ++ R).toArray⟩ : ByteArray).data.toList.take k = byN k m := List.take_left' (byN_len k m)
      rw [Int.toNat_natCast]
      unfold rNum
      rw [if_neg (by omega), if_neg (by omega), fl_size, List.length_append, byN_len, if_neg (by omega), Int.toNat_natCast, e1, fl_numL_byN, Nat.mod_eq_of_lt hm, if_neg (by omega), fl_rest _ _ _ (byN_len k m)]
    | s t => exact h.elim
  | text =>
    cases v with
    | n z => exact h.elim
    | s t =>
      have h1 : t.size ≤ 255 := h
      have hl : t.data.toList.length = t.size := rfl
      show ((.s (rText ⟨(byN 1 t.size ++ t.data.toList ++ R).toArray⟩ 0 255).1, (rText ⟨(byN 1 t.size ++ t.data.toList ++ R).toArray⟩ 0 255).2) : Fv × ByteArray × Int) = (.s t, ⟨R.toArray⟩, 0)
      have e1 : (⟨(byN 1 t.size ++ t.data.toList ++ R).toArray⟩ : ByteArray).data.toList.take 1 = byN 1 t.size := by
        show (byN 1 t.size ++ t.data.toList ++ R).take 1 = _
        rw [List.append_assoc]
        exact List.take_left' (byN_len _ _)
      have e2 : (byN 1 t.size ++ t.data.toList).length = 1 + t.size := by rw [List.length_append, byN_len, hl]
      unfold rText
      rw [ahead_255, if_neg (by omega), if_neg (by omega), fl_size, List.length_append, e2, if_neg (by omega), e1, fl_numL_byN, Nat.mod_eq_of_lt (by omega), if_neg (show ¬ (255 : Int).toNat < t.size by show ¬ 255 < _; omega), if_neg (by omega), fl_front _ _ _ e2, fl_rest _ _ _ e2, fl_rest _ _ _ (byN_len _ _)]
  | raw k =>
    cases v with
    | n z => exact h.elim
    | s t =>
      have h1 : t.size = k := h
      have hl : t.data.toList.length = t.size := rfl
      show ((.s (rRaw ⟨(t.data.toList ++ R).toArray⟩ 0 k).1, (rRaw ⟨(t.data.toList ++ R).toArray⟩ 0 k).2) : Fv × ByteArray × Int) = (.s t, ⟨R.toArray⟩, 0)
      unfold rRaw
      rw [if_neg (by omega), if_neg (by omega), fl_size, List.length_append, if_neg (by omega), Int.toNat_natCast, fl_front _ _ _ (by omega), fl_rest _ _ _ (by omega)]
theorem reads_fits : ∀ (fs : List (Fk × Fv)) (R : List UInt8), (∀ f ∈ fs, fits1 f) → readL (fs.map (·.1)) ⟨(fs.flatMap bytesF ++ R).toArray⟩ 0 = (fs.map (·.2), ⟨R.toArray⟩, 0)
  | [], R, _ => rfl
  | f :: fs, R, h => by
    have h1 := read_fits (h f (List.mem_cons_self ..)) (fs.flatMap bytesF ++ R)
    have h2 := reads_fits fs R fun g hg => h g (List.mem_cons_of_mem _ hg)
    rw [List.map_cons, List.flatMap_cons, List.append_assoc]
    unfold readL
    rw [h1]
    dsimp only
    rw [h2]
    rfl
/-- What was laid down is read as it was. -/
theorem readV_printed {fs : List (Fk × Fv)} (h : ∀ f ∈ fs, fits1 f) : readV (fs.map (·.1)) (printedV fs) = (fs.map (·.2), true) := by
  have h1 := reads_fits fs [] h
  rw [List.append_nil] at h1
  rw [printed_fits h]
  unfold readV
  rw [h1]
  rfl
end Go.Proofs.YtabibfabieghpaaGreatDoor
namespace Go.Proofs.YtabibfabieghpaaGreatDoor
open Go.RowKit
abbrev FT : TypeId := 109
abbrev FLT : TypeId := 94
abbrev fnV (k : Nat) : Value := .func (.func k) #[] #[]
/-- A field's cells. -/
def enF (f : Fk × Addr) : List Value :=
  match f.1 with
  | .num k => [.int .i64 (k : Nat), .pointer (some f.2), .pointer none, fnV 120, fnV 121, .nilFunc, .nilFunc, .bool false]
  | .text => [.int .i64 255, .pointer none, .pointer (some f.2), .nilFunc, .nilFunc, fnV 132, fnV 133, .bool false]
  | .raw k => [.int .i64 (k : Nat), .pointer none, .pointer (some f.2), .nilFunc, .nilFunc, .nilFunc, fnV 131, .bool true]
theorem enF_len (f : Fk × Addr) : (enF f).length = 8 := by
  obtain ⟨k, a⟩ := f
  cases k <;> rfl
theorem enF_one (f : Fk × Addr) : ∀ v ∈ enF f, v.oneCell' = true := by
  obtain ⟨k, a⟩ := f
  cases k <;> simp [enF, Value.oneCell']
theorem ft_u : ∃ d, Tryz.prog.underlying FT = some d ∧ d.isRow = true := by
  cases e : Tryz.prog.underlying FT with
  | none => exact absurd e (by rw [Tryz.underlying109]; simp)
  | some d => exact ⟨d, rfl, by rw [Tryz.underlying109] at e; injection e with e; subst e; rfl⟩
section
variable {E : World} {S : Ph} {L : List Hp}
set_option maxHeartbeats 1000000 in
theorem fnum_any (k : Nat) (a : Addr) (w : World) (h : Own E w L) :
    Calls Tryz.prog 68 #[.int .i64 (k : Nat), .pointer (some a)] w fun e w' => e = .returned (.agg (enF (.num k, a)).toArray) ∧ Own E w' L := by
  obtain ⟨d, hd, hr⟩ := ft_u
  have h1 := h.alloc (.cells #[.int .i64 0, .pointer none, .pointer none, .nilFunc, .nilFunc, .nilFunc, .nilFunc, .bool false] FT)
  have H1 := Lib.hid h1
  clear h h1
  go_enter Tryz.func68, Tryz.ntmps68
  go_wp2_with (with_reducible refine at_slot (k := none) ?_; refine wpList_store_whole (o := ⟨none, _, _, _, _, _⟩) (cs := [.int .i64 0, .pointer none, .pointer none, .nilFunc, .nilFunc, .nilFunc, .nilFunc, .bool false]) (vs := enF (.num k, a)) H1.out rfl (enF_one _) (by kernel_rfl) rfl rfl rfl rfl ?_; intro w7 h)
  refine bodyPost_ret (results_arr rfl rfl h hd hr (by kernel_rfl)) rfl ?_
  exact ⟨rfl, h.drop⟩
set_option maxHeartbeats 1000000 in
theorem fraw_any (k : Nat) (a : Addr) (w : World) (h : Own E w L) :
    Calls Tryz.prog 115 #[.int .i64 (k : Nat), .pointer (some a)] w fun e w' => e = .returned (.agg (enF (.raw k, a)).toArray) ∧ Own E w' L := by
  obtain ⟨d, hd, hr⟩ := ft_u
  have h1 := h.alloc (.cells #[.int .i64 0, .pointer none, .pointer none, .nilFunc, .nilFunc, .nilFunc, .nilFunc, .bool false] FT)
  have H1 := Lib.hid h1
  clear h h1
  go_enter Tryz.func115, Tryz.ntmps115
  go_wp2_with (with_reducible refine at_slot (k := none) ?_; refine wpList_store_whole (o := ⟨none, _, _, _, _, _⟩) (cs := [.int .i64 0, .pointer none, .pointer none, .nilFunc, .nilFunc, .nilFunc, .nilFunc, .bool false]) (vs := enF (.raw k, a)) H1.out rfl (enF_one _) (by kernel_rfl) rfl rfl rfl rfl ?_; intro w7 h)
  refine bodyPost_ret (results_arr rfl rfl h hd hr (by kernel_rfl)) rfl ?_
  exact ⟨rfl, h.drop⟩
set_option maxHeartbeats 1000000 in
theorem ftext_any (a : Addr) (w : World) (h : Own E w L) :
    Calls Tryz.prog 116 #[.pointer (some a)] w fun e w' => e = .returned (.agg (enF (.text, a)).toArray) ∧ Own E w' L := by
  obtain ⟨d, hd, hr⟩ := ft_u
  have h1 := h.alloc (.cells #[.int .i64 0, .pointer none, .pointer none, .nilFunc, .nilFunc, .nilFunc, .nilFunc, .bool false] FT)
  have H1 := Lib.hid h1
  clear h h1
  go_enter Tryz.func116, Tryz.ntmps116
  go_wp2_with (with_reducible refine at_slot (k := none) ?_; refine wpList_store_whole (o := ⟨none, _, _, _, _, _⟩) (cs := [.int .i64 0, .pointer none, .pointer none, .nilFunc, .nilFunc, .nilFunc, .nilFunc, .bool false]) (vs := enF (.text, a)) H1.out rfl (enF_one _) (by kernel_rfl) rfl rfl rfl rfl ?_; intro w7 h)
  refine bodyPost_ret (results_arr rfl rfl h hd hr (by kernel_rfl)) rfl ?_
  exact ⟨rfl, h.drop⟩
end
end Go.Proofs.YtabibfabieghpaaGreatDoor
namespace Go.Proofs.YtabibfabieghpaaGreatDoor
open Go.RowKit
theorem enters_f {P : Program} {f : FuncId} {fn : Func} {c : Code} (hf : P.funcs[f]? = some fn) (hname : (fn.name == "runtime.NumGoroutine") = false) (hb : fn.body = some c) : ∀ (args : Array Value) (w : World), (callFunc f args).run P w = .ok (.enter f args) w := fun args w => by
  have h1 : fn.name ≠ "runtime.NumGoroutine" := by simpa using hname
  simp [callFunc, hf, h1, hb, mark]
/-- A field in memory, and what it points to. -/
abbrev Fld := Fk × Addr × Fv
abbrev enFld (x : Fld) : List Value := enF (x.1, x.2.1)
abbrev Fld.kv (x : Fld) : Fk × Fv := (x.1, x.2.2)
structure FldOk (S : Ph) (x : Fld) : Prop where
  su : suits x.1 x.2.2
  at_ : S.cell x.2.1 = some x.2.2.val
  num : x.2.2.num ≤ 9223372036854775807
  str : x.2.2.str.size ≤ 4294967000
theorem lay_len (st : List UInt8 × Int) (f : Fk × Fv) (h : f.2.str.size ≤ 4294967000) : (layF st f).1.length ≤ st.1.length + 4294967296 := by
  obtain ⟨k, v⟩ := f
  have hd : v.str.data.toList.length = v.str.size := rfl
  dsimp only at h
  unfold layF
  cases k with
  | num k =>
    dsimp only
    unfold wNum
    split
    · show st.1.length ≤ _; omega
    · split
      · show st.1.length ≤ _; omega
      · rename_i h1 h2
        show (st.1 ++ byN (k : Int).toNat v.num.toNat).length ≤ _
        rw [List.length_append, byN_len]; omega
  | text =>
    dsimp only
    unfold wText
    split
    · show st.1.length ≤ _; omega
    · split
      · show st.1.length ≤ _; omega
      · show (st.1 ++ byN (ahead (255 : Int).toNat) v.str.size ++ v.str.data.toList).length ≤ _
        rw [List.length_append, List.length_append, byN_len, ahead_255]; omega
  | raw k =>
    show (st.1 ++ v.str.data.toList).length ≤ _
    rw [List.length_append]; omega
theorem lays_len : ∀ (fs : List (Fk × Fv)) (st : List UInt8 × Int), (∀ f ∈ fs, f.2.str.size ≤ 4294967000) → (fs.foldl layF st).1.length ≤ st.1.length + 4294967296 * fs.length
  | [], st, _ => by simp
  | f :: fs, st, h => by
    have h1 := lays_len fs (layF st f) fun g hg => h g (List.mem_cons_of_mem _ hg)
    have h2 := lay_len st f (h f (List.mem_cons_self ..))
    rw [List.foldl_cons, List.length_cons]; omega
theorem layL_snoc (fs : List (Fk × Fv)) (f : Fk × Fv) : layL (fs ++ [f]) = layF (layL fs) f := by unfold layL; rw [List.foldl_append]; rfl
section
variable {E : World} {S : Ph} {L : List Hp}
set_option maxRecDepth 100000 in
set_option maxHeartbeats 2000000 in
theorem printed_any (A : Option Addr) (n c : Nat) (xs : List Fld) (w : World) (hn : n ≤ 100) (hr : Rds S 8 enFld A n xs) (hx : ∀ x ∈ xs, FldOk S x) (hG : Laid0 E (Hp.ro S :: L)) (h : Own E w (Hp.ro S :: L)) :
    Calls Tryz.prog 61 #[.slice A n c] w fun e w' => e = .returned (.string (printedV (xs.map Fld.kv))) ∧ Own E w' (Hp.ro S :: L) := by
  have e1 : ∀ args w, (callFunc 120 args).run Tryz.prog w = .ok (.enter 120 args) w := enters_f Tryz.func120 (by kernel_rfl) rfl
  have e2 : ∀ args w, (callFunc 132 args).run Tryz.prog w = .ok (.enter 132 args) w := enters_f Tryz.func132 (by kernel_rfl) rfl
  have HX := Lib.hid hx
  have HG := Lib.hid hG
  have hln := hr.1
  clear hx hG
  go_enter Tryz.func61, Tryz.ntmps61
  go_wp2_with fail
  refine (newwriter_any _ h).mono ?_
  rintro e w1 ⟨b, rfl, h⟩
  have H1 := Lib.hid h.toWtr0
  clear h
  go_wp2_with fail
  go_loopw [11] (fun i wr => ∃ k : Nat, k ≤ n ∧ i = .int .i64 k ∧ Own E wr (Hp.wtr b (layL ((xs.take k).map Fld.kv)).1 (layL ((xs.take k).map Fld.kv)).2 :: Hp.ro S :: L)) (fun i _ => n - (intOf i).toNat)
  case atStart => exact ⟨0, by omega, rfl, H1.out⟩
  case round =>
    obtain ⟨k, hk, rfl, hw⟩ := hrel
    clear H1
    by_cases hlt : k < n
    · obtain ⟨x, b0, off, hxk, rfl, hc⟩ := hr.get hlt
      have hok := HX.out x (List.mem_of_getElem? hxk)
      have hsn : (xs.take (k + 1)).map Fld.kv = (xs.take k).map Fld.kv ++ [x.kv] := by rw [List.take_add_one, hxk]; simp
      have hll := lays_len ((xs.take k).map Fld.kv) ([], 0) (fun f hf => by
        obtain ⟨y, hy, rfl⟩ := List.mem_map.1 hf
        exact (HX.out y (List.mem_of_mem_take hy)).str)
      have hl2 : (layL ((xs.take k).map Fld.kv)).1.length ≤ 4294967296 * 100 := by
        refine Nat.le_trans hll ?_
        rw [List.length_map, List.length_take]
        show 0 + _ ≤ _
        rw [Nat.zero_add]
        exact Nat.mul_le_mul_left _ (by omega)
      have hrel2 : ∀ w', Own E w' (Hp.wtr b (layF (layL ((xs.take k).map Fld.kv)) x.kv).1 (layF (layL ((xs.take k).map Fld.kv)) x.kv).2 :: Hp.ro S :: L) → Own E w' (Hp.wtr b (layL ((xs.take (k + 1)).map Fld.kv)).1 (layL ((xs.take (k + 1)).map Fld.kv)).2 :: Hp.ro S :: L) := fun w' hw' => by
        rw [hsn, layL_snoc]; exact hw'
      have HR := Lib.hid hrel2
      generalize layL ((xs.take k).map Fld.kv) = st at *
      clear hll hsn hrel2 hxk
      obtain ⟨kd, ad, vl⟩ := x
      have hcs : wr.rangeAt b0 (off + k * 8) (enF (kd, ad)) := fun j u hu => hw.f1.rd (hc j u hu)
      have hok' := hok
      obtain ⟨hsu, -, hnum, hstr⟩ := hok'
      have hkn : (k : Int) < n := by omega
      cases kd with
      | num z =>
        cases vl with
        | s t => exact hsu.elim
        | n v =>
          have c0 : wr.cell? ⟨b0, off + k * 8, none⟩ = some (.int .i64 z) := hcs 0 _ rfl
          have c1 : wr.cell? ⟨b0, off + k * 8 + 1, none⟩ = some (.pointer (some ad)) := hcs 1 _ rfl
          have c2 : wr.cell? ⟨b0, off + k * 8 + 2, none⟩ = some (.pointer none) := hcs 2 _ rfl
          have c3 : wr.cell? ⟨b0, off + k * 8 + 3, none⟩ = some (fnV 120) := hcs 3 _ rfl
          have c4 : wr.cell? ⟨b0, off + k * 8 + 4, none⟩ = some (fnV 121) := hcs 4 _ rfl
          have c5 : wr.cell? ⟨b0, off + k * 8 + 5, none⟩ = some (.nilFunc) := hcs 5 _ rfl
          have c6 : wr.cell? ⟨b0, off + k * 8 + 6, none⟩ = some (.nilFunc) := hcs 6 _ rfl
          have c7 : wr.cell? ⟨b0, off + k * 8 + 7, none⟩ = some (.bool false) := hcs 7 _ rfl
          have h2 : Own E _ (Hp.blk wr.heap.size FT [.int .i64 0, .pointer none, .pointer none, .nilFunc, .nilFunc, .nilFunc, .nilFunc, .bool false].toArray :: _) := hw.alloc _
          have H2 := Lib.hid h2
          have hcell : ∀ w' g v0 v1 v2 v3 v4 v5 v6 v7, (∃ M, Own E w' (Hp.blk g FT #[v0, v1, v2, v3, v4, v5, v6, v7] :: M)) → w'.cell? ⟨g, 0, none⟩ = some v0 ∧ w'.cell? ⟨g, 1, none⟩ = some v1 ∧ w'.cell? ⟨g, 2, none⟩ = some v2 ∧ w'.cell? ⟨g, 3, none⟩ = some v3 ∧ w'.cell? ⟨g, 5, none⟩ = some v5 ∧ w'.cell? ⟨g, 7, none⟩ = some v7 := fun w' g v0 v1 v2 v3 v4 v5 v6 v7 hw => by
            obtain ⟨_, hw⟩ := hw
            exact ⟨hw.cell 0, hw.cell 1, hw.cell 2, hw.cell 3, hw.cell 5, hw.cell 7⟩
          have HC := Lib.hid hcell
          have HA := Lib.hid (fun w' (hw : ∃ M, Own E w' (Hp.ro S :: M)) => (by obtain ⟨_, hw⟩ := hw; exact hw.rd hok.at_ : w'.cell? ad = some (.int .i64 v)))
          clear h2 hcs hc hw hcell
          go_upto_region 7 with (with_reducible refine at_slot (k := none) ?_; refine wpList_store_whole (o := ⟨none, _, _, _, _, _⟩) (cs := [.int .i64 0, .pointer none, .pointer none, .nilFunc, .nilFunc, .nilFunc, .nilFunc, .bool false]) (vs := enF (.num z, ad)) H2.out rfl (enF_one (.num z, ad)) (by kernel_rfl) rfl rfl rfl rfl ?_; intro w7 h; obtain ⟨y0, y1, y2, y3, y5, y7⟩ := HC.out _ _ (.int .i64 z) (.pointer (some ad)) (.pointer none) (fnV 120) (fnV 121) (.nilFunc) (.nilFunc) (.bool false) ⟨_, h⟩; have ya := HA.out _ ⟨_, h.f2⟩; have H7 := Lib.hid h; clear h)
          generalize wr.heap.size = g at H7 ⊢
          clear c0 c1 c2 c3 c4 c5 c6 c7 y0 y1 y2 y3 y5 y7 ya H2
          have h := H7.out.drew
          clear H7
          refine wp_region_text [1, 4, 6, 8] (fun w' => w'.cell? ⟨g, 3, none⟩ = some (fnV 120) ∧ w'.cell? ⟨g, 0, none⟩ = some (.int .i64 z) ∧ w'.cell? ⟨g, 1, none⟩ = some (.pointer (some ad)) ∧ w'.cell? ad = some (.int .i64 v)) (by kernel_rfl) ?_ (fun hS => ?_)
          · exact ⟨(HC.out _ _ (.int .i64 z) (.pointer (some ad)) (.pointer none) (fnV 120) (fnV 121) (.nilFunc) (.nilFunc) (.bool false) ⟨_, h⟩).2.2.2.1, (HC.out _ _ (.int .i64 z) (.pointer (some ad)) (.pointer none) (fnV 120) (fnV 121) (.nilFunc) (.nilFunc) (.bool false) ⟨_, h⟩).1, (HC.out _ _ (.int .i64 z) (.pointer (some ad)) (.pointer none) (fnV 120) (fnV 121) (.nilFunc) (.nilFunc) (.bool false) ⟨_, h⟩).2.1, HA.out _ ⟨_, h.f2⟩⟩
          refine gp 0 (some 29) ?_
          refine gl 1 (some 30) ?_
          refine gp 2 (some 31) ?_
          refine gp 3 (some 32) ?_
          refine gl 4 (some 33) ?_
          refine gp 5 (some 34) ?_
          refine gl 6 (some 35) ?_
          refine gp 7 (some 36) ?_
          refine gl 8 (some 37) ?_
          refine gk 9 (some 38) (fun K hK => ?_)
          rw [if_pos (by rfl)]
          go_simp
          refine (wnum_all b st.1 st.2 z v _ _ _ rfl hnum (by omega) h.f1).mono ?_
          rintro e w5 ⟨rfl, h⟩
          refine hK.out _ _ ?_ (fun hS => ?_)
          · exact ⟨(HC.out _ _ (.int .i64 z) (.pointer (some ad)) (.pointer none) (fnV 120) (fnV 121) (.nilFunc) (.nilFunc) (.bool false) ⟨_, h.f1⟩).2.2.2.1, (HC.out _ _ (.int .i64 z) (.pointer (some ad)) (.pointer none) (fnV 120) (fnV 121) (.nilFunc) (.nilFunc) (.bool false) ⟨_, h.f1⟩).1, (HC.out _ _ (.int .i64 z) (.pointer (some ad)) (.pointer none) (fnV 120) (fnV 121) (.nilFunc) (.nilFunc) (.bool false) ⟨_, h.f1⟩).2.1, HA.out _ ⟨_, h.f2⟩⟩
          clear hK K
          try simp only [Act.put, List.setIfInBounds_toArray, List.set_cons_zero, List.set_cons_succ]
          refine wpAnyG_done (by kernel_rfl) ?_ _
          refine NoPanic.normal ?_
          have h : Own E _ (Hp.wtr b (layF st (Fld.kv (.num z, ad, .n v))).1 (layF st (Fld.kv (.num z, ad, .n v))).2 :: Hp.ro S :: L) := h.f1.drop
          have HN := Lib.hid (HR.out _ h)
          clear h
          go_wp2_with fail
          go_roundw
          case rel => exact ⟨k + 1, by omega, by go_num, HN.out⟩
          case measure => simp [intOf]; omega
      | text =>
        cases vl with
        | n v => exact hsu.elim
        | s v =>
          have c0 : wr.cell? ⟨b0, off + k * 8, none⟩ = some (.int .i64 255) := hcs 0 _ rfl
          have c1 : wr.cell? ⟨b0, off + k * 8 + 1, none⟩ = some (.pointer none) := hcs 1 _ rfl
          have c2 : wr.cell? ⟨b0, off + k * 8 + 2, none⟩ = some (.pointer (some ad)) := hcs 2 _ rfl
          have c3 : wr.cell? ⟨b0, off + k * 8 + 3, none⟩ = some (.nilFunc) := hcs 3 _ rfl
          have c4 : wr.cell? ⟨b0, off + k * 8 + 4, none⟩ = some (.nilFunc) := hcs 4 _ rfl
          have c5 : wr.cell? ⟨b0, off + k * 8 + 5, none⟩ = some (fnV 132) := hcs 5 _ rfl
          have c6 : wr.cell? ⟨b0, off + k * 8 + 6, none⟩ = some (fnV 133) := hcs 6 _ rfl
          have c7 : wr.cell? ⟨b0, off + k * 8 + 7, none⟩ = some (.bool false) := hcs 7 _ rfl
          have h2 : Own E _ (Hp.blk wr.heap.size FT [.int .i64 0, .pointer none, .pointer none, .nilFunc, .nilFunc, .nilFunc, .nilFunc, .bool false].toArray :: _) := hw.alloc _
          have H2 := Lib.hid h2
          have hcell : ∀ w' g v0 v1 v2 v3 v4 v5 v6 v7, (∃ M, Own E w' (Hp.blk g FT #[v0, v1, v2, v3, v4, v5, v6, v7] :: M)) → w'.cell? ⟨g, 0, none⟩ = some v0 ∧ w'.cell? ⟨g, 1, none⟩ = some v1 ∧ w'.cell? ⟨g, 2, none⟩ = some v2 ∧ w'.cell? ⟨g, 3, none⟩ = some v3 ∧ w'.cell? ⟨g, 5, none⟩ = some v5 ∧ w'.cell? ⟨g, 7, none⟩ = some v7 := fun w' g v0 v1 v2 v3 v4 v5 v6 v7 hw => by
            obtain ⟨_, hw⟩ := hw
            exact ⟨hw.cell 0, hw.cell 1, hw.cell 2, hw.cell 3, hw.cell 5, hw.cell 7⟩
          have HC := Lib.hid hcell
          have HA := Lib.hid (fun w' (hw : ∃ M, Own E w' (Hp.ro S :: M)) => (by obtain ⟨_, hw⟩ := hw; exact hw.rd hok.at_ : w'.cell? ad = some (.string v)))
          clear h2 hcs hc hw hcell
          go_upto_region 5 with (with_reducible refine at_slot (k := none) ?_; refine wpList_store_whole (o := ⟨none, _, _, _, _, _⟩) (cs := [.int .i64 0, .pointer none, .pointer none, .nilFunc, .nilFunc, .nilFunc, .nilFunc, .bool false]) (vs := enF (.text, ad)) H2.out rfl (enF_one (.text, ad)) (by kernel_rfl) rfl rfl rfl rfl ?_; intro w7 h; obtain ⟨y0, y1, y2, y3, y5, y7⟩ := HC.out _ _ (.int .i64 255) (.pointer none) (.pointer (some ad)) (.nilFunc) (.nilFunc) (fnV 132) (fnV 133) (.bool false) ⟨_, h⟩; have ya := HA.out _ ⟨_, h.f2⟩; have H7 := Lib.hid h; clear h)
          generalize wr.heap.size = g at H7 ⊢
          clear c0 c1 c2 c3 c4 c5 c6 c7 y0 y1 y2 y3 y5 y7 ya H2
          have h := H7.out.drew
          clear H7
          refine wp_region_text [1, 4, 6, 8] (fun w' => w'.cell? ⟨g, 5, none⟩ = some (fnV 132) ∧ w'.cell? ⟨g, 0, none⟩ = some (.int .i64 255) ∧ w'.cell? ⟨g, 2, none⟩ = some (.pointer (some ad)) ∧ w'.cell? ad = some (.string v)) (by kernel_rfl) ?_ (fun hS => ?_)
          · exact ⟨(HC.out _ _ (.int .i64 255) (.pointer none) (.pointer (some ad)) (.nilFunc) (.nilFunc) (fnV 132) (fnV 133) (.bool false) ⟨_, h⟩).2.2.2.2.1, (HC.out _ _ (.int .i64 255) (.pointer none) (.pointer (some ad)) (.nilFunc) (.nilFunc) (fnV 132) (fnV 133) (.bool false) ⟨_, h⟩).1, (HC.out _ _ (.int .i64 255) (.pointer none) (.pointer (some ad)) (.nilFunc) (.nilFunc) (fnV 132) (fnV 133) (.bool false) ⟨_, h⟩).2.2.1, HA.out _ ⟨_, h.f2⟩⟩
          refine gp 0 (some 15) ?_
          refine gl 1 (some 16) ?_
          refine gp 2 (some 17) ?_
          refine gp 3 (some 18) ?_
          refine gl 4 (some 19) ?_
          refine gp 5 (some 20) ?_
          refine gl 6 (some 21) ?_
          refine gp 7 (some 22) ?_
          refine gl 8 (some 23) ?_
          refine gk 9 (some 24) (fun K hK => ?_)
          rw [if_pos (by rfl)]
          go_simp
          refine (wtext_all b st.1 st.2 255 v _ _ _ rfl (by omega) h.f1).mono ?_
          rintro e w5 ⟨rfl, h⟩
          refine hK.out _ _ ?_ (fun hS => ?_)
          · exact ⟨(HC.out _ _ (.int .i64 255) (.pointer none) (.pointer (some ad)) (.nilFunc) (.nilFunc) (fnV 132) (fnV 133) (.bool false) ⟨_, h.f1⟩).2.2.2.2.1, (HC.out _ _ (.int .i64 255) (.pointer none) (.pointer (some ad)) (.nilFunc) (.nilFunc) (fnV 132) (fnV 133) (.bool false) ⟨_, h.f1⟩).1, (HC.out _ _ (.int .i64 255) (.pointer none) (.pointer (some ad)) (.nilFunc) (.nilFunc) (fnV 132) (fnV 133) (.bool false) ⟨_, h.f1⟩).2.2.1, HA.out _ ⟨_, h.f2⟩⟩
          clear hK K
          try simp only [Act.put, List.setIfInBounds_toArray, List.set_cons_zero, List.set_cons_succ]
          refine wpAnyG_done (by kernel_rfl) ?_ _
          refine NoPanic.normal ?_
          have h : Own E _ (Hp.wtr b (layF st (Fld.kv (.text, ad, .s v))).1 (layF st (Fld.kv (.text, ad, .s v))).2 :: Hp.ro S :: L) := h.f1.drop
          have HN := Lib.hid (HR.out _ h)
          clear h
          go_wp2_with fail
          go_roundw
          case rel => exact ⟨k + 1, by omega, by go_num, HN.out⟩
          case measure => simp [intOf]; omega
      | raw z =>
        cases vl with
        | n v => exact hsu.elim
        | s v =>
          have c0 : wr.cell? ⟨b0, off + k * 8, none⟩ = some (.int .i64 z) := hcs 0 _ rfl
          have c1 : wr.cell? ⟨b0, off + k * 8 + 1, none⟩ = some (.pointer none) := hcs 1 _ rfl
          have c2 : wr.cell? ⟨b0, off + k * 8 + 2, none⟩ = some (.pointer (some ad)) := hcs 2 _ rfl
          have c3 : wr.cell? ⟨b0, off + k * 8 + 3, none⟩ = some (.nilFunc) := hcs 3 _ rfl
          have c4 : wr.cell? ⟨b0, off + k * 8 + 4, none⟩ = some (.nilFunc) := hcs 4 _ rfl
          have c5 : wr.cell? ⟨b0, off + k * 8 + 5, none⟩ = some (.nilFunc) := hcs 5 _ rfl
          have c6 : wr.cell? ⟨b0, off + k * 8 + 6, none⟩ = some (fnV 131) := hcs 6 _ rfl
          have c7 : wr.cell? ⟨b0, off + k * 8 + 7, none⟩ = some (.bool true) := hcs 7 _ rfl
          have h2 : Own E _ (Hp.blk wr.heap.size FT [.int .i64 0, .pointer none, .pointer none, .nilFunc, .nilFunc, .nilFunc, .nilFunc, .bool false].toArray :: _) := hw.alloc _
          have H2 := Lib.hid h2
          have hcell : ∀ w' g v0 v1 v2 v3 v4 v5 v6 v7, (∃ M, Own E w' (Hp.blk g FT #[v0, v1, v2, v3, v4, v5, v6, v7] :: M)) → w'.cell? ⟨g, 0, none⟩ = some v0 ∧ w'.cell? ⟨g, 1, none⟩ = some v1 ∧ w'.cell? ⟨g, 2, none⟩ = some v2 ∧ w'.cell? ⟨g, 3, none⟩ = some v3 ∧ w'.cell? ⟨g, 5, none⟩ = some v5 ∧ w'.cell? ⟨g, 7, none⟩ = some v7 := fun w' g v0 v1 v2 v3 v4 v5 v6 v7 hw => by
            obtain ⟨_, hw⟩ := hw
            exact ⟨hw.cell 0, hw.cell 1, hw.cell 2, hw.cell 3, hw.cell 5, hw.cell 7⟩
          have HC := Lib.hid hcell
          have HA := Lib.hid (fun w' (hw : ∃ M, Own E w' (Hp.ro S :: M)) => (by obtain ⟨_, hw⟩ := hw; exact hw.rd hok.at_ : w'.cell? ad = some (.string v)))
          clear h2 hcs hc hw hcell
          go_wp2_with (with_reducible refine at_slot (k := none) ?_; refine wpList_store_whole (o := ⟨none, _, _, _, _, _⟩) (cs := [.int .i64 0, .pointer none, .pointer none, .nilFunc, .nilFunc, .nilFunc, .nilFunc, .bool false]) (vs := enF (.raw z, ad)) H2.out rfl (enF_one (.raw z, ad)) (by kernel_rfl) rfl rfl rfl rfl ?_; intro w7 h; obtain ⟨y0, y1, y2, y3, y5, y7⟩ := HC.out _ _ (.int .i64 z) (.pointer none) (.pointer (some ad)) (.nilFunc) (.nilFunc) (.nilFunc) (fnV 131) (.bool true) ⟨_, h⟩; have ya := HA.out _ ⟨_, h.f2⟩; have H7 := Lib.hid h; clear h)
          refine (wraw_all b st.1 st.2 v _ (by have := hstr; dsimp only [Fv.str] at this; omega) H7.out.f1).mono ?_
          rintro e w5 ⟨rfl, h⟩
          have h : Own E _ (Hp.wtr b (layF st (Fld.kv (.raw z, ad, .s v))).1 (layF st (Fld.kv (.raw z, ad, .s v))).2 :: Hp.ro S :: L) := h.f1.drop
          clear c0 c1 c2 c3 c4 c5 c6 c7 H2 y0 y1 y2 y3 y5 y7 ya H7
          have HN := Lib.hid (HR.out _ h)
          clear h
          go_wp2_with fail
          go_roundw
          case rel => exact ⟨k + 1, by omega, by go_num, HN.out⟩
          case measure => simp [intOf]; omega
    · obtain rfl : k = n := by omega
      have hall : xs.take k = xs := List.take_of_length_le (by omega)
      rw [hall] at hw
      have HW := Lib.hid hw
      clear hw hall
      have hpv : printedV (xs.map Fld.kv) = (wDone (layL (xs.map Fld.kv)).1 (layL (xs.map Fld.kv)).2).1 := rfl
      have HP := Lib.hid hpv
      obtain ⟨v, f, hvf⟩ : ∃ v f, wDone (layL (xs.map Fld.kv)).1 (layL (xs.map Fld.kv)).2 = (v, f) := ⟨_, _, rfl⟩
      rw [hvf] at HP
      have HV := Lib.hid hvf
      clear hpv hvf
      go_wp2_with fail
      refine (wdone_all b _ _ v f _ HV.out HG.out HW.out).mono ?_
      rintro e w6 ⟨rfl, h⟩
      have H6 := Lib.hid h.drop
      clear h HW
      go_wp2_with fail
      go_ret
      exact ⟨congrArg (fun s => Ending.returned (.string s)) HP.out.symm, H6.out⟩
end
end Go.Proofs.YtabibfabieghpaaGreatDoor
namespace Go.Proofs.YtabibfabieghpaaGreatDoor
open Go.RowKit
/-- Cells that may be written one by one, wherever they lie. -/
structure Places (E : World) (R : List Value → Hp) (ads : List Addr) : Prop where
  set : ∀ (w : World) (vs : List Value) (i : Nat) (ad : Addr) (v : Value) (M : List Hp), vs.length = ads.length → ads[i]? = some ad → Own E w (R vs :: M) → (∃ old, w.cell? ad = some old) ∧ w.frozen? ad = false ∧ Own E (w.setCell ad v) (R (vs.set i v) :: M)
theorem readL_snoc (k : Fk) : ∀ (ks : List Fk) (s : ByteArray) (e : Int), readL (ks ++ [k]) s e = ((readL ks s e).1 ++ [(readF k (readL ks s e).2.1 (readL ks s e).2.2).1], (readF k (readL ks s e).2.1 (readL ks s e).2.2).2)
  | [], s, e => rfl
  | q :: ks, s, e => by
    rw [List.cons_append]
    show (_ :: (readL (ks ++ [k]) _ _).1, (readL (ks ++ [k]) _ _).2) = _
    rw [readL_snoc k ks]
    rfl
theorem readL_len : ∀ (ks : List Fk) (s : ByteArray) (e : Int), (readL ks s e).1.length = ks.length
  | [], _, _ => rfl
  | k :: ks, s, e => by
    show ((readF k s e).1 :: (readL ks _ _).1).length = _
    rw [List.length_cons, readL_len ks, List.length_cons]
theorem rest_le (s : ByteArray) (n : Nat) : (restB s n).size ≤ s.size := by rw [rest_size]; omega
theorem readF_size (k : Fk) (s : ByteArray) (e : Int) : (readF k s e).2.1.size ≤ s.size := by
  cases k with
  | num k =>
    show (rNum s e k).2.1.size ≤ _
    unfold rNum
    split
    · exact Nat.le_refl _
    split
    · exact Nat.le_refl _
    split
    · exact Nat.le_refl _
    split
    · exact Nat.le_refl _
    · exact rest_le _ _
  | text =>
    show (rText s e 255).2.1.size ≤ _
    unfold rText
    split
    · exact Nat.le_refl _
    split
    · exact Nat.le_refl _
    split
    · exact Nat.le_refl _
    split
    · exact Nat.le_refl _
    split
    · exact Nat.le_refl _
    · exact rest_le _ _
  | raw k =>
    show (rRaw s e k).2.1.size ≤ _
    unfold rRaw
    split
    · exact Nat.le_refl _
    split
    · exact Nat.le_refl _
    split
    · exact Nat.le_refl _
    · exact rest_le _ _
theorem readL_size : ∀ (ks : List Fk) (s : ByteArray) (e : Int), (readL ks s e).2.1.size ≤ s.size
  | [], _, _ => Nat.le_refl _
  | k :: ks, s, e => by
    have h1 := readL_size ks (readF k s e).2.1 (readF k s e).2.2
    have h2 := readF_size k s e
    show (readL ks (readF k s e).2.1 (readF k s e).2.2).2.1.size ≤ _
    omega
theorem set_next (A B : List Value) (v : Value) (k : Nat) (hA : A.length = k) (hk : k < B.length) : (A ++ B.drop k).set k v = A ++ [v] ++ B.drop (k + 1) := by
  subst hA
  rw [List.set_append_right _ _ (Nat.le_refl _), Nat.sub_self, List.drop_eq_getElem_cons hk, List.append_assoc]
  rfl
theorem Laid0.skip {E : World} {A B : Hp} {L : List Hp} (h : Laid0 E (A :: L)) : Laid0 E (A :: B :: L) := fun w hw => h w hw.f1.drop
section
variable {E : World} {S : Ph} {L : List Hp}
set_option maxRecDepth 100000 in
set_option maxHeartbeats 2000000 in
theorem read_any (A : Option Addr) (n c : Nat) (xs : List (Fk × Addr)) (s : ByteArray) (R : List Value → Hp) (vs : List Value) (w : World) (hn : n ≤ 100) (hs : s.size ≤ 1000000000000000) (hp : Places E R (xs.map (·.2))) (hvl : vs.length = n) (hr : Rds S 8 enF A n xs) (hG : Laid0 E (Hp.ro S :: L)) (h : Own E w (R vs :: Hp.ro S :: L)) :
    Calls Tryz.prog 67 #[.slice A n c, .string s] w fun e w' => e = .returned (.bool (readV (xs.map (·.1)) s).2) ∧ Own E w' (R ((readV (xs.map (·.1)) s).1.map Fv.val) :: Hp.ro S :: L) := by
  have e1 : ∀ args w, (callFunc 121 args).run Tryz.prog w = .ok (.enter 121 args) w := enters_f Tryz.func121 (by kernel_rfl) rfl
  have e2 : ∀ args w, (callFunc 133 args).run Tryz.prog w = .ok (.enter 133 args) w := enters_f Tryz.func133 (by kernel_rfl) rfl
  have e3 : ∀ args w, (callFunc 131 args).run Tryz.prog w = .ok (.enter 131 args) w := enters_f Tryz.func131 (by kernel_rfl) rfl
  have HG := Lib.hid hG
  have hln := hr.1
  have HP := Lib.hid hp
  have HS := Lib.hid hs
  clear hG hp hs
  go_enter Tryz.func67, Tryz.ntmps67
  go_wp2_with fail
  refine (newreader_any s _ h).mono ?_
  rintro e w1 ⟨b, rfl, h⟩
  have H1 := Lib.hid h.toRdr0
  clear h
  go_wp2_with fail
  go_loopw [12] (fun i wr => ∃ k : Nat, k ≤ n ∧ i = .int .i64 k ∧ Own E wr (Hp.rdr b (readL ((xs.take k).map (·.1)) s 0).2.1 (readL ((xs.take k).map (·.1)) s 0).2.2 :: R ((readL ((xs.take k).map (·.1)) s 0).1.map Fv.val ++ vs.drop k) :: Hp.ro S :: L)) (fun i _ => n - (intOf i).toNat)
  case atStart => exact ⟨0, by omega, rfl, H1.out⟩
  case round =>
    obtain ⟨k, hk, rfl, hw⟩ := hrel
    clear H1
    by_cases hlt : k < n
    · obtain ⟨x, b0, off, hxk, rfl, hc⟩ := hr.get hlt
      have hsn : (xs.take (k + 1)).map (·.1) = (xs.take k).map (·.1) ++ [x.1] := by rw [List.take_add_one, hxk]; simp
      have hsz : (readL ((xs.take k).map (·.1)) s 0).2.1.size ≤ 1000000000000000 := Nat.le_trans (readL_size _ _ _) HS.out
      have hal : ((readL ((xs.take k).map (·.1)) s 0).1.map Fv.val).length = k := by rw [List.length_map, readL_len, List.length_map, List.length_take]; omega
      have had : (xs.map (·.2))[k]? = some x.2 := by rw [List.getElem?_map, hxk]; rfl
      have hrel2 : ∀ w', Own E w' (Hp.rdr b (readF x.1 (readL ((xs.take k).map (·.1)) s 0).2.1 (readL ((xs.take k).map (·.1)) s 0).2.2).2.1 (readF x.1 (readL ((xs.take k).map (·.1)) s 0).2.1 (readL ((xs.take k).map (·.1)) s 0).2.2).2.2 :: R ((readL ((xs.take k).map (·.1)) s 0).1.map Fv.val ++ [(readF x.1 (readL ((xs.take k).map (·.1)) s 0).2.1 (readL ((xs.take k).map (·.1)) s 0).2.2).1.val] ++ vs.drop (k + 1)) :: Hp.ro S :: L) → Own E w' (Hp.rdr b (readL ((xs.take (k + 1)).map (·.1)) s 0).2.1 (readL ((xs.take (k + 1)).map (·.1)) s 0).2.2 :: R ((readL ((xs.take (k + 1)).map (·.1)) s 0).1.map Fv.val ++ vs.drop (k + 1)) :: Hp.ro S :: L) := fun w' hw' => by
        rw [hsn, readL_snoc, List.map_append]; exact hw'
      have hset : ∀ w' v M, Own E w' (R ((readL ((xs.take k).map (·.1)) s 0).1.map Fv.val ++ vs.drop k) :: M) → (∃ old, w'.cell? x.2 = some old) ∧ w'.frozen? x.2 = false ∧ Own E (w'.setCell x.2 v) (R ((readL ((xs.take k).map (·.1)) s 0).1.map Fv.val ++ [v] ++ vs.drop (k + 1)) :: M) := fun w' v M hw' => by
        have h1 := HP.out.set w' _ k x.2 v M (by rw [List.length_append, hal, List.length_drop, List.length_map]; omega) had hw'
        rw [set_next _ vs v k hal (by omega)] at h1
        exact h1
      have HR := Lib.hid hrel2
      have HSET := Lib.hid hset
      generalize readL ((xs.take k).map (·.1)) s 0 = st at *
      obtain ⟨sv, sr, se⟩ := st
      clear hsn hrel2 hset hxk hal had
      dsimp only at *
      obtain ⟨kd, ad⟩ := x
      have hcs : wr.rangeAt b0 (off + k * 8) (enF (kd, ad)) := fun j u hu => hw.f2.rd (hc j u hu)
      have hkn : (k : Int) < n := by omega
      cases kd with
      | num z =>
        have c0 : wr.cell? ⟨b0, off + k * 8, none⟩ = some (.int .i64 z) := hcs 0 _ rfl
        have c1 : wr.cell? ⟨b0, off + k * 8 + 1, none⟩ = some (.pointer (some ad)) := hcs 1 _ rfl
        have c2 : wr.cell? ⟨b0, off + k * 8 + 2, none⟩ = some (.pointer none) := hcs 2 _ rfl
        have c3 : wr.cell? ⟨b0, off + k * 8 + 3, none⟩ = some (fnV 120) := hcs 3 _ rfl
        have c4 : wr.cell? ⟨b0, off + k * 8 + 4, none⟩ = some (fnV 121) := hcs 4 _ rfl
        have c5 : wr.cell? ⟨b0, off + k * 8 + 5, none⟩ = some (.nilFunc) := hcs 5 _ rfl
        have c6 : wr.cell? ⟨b0, off + k * 8 + 6, none⟩ = some (.nilFunc) := hcs 6 _ rfl
        have c7 : wr.cell? ⟨b0, off + k * 8 + 7, none⟩ = some (.bool false) := hcs 7 _ rfl
        have h2 : Own E _ (Hp.blk wr.heap.size FT [.int .i64 0, .pointer none, .pointer none, .nilFunc, .nilFunc, .nilFunc, .nilFunc, .bool false].toArray :: _) := hw.alloc _
        have H2 := Lib.hid h2
        have hcell : ∀ w' g v0 v1 v2 v3 v4 v5 v6 v7, (∃ M, Own E w' (Hp.blk g FT #[v0, v1, v2, v3, v4, v5, v6, v7] :: M)) → w'.cell? ⟨g, 0, none⟩ = some v0 ∧ w'.cell? ⟨g, 1, none⟩ = some v1 ∧ w'.cell? ⟨g, 2, none⟩ = some v2 ∧ w'.cell? ⟨g, 4, none⟩ = some v4 ∧ w'.cell? ⟨g, 6, none⟩ = some v6 := fun w' g v0 v1 v2 v3 v4 v5 v6 v7 hw => by
          obtain ⟨_, hw⟩ := hw
          exact ⟨hw.cell 0, hw.cell 1, hw.cell 2, hw.cell 4, hw.cell 6⟩
        have HC := Lib.hid hcell
        clear h2 hcs hc hw hcell
        obtain ⟨v, s', e', hrr⟩ : ∃ v s' e', rNum sr se z = (v, s', e') := ⟨(rNum sr se z).1, (rNum sr se z).2.1, (rNum sr se z).2.2, rfl⟩
        have hrf : readF (.num z) sr se = (Fv.n v, s', e') := by
          show (Fv.n (rNum sr se z).1, (rNum sr se z).2) = _
          rw [hrr]
        have HR2 := HR.out
        rw [hrf] at HR2
        have HR := Lib.hid HR2
        have HRR := Lib.hid hrr
        clear HR2 hrr hrf
        go_upto_region 6 with (with_reducible refine at_slot (k := none) ?_; refine wpList_store_whole (o := ⟨none, _, _, _, _, _⟩) (cs := [.int .i64 0, .pointer none, .pointer none, .nilFunc, .nilFunc, .nilFunc, .nilFunc, .bool false]) (vs := enF (.num z, ad)) H2.out rfl (enF_one (.num z, ad)) (by kernel_rfl) rfl rfl rfl rfl ?_; intro w7 h; obtain ⟨y0, y1, y2, y4, y6⟩ := HC.out _ _ (.int .i64 z) (.pointer (some ad)) (.pointer none) (fnV 120) (fnV 121) (.nilFunc) (.nilFunc) (.bool false) ⟨_, h⟩; have H7 := Lib.hid h; clear h)
        generalize wr.heap.size = g at H7 ⊢
        clear c0 c1 c2 c3 c4 c5 c6 c7 y0 y1 y2 y4 y6 H2
        have h := H7.out.drew
        clear H7
        refine wp_region_text [1, 3, 6] (fun w' => w'.cell? ⟨g, 1, none⟩ = some (.pointer (some ad)) ∧ w'.cell? ⟨g, 4, none⟩ = some (fnV 121) ∧ w'.cell? ⟨g, 0, none⟩ = some (.int .i64 z)) (by kernel_rfl) ?_ (fun hS => ?_)
        · exact ⟨(HC.out _ _ (.int .i64 z) (.pointer (some ad)) (.pointer none) (fnV 120) (fnV 121) (.nilFunc) (.nilFunc) (.bool false) ⟨_, h⟩).2.1, (HC.out _ _ (.int .i64 z) (.pointer (some ad)) (.pointer none) (fnV 120) (fnV 121) (.nilFunc) (.nilFunc) (.bool false) ⟨_, h⟩).2.2.2.1, (HC.out _ _ (.int .i64 z) (.pointer (some ad)) (.pointer none) (fnV 120) (fnV 121) (.nilFunc) (.nilFunc) (.bool false) ⟨_, h⟩).1⟩
        refine gp 0 (some 19) ?_
        refine gl 1 (some 20) ?_
        refine gp 2 (some 21) ?_
        refine gl 3 (some 22) ?_
        refine gp 4 (some 23) ?_
        refine gp 5 (some 24) ?_
        refine gl 6 (some 25) ?_
        refine gk 7 (some 26) (fun K hK => ?_)
        rw [if_pos (by rfl)]
        go_simp
        refine (rnum_all b sr se z v s' e' _ HRR.out h.f1).mono ?_
        rintro e w5 ⟨rfl, h⟩
        refine hK.out _ _ ?_ (fun hS => ?_)
        · exact ⟨(HC.out _ _ (.int .i64 z) (.pointer (some ad)) (.pointer none) (fnV 120) (fnV 121) (.nilFunc) (.nilFunc) (.bool false) ⟨_, h.f1⟩).2.1, (HC.out _ _ (.int .i64 z) (.pointer (some ad)) (.pointer none) (fnV 120) (fnV 121) (.nilFunc) (.nilFunc) (.bool false) ⟨_, h.f1⟩).2.2.2.1, (HC.out _ _ (.int .i64 z) (.pointer (some ad)) (.pointer none) (fnV 120) (fnV 121) (.nilFunc) (.nilFunc) (.bool false) ⟨_, h.f1⟩).1⟩
        clear hK K
        try simp only [Act.put, List.setIfInBounds_toArray, List.set_cons_zero, List.set_cons_succ]
        refine gp 8 (some 27) ?_
        refine wpAnyG_break (i := 9) (oi := ⟨none, _, _, _, _, _⟩) (by kernel_rfl) rfl (by kernel_rfl) (fun K hK => ?_)
        rw [if_pos (by rfl)]
        obtain ⟨⟨old, ho⟩, hfz, h⟩ := HSET.out _ (.int .i64 v) _ h.f2
        go_simp
        refine hK.out _ _ ?_
        clear hK K
        try simp only [Act.put]
        refine wpAnyG_done (by kernel_rfl) ?_ _
        refine NoPanic.normal ?_
        have HN := Lib.hid (HR.out _ (h.f1.f2.drop))
        clear h ho hfz
        go_wp2_with fail
        go_roundw
        case rel => exact ⟨k + 1, by omega, by go_num, HN.out⟩
        case measure => simp [intOf]; omega
      | text =>
        have c0 : wr.cell? ⟨b0, off + k * 8, none⟩ = some (.int .i64 255) := hcs 0 _ rfl
        have c1 : wr.cell? ⟨b0, off + k * 8 + 1, none⟩ = some (.pointer none) := hcs 1 _ rfl
        have c2 : wr.cell? ⟨b0, off + k * 8 + 2, none⟩ = some (.pointer (some ad)) := hcs 2 _ rfl
        have c3 : wr.cell? ⟨b0, off + k * 8 + 3, none⟩ = some (.nilFunc) := hcs 3 _ rfl
        have c4 : wr.cell? ⟨b0, off + k * 8 + 4, none⟩ = some (.nilFunc) := hcs 4 _ rfl
        have c5 : wr.cell? ⟨b0, off + k * 8 + 5, none⟩ = some (fnV 132) := hcs 5 _ rfl
        have c6 : wr.cell? ⟨b0, off + k * 8 + 6, none⟩ = some (fnV 133) := hcs 6 _ rfl
        have c7 : wr.cell? ⟨b0, off + k * 8 + 7, none⟩ = some (.bool false) := hcs 7 _ rfl
        have h2 : Own E _ (Hp.blk wr.heap.size FT [.int .i64 0, .pointer none, .pointer none, .nilFunc, .nilFunc, .nilFunc, .nilFunc, .bool false].toArray :: _) := hw.alloc _
        have H2 := Lib.hid h2
        have hcell : ∀ w' g v0 v1 v2 v3 v4 v5 v6 v7, (∃ M, Own E w' (Hp.blk g FT #[v0, v1, v2, v3, v4, v5, v6, v7] :: M)) → w'.cell? ⟨g, 0, none⟩ = some v0 ∧ w'.cell? ⟨g, 1, none⟩ = some v1 ∧ w'.cell? ⟨g, 2, none⟩ = some v2 ∧ w'.cell? ⟨g, 4, none⟩ = some v4 ∧ w'.cell? ⟨g, 6, none⟩ = some v6 := fun w' g v0 v1 v2 v3 v4 v5 v6 v7 hw => by
          obtain ⟨_, hw⟩ := hw
          exact ⟨hw.cell 0, hw.cell 1, hw.cell 2, hw.cell 4, hw.cell 6⟩
        have HC := Lib.hid hcell
        clear h2 hcs hc hw hcell
        obtain ⟨v, s', e', hrr⟩ : ∃ v s' e', rText sr se 255 = (v, s', e') := ⟨(rText sr se 255).1, (rText sr se 255).2.1, (rText sr se 255).2.2, rfl⟩
        have hrf : readF (.text) sr se = (Fv.s v, s', e') := by
          show (Fv.s (rText sr se 255).1, (rText sr se 255).2) = _
          rw [hrr]
        have HR2 := HR.out
        rw [hrf] at HR2
        have HR := Lib.hid HR2
        have HRR := Lib.hid hrr
        clear HR2 hrr hrf
        go_upto_region 7 with (with_reducible refine at_slot (k := none) ?_; refine wpList_store_whole (o := ⟨none, _, _, _, _, _⟩) (cs := [.int .i64 0, .pointer none, .pointer none, .nilFunc, .nilFunc, .nilFunc, .nilFunc, .bool false]) (vs := enF (.text, ad)) H2.out rfl (enF_one (.text, ad)) (by kernel_rfl) rfl rfl rfl rfl ?_; intro w7 h; obtain ⟨y0, y1, y2, y4, y6⟩ := HC.out _ _ (.int .i64 255) (.pointer none) (.pointer (some ad)) (.nilFunc) (.nilFunc) (fnV 132) (fnV 133) (.bool false) ⟨_, h⟩; have H7 := Lib.hid h; clear h)
        generalize wr.heap.size = g at H7 ⊢
        clear c0 c1 c2 c3 c4 c5 c6 c7 y0 y1 y2 y4 y6 H2
        have h := H7.out.drew
        clear H7
        refine wp_region_text [1, 3, 6] (fun w' => w'.cell? ⟨g, 2, none⟩ = some (.pointer (some ad)) ∧ w'.cell? ⟨g, 6, none⟩ = some (fnV 133) ∧ w'.cell? ⟨g, 0, none⟩ = some (.int .i64 255)) (by kernel_rfl) ?_ (fun hS => ?_)
        · exact ⟨(HC.out _ _ (.int .i64 255) (.pointer none) (.pointer (some ad)) (.nilFunc) (.nilFunc) (fnV 132) (fnV 133) (.bool false) ⟨_, h⟩).2.2.1, (HC.out _ _ (.int .i64 255) (.pointer none) (.pointer (some ad)) (.nilFunc) (.nilFunc) (fnV 132) (fnV 133) (.bool false) ⟨_, h⟩).2.2.2.2, (HC.out _ _ (.int .i64 255) (.pointer none) (.pointer (some ad)) (.nilFunc) (.nilFunc) (fnV 132) (fnV 133) (.bool false) ⟨_, h⟩).1⟩
        refine gp 0 (some 28) ?_
        refine gl 1 (some 29) ?_
        refine gp 2 (some 30) ?_
        refine gl 3 (some 31) ?_
        refine gp 4 (some 32) ?_
        refine gp 5 (some 33) ?_
        refine gl 6 (some 34) ?_
        refine gk 7 (some 35) (fun K hK => ?_)
        rw [if_pos (by rfl)]
        go_simp
        refine (rtext_all b sr se 255 v s' e' _ HRR.out hsz h.f1).mono ?_
        rintro e w5 ⟨rfl, h⟩
        refine hK.out _ _ ?_ (fun hS => ?_)
        · exact ⟨(HC.out _ _ (.int .i64 255) (.pointer none) (.pointer (some ad)) (.nilFunc) (.nilFunc) (fnV 132) (fnV 133) (.bool false) ⟨_, h.f1⟩).2.2.1, (HC.out _ _ (.int .i64 255) (.pointer none) (.pointer (some ad)) (.nilFunc) (.nilFunc) (fnV 132) (fnV 133) (.bool false) ⟨_, h.f1⟩).2.2.2.2, (HC.out _ _ (.int .i64 255) (.pointer none) (.pointer (some ad)) (.nilFunc) (.nilFunc) (fnV 132) (fnV 133) (.bool false) ⟨_, h.f1⟩).1⟩
        clear hK K
        try simp only [Act.put, List.setIfInBounds_toArray, List.set_cons_zero, List.set_cons_succ]
        refine gp 8 (some 36) ?_
        refine wpAnyG_break (i := 9) (oi := ⟨none, _, _, _, _, _⟩) (by kernel_rfl) rfl (by kernel_rfl) (fun K hK => ?_)
        rw [if_pos (by rfl)]
        obtain ⟨⟨old, ho⟩, hfz, h⟩ := HSET.out _ (.string v) _ h.f2
        go_simp
        refine hK.out _ _ ?_
        clear hK K
        try simp only [Act.put]
        refine wpAnyG_done (by kernel_rfl) ?_ _
        refine NoPanic.normal ?_
        have HN := Lib.hid (HR.out _ (h.f1.f2.drop))
        clear h ho hfz
        go_wp2_with fail
        go_roundw
        case rel => exact ⟨k + 1, by omega, by go_num, HN.out⟩
        case measure => simp [intOf]; omega
      | raw z =>
        have c0 : wr.cell? ⟨b0, off + k * 8, none⟩ = some (.int .i64 z) := hcs 0 _ rfl
        have c1 : wr.cell? ⟨b0, off + k * 8 + 1, none⟩ = some (.pointer none) := hcs 1 _ rfl
        have c2 : wr.cell? ⟨b0, off + k * 8 + 2, none⟩ = some (.pointer (some ad)) := hcs 2 _ rfl
        have c3 : wr.cell? ⟨b0, off + k * 8 + 3, none⟩ = some (.nilFunc) := hcs 3 _ rfl
        have c4 : wr.cell? ⟨b0, off + k * 8 + 4, none⟩ = some (.nilFunc) := hcs 4 _ rfl
        have c5 : wr.cell? ⟨b0, off + k * 8 + 5, none⟩ = some (.nilFunc) := hcs 5 _ rfl
        have c6 : wr.cell? ⟨b0, off + k * 8 + 6, none⟩ = some (fnV 131) := hcs 6 _ rfl
        have c7 : wr.cell? ⟨b0, off + k * 8 + 7, none⟩ = some (.bool true) := hcs 7 _ rfl
        have h2 : Own E _ (Hp.blk wr.heap.size FT [.int .i64 0, .pointer none, .pointer none, .nilFunc, .nilFunc, .nilFunc, .nilFunc, .bool false].toArray :: _) := hw.alloc _
        have H2 := Lib.hid h2
        have hcell : ∀ w' g v0 v1 v2 v3 v4 v5 v6 v7, (∃ M, Own E w' (Hp.blk g FT #[v0, v1, v2, v3, v4, v5, v6, v7] :: M)) → w'.cell? ⟨g, 0, none⟩ = some v0 ∧ w'.cell? ⟨g, 1, none⟩ = some v1 ∧ w'.cell? ⟨g, 2, none⟩ = some v2 ∧ w'.cell? ⟨g, 4, none⟩ = some v4 ∧ w'.cell? ⟨g, 6, none⟩ = some v6 := fun w' g v0 v1 v2 v3 v4 v5 v6 v7 hw => by
          obtain ⟨_, hw⟩ := hw
          exact ⟨hw.cell 0, hw.cell 1, hw.cell 2, hw.cell 4, hw.cell 6⟩
        have HC := Lib.hid hcell
        clear h2 hcs hc hw hcell
        obtain ⟨v, s', e', hrr⟩ : ∃ v s' e', rRaw sr se z = (v, s', e') := ⟨(rRaw sr se z).1, (rRaw sr se z).2.1, (rRaw sr se z).2.2, rfl⟩
        have hrf : readF (.raw z) sr se = (Fv.s v, s', e') := by
          show (Fv.s (rRaw sr se z).1, (rRaw sr se z).2) = _
          rw [hrr]
        have HR2 := HR.out
        rw [hrf] at HR2
        have HR := Lib.hid HR2
        have HRR := Lib.hid hrr
        clear HR2 hrr hrf
        go_upto_region 7 with (with_reducible refine at_slot (k := none) ?_; refine wpList_store_whole (o := ⟨none, _, _, _, _, _⟩) (cs := [.int .i64 0, .pointer none, .pointer none, .nilFunc, .nilFunc, .nilFunc, .nilFunc, .bool false]) (vs := enF (.raw z, ad)) H2.out rfl (enF_one (.raw z, ad)) (by kernel_rfl) rfl rfl rfl rfl ?_; intro w7 h; obtain ⟨y0, y1, y2, y4, y6⟩ := HC.out _ _ (.int .i64 z) (.pointer none) (.pointer (some ad)) (.nilFunc) (.nilFunc) (.nilFunc) (fnV 131) (.bool true) ⟨_, h⟩; have H7 := Lib.hid h; clear h)
        generalize wr.heap.size = g at H7 ⊢
        clear c0 c1 c2 c3 c4 c5 c6 c7 y0 y1 y2 y4 y6 H2
        have h := H7.out.drew
        clear H7
        refine wp_region_text [1, 3, 6] (fun w' => w'.cell? ⟨g, 2, none⟩ = some (.pointer (some ad)) ∧ w'.cell? ⟨g, 6, none⟩ = some (fnV 131) ∧ w'.cell? ⟨g, 0, none⟩ = some (.int .i64 z)) (by kernel_rfl) ?_ (fun hS => ?_)
        · exact ⟨(HC.out _ _ (.int .i64 z) (.pointer none) (.pointer (some ad)) (.nilFunc) (.nilFunc) (.nilFunc) (fnV 131) (.bool true) ⟨_, h⟩).2.2.1, (HC.out _ _ (.int .i64 z) (.pointer none) (.pointer (some ad)) (.nilFunc) (.nilFunc) (.nilFunc) (fnV 131) (.bool true) ⟨_, h⟩).2.2.2.2, (HC.out _ _ (.int .i64 z) (.pointer none) (.pointer (some ad)) (.nilFunc) (.nilFunc) (.nilFunc) (fnV 131) (.bool true) ⟨_, h⟩).1⟩
        refine gp 0 (some 28) ?_
        refine gl 1 (some 29) ?_
        refine gp 2 (some 30) ?_
        refine gl 3 (some 31) ?_
        refine gp 4 (some 32) ?_
        refine gp 5 (some 33) ?_
        refine gl 6 (some 34) ?_
        refine gk 7 (some 35) (fun K hK => ?_)
        rw [if_pos (by rfl)]
        go_simp
        refine (rraw_all b sr se z v s' e' _ HRR.out h.f1).mono ?_
        rintro e w5 ⟨rfl, h⟩
        refine hK.out _ _ ?_ (fun hS => ?_)
        · exact ⟨(HC.out _ _ (.int .i64 z) (.pointer none) (.pointer (some ad)) (.nilFunc) (.nilFunc) (.nilFunc) (fnV 131) (.bool true) ⟨_, h.f1⟩).2.2.1, (HC.out _ _ (.int .i64 z) (.pointer none) (.pointer (some ad)) (.nilFunc) (.nilFunc) (.nilFunc) (fnV 131) (.bool true) ⟨_, h.f1⟩).2.2.2.2, (HC.out _ _ (.int .i64 z) (.pointer none) (.pointer (some ad)) (.nilFunc) (.nilFunc) (.nilFunc) (fnV 131) (.bool true) ⟨_, h.f1⟩).1⟩
        clear hK K
        try simp only [Act.put, List.setIfInBounds_toArray, List.set_cons_zero, List.set_cons_succ]
        refine gp 8 (some 36) ?_
        refine wpAnyG_break (i := 9) (oi := ⟨none, _, _, _, _, _⟩) (by kernel_rfl) rfl (by kernel_rfl) (fun K hK => ?_)
        rw [if_pos (by rfl)]
        obtain ⟨⟨old, ho⟩, hfz, h⟩ := HSET.out _ (.string v) _ h.f2
        go_simp
        refine hK.out _ _ ?_
        clear hK K
        try simp only [Act.put]
        refine wpAnyG_done (by kernel_rfl) ?_ _
        refine NoPanic.normal ?_
        have HN := Lib.hid (HR.out _ (h.f1.f2.drop))
        clear h ho hfz
        go_wp2_with fail
        go_roundw
        case rel => exact ⟨k + 1, by omega, by go_num, HN.out⟩
        case measure => simp [intOf]; omega
    · obtain rfl : k = n := by omega
      have hall : xs.take k = xs := List.take_of_length_le (by omega)
      have hdr : vs.drop k = [] := List.drop_of_length_le (by omega)
      rw [hall, hdr, List.append_nil] at hw
      obtain ⟨rd, hrd⟩ : ∃ rd, rd = rDone (readL (xs.map (·.1)) s 0).2.1 (readL (xs.map (·.1)) s 0).2.2 := ⟨_, rfl⟩
      have HRD := Lib.hid hrd
      have HW := Lib.hid hw
      clear hw hall hdr hrd
      go_wp2_with fail
      refine (rdone_all b _ _ _ HG.out.cons HW.out).mono ?_
      rintro e w6 ⟨rfl, h⟩
      rw [← HRD.out]
      have H6 := Lib.hid h.drop
      clear h HW
      have hbb : (readV (xs.map (·.1)) s).2 = decide (rd = 0) := by rw [HRD.out]; rfl
      have HB := Lib.hid hbb
      clear hbb
      go_wp2_with fail
      go_ret
      refine ⟨?_, H6.out⟩
      rw [HB.out]
      by_cases hz : rd = 0
      · subst hz; rfl
      · have e9 : (rd == 0) = false := by rw [beq_eq_false_iff_ne]; exact hz
        simp [hz]
end
end Go.Proofs.YtabibfabieghpaaGreatDoor
