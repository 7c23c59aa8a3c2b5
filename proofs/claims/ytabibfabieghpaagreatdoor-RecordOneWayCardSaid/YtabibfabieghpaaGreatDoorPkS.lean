/- What is read in full is laid down as it was read (the inverse of readV_printed). record.member, record.ParseIndex, of any pair: an entry that is right is read as that, every other pair is refused (printed by gen_idx3.py). What is read of a pair is printed as it: every kind of record in one form. latchkeylaw14.RecordOneWay (printed by gen_oneway.py). -/
import Derived.Test.YtabibfabieghpaaGreatDoorRead
import Derived.Test.YtabibfabieghpaaGreatDoorPkR
import Derived.Test.YtabibfabieghpaaGreatDoorPkQ
import Derived.Test.YtabibfabieghpaaGreatDoorPkO
import Derived.Deep.Cut
namespace Go.Proofs.YtabibfabieghpaaGreatDoor
open Go.RowKit
theorem iv_mod (k a b : Nat) : byN k (a * 256 ^ k + b) = byN k b := by
  induction k generalizing a with
  | zero => rfl
  | succ k ih =>
    show UInt8.ofNat ((a * 256 ^ (k + 1) + b) / 256 ^ k) :: byN k (a * 256 ^ (k + 1) + b) = UInt8.ofNat (b / 256 ^ k) :: byN k b
    have e : a * 256 ^ (k + 1) + b = (a * 256) * 256 ^ k + b := by rw [Nat.pow_succ, Nat.mul_comm (256 ^ k) 256, Nat.mul_assoc]
    rw [e, ih]
    congr 1
    have h2 : ((a * 256) * 256 ^ k + b) / 256 ^ k = a * 256 + b / 256 ^ k := by
      rw [Nat.mul_comm (a * 256), Nat.mul_add_div (Nat.pow_pos (by omega))]
    rw [h2]
    refine UInt8.toNat_inj.1 ?_
    rw [UInt8.toNat_ofNat', UInt8.toNat_ofNat']
    omega
theorem iv_num (l : List UInt8) : byN l.length (numL l) = l := by
  induction l with
  | nil => rfl
  | cons c m ih =>
    rw [numL_cons]
    show UInt8.ofNat ((c.toNat * 256 ^ m.length + numL m) / 256 ^ m.length) :: byN m.length (c.toNat * 256 ^ m.length + numL m) = c :: m
    rw [iv_mod, ih, Nat.mul_comm, Nat.mul_add_div (Nat.pow_pos (by omega)), Nat.div_eq_of_lt (numL_lt m), Nat.add_zero]
    congr 1
    exact UInt8.ofNat_toNat
def okK : Fk → Prop
  | .num k => 1 ≤ k ∧ k ≤ 8
  | _ => True
theorem readF_wrong (k : Fk) (s : ByteArray) (e : Int) (he : e ≠ 0) : (readF k s e).2.2 = e := by
  cases k with
  | num k => show (rNum s e k).2.2 = e; unfold rNum; rw [if_pos he]
  | text => show (rText s e 255).2.2 = e; unfold rText; rw [if_pos he]
  | raw k => show (rRaw s e k).2.2 = e; unfold rRaw; rw [if_pos he]
theorem readL_wrong : ∀ (ks : List Fk) (s : ByteArray) (e : Int), e ≠ 0 → (readL ks s e).2.2 = e
  | [], _, _, _ => rfl
  | k :: ks, s, e, he => by
    show (readL ks (readF k s e).2.1 (readF k s e).2.2).2.2 = e
    rw [readF_wrong k s e he, readL_wrong ks _ e he]
theorem readF_inv (k : Fk) (hk : okK k) (s : ByteArray) (h : (readF k s 0).2.2 = 0) : s.data.toList = bytesF (k, (readF k s 0).1) ++ (readF k s 0).2.1.data.toList ∧ fits1 (k, (readF k s 0).1) := by
  have hl : s.data.toList.length = s.size := rfl
  cases k with
  | num k =>
    obtain ⟨h1, h8⟩ : 1 ≤ k ∧ k ≤ 8 := hk
    have h : (rNum s 0 k).2.2 = 0 := h
    unfold rNum at h
    rw [if_neg (by omega), if_neg (by omega)] at h
    by_cases hs : (s.size : Int) < k
    · rw [if_pos hs] at h; cases h
    rw [if_neg hs] at h
    by_cases hb : 9223372036854775808 ≤ numL (s.data.toList.take ((k : Int)).toNat)
    · rw [if_pos hb] at h; cases h
    have e : readF (.num k) s 0 = (.n ((numL (s.data.toList.take k) : Nat)), restB s k, 0) := by
      show ((.n (rNum s 0 k).1, (rNum s 0 k).2) : Fv × ByteArray × Int) = _
      unfold rNum
      rw [if_neg (by omega), if_neg (by omega), if_neg hs, if_neg hb]
      rfl
    rw [e]
    have hb : ¬ 9223372036854775808 ≤ numL (s.data.toList.take k) := hb
    have ht : (s.data.toList.take k).length = k := by rw [List.length_take]; omega
    have hn := numL_lt (s.data.toList.take k)
    rw [ht] at hn
    constructor
    · show _ = byN k ((numL (s.data.toList.take k) : Nat) : Int).toNat ++ (restB s k).data.toList
      rw [rest_data, Int.toNat_natCast]
      have e2 := iv_num (s.data.toList.take k)
      rw [ht] at e2
      rw [e2, List.take_append_drop]
    · refine ⟨h1, h8, by omega, ?_, by omega⟩
      have : ((256 : Int) ^ k) = ((256 ^ k : Nat) : Int) := (Int.natCast_pow 256 k).symm
      rw [this]
      omega
  | text =>
    have h : (rText s 0 255).2.2 = 0 := h
    have a1 : ahead (255 : Int).toNat = 1 := rfl
    have a2 : (255 : Int).toNat = 255 := rfl
    unfold rText at h
    rw [if_neg (by omega), if_neg (by omega), a1, a2] at h
    by_cases hs : s.size < 1
    · rw [if_pos hs] at h; cases h
    rw [if_neg hs] at h
    by_cases hb : 255 < numL (s.data.toList.take 1)
    · rw [if_pos hb] at h; cases h
    rw [if_neg hb] at h
    by_cases hc : s.size < 1 + numL (s.data.toList.take 1)
    · rw [if_pos hc] at h; cases h
    obtain ⟨q, hq⟩ : ∃ q, q = numL (s.data.toList.take 1) := ⟨_, rfl⟩
    have e : readF .text s 0 = (.s (restB (frontB s (1 + q)) 1), restB s (1 + q), 0) := by
      show ((.s (rText s 0 255).1, (rText s 0 255).2) : Fv × ByteArray × Int) = _
      unfold rText
      rw [if_neg (by omega), if_neg (by omega), a1, a2, if_neg hs, if_neg hb, if_neg hc, ← hq]
    rw [e]
    rw [← hq] at hb hc
    have ht : (s.data.toList.take 1).length = 1 := by rw [List.length_take]; omega
    have e2 := iv_num (s.data.toList.take 1)
    rw [ht, ← hq] at e2
    have ed : (restB (frontB s (1 + q)) 1).data.toList = (s.data.toList.drop 1).take q := by
      rw [rest_data, front_data, List.drop_take]
      rw [show 1 + q - 1 = q by omega]
    have es : (restB (frontB s (1 + q)) 1).size = q := by
      have : (restB (frontB s (1 + q)) 1).data.toList.length = (restB (frontB s (1 + q)) 1).size := rfl
      rw [← this, ed, List.length_take, List.length_drop]; omega
    constructor
    · show _ = (byN 1 (restB (frontB s (1 + q)) 1).size ++ (restB (frontB s (1 + q)) 1).data.toList) ++ (restB s (1 + q)).data.toList
      rw [es, e2, ed, rest_data, List.append_assoc, ← List.drop_drop, List.take_append_drop, List.take_append_drop]
    · show (restB (frontB s (1 + q)) 1).size ≤ 255
      rw [es]; omega
  | raw k =>
    have h : (rRaw s 0 k).2.2 = 0 := h
    unfold rRaw at h
    rw [if_neg (by omega), if_neg (by omega)] at h
    by_cases hs : (s.size : Int) < k
    · rw [if_pos hs] at h; cases h
    have e : readF (.raw k) s 0 = (.s (frontB s k), restB s k, 0) := by
      show ((.s (rRaw s 0 k).1, (rRaw s 0 k).2) : Fv × ByteArray × Int) = _
      unfold rRaw
      rw [if_neg (by omega), if_neg (by omega), if_neg hs]
      rfl
    rw [e]
    constructor
    · show _ = (frontB s k).data.toList ++ (restB s k).data.toList
      rw [rest_data, front_data, List.take_append_drop]
    · show (frontB s k).size = k
      have : (frontB s k).data.toList.length = (frontB s k).size := rfl
      rw [← this, front_data, List.length_take]; omega
theorem readL_inv : ∀ (ks : List Fk) (s : ByteArray), (∀ k ∈ ks, okK k) → rDone (readL ks s 0).2.1 (readL ks s 0).2.2 = 0 → s.data.toList = (ks.zip (readL ks s 0).1).flatMap bytesF ∧ ∀ f ∈ ks.zip (readL ks s 0).1, fits1 f
  | [], s, _, h => by
    have h : rDone s 0 = 0 := h
    unfold rDone at h
    rw [if_neg (by omega)] at h
    by_cases hs : s.size = 0
    · have hl : s.data.toList.length = s.size := rfl
      exact ⟨List.eq_nil_of_length_eq_zero (by omega), fun f hf => by cases hf⟩
    · rw [if_neg hs] at h; cases h
  | k :: ks, s, hk, h => by
    have h : rDone (readL ks (readF k s 0).2.1 (readF k s 0).2.2).2.1 (readL ks (readF k s 0).2.1 (readF k s 0).2.2).2.2 = 0 := h
    by_cases he : (readF k s 0).2.2 = 0
    · obtain ⟨h1, h2⟩ := readF_inv k (hk k (List.mem_cons_self ..)) s he
      rw [he] at h
      obtain ⟨h3, h4⟩ := readL_inv ks _ (fun x hx => hk x (List.mem_cons_of_mem _ hx)) h
      have e : (readL (k :: ks) s 0).1 = (readF k s 0).1 :: (readL ks (readF k s 0).2.1 0).1 := by
        show (readF k s 0).1 :: (readL ks (readF k s 0).2.1 (readF k s 0).2.2).1 = _
        rw [he]
      rw [e, List.zip_cons_cons]
      constructor
      · rw [List.flatMap_cons, ← h3]; exact h1
      · intro f hf
        rcases List.mem_cons.1 hf with rfl | hf
        · exact h2
        · exact h4 f hf
    · exfalso
      unfold rDone at h
      rw [readL_wrong ks _ _ he, if_pos he] at h
      exact he h
theorem readV_inv {ks : List Fk} {s : ByteArray} {vs : List Fv} (hk : ∀ k ∈ ks, okK k) (h : readV ks s = (vs, true)) : s.data.toList = (ks.zip vs).flatMap bytesF ∧ ∀ f ∈ ks.zip vs, fits1 f := by
  unfold readV at h
  injection h with h1 h2
  have h3 := readL_inv ks s hk (of_decide_eq_true h2)
  rw [h1] at h3
  exact h3
end Go.Proofs.YtabibfabieghpaaGreatDoor
namespace Go.Proofs.YtabibfabieghpaaGreatDoor
open Go.RowKit
theorem iv_two {k1 k2 : Nat} {s : ByteArray} {a b : Int} (h1 : 1 ≤ k1 ∧ k1 ≤ 8) (h2 : 1 ≤ k2 ∧ k2 ≤ 8) (h : readV [.num k1, .num k2] s = ([.n a, .n b], true)) : s = ⟨(byN k1 a.toNat ++ byN k2 b.toNat).toArray⟩ := by
  have h3 := (readV_inv (ks := [.num k1, .num k2]) (fun k hk => by
    simp only [List.mem_cons, List.not_mem_nil, or_false] at hk
    rcases hk with rfl | rfl
    · exact h1
    · exact h2) h).1
  have h4 : s.data.toList = byN k1 a.toNat ++ (byN k2 b.toNat ++ []) := h3
  rw [List.append_nil] at h4
  exact fl_mk _ h4
theorem iv_one {k1 : Nat} {s : ByteArray} {a : Int} (h1 : 1 ≤ k1 ∧ k1 ≤ 8) (h : readV [.num k1] s = ([.n a], true)) : s = ⟨(byN k1 a.toNat).toArray⟩ := by
  have h3 := (readV_inv (ks := [.num k1]) (fun k hk => by
    simp only [List.mem_cons, List.not_mem_nil, or_false] at hk
    rcases hk with rfl
    exact h1) h).1
  have h4 : s.data.toList = byN k1 a.toNat ++ [] := h3
  rw [List.append_nil] at h4
  exact fl_mk _ h4
theorem index_low : ∀ l : List UInt8, -1 ≤ Lib.indexByte l 0
  | [] => by show (-1 : Int) ≤ -1; omega
  | x :: l => by
    have := index_low l
    unfold Lib.indexByte
    split
    · omega
    split
    · omega
    · omega
theorem cut_at : ∀ (l : List UInt8) (i : Nat), Lib.indexByte l 0 = (i : Int) → l = l.take i ++ 0 :: l.drop (i + 1) ∧ (∀ x ∈ l.take i, x ≠ 0) ∧ i < l.length
  | [], i, h => by
    have : (-1 : Int) = i := h
    omega
  | x :: l, i, h => by
    have hlow := index_low l
    unfold Lib.indexByte at h
    by_cases hx : x = 0
    · rw [if_pos (by simp [hx])] at h
      obtain rfl : i = 0 := by omega
      refine ⟨by rw [hx]; rfl, fun y hy => (by cases hy), by rw [List.length_cons]; omega⟩
    · rw [if_neg (by simpa using hx)] at h
      by_cases hn : Lib.indexByte l 0 = -1
      · rw [if_pos (by simp [hn])] at h
        omega
      · rw [if_neg (by simpa using hn)] at h
        obtain ⟨j, hj⟩ : ∃ j : Nat, Lib.indexByte l 0 = j := ⟨(Lib.indexByte l 0).toNat, by omega⟩
        have e : i = j + 1 := by omega
        obtain ⟨h1, h2, h3⟩ := cut_at l j hj
        rw [e]
        refine ⟨?_, fun y hy => ?_, by rw [List.length_cons]; omega⟩
        · show x :: l = x :: (l.take j ++ 0 :: l.drop (j + 1))
          rw [← h1]
        · rcases List.mem_cons.1 (show y ∈ x :: l.take j from hy) with rfl | hy
          · exact hx
          · exact h2 y hy
/-- An entry that is right, and what it tells. -/
def IdxR (k v : ByteArray) (t : ByteArray × Int × Int × ByteArray) : Prop :=
  (∃ a b c : Int, (1 ≤ a ∧ a ≤ 4611686018427387904) ∧ (1 ≤ b ∧ b ≤ 4611686018427387904) ∧ (1 ≤ c ∧ c ≤ 1073741824) ∧ k = ofK b c ∧ v = ofV a ∧ t = (⟨#[109]⟩, c, b, ofV a)) ∨
  (∃ fin id : Int, (0 ≤ fin ∧ fin ≤ 1099511627776) ∧ (1 ≤ id ∧ id ≤ 4611686018427387904) ∧ k = exK fin id ∧ v = noB ∧ t = (⟨#[120]⟩, fin, id, ⟨#[]⟩)) ∨
  (∃ (su : ByteArray) (id : Int), nameB su = true ∧ (1 ≤ id ∧ id ≤ 4611686018427387904) ∧ k = suK su id ∧ v = noB ∧ t = (⟨#[115]⟩, 0, id, su))
section
variable {E : World} {L : List Hp}
theorem idxbad_any (w : World) : Calls Tryz.prog 86 #[] w fun e w' => e = .returned (.tuple #[.string ⟨#[]⟩, .int .i64 0, .int .i64 0, .string ⟨#[]⟩, .int .i64 141]) ∧ w = w' := by
  go_enter Tryz.func86, Tryz.ntmps86
  go_wp2_with fail
  (try simp only [Exit.inBlock, Exit.then])
  refine bodyPost_ret (results_tmp5 rfl _ _ _) rfl ?_
  exact ⟨rfl, rfl⟩
theorem rd2 (bb x y k1 k2 : Nat) (a b : Int) (ok : Bool) (p q : Value) (s : ByteArray) (w : World) (hs : s.size ≤ 1000000000000000) (hr : readV [.num k1, .num k2] s = ([.n a, .n b], ok)) (hG : Laid0 E L)
    (h : Own E w (Hp.blk bb FT (([(.num k1, ⟨x, 0, none⟩), (.num k2, ⟨y, 0, none⟩)] : List (Fk × Addr)).flatMap enF).toArray :: Hp.blk x I64 #[p] :: Hp.blk y I64 #[q] :: L)) :
    Calls Tryz.prog 67 #[.slice (some ⟨bb, 0, none⟩) 2 2, .string s] w fun e w' => e = .returned (.bool ok) ∧ Own E w' (Hp.blk x I64 #[.int .i64 a] :: Hp.blk y I64 #[.int .i64 b] :: L) := by
  have h4 : Own E w (Hp.blk bb FT (([(.num k1, ⟨x, 0, none⟩), (.num k2, ⟨y, 0, none⟩)] : List (Fk × Addr)).flatMap enF).toArray :: two x y [p, q] :: L) := (Own.sep2.2 h.f2.f2).f1
  have hh := read_blk (E := E) bb 2 [(.num k1, ⟨x, 0, none⟩), (.num k2, ⟨y, 0, none⟩)] s (two x y) [p, q] w rfl (by omega) hs (places_two _ _) rfl hG h4
  rw [show ([(.num k1, ⟨x, 0, none⟩), (.num k2, ⟨y, 0, none⟩)] : List (Fk × Addr)).map (·.1) = [.num k1, .num k2] from rfl, hr] at hh
  refine hh.mono ?_
  rintro e w' ⟨rfl, h⟩
  exact ⟨rfl, Own.sep2.1 h⟩
theorem rd1 (bb x k1 : Nat) (a : Int) (ok : Bool) (p : Value) (s : ByteArray) (w : World) (hs : s.size ≤ 1000000000000000) (hr : readV [.num k1] s = ([.n a], ok)) (hG : Laid0 E L)
    (h : Own E w (Hp.blk bb FT (([(.num k1, ⟨x, 0, none⟩)] : List (Fk × Addr)).flatMap enF).toArray :: Hp.blk x I64 #[p] :: L)) :
    Calls Tryz.prog 67 #[.slice (some ⟨bb, 0, none⟩) 1 1, .string s] w fun e w' => e = .returned (.bool ok) ∧ Own E w' (Hp.blk x I64 #[.int .i64 a] :: L) := by
  have hh := read_blk (E := E) bb 1 [(.num k1, ⟨x, 0, none⟩)] s (fun vs => Hp.blk x I64 vs.toArray) [p] w rfl (by omega) hs (places_one x _) rfl hG h
  rw [show ([(.num k1, ⟨x, 0, none⟩)] : List (Fk × Addr)).map (·.1) = [.num k1] from rfl, hr] at hh
  exact hh
set_option maxRecDepth 20000 in
set_option maxHeartbeats 4000000 in
/-- record.member, of what is none. -/
theorem member_no (k v : ByteArray) (w : World) (hk : k.size ≤ 1000000000000000) (hv : v.size ≤ 1000000000000000) (hno : ∀ a b c : Int, (1 ≤ a ∧ a ≤ 4611686018427387904) → (1 ≤ b ∧ b ≤ 4611686018427387904) → (1 ≤ c ∧ c ≤ 1073741824) → k = ⟨(byN 8 b.toNat ++ byN 4 c.toNat).toArray⟩ → v = ofV a → False) (hG : Laid0 E L) (h : Own E w L) :
    Calls Tryz.prog 87 #[.string k, .string v] w fun e w' => ∃ x y : Int, e = .returned (.tuple #[.int .i64 x, .int .i64 y, .bool false]) ∧ Own E w' L := by
  have h1 := h.alloc (.cells #[.int .i64 0] I64)
  have h2 := h1.alloc (.cells #[.int .i64 0] I64)
  have h3 := h2.alloc (.cells #[.int .i64 0] I64)
  rw [alloc_size, alloc_size] at h3
  have H3 := Lib.hid (show Own E _ (Hp.blk w.heap.size I64 #[.int .i64 0] :: Hp.blk (w.heap.size + 1) I64 #[.int .i64 0] :: Hp.blk (w.heap.size + 1 + 1) I64 #[.int .i64 0] :: L) from h3.f1.f2)
  obtain ⟨b, c, ok, r1⟩ : ∃ b c ok, readV [.num 8, .num 4] k = ([.n b, .n c], ok) := ⟨_, _, _, rfl⟩
  obtain ⟨a, ok2, r2⟩ : ∃ a ok2, readV [.num 8] v = ([.n a], ok2) := ⟨_, _, rfl⟩
  have HNO : Hid (ok = true → ok2 = true → (1 ≤ a ∧ a ≤ 4611686018427387904) → (1 ≤ b ∧ b ≤ 4611686018427387904) → (1 ≤ c ∧ c ≤ 1073741824) → False) := Lib.hid fun e1 e2 x1 x2 x3 => by
    rw [e1] at r1
    rw [e2] at r2
    exact hno a b c x1 x2 x3 (iv_two (by omega) (by omega) r1) (iv_one (by omega) r2)
  have KR1 : Hid (∀ (bb : Nat) (w3 : World), Own E w3 (Hp.blk bb FT (([(.num 8, ⟨w.heap.size, 0, none⟩), (.num 4, ⟨(w.heap.size + 1), 0, none⟩)] : List (Fk × Addr)).flatMap enF).toArray :: Hp.blk w.heap.size I64 #[.int .i64 0] :: Hp.blk (w.heap.size + 1) I64 #[.int .i64 0] :: Hp.blk (w.heap.size + 1 + 1) I64 #[.int .i64 0] :: L) → Calls Tryz.prog 67 #[.slice (some ⟨bb, 0, none⟩) 2 2, .string k] w3 fun e w' => e = .returned (.bool ok) ∧ Own E w' (Hp.blk w.heap.size I64 #[.int .i64 b] :: Hp.blk (w.heap.size + 1) I64 #[.int .i64 c] :: Hp.blk (w.heap.size + 1 + 1) I64 #[.int .i64 0] :: L)) := Lib.hid fun bb w3 h3 => rd2 bb _ _ 8 4 b c ok _ _ k w3 hk r1 hG.cons h3
  have KR2 : Hid (∀ (bb : Nat) (w3 : World), Own E w3 (Hp.blk bb FT (([(.num 8, ⟨(w.heap.size + 1 + 1), 0, none⟩)] : List (Fk × Addr)).flatMap enF).toArray :: Hp.blk w.heap.size I64 #[.int .i64 b] :: Hp.blk (w.heap.size + 1) I64 #[.int .i64 c] :: Hp.blk (w.heap.size + 1 + 1) I64 #[.int .i64 0] :: L) → Calls Tryz.prog 67 #[.slice (some ⟨bb, 0, none⟩) 1 1, .string v] w3 fun e w' => e = .returned (.bool ok2) ∧ Own E w' (Hp.blk w.heap.size I64 #[.int .i64 b] :: Hp.blk (w.heap.size + 1) I64 #[.int .i64 c] :: Hp.blk (w.heap.size + 1 + 1) I64 #[.int .i64 a] :: L)) := Lib.hid fun bb w3 h3 => (rd1 bb _ 8 a ok2 _ v w3 hv r2 hG.cons.cons h3.f3.f1).mono fun e w' he => ⟨he.1, he.2.f2.f2⟩
  have K1 := fun (wq : World) (M : List Hp) (h : Own E wq M) => fnum_any (E := E) (L := M) 8 ⟨w.heap.size, 0, none⟩ wq h
  have K2 := fun (wq : World) (M : List Hp) (h : Own E wq M) => fnum_any (E := E) (L := M) 4 ⟨(w.heap.size + 1), 0, none⟩ wq h
  have K3 := fun (wq : World) (M : List Hp) (h : Own E wq M) => fnum_any (E := E) (L := M) 8 ⟨(w.heap.size + 1 + 1), 0, none⟩ wq h
  simp only [enF, show ((8 : Nat) : Int) = 8 from rfl, show ((4 : Nat) : Int) = 4 from rfl] at K1 K2 K3
  have J1 := fun w => isid_any b w
  have J2 := fun w => isgen_any c w
  have J3 := fun w => isid_any a w
  have HC : Hid (∀ (q : Int) w', Own E w' (Hp.blk w.heap.size I64 #[.int .i64 b] :: Hp.blk (w.heap.size + 1) I64 #[.int .i64 c] :: Hp.blk (w.heap.size + 1 + 1) I64 #[.int .i64 q] :: L) → w'.cell? ⟨w.heap.size, 0, none⟩ = some (.int .i64 b) ∧ w'.cell? ⟨(w.heap.size + 1), 0, none⟩ = some (.int .i64 c) ∧ w'.cell? ⟨(w.heap.size + 1 + 1), 0, none⟩ = some (.int .i64 q)) := Lib.hid fun q w' h => ⟨(h.cell 0).trans rfl, (h.f1.cell 0).trans rfl, (h.f2.cell 0).trans rfl⟩
  clear h h1 h2 h3 hG r1 r2 hk hv hno
  cases ok with
  | false =>
    go_enter Tryz.func87, Tryz.ntmps87
    go_wp2_with (first
      | (with_reducible refine (K1 _ _ H3.out).mono ?_; clear H3; rintro e w2 ⟨rfl, h⟩; have H3 := Lib.hid h; clear h)
      | (with_reducible refine (K2 _ _ H3.out).mono ?_; clear H3; rintro e w2 ⟨rfl, h⟩; have H3 := Lib.hid h; clear h)
      | (refine (KR1.out _ _ (H3.out.alloc _)).mono ?_; clear H3 KR1; rintro e w2 ⟨rfl, h⟩; have H3 := Lib.hid h; clear h))
    have h := H3.out.drew
    clear H3
    refine wp_region_text [0, 1] (fun w' => w'.cell? ⟨w.heap.size, 0, none⟩ = some (.int .i64 b) ∧ w'.cell? ⟨(w.heap.size + 1), 0, none⟩ = some (.int .i64 c) ∧ w'.cell? ⟨(w.heap.size + 1 + 1), 0, none⟩ = some (.int .i64 0)) (by kernel_rfl) ?_ (fun hS => ?_)
    · exact HC.out _ _ h
    refine wpAnyG_load (i := 0) (oi := ⟨some 22, _, _, _, _, _⟩) (v := ?_) rfl (by kernel_rfl) (by kernel_rfl) (by kernel_rfl) (by rfl) (fun _ _ _ h => h) (by rfl) ?_ (by assumption) ?_
    rotate_left
    · intro w hS
      try dsimp only at hS
      go_simp
      first | done | with_reducible rfl
    try simp only [Act.put, List.setIfInBounds_toArray, List.set_cons_zero, List.set_cons_succ]
    refine wpAnyG_load (i := 1) (oi := ⟨some 23, _, _, _, _, _⟩) (v := ?_) rfl (by kernel_rfl) (by kernel_rfl) (by kernel_rfl) (by rfl) (fun _ _ _ h => h) (by rfl) ?_ (by assumption) ?_
    rotate_left
    · intro w hS
      try dsimp only at hS
      go_simp
      first | done | with_reducible rfl
    try simp only [Act.put, List.setIfInBounds_toArray, List.set_cons_zero, List.set_cons_succ]
    refine wpAnyG_pure (i := 2) (oi := ⟨some 24, _, _, _, _, _⟩) (v := ?_) rfl (by kernel_rfl) (by kernel_rfl) (by kernel_rfl) (by rfl) (fun _ _ _ h => h) (by rfl) ?_ ?_
    rotate_left
    · intro w
      go_simp
      first | done | with_reducible rfl
    try simp only [Act.put, List.setIfInBounds_toArray, List.set_cons_zero, List.set_cons_succ]
    refine wpAnyG_pure (i := 3) (oi := ⟨some 25, _, _, _, _, _⟩) (v := ?_) rfl (by kernel_rfl) (by kernel_rfl) (by kernel_rfl) (by rfl) (fun _ _ _ h => h) (by rfl) ?_ ?_
    rotate_left
    · intro w
      go_simp
      first | done | with_reducible rfl
    try simp only [Act.put, List.setIfInBounds_toArray, List.set_cons_zero, List.set_cons_succ]
    refine wpAnyG_skip (i := 4) (oi := ⟨some 26, _, _, _, _, _⟩) rfl (by kernel_rfl) (by kernel_rfl) (by kernel_rfl) (by rfl) (fun _ _ _ h => h) (by rfl) ?_
    try simp only [Act.put, List.setIfInBounds_toArray, List.set_cons_zero, List.set_cons_succ]
    refine wpAnyG_skip (i := 5) (oi := ⟨some 27, _, _, _, _, _⟩) rfl (by kernel_rfl) (by kernel_rfl) (by kernel_rfl) (by rfl) (fun _ _ _ h => h) (by rfl) ?_
    try simp only [Act.put, List.setIfInBounds_toArray, List.set_cons_zero, List.set_cons_succ]
    refine wpAnyG_pure (i := 6) (oi := ⟨some 28, _, _, _, _, _⟩) (v := ?_) rfl (by kernel_rfl) (by kernel_rfl) (by kernel_rfl) (by rfl) (fun _ _ _ h => h) (by rfl) ?_ ?_
    rotate_left
    · intro w
      go_simp
      first | done | with_reducible rfl
    try simp only [Act.put, List.setIfInBounds_toArray, List.set_cons_zero, List.set_cons_succ]
    refine wpAnyG_pure (i := 7) (oi := ⟨some 29, _, _, _, _, _⟩) (v := ?_) rfl (by kernel_rfl) (by kernel_rfl) (by kernel_rfl) (by rfl) (fun _ _ _ h => h) (by rfl) ?_ ?_
    rotate_left
    · intro w
      go_simp
      first | done | with_reducible rfl
    try simp only [Act.put, List.setIfInBounds_toArray, List.set_cons_zero, List.set_cons_succ]
    refine wpAnyG_skip (i := 8) (oi := ⟨some 30, _, _, _, _, _⟩) rfl (by kernel_rfl) (by kernel_rfl) (by kernel_rfl) (by rfl) (fun _ _ _ h => h) (by rfl) ?_
    try simp only [Act.put, List.setIfInBounds_toArray, List.set_cons_zero, List.set_cons_succ]
    refine wpAnyG_skip (i := 9) (oi := ⟨some 31, _, _, _, _, _⟩) rfl (by kernel_rfl) (by kernel_rfl) (by kernel_rfl) (by rfl) (fun _ _ _ h => h) (by rfl) ?_
    try simp only [Act.put, List.setIfInBounds_toArray, List.set_cons_zero, List.set_cons_succ]
    refine wpAnyG_pure (i := 10) (oi := ⟨some 32, _, _, _, _, _⟩) (v := ?_) rfl (by kernel_rfl) (by kernel_rfl) (by kernel_rfl) (by rfl) (fun _ _ _ h => h) (by rfl) ?_ ?_
    rotate_left
    · intro w
      go_simp
      first | done | with_reducible rfl
    try simp only [Act.put, List.setIfInBounds_toArray, List.set_cons_zero, List.set_cons_succ]
    refine wpAnyG_pure (i := 11) (oi := ⟨some 33, _, _, _, _, _⟩) (v := ?_) rfl (by kernel_rfl) (by kernel_rfl) (by kernel_rfl) (by rfl) (fun _ _ _ h => h) (by rfl) ?_ ?_
    rotate_left
    · intro w
      go_simp
      first | done | with_reducible rfl
    try simp only [Act.put, List.setIfInBounds_toArray, List.set_cons_zero, List.set_cons_succ]
    refine wpAnyG_skip (i := 12) (oi := ⟨some 34, _, _, _, _, _⟩) rfl (by kernel_rfl) (by kernel_rfl) (by kernel_rfl) (by rfl) (fun _ _ _ h => h) (by rfl) ?_
    try simp only [Act.put, List.setIfInBounds_toArray, List.set_cons_zero, List.set_cons_succ]
    refine wpAnyG_skip (i := 13) (oi := ⟨some 35, _, _, _, _, _⟩) rfl (by kernel_rfl) (by kernel_rfl) (by kernel_rfl) (by rfl) (fun _ _ _ h => h) (by rfl) ?_
    try simp only [Act.put, List.setIfInBounds_toArray, List.set_cons_zero, List.set_cons_succ]
    refine wpAnyG_pure (i := 14) (oi := ⟨some 36, _, _, _, _, _⟩) (v := ?_) rfl (by kernel_rfl) (by kernel_rfl) (by kernel_rfl) (by rfl) (fun _ _ _ h => h) (by rfl) ?_ ?_
    rotate_left
    · intro w
      go_simp
      first | done | with_reducible rfl
    try simp only [Act.put, List.setIfInBounds_toArray, List.set_cons_zero, List.set_cons_succ]
    refine wpAnyG_pure (i := 15) (oi := ⟨some 4, _, _, _, _, _⟩) (v := ?_) rfl (by kernel_rfl) (by kernel_rfl) (by kernel_rfl) (by rfl) (fun _ _ _ h => h) (by rfl) ?_ ?_
    rotate_left
    · intro w
      go_simp
      first | done | with_reducible rfl
    try simp only [Act.put, List.setIfInBounds_toArray, List.set_cons_zero, List.set_cons_succ]
    refine wpAnyG_pure (i := 16) (oi := ⟨some 5, _, _, _, _, _⟩) (v := ?_) rfl (by kernel_rfl) (by kernel_rfl) (by kernel_rfl) (by rfl) (fun _ _ _ h => h) (by rfl) ?_ ?_
    rotate_left
    · intro w
      go_simp
      first | done | with_reducible rfl
    try simp only [Act.put, List.setIfInBounds_toArray, List.set_cons_zero, List.set_cons_succ]
    refine wpAnyG_pure (i := 17) (oi := ⟨some 6, _, _, _, _, _⟩) (v := ?_) rfl (by kernel_rfl) (by kernel_rfl) (by kernel_rfl) (by rfl) (fun _ _ _ h => h) (by rfl) ?_ ?_
    rotate_left
    · intro w
      go_simp
      first | done | with_reducible rfl
    try simp only [Act.put, List.setIfInBounds_toArray, List.set_cons_zero, List.set_cons_succ]
    refine wpAnyG_done (by kernel_rfl) ?_ _
    refine NoPanic.normal ?_
    go_wp2_with fail
    go_ret3
    exact ⟨_, _, rfl, h.drop.drop.drop⟩
  | true =>
    cases ok2 with
    | false =>
      go_enter Tryz.func87, Tryz.ntmps87
      go_wp2_with (first
        | (with_reducible refine (K1 _ _ H3.out).mono ?_; clear H3; rintro e w2 ⟨rfl, h⟩; have H3 := Lib.hid h; clear h)
        | (with_reducible refine (K2 _ _ H3.out).mono ?_; clear H3; rintro e w2 ⟨rfl, h⟩; have H3 := Lib.hid h; clear h)
        | (with_reducible refine (K3 _ _ H3.out).mono ?_; clear H3; rintro e w2 ⟨rfl, h⟩; have H3 := Lib.hid h; clear h)
        | (refine (KR1.out _ _ (H3.out.alloc _)).mono ?_; clear H3 KR1; rintro e w2 ⟨rfl, h⟩; have H3 := Lib.hid h; clear h)
        | (refine (KR2.out _ _ (H3.out.alloc _)).mono ?_; clear H3 KR2; rintro e w2 ⟨rfl, h⟩; have H3 := Lib.hid h; clear h))
      have h := H3.out.drew
      clear H3
      refine wp_region_text [0, 1] (fun w' => w'.cell? ⟨w.heap.size, 0, none⟩ = some (.int .i64 b) ∧ w'.cell? ⟨(w.heap.size + 1), 0, none⟩ = some (.int .i64 c) ∧ w'.cell? ⟨(w.heap.size + 1 + 1), 0, none⟩ = some (.int .i64 a)) (by kernel_rfl) ?_ (fun hS => ?_)
      · exact HC.out _ _ h
      refine wpAnyG_load (i := 0) (oi := ⟨some 22, _, _, _, _, _⟩) (v := ?_) rfl (by kernel_rfl) (by kernel_rfl) (by kernel_rfl) (by rfl) (fun _ _ _ h => h) (by rfl) ?_ (by assumption) ?_
      rotate_left
      · intro w hS
        try dsimp only at hS
        go_simp
        first | done | with_reducible rfl
      try simp only [Act.put, List.setIfInBounds_toArray, List.set_cons_zero, List.set_cons_succ]
      refine wpAnyG_load (i := 1) (oi := ⟨some 23, _, _, _, _, _⟩) (v := ?_) rfl (by kernel_rfl) (by kernel_rfl) (by kernel_rfl) (by rfl) (fun _ _ _ h => h) (by rfl) ?_ (by assumption) ?_
      rotate_left
      · intro w hS
        try dsimp only at hS
        go_simp
        first | done | with_reducible rfl
      try simp only [Act.put, List.setIfInBounds_toArray, List.set_cons_zero, List.set_cons_succ]
      refine wpAnyG_pure (i := 2) (oi := ⟨some 24, _, _, _, _, _⟩) (v := ?_) rfl (by kernel_rfl) (by kernel_rfl) (by kernel_rfl) (by rfl) (fun _ _ _ h => h) (by rfl) ?_ ?_
      rotate_left
      · intro w
        go_simp
        first | done | with_reducible rfl
      try simp only [Act.put, List.setIfInBounds_toArray, List.set_cons_zero, List.set_cons_succ]
      refine wpAnyG_pure (i := 3) (oi := ⟨some 25, _, _, _, _, _⟩) (v := ?_) rfl (by kernel_rfl) (by kernel_rfl) (by kernel_rfl) (by rfl) (fun _ _ _ h => h) (by rfl) ?_ ?_
      rotate_left
      · intro w
        go_simp
        first | done | with_reducible rfl
      try simp only [Act.put, List.setIfInBounds_toArray, List.set_cons_zero, List.set_cons_succ]
      refine wpAnyG_skip (i := 4) (oi := ⟨some 26, _, _, _, _, _⟩) rfl (by kernel_rfl) (by kernel_rfl) (by kernel_rfl) (by rfl) (fun _ _ _ h => h) (by rfl) ?_
      try simp only [Act.put, List.setIfInBounds_toArray, List.set_cons_zero, List.set_cons_succ]
      refine wpAnyG_skip (i := 5) (oi := ⟨some 27, _, _, _, _, _⟩) rfl (by kernel_rfl) (by kernel_rfl) (by kernel_rfl) (by rfl) (fun _ _ _ h => h) (by rfl) ?_
      try simp only [Act.put, List.setIfInBounds_toArray, List.set_cons_zero, List.set_cons_succ]
      refine wpAnyG_pure (i := 6) (oi := ⟨some 28, _, _, _, _, _⟩) (v := ?_) rfl (by kernel_rfl) (by kernel_rfl) (by kernel_rfl) (by rfl) (fun _ _ _ h => h) (by rfl) ?_ ?_
      rotate_left
      · intro w
        go_simp
        first | done | with_reducible rfl
      try simp only [Act.put, List.setIfInBounds_toArray, List.set_cons_zero, List.set_cons_succ]
      refine wpAnyG_pure (i := 7) (oi := ⟨some 29, _, _, _, _, _⟩) (v := ?_) rfl (by kernel_rfl) (by kernel_rfl) (by kernel_rfl) (by rfl) (fun _ _ _ h => h) (by rfl) ?_ ?_
      rotate_left
      · intro w
        go_simp
        first | done | with_reducible rfl
      try simp only [Act.put, List.setIfInBounds_toArray, List.set_cons_zero, List.set_cons_succ]
      refine wpAnyG_skip (i := 8) (oi := ⟨some 30, _, _, _, _, _⟩) rfl (by kernel_rfl) (by kernel_rfl) (by kernel_rfl) (by rfl) (fun _ _ _ h => h) (by rfl) ?_
      try simp only [Act.put, List.setIfInBounds_toArray, List.set_cons_zero, List.set_cons_succ]
      refine wpAnyG_skip (i := 9) (oi := ⟨some 31, _, _, _, _, _⟩) rfl (by kernel_rfl) (by kernel_rfl) (by kernel_rfl) (by rfl) (fun _ _ _ h => h) (by rfl) ?_
      try simp only [Act.put, List.setIfInBounds_toArray, List.set_cons_zero, List.set_cons_succ]
      refine wpAnyG_pure (i := 10) (oi := ⟨some 32, _, _, _, _, _⟩) (v := ?_) rfl (by kernel_rfl) (by kernel_rfl) (by kernel_rfl) (by rfl) (fun _ _ _ h => h) (by rfl) ?_ ?_
      rotate_left
      · intro w
        go_simp
        first | done | with_reducible rfl
      try simp only [Act.put, List.setIfInBounds_toArray, List.set_cons_zero, List.set_cons_succ]
      refine wpAnyG_pure (i := 11) (oi := ⟨some 33, _, _, _, _, _⟩) (v := ?_) rfl (by kernel_rfl) (by kernel_rfl) (by kernel_rfl) (by rfl) (fun _ _ _ h => h) (by rfl) ?_ ?_
      rotate_left
      · intro w
        go_simp
        first | done | with_reducible rfl
      try simp only [Act.put, List.setIfInBounds_toArray, List.set_cons_zero, List.set_cons_succ]
      refine wpAnyG_skip (i := 12) (oi := ⟨some 34, _, _, _, _, _⟩) rfl (by kernel_rfl) (by kernel_rfl) (by kernel_rfl) (by rfl) (fun _ _ _ h => h) (by rfl) ?_
      try simp only [Act.put, List.setIfInBounds_toArray, List.set_cons_zero, List.set_cons_succ]
      refine wpAnyG_skip (i := 13) (oi := ⟨some 35, _, _, _, _, _⟩) rfl (by kernel_rfl) (by kernel_rfl) (by kernel_rfl) (by rfl) (fun _ _ _ h => h) (by rfl) ?_
      try simp only [Act.put, List.setIfInBounds_toArray, List.set_cons_zero, List.set_cons_succ]
      refine wpAnyG_pure (i := 14) (oi := ⟨some 36, _, _, _, _, _⟩) (v := ?_) rfl (by kernel_rfl) (by kernel_rfl) (by kernel_rfl) (by rfl) (fun _ _ _ h => h) (by rfl) ?_ ?_
      rotate_left
      · intro w
        go_simp
        first | done | with_reducible rfl
      try simp only [Act.put, List.setIfInBounds_toArray, List.set_cons_zero, List.set_cons_succ]
      refine wpAnyG_pure (i := 15) (oi := ⟨some 4, _, _, _, _, _⟩) (v := ?_) rfl (by kernel_rfl) (by kernel_rfl) (by kernel_rfl) (by rfl) (fun _ _ _ h => h) (by rfl) ?_ ?_
      rotate_left
      · intro w
        go_simp
        first | done | with_reducible rfl
      try simp only [Act.put, List.setIfInBounds_toArray, List.set_cons_zero, List.set_cons_succ]
      refine wpAnyG_pure (i := 16) (oi := ⟨some 5, _, _, _, _, _⟩) (v := ?_) rfl (by kernel_rfl) (by kernel_rfl) (by kernel_rfl) (by rfl) (fun _ _ _ h => h) (by rfl) ?_ ?_
      rotate_left
      · intro w
        go_simp
        first | done | with_reducible rfl
      try simp only [Act.put, List.setIfInBounds_toArray, List.set_cons_zero, List.set_cons_succ]
      refine wpAnyG_pure (i := 17) (oi := ⟨some 6, _, _, _, _, _⟩) (v := ?_) rfl (by kernel_rfl) (by kernel_rfl) (by kernel_rfl) (by rfl) (fun _ _ _ h => h) (by rfl) ?_ ?_
      rotate_left
      · intro w
        go_simp
        first | done | with_reducible rfl
      try simp only [Act.put, List.setIfInBounds_toArray, List.set_cons_zero, List.set_cons_succ]
      refine wpAnyG_done (by kernel_rfl) ?_ _
      refine NoPanic.normal ?_
      go_wp2_with fail
      go_ret3
      exact ⟨_, _, rfl, h.drop.drop.drop⟩
    | true =>
      by_cases hb : 1 ≤ b ∧ b ≤ 4611686018427387904
      · rw [decide_eq_true hb] at J1
        by_cases hc : 1 ≤ c ∧ c ≤ 1073741824
        · rw [decide_eq_true hc] at J2
          have ha : ¬ (1 ≤ a ∧ a ≤ 4611686018427387904) := fun ha => HNO.out rfl rfl ha hb hc
          rw [decide_eq_false ha] at J3
          clear ha hb hc
          go_enter Tryz.func87, Tryz.ntmps87
          go_wp2_with (first
            | (with_reducible refine (K1 _ _ H3.out).mono ?_; clear H3; rintro e w2 ⟨rfl, h⟩; have H3 := Lib.hid h; clear h)
            | (with_reducible refine (K2 _ _ H3.out).mono ?_; clear H3; rintro e w2 ⟨rfl, h⟩; have H3 := Lib.hid h; clear h)
            | (with_reducible refine (K3 _ _ H3.out).mono ?_; clear H3; rintro e w2 ⟨rfl, h⟩; have H3 := Lib.hid h; clear h)
            | (refine (KR1.out _ _ (H3.out.alloc _)).mono ?_; clear H3 KR1; rintro e w2 ⟨rfl, h⟩; have H3 := Lib.hid h; clear h)
            | (refine (KR2.out _ _ (H3.out.alloc _)).mono ?_; clear H3 KR2; rintro e w2 ⟨rfl, h⟩; have H3 := Lib.hid h; clear h))
          have h := H3.out.drew
          clear H3
          refine wp_region_text [0, 1, 4, 8, 12] (fun w' => w'.cell? ⟨w.heap.size, 0, none⟩ = some (.int .i64 b) ∧ w'.cell? ⟨(w.heap.size + 1), 0, none⟩ = some (.int .i64 c) ∧ w'.cell? ⟨(w.heap.size + 1 + 1), 0, none⟩ = some (.int .i64 a)) (by kernel_rfl) ?_ (fun hS => ?_)
          · exact HC.out _ _ h
          refine wpAnyG_load (i := 0) (oi := ⟨some 22, _, _, _, _, _⟩) (v := ?_) rfl (by kernel_rfl) (by kernel_rfl) (by kernel_rfl) (by rfl) (fun _ _ _ h => h) (by rfl) ?_ (by assumption) ?_
          rotate_left
          · intro w hS
            try dsimp only at hS
            go_simp
            first | done | with_reducible rfl
          try simp only [Act.put, List.setIfInBounds_toArray, List.set_cons_zero, List.set_cons_succ]
          refine wpAnyG_load (i := 1) (oi := ⟨some 23, _, _, _, _, _⟩) (v := ?_) rfl (by kernel_rfl) (by kernel_rfl) (by kernel_rfl) (by rfl) (fun _ _ _ h => h) (by rfl) ?_ (by assumption) ?_
          rotate_left
          · intro w hS
            try dsimp only at hS
            go_simp
            first | done | with_reducible rfl
          try simp only [Act.put, List.setIfInBounds_toArray, List.set_cons_zero, List.set_cons_succ]
          refine wpAnyG_pure (i := 2) (oi := ⟨some 24, _, _, _, _, _⟩) (v := ?_) rfl (by kernel_rfl) (by kernel_rfl) (by kernel_rfl) (by rfl) (fun _ _ _ h => h) (by rfl) ?_ ?_
          rotate_left
          · intro w
            go_simp
            first | done | with_reducible rfl
          try simp only [Act.put, List.setIfInBounds_toArray, List.set_cons_zero, List.set_cons_succ]
          refine wpAnyG_pure (i := 3) (oi := ⟨some 25, _, _, _, _, _⟩) (v := ?_) rfl (by kernel_rfl) (by kernel_rfl) (by kernel_rfl) (by rfl) (fun _ _ _ h => h) (by rfl) ?_ ?_
          rotate_left
          · intro w
            go_simp
            first | done | with_reducible rfl
          try simp only [Act.put, List.setIfInBounds_toArray, List.set_cons_zero, List.set_cons_succ]
          refine wpAnyG_load (i := 4) (oi := ⟨some 26, _, _, _, _, _⟩) (v := ?_) rfl (by kernel_rfl) (by kernel_rfl) (by kernel_rfl) (by rfl) (fun _ _ _ h => h) (by rfl) ?_ (by assumption) ?_
          rotate_left
          · intro w hS
            try dsimp only at hS
            go_simp
            first | done | with_reducible rfl
          try simp only [Act.put, List.setIfInBounds_toArray, List.set_cons_zero, List.set_cons_succ]
          refine wpAnyG_keep (i := 5) (oi := ⟨some 27, _, _, _, _, _⟩) (by kernel_rfl) rfl (fun K hK => ?_)
          rw [if_pos (by rfl)]
          go_simp
          refine (J1 _).mono ?_
          rintro e w7 ⟨rfl, rfl⟩
          refine hK.out _ _ ?_ (fun hS => ?_)
          · exact HC.out _ _ h
          clear hK K
          try simp only [Act.put, List.setIfInBounds_toArray, List.set_cons_zero, List.set_cons_succ]
          refine wpAnyG_pure (i := 6) (oi := ⟨some 28, _, _, _, _, _⟩) (v := ?_) rfl (by kernel_rfl) (by kernel_rfl) (by kernel_rfl) (by rfl) (fun _ _ _ h => h) (by rfl) ?_ ?_
          rotate_left
          · intro w
            go_simp
            first | done | with_reducible rfl
          try simp only [Act.put, List.setIfInBounds_toArray, List.set_cons_zero, List.set_cons_succ]
          refine wpAnyG_pure (i := 7) (oi := ⟨some 29, _, _, _, _, _⟩) (v := ?_) rfl (by kernel_rfl) (by kernel_rfl) (by kernel_rfl) (by rfl) (fun _ _ _ h => h) (by rfl) ?_ ?_
          rotate_left
          · intro w
            go_simp
            first | done | with_reducible rfl
          try simp only [Act.put, List.setIfInBounds_toArray, List.set_cons_zero, List.set_cons_succ]
          refine wpAnyG_load (i := 8) (oi := ⟨some 30, _, _, _, _, _⟩) (v := ?_) rfl (by kernel_rfl) (by kernel_rfl) (by kernel_rfl) (by rfl) (fun _ _ _ h => h) (by rfl) ?_ (by assumption) ?_
          rotate_left
          · intro w hS
            try dsimp only at hS
            go_simp
            first | done | with_reducible rfl
          try simp only [Act.put, List.setIfInBounds_toArray, List.set_cons_zero, List.set_cons_succ]
          refine wpAnyG_keep (i := 9) (oi := ⟨some 31, _, _, _, _, _⟩) (by kernel_rfl) rfl (fun K hK => ?_)
          rw [if_pos (by rfl)]
          go_simp
          refine (J2 _).mono ?_
          rintro e w7 ⟨rfl, rfl⟩
          refine hK.out _ _ ?_ (fun hS => ?_)
          · exact HC.out _ _ h
          clear hK K
          try simp only [Act.put, List.setIfInBounds_toArray, List.set_cons_zero, List.set_cons_succ]
          refine wpAnyG_pure (i := 10) (oi := ⟨some 32, _, _, _, _, _⟩) (v := ?_) rfl (by kernel_rfl) (by kernel_rfl) (by kernel_rfl) (by rfl) (fun _ _ _ h => h) (by rfl) ?_ ?_
          rotate_left
          · intro w
            go_simp
            first | done | with_reducible rfl
          try simp only [Act.put, List.setIfInBounds_toArray, List.set_cons_zero, List.set_cons_succ]
          refine wpAnyG_pure (i := 11) (oi := ⟨some 33, _, _, _, _, _⟩) (v := ?_) rfl (by kernel_rfl) (by kernel_rfl) (by kernel_rfl) (by rfl) (fun _ _ _ h => h) (by rfl) ?_ ?_
          rotate_left
          · intro w
            go_simp
            first | done | with_reducible rfl
          try simp only [Act.put, List.setIfInBounds_toArray, List.set_cons_zero, List.set_cons_succ]
          refine wpAnyG_load (i := 12) (oi := ⟨some 34, _, _, _, _, _⟩) (v := ?_) rfl (by kernel_rfl) (by kernel_rfl) (by kernel_rfl) (by rfl) (fun _ _ _ h => h) (by rfl) ?_ (by assumption) ?_
          rotate_left
          · intro w hS
            try dsimp only at hS
            go_simp
            first | done | with_reducible rfl
          try simp only [Act.put, List.setIfInBounds_toArray, List.set_cons_zero, List.set_cons_succ]
          refine wpAnyG_keep (i := 13) (oi := ⟨some 35, _, _, _, _, _⟩) (by kernel_rfl) rfl (fun K hK => ?_)
          rw [if_pos (by rfl)]
          go_simp
          refine (J3 _).mono ?_
          rintro e w7 ⟨rfl, rfl⟩
          refine hK.out _ _ ?_ (fun hS => ?_)
          · exact HC.out _ _ h
          clear hK K
          try simp only [Act.put, List.setIfInBounds_toArray, List.set_cons_zero, List.set_cons_succ]
          refine wpAnyG_pure (i := 14) (oi := ⟨some 36, _, _, _, _, _⟩) (v := ?_) rfl (by kernel_rfl) (by kernel_rfl) (by kernel_rfl) (by rfl) (fun _ _ _ h => h) (by rfl) ?_ ?_
          rotate_left
          · intro w
            go_simp
            first | done | with_reducible rfl
          try simp only [Act.put, List.setIfInBounds_toArray, List.set_cons_zero, List.set_cons_succ]
          refine wpAnyG_pure (i := 15) (oi := ⟨some 4, _, _, _, _, _⟩) (v := ?_) rfl (by kernel_rfl) (by kernel_rfl) (by kernel_rfl) (by rfl) (fun _ _ _ h => h) (by rfl) ?_ ?_
          rotate_left
          · intro w
            go_simp
            first | done | with_reducible rfl
          try simp only [Act.put, List.setIfInBounds_toArray, List.set_cons_zero, List.set_cons_succ]
          refine wpAnyG_pure (i := 16) (oi := ⟨some 5, _, _, _, _, _⟩) (v := ?_) rfl (by kernel_rfl) (by kernel_rfl) (by kernel_rfl) (by rfl) (fun _ _ _ h => h) (by rfl) ?_ ?_
          rotate_left
          · intro w
            go_simp
            first | done | with_reducible rfl
          try simp only [Act.put, List.setIfInBounds_toArray, List.set_cons_zero, List.set_cons_succ]
          refine wpAnyG_pure (i := 17) (oi := ⟨some 6, _, _, _, _, _⟩) (v := ?_) rfl (by kernel_rfl) (by kernel_rfl) (by kernel_rfl) (by rfl) (fun _ _ _ h => h) (by rfl) ?_ ?_
          rotate_left
          · intro w
            go_simp
            first | done | with_reducible rfl
          try simp only [Act.put, List.setIfInBounds_toArray, List.set_cons_zero, List.set_cons_succ]
          refine wpAnyG_done (by kernel_rfl) ?_ _
          refine NoPanic.normal ?_
          go_wp2_with fail
          go_ret3
          exact ⟨_, _, rfl, h.drop.drop.drop⟩
        · rw [decide_eq_false hc] at J2
          clear hb hc
          go_enter Tryz.func87, Tryz.ntmps87
          go_wp2_with (first
            | (with_reducible refine (K1 _ _ H3.out).mono ?_; clear H3; rintro e w2 ⟨rfl, h⟩; have H3 := Lib.hid h; clear h)
            | (with_reducible refine (K2 _ _ H3.out).mono ?_; clear H3; rintro e w2 ⟨rfl, h⟩; have H3 := Lib.hid h; clear h)
            | (with_reducible refine (K3 _ _ H3.out).mono ?_; clear H3; rintro e w2 ⟨rfl, h⟩; have H3 := Lib.hid h; clear h)
            | (refine (KR1.out _ _ (H3.out.alloc _)).mono ?_; clear H3 KR1; rintro e w2 ⟨rfl, h⟩; have H3 := Lib.hid h; clear h)
            | (refine (KR2.out _ _ (H3.out.alloc _)).mono ?_; clear H3 KR2; rintro e w2 ⟨rfl, h⟩; have H3 := Lib.hid h; clear h))
          have h := H3.out.drew
          clear H3
          refine wp_region_text [0, 1, 4, 8] (fun w' => w'.cell? ⟨w.heap.size, 0, none⟩ = some (.int .i64 b) ∧ w'.cell? ⟨(w.heap.size + 1), 0, none⟩ = some (.int .i64 c) ∧ w'.cell? ⟨(w.heap.size + 1 + 1), 0, none⟩ = some (.int .i64 a)) (by kernel_rfl) ?_ (fun hS => ?_)
          · exact HC.out _ _ h
          refine wpAnyG_load (i := 0) (oi := ⟨some 22, _, _, _, _, _⟩) (v := ?_) rfl (by kernel_rfl) (by kernel_rfl) (by kernel_rfl) (by rfl) (fun _ _ _ h => h) (by rfl) ?_ (by assumption) ?_
          rotate_left
          · intro w hS
            try dsimp only at hS
            go_simp
            first | done | with_reducible rfl
          try simp only [Act.put, List.setIfInBounds_toArray, List.set_cons_zero, List.set_cons_succ]
          refine wpAnyG_load (i := 1) (oi := ⟨some 23, _, _, _, _, _⟩) (v := ?_) rfl (by kernel_rfl) (by kernel_rfl) (by kernel_rfl) (by rfl) (fun _ _ _ h => h) (by rfl) ?_ (by assumption) ?_
          rotate_left
          · intro w hS
            try dsimp only at hS
            go_simp
            first | done | with_reducible rfl
          try simp only [Act.put, List.setIfInBounds_toArray, List.set_cons_zero, List.set_cons_succ]
          refine wpAnyG_pure (i := 2) (oi := ⟨some 24, _, _, _, _, _⟩) (v := ?_) rfl (by kernel_rfl) (by kernel_rfl) (by kernel_rfl) (by rfl) (fun _ _ _ h => h) (by rfl) ?_ ?_
          rotate_left
          · intro w
            go_simp
            first | done | with_reducible rfl
          try simp only [Act.put, List.setIfInBounds_toArray, List.set_cons_zero, List.set_cons_succ]
          refine wpAnyG_pure (i := 3) (oi := ⟨some 25, _, _, _, _, _⟩) (v := ?_) rfl (by kernel_rfl) (by kernel_rfl) (by kernel_rfl) (by rfl) (fun _ _ _ h => h) (by rfl) ?_ ?_
          rotate_left
          · intro w
            go_simp
            first | done | with_reducible rfl
          try simp only [Act.put, List.setIfInBounds_toArray, List.set_cons_zero, List.set_cons_succ]
          refine wpAnyG_load (i := 4) (oi := ⟨some 26, _, _, _, _, _⟩) (v := ?_) rfl (by kernel_rfl) (by kernel_rfl) (by kernel_rfl) (by rfl) (fun _ _ _ h => h) (by rfl) ?_ (by assumption) ?_
          rotate_left
          · intro w hS
            try dsimp only at hS
            go_simp
            first | done | with_reducible rfl
          try simp only [Act.put, List.setIfInBounds_toArray, List.set_cons_zero, List.set_cons_succ]
          refine wpAnyG_keep (i := 5) (oi := ⟨some 27, _, _, _, _, _⟩) (by kernel_rfl) rfl (fun K hK => ?_)
          rw [if_pos (by rfl)]
          go_simp
          refine (J1 _).mono ?_
          rintro e w7 ⟨rfl, rfl⟩
          refine hK.out _ _ ?_ (fun hS => ?_)
          · exact HC.out _ _ h
          clear hK K
          try simp only [Act.put, List.setIfInBounds_toArray, List.set_cons_zero, List.set_cons_succ]
          refine wpAnyG_pure (i := 6) (oi := ⟨some 28, _, _, _, _, _⟩) (v := ?_) rfl (by kernel_rfl) (by kernel_rfl) (by kernel_rfl) (by rfl) (fun _ _ _ h => h) (by rfl) ?_ ?_
          rotate_left
          · intro w
            go_simp
            first | done | with_reducible rfl
          try simp only [Act.put, List.setIfInBounds_toArray, List.set_cons_zero, List.set_cons_succ]
          refine wpAnyG_pure (i := 7) (oi := ⟨some 29, _, _, _, _, _⟩) (v := ?_) rfl (by kernel_rfl) (by kernel_rfl) (by kernel_rfl) (by rfl) (fun _ _ _ h => h) (by rfl) ?_ ?_
          rotate_left
          · intro w
            go_simp
            first | done | with_reducible rfl
          try simp only [Act.put, List.setIfInBounds_toArray, List.set_cons_zero, List.set_cons_succ]
          refine wpAnyG_load (i := 8) (oi := ⟨some 30, _, _, _, _, _⟩) (v := ?_) rfl (by kernel_rfl) (by kernel_rfl) (by kernel_rfl) (by rfl) (fun _ _ _ h => h) (by rfl) ?_ (by assumption) ?_
          rotate_left
          · intro w hS
            try dsimp only at hS
            go_simp
            first | done | with_reducible rfl
          try simp only [Act.put, List.setIfInBounds_toArray, List.set_cons_zero, List.set_cons_succ]
          refine wpAnyG_keep (i := 9) (oi := ⟨some 31, _, _, _, _, _⟩) (by kernel_rfl) rfl (fun K hK => ?_)
          rw [if_pos (by rfl)]
          go_simp
          refine (J2 _).mono ?_
          rintro e w7 ⟨rfl, rfl⟩
          refine hK.out _ _ ?_ (fun hS => ?_)
          · exact HC.out _ _ h
          clear hK K
          try simp only [Act.put, List.setIfInBounds_toArray, List.set_cons_zero, List.set_cons_succ]
          refine wpAnyG_pure (i := 10) (oi := ⟨some 32, _, _, _, _, _⟩) (v := ?_) rfl (by kernel_rfl) (by kernel_rfl) (by kernel_rfl) (by rfl) (fun _ _ _ h => h) (by rfl) ?_ ?_
          rotate_left
          · intro w
            go_simp
            first | done | with_reducible rfl
          try simp only [Act.put, List.setIfInBounds_toArray, List.set_cons_zero, List.set_cons_succ]
          refine wpAnyG_pure (i := 11) (oi := ⟨some 33, _, _, _, _, _⟩) (v := ?_) rfl (by kernel_rfl) (by kernel_rfl) (by kernel_rfl) (by rfl) (fun _ _ _ h => h) (by rfl) ?_ ?_
          rotate_left
          · intro w
            go_simp
            first | done | with_reducible rfl
          try simp only [Act.put, List.setIfInBounds_toArray, List.set_cons_zero, List.set_cons_succ]
          refine wpAnyG_skip (i := 12) (oi := ⟨some 34, _, _, _, _, _⟩) rfl (by kernel_rfl) (by kernel_rfl) (by kernel_rfl) (by rfl) (fun _ _ _ h => h) (by rfl) ?_
          try simp only [Act.put, List.setIfInBounds_toArray, List.set_cons_zero, List.set_cons_succ]
          refine wpAnyG_skip (i := 13) (oi := ⟨some 35, _, _, _, _, _⟩) rfl (by kernel_rfl) (by kernel_rfl) (by kernel_rfl) (by rfl) (fun _ _ _ h => h) (by rfl) ?_
          try simp only [Act.put, List.setIfInBounds_toArray, List.set_cons_zero, List.set_cons_succ]
          refine wpAnyG_pure (i := 14) (oi := ⟨some 36, _, _, _, _, _⟩) (v := ?_) rfl (by kernel_rfl) (by kernel_rfl) (by kernel_rfl) (by rfl) (fun _ _ _ h => h) (by rfl) ?_ ?_
          rotate_left
          · intro w
            go_simp
            first | done | with_reducible rfl
          try simp only [Act.put, List.setIfInBounds_toArray, List.set_cons_zero, List.set_cons_succ]
          refine wpAnyG_pure (i := 15) (oi := ⟨some 4, _, _, _, _, _⟩) (v := ?_) rfl (by kernel_rfl) (by kernel_rfl) (by kernel_rfl) (by rfl) (fun _ _ _ h => h) (by rfl) ?_ ?_
          rotate_left
          · intro w
            go_simp
            first | done | with_reducible rfl
          try simp only [Act.put, List.setIfInBounds_toArray, List.set_cons_zero, List.set_cons_succ]
          refine wpAnyG_pure (i := 16) (oi := ⟨some 5, _, _, _, _, _⟩) (v := ?_) rfl (by kernel_rfl) (by kernel_rfl) (by kernel_rfl) (by rfl) (fun _ _ _ h => h) (by rfl) ?_ ?_
          rotate_left
          · intro w
            go_simp
            first | done | with_reducible rfl
          try simp only [Act.put, List.setIfInBounds_toArray, List.set_cons_zero, List.set_cons_succ]
          refine wpAnyG_pure (i := 17) (oi := ⟨some 6, _, _, _, _, _⟩) (v := ?_) rfl (by kernel_rfl) (by kernel_rfl) (by kernel_rfl) (by rfl) (fun _ _ _ h => h) (by rfl) ?_ ?_
          rotate_left
          · intro w
            go_simp
            first | done | with_reducible rfl
          try simp only [Act.put, List.setIfInBounds_toArray, List.set_cons_zero, List.set_cons_succ]
          refine wpAnyG_done (by kernel_rfl) ?_ _
          refine NoPanic.normal ?_
          go_wp2_with fail
          go_ret3
          exact ⟨_, _, rfl, h.drop.drop.drop⟩
      · rw [decide_eq_false hb] at J1
        clear hb
        go_enter Tryz.func87, Tryz.ntmps87
        go_wp2_with (first
          | (with_reducible refine (K1 _ _ H3.out).mono ?_; clear H3; rintro e w2 ⟨rfl, h⟩; have H3 := Lib.hid h; clear h)
          | (with_reducible refine (K2 _ _ H3.out).mono ?_; clear H3; rintro e w2 ⟨rfl, h⟩; have H3 := Lib.hid h; clear h)
          | (with_reducible refine (K3 _ _ H3.out).mono ?_; clear H3; rintro e w2 ⟨rfl, h⟩; have H3 := Lib.hid h; clear h)
          | (refine (KR1.out _ _ (H3.out.alloc _)).mono ?_; clear H3 KR1; rintro e w2 ⟨rfl, h⟩; have H3 := Lib.hid h; clear h)
          | (refine (KR2.out _ _ (H3.out.alloc _)).mono ?_; clear H3 KR2; rintro e w2 ⟨rfl, h⟩; have H3 := Lib.hid h; clear h))
        have h := H3.out.drew
        clear H3
        refine wp_region_text [0, 1, 4] (fun w' => w'.cell? ⟨w.heap.size, 0, none⟩ = some (.int .i64 b) ∧ w'.cell? ⟨(w.heap.size + 1), 0, none⟩ = some (.int .i64 c) ∧ w'.cell? ⟨(w.heap.size + 1 + 1), 0, none⟩ = some (.int .i64 a)) (by kernel_rfl) ?_ (fun hS => ?_)
        · exact HC.out _ _ h
        refine wpAnyG_load (i := 0) (oi := ⟨some 22, _, _, _, _, _⟩) (v := ?_) rfl (by kernel_rfl) (by kernel_rfl) (by kernel_rfl) (by rfl) (fun _ _ _ h => h) (by rfl) ?_ (by assumption) ?_
        rotate_left
        · intro w hS
          try dsimp only at hS
          go_simp
          first | done | with_reducible rfl
        try simp only [Act.put, List.setIfInBounds_toArray, List.set_cons_zero, List.set_cons_succ]
        refine wpAnyG_load (i := 1) (oi := ⟨some 23, _, _, _, _, _⟩) (v := ?_) rfl (by kernel_rfl) (by kernel_rfl) (by kernel_rfl) (by rfl) (fun _ _ _ h => h) (by rfl) ?_ (by assumption) ?_
        rotate_left
        · intro w hS
          try dsimp only at hS
          go_simp
          first | done | with_reducible rfl
        try simp only [Act.put, List.setIfInBounds_toArray, List.set_cons_zero, List.set_cons_succ]
        refine wpAnyG_pure (i := 2) (oi := ⟨some 24, _, _, _, _, _⟩) (v := ?_) rfl (by kernel_rfl) (by kernel_rfl) (by kernel_rfl) (by rfl) (fun _ _ _ h => h) (by rfl) ?_ ?_
        rotate_left
        · intro w
          go_simp
          first | done | with_reducible rfl
        try simp only [Act.put, List.setIfInBounds_toArray, List.set_cons_zero, List.set_cons_succ]
        refine wpAnyG_pure (i := 3) (oi := ⟨some 25, _, _, _, _, _⟩) (v := ?_) rfl (by kernel_rfl) (by kernel_rfl) (by kernel_rfl) (by rfl) (fun _ _ _ h => h) (by rfl) ?_ ?_
        rotate_left
        · intro w
          go_simp
          first | done | with_reducible rfl
        try simp only [Act.put, List.setIfInBounds_toArray, List.set_cons_zero, List.set_cons_succ]
        refine wpAnyG_load (i := 4) (oi := ⟨some 26, _, _, _, _, _⟩) (v := ?_) rfl (by kernel_rfl) (by kernel_rfl) (by kernel_rfl) (by rfl) (fun _ _ _ h => h) (by rfl) ?_ (by assumption) ?_
        rotate_left
        · intro w hS
          try dsimp only at hS
          go_simp
          first | done | with_reducible rfl
        try simp only [Act.put, List.setIfInBounds_toArray, List.set_cons_zero, List.set_cons_succ]
        refine wpAnyG_keep (i := 5) (oi := ⟨some 27, _, _, _, _, _⟩) (by kernel_rfl) rfl (fun K hK => ?_)
        rw [if_pos (by rfl)]
        go_simp
        refine (J1 _).mono ?_
        rintro e w7 ⟨rfl, rfl⟩
        refine hK.out _ _ ?_ (fun hS => ?_)
        · exact HC.out _ _ h
        clear hK K
        try simp only [Act.put, List.setIfInBounds_toArray, List.set_cons_zero, List.set_cons_succ]
        refine wpAnyG_pure (i := 6) (oi := ⟨some 28, _, _, _, _, _⟩) (v := ?_) rfl (by kernel_rfl) (by kernel_rfl) (by kernel_rfl) (by rfl) (fun _ _ _ h => h) (by rfl) ?_ ?_
        rotate_left
        · intro w
          go_simp
          first | done | with_reducible rfl
        try simp only [Act.put, List.setIfInBounds_toArray, List.set_cons_zero, List.set_cons_succ]
        refine wpAnyG_pure (i := 7) (oi := ⟨some 29, _, _, _, _, _⟩) (v := ?_) rfl (by kernel_rfl) (by kernel_rfl) (by kernel_rfl) (by rfl) (fun _ _ _ h => h) (by rfl) ?_ ?_
        rotate_left
        · intro w
          go_simp
          first | done | with_reducible rfl
        try simp only [Act.put, List.setIfInBounds_toArray, List.set_cons_zero, List.set_cons_succ]
        refine wpAnyG_skip (i := 8) (oi := ⟨some 30, _, _, _, _, _⟩) rfl (by kernel_rfl) (by kernel_rfl) (by kernel_rfl) (by rfl) (fun _ _ _ h => h) (by rfl) ?_
        try simp only [Act.put, List.setIfInBounds_toArray, List.set_cons_zero, List.set_cons_succ]
        refine wpAnyG_skip (i := 9) (oi := ⟨some 31, _, _, _, _, _⟩) rfl (by kernel_rfl) (by kernel_rfl) (by kernel_rfl) (by rfl) (fun _ _ _ h => h) (by rfl) ?_
        try simp only [Act.put, List.setIfInBounds_toArray, List.set_cons_zero, List.set_cons_succ]
        refine wpAnyG_pure (i := 10) (oi := ⟨some 32, _, _, _, _, _⟩) (v := ?_) rfl (by kernel_rfl) (by kernel_rfl) (by kernel_rfl) (by rfl) (fun _ _ _ h => h) (by rfl) ?_ ?_
        rotate_left
        · intro w
          go_simp
          first | done | with_reducible rfl
        try simp only [Act.put, List.setIfInBounds_toArray, List.set_cons_zero, List.set_cons_succ]
        refine wpAnyG_pure (i := 11) (oi := ⟨some 33, _, _, _, _, _⟩) (v := ?_) rfl (by kernel_rfl) (by kernel_rfl) (by kernel_rfl) (by rfl) (fun _ _ _ h => h) (by rfl) ?_ ?_
        rotate_left
        · intro w
          go_simp
          first | done | with_reducible rfl
        try simp only [Act.put, List.setIfInBounds_toArray, List.set_cons_zero, List.set_cons_succ]
        refine wpAnyG_skip (i := 12) (oi := ⟨some 34, _, _, _, _, _⟩) rfl (by kernel_rfl) (by kernel_rfl) (by kernel_rfl) (by rfl) (fun _ _ _ h => h) (by rfl) ?_
        try simp only [Act.put, List.setIfInBounds_toArray, List.set_cons_zero, List.set_cons_succ]
        refine wpAnyG_skip (i := 13) (oi := ⟨some 35, _, _, _, _, _⟩) rfl (by kernel_rfl) (by kernel_rfl) (by kernel_rfl) (by rfl) (fun _ _ _ h => h) (by rfl) ?_
        try simp only [Act.put, List.setIfInBounds_toArray, List.set_cons_zero, List.set_cons_succ]
        refine wpAnyG_pure (i := 14) (oi := ⟨some 36, _, _, _, _, _⟩) (v := ?_) rfl (by kernel_rfl) (by kernel_rfl) (by kernel_rfl) (by rfl) (fun _ _ _ h => h) (by rfl) ?_ ?_
        rotate_left
        · intro w
          go_simp
          first | done | with_reducible rfl
        try simp only [Act.put, List.setIfInBounds_toArray, List.set_cons_zero, List.set_cons_succ]
        refine wpAnyG_pure (i := 15) (oi := ⟨some 4, _, _, _, _, _⟩) (v := ?_) rfl (by kernel_rfl) (by kernel_rfl) (by kernel_rfl) (by rfl) (fun _ _ _ h => h) (by rfl) ?_ ?_
        rotate_left
        · intro w
          go_simp
          first | done | with_reducible rfl
        try simp only [Act.put, List.setIfInBounds_toArray, List.set_cons_zero, List.set_cons_succ]
        refine wpAnyG_pure (i := 16) (oi := ⟨some 5, _, _, _, _, _⟩) (v := ?_) rfl (by kernel_rfl) (by kernel_rfl) (by kernel_rfl) (by rfl) (fun _ _ _ h => h) (by rfl) ?_ ?_
        rotate_left
        · intro w
          go_simp
          first | done | with_reducible rfl
        try simp only [Act.put, List.setIfInBounds_toArray, List.set_cons_zero, List.set_cons_succ]
        refine wpAnyG_pure (i := 17) (oi := ⟨some 6, _, _, _, _, _⟩) (v := ?_) rfl (by kernel_rfl) (by kernel_rfl) (by kernel_rfl) (by rfl) (fun _ _ _ h => h) (by rfl) ?_ ?_
        rotate_left
        · intro w
          go_simp
          first | done | with_reducible rfl
        try simp only [Act.put, List.setIfInBounds_toArray, List.set_cons_zero, List.set_cons_succ]
        refine wpAnyG_done (by kernel_rfl) ?_ _
        refine NoPanic.normal ?_
        go_wp2_with fail
        go_ret3
        exact ⟨_, _, rfl, h.drop.drop.drop⟩
set_option maxHeartbeats 2000000 in
theorem pidx_none (k v : ByteArray) (w : World) (hk : k.size = 0) (h : Own E w L) : Calls Tryz.prog 31 #[.agg #[.string k, .string v]] w fun e w' => e = .returned (.tuple #[.string ⟨#[]⟩, .int .i64 0, .int .i64 0, .string ⟨#[]⟩, .int .i64 141]) ∧ Own E w' L := by
  have H1 := Lib.hid (h.alloc (.cells #[.string k, .string v] ITT))
  have e3 : k.toList.isEmpty = true := by rw [isEmpty_size, decide_eq_true hk]
  have KB := fun w => idxbad_any w
  clear h
  go_enter Tryz.func31, Tryz.ntmps31
  go_wp2_with (with_reducible refine (KB _).mono ?_; rintro e w2 ⟨rfl, rfl⟩)
  (try simp only [Exit.inBlock, Exit.then])
  refine bodyPost_ret (results_tmp5 rfl _ _ _) rfl ?_
  exact ⟨rfl, H1.out.drop⟩
set_option maxHeartbeats 4000000 in
theorem pidx_other (t : UInt8) (R : List UInt8) (v : ByteArray) (w : World) (ht1 : t ≠ 109) (ht2 : t ≠ 120) (ht3 : t ≠ 115) (h : Own E w L) : Calls Tryz.prog 31 #[.agg #[.string ⟨(t :: R).toArray⟩, .string v]] w fun e w' => e = .returned (.tuple #[.string ⟨#[]⟩, .int .i64 0, .int .i64 0, .string ⟨#[]⟩, .int .i64 141]) ∧ Own E w' L := by
  obtain ⟨k, hk⟩ : ∃ k : ByteArray, k = ⟨(t :: R).toArray⟩ := ⟨_, rfl⟩
  obtain ⟨lt, hlt⟩ : ∃ lt : ByteArray, lt = ⟨#[t]⟩ := ⟨_, rfl⟩
  obtain ⟨r, hrr⟩ : ∃ r : ByteArray, r = ⟨R.toArray⟩ := ⟨_, rfl⟩
  have e1 : k.extract 0 1 = lt := by
    rw [hk, hlt]
    exact ext_head _ _
  have e2 : k.extract 1 k.size = r := by
    rw [hk, hrr]
    exact ext_tail _ _
  have e4 : 1 ≤ k.size := by
    rw [hk, fl_size, List.length_cons]
    omega
  have e3 : k.toList.isEmpty = false := by
    rw [isEmpty_size]
    exact decide_eq_false (by omega)
  have i1 : (1 : Int) ≤ (k.size : Int) := by omega
  have l1 : (lt.toList == [109]) = false := by
    rw [hlt, ByteArray.toList_eq]
    show ([t] == [(109 : UInt8)]) = false
    rw [beq_eq_false_iff_ne]
    intro hx
    injection hx with hx
    exact ht1 hx
  have l2 : (lt.toList == [120]) = false := by
    rw [hlt, ByteArray.toList_eq]
    show ([t] == [(120 : UInt8)]) = false
    rw [beq_eq_false_iff_ne]
    intro hx
    injection hx with hx
    exact ht2 hx
  have l3 : (lt.toList == [115]) = false := by
    rw [hlt, ByteArray.toList_eq]
    show ([t] == [(115 : UInt8)]) = false
    rw [beq_eq_false_iff_ne]
    intro hx
    injection hx with hx
    exact ht3 hx
  rw [← hk]
  have h1 := h.alloc (.cells #[.string k, .string v] ITT)
  have HC : Hid (∀ w', Own E w' (Hp.blk w.heap.size ITT #[.string k, .string v] :: L) → w'.cell? ⟨w.heap.size, 0, none⟩ = some (.string k)) := Lib.hid fun w' h => (h.cell 0).trans rfl
  have HD : Hid (∀ w', Own E w' (Hp.blk w.heap.size ITT #[.string k, .string v] :: L) → w'.cell? ⟨w.heap.size, 1, none⟩ = some (.string v)) := Lib.hid fun w' h => (h.cell 1).trans rfl
  have KB := fun w => idxbad_any w
  have H1 := Lib.hid h1
  clear hk hlt hrr h h1
  go_enter Tryz.func31, Tryz.ntmps31
  go_wp2_with fail
  have h := H1.out.drew
  clear H1
  refine wp_region_text [1, 4] (fun w' => w'.cell? ⟨w.heap.size, 0, none⟩ = some (.string k)) (by kernel_rfl) ?_ (fun hS => ?_)
  · exact HC.out _ h
  refine wpAnyG_pure (i := 0) (oi := ⟨some 29, _, _, _, _, _⟩) (v := ?_) rfl (by kernel_rfl) (by kernel_rfl) (by kernel_rfl) (by rfl) (fun _ _ _ h => h) (by rfl) ?_ ?_
  rotate_left
  · intro w
    go_simp
    first | done | with_reducible rfl
  try simp only [Act.put, List.setIfInBounds_toArray, List.set_cons_zero, List.set_cons_succ]
  refine wpAnyG_load (i := 1) (oi := ⟨some 30, _, _, _, _, _⟩) (v := (.string k)) rfl (by kernel_rfl) (by kernel_rfl) (by kernel_rfl) (by rfl) (fun _ _ _ h => h) (by rfl) ?_ (by assumption) ?_
  · intro w hS
    go_simp
  try simp only [Act.put, List.setIfInBounds_toArray, List.set_cons_zero, List.set_cons_succ]
  refine wpAnyG_pure (i := 2) (oi := ⟨some 31, _, _, _, _, _⟩) (v := (.string lt)) rfl (by kernel_rfl) (by kernel_rfl) (by kernel_rfl) (by rfl) (fun _ _ _ h => h) (by rfl) ?_ ?_
  · intro w
    go_simp; first | done | (intro hx; exact absurd hx (by omega))
  try simp only [Act.put, List.setIfInBounds_toArray, List.set_cons_zero, List.set_cons_succ]
  refine wpAnyG_pure (i := 3) (oi := ⟨some 32, _, _, _, _, _⟩) (v := ?_) rfl (by kernel_rfl) (by kernel_rfl) (by kernel_rfl) (by rfl) (fun _ _ _ h => h) (by rfl) ?_ ?_
  rotate_left
  · intro w
    go_simp
    first | done | with_reducible rfl
  try simp only [Act.put, List.setIfInBounds_toArray, List.set_cons_zero, List.set_cons_succ]
  refine wpAnyG_load (i := 4) (oi := ⟨some 33, _, _, _, _, _⟩) (v := (.string k)) rfl (by kernel_rfl) (by kernel_rfl) (by kernel_rfl) (by rfl) (fun _ _ _ h => h) (by rfl) ?_ (by assumption) ?_
  · intro w hS
    go_simp
  try simp only [Act.put, List.setIfInBounds_toArray, List.set_cons_zero, List.set_cons_succ]
  refine wpAnyG_pure (i := 5) (oi := ⟨some 34, _, _, _, _, _⟩) (v := (.string r)) rfl (by kernel_rfl) (by kernel_rfl) (by kernel_rfl) (by rfl) (fun _ _ _ h => h) (by rfl) ?_ ?_
  · intro w
    go_simp; first | done | (intro hx; exact absurd hx (by omega))
  try simp only [Act.put, List.setIfInBounds_toArray, List.set_cons_zero, List.set_cons_succ]
  refine wpAnyG_pure (i := 6) (oi := ⟨some 8, _, _, _, _, _⟩) (v := ?_) rfl (by kernel_rfl) (by kernel_rfl) (by kernel_rfl) (by rfl) (fun _ _ _ h => h) (by rfl) ?_ ?_
  rotate_left
  · intro w
    go_simp
    first | done | with_reducible rfl
  try simp only [Act.put, List.setIfInBounds_toArray, List.set_cons_zero, List.set_cons_succ]
  refine wpAnyG_pure (i := 7) (oi := ⟨some 9, _, _, _, _, _⟩) (v := ?_) rfl (by kernel_rfl) (by kernel_rfl) (by kernel_rfl) (by rfl) (fun _ _ _ h => h) (by rfl) ?_ ?_
  rotate_left
  · intro w
    go_simp
    first | done | with_reducible rfl
  try simp only [Act.put, List.setIfInBounds_toArray, List.set_cons_zero, List.set_cons_succ]
  refine wpAnyG_done (by kernel_rfl) ?_ _
  refine NoPanic.normal ?_
  go_wp2_with (with_reducible refine (KB _).mono ?_; rintro e w2 ⟨rfl, rfl⟩)
  (try simp only [Exit.inBlock, Exit.then])
  refine bodyPost_ret (results_tmp5 rfl _ _ _) rfl ?_
  exact ⟨rfl, h.drop⟩
set_option maxHeartbeats 4000000 in
theorem pidx_mno (R : List UInt8) (v : ByteArray) (w : World) (hR : R.length ≤ 1000000000000000) (hv : v.size ≤ 1000000000000000) (hno : ∀ t, ¬ IdxR ⟨(109 :: R).toArray⟩ v t) (hG : Laid0 E L) (h : Own E w L) : Calls Tryz.prog 31 #[.agg #[.string ⟨(109 :: R).toArray⟩, .string v]] w fun e w' => e = .returned (.tuple #[.string ⟨#[]⟩, .int .i64 0, .int .i64 0, .string ⟨#[]⟩, .int .i64 141]) ∧ Own E w' L := by
  have KM := fun (wq : World) (M : List Hp) (hG : Laid0 E M) (h : Own E wq M) => member_no ⟨R.toArray⟩ v wq (by rw [fl_size]; exact hR) hv (fun a b c x1 x2 x3 y1 y2 => hno _ (.inl ⟨a, b, c, x1, x2, x3, by
    have : R = byN 8 b.toNat ++ byN 4 c.toNat := by
      have := congrArg (fun x => x.data.toList) y1
      simpa using this
    rw [this]; rfl, y2, rfl⟩)) hG h
  obtain ⟨k, hk⟩ : ∃ k : ByteArray, k = ⟨(109 :: R).toArray⟩ := ⟨_, rfl⟩
  obtain ⟨lt, hlt⟩ : ∃ lt : ByteArray, lt = ⟨#[109]⟩ := ⟨_, rfl⟩
  obtain ⟨r, hrr⟩ : ∃ r : ByteArray, r = ⟨R.toArray⟩ := ⟨_, rfl⟩
  have e1 : k.extract 0 1 = lt := by
    rw [hk, hlt]
    exact ext_head _ _
  have e2 : k.extract 1 k.size = r := by
    rw [hk, hrr]
    exact ext_tail _ _
  have e4 : 1 ≤ k.size := by
    rw [hk, fl_size, List.length_cons]
    omega
  have e3 : k.toList.isEmpty = false := by
    rw [isEmpty_size]
    exact decide_eq_false (by omega)
  have i1 : (1 : Int) ≤ (k.size : Int) := by omega
  have l1 : (lt.toList == [109]) = true := by rw [hlt, ByteArray.toList_eq]; rfl
  have l2 : (lt.toList == [120]) = false := by rw [hlt, ByteArray.toList_eq]; rfl
  have l3 : (lt.toList == [115]) = false := by rw [hlt, ByteArray.toList_eq]; rfl
  rw [← hk]
  have h1 := h.alloc (.cells #[.string k, .string v] ITT)
  have HC : Hid (∀ w', Own E w' (Hp.blk w.heap.size ITT #[.string k, .string v] :: L) → w'.cell? ⟨w.heap.size, 0, none⟩ = some (.string k)) := Lib.hid fun w' h => (h.cell 0).trans rfl
  have HD : Hid (∀ w', Own E w' (Hp.blk w.heap.size ITT #[.string k, .string v] :: L) → w'.cell? ⟨w.heap.size, 1, none⟩ = some (.string v)) := Lib.hid fun w' h => (h.cell 1).trans rfl
  have KB := fun w => idxbad_any w
  have H1 := Lib.hid h1
  rw [← hrr] at KM
  have HG := Lib.hid hG
  clear hk hlt hrr h h1 hG hno hR hv
  go_enter Tryz.func31, Tryz.ntmps31
  go_wp2_with fail
  have h := H1.out.drew
  clear H1
  refine wp_region_text [1, 4] (fun w' => w'.cell? ⟨w.heap.size, 0, none⟩ = some (.string k)) (by kernel_rfl) ?_ (fun hS => ?_)
  · exact HC.out _ h
  refine wpAnyG_pure (i := 0) (oi := ⟨some 29, _, _, _, _, _⟩) (v := ?_) rfl (by kernel_rfl) (by kernel_rfl) (by kernel_rfl) (by rfl) (fun _ _ _ h => h) (by rfl) ?_ ?_
  rotate_left
  · intro w
    go_simp
    first | done | with_reducible rfl
  try simp only [Act.put, List.setIfInBounds_toArray, List.set_cons_zero, List.set_cons_succ]
  refine wpAnyG_load (i := 1) (oi := ⟨some 30, _, _, _, _, _⟩) (v := (.string k)) rfl (by kernel_rfl) (by kernel_rfl) (by kernel_rfl) (by rfl) (fun _ _ _ h => h) (by rfl) ?_ (by assumption) ?_
  · intro w hS
    go_simp
  try simp only [Act.put, List.setIfInBounds_toArray, List.set_cons_zero, List.set_cons_succ]
  refine wpAnyG_pure (i := 2) (oi := ⟨some 31, _, _, _, _, _⟩) (v := (.string lt)) rfl (by kernel_rfl) (by kernel_rfl) (by kernel_rfl) (by rfl) (fun _ _ _ h => h) (by rfl) ?_ ?_
  · intro w
    go_simp; first | done | (intro hx; exact absurd hx (by omega))
  try simp only [Act.put, List.setIfInBounds_toArray, List.set_cons_zero, List.set_cons_succ]
  refine wpAnyG_pure (i := 3) (oi := ⟨some 32, _, _, _, _, _⟩) (v := ?_) rfl (by kernel_rfl) (by kernel_rfl) (by kernel_rfl) (by rfl) (fun _ _ _ h => h) (by rfl) ?_ ?_
  rotate_left
  · intro w
    go_simp
    first | done | with_reducible rfl
  try simp only [Act.put, List.setIfInBounds_toArray, List.set_cons_zero, List.set_cons_succ]
  refine wpAnyG_load (i := 4) (oi := ⟨some 33, _, _, _, _, _⟩) (v := (.string k)) rfl (by kernel_rfl) (by kernel_rfl) (by kernel_rfl) (by rfl) (fun _ _ _ h => h) (by rfl) ?_ (by assumption) ?_
  · intro w hS
    go_simp
  try simp only [Act.put, List.setIfInBounds_toArray, List.set_cons_zero, List.set_cons_succ]
  refine wpAnyG_pure (i := 5) (oi := ⟨some 34, _, _, _, _, _⟩) (v := (.string r)) rfl (by kernel_rfl) (by kernel_rfl) (by kernel_rfl) (by rfl) (fun _ _ _ h => h) (by rfl) ?_ ?_
  · intro w
    go_simp; first | done | (intro hx; exact absurd hx (by omega))
  try simp only [Act.put, List.setIfInBounds_toArray, List.set_cons_zero, List.set_cons_succ]
  refine wpAnyG_pure (i := 6) (oi := ⟨some 8, _, _, _, _, _⟩) (v := ?_) rfl (by kernel_rfl) (by kernel_rfl) (by kernel_rfl) (by rfl) (fun _ _ _ h => h) (by rfl) ?_ ?_
  rotate_left
  · intro w
    go_simp
    first | done | with_reducible rfl
  try simp only [Act.put, List.setIfInBounds_toArray, List.set_cons_zero, List.set_cons_succ]
  refine wpAnyG_pure (i := 7) (oi := ⟨some 9, _, _, _, _, _⟩) (v := ?_) rfl (by kernel_rfl) (by kernel_rfl) (by kernel_rfl) (by rfl) (fun _ _ _ h => h) (by rfl) ?_ ?_
  rotate_left
  · intro w
    go_simp
    first | done | with_reducible rfl
  try simp only [Act.put, List.setIfInBounds_toArray, List.set_cons_zero, List.set_cons_succ]
  refine wpAnyG_done (by kernel_rfl) ?_ _
  refine NoPanic.normal ?_
  have d1 := HD.out _ h
  have KM2 := KM _ _ HG.out.cons h
  clear KM h
  go_wp2_with (first
    | (refine KM2.mono ?_; clear KM2; rintro e w5 ⟨x, y, rfl, h⟩; have H5 := Lib.hid h; clear h)
    | (with_reducible refine (KB _).mono ?_; rintro e w2 ⟨rfl, rfl⟩))
  (try simp only [Exit.inBlock, Exit.then])
  refine bodyPost_ret (results_tmp5 rfl _ _ _) rfl ?_
  exact ⟨rfl, H5.out.drop⟩
set_option maxRecDepth 20000 in
set_option maxHeartbeats 8000000 in
theorem pidx_xno (R : List UInt8) (v : ByteArray) (w : World) (hR : R.length ≤ 1000000000000000) (hno : ∀ t, ¬ IdxR ⟨(120 :: R).toArray⟩ v t) (hG : Laid0 E L) (h : Own E w L) : Calls Tryz.prog 31 #[.agg #[.string ⟨(120 :: R).toArray⟩, .string v]] w fun e w' => e = .returned (.tuple #[.string ⟨#[]⟩, .int .i64 0, .int .i64 0, .string ⟨#[]⟩, .int .i64 141]) ∧ Own E w' L := by
  obtain ⟨fin, id, ok, hr⟩ : ∃ fin id ok, readV [.num 6, .num 8] ⟨R.toArray⟩ = ([.n fin, .n id], ok) := ⟨_, _, _, rfl⟩
  have HNO : Hid (ok = true → v.size = 0 → (0 ≤ fin ∧ fin ≤ 1099511627776) → (1 ≤ id ∧ id ≤ 4611686018427387904) → False) := Lib.hid fun e1 e2 x1 x2 => by
    rw [e1] at hr
    have y := iv_two (by omega) (by omega) hr
    have : R = byN 6 fin.toNat ++ byN 8 id.toNat := by
      have := congrArg (fun x => x.data.toList) y
      simpa using this
    refine hno _ (.inr (.inl ⟨fin, id, x1, x2, by rw [this]; rfl, ?_, rfl⟩))
    obtain ⟨⟨l⟩⟩ := v
    have hl : l.length = 0 := e2
    rw [List.eq_nil_of_length_eq_zero hl]
    rfl
  have J1 := fun w => istime_any fin w
  have J2 := fun w => isid_any id w
  obtain ⟨k, hk⟩ : ∃ k : ByteArray, k = ⟨(120 :: R).toArray⟩ := ⟨_, rfl⟩
  obtain ⟨lt, hlt⟩ : ∃ lt : ByteArray, lt = ⟨#[120]⟩ := ⟨_, rfl⟩
  obtain ⟨r, hrr⟩ : ∃ r : ByteArray, r = ⟨R.toArray⟩ := ⟨_, rfl⟩
  have e1 : k.extract 0 1 = lt := by
    rw [hk, hlt]
    exact ext_head _ _
  have e2 : k.extract 1 k.size = r := by
    rw [hk, hrr]
    exact ext_tail _ _
  have e4 : 1 ≤ k.size := by
    rw [hk, fl_size, List.length_cons]
    omega
  have e3 : k.toList.isEmpty = false := by
    rw [isEmpty_size]
    exact decide_eq_false (by omega)
  have i1 : (1 : Int) ≤ (k.size : Int) := by omega
  have l1 : (lt.toList == [109]) = false := by rw [hlt, ByteArray.toList_eq]; rfl
  have l2 : (lt.toList == [120]) = true := by rw [hlt, ByteArray.toList_eq]; rfl
  have l3 : (lt.toList == [115]) = false := by rw [hlt, ByteArray.toList_eq]; rfl
  rw [← hk]
  have h1 := h.alloc (.cells #[.string k, .string v] ITT)
  have HC : Hid (∀ w', Own E w' (Hp.blk w.heap.size ITT #[.string k, .string v] :: L) → w'.cell? ⟨w.heap.size, 0, none⟩ = some (.string k)) := Lib.hid fun w' h => (h.cell 0).trans rfl
  have HD : Hid (∀ w', Own E w' (Hp.blk w.heap.size ITT #[.string k, .string v] :: L) → w'.cell? ⟨w.heap.size, 1, none⟩ = some (.string v)) := Lib.hid fun w' h => (h.cell 1).trans rfl
  have KB := fun w => idxbad_any w
  have H1 := Lib.hid h1
  rw [← hrr] at hr
  have HG := Lib.hid hG
  have HR := Lib.hid hr
  have HZ := Lib.hid (show r.size ≤ 1000000000000000 by rw [hrr, fl_size]; exact hR)
  clear hk hlt hrr h h1 hG hno hR hr
  cases ok with
  | false =>
    go_enter Tryz.func31, Tryz.ntmps31
    go_wp2_with fail
    have h := H1.out.drew
    clear H1
    refine wp_region_text [1, 4] (fun w' => w'.cell? ⟨w.heap.size, 0, none⟩ = some (.string k)) (by kernel_rfl) ?_ (fun hS => ?_)
    · exact HC.out _ h
    refine wpAnyG_pure (i := 0) (oi := ⟨some 29, _, _, _, _, _⟩) (v := ?_) rfl (by kernel_rfl) (by kernel_rfl) (by kernel_rfl) (by rfl) (fun _ _ _ h => h) (by rfl) ?_ ?_
    rotate_left
    · intro w
      go_simp
      first | done | with_reducible rfl
    try simp only [Act.put, List.setIfInBounds_toArray, List.set_cons_zero, List.set_cons_succ]
    refine wpAnyG_load (i := 1) (oi := ⟨some 30, _, _, _, _, _⟩) (v := (.string k)) rfl (by kernel_rfl) (by kernel_rfl) (by kernel_rfl) (by rfl) (fun _ _ _ h => h) (by rfl) ?_ (by assumption) ?_
    · intro w hS
      go_simp
    try simp only [Act.put, List.setIfInBounds_toArray, List.set_cons_zero, List.set_cons_succ]
    refine wpAnyG_pure (i := 2) (oi := ⟨some 31, _, _, _, _, _⟩) (v := (.string lt)) rfl (by kernel_rfl) (by kernel_rfl) (by kernel_rfl) (by rfl) (fun _ _ _ h => h) (by rfl) ?_ ?_
    · intro w
      go_simp; first | done | (intro hx; exact absurd hx (by omega))
    try simp only [Act.put, List.setIfInBounds_toArray, List.set_cons_zero, List.set_cons_succ]
    refine wpAnyG_pure (i := 3) (oi := ⟨some 32, _, _, _, _, _⟩) (v := ?_) rfl (by kernel_rfl) (by kernel_rfl) (by kernel_rfl) (by rfl) (fun _ _ _ h => h) (by rfl) ?_ ?_
    rotate_left
    · intro w
      go_simp
      first | done | with_reducible rfl
    try simp only [Act.put, List.setIfInBounds_toArray, List.set_cons_zero, List.set_cons_succ]
    refine wpAnyG_load (i := 4) (oi := ⟨some 33, _, _, _, _, _⟩) (v := (.string k)) rfl (by kernel_rfl) (by kernel_rfl) (by kernel_rfl) (by rfl) (fun _ _ _ h => h) (by rfl) ?_ (by assumption) ?_
    · intro w hS
      go_simp
    try simp only [Act.put, List.setIfInBounds_toArray, List.set_cons_zero, List.set_cons_succ]
    refine wpAnyG_pure (i := 5) (oi := ⟨some 34, _, _, _, _, _⟩) (v := (.string r)) rfl (by kernel_rfl) (by kernel_rfl) (by kernel_rfl) (by rfl) (fun _ _ _ h => h) (by rfl) ?_ ?_
    · intro w
      go_simp; first | done | (intro hx; exact absurd hx (by omega))
    try simp only [Act.put, List.setIfInBounds_toArray, List.set_cons_zero, List.set_cons_succ]
    refine wpAnyG_pure (i := 6) (oi := ⟨some 8, _, _, _, _, _⟩) (v := ?_) rfl (by kernel_rfl) (by kernel_rfl) (by kernel_rfl) (by rfl) (fun _ _ _ h => h) (by rfl) ?_ ?_
    rotate_left
    · intro w
      go_simp
      first | done | with_reducible rfl
    try simp only [Act.put, List.setIfInBounds_toArray, List.set_cons_zero, List.set_cons_succ]
    refine wpAnyG_pure (i := 7) (oi := ⟨some 9, _, _, _, _, _⟩) (v := ?_) rfl (by kernel_rfl) (by kernel_rfl) (by kernel_rfl) (by rfl) (fun _ _ _ h => h) (by rfl) ?_ ?_
    rotate_left
    · intro w
      go_simp
      first | done | with_reducible rfl
    try simp only [Act.put, List.setIfInBounds_toArray, List.set_cons_zero, List.set_cons_succ]
    refine wpAnyG_done (by kernel_rfl) ?_ _
    refine NoPanic.normal ?_
    generalize (w.alloc (.cells #[.string k, .string v] ITT)).drew = w2 at *
    have h2 := h.alloc (.cells #[.int .i64 0] I64)
    have h3 := h2.alloc (.cells #[.int .i64 0] I64)
    rw [alloc_size] at h3
    have H3 := Lib.hid (show Own E _ (Hp.blk w2.heap.size I64 #[.int .i64 0] :: Hp.blk (w2.heap.size + 1) I64 #[.int .i64 0] :: Hp.blk w.heap.size ITT #[.string k, .string v] :: L) from h3.f1)
    have KR : Hid (∀ (bb : Nat) (w3 : World), Own E w3 (Hp.blk bb FT (([(.num 6, ⟨w2.heap.size, 0, none⟩), (.num 8, ⟨(w2.heap.size + 1), 0, none⟩)] : List (Fk × Addr)).flatMap enF).toArray :: Hp.blk w2.heap.size I64 #[.int .i64 0] :: Hp.blk (w2.heap.size + 1) I64 #[.int .i64 0] :: Hp.blk w.heap.size ITT #[.string k, .string v] :: L) → Calls Tryz.prog 67 #[.slice (some ⟨bb, 0, none⟩) 2 2, .string r] w3 fun e w' => e = .returned (.bool false) ∧ Own E w' (Hp.blk w2.heap.size I64 #[.int .i64 fin] :: Hp.blk (w2.heap.size + 1) I64 #[.int .i64 id] :: Hp.blk w.heap.size ITT #[.string k, .string v] :: L)) := Lib.hid fun bb w3 h3 => rd2 bb _ _ 6 8 fin id false _ _ r w3 HZ.out HR.out HG.out.cons h3
    have K1 := fun (wq : World) (M : List Hp) (h : Own E wq M) => fnum_any (E := E) (L := M) 6 ⟨w2.heap.size, 0, none⟩ wq h
    have K2 := fun (wq : World) (M : List Hp) (h : Own E wq M) => fnum_any (E := E) (L := M) 8 ⟨(w2.heap.size + 1), 0, none⟩ wq h
    simp only [enF, show ((8 : Nat) : Int) = 8 from rfl, show ((6 : Nat) : Int) = 6 from rfl] at K1 K2
    have HQ : Hid (∀ w', Own E w' (Hp.blk w2.heap.size I64 #[.int .i64 fin] :: Hp.blk (w2.heap.size + 1) I64 #[.int .i64 id] :: Hp.blk w.heap.size ITT #[.string k, .string v] :: L) → w'.cell? ⟨w.heap.size, 1, none⟩ = some (.string v) ∧ w'.cell? ⟨w2.heap.size, 0, none⟩ = some (.int .i64 fin) ∧ w'.cell? ⟨(w2.heap.size + 1), 0, none⟩ = some (.int .i64 id)) := Lib.hid fun w' h => ⟨(h.f2.cell 1).trans rfl, (h.cell 0).trans rfl, (h.f1.cell 0).trans rfl⟩
    clear h h2 h3 HC HD
    go_wp2_with (first
      | (with_reducible refine (K1 _ _ H3.out).mono ?_; clear H3; rintro e w4 ⟨rfl, h⟩; have H3 := Lib.hid h; clear h)
      | (with_reducible refine (K2 _ _ H3.out).mono ?_; clear H3; rintro e w4 ⟨rfl, h⟩; have H3 := Lib.hid h; clear h)
      | (with_reducible refine (KB _).mono ?_; rintro e w2 ⟨rfl, rfl⟩)
      | (refine (KR.out _ _ (H3.out.alloc _)).mono ?_; clear H3 KR; rintro e w5 ⟨rfl, h⟩; have H3 := Lib.hid h; clear h; obtain ⟨c1, c2, c3⟩ := HQ.out _ H3.out))
    (try simp only [Exit.inBlock, Exit.then])
    refine bodyPost_ret (results_tmp5 rfl _ _ _) rfl ?_
    exact ⟨rfl, H3.out.drop.drop.drop⟩
  | true =>
    by_cases hv : v.size = 0
    · have v1 : v.toList.isEmpty = true := by rw [isEmpty_size, decide_eq_true hv]
      by_cases hf : 0 ≤ fin ∧ fin ≤ 1099511627776
      · have hi : ¬ (1 ≤ id ∧ id ≤ 4611686018427387904) := fun hi => HNO.out rfl hv hf hi
        rw [decide_eq_true hf] at J1
        rw [decide_eq_false hi] at J2
        clear hf hi hv
        go_enter Tryz.func31, Tryz.ntmps31
        go_wp2_with fail
        have h := H1.out.drew
        clear H1
        refine wp_region_text [1, 4] (fun w' => w'.cell? ⟨w.heap.size, 0, none⟩ = some (.string k)) (by kernel_rfl) ?_ (fun hS => ?_)
        · exact HC.out _ h
        refine wpAnyG_pure (i := 0) (oi := ⟨some 29, _, _, _, _, _⟩) (v := ?_) rfl (by kernel_rfl) (by kernel_rfl) (by kernel_rfl) (by rfl) (fun _ _ _ h => h) (by rfl) ?_ ?_
        rotate_left
        · intro w
          go_simp
          first | done | with_reducible rfl
        try simp only [Act.put, List.setIfInBounds_toArray, List.set_cons_zero, List.set_cons_succ]
        refine wpAnyG_load (i := 1) (oi := ⟨some 30, _, _, _, _, _⟩) (v := (.string k)) rfl (by kernel_rfl) (by kernel_rfl) (by kernel_rfl) (by rfl) (fun _ _ _ h => h) (by rfl) ?_ (by assumption) ?_
        · intro w hS
          go_simp
        try simp only [Act.put, List.setIfInBounds_toArray, List.set_cons_zero, List.set_cons_succ]
        refine wpAnyG_pure (i := 2) (oi := ⟨some 31, _, _, _, _, _⟩) (v := (.string lt)) rfl (by kernel_rfl) (by kernel_rfl) (by kernel_rfl) (by rfl) (fun _ _ _ h => h) (by rfl) ?_ ?_
        · intro w
          go_simp; first | done | (intro hx; exact absurd hx (by omega))
        try simp only [Act.put, List.setIfInBounds_toArray, List.set_cons_zero, List.set_cons_succ]
        refine wpAnyG_pure (i := 3) (oi := ⟨some 32, _, _, _, _, _⟩) (v := ?_) rfl (by kernel_rfl) (by kernel_rfl) (by kernel_rfl) (by rfl) (fun _ _ _ h => h) (by rfl) ?_ ?_
        rotate_left
        · intro w
          go_simp
          first | done | with_reducible rfl
        try simp only [Act.put, List.setIfInBounds_toArray, List.set_cons_zero, List.set_cons_succ]
        refine wpAnyG_load (i := 4) (oi := ⟨some 33, _, _, _, _, _⟩) (v := (.string k)) rfl (by kernel_rfl) (by kernel_rfl) (by kernel_rfl) (by rfl) (fun _ _ _ h => h) (by rfl) ?_ (by assumption) ?_
        · intro w hS
          go_simp
        try simp only [Act.put, List.setIfInBounds_toArray, List.set_cons_zero, List.set_cons_succ]
        refine wpAnyG_pure (i := 5) (oi := ⟨some 34, _, _, _, _, _⟩) (v := (.string r)) rfl (by kernel_rfl) (by kernel_rfl) (by kernel_rfl) (by rfl) (fun _ _ _ h => h) (by rfl) ?_ ?_
        · intro w
          go_simp; first | done | (intro hx; exact absurd hx (by omega))
        try simp only [Act.put, List.setIfInBounds_toArray, List.set_cons_zero, List.set_cons_succ]
        refine wpAnyG_pure (i := 6) (oi := ⟨some 8, _, _, _, _, _⟩) (v := ?_) rfl (by kernel_rfl) (by kernel_rfl) (by kernel_rfl) (by rfl) (fun _ _ _ h => h) (by rfl) ?_ ?_
        rotate_left
        · intro w
          go_simp
          first | done | with_reducible rfl
        try simp only [Act.put, List.setIfInBounds_toArray, List.set_cons_zero, List.set_cons_succ]
        refine wpAnyG_pure (i := 7) (oi := ⟨some 9, _, _, _, _, _⟩) (v := ?_) rfl (by kernel_rfl) (by kernel_rfl) (by kernel_rfl) (by rfl) (fun _ _ _ h => h) (by rfl) ?_ ?_
        rotate_left
        · intro w
          go_simp
          first | done | with_reducible rfl
        try simp only [Act.put, List.setIfInBounds_toArray, List.set_cons_zero, List.set_cons_succ]
        refine wpAnyG_done (by kernel_rfl) ?_ _
        refine NoPanic.normal ?_
        generalize (w.alloc (.cells #[.string k, .string v] ITT)).drew = w2 at *
        have h2 := h.alloc (.cells #[.int .i64 0] I64)
        have h3 := h2.alloc (.cells #[.int .i64 0] I64)
        rw [alloc_size] at h3
        have H3 := Lib.hid (show Own E _ (Hp.blk w2.heap.size I64 #[.int .i64 0] :: Hp.blk (w2.heap.size + 1) I64 #[.int .i64 0] :: Hp.blk w.heap.size ITT #[.string k, .string v] :: L) from h3.f1)
        have KR : Hid (∀ (bb : Nat) (w3 : World), Own E w3 (Hp.blk bb FT (([(.num 6, ⟨w2.heap.size, 0, none⟩), (.num 8, ⟨(w2.heap.size + 1), 0, none⟩)] : List (Fk × Addr)).flatMap enF).toArray :: Hp.blk w2.heap.size I64 #[.int .i64 0] :: Hp.blk (w2.heap.size + 1) I64 #[.int .i64 0] :: Hp.blk w.heap.size ITT #[.string k, .string v] :: L) → Calls Tryz.prog 67 #[.slice (some ⟨bb, 0, none⟩) 2 2, .string r] w3 fun e w' => e = .returned (.bool true) ∧ Own E w' (Hp.blk w2.heap.size I64 #[.int .i64 fin] :: Hp.blk (w2.heap.size + 1) I64 #[.int .i64 id] :: Hp.blk w.heap.size ITT #[.string k, .string v] :: L)) := Lib.hid fun bb w3 h3 => rd2 bb _ _ 6 8 fin id true _ _ r w3 HZ.out HR.out HG.out.cons h3
        have K1 := fun (wq : World) (M : List Hp) (h : Own E wq M) => fnum_any (E := E) (L := M) 6 ⟨w2.heap.size, 0, none⟩ wq h
        have K2 := fun (wq : World) (M : List Hp) (h : Own E wq M) => fnum_any (E := E) (L := M) 8 ⟨(w2.heap.size + 1), 0, none⟩ wq h
        simp only [enF, show ((8 : Nat) : Int) = 8 from rfl, show ((6 : Nat) : Int) = 6 from rfl] at K1 K2
        have HQ : Hid (∀ w', Own E w' (Hp.blk w2.heap.size I64 #[.int .i64 fin] :: Hp.blk (w2.heap.size + 1) I64 #[.int .i64 id] :: Hp.blk w.heap.size ITT #[.string k, .string v] :: L) → w'.cell? ⟨w.heap.size, 1, none⟩ = some (.string v) ∧ w'.cell? ⟨w2.heap.size, 0, none⟩ = some (.int .i64 fin) ∧ w'.cell? ⟨(w2.heap.size + 1), 0, none⟩ = some (.int .i64 id)) := Lib.hid fun w' h => ⟨(h.f2.cell 1).trans rfl, (h.cell 0).trans rfl, (h.f1.cell 0).trans rfl⟩
        clear h h2 h3 HC HD
        go_wp2_with (first
          | (with_reducible refine (K1 _ _ H3.out).mono ?_; clear H3; rintro e w4 ⟨rfl, h⟩; have H3 := Lib.hid h; clear h)
          | (with_reducible refine (K2 _ _ H3.out).mono ?_; clear H3; rintro e w4 ⟨rfl, h⟩; have H3 := Lib.hid h; clear h)
          | (with_reducible refine (J1 _).mono ?_; rintro e w4 ⟨rfl, rfl⟩)
          | (with_reducible refine (J2 _).mono ?_; rintro e w4 ⟨rfl, rfl⟩)
          | (with_reducible refine (KB _).mono ?_; rintro e w2 ⟨rfl, rfl⟩)
          | (refine (KR.out _ _ (H3.out.alloc _)).mono ?_; clear H3 KR; rintro e w5 ⟨rfl, h⟩; have H3 := Lib.hid h; clear h; obtain ⟨c1, c2, c3⟩ := HQ.out _ H3.out))
        (try simp only [Exit.inBlock, Exit.then])
        refine bodyPost_ret (results_tmp5 rfl _ _ _) rfl ?_
        exact ⟨rfl, H3.out.drop.drop.drop⟩
      · rw [decide_eq_false hf] at J1
        clear hf hv
        go_enter Tryz.func31, Tryz.ntmps31
        go_wp2_with fail
        have h := H1.out.drew
        clear H1
        refine wp_region_text [1, 4] (fun w' => w'.cell? ⟨w.heap.size, 0, none⟩ = some (.string k)) (by kernel_rfl) ?_ (fun hS => ?_)
        · exact HC.out _ h
        refine wpAnyG_pure (i := 0) (oi := ⟨some 29, _, _, _, _, _⟩) (v := ?_) rfl (by kernel_rfl) (by kernel_rfl) (by kernel_rfl) (by rfl) (fun _ _ _ h => h) (by rfl) ?_ ?_
        rotate_left
        · intro w
          go_simp
          first | done | with_reducible rfl
        try simp only [Act.put, List.setIfInBounds_toArray, List.set_cons_zero, List.set_cons_succ]
        refine wpAnyG_load (i := 1) (oi := ⟨some 30, _, _, _, _, _⟩) (v := (.string k)) rfl (by kernel_rfl) (by kernel_rfl) (by kernel_rfl) (by rfl) (fun _ _ _ h => h) (by rfl) ?_ (by assumption) ?_
        · intro w hS
          go_simp
        try simp only [Act.put, List.setIfInBounds_toArray, List.set_cons_zero, List.set_cons_succ]
        refine wpAnyG_pure (i := 2) (oi := ⟨some 31, _, _, _, _, _⟩) (v := (.string lt)) rfl (by kernel_rfl) (by kernel_rfl) (by kernel_rfl) (by rfl) (fun _ _ _ h => h) (by rfl) ?_ ?_
        · intro w
          go_simp; first | done | (intro hx; exact absurd hx (by omega))
        try simp only [Act.put, List.setIfInBounds_toArray, List.set_cons_zero, List.set_cons_succ]
        refine wpAnyG_pure (i := 3) (oi := ⟨some 32, _, _, _, _, _⟩) (v := ?_) rfl (by kernel_rfl) (by kernel_rfl) (by kernel_rfl) (by rfl) (fun _ _ _ h => h) (by rfl) ?_ ?_
        rotate_left
        · intro w
          go_simp
          first | done | with_reducible rfl
        try simp only [Act.put, List.setIfInBounds_toArray, List.set_cons_zero, List.set_cons_succ]
        refine wpAnyG_load (i := 4) (oi := ⟨some 33, _, _, _, _, _⟩) (v := (.string k)) rfl (by kernel_rfl) (by kernel_rfl) (by kernel_rfl) (by rfl) (fun _ _ _ h => h) (by rfl) ?_ (by assumption) ?_
        · intro w hS
          go_simp
        try simp only [Act.put, List.setIfInBounds_toArray, List.set_cons_zero, List.set_cons_succ]
        refine wpAnyG_pure (i := 5) (oi := ⟨some 34, _, _, _, _, _⟩) (v := (.string r)) rfl (by kernel_rfl) (by kernel_rfl) (by kernel_rfl) (by rfl) (fun _ _ _ h => h) (by rfl) ?_ ?_
        · intro w
          go_simp; first | done | (intro hx; exact absurd hx (by omega))
        try simp only [Act.put, List.setIfInBounds_toArray, List.set_cons_zero, List.set_cons_succ]
        refine wpAnyG_pure (i := 6) (oi := ⟨some 8, _, _, _, _, _⟩) (v := ?_) rfl (by kernel_rfl) (by kernel_rfl) (by kernel_rfl) (by rfl) (fun _ _ _ h => h) (by rfl) ?_ ?_
        rotate_left
        · intro w
          go_simp
          first | done | with_reducible rfl
        try simp only [Act.put, List.setIfInBounds_toArray, List.set_cons_zero, List.set_cons_succ]
        refine wpAnyG_pure (i := 7) (oi := ⟨some 9, _, _, _, _, _⟩) (v := ?_) rfl (by kernel_rfl) (by kernel_rfl) (by kernel_rfl) (by rfl) (fun _ _ _ h => h) (by rfl) ?_ ?_
        rotate_left
        · intro w
          go_simp
          first | done | with_reducible rfl
        try simp only [Act.put, List.setIfInBounds_toArray, List.set_cons_zero, List.set_cons_succ]
        refine wpAnyG_done (by kernel_rfl) ?_ _
        refine NoPanic.normal ?_
        generalize (w.alloc (.cells #[.string k, .string v] ITT)).drew = w2 at *
        have h2 := h.alloc (.cells #[.int .i64 0] I64)
        have h3 := h2.alloc (.cells #[.int .i64 0] I64)
        rw [alloc_size] at h3
        have H3 := Lib.hid (show Own E _ (Hp.blk w2.heap.size I64 #[.int .i64 0] :: Hp.blk (w2.heap.size + 1) I64 #[.int .i64 0] :: Hp.blk w.heap.size ITT #[.string k, .string v] :: L) from h3.f1)
        have KR : Hid (∀ (bb : Nat) (w3 : World), Own E w3 (Hp.blk bb FT (([(.num 6, ⟨w2.heap.size, 0, none⟩), (.num 8, ⟨(w2.heap.size + 1), 0, none⟩)] : List (Fk × Addr)).flatMap enF).toArray :: Hp.blk w2.heap.size I64 #[.int .i64 0] :: Hp.blk (w2.heap.size + 1) I64 #[.int .i64 0] :: Hp.blk w.heap.size ITT #[.string k, .string v] :: L) → Calls Tryz.prog 67 #[.slice (some ⟨bb, 0, none⟩) 2 2, .string r] w3 fun e w' => e = .returned (.bool true) ∧ Own E w' (Hp.blk w2.heap.size I64 #[.int .i64 fin] :: Hp.blk (w2.heap.size + 1) I64 #[.int .i64 id] :: Hp.blk w.heap.size ITT #[.string k, .string v] :: L)) := Lib.hid fun bb w3 h3 => rd2 bb _ _ 6 8 fin id true _ _ r w3 HZ.out HR.out HG.out.cons h3
        have K1 := fun (wq : World) (M : List Hp) (h : Own E wq M) => fnum_any (E := E) (L := M) 6 ⟨w2.heap.size, 0, none⟩ wq h
        have K2 := fun (wq : World) (M : List Hp) (h : Own E wq M) => fnum_any (E := E) (L := M) 8 ⟨(w2.heap.size + 1), 0, none⟩ wq h
        simp only [enF, show ((8 : Nat) : Int) = 8 from rfl, show ((6 : Nat) : Int) = 6 from rfl] at K1 K2
        have HQ : Hid (∀ w', Own E w' (Hp.blk w2.heap.size I64 #[.int .i64 fin] :: Hp.blk (w2.heap.size + 1) I64 #[.int .i64 id] :: Hp.blk w.heap.size ITT #[.string k, .string v] :: L) → w'.cell? ⟨w.heap.size, 1, none⟩ = some (.string v) ∧ w'.cell? ⟨w2.heap.size, 0, none⟩ = some (.int .i64 fin) ∧ w'.cell? ⟨(w2.heap.size + 1), 0, none⟩ = some (.int .i64 id)) := Lib.hid fun w' h => ⟨(h.f2.cell 1).trans rfl, (h.cell 0).trans rfl, (h.f1.cell 0).trans rfl⟩
        clear h h2 h3 HC HD
        go_wp2_with (first
          | (with_reducible refine (K1 _ _ H3.out).mono ?_; clear H3; rintro e w4 ⟨rfl, h⟩; have H3 := Lib.hid h; clear h)
          | (with_reducible refine (K2 _ _ H3.out).mono ?_; clear H3; rintro e w4 ⟨rfl, h⟩; have H3 := Lib.hid h; clear h)
          | (with_reducible refine (J1 _).mono ?_; rintro e w4 ⟨rfl, rfl⟩)
          | (with_reducible refine (KB _).mono ?_; rintro e w2 ⟨rfl, rfl⟩)
          | (refine (KR.out _ _ (H3.out.alloc _)).mono ?_; clear H3 KR; rintro e w5 ⟨rfl, h⟩; have H3 := Lib.hid h; clear h; obtain ⟨c1, c2, c3⟩ := HQ.out _ H3.out))
        (try simp only [Exit.inBlock, Exit.then])
        refine bodyPost_ret (results_tmp5 rfl _ _ _) rfl ?_
        exact ⟨rfl, H3.out.drop.drop.drop⟩
    · have v1 : v.toList.isEmpty = false := by rw [isEmpty_size, decide_eq_false hv]
      clear hv
      go_enter Tryz.func31, Tryz.ntmps31
      go_wp2_with fail
      have h := H1.out.drew
      clear H1
      refine wp_region_text [1, 4] (fun w' => w'.cell? ⟨w.heap.size, 0, none⟩ = some (.string k)) (by kernel_rfl) ?_ (fun hS => ?_)
      · exact HC.out _ h
      refine wpAnyG_pure (i := 0) (oi := ⟨some 29, _, _, _, _, _⟩) (v := ?_) rfl (by kernel_rfl) (by kernel_rfl) (by kernel_rfl) (by rfl) (fun _ _ _ h => h) (by rfl) ?_ ?_
      rotate_left
      · intro w
        go_simp
        first | done | with_reducible rfl
      try simp only [Act.put, List.setIfInBounds_toArray, List.set_cons_zero, List.set_cons_succ]
      refine wpAnyG_load (i := 1) (oi := ⟨some 30, _, _, _, _, _⟩) (v := (.string k)) rfl (by kernel_rfl) (by kernel_rfl) (by kernel_rfl) (by rfl) (fun _ _ _ h => h) (by rfl) ?_ (by assumption) ?_
      · intro w hS
        go_simp
      try simp only [Act.put, List.setIfInBounds_toArray, List.set_cons_zero, List.set_cons_succ]
      refine wpAnyG_pure (i := 2) (oi := ⟨some 31, _, _, _, _, _⟩) (v := (.string lt)) rfl (by kernel_rfl) (by kernel_rfl) (by kernel_rfl) (by rfl) (fun _ _ _ h => h) (by rfl) ?_ ?_
      · intro w
        go_simp; first | done | (intro hx; exact absurd hx (by omega))
      try simp only [Act.put, List.setIfInBounds_toArray, List.set_cons_zero, List.set_cons_succ]
      refine wpAnyG_pure (i := 3) (oi := ⟨some 32, _, _, _, _, _⟩) (v := ?_) rfl (by kernel_rfl) (by kernel_rfl) (by kernel_rfl) (by rfl) (fun _ _ _ h => h) (by rfl) ?_ ?_
      rotate_left
      · intro w
        go_simp
        first | done | with_reducible rfl
      try simp only [Act.put, List.setIfInBounds_toArray, List.set_cons_zero, List.set_cons_succ]
      refine wpAnyG_load (i := 4) (oi := ⟨some 33, _, _, _, _, _⟩) (v := (.string k)) rfl (by kernel_rfl) (by kernel_rfl) (by kernel_rfl) (by rfl) (fun _ _ _ h => h) (by rfl) ?_ (by assumption) ?_
      · intro w hS
        go_simp
      try simp only [Act.put, List.setIfInBounds_toArray, List.set_cons_zero, List.set_cons_succ]
      refine wpAnyG_pure (i := 5) (oi := ⟨some 34, _, _, _, _, _⟩) (v := (.string r)) rfl (by kernel_rfl) (by kernel_rfl) (by kernel_rfl) (by rfl) (fun _ _ _ h => h) (by rfl) ?_ ?_
      · intro w
        go_simp; first | done | (intro hx; exact absurd hx (by omega))
      try simp only [Act.put, List.setIfInBounds_toArray, List.set_cons_zero, List.set_cons_succ]
      refine wpAnyG_pure (i := 6) (oi := ⟨some 8, _, _, _, _, _⟩) (v := ?_) rfl (by kernel_rfl) (by kernel_rfl) (by kernel_rfl) (by rfl) (fun _ _ _ h => h) (by rfl) ?_ ?_
      rotate_left
      · intro w
        go_simp
        first | done | with_reducible rfl
      try simp only [Act.put, List.setIfInBounds_toArray, List.set_cons_zero, List.set_cons_succ]
      refine wpAnyG_pure (i := 7) (oi := ⟨some 9, _, _, _, _, _⟩) (v := ?_) rfl (by kernel_rfl) (by kernel_rfl) (by kernel_rfl) (by rfl) (fun _ _ _ h => h) (by rfl) ?_ ?_
      rotate_left
      · intro w
        go_simp
        first | done | with_reducible rfl
      try simp only [Act.put, List.setIfInBounds_toArray, List.set_cons_zero, List.set_cons_succ]
      refine wpAnyG_done (by kernel_rfl) ?_ _
      refine NoPanic.normal ?_
      generalize (w.alloc (.cells #[.string k, .string v] ITT)).drew = w2 at *
      have h2 := h.alloc (.cells #[.int .i64 0] I64)
      have h3 := h2.alloc (.cells #[.int .i64 0] I64)
      rw [alloc_size] at h3
      have H3 := Lib.hid (show Own E _ (Hp.blk w2.heap.size I64 #[.int .i64 0] :: Hp.blk (w2.heap.size + 1) I64 #[.int .i64 0] :: Hp.blk w.heap.size ITT #[.string k, .string v] :: L) from h3.f1)
      have KR : Hid (∀ (bb : Nat) (w3 : World), Own E w3 (Hp.blk bb FT (([(.num 6, ⟨w2.heap.size, 0, none⟩), (.num 8, ⟨(w2.heap.size + 1), 0, none⟩)] : List (Fk × Addr)).flatMap enF).toArray :: Hp.blk w2.heap.size I64 #[.int .i64 0] :: Hp.blk (w2.heap.size + 1) I64 #[.int .i64 0] :: Hp.blk w.heap.size ITT #[.string k, .string v] :: L) → Calls Tryz.prog 67 #[.slice (some ⟨bb, 0, none⟩) 2 2, .string r] w3 fun e w' => e = .returned (.bool true) ∧ Own E w' (Hp.blk w2.heap.size I64 #[.int .i64 fin] :: Hp.blk (w2.heap.size + 1) I64 #[.int .i64 id] :: Hp.blk w.heap.size ITT #[.string k, .string v] :: L)) := Lib.hid fun bb w3 h3 => rd2 bb _ _ 6 8 fin id true _ _ r w3 HZ.out HR.out HG.out.cons h3
      have K1 := fun (wq : World) (M : List Hp) (h : Own E wq M) => fnum_any (E := E) (L := M) 6 ⟨w2.heap.size, 0, none⟩ wq h
      have K2 := fun (wq : World) (M : List Hp) (h : Own E wq M) => fnum_any (E := E) (L := M) 8 ⟨(w2.heap.size + 1), 0, none⟩ wq h
      simp only [enF, show ((8 : Nat) : Int) = 8 from rfl, show ((6 : Nat) : Int) = 6 from rfl] at K1 K2
      have HQ : Hid (∀ w', Own E w' (Hp.blk w2.heap.size I64 #[.int .i64 fin] :: Hp.blk (w2.heap.size + 1) I64 #[.int .i64 id] :: Hp.blk w.heap.size ITT #[.string k, .string v] :: L) → w'.cell? ⟨w.heap.size, 1, none⟩ = some (.string v) ∧ w'.cell? ⟨w2.heap.size, 0, none⟩ = some (.int .i64 fin) ∧ w'.cell? ⟨(w2.heap.size + 1), 0, none⟩ = some (.int .i64 id)) := Lib.hid fun w' h => ⟨(h.f2.cell 1).trans rfl, (h.cell 0).trans rfl, (h.f1.cell 0).trans rfl⟩
      clear h h2 h3 HC HD
      go_wp2_with (first
        | (with_reducible refine (K1 _ _ H3.out).mono ?_; clear H3; rintro e w4 ⟨rfl, h⟩; have H3 := Lib.hid h; clear h)
        | (with_reducible refine (K2 _ _ H3.out).mono ?_; clear H3; rintro e w4 ⟨rfl, h⟩; have H3 := Lib.hid h; clear h)
        | (with_reducible refine (KB _).mono ?_; rintro e w2 ⟨rfl, rfl⟩)
        | (refine (KR.out _ _ (H3.out.alloc _)).mono ?_; clear H3 KR; rintro e w5 ⟨rfl, h⟩; have H3 := Lib.hid h; clear h; obtain ⟨c1, c2, c3⟩ := HQ.out _ H3.out))
      (try simp only [Exit.inBlock, Exit.then])
      refine bodyPost_ret (results_tmp5 rfl _ _ _) rfl ?_
      exact ⟨rfl, H3.out.drop.drop.drop⟩
set_option maxHeartbeats 1000000 in
theorem cut0_none (s : ByteArray) (w : World) (hi : Lib.indexByte s.data.toList 0 = -1) (h : Own E w L) :
    Calls Tryz.prog 88 #[.string s, .string ⟨#[0]⟩] w fun e w' => e = .returned (.tuple #[.string s, .string ⟨#[]⟩, .bool false]) ∧ Own E w' L := by
  have K := fun w => Tryz.stringslite_Index_one s 0 w
  rw [hi] at K
  have H := Lib.hid h
  clear hi h
  have K2 : Calls Tryz.prog 126 #[.string s, .string ⟨#[0]⟩] w fun e w' => e = .returned (.tuple #[.string s, .string ⟨#[]⟩, .bool false]) ∧ Own E w' L := by
    go_enter Tryz.func126, Tryz.ntmps126
    go_wp2_with (refine (K _).mono ?_; rintro e w2 ⟨rfl, rfl⟩)
    go_ret3
    exact ⟨rfl, H.out⟩
  clear K H
  go_enter Tryz.func88, Tryz.ntmps88
  go_wp2_with (refine K2.mono ?_; clear K2; rintro e w2 ⟨rfl, h⟩)
  go_ret3
  exact ⟨rfl, h⟩
set_option maxRecDepth 20000 in
set_option maxHeartbeats 8000000 in
theorem pidx_sno (R : List UInt8) (v : ByteArray) (w : World) (hR : R.length ≤ 1000000000000000) (hno : ∀ t, ¬ IdxR ⟨(115 :: R).toArray⟩ v t) (hG : Laid0 E L) (h : Own E w L) : Calls Tryz.prog 31 #[.agg #[.string ⟨(115 :: R).toArray⟩, .string v]] w fun e w' => e = .returned (.tuple #[.string ⟨#[]⟩, .int .i64 0, .int .i64 0, .string ⟨#[]⟩, .int .i64 141]) ∧ Own E w' L := by
  obtain ⟨su, r2, bo, hcut, hr2s, hgood⟩ : ∃ (su r2 : ByteArray) (bo : Bool), (∀ (wq : World) (M : List Hp), Own E wq M → Calls Tryz.prog 88 #[.string ⟨R.toArray⟩, .string ⟨#[0]⟩] wq fun e w' => e = .returned (.tuple #[.string su, .string r2, .bool bo]) ∧ Own E w' M) ∧ r2.size ≤ 1000000000000000 ∧ (∀ id, readV [.num 8] r2 = ([.n id], true) → R = su.data.toList ++ 0 :: byN 8 id.toNat) := by
    have hs : (⟨R.toArray⟩ : ByteArray).size = R.length := fl_size R
    have hd : (⟨R.toArray⟩ : ByteArray).data.toList = R := by simp
    by_cases hi : Lib.indexByte R 0 = -1
    · refine ⟨⟨R.toArray⟩, ⟨#[]⟩, false, fun wq M h => cut0_none _ wq (by rw [hd]; exact hi) h, Nat.zero_le _, fun id hr => ?_⟩
      have e := iv_one (by omega) hr
      have e9 : (⟨(byN 8 id.toNat).toArray⟩ : ByteArray).size = 8 := by rw [fl_size, byN_len]
      rw [← e] at e9
      cases e9
    · have hlow := index_low R
      obtain ⟨i, hi2⟩ : ∃ i : Nat, Lib.indexByte R 0 = i := ⟨(Lib.indexByte R 0).toNat, by omega⟩
      obtain ⟨h1, h2, h3⟩ := cut_at R i hi2
      have z1 : ((⟨R.toArray⟩ : ByteArray).extract 0 i).size = i := by rw [ByteArray.size_extract, hs]; omega
      refine ⟨(⟨R.toArray⟩ : ByteArray).extract 0 i, (⟨R.toArray⟩ : ByteArray).extract (i + 1) (⟨R.toArray⟩ : ByteArray).size, true, fun wq M h => cut0_any _ _ ⟨R.toArray⟩ wq (by rw [hd, z1]; exact hi2) (by rw [z1, hs]; omega) (by rw [hs]; exact hR) (by rw [z1]) (by rw [z1]) h, by rw [ByteArray.size_extract, hs]; omega, fun id hr => ?_⟩
      have e := iv_one (by omega) hr
      have e1 : ((⟨R.toArray⟩ : ByteArray).extract 0 i).data.toList = R.take i := front_data ⟨R.toArray⟩ i |>.trans (by rw [hd])
      have e2 : ((⟨R.toArray⟩ : ByteArray).extract (i + 1) (⟨R.toArray⟩ : ByteArray).size).data.toList = R.drop (i + 1) := rest_data ⟨R.toArray⟩ (i + 1) |>.trans (by rw [hd])
      rw [e1]
      rw [e] at e2
      have e3 : byN 8 id.toNat = R.drop (i + 1) := by simpa using e2
      rw [e3]
      exact h1
  obtain ⟨id, ok, hr⟩ : ∃ id ok, readV [.num 8] r2 = ([.n id], ok) := ⟨_, _, rfl⟩
  have HNO : Hid (ok = true → v.size = 0 → nameB su = true → (1 ≤ id ∧ id ≤ 4611686018427387904) → False) := Lib.hid fun e1 e2 x1 x2 => by
    rw [e1] at hr
    have := hgood id hr
    refine hno _ (.inr (.inr ⟨su, id, x1, x2, by rw [this]; rfl, ?_, rfl⟩))
    obtain ⟨⟨l⟩⟩ := v
    have hl : l.length = 0 := e2
    rw [List.eq_nil_of_length_eq_zero hl]
    rfl
  have KN : Hid (∀ (wq : World) (M : List Hp), Own E wq M → Calls Tryz.prog 74 #[.string su] wq fun e w' => e = .returned (.bool (nameB su)) ∧ Own E w' M) := Lib.hid fun wq M h => isname_any (E := E) (L := M) su wq h
  have J2 := fun w => isid_any id w
  obtain ⟨k, hk⟩ : ∃ k : ByteArray, k = ⟨(115 :: R).toArray⟩ := ⟨_, rfl⟩
  obtain ⟨lt, hlt⟩ : ∃ lt : ByteArray, lt = ⟨#[115]⟩ := ⟨_, rfl⟩
  obtain ⟨r, hrr⟩ : ∃ r : ByteArray, r = ⟨R.toArray⟩ := ⟨_, rfl⟩
  have e1 : k.extract 0 1 = lt := by
    rw [hk, hlt]
    exact ext_head _ _
  have e2 : k.extract 1 k.size = r := by
    rw [hk, hrr]
    exact ext_tail _ _
  have e4 : 1 ≤ k.size := by
    rw [hk, fl_size, List.length_cons]
    omega
  have e3 : k.toList.isEmpty = false := by
    rw [isEmpty_size]
    exact decide_eq_false (by omega)
  have i1 : (1 : Int) ≤ (k.size : Int) := by omega
  have l1 : (lt.toList == [109]) = false := by rw [hlt, ByteArray.toList_eq]; rfl
  have l2 : (lt.toList == [120]) = false := by rw [hlt, ByteArray.toList_eq]; rfl
  have l3 : (lt.toList == [115]) = true := by rw [hlt, ByteArray.toList_eq]; rfl
  rw [← hk]
  have h1 := h.alloc (.cells #[.string k, .string v] ITT)
  have HC : Hid (∀ w', Own E w' (Hp.blk w.heap.size ITT #[.string k, .string v] :: L) → w'.cell? ⟨w.heap.size, 0, none⟩ = some (.string k)) := Lib.hid fun w' h => (h.cell 0).trans rfl
  have HD : Hid (∀ w', Own E w' (Hp.blk w.heap.size ITT #[.string k, .string v] :: L) → w'.cell? ⟨w.heap.size, 1, none⟩ = some (.string v)) := Lib.hid fun w' h => (h.cell 1).trans rfl
  have KB := fun w => idxbad_any w
  have H1 := Lib.hid h1
  rw [← hrr] at hcut
  have KC := Lib.hid hcut
  have HG := Lib.hid hG
  have HR := Lib.hid hr
  have HZ := Lib.hid hr2s
  clear hk hlt hrr h h1 hG hno hR hr hcut hr2s hgood
  cases ok with
  | false =>
    go_enter Tryz.func31, Tryz.ntmps31
    go_wp2_with fail
    have h := H1.out.drew
    clear H1
    refine wp_region_text [1, 4] (fun w' => w'.cell? ⟨w.heap.size, 0, none⟩ = some (.string k)) (by kernel_rfl) ?_ (fun hS => ?_)
    · exact HC.out _ h
    refine wpAnyG_pure (i := 0) (oi := ⟨some 29, _, _, _, _, _⟩) (v := ?_) rfl (by kernel_rfl) (by kernel_rfl) (by kernel_rfl) (by rfl) (fun _ _ _ h => h) (by rfl) ?_ ?_
    rotate_left
    · intro w
      go_simp
      first | done | with_reducible rfl
    try simp only [Act.put, List.setIfInBounds_toArray, List.set_cons_zero, List.set_cons_succ]
    refine wpAnyG_load (i := 1) (oi := ⟨some 30, _, _, _, _, _⟩) (v := (.string k)) rfl (by kernel_rfl) (by kernel_rfl) (by kernel_rfl) (by rfl) (fun _ _ _ h => h) (by rfl) ?_ (by assumption) ?_
    · intro w hS
      go_simp
    try simp only [Act.put, List.setIfInBounds_toArray, List.set_cons_zero, List.set_cons_succ]
    refine wpAnyG_pure (i := 2) (oi := ⟨some 31, _, _, _, _, _⟩) (v := (.string lt)) rfl (by kernel_rfl) (by kernel_rfl) (by kernel_rfl) (by rfl) (fun _ _ _ h => h) (by rfl) ?_ ?_
    · intro w
      go_simp; first | done | (intro hx; exact absurd hx (by omega))
    try simp only [Act.put, List.setIfInBounds_toArray, List.set_cons_zero, List.set_cons_succ]
    refine wpAnyG_pure (i := 3) (oi := ⟨some 32, _, _, _, _, _⟩) (v := ?_) rfl (by kernel_rfl) (by kernel_rfl) (by kernel_rfl) (by rfl) (fun _ _ _ h => h) (by rfl) ?_ ?_
    rotate_left
    · intro w
      go_simp
      first | done | with_reducible rfl
    try simp only [Act.put, List.setIfInBounds_toArray, List.set_cons_zero, List.set_cons_succ]
    refine wpAnyG_load (i := 4) (oi := ⟨some 33, _, _, _, _, _⟩) (v := (.string k)) rfl (by kernel_rfl) (by kernel_rfl) (by kernel_rfl) (by rfl) (fun _ _ _ h => h) (by rfl) ?_ (by assumption) ?_
    · intro w hS
      go_simp
    try simp only [Act.put, List.setIfInBounds_toArray, List.set_cons_zero, List.set_cons_succ]
    refine wpAnyG_pure (i := 5) (oi := ⟨some 34, _, _, _, _, _⟩) (v := (.string r)) rfl (by kernel_rfl) (by kernel_rfl) (by kernel_rfl) (by rfl) (fun _ _ _ h => h) (by rfl) ?_ ?_
    · intro w
      go_simp; first | done | (intro hx; exact absurd hx (by omega))
    try simp only [Act.put, List.setIfInBounds_toArray, List.set_cons_zero, List.set_cons_succ]
    refine wpAnyG_pure (i := 6) (oi := ⟨some 8, _, _, _, _, _⟩) (v := ?_) rfl (by kernel_rfl) (by kernel_rfl) (by kernel_rfl) (by rfl) (fun _ _ _ h => h) (by rfl) ?_ ?_
    rotate_left
    · intro w
      go_simp
      first | done | with_reducible rfl
    try simp only [Act.put, List.setIfInBounds_toArray, List.set_cons_zero, List.set_cons_succ]
    refine wpAnyG_pure (i := 7) (oi := ⟨some 9, _, _, _, _, _⟩) (v := ?_) rfl (by kernel_rfl) (by kernel_rfl) (by kernel_rfl) (by rfl) (fun _ _ _ h => h) (by rfl) ?_ ?_
    rotate_left
    · intro w
      go_simp
      first | done | with_reducible rfl
    try simp only [Act.put, List.setIfInBounds_toArray, List.set_cons_zero, List.set_cons_succ]
    refine wpAnyG_done (by kernel_rfl) ?_ _
    refine NoPanic.normal ?_
    have KC2 := KC.out _ _ h
    clear KC h HC
    go_wp2_with (refine KC2.mono ?_; clear KC2; rintro e w3 ⟨rfl, h⟩; have H3 := Lib.hid (h.alloc (.cells #[.int .i64 0] I64)); clear h; have K1 := fun (wq : World) (M : List Hp) (h : Own E wq M) => fnum_any (E := E) (L := M) 8 ⟨w3.heap.size, 0, none⟩ wq h; simp only [enF, show ((8 : Nat) : Int) = 8 from rfl] at K1)
    have KR : Hid (∀ (bb : Nat) (w5 : World), Own E w5 (Hp.blk bb FT (([(.num 8, ⟨w3.heap.size, 0, none⟩)] : List (Fk × Addr)).flatMap enF).toArray :: Hp.blk w3.heap.size I64 #[.int .i64 0] :: Hp.blk w.heap.size ITT #[.string k, .string v] :: L) → Calls Tryz.prog 67 #[.slice (some ⟨bb, 0, none⟩) 1 1, .string r2] w5 fun e w' => e = .returned (.bool false) ∧ Own E w' (Hp.blk w3.heap.size I64 #[.int .i64 id] :: Hp.blk w.heap.size ITT #[.string k, .string v] :: L)) := Lib.hid fun bb w5 h3 => rd1 bb _ 8 id false _ r2 w5 HZ.out HR.out HG.out.cons h3
    have HQ : Hid (∀ w', Own E w' (Hp.blk w3.heap.size I64 #[.int .i64 id] :: Hp.blk w.heap.size ITT #[.string k, .string v] :: L) → w'.cell? ⟨w.heap.size, 1, none⟩ = some (.string v) ∧ w'.cell? ⟨w3.heap.size, 0, none⟩ = some (.int .i64 id)) := Lib.hid fun w' h => ⟨(h.f1.cell 1).trans rfl, (h.cell 0).trans rfl⟩
    clear HD
    go_wp2_with (first
      | (with_reducible refine (K1 _ _ H3.out).mono ?_; clear H3; rintro e w4 ⟨rfl, h⟩; have H3 := Lib.hid h; clear h)
      | (with_reducible refine (KB _).mono ?_; rintro e w2 ⟨rfl, rfl⟩)
      | (refine (KR.out _ _ (H3.out.alloc _)).mono ?_; clear H3 KR; rintro e w5 ⟨rfl, h⟩; have H3 := Lib.hid h; clear h; obtain ⟨c1, c2⟩ := HQ.out _ H3.out))
    (try simp only [Exit.inBlock, Exit.then])
    refine bodyPost_ret (results_tmp5 rfl _ _ _) rfl ?_
    exact ⟨rfl, H3.out.drop.drop⟩
  | true =>
    by_cases hv : v.size = 0
    · have v1 : v.toList.isEmpty = true := by rw [isEmpty_size, decide_eq_true hv]
      cases hn : nameB su with
      | true =>
        have hi : ¬ (1 ≤ id ∧ id ≤ 4611686018427387904) := fun hi => HNO.out rfl hv hn hi
        rw [hn] at KN
        rw [decide_eq_false hi] at J2
        clear hi hv hn
        go_enter Tryz.func31, Tryz.ntmps31
        go_wp2_with fail
        have h := H1.out.drew
        clear H1
        refine wp_region_text [1, 4] (fun w' => w'.cell? ⟨w.heap.size, 0, none⟩ = some (.string k)) (by kernel_rfl) ?_ (fun hS => ?_)
        · exact HC.out _ h
        refine wpAnyG_pure (i := 0) (oi := ⟨some 29, _, _, _, _, _⟩) (v := ?_) rfl (by kernel_rfl) (by kernel_rfl) (by kernel_rfl) (by rfl) (fun _ _ _ h => h) (by rfl) ?_ ?_
        rotate_left
        · intro w
          go_simp
          first | done | with_reducible rfl
        try simp only [Act.put, List.setIfInBounds_toArray, List.set_cons_zero, List.set_cons_succ]
        refine wpAnyG_load (i := 1) (oi := ⟨some 30, _, _, _, _, _⟩) (v := (.string k)) rfl (by kernel_rfl) (by kernel_rfl) (by kernel_rfl) (by rfl) (fun _ _ _ h => h) (by rfl) ?_ (by assumption) ?_
        · intro w hS
          go_simp
        try simp only [Act.put, List.setIfInBounds_toArray, List.set_cons_zero, List.set_cons_succ]
        refine wpAnyG_pure (i := 2) (oi := ⟨some 31, _, _, _, _, _⟩) (v := (.string lt)) rfl (by kernel_rfl) (by kernel_rfl) (by kernel_rfl) (by rfl) (fun _ _ _ h => h) (by rfl) ?_ ?_
        · intro w
          go_simp; first | done | (intro hx; exact absurd hx (by omega))
        try simp only [Act.put, List.setIfInBounds_toArray, List.set_cons_zero, List.set_cons_succ]
        refine wpAnyG_pure (i := 3) (oi := ⟨some 32, _, _, _, _, _⟩) (v := ?_) rfl (by kernel_rfl) (by kernel_rfl) (by kernel_rfl) (by rfl) (fun _ _ _ h => h) (by rfl) ?_ ?_
        rotate_left
        · intro w
          go_simp
          first | done | with_reducible rfl
        try simp only [Act.put, List.setIfInBounds_toArray, List.set_cons_zero, List.set_cons_succ]
        refine wpAnyG_load (i := 4) (oi := ⟨some 33, _, _, _, _, _⟩) (v := (.string k)) rfl (by kernel_rfl) (by kernel_rfl) (by kernel_rfl) (by rfl) (fun _ _ _ h => h) (by rfl) ?_ (by assumption) ?_
        · intro w hS
          go_simp
        try simp only [Act.put, List.setIfInBounds_toArray, List.set_cons_zero, List.set_cons_succ]
        refine wpAnyG_pure (i := 5) (oi := ⟨some 34, _, _, _, _, _⟩) (v := (.string r)) rfl (by kernel_rfl) (by kernel_rfl) (by kernel_rfl) (by rfl) (fun _ _ _ h => h) (by rfl) ?_ ?_
        · intro w
          go_simp; first | done | (intro hx; exact absurd hx (by omega))
        try simp only [Act.put, List.setIfInBounds_toArray, List.set_cons_zero, List.set_cons_succ]
        refine wpAnyG_pure (i := 6) (oi := ⟨some 8, _, _, _, _, _⟩) (v := ?_) rfl (by kernel_rfl) (by kernel_rfl) (by kernel_rfl) (by rfl) (fun _ _ _ h => h) (by rfl) ?_ ?_
        rotate_left
        · intro w
          go_simp
          first | done | with_reducible rfl
        try simp only [Act.put, List.setIfInBounds_toArray, List.set_cons_zero, List.set_cons_succ]
        refine wpAnyG_pure (i := 7) (oi := ⟨some 9, _, _, _, _, _⟩) (v := ?_) rfl (by kernel_rfl) (by kernel_rfl) (by kernel_rfl) (by rfl) (fun _ _ _ h => h) (by rfl) ?_ ?_
        rotate_left
        · intro w
          go_simp
          first | done | with_reducible rfl
        try simp only [Act.put, List.setIfInBounds_toArray, List.set_cons_zero, List.set_cons_succ]
        refine wpAnyG_done (by kernel_rfl) ?_ _
        refine NoPanic.normal ?_
        have KC2 := KC.out _ _ h
        clear KC h HC
        go_wp2_with (refine KC2.mono ?_; clear KC2; rintro e w3 ⟨rfl, h⟩; have H3 := Lib.hid (h.alloc (.cells #[.int .i64 0] I64)); clear h; have K1 := fun (wq : World) (M : List Hp) (h : Own E wq M) => fnum_any (E := E) (L := M) 8 ⟨w3.heap.size, 0, none⟩ wq h; simp only [enF, show ((8 : Nat) : Int) = 8 from rfl] at K1)
        have KR : Hid (∀ (bb : Nat) (w5 : World), Own E w5 (Hp.blk bb FT (([(.num 8, ⟨w3.heap.size, 0, none⟩)] : List (Fk × Addr)).flatMap enF).toArray :: Hp.blk w3.heap.size I64 #[.int .i64 0] :: Hp.blk w.heap.size ITT #[.string k, .string v] :: L) → Calls Tryz.prog 67 #[.slice (some ⟨bb, 0, none⟩) 1 1, .string r2] w5 fun e w' => e = .returned (.bool true) ∧ Own E w' (Hp.blk w3.heap.size I64 #[.int .i64 id] :: Hp.blk w.heap.size ITT #[.string k, .string v] :: L)) := Lib.hid fun bb w5 h3 => rd1 bb _ 8 id true _ r2 w5 HZ.out HR.out HG.out.cons h3
        have HQ : Hid (∀ w', Own E w' (Hp.blk w3.heap.size I64 #[.int .i64 id] :: Hp.blk w.heap.size ITT #[.string k, .string v] :: L) → w'.cell? ⟨w.heap.size, 1, none⟩ = some (.string v) ∧ w'.cell? ⟨w3.heap.size, 0, none⟩ = some (.int .i64 id)) := Lib.hid fun w' h => ⟨(h.f1.cell 1).trans rfl, (h.cell 0).trans rfl⟩
        clear HD
        go_wp2_with (first
          | (with_reducible refine (K1 _ _ H3.out).mono ?_; clear H3; rintro e w4 ⟨rfl, h⟩; have H3 := Lib.hid h; clear h)
          | (with_reducible refine (J2 _).mono ?_; rintro e w4 ⟨rfl, rfl⟩)
          | (with_reducible refine (KN.out _ _ H3.out).mono ?_; clear H3 c1 c2; rintro e w4 ⟨rfl, h⟩; have H3 := Lib.hid h; clear h; obtain ⟨c1, c2⟩ := HQ.out _ H3.out)
          | (with_reducible refine (KB _).mono ?_; rintro e w2 ⟨rfl, rfl⟩)
          | (refine (KR.out _ _ (H3.out.alloc _)).mono ?_; clear H3 KR; rintro e w5 ⟨rfl, h⟩; have H3 := Lib.hid h; clear h; obtain ⟨c1, c2⟩ := HQ.out _ H3.out))
        (try simp only [Exit.inBlock, Exit.then])
        refine bodyPost_ret (results_tmp5 rfl _ _ _) rfl ?_
        exact ⟨rfl, H3.out.drop.drop⟩
      | false =>
        rw [hn] at KN
        clear hv hn
        go_enter Tryz.func31, Tryz.ntmps31
        go_wp2_with fail
        have h := H1.out.drew
        clear H1
        refine wp_region_text [1, 4] (fun w' => w'.cell? ⟨w.heap.size, 0, none⟩ = some (.string k)) (by kernel_rfl) ?_ (fun hS => ?_)
        · exact HC.out _ h
        refine wpAnyG_pure (i := 0) (oi := ⟨some 29, _, _, _, _, _⟩) (v := ?_) rfl (by kernel_rfl) (by kernel_rfl) (by kernel_rfl) (by rfl) (fun _ _ _ h => h) (by rfl) ?_ ?_
        rotate_left
        · intro w
          go_simp
          first | done | with_reducible rfl
        try simp only [Act.put, List.setIfInBounds_toArray, List.set_cons_zero, List.set_cons_succ]
        refine wpAnyG_load (i := 1) (oi := ⟨some 30, _, _, _, _, _⟩) (v := (.string k)) rfl (by kernel_rfl) (by kernel_rfl) (by kernel_rfl) (by rfl) (fun _ _ _ h => h) (by rfl) ?_ (by assumption) ?_
        · intro w hS
          go_simp
        try simp only [Act.put, List.setIfInBounds_toArray, List.set_cons_zero, List.set_cons_succ]
        refine wpAnyG_pure (i := 2) (oi := ⟨some 31, _, _, _, _, _⟩) (v := (.string lt)) rfl (by kernel_rfl) (by kernel_rfl) (by kernel_rfl) (by rfl) (fun _ _ _ h => h) (by rfl) ?_ ?_
        · intro w
          go_simp; first | done | (intro hx; exact absurd hx (by omega))
        try simp only [Act.put, List.setIfInBounds_toArray, List.set_cons_zero, List.set_cons_succ]
        refine wpAnyG_pure (i := 3) (oi := ⟨some 32, _, _, _, _, _⟩) (v := ?_) rfl (by kernel_rfl) (by kernel_rfl) (by kernel_rfl) (by rfl) (fun _ _ _ h => h) (by rfl) ?_ ?_
        rotate_left
        · intro w
          go_simp
          first | done | with_reducible rfl
        try simp only [Act.put, List.setIfInBounds_toArray, List.set_cons_zero, List.set_cons_succ]
        refine wpAnyG_load (i := 4) (oi := ⟨some 33, _, _, _, _, _⟩) (v := (.string k)) rfl (by kernel_rfl) (by kernel_rfl) (by kernel_rfl) (by rfl) (fun _ _ _ h => h) (by rfl) ?_ (by assumption) ?_
        · intro w hS
          go_simp
        try simp only [Act.put, List.setIfInBounds_toArray, List.set_cons_zero, List.set_cons_succ]
        refine wpAnyG_pure (i := 5) (oi := ⟨some 34, _, _, _, _, _⟩) (v := (.string r)) rfl (by kernel_rfl) (by kernel_rfl) (by kernel_rfl) (by rfl) (fun _ _ _ h => h) (by rfl) ?_ ?_
        · intro w
          go_simp; first | done | (intro hx; exact absurd hx (by omega))
        try simp only [Act.put, List.setIfInBounds_toArray, List.set_cons_zero, List.set_cons_succ]
        refine wpAnyG_pure (i := 6) (oi := ⟨some 8, _, _, _, _, _⟩) (v := ?_) rfl (by kernel_rfl) (by kernel_rfl) (by kernel_rfl) (by rfl) (fun _ _ _ h => h) (by rfl) ?_ ?_
        rotate_left
        · intro w
          go_simp
          first | done | with_reducible rfl
        try simp only [Act.put, List.setIfInBounds_toArray, List.set_cons_zero, List.set_cons_succ]
        refine wpAnyG_pure (i := 7) (oi := ⟨some 9, _, _, _, _, _⟩) (v := ?_) rfl (by kernel_rfl) (by kernel_rfl) (by kernel_rfl) (by rfl) (fun _ _ _ h => h) (by rfl) ?_ ?_
        rotate_left
        · intro w
          go_simp
          first | done | with_reducible rfl
        try simp only [Act.put, List.setIfInBounds_toArray, List.set_cons_zero, List.set_cons_succ]
        refine wpAnyG_done (by kernel_rfl) ?_ _
        refine NoPanic.normal ?_
        have KC2 := KC.out _ _ h
        clear KC h HC
        go_wp2_with (refine KC2.mono ?_; clear KC2; rintro e w3 ⟨rfl, h⟩; have H3 := Lib.hid (h.alloc (.cells #[.int .i64 0] I64)); clear h; have K1 := fun (wq : World) (M : List Hp) (h : Own E wq M) => fnum_any (E := E) (L := M) 8 ⟨w3.heap.size, 0, none⟩ wq h; simp only [enF, show ((8 : Nat) : Int) = 8 from rfl] at K1)
        have KR : Hid (∀ (bb : Nat) (w5 : World), Own E w5 (Hp.blk bb FT (([(.num 8, ⟨w3.heap.size, 0, none⟩)] : List (Fk × Addr)).flatMap enF).toArray :: Hp.blk w3.heap.size I64 #[.int .i64 0] :: Hp.blk w.heap.size ITT #[.string k, .string v] :: L) → Calls Tryz.prog 67 #[.slice (some ⟨bb, 0, none⟩) 1 1, .string r2] w5 fun e w' => e = .returned (.bool true) ∧ Own E w' (Hp.blk w3.heap.size I64 #[.int .i64 id] :: Hp.blk w.heap.size ITT #[.string k, .string v] :: L)) := Lib.hid fun bb w5 h3 => rd1 bb _ 8 id true _ r2 w5 HZ.out HR.out HG.out.cons h3
        have HQ : Hid (∀ w', Own E w' (Hp.blk w3.heap.size I64 #[.int .i64 id] :: Hp.blk w.heap.size ITT #[.string k, .string v] :: L) → w'.cell? ⟨w.heap.size, 1, none⟩ = some (.string v) ∧ w'.cell? ⟨w3.heap.size, 0, none⟩ = some (.int .i64 id)) := Lib.hid fun w' h => ⟨(h.f1.cell 1).trans rfl, (h.cell 0).trans rfl⟩
        clear HD
        go_wp2_with (first
          | (with_reducible refine (K1 _ _ H3.out).mono ?_; clear H3; rintro e w4 ⟨rfl, h⟩; have H3 := Lib.hid h; clear h)
          | (with_reducible refine (KN.out _ _ H3.out).mono ?_; clear H3 c1 c2; rintro e w4 ⟨rfl, h⟩; have H3 := Lib.hid h; clear h; obtain ⟨c1, c2⟩ := HQ.out _ H3.out)
          | (with_reducible refine (KB _).mono ?_; rintro e w2 ⟨rfl, rfl⟩)
          | (refine (KR.out _ _ (H3.out.alloc _)).mono ?_; clear H3 KR; rintro e w5 ⟨rfl, h⟩; have H3 := Lib.hid h; clear h; obtain ⟨c1, c2⟩ := HQ.out _ H3.out))
        (try simp only [Exit.inBlock, Exit.then])
        refine bodyPost_ret (results_tmp5 rfl _ _ _) rfl ?_
        exact ⟨rfl, H3.out.drop.drop⟩
    · have v1 : v.toList.isEmpty = false := by rw [isEmpty_size, decide_eq_false hv]
      clear hv
      go_enter Tryz.func31, Tryz.ntmps31
      go_wp2_with fail
      have h := H1.out.drew
      clear H1
      refine wp_region_text [1, 4] (fun w' => w'.cell? ⟨w.heap.size, 0, none⟩ = some (.string k)) (by kernel_rfl) ?_ (fun hS => ?_)
      · exact HC.out _ h
      refine wpAnyG_pure (i := 0) (oi := ⟨some 29, _, _, _, _, _⟩) (v := ?_) rfl (by kernel_rfl) (by kernel_rfl) (by kernel_rfl) (by rfl) (fun _ _ _ h => h) (by rfl) ?_ ?_
      rotate_left
      · intro w
        go_simp
        first | done | with_reducible rfl
      try simp only [Act.put, List.setIfInBounds_toArray, List.set_cons_zero, List.set_cons_succ]
      refine wpAnyG_load (i := 1) (oi := ⟨some 30, _, _, _, _, _⟩) (v := (.string k)) rfl (by kernel_rfl) (by kernel_rfl) (by kernel_rfl) (by rfl) (fun _ _ _ h => h) (by rfl) ?_ (by assumption) ?_
      · intro w hS
        go_simp
      try simp only [Act.put, List.setIfInBounds_toArray, List.set_cons_zero, List.set_cons_succ]
      refine wpAnyG_pure (i := 2) (oi := ⟨some 31, _, _, _, _, _⟩) (v := (.string lt)) rfl (by kernel_rfl) (by kernel_rfl) (by kernel_rfl) (by rfl) (fun _ _ _ h => h) (by rfl) ?_ ?_
      · intro w
        go_simp; first | done | (intro hx; exact absurd hx (by omega))
      try simp only [Act.put, List.setIfInBounds_toArray, List.set_cons_zero, List.set_cons_succ]
      refine wpAnyG_pure (i := 3) (oi := ⟨some 32, _, _, _, _, _⟩) (v := ?_) rfl (by kernel_rfl) (by kernel_rfl) (by kernel_rfl) (by rfl) (fun _ _ _ h => h) (by rfl) ?_ ?_
      rotate_left
      · intro w
        go_simp
        first | done | with_reducible rfl
      try simp only [Act.put, List.setIfInBounds_toArray, List.set_cons_zero, List.set_cons_succ]
      refine wpAnyG_load (i := 4) (oi := ⟨some 33, _, _, _, _, _⟩) (v := (.string k)) rfl (by kernel_rfl) (by kernel_rfl) (by kernel_rfl) (by rfl) (fun _ _ _ h => h) (by rfl) ?_ (by assumption) ?_
      · intro w hS
        go_simp
      try simp only [Act.put, List.setIfInBounds_toArray, List.set_cons_zero, List.set_cons_succ]
      refine wpAnyG_pure (i := 5) (oi := ⟨some 34, _, _, _, _, _⟩) (v := (.string r)) rfl (by kernel_rfl) (by kernel_rfl) (by kernel_rfl) (by rfl) (fun _ _ _ h => h) (by rfl) ?_ ?_
      · intro w
        go_simp; first | done | (intro hx; exact absurd hx (by omega))
      try simp only [Act.put, List.setIfInBounds_toArray, List.set_cons_zero, List.set_cons_succ]
      refine wpAnyG_pure (i := 6) (oi := ⟨some 8, _, _, _, _, _⟩) (v := ?_) rfl (by kernel_rfl) (by kernel_rfl) (by kernel_rfl) (by rfl) (fun _ _ _ h => h) (by rfl) ?_ ?_
      rotate_left
      · intro w
        go_simp
        first | done | with_reducible rfl
      try simp only [Act.put, List.setIfInBounds_toArray, List.set_cons_zero, List.set_cons_succ]
      refine wpAnyG_pure (i := 7) (oi := ⟨some 9, _, _, _, _, _⟩) (v := ?_) rfl (by kernel_rfl) (by kernel_rfl) (by kernel_rfl) (by rfl) (fun _ _ _ h => h) (by rfl) ?_ ?_
      rotate_left
      · intro w
        go_simp
        first | done | with_reducible rfl
      try simp only [Act.put, List.setIfInBounds_toArray, List.set_cons_zero, List.set_cons_succ]
      refine wpAnyG_done (by kernel_rfl) ?_ _
      refine NoPanic.normal ?_
      have KC2 := KC.out _ _ h
      clear KC h HC
      go_wp2_with (refine KC2.mono ?_; clear KC2; rintro e w3 ⟨rfl, h⟩; have H3 := Lib.hid (h.alloc (.cells #[.int .i64 0] I64)); clear h; have K1 := fun (wq : World) (M : List Hp) (h : Own E wq M) => fnum_any (E := E) (L := M) 8 ⟨w3.heap.size, 0, none⟩ wq h; simp only [enF, show ((8 : Nat) : Int) = 8 from rfl] at K1)
      have KR : Hid (∀ (bb : Nat) (w5 : World), Own E w5 (Hp.blk bb FT (([(.num 8, ⟨w3.heap.size, 0, none⟩)] : List (Fk × Addr)).flatMap enF).toArray :: Hp.blk w3.heap.size I64 #[.int .i64 0] :: Hp.blk w.heap.size ITT #[.string k, .string v] :: L) → Calls Tryz.prog 67 #[.slice (some ⟨bb, 0, none⟩) 1 1, .string r2] w5 fun e w' => e = .returned (.bool true) ∧ Own E w' (Hp.blk w3.heap.size I64 #[.int .i64 id] :: Hp.blk w.heap.size ITT #[.string k, .string v] :: L)) := Lib.hid fun bb w5 h3 => rd1 bb _ 8 id true _ r2 w5 HZ.out HR.out HG.out.cons h3
      have HQ : Hid (∀ w', Own E w' (Hp.blk w3.heap.size I64 #[.int .i64 id] :: Hp.blk w.heap.size ITT #[.string k, .string v] :: L) → w'.cell? ⟨w.heap.size, 1, none⟩ = some (.string v) ∧ w'.cell? ⟨w3.heap.size, 0, none⟩ = some (.int .i64 id)) := Lib.hid fun w' h => ⟨(h.f1.cell 1).trans rfl, (h.cell 0).trans rfl⟩
      clear HD
      go_wp2_with (first
        | (with_reducible refine (K1 _ _ H3.out).mono ?_; clear H3; rintro e w4 ⟨rfl, h⟩; have H3 := Lib.hid h; clear h)
        | (with_reducible refine (KB _).mono ?_; rintro e w2 ⟨rfl, rfl⟩)
        | (refine (KR.out _ _ (H3.out.alloc _)).mono ?_; clear H3 KR; rintro e w5 ⟨rfl, h⟩; have H3 := Lib.hid h; clear h; obtain ⟨c1, c2⟩ := HQ.out _ H3.out))
      (try simp only [Exit.inBlock, Exit.then])
      refine bodyPost_ret (results_tmp5 rfl _ _ _) rfl ?_
      exact ⟨rfl, H3.out.drop.drop⟩
/-- record.ParseIndex of any pair. -/
theorem pidx_any (k v : ByteArray) (w : World) (hk : k.size ≤ 1000000000000000) (hv : v.size ≤ 1000000000000000) (hG : Laid0 E L) (h : Own E w L) :
    Calls Tryz.prog 31 #[.agg #[.string k, .string v]] w fun e w' => ((∃ t, IdxR k v t ∧ e = .returned (.tuple #[.string t.1, .int .i64 t.2.1, .int .i64 t.2.2.1, .string t.2.2.2, .int .i64 0])) ∨ ((∀ t, ¬ IdxR k v t) ∧ e = .returned (.tuple #[.string ⟨#[]⟩, .int .i64 0, .int .i64 0, .string ⟨#[]⟩, .int .i64 141]))) ∧ Own E w' L := by
  by_cases hr : ∃ t, IdxR k v t
  · obtain ⟨t, ht⟩ := hr
    rcases ht with ⟨a, b, c, x1, x2, x3, rfl, rfl, rfl⟩ | ⟨fin, id, x1, x2, rfl, rfl, rfl⟩ | ⟨su, id, x1, x2, rfl, rfl, rfl⟩
    · refine (pidx_m a b c w x1 x2 x3 hG h).mono ?_
      rintro e w' ⟨rfl, h⟩
      exact ⟨.inl ⟨_, .inl ⟨a, b, c, x1, x2, x3, rfl, rfl, rfl⟩, rfl⟩, h⟩
    · refine (pidx_x fin id w x1 x2 hG h).mono ?_
      rintro e w' ⟨rfl, h⟩
      exact ⟨.inl ⟨_, .inr (.inl ⟨fin, id, x1, x2, rfl, rfl, rfl⟩), rfl⟩, h⟩
    · refine (pidx_s su id w x1 x2 hG h).mono ?_
      rintro e w' ⟨rfl, h⟩
      exact ⟨.inl ⟨_, .inr (.inr ⟨su, id, x1, x2, rfl, rfl, rfl⟩), rfl⟩, h⟩
  · have hno : ∀ t, ¬ IdxR k v t := fun t ht => hr ⟨t, ht⟩
    have KF : Calls Tryz.prog 31 #[.agg #[.string k, .string v]] w fun e w' => e = .returned (.tuple #[.string ⟨#[]⟩, .int .i64 0, .int .i64 0, .string ⟨#[]⟩, .int .i64 141]) ∧ Own E w' L := by
      obtain ⟨⟨l⟩⟩ := k
      have hs : (⟨⟨l⟩⟩ : ByteArray).size = l.length := rfl
      cases l with
      | nil => exact pidx_none _ v w rfl h
      | cons t R =>
        rw [List.length_cons] at hs
        by_cases h1 : t = 109
        · subst h1; exact pidx_mno R v w (by omega) hv hno hG h
        by_cases h2 : t = 120
        · subst h2; exact pidx_xno R v w (by omega) hno hG h
        by_cases h3 : t = 115
        · subst h3; exact pidx_sno R v w (by omega) hno hG h
        exact pidx_other t R v w h1 h2 h3 h
    exact KF.mono fun e w' he => ⟨.inr ⟨hno, he.1⟩, he.2⟩
end
end Go.Proofs.YtabibfabieghpaaGreatDoor
namespace Go.Proofs.YtabibfabieghpaaGreatDoor
open Go.RowKit
theorem run_paire (k v k' v' : ByteArray) (w : World) : (binOp .eql ITT (.agg #[.string k, .string v]) (.agg #[.string k', .string v'])).run Tryz.prog w = .ok (.bool (decide (k = k' ∧ v = v'))) w := by
  rw [run_eql_struct, eq_pair]; rfl
/-- A key of this letter, and no greater than may be. -/
def Fit (l : UInt8) (k v : ByteArray) : Prop := k.data.toList.head? = some l ∧ k.size ≤ 36 ∧ v.size ≤ 200
theorem fit_of {l : UInt8} {a b : List UInt8} {k v : ByteArray} (hk : (⟨(l :: a).toArray⟩ : ByteArray) = k) (hv : (⟨b.toArray⟩ : ByteArray) = v) (ha : a.length ≤ 35) (hb : b.length ≤ 200) : Fit l k v := by
  subst hk hv
  refine ⟨by simp, ?_, ?_⟩
  · rw [fl_size, List.length_cons]; omega
  · rw [fl_size]; exact hb
section
variable {E : World}
/-- What is read by PARSE of a pair, as PRINT has it. -/
abbrev Said (E : World) (PARSE PRINT : FuncId) (n : Nat) (l : UInt8) (k v : ByteArray) : Prop :=
  ∀ (w : World) (M : List Hp), Laid0 E M → Max0 E M → Own E w M → Calls Tryz.prog PARSE #[.agg #[.string k, .string v]] w fun ev w' => ∃ (Y : List Value) (X : Hp) (e : Int), ev = .returned (.tuple #[.agg Y.toArray, .int .i64 e]) ∧ Y.length = n ∧ (∀ u ∈ Y, u.oneCell' = true) ∧ Own E w' (X :: M) ∧
    ((e = 0 ∧ Fit l k v ∧ ∀ (w2 : World) (M2 : List Hp), Laid0 E M2 → Own E w2 (X :: M2) → Calls Tryz.prog PRINT #[.agg Y.toArray] w2 fun ev w' => ev = .returned (.tuple #[.agg #[.string k, .string v], .int .i64 0]) ∧ Own E w' (X :: M2)) ∨ e = 141)
theorem said_of {PARSE PRINT : FuncId} {n : Nat} {l : UInt8} {k v : ByteArray} {Q : List Value × Int} (hp : ∀ (w : World) (M : List Hp), Laid0 E M → Own E w M → Calls Tryz.prog PARSE #[.agg #[.string k, .string v]] w fun ev w' => ev = .returned (.tuple #[.agg Q.1.toArray, .int .i64 Q.2]) ∧ Own E w' M)
    (hl : Q.1.length = n) (h1 : ∀ u ∈ Q.1, u.oneCell' = true)
    (hq : (Q.2 = 0 ∧ Fit l k v ∧ ∀ (w2 : World) (M2 : List Hp), Laid0 E M2 → Own E w2 M2 → Calls Tryz.prog PRINT #[.agg Q.1.toArray] w2 fun ev w' => ev = .returned (.tuple #[.agg #[.string k, .string v], .int .i64 0]) ∧ Own E w' M2) ∨ Q.2 = 141) : Said E PARSE PRINT n l k v := fun w M hG _ h => by
  refine (hp w M hG h).mono ?_
  rintro ev w' ⟨rfl, h⟩
  refine ⟨Q.1, Hp.lst ST (.slice none 0 0) [], Q.2, rfl, hl, h1, h.emptyLst ST none, ?_⟩
  rcases hq with ⟨e0, hf, hpr⟩ | e1
  · refine .inl ⟨e0, hf, fun w2 M2 hG2 h2 => ?_⟩
    refine (hpr w2 _ hG2.cons h2).mono ?_
    rintro ev w' ⟨rfl, h⟩
    exact ⟨rfl, h⟩
  · exact .inr e1
theorem fam_said (k v : ByteArray) (hk : k.size ≤ 1000000000000000) (hv : v.size ≤ 1000000000000000) : Said E 48 28 14 102 k v := fun w M hG hM h => by
  refine (parsefam_any k v w hk hv hG hM h).mono ?_
  rintro ev w' (⟨f, A, c, rfl, hf, h⟩ | ⟨rfl, -, h⟩)
  · have hm := (fam_reads hf).1
    have hf2 := hf
    unfold FamV.R famR at hf2
    rw [if_pos hm] at hf2
    injection hf2 with q1 q2
    injection q2 with q2 q3
    obtain ⟨g1, g2, g3, -⟩ := fam_range hm
    refine ⟨f.C A c, _, 0, rfl, rfl, fam_one _ _ _ _ _ _ _ _ _ _ _ _ _ _ _ _, h, .inl ⟨rfl, fit_of q1 q2 (by rw [byN_len]; omega) ?_, fun w2 M2 hG2 h2 => ?_⟩⟩
    · simp only [List.length_append, byN_len]
      have e1 : f.cl.data.toList.length = f.cl.size := rfl
      have e2 : f.su.data.toList.length = f.su.size := rfl
      have e3 : (scTxt f.xs).data.toList.length = (scTxt f.xs).size := rfl
      omega
    · obtain ⟨a, h4, ha, hb⟩ := h2.opens
      obtain ⟨hr, hc, -, -⟩ := lst_rds ha
      refine (printfam_any _ _ _ A _ c _ _ _ _ _ _ _ _ _ _ f.xs w2 hr hc (by have := ((fit_iff _).1 (scErr_zero hm.2.2.2.1).2.2).1; omega) hG2.cons h4).mono ?_
      rintro ev w' ⟨rfl, h⟩
      exact ⟨by rw [show famR _ _ _ _ _ _ _ _ _ _ _ _ _ _ = _ from hf]; rfl, hb _ _ h⟩
  · exact ⟨_, Hp.lst ST (.slice none 0 0) [], 141, rfl, rfl, fam_one _ _ _ _ _ _ _ _ _ _ _ _ _ _ _ _, h.emptyLst ST none, .inr rfl⟩
theorem code_said (k v : ByteArray) (hk : k.size ≤ 1000000000000000) (hv : v.size ≤ 1000000000000000) : Said E 36 33 9 97 k v := fun w M hG hM h => by
  refine (parsecode_any k v w hk hv hG hM h).mono ?_
  rintro ev w' (⟨f, A, c, rfl, hf, h⟩ | ⟨rfl, -, h⟩)
  · have hm := (code_reads hf).1
    have hf2 := hf
    unfold CodeV.R codeR at hf2
    rw [if_pos hm] at hf2
    injection hf2 with q1 q2
    injection q2 with q2 q3
    obtain ⟨g1, g2, g3, -, g4, g5, -⟩ := code_range hm
    refine ⟨f.C A c, _, 0, rfl, rfl, code_one _ _ _ _ _ _ _ _ _ _ _, h, .inl ⟨rfl, fit_of q1 q2 (by rw [byN_len]; omega) ?_, fun w2 M2 hG2 h2 => ?_⟩⟩
    · simp only [List.length_append, byN_len]
      have e1 : f.cl.data.toList.length = f.cl.size := rfl
      have e2 : f.su.data.toList.length = f.su.size := rfl
      have e3 : (scTxt f.xs).data.toList.length = (scTxt f.xs).size := rfl
      have e4 : f.dh.data.toList.length = f.dh.size := rfl
      have e5 : f.dc.data.toList.length = f.dc.size := rfl
      omega
    · obtain ⟨a, h4, ha, hb⟩ := h2.opens
      obtain ⟨hr, hc, -, -⟩ := lst_rds ha
      refine (printcode_any _ _ _ A _ c _ _ _ _ _ f.xs w2 hr hc (by have := ((fit_iff _).1 (scErr_zero hm.2.2.2.1).2.2).1; omega) hG2.cons h4).mono ?_
      rintro ev w' ⟨rfl, h⟩
      exact ⟨by rw [show codeR _ _ _ _ _ _ _ _ _ = _ from hf]; rfl, hb _ _ h⟩
  · exact ⟨_, Hp.lst ST (.slice none 0 0) [], 141, rfl, rfl, code_one _ _ _ _ _ _ _ _ _ _ _, h.emptyLst ST none, .inr rfl⟩
theorem client_said (k v : ByteArray) (hk : k.size ≤ 1000000000000000) (hv : v.size ≤ 1000000000000000) : Said E 42 40 11 99 k v := fun w M hG hM h => by
  refine (parseclient_any k v w hk hv hG hM h).mono ?_
  rintro ev w' (⟨f, A, c, rfl, hf, h⟩ | ⟨rfl, -, h⟩)
  · have hm := (client_reads hf).1
    have hf2 := hf
    unfold ClientV.R clientR at hf2
    rw [if_pos hm] at hf2
    injection hf2 with q1 q2
    injection q2 with q2 q3
    obtain ⟨g1, g2, g3, g4, -⟩ := client_range hm
    have q0 : (⟨(99 :: f.nm.data.toList).toArray⟩ : ByteArray) = k := by
      rw [← q1]
      unfold clientK
      exact (bytes_ext _ _ (by rw [app_data]; rfl)).symm
    refine ⟨f.C A c, _, 0, rfl, rfl, client_one _ _ _ _ _ _ _ _ _ _ _ _ _, h, .inl ⟨rfl, fit_of q0 q2 (by show f.nm.size ≤ 35; omega) ?_, fun w2 M2 hG2 h2 => ?_⟩⟩
    · simp only [List.length_append, byN_len]
      have e1 : f.dh.data.toList.length = f.dh.size := rfl
      have e2 : f.od.data.toList.length = f.od.size := rfl
      have e3 : (scTxt f.xs).data.toList.length = (scTxt f.xs).size := rfl
      omega
    · obtain ⟨a, h4, ha, hb⟩ := h2.opens
      obtain ⟨hr, hc, -, -⟩ := lst_rds ha
      refine (printclient_any _ _ _ _ _ _ A _ c _ _ _ _ f.xs w2 hr hc (by have := ((fit_iff _).1 (scErr_zero hm.2.1).2.2).1; omega) hG2.cons h4).mono ?_
      rintro ev w' ⟨rfl, h⟩
      exact ⟨by rw [show clientR _ _ _ _ _ _ _ _ _ _ _ = _ from hf]; rfl, hb _ _ h⟩
  · exact ⟨_, Hp.lst ST (.slice none 0 0) [], 141, rfl, rfl, client_one _ _ _ _ _ _ _ _ _ _ _ _ _, h.emptyLst ST none, .inr rfl⟩
theorem tok_said (k v : ByteArray) (hk : k.size ≤ 1000000000000000) (hv : v.size ≤ 1000000000000000) : Said E 13 11 9 116 k v := by
  refine said_of (Q := tokQ k v) (fun w M hG h => parsetok_any k v w hk hv hG h) ?_ ?_ ?_
  · unfold tokQ; split <;> rfl
  · unfold tokQ; split <;> exact tok_one _ _ _ _ _ _ _ _ _
  · unfold tokQ
    split
    · rename_i hc
      obtain ⟨-, -, hR⟩ := hc
      refine .inl ⟨rfl, ?_, fun w2 M2 hG2 h2 => ?_⟩
      · have hf2 := hR
        unfold tokR at hf2
        split at hf2
        · rename_i hm
          injection hf2 with q1 q2
          injection q2 with q2 q3
          obtain ⟨-, -, -, g1, -, -, -, g2⟩ := tok_range hm
          refine fit_of q1 q2 (by rw [byN_len]; omega) ?_
          simp only [List.length_append, byN_len]
          have e1 : ∀ x : ByteArray, x.data.toList.length = x.size := fun _ => rfl
          rw [e1, e1]
          omega
        · injection hf2 with q1 q2
          injection q2 with q2 q3
          cases q3
      · refine (printtok_any _ _ _ _ _ _ _ _ _ w2 hG2 h2).mono ?_
        rintro ev w' ⟨rfl, h⟩
        exact ⟨by rw [hR]; rfl, h⟩
    · exact .inr rfl
theorem key_said (k v : ByteArray) (hk : k.size ≤ 1000000000000000) (hv : v.size ≤ 1000000000000000) : Said E 18 16 4 107 k v := by
  refine said_of (Q := keyQ k v) (fun w M hG h => parsekey_any k v w hk hv hG h) ?_ ?_ ?_
  · unfold keyQ; split <;> rfl
  · unfold keyQ; split <;> exact key_one _ _ _ _
  · unfold keyQ
    split
    · rename_i hc
      obtain ⟨-, -, hR⟩ := hc
      refine .inl ⟨rfl, ?_, fun w2 M2 hG2 h2 => ?_⟩
      · have hf2 := hR
        unfold keyR at hf2
        split at hf2
        · rename_i hm
          injection hf2 with q1 q2
          injection q2 with q2 q3
          obtain ⟨-, g1, -⟩ := hm
          refine fit_of q1 q2 (by rw [byN_len]; omega) ?_
          simp only [List.length_append, byN_len]
          have e1 : ∀ x : ByteArray, x.data.toList.length = x.size := fun _ => rfl
          rw [e1]
          omega
        · injection hf2 with q1 q2
          injection q2 with q2 q3
          cases q3
      · refine (printkey_any _ _ _ _ w2 hG2 h2).mono ?_
        rintro ev w' ⟨rfl, h⟩
        exact ⟨by rw [hR]; rfl, h⟩
    · exact .inr rfl
theorem event_said (k v : ByteArray) (hk : k.size ≤ 1000000000000000) (hv : v.size ≤ 1000000000000000) : Said E 21 19 5 101 k v := by
  refine said_of (Q := eventQ k v) (fun w M hG h => parseevent_any k v w hk hv hG h) ?_ ?_ ?_
  · unfold eventQ; split <;> rfl
  · unfold eventQ; split <;> exact event_one _ _ _ _ _
  · unfold eventQ
    split
    · rename_i hc
      obtain ⟨-, -, hR⟩ := hc
      refine .inl ⟨rfl, ?_, fun w2 M2 hG2 h2 => ?_⟩
      · have hf2 := hR
        unfold eventR at hf2
        split at hf2
        · rename_i hm
          injection hf2 with q1 q2
          injection q2 with q2 q3
          obtain ⟨-, -, -, -, g1⟩ := hm
          refine fit_of q1 q2 (by rw [byN_len]; omega) ?_
          simp only [List.length_append, byN_len]
          have e1 : ∀ x : ByteArray, x.data.toList.length = x.size := fun _ => rfl
          rw [e1]
          rcases g1 with g1 | g1
          · omega
          · have := nm_size g1
            omega
        · injection hf2 with q1 q2
          injection q2 with q2 q3
          cases q3
      · refine (printevent_any _ _ _ _ _ w2 hG2 h2).mono ?_
        rintro ev w' ⟨rfl, h⟩
        exact ⟨by rw [hR]; rfl, h⟩
    · exact .inr rfl
theorem chain_said (k v : ByteArray) (_hk : k.size ≤ 1000000000000000) (hv : v.size ≤ 1000000000000000) : Said E 24 22 4 104 k v := by
  refine said_of (Q := chainQ k v) (fun w M hG h => parsechain_any k v w hv hG h) ?_ ?_ ?_
  · unfold chainQ; split <;> rfl
  · unfold chainQ; split <;> exact chain_one _ _ _ _
  · obtain ⟨a, b, s, r, ok, hr⟩ : ∃ a b s r ok, readV chainKs v = ([.n a, .n b, .s s, .s r], ok) := ⟨_, _, _, _, _, rfl⟩
    unfold chainQ
    rw [hr]
    split
    · rename_i hc
      obtain ⟨rfl, hok, hR⟩ := hc
      have hok : ok = true := hok
      have hR2 : (chainR a b s r).2.2 = 0 := hR
      clear hR
      subst hok
      have hv2 : (⟨(byN 8 a.toNat ++ byN 8 b.toNat ++ s.data.toList ++ r.data.toList).toArray⟩ : ByteArray) = v := by
        have h3 := (readV_inv (ks := chainKs) (fun k hk => by
          simp only [chainKs, List.mem_cons, List.not_mem_nil, or_false] at hk
          rcases hk with rfl | rfl | rfl | rfl
          · exact ⟨by omega, by omega⟩
          · exact ⟨by omega, by omega⟩
          · trivial
          · trivial) hr).1
        have h4 : v.data.toList = byN 8 a.toNat ++ (byN 8 b.toNat ++ (s.data.toList ++ (r.data.toList ++ []))) := h3
        rw [List.append_nil, ← List.append_assoc, ← List.append_assoc, List.append_assoc (byN 8 a.toNat)] at h4
        exact (fl_mk _ (by rw [h4]; simp)).symm
      have hm : chainMay a b s r := by
        by_cases hm : chainMay a b s r
        · exact hm
        · unfold chainR at hR2
          rw [if_neg hm] at hR2
          cases hR2
      have hRR : chainR a b s r = (hB, v, 0) := by
        unfold chainR
        rw [if_pos hm, ← hv2]
        rfl
      obtain ⟨-, -, -, -, g1, g2⟩ := hm
      refine .inl ⟨rfl, fit_of (a := []) rfl hv2 (by simp) ?_, fun w2 M2 hG2 h2 => ?_⟩
      · simp only [List.length_append, byN_len]
        have e1 : ∀ x : ByteArray, x.data.toList.length = x.size := fun _ => rfl
        rw [e1, e1]
        omega
      · refine (printchain_any a b s r w2 hG2 h2).mono ?_
        rintro ev w' ⟨rfl, h⟩
        exact ⟨by rw [hRR]; rfl, h⟩
    · exact .inr rfl
/-- An entry's pair is no greater than may be. -/
theorem idx_fit {k v : ByteArray} {t : ByteArray × Int × Int × ByteArray} (h : IdxR k v t) : Fit 109 k v ∨ Fit 120 k v ∨ Fit 115 k v := by
  rcases h with ⟨a, b, c, -, -, -, rfl, rfl, -⟩ | ⟨fin, id, -, -, rfl, rfl, -⟩ | ⟨su, id, hn, -, rfl, rfl, -⟩
  · exact .inl (fit_of rfl rfl (by rw [List.length_append, byN_len, byN_len]; omega) (by rw [byN_len]; omega))
  · exact .inr (.inl (fit_of (b := []) rfl rfl (by rw [List.length_append, byN_len, byN_len]; omega) (by simp)))
  · refine .inr (.inr (fit_of (b := []) rfl rfl ?_ (by simp)))
    have := nm_size hn
    have e1 : su.data.toList.length = su.size := rfl
    rw [List.length_append, List.length_cons, byN_len]
    omega
end
end Go.Proofs.YtabibfabieghpaaGreatDoor
namespace Go.Proofs.YtabibfabieghpaaGreatDoor
open Go.RowKit
/-- How many kinds have read the pair so far: none, or the one whose letter it bears. -/
def Cnt (k v : ByteArray) (S : List UInt8) (n : Int) : Prop := n = 0 ∨ (n = 1 ∧ k.size ≤ 36 ∧ v.size ≤ 200 ∧ ∃ l ∈ S, k.data.toList.head? = some l)
theorem Cnt.skip {k v : ByteArray} {S : List UInt8} {n : Int} (l : UInt8) (h : Cnt k v S n) : Cnt k v (l :: S) n := by
  rcases h with h | ⟨h1, h2, h3, x, hx, hk⟩
  · exact .inl h
  · exact .inr ⟨h1, h2, h3, x, List.mem_cons_of_mem _ hx, hk⟩
theorem Cnt.add {k v : ByteArray} {S : List UInt8} {n : Int} {l : UInt8} (h : Cnt k v S n) (hl : l ∉ S) (hf : Fit l k v) : n = 0 ∧ Cnt k v (l :: S) 1 := by
  obtain ⟨f1, f2, f3⟩ := hf
  refine ⟨?_, .inr ⟨rfl, f2, f3, l, List.mem_cons_self .., f1⟩⟩
  rcases h with h | ⟨-, -, -, x, hx, hk⟩
  · exact h
  · rw [f1] at hk
    injection hk with hk
    exact absurd (hk ▸ hx) hl
section
variable {E : World} {L : List Hp}
theorem idx_said (k v : ByteArray) (w : World) (hk : k.size ≤ 1000000000000000) (hv : v.size ≤ 1000000000000000) (hG : Laid0 E L) (h : Own E w L) :
    Calls Tryz.prog 31 #[.agg #[.string k, .string v]] w fun ev w' => ∃ (a : ByteArray) (b c : Int) (d : ByteArray) (e : Int), ev = .returned (.tuple #[.string a, .int .i64 b, .int .i64 c, .string d, .int .i64 e]) ∧ ((e = 0 ∧ (Fit 109 k v ∨ Fit 120 k v ∨ Fit 115 k v)) ∨ e = 141) ∧ Own E w' L := by
  refine (pidx_any k v w hk hv hG h).mono ?_
  rintro ev w' ⟨⟨t, ht, rfl⟩ | ⟨-, rfl⟩, h⟩
  · exact ⟨_, _, _, _, 0, rfl, .inl ⟨rfl, idx_fit ht⟩, h⟩
  · exact ⟨_, _, _, _, 141, rfl, .inr rfl, h⟩
set_option maxRecDepth 100000 in
set_option maxHeartbeats 16000000 in
theorem oneway_any (k v : ByteArray) (w : World) (hk : k.size ≤ 1000000000000000) (hv : v.size ≤ 1000000000000000) (hG : Laid0 E L) (hM : Max0 E L) (h : Own E w L) :
    Calls Tryz.prog 8 #[.agg #[.string k, .string v]] w fun ev w' => ev = .returned (.bool true) ∧ Own E w' L := by
  have H := Lib.hid (h.alloc (.cells #[.string k, .string v] ITT))
  obtain ⟨ddI, hdI, hrowI⟩ := itt_u
  have KA := Lib.hid (fun (wq : World) h => awake14_any (E := E) (L := Hp.blk w.heap.size ITT #[.string k, .string v] :: L) wq hG.cons h)
  obtain ⟨dclient, hdclient, hrowclient⟩ := clientt_u0
  have hIclient : (Tryz.prog.info? CLT).map (·.size) = some 11 := by kernel_rfl
  have Kclient := Lib.hid (client_said (E := E) k v hk hv)
  obtain ⟨dfam, hdfam, hrowfam⟩ := famt_u
  have hIfam : (Tryz.prog.info? FMT).map (·.size) = some 14 := by kernel_rfl
  have Kfam := Lib.hid (fam_said (E := E) k v hk hv)
  obtain ⟨dtok, hdtok, hrowtok⟩ := tokt_u
  have hItok : (Tryz.prog.info? TOKT).map (·.size) = some 9 := by kernel_rfl
  have Ktok := Lib.hid (tok_said (E := E) k v hk hv)
  obtain ⟨dcode, hdcode, hrowcode⟩ := codet_u
  have hIcode : (Tryz.prog.info? CDT).map (·.size) = some 9 := by kernel_rfl
  have Kcode := Lib.hid (code_said (E := E) k v hk hv)
  obtain ⟨dkey, hdkey, hrowkey⟩ := keyt_u
  have hIkey : (Tryz.prog.info? KEYT).map (·.size) = some 4 := by kernel_rfl
  have Kkey := Lib.hid (key_said (E := E) k v hk hv)
  obtain ⟨devent, hdevent, hrowevent⟩ := evt_u
  have hIevent : (Tryz.prog.info? EVT).map (·.size) = some 5 := by kernel_rfl
  have Kevent := Lib.hid (event_said (E := E) k v hk hv)
  obtain ⟨dchain, hdchain, hrowchain⟩ := cht_u
  have hIchain : (Tryz.prog.info? CHT).map (·.size) = some 4 := by kernel_rfl
  have Kchain := Lib.hid (chain_said (E := E) k v hk hv)
  have KX := Lib.hid (fun (wq : World) (M : List Hp) (hG : Laid0 E M) (h : Own E wq M) => idx_said k v wq hk hv hG h)
  have hqe : ∀ w, (binOp .eql ITT (.agg #[.string k, .string v]) (.agg #[.string k, .string v])).run Tryz.prog w = .ok (.bool true) w := fun w => by rw [run_paire, decide_eq_true ⟨rfl, rfl⟩]
  have HG := Lib.hid hG
  have HM := Lib.hid hM
  clear h hG hM hk hv
  go_enter Tryz.func8, Tryz.ntmps8
  go_upto_if 34 with (first
    | ((with_reducible refine (KA.out _ H.out).mono ?_); clear KA H; rintro ev w1 ⟨rfl, h⟩; have H := Lib.hid h; clear h)
    | ((with_reducible refine at_slot (k := some 29) ?_); refine wpList_load_arr (o := ⟨some 29, _, _, _, _, _⟩) H.out 0 [.string k, .string v] (fun jj u hu => by simpa using hu) hdI hrowI (by kernel_rfl) rfl rfl rfl ?_)
    | ((with_reducible refine (Kclient.out _ _ HG.out.cons HM.out.cons H.out).mono ?_); clear Kclient H; rintro ev w2 ⟨Y, X, e, rfl, hl, h1, h, hor⟩; have HOR := Lib.hid hor; have H := Lib.hid h; clear h hor)
    | ((with_reducible refine at_slot (k := none) ?_); refine wpList_store_whole (o := ⟨none, _, _, _, _, _⟩) (cs := [.string ⟨#[]⟩, .bool false, .bool false, .string ⟨#[]⟩, .string ⟨#[]⟩, .int .i64 0, .slice none 0 0, .int .i64 0, .int .i64 0, .int .i64 0, .int .i64 0]) (vs := Y) (H.out.alloc (.cells #[.string ⟨#[]⟩, .bool false, .bool false, .string ⟨#[]⟩, .string ⟨#[]⟩, .int .i64 0, .slice none 0 0, .int .i64 0, .int .i64 0, .int .i64 0, .int .i64 0] CLT)) hl.symm h1 (hIclient.trans (congrArg some hl.symm)) rfl rfl rfl rfl ?_; clear H; intro w3 h; have H := Lib.hid h; clear h))
  go_cut [3, 4] from 27 (fun x3 x4 w' => x3 = .bool true ∧ ∃ n : Int, x4 = .int .i64 n ∧ Cnt k v [99] n ∧ Own E w' (Hp.blk w.heap.size ITT #[.string k, .string v] :: L))
  case first => as_aux_lemma =>
    rcases HOR.out with ⟨he, hfit, hpr⟩ | he
    · subst he
      obtain ⟨hn0, hcnt⟩ := (show Cnt k v [] 0 from .inl rfl).add (by decide) hfit
      clear hn0
      have HCN := Lib.hid hcnt
      have KP := Lib.hid hpr
      have HIY := hIclient.trans (congrArg some hl.symm)
      clear hpr hfit hcnt HOR
      go_wp2_with (first
        | ((with_reducible refine at_slot (k := some 38) ?_); refine wpList_load_arr (o := ⟨some 38, _, _, _, _, _⟩) H.out 0 Y (fun jj u hu => by simpa using hu) hdclient hrowclient HIY rfl rfl rfl ?_)
        | ((with_reducible refine (KP.out _ _ HG.out.cons.cons H.out.f1).mono ?_); clear KP H; rintro ev w5 ⟨rfl, h⟩; have H := Lib.hid (h.alloc (.cells #[.string k, .string v] ITT)); clear h; have p0 := H.out.cell 0; have p1 := H.out.cell 1; have p2 := H.out.f3.cell 0; have p3 := H.out.f3.cell 1; simp only [List.getElem?_toArray, List.getElem?_cons_zero, List.getElem?_cons_succ] at p0 p1 p2 p3))
      go_meet
      case rel => exact ⟨rfl, 1, rfl, HCN.out, H.out.drop.drop.drop⟩
    · subst he
      go_wp2_with fail
      go_meet
      case rel => exact ⟨rfl, _, rfl, (show Cnt k v [] 0 from .inl rfl).skip 99, H.out.drop.drop⟩
  case rest => as_aux_lemma =>
    clear HOR H hl h1 hdclient hrowclient hIclient
    obtain ⟨rfl, n, rfl, hcnt, hw⟩ := hcut
    have HN := Lib.hid hcnt
    have H := Lib.hid hw
    clear hcnt hw
    go_upto_if 58 with (first
      | ((with_reducible refine at_slot (k := some 53) ?_); refine wpList_load_arr (o := ⟨some 53, _, _, _, _, _⟩) H.out 0 [.string k, .string v] (fun jj u hu => by simpa using hu) hdI hrowI (by kernel_rfl) rfl rfl rfl ?_)
      | ((with_reducible refine (Kfam.out _ _ HG.out.cons HM.out.cons H.out).mono ?_); clear Kfam H; rintro ev w2 ⟨Y, X, e, rfl, hl, h1, h, hor⟩; have HOR := Lib.hid hor; have H := Lib.hid h; clear h hor)
      | ((with_reducible refine at_slot (k := none) ?_); refine wpList_store_whole (o := ⟨none, _, _, _, _, _⟩) (cs := [.int .i64 0, .string ⟨#[]⟩, .string ⟨#[]⟩, .slice none 0 0, .int .i64 0, .int .i64 0, .int .i64 0, .int .i64 0, .int .i64 0, .int .i64 0, .int .i64 0, .int .i64 0, .int .i64 0, .int .i64 0]) (vs := Y) (H.out.alloc (.cells #[.int .i64 0, .string ⟨#[]⟩, .string ⟨#[]⟩, .slice none 0 0, .int .i64 0, .int .i64 0, .int .i64 0, .int .i64 0, .int .i64 0, .int .i64 0, .int .i64 0, .int .i64 0, .int .i64 0, .int .i64 0] FMT)) hl.symm h1 (hIfam.trans (congrArg some hl.symm)) rfl rfl rfl rfl ?_; clear H; intro w3 h; have H := Lib.hid h; clear h))
    go_cut [3, 4] from 27 (fun x3 x4 w' => x3 = .bool true ∧ ∃ n : Int, x4 = .int .i64 n ∧ Cnt k v [102, 99] n ∧ Own E w' (Hp.blk w.heap.size ITT #[.string k, .string v] :: L))
    case first => as_aux_lemma =>
      rcases HOR.out with ⟨he, hfit, hpr⟩ | he
      · subst he
        obtain ⟨hn0, hcnt⟩ := HN.out.add (by decide) hfit
        subst hn0
        have HCN := Lib.hid hcnt
        have KP := Lib.hid hpr
        have HIY := hIfam.trans (congrArg some hl.symm)
        clear hpr hfit hcnt HOR
        go_wp2_with (first
          | ((with_reducible refine at_slot (k := some 62) ?_); refine wpList_load_arr (o := ⟨some 62, _, _, _, _, _⟩) H.out 0 Y (fun jj u hu => by simpa using hu) hdfam hrowfam HIY rfl rfl rfl ?_)
          | ((with_reducible refine (KP.out _ _ HG.out.cons.cons H.out.f1).mono ?_); clear KP H; rintro ev w5 ⟨rfl, h⟩; have H := Lib.hid (h.alloc (.cells #[.string k, .string v] ITT)); clear h; have p0 := H.out.cell 0; have p1 := H.out.cell 1; have p2 := H.out.f3.cell 0; have p3 := H.out.f3.cell 1; simp only [List.getElem?_toArray, List.getElem?_cons_zero, List.getElem?_cons_succ] at p0 p1 p2 p3))
        go_meet
        case rel => exact ⟨rfl, 1, rfl, HCN.out, H.out.drop.drop.drop⟩
      · subst he
        go_wp2_with fail
        go_meet
        case rel => exact ⟨rfl, _, rfl, HN.out.skip 102, H.out.drop.drop⟩
    case rest => as_aux_lemma =>
      clear HOR H hl h1 hdfam hrowfam hIfam HN
      obtain ⟨rfl, n, rfl, hcnt, hw⟩ := hcut
      have HN := Lib.hid hcnt
      have H := Lib.hid hw
      clear hcnt hw
      go_upto_if 82 with (first
        | ((with_reducible refine at_slot (k := some 77) ?_); refine wpList_load_arr (o := ⟨some 77, _, _, _, _, _⟩) H.out 0 [.string k, .string v] (fun jj u hu => by simpa using hu) hdI hrowI (by kernel_rfl) rfl rfl rfl ?_)
        | ((with_reducible refine (Ktok.out _ _ HG.out.cons HM.out.cons H.out).mono ?_); clear Ktok H; rintro ev w2 ⟨Y, X, e, rfl, hl, h1, h, hor⟩; have HOR := Lib.hid hor; have H := Lib.hid h; clear h hor)
        | ((with_reducible refine at_slot (k := none) ?_); refine wpList_store_whole (o := ⟨none, _, _, _, _, _⟩) (cs := [.int .i64 0, .int .i64 0, .int .i64 0, .string ⟨#[]⟩, .int .i64 0, .bool false, .int .i64 0, .int .i64 0, .string ⟨#[]⟩]) (vs := Y) (H.out.alloc (.cells #[.int .i64 0, .int .i64 0, .int .i64 0, .string ⟨#[]⟩, .int .i64 0, .bool false, .int .i64 0, .int .i64 0, .string ⟨#[]⟩] TOKT)) hl.symm h1 (hItok.trans (congrArg some hl.symm)) rfl rfl rfl rfl ?_; clear H; intro w3 h; have H := Lib.hid h; clear h))
      go_cut [3, 4] from 27 (fun x3 x4 w' => x3 = .bool true ∧ ∃ n : Int, x4 = .int .i64 n ∧ Cnt k v [116, 102, 99] n ∧ Own E w' (Hp.blk w.heap.size ITT #[.string k, .string v] :: L))
      case first => as_aux_lemma =>
        rcases HOR.out with ⟨he, hfit, hpr⟩ | he
        · subst he
          obtain ⟨hn0, hcnt⟩ := HN.out.add (by decide) hfit
          subst hn0
          have HCN := Lib.hid hcnt
          have KP := Lib.hid hpr
          have HIY := hItok.trans (congrArg some hl.symm)
          clear hpr hfit hcnt HOR
          go_wp2_with (first
            | ((with_reducible refine at_slot (k := some 86) ?_); refine wpList_load_arr (o := ⟨some 86, _, _, _, _, _⟩) H.out 0 Y (fun jj u hu => by simpa using hu) hdtok hrowtok HIY rfl rfl rfl ?_)
            | ((with_reducible refine (KP.out _ _ HG.out.cons.cons H.out.f1).mono ?_); clear KP H; rintro ev w5 ⟨rfl, h⟩; have H := Lib.hid (h.alloc (.cells #[.string k, .string v] ITT)); clear h; have p0 := H.out.cell 0; have p1 := H.out.cell 1; have p2 := H.out.f3.cell 0; have p3 := H.out.f3.cell 1; simp only [List.getElem?_toArray, List.getElem?_cons_zero, List.getElem?_cons_succ] at p0 p1 p2 p3))
          go_meet
          case rel => exact ⟨rfl, 1, rfl, HCN.out, H.out.drop.drop.drop⟩
        · subst he
          go_wp2_with fail
          go_meet
          case rel => exact ⟨rfl, _, rfl, HN.out.skip 116, H.out.drop.drop⟩
      case rest => as_aux_lemma =>
        clear HOR H hl h1 hdtok hrowtok hItok HN
        obtain ⟨rfl, n, rfl, hcnt, hw⟩ := hcut
        have HN := Lib.hid hcnt
        have H := Lib.hid hw
        clear hcnt hw
        go_upto_if 106 with (first
          | ((with_reducible refine at_slot (k := some 101) ?_); refine wpList_load_arr (o := ⟨some 101, _, _, _, _, _⟩) H.out 0 [.string k, .string v] (fun jj u hu => by simpa using hu) hdI hrowI (by kernel_rfl) rfl rfl rfl ?_)
          | ((with_reducible refine (Kcode.out _ _ HG.out.cons HM.out.cons H.out).mono ?_); clear Kcode H; rintro ev w2 ⟨Y, X, e, rfl, hl, h1, h, hor⟩; have HOR := Lib.hid hor; have H := Lib.hid h; clear h hor)
          | ((with_reducible refine at_slot (k := none) ?_); refine wpList_store_whole (o := ⟨none, _, _, _, _, _⟩) (cs := [.int .i64 0, .string ⟨#[]⟩, .string ⟨#[]⟩, .slice none 0 0, .string ⟨#[]⟩, .string ⟨#[]⟩, .int .i64 0, .int .i64 0, .int .i64 0]) (vs := Y) (H.out.alloc (.cells #[.int .i64 0, .string ⟨#[]⟩, .string ⟨#[]⟩, .slice none 0 0, .string ⟨#[]⟩, .string ⟨#[]⟩, .int .i64 0, .int .i64 0, .int .i64 0] CDT)) hl.symm h1 (hIcode.trans (congrArg some hl.symm)) rfl rfl rfl rfl ?_; clear H; intro w3 h; have H := Lib.hid h; clear h))
        go_cut [3, 4] from 27 (fun x3 x4 w' => x3 = .bool true ∧ ∃ n : Int, x4 = .int .i64 n ∧ Cnt k v [97, 116, 102, 99] n ∧ Own E w' (Hp.blk w.heap.size ITT #[.string k, .string v] :: L))
        case first => as_aux_lemma =>
          rcases HOR.out with ⟨he, hfit, hpr⟩ | he
          · subst he
            obtain ⟨hn0, hcnt⟩ := HN.out.add (by decide) hfit
            subst hn0
            have HCN := Lib.hid hcnt
            have KP := Lib.hid hpr
            have HIY := hIcode.trans (congrArg some hl.symm)
            clear hpr hfit hcnt HOR
            go_wp2_with (first
              | ((with_reducible refine at_slot (k := some 110) ?_); refine wpList_load_arr (o := ⟨some 110, _, _, _, _, _⟩) H.out 0 Y (fun jj u hu => by simpa using hu) hdcode hrowcode HIY rfl rfl rfl ?_)
              | ((with_reducible refine (KP.out _ _ HG.out.cons.cons H.out.f1).mono ?_); clear KP H; rintro ev w5 ⟨rfl, h⟩; have H := Lib.hid (h.alloc (.cells #[.string k, .string v] ITT)); clear h; have p0 := H.out.cell 0; have p1 := H.out.cell 1; have p2 := H.out.f3.cell 0; have p3 := H.out.f3.cell 1; simp only [List.getElem?_toArray, List.getElem?_cons_zero, List.getElem?_cons_succ] at p0 p1 p2 p3))
            go_meet
            case rel => exact ⟨rfl, 1, rfl, HCN.out, H.out.drop.drop.drop⟩
          · subst he
            go_wp2_with fail
            go_meet
            case rel => exact ⟨rfl, _, rfl, HN.out.skip 97, H.out.drop.drop⟩
        case rest => as_aux_lemma =>
          clear HOR H hl h1 hdcode hrowcode hIcode HN
          obtain ⟨rfl, n, rfl, hcnt, hw⟩ := hcut
          have HN := Lib.hid hcnt
          have H := Lib.hid hw
          clear hcnt hw
          go_upto_if 130 with (first
            | ((with_reducible refine at_slot (k := some 125) ?_); refine wpList_load_arr (o := ⟨some 125, _, _, _, _, _⟩) H.out 0 [.string k, .string v] (fun jj u hu => by simpa using hu) hdI hrowI (by kernel_rfl) rfl rfl rfl ?_)
            | ((with_reducible refine (Kkey.out _ _ HG.out.cons HM.out.cons H.out).mono ?_); clear Kkey H; rintro ev w2 ⟨Y, X, e, rfl, hl, h1, h, hor⟩; have HOR := Lib.hid hor; have H := Lib.hid h; clear h hor)
            | ((with_reducible refine at_slot (k := none) ?_); refine wpList_store_whole (o := ⟨none, _, _, _, _, _⟩) (cs := [.int .i64 0, .string ⟨#[]⟩, .int .i64 0, .int .i64 0]) (vs := Y) (H.out.alloc (.cells #[.int .i64 0, .string ⟨#[]⟩, .int .i64 0, .int .i64 0] KEYT)) hl.symm h1 (hIkey.trans (congrArg some hl.symm)) rfl rfl rfl rfl ?_; clear H; intro w3 h; have H := Lib.hid h; clear h))
          go_cut [3, 4] from 27 (fun x3 x4 w' => x3 = .bool true ∧ ∃ n : Int, x4 = .int .i64 n ∧ Cnt k v [107, 97, 116, 102, 99] n ∧ Own E w' (Hp.blk w.heap.size ITT #[.string k, .string v] :: L))
          case first => as_aux_lemma =>
            rcases HOR.out with ⟨he, hfit, hpr⟩ | he
            · subst he
              obtain ⟨hn0, hcnt⟩ := HN.out.add (by decide) hfit
              subst hn0
              have HCN := Lib.hid hcnt
              have KP := Lib.hid hpr
              have HIY := hIkey.trans (congrArg some hl.symm)
              clear hpr hfit hcnt HOR
              go_wp2_with (first
                | ((with_reducible refine at_slot (k := some 134) ?_); refine wpList_load_arr (o := ⟨some 134, _, _, _, _, _⟩) H.out 0 Y (fun jj u hu => by simpa using hu) hdkey hrowkey HIY rfl rfl rfl ?_)
                | ((with_reducible refine (KP.out _ _ HG.out.cons.cons H.out.f1).mono ?_); clear KP H; rintro ev w5 ⟨rfl, h⟩; have H := Lib.hid (h.alloc (.cells #[.string k, .string v] ITT)); clear h; have p0 := H.out.cell 0; have p1 := H.out.cell 1; have p2 := H.out.f3.cell 0; have p3 := H.out.f3.cell 1; simp only [List.getElem?_toArray, List.getElem?_cons_zero, List.getElem?_cons_succ] at p0 p1 p2 p3))
              go_meet
              case rel => exact ⟨rfl, 1, rfl, HCN.out, H.out.drop.drop.drop⟩
            · subst he
              go_wp2_with fail
              go_meet
              case rel => exact ⟨rfl, _, rfl, HN.out.skip 107, H.out.drop.drop⟩
          case rest => as_aux_lemma =>
            clear HOR H hl h1 hdkey hrowkey hIkey HN
            obtain ⟨rfl, n, rfl, hcnt, hw⟩ := hcut
            have HN := Lib.hid hcnt
            have H := Lib.hid hw
            clear hcnt hw
            go_upto_if 154 with (first
              | ((with_reducible refine at_slot (k := some 149) ?_); refine wpList_load_arr (o := ⟨some 149, _, _, _, _, _⟩) H.out 0 [.string k, .string v] (fun jj u hu => by simpa using hu) hdI hrowI (by kernel_rfl) rfl rfl rfl ?_)
              | ((with_reducible refine (Kevent.out _ _ HG.out.cons HM.out.cons H.out).mono ?_); clear Kevent H; rintro ev w2 ⟨Y, X, e, rfl, hl, h1, h, hor⟩; have HOR := Lib.hid hor; have H := Lib.hid h; clear h hor)
              | ((with_reducible refine at_slot (k := none) ?_); refine wpList_store_whole (o := ⟨none, _, _, _, _, _⟩) (cs := [.int .i64 0, .int .i64 0, .int .i64 0, .int .i64 0, .string ⟨#[]⟩]) (vs := Y) (H.out.alloc (.cells #[.int .i64 0, .int .i64 0, .int .i64 0, .int .i64 0, .string ⟨#[]⟩] EVT)) hl.symm h1 (hIevent.trans (congrArg some hl.symm)) rfl rfl rfl rfl ?_; clear H; intro w3 h; have H := Lib.hid h; clear h))
            go_cut [3, 4] from 27 (fun x3 x4 w' => x3 = .bool true ∧ ∃ n : Int, x4 = .int .i64 n ∧ Cnt k v [101, 107, 97, 116, 102, 99] n ∧ Own E w' (Hp.blk w.heap.size ITT #[.string k, .string v] :: L))
            case first => as_aux_lemma =>
              rcases HOR.out with ⟨he, hfit, hpr⟩ | he
              · subst he
                obtain ⟨hn0, hcnt⟩ := HN.out.add (by decide) hfit
                subst hn0
                have HCN := Lib.hid hcnt
                have KP := Lib.hid hpr
                have HIY := hIevent.trans (congrArg some hl.symm)
                clear hpr hfit hcnt HOR
                go_wp2_with (first
                  | ((with_reducible refine at_slot (k := some 158) ?_); refine wpList_load_arr (o := ⟨some 158, _, _, _, _, _⟩) H.out 0 Y (fun jj u hu => by simpa using hu) hdevent hrowevent HIY rfl rfl rfl ?_)
                  | ((with_reducible refine (KP.out _ _ HG.out.cons.cons H.out.f1).mono ?_); clear KP H; rintro ev w5 ⟨rfl, h⟩; have H := Lib.hid (h.alloc (.cells #[.string k, .string v] ITT)); clear h; have p0 := H.out.cell 0; have p1 := H.out.cell 1; have p2 := H.out.f3.cell 0; have p3 := H.out.f3.cell 1; simp only [List.getElem?_toArray, List.getElem?_cons_zero, List.getElem?_cons_succ] at p0 p1 p2 p3))
                go_meet
                case rel => exact ⟨rfl, 1, rfl, HCN.out, H.out.drop.drop.drop⟩
              · subst he
                go_wp2_with fail
                go_meet
                case rel => exact ⟨rfl, _, rfl, HN.out.skip 101, H.out.drop.drop⟩
            case rest => as_aux_lemma =>
              clear HOR H hl h1 hdevent hrowevent hIevent HN
              obtain ⟨rfl, n, rfl, hcnt, hw⟩ := hcut
              have HN := Lib.hid hcnt
              have H := Lib.hid hw
              clear hcnt hw
              go_upto_if 178 with (first
                | ((with_reducible refine at_slot (k := some 173) ?_); refine wpList_load_arr (o := ⟨some 173, _, _, _, _, _⟩) H.out 0 [.string k, .string v] (fun jj u hu => by simpa using hu) hdI hrowI (by kernel_rfl) rfl rfl rfl ?_)
                | ((with_reducible refine (Kchain.out _ _ HG.out.cons HM.out.cons H.out).mono ?_); clear Kchain H; rintro ev w2 ⟨Y, X, e, rfl, hl, h1, h, hor⟩; have HOR := Lib.hid hor; have H := Lib.hid h; clear h hor)
                | ((with_reducible refine at_slot (k := none) ?_); refine wpList_store_whole (o := ⟨none, _, _, _, _, _⟩) (cs := [.int .i64 0, .int .i64 0, .string ⟨#[]⟩, .string ⟨#[]⟩]) (vs := Y) (H.out.alloc (.cells #[.int .i64 0, .int .i64 0, .string ⟨#[]⟩, .string ⟨#[]⟩] CHT)) hl.symm h1 (hIchain.trans (congrArg some hl.symm)) rfl rfl rfl rfl ?_; clear H; intro w3 h; have H := Lib.hid h; clear h))
              go_cut [3, 4] from 27 (fun x3 x4 w' => x3 = .bool true ∧ ∃ n : Int, x4 = .int .i64 n ∧ Cnt k v [104, 101, 107, 97, 116, 102, 99] n ∧ Own E w' (Hp.blk w.heap.size ITT #[.string k, .string v] :: L))
              case first => as_aux_lemma =>
                rcases HOR.out with ⟨he, hfit, hpr⟩ | he
                · subst he
                  obtain ⟨hn0, hcnt⟩ := HN.out.add (by decide) hfit
                  subst hn0
                  have HCN := Lib.hid hcnt
                  have KP := Lib.hid hpr
                  have HIY := hIchain.trans (congrArg some hl.symm)
                  clear hpr hfit hcnt HOR
                  go_wp2_with (first
                    | ((with_reducible refine at_slot (k := some 182) ?_); refine wpList_load_arr (o := ⟨some 182, _, _, _, _, _⟩) H.out 0 Y (fun jj u hu => by simpa using hu) hdchain hrowchain HIY rfl rfl rfl ?_)
                    | ((with_reducible refine (KP.out _ _ HG.out.cons.cons H.out.f1).mono ?_); clear KP H; rintro ev w5 ⟨rfl, h⟩; have H := Lib.hid (h.alloc (.cells #[.string k, .string v] ITT)); clear h; have p0 := H.out.cell 0; have p1 := H.out.cell 1; have p2 := H.out.f3.cell 0; have p3 := H.out.f3.cell 1; simp only [List.getElem?_toArray, List.getElem?_cons_zero, List.getElem?_cons_succ] at p0 p1 p2 p3))
                  go_meet
                  case rel => exact ⟨rfl, 1, rfl, HCN.out, H.out.drop.drop.drop⟩
                · subst he
                  go_wp2_with fail
                  go_meet
                  case rel => exact ⟨rfl, _, rfl, HN.out.skip 104, H.out.drop.drop⟩
              case rest => as_aux_lemma =>
                clear HOR H hl h1 hdchain hrowchain hIchain HN
                obtain ⟨rfl, n, rfl, hcnt, hw⟩ := hcut
                have HN := Lib.hid hcnt
                have H := Lib.hid hw
                clear hcnt hw
                go_upto_if 205 with (first
                  | ((with_reducible refine at_slot (k := some 197) ?_); refine wpList_load_arr (o := ⟨some 197, _, _, _, _, _⟩) H.out 0 [.string k, .string v] (fun jj u hu => by simpa using hu) hdI hrowI (by kernel_rfl) rfl rfl rfl ?_)
                  | ((with_reducible refine (KX.out _ _ HG.out.cons H.out).mono ?_); clear KX H; rintro ev w2 ⟨a, b, c, d, e, rfl, hor, h⟩; have HOR := Lib.hid hor; have H := Lib.hid h; clear h hor))
                go_cut [4] from 27 (fun x4 w' => ∃ n : Int, x4 = .int .i64 n ∧ Cnt k v [109, 120, 115, 104, 101, 107, 97, 116, 102, 99] n ∧ Own E w' (Hp.blk w.heap.size ITT #[.string k, .string v] :: L))
                case first => as_aux_lemma =>
                  rcases HOR.out with ⟨he, hfit⟩ | he
                  · subst he
                    have hc : n = 0 ∧ Cnt k v [109, 120, 115, 104, 101, 107, 97, 116, 102, 99] 1 := by
                      rcases hfit with hf | hf | hf
                      · have h1 := HN.out.add (by decide) hf
                        refine ⟨h1.1, ?_⟩
                        rcases h1.2 with h2 | ⟨-, h3, h4, -⟩
                        · cases h2
                        · exact .inr ⟨rfl, h3, h4, 109, by decide, hf.1⟩
                      · have h1 := HN.out.add (by decide) hf
                        refine ⟨h1.1, ?_⟩
                        rcases h1.2 with h2 | ⟨-, h3, h4, -⟩
                        · cases h2
                        · exact .inr ⟨rfl, h3, h4, 120, by decide, hf.1⟩
                      · have h1 := HN.out.add (by decide) hf
                        refine ⟨h1.1, ?_⟩
                        rcases h1.2 with h2 | ⟨-, h3, h4, -⟩
                        · cases h2
                        · exact .inr ⟨rfl, h3, h4, 115, by decide, hf.1⟩
                    obtain ⟨hn0, hcnt⟩ := hc
                    subst hn0
                    have HCN := Lib.hid hcnt
                    clear hfit hcnt HOR
                    go_wp2_with fail
                    go_meet
                    case rel => exact ⟨1, rfl, HCN.out, H.out⟩
                  · subst he
                    go_wp2_with fail
                    go_meet
                    case rel => exact ⟨_, rfl, ((HN.out.skip 115).skip 120).skip 109, H.out⟩
                case rest => as_aux_lemma =>
                  clear HOR H HN
                  obtain ⟨n, rfl, hcnt, hw⟩ := hcut
                  have p0 : _ = some (Value.string k) := (hw.cell 0).trans rfl
                  have p1 : _ = some (Value.string v) := (hw.cell 1).trans rfl
                  have H := Lib.hid hw
                  clear hw
                  rcases hcnt with rfl | ⟨rfl, h1, h2, -⟩
                  · go_wp2_with fail
                    go_ret
                    exact ⟨rfl, H.out.drop⟩
                  · have s1 : (k.size : Int) ≤ 36 := by omega
                    have s2 : (v.size : Int) ≤ 200 := by omega
                    go_wp2_with fail
                    go_ret
                    exact ⟨rfl, H.out.drop⟩
end
end Go.Proofs.YtabibfabieghpaaGreatDoor
