/- TokenTyped in plain terms: two tokens whose texts agree outside two neighbouring places are one. -/
import Derived.Test.YtilcilbmbhbakaaDoorTok9
import Derived.Test.YtilcilbmbhbakaaDoorCrcLaws
namespace Go.Proofs.YtilcilbmbhbakaaDoor
open Go.RowKit
namespace Near
theorem names_inj (a b : Nat) (ha : a < 64) (hb : b < 64) (h : sgOf namesB a = sgOf namesB b) : a = b := by
  have h1 : pl namesB.data.toList (sgOf namesB a) = some a := names_pl ⟨a, ha⟩
  have h2 : pl namesB.data.toList (sgOf namesB b) = some b := names_pl ⟨b, hb⟩
  rw [h, h2] at h1
  exact (Option.some.inj h1).symm
section
variable {sg : Nat → UInt8}
/-- A byte is told by two signs. -/
theorem byte_of (hi : ∀ a b, a < 64 → b < 64 → sg a = sg b → a = b) : ∀ (C D : List UInt8) (m : Nat), C.length % 3 = 0 → D.length = C.length → (Six.enc sg 0 0 C)[4 * m / 3]? = (Six.enc sg 0 0 D)[4 * m / 3]? → (Six.enc sg 0 0 C)[4 * m / 3 + 1]? = (Six.enc sg 0 0 D)[4 * m / 3 + 1]? → C[m]? = D[m]?
  | [], [], _, _, _, _, _ => rfl
  | [], _ :: _, _, _, h, _, _ => by simp at h
  | [_], _, _, h, _, _, _ => by simp at h
  | [_, _], _, _, h, _, _, _ => by simp at h
  | _ :: _ :: _ :: _, [], _, _, h, _, _ => by simp at h
  | _ :: _ :: _ :: _, [_], _, _, h, _, _ => by simp at h
  | _ :: _ :: _ :: l, [_, _], _, h0, h, _, _ => by simp at h
  | a :: b :: c :: l, x :: y :: z :: r, m, h0, hl, h1, h2 => by
    have ha := a.toNat_lt
    have hb := b.toNat_lt
    have hc := c.toNat_lt
    have hx := x.toNat_lt
    have hy := y.toNat_lt
    have hz := z.toNat_lt
    rw [Six.enc3, Six.enc3] at h1 h2
    rcases m with _ | _ | _ | m
    · have e1 := hi _ _ (by omega) (by omega) (Option.some.inj h1)
      have e2 := hi _ _ (by omega) (by omega) (Option.some.inj h2)
      have e : a = x := UInt8.toNat_inj.1 (by omega)
      rw [e]; rfl
    · have e1 := hi _ _ (by omega) (by omega) (Option.some.inj h1)
      have e2 := hi _ _ (by omega) (by omega) (Option.some.inj h2)
      have e : b = y := UInt8.toNat_inj.1 (by omega)
      rw [e]; rfl
    · have e1 := hi _ _ (by omega) (by omega) (Option.some.inj h1)
      have e2 := hi _ _ (by omega) (by omega) (Option.some.inj h2)
      have e : c = z := UInt8.toNat_inj.1 (by omega)
      rw [e]; rfl
    · have e1 : 4 * (m + 1 + 1 + 1) / 3 = 4 * m / 3 + 4 := by omega
      rw [e1] at h1 h2
      have ih := byte_of hi l r m (by simp at h0; omega) (by simpa using hl) (by simpa using h1) (by
        rw [show 4 * m / 3 + 4 + 1 = 4 * m / 3 + 1 + 4 by omega] at h2
        simpa using h2)
      simpa using ih
/-- The upper six bits of every third byte are told by one sign. -/
theorem top_of (hi : ∀ a b, a < 64 → b < 64 → sg a = sg b → a = b) : ∀ (C D : List UInt8) (g : Nat), C.length % 3 = 0 → D.length = C.length → (Six.enc sg 0 0 C)[4 * g]? = (Six.enc sg 0 0 D)[4 * g]? → ∀ a b : UInt8, C[3 * g]? = some a → D[3 * g]? = some b → a.toNat / 4 = b.toNat / 4
  | [], [], _, _, _, _, _, _, h, _ => by simp at h
  | [], _ :: _, _, _, h, _, _, _, _, _ => by simp at h
  | [_], _, _, h, _, _, _, _, _, _ => by simp at h
  | [_, _], _, _, h, _, _, _, _, _, _ => by simp at h
  | _ :: _ :: _ :: _, [], _, _, h, _, _, _, _, _ => by simp at h
  | _ :: _ :: _ :: _, [_], _, _, h, _, _, _, _, _ => by simp at h
  | _ :: _ :: _ :: l, [_, _], _, h0, h, _, _, _, _, _ => by simp at h
  | a :: b :: c :: l, x :: y :: z :: r, g, h0, hl, h1, u, v, hu, hv => by
    have ha := a.toNat_lt
    have hb := b.toNat_lt
    have hc := c.toNat_lt
    have hx := x.toNat_lt
    have hy := y.toNat_lt
    have hz := z.toNat_lt
    rw [Six.enc3, Six.enc3] at h1
    rcases g with _ | g
    · have e1 := hi _ _ (by omega) (by omega) (Option.some.inj h1)
      obtain rfl : a = u := Option.some.inj hu
      obtain rfl : x = v := Option.some.inj hv
      omega
    · rw [show 4 * (g + 1) = 4 * g + 4 by omega] at h1
      rw [show 3 * (g + 1) = 3 * g + 3 by omega] at hu hv
      exact top_of hi l r g (by simp at h0; omega) (by simpa using hl) (by simpa using h1) u v (by simpa using hu) (by simpa using hv)
end
/-- A text's bytes with their check behind a prefix. -/
def cw (p F : List UInt8) : List UInt8 := F ++ byN 4 (Crc.crc (p ++ F)).toNat
theorem byN_inj {m n : Nat} (hm : m < 4294967296) (hn : n < 4294967296) (h : byN 4 m = byN 4 n) : m = n := by
  have e := congrArg numL h
  rw [numL_byN, numL_byN] at e
  rwa [Nat.mod_eq_of_lt (by omega), Nat.mod_eq_of_lt (by omega)] at e
theorem crc_lt (l : List UInt8) : (Crc.crc l).toNat < 4294967296 := (Crc.crc l).isLt
theorem take_eq {F G : List UInt8} (s : Nat) (h : ∀ m, m < s → F[m]? = G[m]?) : F.take s = G.take s := by
  refine List.ext_getElem? fun m => ?_
  rw [List.getElem?_take, List.getElem?_take]
  by_cases hm : m < s
  · rw [if_pos hm, if_pos hm, h m hm]
  · rw [if_neg hm, if_neg hm]
theorem drop_eq {F G : List UInt8} (s : Nat) (h : ∀ m, s ≤ m → F[m]? = G[m]?) : F.drop s = G.drop s := by
  refine List.ext_getElem? fun m => ?_
  rw [List.getElem?_drop, List.getElem?_drop]
  exact h _ (by omega)
theorem cut3 (F : List UInt8) (s : Nat) : F = F.take s ++ ((F.drop s).take 3 ++ F.drop (s + 3)) := by
  rw [← List.drop_drop, List.take_append_drop, List.take_append_drop]
/-- Within three neighbouring bytes. -/
theorem window (p F G : List UInt8) (hl : F.length = G.length) (s : Nat) (h : ∀ m, m < s ∨ s + 3 ≤ m → F[m]? = G[m]?) (hc : Crc.crc (p ++ F) = Crc.crc (p ++ G)) : F = G := by
  have e1 := take_eq (F := F) (G := G) s (fun m hm => h m (.inl hm))
  have e2 := drop_eq (F := F) (G := G) (s + 3) (fun m hm => h m (.inr hm))
  have e3 := cut3 F s
  have e4 := cut3 G s
  rw [← e1, ← e2] at e4
  have hx := Crc.burst (p ++ F.take s) ((F.drop s).take 3) ((G.drop s).take 3) (F.drop (s + 3)) (by simp; omega) (by simp; omega) (by
    rw [List.append_assoc, List.append_assoc, ← e3, ← e4]; exact hc)
  rw [← hx, ← e3] at e4
  exact e4.symm
/-- No ten bits ahead of the check change its first byte alone. -/
theorem ten : ((List.range 4).all fun a => (List.range 256).all fun b => (a == 0 && b == 0) || (Crc.shs 16 (BitVec.ofNat 32 a ^^^ (BitVec.ofNat 32 b <<< 8)) &&& 0xffffff#32) != 0#32) = true := by kernel_rfl
theorem ten' (a b : Nat) (ha : a < 4) (hb : b < 256) (h : Crc.shs 16 (BitVec.ofNat 32 a ^^^ (BitVec.ofNat 32 b <<< 8)) &&& 0xffffff#32 = 0#32) : a = 0 ∧ b = 0 := by
  have h1 := List.all_eq_true.1 ten a (by simpa using ha)
  have h2 := List.all_eq_true.1 h1 b (by simpa using hb)
  rw [h] at h2
  simpa using h2
theorem w8_of (c : UInt8) : Crc.w8 c = BitVec.ofNat 32 c.toNat := by
  refine BitVec.eq_of_toNat_eq ?_
  simp [Crc.w8]
theorem low_eq {x y : BitVec 32} (h : x.toNat % 16777216 = y.toNat % 16777216) : (x ^^^ y) &&& 0xffffff#32 = 0#32 := by
  have e : ∀ z : BitVec 32, z &&& 0xffffff#32 = BitVec.ofNat 32 (z.toNat % 16777216) := fun z => by
    refine BitVec.eq_of_toNat_eq ?_
    rw [BitVec.toNat_and]
    show z.toNat &&& (2 ^ 24 - 1) = _
    rw [Nat.and_two_pow_sub_one_eq_mod, BitVec.toNat_ofNat]
    omega
  have h1 : x &&& 0xffffff#32 = y &&& 0xffffff#32 := by rw [e, e, h]
  refine BitVec.eq_of_getLsbD_eq fun i _ => ?_
  have h2 := congrArg (·.getLsbD i) h1
  simp only [BitVec.getLsbD_and, BitVec.getLsbD_xor, BitVec.getLsbD_zero] at h2 ⊢
  generalize (16777215#32).getLsbD i = m at *
  revert h2
  cases x.getLsbD i <;> cases y.getLsbD i <;> cases m <;> decide
theorem cross (p q : List UInt8) (a b c d : UInt8) (ht : a.toNat / 4 = c.toNat / 4) (h : (Crc.crc (p ++ (q ++ [a, b]))).toNat % 16777216 = (Crc.crc (p ++ (q ++ [c, d]))).toNat % 16777216) : a = c ∧ b = d := by
  have h1 := low_eq h
  unfold Crc.crc at h1
  rw [← List.append_assoc, ← List.append_assoc, Crc.run_app _ (p ++ q) [a, b], Crc.run_app _ (p ++ q) [c, d]] at h1
  generalize Crc.run (BitVec.allOnes 32) (p ++ q) = r at h1
  rw [Crc.run_word [a, b] r (by simp), Crc.run_word [c, d] r (by simp), show [a, b].length = 2 from rfl, show [c, d].length = 2 from rfl] at h1
  have e1 : ∀ x y : BitVec 32, ~~~x ^^^ ~~~y = x ^^^ y := fun x y => by
    rw [← BitVec.xor_allOnes, ← BitVec.xor_allOnes (x := y), ← Crc.xcan]
  have e2 : (r ^^^ Crc.word [a, b]) ^^^ (r ^^^ Crc.word [c, d]) = BitVec.ofNat 32 (a ^^^ c).toNat ^^^ (BitVec.ofNat 32 (b ^^^ d).toNat <<< 8) := by
    rw [BitVec.xor_comm r, BitVec.xor_comm r, ← Crc.xcan, ← w8_of, ← w8_of, Crc.w8_xor, Crc.w8_xor]
    simp only [Crc.word, BitVec.zero_shiftLeft, BitVec.xor_zero, BitVec.shiftLeft_xor_distrib]
    rw [BitVec.xor_assoc, BitVec.xor_assoc, Crc.xlc (Crc.w8 b <<< 8)]
  rw [e1, ← Crc.shs_xor, e2] at h1
  have hlt : (a ^^^ c).toNat < 4 := by
    have e3 : (a ^^^ c).toNat / 2 ^ 2 = a.toNat / 2 ^ 2 ^^^ c.toNat / 2 ^ 2 := by
      rw [UInt8.toNat_xor, Nat.xor_div_two_pow]
    rw [show a.toNat / 2 ^ 2 = c.toNat / 2 ^ 2 from ht, Nat.xor_self] at e3
    omega
  obtain ⟨k1, k2⟩ := ten' _ _ hlt (b ^^^ d).toNat_lt h1
  have z : ∀ x y : UInt8, (x ^^^ y).toNat = 0 → x = y := fun x y hxy => by
    have h0 : x ^^^ y = 0 := UInt8.toNat_inj.1 hxy
    have h1 := Crc.w8_xor x y
    rw [h0] at h1
    exact Crc.w8_inj (BitVec.xor_eq_zero_iff.1 h1.symm)
  exact ⟨z _ _ k1, z _ _ k2⟩
theorem byN4 (n : Nat) : byN 4 n = [UInt8.ofNat (n / 256 ^ 3), UInt8.ofNat (n / 256 ^ 2), UInt8.ofNat (n / 256 ^ 1), UInt8.ofNat (n / 256 ^ 0)] := rfl
theorem byN_low {m n : Nat} (h : ∀ t, 1 ≤ t → (byN 4 m)[t]? = (byN 4 n)[t]?) : m % 16777216 = n % 16777216 := by
  rw [byN4, byN4] at h
  have e : ∀ {x y : Nat}, (some (UInt8.ofNat x) : Option UInt8) = some (UInt8.ofNat y) → x % 256 = y % 256 := fun {x y} hxy => by
    have := congrArg UInt8.toNat (Option.some.inj hxy)
    rwa [UInt8.toNat_ofNat', UInt8.toNat_ofNat'] at this
  have h1 := e (h 1 (by omega))
  have h2 := e (h 2 (by omega))
  have h3 := e (h 3 (by omega))
  omega
section
variable {sg : Nat → UInt8}
/-- Two texts with their check whose signs agree outside two neighbouring places are one. -/
theorem near (hi : ∀ a b, a < 64 → b < 64 → sg a = sg b → a = b) (p F G : List UInt8) (hF : F.length = 32) (hG : G.length = 32) (i : Nat)
    (h : ∀ j, j ≠ i → j ≠ i + 1 → (Six.enc sg 0 0 (cw p F))[j]? = (Six.enc sg 0 0 (cw p G))[j]?) : F = G := by
  have cF : (cw p F).length = 36 := by unfold cw; rw [List.length_append, byN_len, hF]
  have cG : (cw p G).length = 36 := by unfold cw; rw [List.length_append, byN_len, hG]
  have hb : ∀ m, 4 * m / 3 + 1 < i ∨ i + 1 < 4 * m / 3 → (cw p F)[m]? = (cw p G)[m]? := fun m hm =>
    byte_of hi _ _ m (by omega) (by omega) (h _ (by omega) (by omega)) (h _ (by omega) (by omega))
  have gF : ∀ m, m < 32 → (cw p F)[m]? = F[m]? := fun m hm => List.getElem?_append_left (by omega)
  have gG : ∀ m, m < 32 → (cw p G)[m]? = G[m]? := fun m hm => List.getElem?_append_left (by omega)
  have kF : ∀ t, (cw p F)[32 + t]? = (byN 4 (Crc.crc (p ++ F)).toNat)[t]? := fun t => by
    unfold cw; rw [List.getElem?_append_right (by omega), hF, Nat.add_sub_cancel_left]
  have kG : ∀ t, (cw p G)[32 + t]? = (byN 4 (Crc.crc (p ++ G)).toNat)[t]? := fun t => by
    unfold cw; rw [List.getElem?_append_right (by omega), hG, Nat.add_sub_cancel_left]
  have hfar : ∀ m, 32 ≤ m → F[m]? = G[m]? := fun m hm => by
    rw [List.getElem?_eq_none (by omega), List.getElem?_eq_none (by omega)]
  by_cases c1 : i ≤ 40
  · have hcrc : byN 4 (Crc.crc (p ++ F)).toNat = byN 4 (Crc.crc (p ++ G)).toNat := List.ext_getElem? fun t => by
      rw [← kF, ← kG]; exact hb _ (by omega)
    refine window p F G (by omega) (3 * i / 4) (fun m hm => ?_) (BitVec.eq_of_toNat_eq (byN_inj (crc_lt _) (crc_lt _) hcrc))
    by_cases hm32 : m < 32
    · rw [← gF m hm32, ← gG m hm32]; exact hb m (by omega)
    · exact hfar m (by omega)
  by_cases c2 : 43 ≤ i
  · refine List.ext_getElem? fun m => ?_
    by_cases hm32 : m < 32
    · rw [← gF m hm32, ← gG m hm32]; exact hb m (by omega)
    · exact hfar m (by omega)
  have hlow : (Crc.crc (p ++ F)).toNat % 16777216 = (Crc.crc (p ++ G)).toNat % 16777216 := byN_low fun t ht => by
    rw [← kF, ← kG]; exact hb _ (by omega)
  have ht := take_eq (F := F) (G := G) 30 (fun m hm => by rw [← gF m (by omega), ← gG m (by omega)]; exact hb m (by omega))
  have two : ∀ X : List UInt8, X.length = 32 → ∃ a b, X = X.take 30 ++ [a, b] ∧ X[30]? = some a := fun X hX => by
    have h1 : (X.drop 30).length = 2 := by rw [List.length_drop, hX]
    match hd : X.drop 30, h1 with
    | [a, b], _ =>
      refine ⟨a, b, by rw [← hd, List.take_append_drop], ?_⟩
      have := congrArg (·[0]?) hd
      simpa [List.getElem?_drop] using this
  obtain ⟨a, b, eF, aF⟩ := two F hF
  obtain ⟨c, d, eG, aG⟩ := two G hG
  have htop := top_of hi _ _ 10 (by omega) (by omega) (h 40 (by omega) (by omega)) a c (by rw [gF 30 (by omega)]; exact aF) (by rw [gG 30 (by omega)]; exact aG)
  rw [eF, eG, ht] at hlow
  obtain ⟨rfl, rfl⟩ := cross _ _ _ _ _ _ htop hlow
  rw [eF, eG, ht]
end
end Near
abbrev tokL (k : Int) (n : Nat) (z : ByteArray) : List UInt8 := Six.enc (sgOf namesB) 0 0 (Near.cw (pfx k).data.toList (frontT n z.data.toList))
theorem tokenT_list (k : Int) (n : Nat) (z : ByteArray) : (tokenT k n z).data.toList = (pfx k).data.toList ++ tokL k n z := tokenT_data k n z
theorem pfx_list (k : Int) (hk : k = 1 ∨ k = 2) : ∃ c : UInt8, (pfx k).data.toList = [108, 107, c, 95] ∧ (c = 114 ↔ k = 1) := by
  rcases hk with rfl | rfl
  · exact ⟨114, rfl, by decide⟩
  · exact ⟨99, rfl, by decide⟩
theorem tokens_near (k l : Int) (m n : Nat) (y z : ByteArray) (hk : k = 1 ∨ k = 2) (hl : l = 1 ∨ l = 2) (hy : y.size = 24) (hz : z.size = 24) (j : Nat)
    (h : ∀ i, i ≠ j → i ≠ j + 1 → (tokenT k m y).data.toList[i]? = (tokenT l n z).data.toList[i]?) : tokenT k m y = tokenT l n z := by
  have fy : (frontT m y.data.toList).length = 32 := by rw [frontT_len]; show 8 + y.size = 32; omega
  have fz : (frontT n z.data.toList).length = 32 := by rw [frontT_len]; show 8 + z.size = 32; omega
  obtain ⟨c, pc, ic⟩ := pfx_list k hk
  obtain ⟨d, pd, id⟩ := pfx_list l hl
  have h4 : ∀ i, i + 4 ≠ j → i + 4 ≠ j + 1 → (tokL k m y)[i]? = (tokL l n z)[i]? := fun i h1 h2 => by
    have := h (i + 4) h1 h2
    rw [tokenT_list, tokenT_list, pc, pd] at this
    simpa using this
  by_cases hkl : k = l
  · subst hkl
    have e := Near.near Near.names_inj (pfx k).data.toList _ _ fy fz (j - 4) (fun i h1 h2 => h4 i (by omega) (by omega))
    refine ByteArray.ext (Array.toList_inj.1 ?_)
    rw [tokenT_list, tokenT_list]
    unfold tokL
    rw [e]
  · exfalso
    have hcd : c ≠ d := fun e => hkl (by
      rcases hk with rfl | rfl <;> rcases hl with rfl | rfl
      · rfl
      · exact absurd (id.1 (e ▸ ic.2 rfl)) (by decide)
      · exact absurd (ic.1 (e ▸ id.2 rfl)) (by decide)
      · rfl)
    have hj : j = 2 ∨ j = 1 := by
      by_cases hh : 2 ≠ j ∧ 2 ≠ j + 1
      · have := h 2 hh.1 hh.2
        rw [tokenT_list, tokenT_list, pc, pd] at this
        exact absurd (by simpa using this) hcd
      · omega
    have e : tokL k m y = tokL l n z := List.ext_getElem? fun i => h4 i (by omega) (by omega)
    have e1 := names_back (Near.cw (pfx k).data.toList (frontT m y.data.toList))
    have e2 := names_back (Near.cw (pfx l).data.toList (frontT n z.data.toList))
    have e3 := Option.some.inj (e1.symm.trans ((congrArg (Six.dec (pl namesB.data.toList) 0 0) e).trans e2))
    have e4 := List.append_inj e3 (by omega)
    rw [e4.1] at e4
    have e5 := BitVec.eq_of_toNat_eq (Near.byN_inj (Near.crc_lt _) (Near.crc_lt _) e4.2)
    have e6 := Crc.burst [] [108, 107, c, 95] [108, 107, d, 95] (frontT n z.data.toList) rfl (by simp) (by rw [pc, pd] at e5; exact e5)
    simp at e6
    exact hcd e6
/-- Whoever mistypes a token has it, or none. -/
theorem parse_near (k l : Int) (n : Nat) (z s : ByteArray) (x : Int) (v : ByteArray) (hk : k = 1 ∨ k = 2) (hl : l = 1 ∨ l = 2) (hz : z.size = 24) (j : Nat)
    (h : ∀ i, i ≠ j → i ≠ j + 1 → s.data.toList[i]? = (tokenT k n z).data.toList[i]?) (hp : parseV l s = (x, v, 0)) : s = tokenT k n z := by
  have hm := mint_back l s x v hl hp
  unfold mintV at hm
  by_cases hc : (l ≠ 1 ∧ l ≠ 2) ∨ x < 1 ∨ 4611686018427387904 < x ∨ v.size ≠ 24
  · rw [if_pos hc] at hm; cases hm
  · rw [if_neg hc] at hm
    have e : tokenT l x.toNat v = s := (Prod.mk.inj hm).1
    rw [← e] at h ⊢
    exact tokens_near l k _ n v z hl hk (by omega) hz j h
end Go.Proofs.YtilcilbmbhbakaaDoor
