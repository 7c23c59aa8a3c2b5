/- latchkeylaw02.CodecBack: true of any two texts and numbers. Printed by gen_back.py. -/
import Derived.Test.YtokephnlelpjhaaDoorBackSaid
import Derived.Test.YtokephnlelpjhaaDoorBent
namespace Go.Proofs.YtokephnlelpjhaaDoor
open Go.RowKit
/-- Five texts. -/
abbrev five (a b c d e : ByteArray) : Array Value := #[.string a, .string b, .string c, .string d, .string e]
theorem five_at {E : World} {M : List Hp} {g : Nat} {a b c d e : ByteArray} (k : Nat) (hk : k < 5) (hz : ∀ x ∈ [a, b, c, d, e], x.size ≤ 10000000000000) :
    ∃ x : ByteArray, x.size ≤ 10000000000000 ∧ ∀ w', Own E w' (Hp.blk g ST (five a b c d e) :: M) → w'.cell? ⟨g, k, none⟩ = some (.string x) := by
  obtain ⟨x, hx, hc⟩ : ∃ x, x ∈ [a, b, c, d, e] ∧ (five a b c d e)[k]? = some (.string x) := by
    rcases (by omega : k = 0 ∨ k = 1 ∨ k = 2 ∨ k = 3 ∨ k = 4) with rfl | rfl | rfl | rfl | rfl
    · exact ⟨a, by simp, rfl⟩
    · exact ⟨b, by simp, rfl⟩
    · exact ⟨c, by simp, rfl⟩
    · exact ⟨d, by simp, rfl⟩
    · exact ⟨e, by simp, rfl⟩
  exact ⟨x, hz x hx, fun w' hw => by rw [hw.cell k]; exact hc⟩
theorem pair_b64 (x : ByteArray) (hx : x.size ≤ 10000000000000) : ∃ t k, readV (fromS namesB.data.toList x.data.toList) = .tuple #[.string t, .int .i64 k] ∧ ((k = 0 ∧ t.size ≤ 10000000000000 ∧ b64 t = x) ∨ (k = 24 ∧ t = ⟨#[]⟩)) := by
  rcases said_b64 x with ⟨t, e1, e2⟩ | e1
  · have := b64_size t
    rw [e2] at this
    exact ⟨t, 0, e1, .inl ⟨rfl, by omega, e2⟩⟩
  · exact ⟨_, _, e1, .inr ⟨rfl, rfl⟩⟩
theorem pair_std (x : ByteArray) (hx : x.size ≤ 10000000000000) : ∃ t k, readV (fromM x.data.toList) = .tuple #[.string t, .int .i64 k] ∧ ((k = 0 ∧ t.size ≤ 10000000000000 ∧ std t = x) ∨ (k = 24 ∧ t = ⟨#[]⟩)) := by
  rcases said_std x with ⟨t, e1, e2⟩ | e1
  · have := std_size t
    rw [e2] at this
    exact ⟨t, 0, e1, .inl ⟨rfl, by omega, e2⟩⟩
  · exact ⟨_, _, e1, .inr ⟨rfl, rfl⟩⟩
theorem pair_hex (x : ByteArray) (hx : x.size ≤ 10000000000000) : ∃ t k, readV (unhexL x.data.toList) = .tuple #[.string t, .int .i64 k] ∧ ((k = 0 ∧ t.size ≤ 10000000000000 ∧ hexS t = x) ∨ (k = 24 ∧ t = ⟨#[]⟩)) := by
  rcases said_hex x with ⟨t, e1, e2⟩ | e1
  · have := hexS_size t
    rw [e2] at this
    exact ⟨t, 0, e1, .inl ⟨rfl, by omega, e2⟩⟩
  · exact ⟨_, _, e1, .inr ⟨rfl, rfl⟩⟩
set_option maxRecDepth 100000 in
set_option maxHeartbeats 8000000 in
theorem back_any {E : World} {L : List Hp} (s more : ByteArray) (p q : Int) (w : World) (hs : s.size ≤ 140737488355328) (hm : more.size ≤ 140737488355328) (hp : -9223372036854775808 ≤ p ∧ p ≤ 9223372036854775807) (h : Own E w L) :
    Calls Tryd.prog 7 #[.string s, .int .i64 p, .int .i64 q, .string more] w fun e w' => e = .returned (.bool true) ∧ Own E w' L := by
  have hs' : s.size ≤ 1000000000000000000 := by omega
  have hm' : more.size ≤ 1000000000000000000 := by omega
  obtain ⟨D, hD⟩ : ∃ D, D = addN s.size s.size := ⟨_, rfl⟩
  have hD1 : D ≤ 1000000000000000000 := by have := addN_top s.size s.size; omega
  obtain ⟨D2, hD2⟩ : ∃ D2, D2 = addN D more.size := ⟨_, rfl⟩
  have hD3 : D2 ≤ 1000000000000000000 := by have := addN_top D more.size; omega
  obtain ⟨B, hB⟩ : ∃ B, B = addN D D2 := ⟨_, rfl⟩
  have hsmall : B ≤ 2147483647 → s.size ≤ 2147483647 ∧ more.size ≤ 2147483647 := fun hb => by
    have e1 := addN_le D D2 (by rw [← hB]; exact hb)
    have e2 := addN_le D more.size (by rw [← hD2]; omega)
    have e3 := addN_le s.size s.size (by rw [← hD]; omega)
    omega
  have HD := Lib.hid hD
  have HD2 := Lib.hid hD2
  have HB := Lib.hid hB
  have HSM := Lib.hid hsmall
  clear hs hm hD hD2 hB hsmall
  go_enter Tryd.func7, Tryd.ntmps7
  go_wp2_with fail
  refine (add_any s.size s.size _ hs' hs').mono ?_
  rintro e w1 ⟨rfl, rfl⟩
  rw [← HD.out]
  go_wp2_with fail
  refine (add_any s.size s.size _ hs' hs').mono ?_
  rintro e w1 ⟨rfl, rfl⟩
  rw [← HD.out]
  go_wp2_with fail
  refine (add_any D more.size _ hD1 hm').mono ?_
  rintro e w1 ⟨rfl, rfl⟩
  rw [← HD2.out]
  go_wp2_with fail
  refine (add_any D D2 _ hD1 hD3).mono ?_
  rintro e w1 ⟨rfl, rfl⟩
  rw [← HB.out]
  by_cases hc : 2147483647 < B
  · go_wp2_with fail
    go_ret
    exact ⟨rfl, h⟩
  obtain ⟨hs2, hm2⟩ := HSM.out (by omega)
  clear hs' hm' hD1 hD3 HD HD2 HB HSM
  have hs3 : s.size ≤ 10000000000000 := by omega
  go_wp2_with fail
  refine (awake_any _ h).mono ?_
  rintro e w1 ⟨rfl, h1⟩
  clear h
  obtain ⟨x, hx⟩ : ∃ x, x = b64 s := ⟨_, rfl⟩
  obtain ⟨y, hy⟩ : ∃ x, x = std s := ⟨_, rfl⟩
  obtain ⟨z, hz⟩ : ∃ x, x = hexS s := ⟨_, rfl⟩
  have zx : x.size = (4 * s.size + 2) / 3 := by rw [hx]; exact b64_size s
  have zy : y.size = (s.size + 2) / 3 * 4 := by rw [hy]; exact std_size s
  have zz : z.size = 2 * s.size := by rw [hz]; exact hexS_size s
  have bx := back_b64 s
  have bY := back_std s
  have bz := back_hex s
  rw [← hx] at bx
  rw [← hy] at bY
  rw [← hz] at bz
  have HX := Lib.hid hx
  have HY := Lib.hid hy
  have HZ := Lib.hid hz
  have BX := Lib.hid bx
  have BY := Lib.hid bY
  have BZ := Lib.hid bz
  have hx3 : x.size ≤ 10000000000 := by omega
  have hy3 : y.size ≤ 10000000000 := by omega
  have hz3 : z.size ≤ 10000000000 := by omega
  have ZX := Lib.hid zx
  have ZY := Lib.hid zy
  have ZZ := Lib.hid zz
  clear hx hy hz bx bY bz zx zy zz
  go_wp2_with fail
  refine (base64_any s _ hs3 h1).mono ?_
  rintro e w2 ⟨rfl, h2⟩
  clear h1
  rw [← HX.out]
  go_wp2_with fail
  refine (standard_any s _ hs3 h2).mono ?_
  rintro e w3 ⟨rfl, h3⟩
  clear h2
  rw [← HY.out]
  go_wp2_with fail
  refine (hex_any s _ hs3 h3).mono ?_
  rintro e w4 ⟨rfl, h4⟩
  clear h3
  rw [← HZ.out]
  go_wp2_with fail
  refine (frombase64_any x _ (by omega) h4).mono ?_
  rintro e w5 ⟨rfl, h5⟩
  clear h4
  rw [BX.out]
  go_wp2_with fail
  refine (fromstandard_any y _ (by omega) h5).mono ?_
  rintro e w6 ⟨rfl, h6⟩
  clear h5
  rw [BY.out]
  go_wp2_with fail
  refine (fromhex_any z _ (by omega) h6).mono ?_
  rintro e w7 ⟨rfl, h7⟩
  clear h6
  rw [BZ.out]
  have zx := ZX.out
  have zy := ZY.out
  have zz := ZZ.out
  have zxi : (x.size : Int) = (4 * (s.size : Int) + 2) / 3 := by omega
  have zyi : (y.size : Int) = ((s.size : Int) + 2) / 3 * 4 := by omega
  have zzi : (z.size : Int) = 2 * (s.size : Int) := by omega
  have dxi : (4 * (s.size : Int) + 2).tdiv 3 = (4 * (s.size : Int) + 2) / 3 := Int.tdiv_eq_ediv_of_nonneg (by omega)
  have dyi : ((s.size : Int) + 2).tdiv 3 = ((s.size : Int) + 2) / 3 := Int.tdiv_eq_ediv_of_nonneg (by omega)
  clear zx zy zz
  go_wp2_with fail
  clear zxi zyi zzi dxi dyi HX HY HZ BX BY BZ ZX ZY ZZ
  refine (bent_any x p q _ (by omega) hp h7).mono ?_
  rintro e w8 ⟨r0, rfl, hr0, h8⟩
  clear h7
  have zr0 : r0.size ≤ 10000000000 := by omega
  clear hr0
  go_wp2_with fail
  rw [show (x.size : Int) + 1 = ((x.size + 1 : Nat) : Int) from rfl]
  refine (pick_any p (x.size + 1) _ hp (by omega) (by omega)).mono ?_
  rintro e w9 ⟨rfl, rfl⟩
  obtain ⟨j0, hj0⟩ : ∃ j, j = pickN p (x.size + 1) := ⟨_, rfl⟩
  have jl0 : j0 < x.size + 1 := by rw [hj0]; exact pickN_lt _ _ (by omega)
  rw [← hj0]
  clear hj0
  have ji0 : (j0 : Int) ≤ x.size := by omega
  have jz0 : (0 : Int) ≤ j0 := by omega
  obtain ⟨u0, hu0⟩ : ∃ u, u = x.extract 0 j0 := ⟨_, rfl⟩
  obtain ⟨m0, hm0⟩ : ∃ u, u = x ++ more := ⟨_, rfl⟩
  obtain ⟨n0, hn0⟩ : ∃ u, u = more ++ x := ⟨_, rfl⟩
  have zu0 : u0.size ≤ 10000000000 := by rw [hu0, ByteArray.size_extract]; omega
  have zm0 : m0.size ≤ 10000000000000 := by rw [hm0, ByteArray.size_append]; omega
  have zn0 : n0.size ≤ 10000000000000 := by rw [hn0, ByteArray.size_append]; omega
  have HF0 := Lib.hid (show ∀ v ∈ [r0, u0, m0, n0, y], v.size ≤ 10000000000000 by
    intro v hv
    simp only [List.mem_cons, List.not_mem_nil, or_false] at hv
    rcases hv with rfl | rfl | rfl | rfl | rfl <;> omega)
  clear zu0 zm0 zn0
  go_wp2_with fail
  rw [← hu0, ← hm0, ← hn0]
  clear hu0 hm0 hn0 jl0 ji0 jz0 zr0
  have h10 : Own E (w8.alloc (.cells (five r0 u0 m0 n0 y) ST)) (Hp.blk w8.heap.size ST (five r0 u0 m0 n0 y) :: L) := h8.alloc _
  clear h8
  generalize w8.heap.size = g0 at *
  obtain ⟨w10, hw10⟩ : ∃ v, v = w8.alloc (.cells (five r0 u0 m0 n0 y) ST) := ⟨_, rfl⟩
  rw [← hw10] at h10 ⊢
  clear hw10
  refine (bent_any y p q _ (by omega) hp h10).mono ?_
  rintro e w11 ⟨r1, rfl, hr1, h11⟩
  clear h10
  have zr1 : r1.size ≤ 10000000000 := by omega
  clear hr1
  go_wp2_with fail
  rw [show (y.size : Int) + 1 = ((y.size + 1 : Nat) : Int) from rfl]
  refine (pick_any p (y.size + 1) _ hp (by omega) (by omega)).mono ?_
  rintro e w12 ⟨rfl, rfl⟩
  obtain ⟨j1, hj1⟩ : ∃ j, j = pickN p (y.size + 1) := ⟨_, rfl⟩
  have jl1 : j1 < y.size + 1 := by rw [hj1]; exact pickN_lt _ _ (by omega)
  rw [← hj1]
  clear hj1
  have ji1 : (j1 : Int) ≤ y.size := by omega
  have jz1 : (0 : Int) ≤ j1 := by omega
  obtain ⟨u1, hu1⟩ : ∃ u, u = y.extract 0 j1 := ⟨_, rfl⟩
  obtain ⟨m1, hm1⟩ : ∃ u, u = y ++ more := ⟨_, rfl⟩
  obtain ⟨n1, hn1⟩ : ∃ u, u = more ++ y := ⟨_, rfl⟩
  have zu1 : u1.size ≤ 10000000000 := by rw [hu1, ByteArray.size_extract]; omega
  have zm1 : m1.size ≤ 10000000000000 := by rw [hm1, ByteArray.size_append]; omega
  have zn1 : n1.size ≤ 10000000000000 := by rw [hn1, ByteArray.size_append]; omega
  have HF1 := Lib.hid (show ∀ v ∈ [r1, u1, m1, n1, x], v.size ≤ 10000000000000 by
    intro v hv
    simp only [List.mem_cons, List.not_mem_nil, or_false] at hv
    rcases hv with rfl | rfl | rfl | rfl | rfl <;> omega)
  clear zu1 zm1 zn1
  go_wp2_with fail
  rw [← hu1, ← hm1, ← hn1]
  clear hu1 hm1 hn1 jl1 ji1 jz1 zr1
  have h13 : Own E (w11.alloc (.cells (five r1 u1 m1 n1 x) ST)) (Hp.blk w11.heap.size ST (five r1 u1 m1 n1 x) :: Hp.blk g0 ST (five r0 u0 m0 n0 y) :: L) := h11.alloc _
  clear h11
  generalize w11.heap.size = g1 at *
  obtain ⟨w13, hw13⟩ : ∃ v, v = w11.alloc (.cells (five r1 u1 m1 n1 x) ST) := ⟨_, rfl⟩
  rw [← hw13] at h13 ⊢
  clear hw13
  refine (bent_any z p q _ (by omega) hp h13).mono ?_
  rintro e w14 ⟨r2, rfl, hr2, h14⟩
  clear h13
  have zr2 : r2.size ≤ 10000000000 := by omega
  clear hr2
  go_wp2_with fail
  rw [show (z.size : Int) + 1 = ((z.size + 1 : Nat) : Int) from rfl]
  refine (pick_any p (z.size + 1) _ hp (by omega) (by omega)).mono ?_
  rintro e w15 ⟨rfl, rfl⟩
  obtain ⟨j2, hj2⟩ : ∃ j, j = pickN p (z.size + 1) := ⟨_, rfl⟩
  have jl2 : j2 < z.size + 1 := by rw [hj2]; exact pickN_lt _ _ (by omega)
  rw [← hj2]
  clear hj2
  have ji2 : (j2 : Int) ≤ z.size := by omega
  have jz2 : (0 : Int) ≤ j2 := by omega
  obtain ⟨u2, hu2⟩ : ∃ u, u = z.extract 0 j2 := ⟨_, rfl⟩
  obtain ⟨m2, hm2⟩ : ∃ u, u = z ++ more := ⟨_, rfl⟩
  obtain ⟨n2, hn2⟩ : ∃ u, u = more ++ z := ⟨_, rfl⟩
  have zu2 : u2.size ≤ 10000000000 := by rw [hu2, ByteArray.size_extract]; omega
  have zm2 : m2.size ≤ 10000000000000 := by rw [hm2, ByteArray.size_append]; omega
  have zn2 : n2.size ≤ 10000000000000 := by rw [hn2, ByteArray.size_append]; omega
  have HF2 := Lib.hid (show ∀ v ∈ [r2, u2, m2, n2, x], v.size ≤ 10000000000000 by
    intro v hv
    simp only [List.mem_cons, List.not_mem_nil, or_false] at hv
    rcases hv with rfl | rfl | rfl | rfl | rfl <;> omega)
  clear zu2 zm2 zn2
  go_wp2_with fail
  rw [← hu2, ← hm2, ← hn2]
  clear hu2 hm2 hn2 jl2 ji2 jz2 zr2
  have h16 : Own E (w14.alloc (.cells (five r2 u2 m2 n2 x) ST)) (Hp.blk w14.heap.size ST (five r2 u2 m2 n2 x) :: Hp.blk g1 ST (five r1 u1 m1 n1 x) :: Hp.blk g0 ST (five r0 u0 m0 n0 y) :: L) := h14.alloc _
  clear h14
  generalize w14.heap.size = g2 at *
  obtain ⟨w16, hw16⟩ : ∃ v, v = w14.alloc (.cells (five r2 u2 m2 n2 x) ST) := ⟨_, rfl⟩
  rw [← hw16] at h16 ⊢
  clear hw16
  obtain ⟨LL, hLL⟩ : ∃ LL : List Hp, LL = Hp.blk g2 ST (five r2 u2 m2 n2 x) :: Hp.blk g1 ST (five r1 u1 m1 n1 x) :: Hp.blk g0 ST (five r0 u0 m0 n0 y) :: L := ⟨_, rfl⟩
  have hcells : ∀ k, k < 5 → ∃ X Y Z : ByteArray, X.size ≤ 10000000000000 ∧ Y.size ≤ 10000000000000 ∧ Z.size ≤ 10000000000000 ∧ ∀ w', Own E w' LL →
      w'.cell? ⟨g0, k, none⟩ = some (.string X) ∧ w'.cell? ⟨g1, k, none⟩ = some (.string Y) ∧ w'.cell? ⟨g2, k, none⟩ = some (.string Z) := fun k hk => by
    obtain ⟨X, e1, c1⟩ := five_at (E := E) (M := Hp.blk g2 ST (five r2 u2 m2 n2 x) :: Hp.blk g1 ST (five r1 u1 m1 n1 x) :: L) (g := g0) k hk HF0.out
    obtain ⟨Y, e2, c2⟩ := five_at (E := E) (M := Hp.blk g2 ST (five r2 u2 m2 n2 x) :: Hp.blk g0 ST (five r0 u0 m0 n0 y) :: L) (g := g1) k hk HF1.out
    obtain ⟨Z, e3, c3⟩ := five_at (E := E) (M := Hp.blk g1 ST (five r1 u1 m1 n1 x) :: Hp.blk g0 ST (five r0 u0 m0 n0 y) :: L) (g := g2) k hk HF2.out
    exact ⟨X, Y, Z, e1, e2, e3, fun w' hw' => by rw [hLL] at hw'; exact ⟨c1 w' hw'.f2, c2 w' hw'.f1, c3 w' hw'⟩⟩
  have hend : ∀ w', Own E w' LL → Own E w' L := fun w' hw' => by rw [hLL] at hw'; exact hw'.drop.drop.drop
  rw [← hLL] at h16
  have HC := Lib.hid hcells
  have HE := Lib.hid hend
  have H16 := Lib.hid h16
  clear hLL hcells hend h16 HF0 HF1 HF2
  go_loopw [22] (fun i wr => ∃ k : Nat, k ≤ 5 ∧ i = .int .i64 k ∧ Own E wr LL) (fun i _ => 5 - (intOf i).toNat)
  case atStart => exact ⟨0, by omega, rfl, H16.out⟩
  case round =>
    obtain ⟨k, hk, rfl, hw⟩ := hrel
    clear H16
    by_cases hlt : k < 5
    · obtain ⟨X, Y, Z, zX, zY, zZ, hcell⟩ := HC.out k hlt
      have HK := Lib.hid hcell
      have cX := (hcell _ hw).1
      have i0 : (0 : Int) ≤ (k : Int) := by omega
      have i1 : (k : Int) < 5 := by omega
      clear hcell
      go_wp2_with fail
      refine (frombase64_any X _ (by omega) hw).mono ?_
      rintro e v1 ⟨rfl, h1⟩
      clear hw
      obtain ⟨a, ka, ea, ha⟩ := pair_b64 X zX
      rw [ea]
      clear ea cX
      have cY := (HK.out _ h1).2.1
      go_wp2_with fail
      refine (fromstandard_any Y _ (by omega) h1).mono ?_
      rintro e v2 ⟨rfl, h2⟩
      clear h1
      obtain ⟨b, kb, eb, hb⟩ := pair_std Y zY
      rw [eb]
      clear eb cY
      have cZ := (HK.out _ h2).2.2
      go_wp2_with fail
      refine (fromhex_any Z _ (by omega) h2).mono ?_
      rintro e v3 ⟨rfl, h3⟩
      clear h2
      obtain ⟨c, kc, ec, hc'⟩ := pair_hex Z zZ
      rw [ec]
      clear ec cZ
      rcases ha with ⟨rfl, za, ea⟩ | ⟨rfl, rfl⟩
      · go_wp2_with fail
        refine wp_region_text [8] (fun w' => w'.cell? ⟨g0, k, none⟩ = some (.string X)) (by kernel_rfl) ?_ (fun hS => ?_)
        · exact (HK.out _ h3.drew).1
        refine wpAnyG_pure (i := 0) (oi := ⟨some 210, _, _, _, _, _⟩) (v := ?_) rfl (by kernel_rfl) (by kernel_rfl) (by kernel_rfl) (by rfl) (fun _ _ _ h => h) (by rfl) ?_ ?_
        rotate_left
        · intro w
          go_simp
          first | done | with_reducible rfl
        try simp only [Act.put, List.setIfInBounds_toArray, List.set_cons_zero, List.set_cons_succ]
        refine wpAnyG_pure (i := 1) (oi := ⟨some 211, _, _, _, _, _⟩) (v := ?_) rfl (by kernel_rfl) (by kernel_rfl) (by kernel_rfl) (by rfl) (fun _ _ _ h => h) (by rfl) ?_ ?_
        rotate_left
        · intro w
          go_simp
          first | done | with_reducible rfl
        try simp only [Act.put, List.setIfInBounds_toArray, List.set_cons_zero, List.set_cons_succ]
        refine wpAnyG_pure (i := 2) (oi := ⟨some 212, _, _, _, _, _⟩) (v := ?_) rfl (by kernel_rfl) (by kernel_rfl) (by kernel_rfl) (by rfl) (fun _ _ _ h => h) (by rfl) ?_ ?_
        rotate_left
        · intro w
          go_simp
          first | done | with_reducible rfl
        try simp only [Act.put, List.setIfInBounds_toArray, List.set_cons_zero, List.set_cons_succ]
        refine wpAnyG_pure (i := 3) (oi := ⟨some 213, _, _, _, _, _⟩) (v := ?_) rfl (by kernel_rfl) (by kernel_rfl) (by kernel_rfl) (by rfl) (fun _ _ _ h => h) (by rfl) ?_ ?_
        rotate_left
        · intro w
          go_simp
          first | done | with_reducible rfl
        try simp only [Act.put, List.setIfInBounds_toArray, List.set_cons_zero, List.set_cons_succ]
        refine wpAnyG_pure (i := 5) (oi := ⟨some 215, _, _, _, _, _⟩) (v := ?_) rfl (by kernel_rfl) (by kernel_rfl) (by kernel_rfl) (by rfl) (fun _ _ _ h => h) (by rfl) ?_ ?_
        rotate_left
        · intro w
          go_simp
          first | done | with_reducible rfl
        try simp only [Act.put, List.setIfInBounds_toArray, List.set_cons_zero, List.set_cons_succ]
        refine wpAnyG_pure (i := 6) (oi := ⟨some 216, _, _, _, _, _⟩) (v := ?_) rfl (by kernel_rfl) (by kernel_rfl) (by kernel_rfl) (by rfl) (fun _ _ _ h => h) (by rfl) ?_ ?_
        rotate_left
        · intro w
          go_simp
          first | done | with_reducible rfl
        try simp only [Act.put, List.setIfInBounds_toArray, List.set_cons_zero, List.set_cons_succ]
        refine wpAnyG_pure (i := 7) (oi := ⟨some 217, _, _, _, _, _⟩) (v := ?_) rfl (by kernel_rfl) (by kernel_rfl) (by kernel_rfl) (by rfl) (fun _ _ _ h => h) (by rfl) ?_ ?_
        rotate_left
        · intro w
          go_simp
          first | done | with_reducible rfl
        try simp only [Act.put, List.setIfInBounds_toArray, List.set_cons_zero, List.set_cons_succ]
        refine wpAnyG_load (i := 8) (oi := ⟨some 218, _, _, _, _, _⟩) (v := ?_) rfl (by kernel_rfl) (by kernel_rfl) (by kernel_rfl) (by rfl) (fun _ _ _ h => h) (by rfl) ?_ (by assumption) ?_
        rotate_left
        · intro w hS
          try dsimp only at hS
          go_simp
          first | done | with_reducible rfl
        try simp only [Act.put, List.setIfInBounds_toArray, List.set_cons_zero, List.set_cons_succ]
        refine wpAnyG_keep (i := 4) (oi := ⟨some 214, _, _, _, _, _⟩) (by kernel_rfl) rfl (fun K hK => ?_)
        rw [if_pos (by rfl)]
        go_simp
        refine (base64_any a _ za h3.drew).mono ?_
        rintro e v4 ⟨rfl, hq0⟩
        rw [ea]
        refine hK.out _ _ ?_ (fun hS => ?_)
        · exact (HK.out _ hq0).1
        clear hK K
        try simp only [Act.put, List.setIfInBounds_toArray, List.set_cons_zero, List.set_cons_succ]
        refine wpAnyG_pure (i := 9) (oi := ⟨some 219, _, _, _, _, _⟩) (v := ?_) rfl (by kernel_rfl) (by kernel_rfl) (by kernel_rfl) (by rfl) (fun _ _ _ h => h) (by rfl) ?_ ?_
        rotate_left
        · intro w
          go_simp
          first | done | with_reducible rfl
        try simp only [Act.put, List.setIfInBounds_toArray, List.set_cons_zero, List.set_cons_succ]
        refine wpAnyG_pure (i := 10) (oi := ⟨some 220, _, _, _, _, _⟩) (v := ?_) rfl (by kernel_rfl) (by kernel_rfl) (by kernel_rfl) (by rfl) (fun _ _ _ h => h) (by rfl) ?_ ?_
        rotate_left
        · intro w
          go_simp
          first | done | with_reducible rfl
        try simp only [Act.put, List.setIfInBounds_toArray, List.set_cons_zero, List.set_cons_succ]
        refine wpAnyG_pure (i := 11) (oi := ⟨some 221, _, _, _, _, _⟩) (v := ?_) rfl (by kernel_rfl) (by kernel_rfl) (by kernel_rfl) (by rfl) (fun _ _ _ h => h) (by rfl) ?_ ?_
        rotate_left
        · intro w
          go_simp
          first | done | with_reducible rfl
        try simp only [Act.put, List.setIfInBounds_toArray, List.set_cons_zero, List.set_cons_succ]
        refine wpAnyG_pure (i := 12) (oi := ⟨some 222, _, _, _, _, _⟩) (v := ?_) rfl (by kernel_rfl) (by kernel_rfl) (by kernel_rfl) (by rfl) (fun _ _ _ h => h) (by rfl) ?_ ?_
        rotate_left
        · intro w
          go_simp
          first | done | with_reducible rfl
        try simp only [Act.put, List.setIfInBounds_toArray, List.set_cons_zero, List.set_cons_succ]
        refine wpAnyG_pure (i := 13) (oi := ⟨some 223, _, _, _, _, _⟩) (v := ?_) rfl (by kernel_rfl) (by kernel_rfl) (by kernel_rfl) (by rfl) (fun _ _ _ h => h) (by rfl) ?_ ?_
        rotate_left
        · intro w
          go_simp
          first | done | with_reducible rfl
        try simp only [Act.put, List.setIfInBounds_toArray, List.set_cons_zero, List.set_cons_succ]
        refine wpAnyG_pure (i := 14) (oi := ⟨some 224, _, _, _, _, _⟩) (v := ?_) rfl (by kernel_rfl) (by kernel_rfl) (by kernel_rfl) (by rfl) (fun _ _ _ h => h) (by rfl) ?_ ?_
        rotate_left
        · intro w
          go_simp
          first | done | with_reducible rfl
        try simp only [Act.put, List.setIfInBounds_toArray, List.set_cons_zero, List.set_cons_succ]
        refine wpAnyG_skip (i := 15) (oi := ⟨some 225, _, _, _, _, _⟩) rfl (by kernel_rfl) (by kernel_rfl) (by kernel_rfl) (by rfl) (fun _ _ _ h => h) (by rfl) ?_
        try simp only [Act.put, List.setIfInBounds_toArray, List.set_cons_zero, List.set_cons_succ]
        refine wpAnyG_skip (i := 16) (oi := ⟨some 226, _, _, _, _, _⟩) rfl (by kernel_rfl) (by kernel_rfl) (by kernel_rfl) (by rfl) (fun _ _ _ h => h) (by rfl) ?_
        try simp only [Act.put, List.setIfInBounds_toArray, List.set_cons_zero, List.set_cons_succ]
        refine wpAnyG_skip (i := 17) (oi := ⟨some 227, _, _, _, _, _⟩) rfl (by kernel_rfl) (by kernel_rfl) (by kernel_rfl) (by rfl) (fun _ _ _ h => h) (by rfl) ?_
        try simp only [Act.put, List.setIfInBounds_toArray, List.set_cons_zero, List.set_cons_succ]
        refine wpAnyG_skip (i := 18) (oi := ⟨some 228, _, _, _, _, _⟩) rfl (by kernel_rfl) (by kernel_rfl) (by kernel_rfl) (by rfl) (fun _ _ _ h => h) (by rfl) ?_
        try simp only [Act.put, List.setIfInBounds_toArray, List.set_cons_zero, List.set_cons_succ]
        refine wpAnyG_skip (i := 19) (oi := ⟨some 229, _, _, _, _, _⟩) rfl (by kernel_rfl) (by kernel_rfl) (by kernel_rfl) (by rfl) (fun _ _ _ h => h) (by rfl) ?_
        try simp only [Act.put, List.setIfInBounds_toArray, List.set_cons_zero, List.set_cons_succ]
        refine wpAnyG_skip (i := 20) (oi := ⟨some 230, _, _, _, _, _⟩) rfl (by kernel_rfl) (by kernel_rfl) (by kernel_rfl) (by rfl) (fun _ _ _ h => h) (by rfl) ?_
        try simp only [Act.put, List.setIfInBounds_toArray, List.set_cons_zero, List.set_cons_succ]
        refine wpAnyG_pure (i := 21) (oi := ⟨some 231, _, _, _, _, _⟩) (v := ?_) rfl (by kernel_rfl) (by kernel_rfl) (by kernel_rfl) (by rfl) (fun _ _ _ h => h) (by rfl) ?_ ?_
        rotate_left
        · intro w
          go_simp
          first | done | with_reducible rfl
        try simp only [Act.put, List.setIfInBounds_toArray, List.set_cons_zero, List.set_cons_succ]
        refine wpAnyG_pure (i := 22) (oi := ⟨some 232, _, _, _, _, _⟩) (v := ?_) rfl (by kernel_rfl) (by kernel_rfl) (by kernel_rfl) (by rfl) (fun _ _ _ h => h) (by rfl) ?_ ?_
        rotate_left
        · intro w
          go_simp
          first | done | with_reducible rfl
        try simp only [Act.put, List.setIfInBounds_toArray, List.set_cons_zero, List.set_cons_succ]
        refine wpAnyG_done (by kernel_rfl) ?_ _
        refine NoPanic.normal ?_
        clear h3
        rcases hb with ⟨rfl, zb, eb⟩ | ⟨rfl, rfl⟩
        · go_wp2_with fail
          refine wp_region_text [8] (fun w' => w'.cell? ⟨g1, k, none⟩ = some (.string Y)) (by kernel_rfl) ?_ (fun hS => ?_)
          · exact (HK.out _ hq0.drew).2.1
          refine wpAnyG_pure (i := 0) (oi := ⟨some 233, _, _, _, _, _⟩) (v := ?_) rfl (by kernel_rfl) (by kernel_rfl) (by kernel_rfl) (by rfl) (fun _ _ _ h => h) (by rfl) ?_ ?_
          rotate_left
          · intro w
            go_simp
            first | done | with_reducible rfl
          try simp only [Act.put, List.setIfInBounds_toArray, List.set_cons_zero, List.set_cons_succ]
          refine wpAnyG_pure (i := 1) (oi := ⟨some 234, _, _, _, _, _⟩) (v := ?_) rfl (by kernel_rfl) (by kernel_rfl) (by kernel_rfl) (by rfl) (fun _ _ _ h => h) (by rfl) ?_ ?_
          rotate_left
          · intro w
            go_simp
            first | done | with_reducible rfl
          try simp only [Act.put, List.setIfInBounds_toArray, List.set_cons_zero, List.set_cons_succ]
          refine wpAnyG_pure (i := 2) (oi := ⟨some 235, _, _, _, _, _⟩) (v := ?_) rfl (by kernel_rfl) (by kernel_rfl) (by kernel_rfl) (by rfl) (fun _ _ _ h => h) (by rfl) ?_ ?_
          rotate_left
          · intro w
            go_simp
            first | done | with_reducible rfl
          try simp only [Act.put, List.setIfInBounds_toArray, List.set_cons_zero, List.set_cons_succ]
          refine wpAnyG_pure (i := 3) (oi := ⟨some 236, _, _, _, _, _⟩) (v := ?_) rfl (by kernel_rfl) (by kernel_rfl) (by kernel_rfl) (by rfl) (fun _ _ _ h => h) (by rfl) ?_ ?_
          rotate_left
          · intro w
            go_simp
            first | done | with_reducible rfl
          try simp only [Act.put, List.setIfInBounds_toArray, List.set_cons_zero, List.set_cons_succ]
          refine wpAnyG_pure (i := 5) (oi := ⟨some 238, _, _, _, _, _⟩) (v := ?_) rfl (by kernel_rfl) (by kernel_rfl) (by kernel_rfl) (by rfl) (fun _ _ _ h => h) (by rfl) ?_ ?_
          rotate_left
          · intro w
            go_simp
            first | done | with_reducible rfl
          try simp only [Act.put, List.setIfInBounds_toArray, List.set_cons_zero, List.set_cons_succ]
          refine wpAnyG_pure (i := 6) (oi := ⟨some 239, _, _, _, _, _⟩) (v := ?_) rfl (by kernel_rfl) (by kernel_rfl) (by kernel_rfl) (by rfl) (fun _ _ _ h => h) (by rfl) ?_ ?_
          rotate_left
          · intro w
            go_simp
            first | done | with_reducible rfl
          try simp only [Act.put, List.setIfInBounds_toArray, List.set_cons_zero, List.set_cons_succ]
          refine wpAnyG_pure (i := 7) (oi := ⟨some 240, _, _, _, _, _⟩) (v := ?_) rfl (by kernel_rfl) (by kernel_rfl) (by kernel_rfl) (by rfl) (fun _ _ _ h => h) (by rfl) ?_ ?_
          rotate_left
          · intro w
            go_simp
            first | done | with_reducible rfl
          try simp only [Act.put, List.setIfInBounds_toArray, List.set_cons_zero, List.set_cons_succ]
          refine wpAnyG_load (i := 8) (oi := ⟨some 241, _, _, _, _, _⟩) (v := ?_) rfl (by kernel_rfl) (by kernel_rfl) (by kernel_rfl) (by rfl) (fun _ _ _ h => h) (by rfl) ?_ (by assumption) ?_
          rotate_left
          · intro w hS
            try dsimp only at hS
            go_simp
            first | done | with_reducible rfl
          try simp only [Act.put, List.setIfInBounds_toArray, List.set_cons_zero, List.set_cons_succ]
          refine wpAnyG_keep (i := 4) (oi := ⟨some 237, _, _, _, _, _⟩) (by kernel_rfl) rfl (fun K hK => ?_)
          rw [if_pos (by rfl)]
          go_simp
          refine (standard_any b _ zb hq0.drew).mono ?_
          rintro e v5 ⟨rfl, hq1⟩
          rw [eb]
          refine hK.out _ _ ?_ (fun hS => ?_)
          · exact (HK.out _ hq1).2.1
          clear hK K
          try simp only [Act.put, List.setIfInBounds_toArray, List.set_cons_zero, List.set_cons_succ]
          refine wpAnyG_pure (i := 9) (oi := ⟨some 242, _, _, _, _, _⟩) (v := ?_) rfl (by kernel_rfl) (by kernel_rfl) (by kernel_rfl) (by rfl) (fun _ _ _ h => h) (by rfl) ?_ ?_
          rotate_left
          · intro w
            go_simp
            first | done | with_reducible rfl
          try simp only [Act.put, List.setIfInBounds_toArray, List.set_cons_zero, List.set_cons_succ]
          refine wpAnyG_pure (i := 10) (oi := ⟨some 243, _, _, _, _, _⟩) (v := ?_) rfl (by kernel_rfl) (by kernel_rfl) (by kernel_rfl) (by rfl) (fun _ _ _ h => h) (by rfl) ?_ ?_
          rotate_left
          · intro w
            go_simp
            first | done | with_reducible rfl
          try simp only [Act.put, List.setIfInBounds_toArray, List.set_cons_zero, List.set_cons_succ]
          refine wpAnyG_pure (i := 11) (oi := ⟨some 244, _, _, _, _, _⟩) (v := ?_) rfl (by kernel_rfl) (by kernel_rfl) (by kernel_rfl) (by rfl) (fun _ _ _ h => h) (by rfl) ?_ ?_
          rotate_left
          · intro w
            go_simp
            first | done | with_reducible rfl
          try simp only [Act.put, List.setIfInBounds_toArray, List.set_cons_zero, List.set_cons_succ]
          refine wpAnyG_pure (i := 12) (oi := ⟨some 245, _, _, _, _, _⟩) (v := ?_) rfl (by kernel_rfl) (by kernel_rfl) (by kernel_rfl) (by rfl) (fun _ _ _ h => h) (by rfl) ?_ ?_
          rotate_left
          · intro w
            go_simp
            first | done | with_reducible rfl
          try simp only [Act.put, List.setIfInBounds_toArray, List.set_cons_zero, List.set_cons_succ]
          refine wpAnyG_pure (i := 13) (oi := ⟨some 246, _, _, _, _, _⟩) (v := ?_) rfl (by kernel_rfl) (by kernel_rfl) (by kernel_rfl) (by rfl) (fun _ _ _ h => h) (by rfl) ?_ ?_
          rotate_left
          · intro w
            go_simp
            first | done | with_reducible rfl
          try simp only [Act.put, List.setIfInBounds_toArray, List.set_cons_zero, List.set_cons_succ]
          refine wpAnyG_pure (i := 14) (oi := ⟨some 247, _, _, _, _, _⟩) (v := ?_) rfl (by kernel_rfl) (by kernel_rfl) (by kernel_rfl) (by rfl) (fun _ _ _ h => h) (by rfl) ?_ ?_
          rotate_left
          · intro w
            go_simp
            first | done | with_reducible rfl
          try simp only [Act.put, List.setIfInBounds_toArray, List.set_cons_zero, List.set_cons_succ]
          refine wpAnyG_skip (i := 15) (oi := ⟨some 248, _, _, _, _, _⟩) rfl (by kernel_rfl) (by kernel_rfl) (by kernel_rfl) (by rfl) (fun _ _ _ h => h) (by rfl) ?_
          try simp only [Act.put, List.setIfInBounds_toArray, List.set_cons_zero, List.set_cons_succ]
          refine wpAnyG_skip (i := 16) (oi := ⟨some 249, _, _, _, _, _⟩) rfl (by kernel_rfl) (by kernel_rfl) (by kernel_rfl) (by rfl) (fun _ _ _ h => h) (by rfl) ?_
          try simp only [Act.put, List.setIfInBounds_toArray, List.set_cons_zero, List.set_cons_succ]
          refine wpAnyG_skip (i := 17) (oi := ⟨some 250, _, _, _, _, _⟩) rfl (by kernel_rfl) (by kernel_rfl) (by kernel_rfl) (by rfl) (fun _ _ _ h => h) (by rfl) ?_
          try simp only [Act.put, List.setIfInBounds_toArray, List.set_cons_zero, List.set_cons_succ]
          refine wpAnyG_skip (i := 18) (oi := ⟨some 251, _, _, _, _, _⟩) rfl (by kernel_rfl) (by kernel_rfl) (by kernel_rfl) (by rfl) (fun _ _ _ h => h) (by rfl) ?_
          try simp only [Act.put, List.setIfInBounds_toArray, List.set_cons_zero, List.set_cons_succ]
          refine wpAnyG_skip (i := 19) (oi := ⟨some 252, _, _, _, _, _⟩) rfl (by kernel_rfl) (by kernel_rfl) (by kernel_rfl) (by rfl) (fun _ _ _ h => h) (by rfl) ?_
          try simp only [Act.put, List.setIfInBounds_toArray, List.set_cons_zero, List.set_cons_succ]
          refine wpAnyG_skip (i := 20) (oi := ⟨some 253, _, _, _, _, _⟩) rfl (by kernel_rfl) (by kernel_rfl) (by kernel_rfl) (by rfl) (fun _ _ _ h => h) (by rfl) ?_
          try simp only [Act.put, List.setIfInBounds_toArray, List.set_cons_zero, List.set_cons_succ]
          refine wpAnyG_pure (i := 21) (oi := ⟨some 254, _, _, _, _, _⟩) (v := ?_) rfl (by kernel_rfl) (by kernel_rfl) (by kernel_rfl) (by rfl) (fun _ _ _ h => h) (by rfl) ?_ ?_
          rotate_left
          · intro w
            go_simp
            first | done | with_reducible rfl
          try simp only [Act.put, List.setIfInBounds_toArray, List.set_cons_zero, List.set_cons_succ]
          refine wpAnyG_pure (i := 22) (oi := ⟨some 255, _, _, _, _, _⟩) (v := ?_) rfl (by kernel_rfl) (by kernel_rfl) (by kernel_rfl) (by rfl) (fun _ _ _ h => h) (by rfl) ?_ ?_
          rotate_left
          · intro w
            go_simp
            first | done | with_reducible rfl
          try simp only [Act.put, List.setIfInBounds_toArray, List.set_cons_zero, List.set_cons_succ]
          refine wpAnyG_done (by kernel_rfl) ?_ _
          refine NoPanic.normal ?_
          clear hq0
          rcases hc' with ⟨rfl, zc, ec⟩ | ⟨rfl, rfl⟩
          · go_wp2_with fail
            refine wp_region_text [8] (fun w' => w'.cell? ⟨g2, k, none⟩ = some (.string Z)) (by kernel_rfl) ?_ (fun hS => ?_)
            · exact (HK.out _ hq1.drew).2.2
            refine wpAnyG_pure (i := 0) (oi := ⟨some 256, _, _, _, _, _⟩) (v := ?_) rfl (by kernel_rfl) (by kernel_rfl) (by kernel_rfl) (by rfl) (fun _ _ _ h => h) (by rfl) ?_ ?_
            rotate_left
            · intro w
              go_simp
              first | done | with_reducible rfl
            try simp only [Act.put, List.setIfInBounds_toArray, List.set_cons_zero, List.set_cons_succ]
            refine wpAnyG_pure (i := 1) (oi := ⟨some 257, _, _, _, _, _⟩) (v := ?_) rfl (by kernel_rfl) (by kernel_rfl) (by kernel_rfl) (by rfl) (fun _ _ _ h => h) (by rfl) ?_ ?_
            rotate_left
            · intro w
              go_simp
              first | done | with_reducible rfl
            try simp only [Act.put, List.setIfInBounds_toArray, List.set_cons_zero, List.set_cons_succ]
            refine wpAnyG_pure (i := 2) (oi := ⟨some 258, _, _, _, _, _⟩) (v := ?_) rfl (by kernel_rfl) (by kernel_rfl) (by kernel_rfl) (by rfl) (fun _ _ _ h => h) (by rfl) ?_ ?_
            rotate_left
            · intro w
              go_simp
              first | done | with_reducible rfl
            try simp only [Act.put, List.setIfInBounds_toArray, List.set_cons_zero, List.set_cons_succ]
            refine wpAnyG_pure (i := 3) (oi := ⟨some 259, _, _, _, _, _⟩) (v := ?_) rfl (by kernel_rfl) (by kernel_rfl) (by kernel_rfl) (by rfl) (fun _ _ _ h => h) (by rfl) ?_ ?_
            rotate_left
            · intro w
              go_simp
              first | done | with_reducible rfl
            try simp only [Act.put, List.setIfInBounds_toArray, List.set_cons_zero, List.set_cons_succ]
            refine wpAnyG_pure (i := 5) (oi := ⟨some 261, _, _, _, _, _⟩) (v := ?_) rfl (by kernel_rfl) (by kernel_rfl) (by kernel_rfl) (by rfl) (fun _ _ _ h => h) (by rfl) ?_ ?_
            rotate_left
            · intro w
              go_simp
              first | done | with_reducible rfl
            try simp only [Act.put, List.setIfInBounds_toArray, List.set_cons_zero, List.set_cons_succ]
            refine wpAnyG_pure (i := 6) (oi := ⟨some 262, _, _, _, _, _⟩) (v := ?_) rfl (by kernel_rfl) (by kernel_rfl) (by kernel_rfl) (by rfl) (fun _ _ _ h => h) (by rfl) ?_ ?_
            rotate_left
            · intro w
              go_simp
              first | done | with_reducible rfl
            try simp only [Act.put, List.setIfInBounds_toArray, List.set_cons_zero, List.set_cons_succ]
            refine wpAnyG_pure (i := 7) (oi := ⟨some 263, _, _, _, _, _⟩) (v := ?_) rfl (by kernel_rfl) (by kernel_rfl) (by kernel_rfl) (by rfl) (fun _ _ _ h => h) (by rfl) ?_ ?_
            rotate_left
            · intro w
              go_simp
              first | done | with_reducible rfl
            try simp only [Act.put, List.setIfInBounds_toArray, List.set_cons_zero, List.set_cons_succ]
            refine wpAnyG_load (i := 8) (oi := ⟨some 264, _, _, _, _, _⟩) (v := ?_) rfl (by kernel_rfl) (by kernel_rfl) (by kernel_rfl) (by rfl) (fun _ _ _ h => h) (by rfl) ?_ (by assumption) ?_
            rotate_left
            · intro w hS
              try dsimp only at hS
              go_simp
              first | done | with_reducible rfl
            try simp only [Act.put, List.setIfInBounds_toArray, List.set_cons_zero, List.set_cons_succ]
            refine wpAnyG_keep (i := 4) (oi := ⟨some 260, _, _, _, _, _⟩) (by kernel_rfl) rfl (fun K hK => ?_)
            rw [if_pos (by rfl)]
            go_simp
            refine (hex_any c _ zc hq1.drew).mono ?_
            rintro e v6 ⟨rfl, hq2⟩
            rw [ec]
            refine hK.out _ _ ?_ (fun hS => ?_)
            · exact (HK.out _ hq2).2.2
            clear hK K
            try simp only [Act.put, List.setIfInBounds_toArray, List.set_cons_zero, List.set_cons_succ]
            refine wpAnyG_pure (i := 9) (oi := ⟨some 265, _, _, _, _, _⟩) (v := ?_) rfl (by kernel_rfl) (by kernel_rfl) (by kernel_rfl) (by rfl) (fun _ _ _ h => h) (by rfl) ?_ ?_
            rotate_left
            · intro w
              go_simp
              first | done | with_reducible rfl
            try simp only [Act.put, List.setIfInBounds_toArray, List.set_cons_zero, List.set_cons_succ]
            refine wpAnyG_pure (i := 10) (oi := ⟨some 266, _, _, _, _, _⟩) (v := ?_) rfl (by kernel_rfl) (by kernel_rfl) (by kernel_rfl) (by rfl) (fun _ _ _ h => h) (by rfl) ?_ ?_
            rotate_left
            · intro w
              go_simp
              first | done | with_reducible rfl
            try simp only [Act.put, List.setIfInBounds_toArray, List.set_cons_zero, List.set_cons_succ]
            refine wpAnyG_pure (i := 11) (oi := ⟨some 267, _, _, _, _, _⟩) (v := ?_) rfl (by kernel_rfl) (by kernel_rfl) (by kernel_rfl) (by rfl) (fun _ _ _ h => h) (by rfl) ?_ ?_
            rotate_left
            · intro w
              go_simp
              first | done | with_reducible rfl
            try simp only [Act.put, List.setIfInBounds_toArray, List.set_cons_zero, List.set_cons_succ]
            refine wpAnyG_pure (i := 12) (oi := ⟨some 268, _, _, _, _, _⟩) (v := ?_) rfl (by kernel_rfl) (by kernel_rfl) (by kernel_rfl) (by rfl) (fun _ _ _ h => h) (by rfl) ?_ ?_
            rotate_left
            · intro w
              go_simp
              first | done | with_reducible rfl
            try simp only [Act.put, List.setIfInBounds_toArray, List.set_cons_zero, List.set_cons_succ]
            refine wpAnyG_pure (i := 13) (oi := ⟨some 269, _, _, _, _, _⟩) (v := ?_) rfl (by kernel_rfl) (by kernel_rfl) (by kernel_rfl) (by rfl) (fun _ _ _ h => h) (by rfl) ?_ ?_
            rotate_left
            · intro w
              go_simp
              first | done | with_reducible rfl
            try simp only [Act.put, List.setIfInBounds_toArray, List.set_cons_zero, List.set_cons_succ]
            refine wpAnyG_pure (i := 14) (oi := ⟨some 270, _, _, _, _, _⟩) (v := ?_) rfl (by kernel_rfl) (by kernel_rfl) (by kernel_rfl) (by rfl) (fun _ _ _ h => h) (by rfl) ?_ ?_
            rotate_left
            · intro w
              go_simp
              first | done | with_reducible rfl
            try simp only [Act.put, List.setIfInBounds_toArray, List.set_cons_zero, List.set_cons_succ]
            refine wpAnyG_skip (i := 15) (oi := ⟨some 271, _, _, _, _, _⟩) rfl (by kernel_rfl) (by kernel_rfl) (by kernel_rfl) (by rfl) (fun _ _ _ h => h) (by rfl) ?_
            try simp only [Act.put, List.setIfInBounds_toArray, List.set_cons_zero, List.set_cons_succ]
            refine wpAnyG_skip (i := 16) (oi := ⟨some 272, _, _, _, _, _⟩) rfl (by kernel_rfl) (by kernel_rfl) (by kernel_rfl) (by rfl) (fun _ _ _ h => h) (by rfl) ?_
            try simp only [Act.put, List.setIfInBounds_toArray, List.set_cons_zero, List.set_cons_succ]
            refine wpAnyG_skip (i := 17) (oi := ⟨some 273, _, _, _, _, _⟩) rfl (by kernel_rfl) (by kernel_rfl) (by kernel_rfl) (by rfl) (fun _ _ _ h => h) (by rfl) ?_
            try simp only [Act.put, List.setIfInBounds_toArray, List.set_cons_zero, List.set_cons_succ]
            refine wpAnyG_skip (i := 18) (oi := ⟨some 274, _, _, _, _, _⟩) rfl (by kernel_rfl) (by kernel_rfl) (by kernel_rfl) (by rfl) (fun _ _ _ h => h) (by rfl) ?_
            try simp only [Act.put, List.setIfInBounds_toArray, List.set_cons_zero, List.set_cons_succ]
            refine wpAnyG_skip (i := 19) (oi := ⟨some 275, _, _, _, _, _⟩) rfl (by kernel_rfl) (by kernel_rfl) (by kernel_rfl) (by rfl) (fun _ _ _ h => h) (by rfl) ?_
            try simp only [Act.put, List.setIfInBounds_toArray, List.set_cons_zero, List.set_cons_succ]
            refine wpAnyG_skip (i := 20) (oi := ⟨some 276, _, _, _, _, _⟩) rfl (by kernel_rfl) (by kernel_rfl) (by kernel_rfl) (by rfl) (fun _ _ _ h => h) (by rfl) ?_
            try simp only [Act.put, List.setIfInBounds_toArray, List.set_cons_zero, List.set_cons_succ]
            refine wpAnyG_pure (i := 21) (oi := ⟨some 277, _, _, _, _, _⟩) (v := ?_) rfl (by kernel_rfl) (by kernel_rfl) (by kernel_rfl) (by rfl) (fun _ _ _ h => h) (by rfl) ?_ ?_
            rotate_left
            · intro w
              go_simp
              first | done | with_reducible rfl
            try simp only [Act.put, List.setIfInBounds_toArray, List.set_cons_zero, List.set_cons_succ]
            refine wpAnyG_pure (i := 22) (oi := ⟨some 278, _, _, _, _, _⟩) (v := ?_) rfl (by kernel_rfl) (by kernel_rfl) (by kernel_rfl) (by rfl) (fun _ _ _ h => h) (by rfl) ?_ ?_
            rotate_left
            · intro w
              go_simp
              first | done | with_reducible rfl
            try simp only [Act.put, List.setIfInBounds_toArray, List.set_cons_zero, List.set_cons_succ]
            refine wpAnyG_done (by kernel_rfl) ?_ _
            refine NoPanic.normal ?_
            clear hq1
            go_wp2_with fail
            go_roundw
            case rel => exact ⟨k + 1, by omega, by go_num, hq2⟩
            case measure => simp [intOf]; omega
          · go_wp2_with fail
            refine wp_region_text [] (fun _ => True) (by kernel_rfl) ?_ (fun hS => ?_)
            · trivial
            refine wpAnyG_pure (i := 0) (oi := ⟨some 256, _, _, _, _, _⟩) (v := ?_) rfl (by kernel_rfl) (by kernel_rfl) (by kernel_rfl) (by rfl) (fun _ _ _ h => h) (by rfl) ?_ ?_
            rotate_left
            · intro w
              go_simp
              first | done | with_reducible rfl
            try simp only [Act.put, List.setIfInBounds_toArray, List.set_cons_zero, List.set_cons_succ]
            refine wpAnyG_pure (i := 1) (oi := ⟨some 257, _, _, _, _, _⟩) (v := ?_) rfl (by kernel_rfl) (by kernel_rfl) (by kernel_rfl) (by rfl) (fun _ _ _ h => h) (by rfl) ?_ ?_
            rotate_left
            · intro w
              go_simp
              first | done | with_reducible rfl
            try simp only [Act.put, List.setIfInBounds_toArray, List.set_cons_zero, List.set_cons_succ]
            refine wpAnyG_pure (i := 2) (oi := ⟨some 258, _, _, _, _, _⟩) (v := ?_) rfl (by kernel_rfl) (by kernel_rfl) (by kernel_rfl) (by rfl) (fun _ _ _ h => h) (by rfl) ?_ ?_
            rotate_left
            · intro w
              go_simp
              first | done | with_reducible rfl
            try simp only [Act.put, List.setIfInBounds_toArray, List.set_cons_zero, List.set_cons_succ]
            refine wpAnyG_skip (i := 3) (oi := ⟨some 259, _, _, _, _, _⟩) rfl (by kernel_rfl) (by kernel_rfl) (by kernel_rfl) (by rfl) (fun _ _ _ h => h) (by rfl) ?_
            try simp only [Act.put, List.setIfInBounds_toArray, List.set_cons_zero, List.set_cons_succ]
            refine wpAnyG_skip (i := 4) (oi := ⟨some 260, _, _, _, _, _⟩) rfl (by kernel_rfl) (by kernel_rfl) (by kernel_rfl) (by rfl) (fun _ _ _ h => h) (by rfl) ?_
            try simp only [Act.put, List.setIfInBounds_toArray, List.set_cons_zero, List.set_cons_succ]
            refine wpAnyG_skip (i := 5) (oi := ⟨some 261, _, _, _, _, _⟩) rfl (by kernel_rfl) (by kernel_rfl) (by kernel_rfl) (by rfl) (fun _ _ _ h => h) (by rfl) ?_
            try simp only [Act.put, List.setIfInBounds_toArray, List.set_cons_zero, List.set_cons_succ]
            refine wpAnyG_skip (i := 6) (oi := ⟨some 262, _, _, _, _, _⟩) rfl (by kernel_rfl) (by kernel_rfl) (by kernel_rfl) (by rfl) (fun _ _ _ h => h) (by rfl) ?_
            try simp only [Act.put, List.setIfInBounds_toArray, List.set_cons_zero, List.set_cons_succ]
            refine wpAnyG_skip (i := 7) (oi := ⟨some 263, _, _, _, _, _⟩) rfl (by kernel_rfl) (by kernel_rfl) (by kernel_rfl) (by rfl) (fun _ _ _ h => h) (by rfl) ?_
            try simp only [Act.put, List.setIfInBounds_toArray, List.set_cons_zero, List.set_cons_succ]
            refine wpAnyG_skip (i := 8) (oi := ⟨some 264, _, _, _, _, _⟩) rfl (by kernel_rfl) (by kernel_rfl) (by kernel_rfl) (by rfl) (fun _ _ _ h => h) (by rfl) ?_
            try simp only [Act.put, List.setIfInBounds_toArray, List.set_cons_zero, List.set_cons_succ]
            refine wpAnyG_skip (i := 9) (oi := ⟨some 265, _, _, _, _, _⟩) rfl (by kernel_rfl) (by kernel_rfl) (by kernel_rfl) (by rfl) (fun _ _ _ h => h) (by rfl) ?_
            try simp only [Act.put, List.setIfInBounds_toArray, List.set_cons_zero, List.set_cons_succ]
            refine wpAnyG_pure (i := 10) (oi := ⟨some 266, _, _, _, _, _⟩) (v := ?_) rfl (by kernel_rfl) (by kernel_rfl) (by kernel_rfl) (by rfl) (fun _ _ _ h => h) (by rfl) ?_ ?_
            rotate_left
            · intro w
              go_simp
              first | done | with_reducible rfl
            try simp only [Act.put, List.setIfInBounds_toArray, List.set_cons_zero, List.set_cons_succ]
            refine wpAnyG_pure (i := 11) (oi := ⟨some 267, _, _, _, _, _⟩) (v := ?_) rfl (by kernel_rfl) (by kernel_rfl) (by kernel_rfl) (by rfl) (fun _ _ _ h => h) (by rfl) ?_ ?_
            rotate_left
            · intro w
              go_simp
              first | done | with_reducible rfl
            try simp only [Act.put, List.setIfInBounds_toArray, List.set_cons_zero, List.set_cons_succ]
            refine wpAnyG_pure (i := 12) (oi := ⟨some 268, _, _, _, _, _⟩) (v := ?_) rfl (by kernel_rfl) (by kernel_rfl) (by kernel_rfl) (by rfl) (fun _ _ _ h => h) (by rfl) ?_ ?_
            rotate_left
            · intro w
              go_simp
              first | done | with_reducible rfl
            try simp only [Act.put, List.setIfInBounds_toArray, List.set_cons_zero, List.set_cons_succ]
            refine wpAnyG_pure (i := 13) (oi := ⟨some 269, _, _, _, _, _⟩) (v := ?_) rfl (by kernel_rfl) (by kernel_rfl) (by kernel_rfl) (by rfl) (fun _ _ _ h => h) (by rfl) ?_ ?_
            rotate_left
            · intro w
              go_simp
              first | done | with_reducible rfl
            try simp only [Act.put, List.setIfInBounds_toArray, List.set_cons_zero, List.set_cons_succ]
            refine wpAnyG_pure (i := 14) (oi := ⟨some 270, _, _, _, _, _⟩) (v := ?_) rfl (by kernel_rfl) (by kernel_rfl) (by kernel_rfl) (by rfl) (fun _ _ _ h => h) (by rfl) ?_ ?_
            rotate_left
            · intro w
              go_simp
              first | done | with_reducible rfl
            try simp only [Act.put, List.setIfInBounds_toArray, List.set_cons_zero, List.set_cons_succ]
            refine wpAnyG_pure (i := 15) (oi := ⟨some 271, _, _, _, _, _⟩) (v := ?_) rfl (by kernel_rfl) (by kernel_rfl) (by kernel_rfl) (by rfl) (fun _ _ _ h => h) (by rfl) ?_ ?_
            rotate_left
            · intro w
              go_simp
              first | done | with_reducible rfl
            try simp only [Act.put, List.setIfInBounds_toArray, List.set_cons_zero, List.set_cons_succ]
            refine wpAnyG_pure (i := 16) (oi := ⟨some 272, _, _, _, _, _⟩) (v := ?_) rfl (by kernel_rfl) (by kernel_rfl) (by kernel_rfl) (by rfl) (fun _ _ _ h => h) (by rfl) ?_ ?_
            rotate_left
            · intro w
              go_simp
              first | done | with_reducible rfl
            try simp only [Act.put, List.setIfInBounds_toArray, List.set_cons_zero, List.set_cons_succ]
            refine wpAnyG_pure (i := 17) (oi := ⟨some 273, _, _, _, _, _⟩) (v := ?_) rfl (by kernel_rfl) (by kernel_rfl) (by kernel_rfl) (by rfl) (fun _ _ _ h => h) (by rfl) ?_ ?_
            rotate_left
            · intro w
              go_simp
              first | done | with_reducible rfl
            try simp only [Act.put, List.setIfInBounds_toArray, List.set_cons_zero, List.set_cons_succ]
            refine wpAnyG_pure (i := 18) (oi := ⟨some 274, _, _, _, _, _⟩) (v := ?_) rfl (by kernel_rfl) (by kernel_rfl) (by kernel_rfl) (by rfl) (fun _ _ _ h => h) (by rfl) ?_ ?_
            rotate_left
            · intro w
              go_simp
              first | done | with_reducible rfl
            try simp only [Act.put, List.setIfInBounds_toArray, List.set_cons_zero, List.set_cons_succ]
            refine wpAnyG_pure (i := 19) (oi := ⟨some 275, _, _, _, _, _⟩) (v := ?_) rfl (by kernel_rfl) (by kernel_rfl) (by kernel_rfl) (by rfl) (fun _ _ _ h => h) (by rfl) ?_ ?_
            rotate_left
            · intro w
              go_simp
              first | done | with_reducible rfl
            try simp only [Act.put, List.setIfInBounds_toArray, List.set_cons_zero, List.set_cons_succ]
            refine wpAnyG_pure (i := 20) (oi := ⟨some 276, _, _, _, _, _⟩) (v := ?_) rfl (by kernel_rfl) (by kernel_rfl) (by kernel_rfl) (by rfl) (fun _ _ _ h => h) (by rfl) ?_ ?_
            rotate_left
            · intro w
              go_simp
              first | done | with_reducible rfl
            try simp only [Act.put, List.setIfInBounds_toArray, List.set_cons_zero, List.set_cons_succ]
            refine wpAnyG_pure (i := 21) (oi := ⟨some 277, _, _, _, _, _⟩) (v := ?_) rfl (by kernel_rfl) (by kernel_rfl) (by kernel_rfl) (by rfl) (fun _ _ _ h => h) (by rfl) ?_ ?_
            rotate_left
            · intro w
              go_simp
              first | done | with_reducible rfl
            try simp only [Act.put, List.setIfInBounds_toArray, List.set_cons_zero, List.set_cons_succ]
            refine wpAnyG_pure (i := 22) (oi := ⟨some 278, _, _, _, _, _⟩) (v := ?_) rfl (by kernel_rfl) (by kernel_rfl) (by kernel_rfl) (by rfl) (fun _ _ _ h => h) (by rfl) ?_ ?_
            rotate_left
            · intro w
              go_simp
              first | done | with_reducible rfl
            try simp only [Act.put, List.setIfInBounds_toArray, List.set_cons_zero, List.set_cons_succ]
            refine wpAnyG_done (by kernel_rfl) ?_ _
            refine NoPanic.normal ?_
            have hq2 := hq1.drew
            clear hq1
            go_wp2_with fail
            go_roundw
            case rel => exact ⟨k + 1, by omega, by go_num, hq2⟩
            case measure => simp [intOf]; omega
        · go_wp2_with fail
          refine wp_region_text [] (fun _ => True) (by kernel_rfl) ?_ (fun hS => ?_)
          · trivial
          refine wpAnyG_pure (i := 0) (oi := ⟨some 233, _, _, _, _, _⟩) (v := ?_) rfl (by kernel_rfl) (by kernel_rfl) (by kernel_rfl) (by rfl) (fun _ _ _ h => h) (by rfl) ?_ ?_
          rotate_left
          · intro w
            go_simp
            first | done | with_reducible rfl
          try simp only [Act.put, List.setIfInBounds_toArray, List.set_cons_zero, List.set_cons_succ]
          refine wpAnyG_pure (i := 1) (oi := ⟨some 234, _, _, _, _, _⟩) (v := ?_) rfl (by kernel_rfl) (by kernel_rfl) (by kernel_rfl) (by rfl) (fun _ _ _ h => h) (by rfl) ?_ ?_
          rotate_left
          · intro w
            go_simp
            first | done | with_reducible rfl
          try simp only [Act.put, List.setIfInBounds_toArray, List.set_cons_zero, List.set_cons_succ]
          refine wpAnyG_pure (i := 2) (oi := ⟨some 235, _, _, _, _, _⟩) (v := ?_) rfl (by kernel_rfl) (by kernel_rfl) (by kernel_rfl) (by rfl) (fun _ _ _ h => h) (by rfl) ?_ ?_
          rotate_left
          · intro w
            go_simp
            first | done | with_reducible rfl
          try simp only [Act.put, List.setIfInBounds_toArray, List.set_cons_zero, List.set_cons_succ]
          refine wpAnyG_skip (i := 3) (oi := ⟨some 236, _, _, _, _, _⟩) rfl (by kernel_rfl) (by kernel_rfl) (by kernel_rfl) (by rfl) (fun _ _ _ h => h) (by rfl) ?_
          try simp only [Act.put, List.setIfInBounds_toArray, List.set_cons_zero, List.set_cons_succ]
          refine wpAnyG_skip (i := 4) (oi := ⟨some 237, _, _, _, _, _⟩) rfl (by kernel_rfl) (by kernel_rfl) (by kernel_rfl) (by rfl) (fun _ _ _ h => h) (by rfl) ?_
          try simp only [Act.put, List.setIfInBounds_toArray, List.set_cons_zero, List.set_cons_succ]
          refine wpAnyG_skip (i := 5) (oi := ⟨some 238, _, _, _, _, _⟩) rfl (by kernel_rfl) (by kernel_rfl) (by kernel_rfl) (by rfl) (fun _ _ _ h => h) (by rfl) ?_
          try simp only [Act.put, List.setIfInBounds_toArray, List.set_cons_zero, List.set_cons_succ]
          refine wpAnyG_skip (i := 6) (oi := ⟨some 239, _, _, _, _, _⟩) rfl (by kernel_rfl) (by kernel_rfl) (by kernel_rfl) (by rfl) (fun _ _ _ h => h) (by rfl) ?_
          try simp only [Act.put, List.setIfInBounds_toArray, List.set_cons_zero, List.set_cons_succ]
          refine wpAnyG_skip (i := 7) (oi := ⟨some 240, _, _, _, _, _⟩) rfl (by kernel_rfl) (by kernel_rfl) (by kernel_rfl) (by rfl) (fun _ _ _ h => h) (by rfl) ?_
          try simp only [Act.put, List.setIfInBounds_toArray, List.set_cons_zero, List.set_cons_succ]
          refine wpAnyG_skip (i := 8) (oi := ⟨some 241, _, _, _, _, _⟩) rfl (by kernel_rfl) (by kernel_rfl) (by kernel_rfl) (by rfl) (fun _ _ _ h => h) (by rfl) ?_
          try simp only [Act.put, List.setIfInBounds_toArray, List.set_cons_zero, List.set_cons_succ]
          refine wpAnyG_skip (i := 9) (oi := ⟨some 242, _, _, _, _, _⟩) rfl (by kernel_rfl) (by kernel_rfl) (by kernel_rfl) (by rfl) (fun _ _ _ h => h) (by rfl) ?_
          try simp only [Act.put, List.setIfInBounds_toArray, List.set_cons_zero, List.set_cons_succ]
          refine wpAnyG_pure (i := 10) (oi := ⟨some 243, _, _, _, _, _⟩) (v := ?_) rfl (by kernel_rfl) (by kernel_rfl) (by kernel_rfl) (by rfl) (fun _ _ _ h => h) (by rfl) ?_ ?_
          rotate_left
          · intro w
            go_simp
            first | done | with_reducible rfl
          try simp only [Act.put, List.setIfInBounds_toArray, List.set_cons_zero, List.set_cons_succ]
          refine wpAnyG_pure (i := 11) (oi := ⟨some 244, _, _, _, _, _⟩) (v := ?_) rfl (by kernel_rfl) (by kernel_rfl) (by kernel_rfl) (by rfl) (fun _ _ _ h => h) (by rfl) ?_ ?_
          rotate_left
          · intro w
            go_simp
            first | done | with_reducible rfl
          try simp only [Act.put, List.setIfInBounds_toArray, List.set_cons_zero, List.set_cons_succ]
          refine wpAnyG_pure (i := 12) (oi := ⟨some 245, _, _, _, _, _⟩) (v := ?_) rfl (by kernel_rfl) (by kernel_rfl) (by kernel_rfl) (by rfl) (fun _ _ _ h => h) (by rfl) ?_ ?_
          rotate_left
          · intro w
            go_simp
            first | done | with_reducible rfl
          try simp only [Act.put, List.setIfInBounds_toArray, List.set_cons_zero, List.set_cons_succ]
          refine wpAnyG_pure (i := 13) (oi := ⟨some 246, _, _, _, _, _⟩) (v := ?_) rfl (by kernel_rfl) (by kernel_rfl) (by kernel_rfl) (by rfl) (fun _ _ _ h => h) (by rfl) ?_ ?_
          rotate_left
          · intro w
            go_simp
            first | done | with_reducible rfl
          try simp only [Act.put, List.setIfInBounds_toArray, List.set_cons_zero, List.set_cons_succ]
          refine wpAnyG_pure (i := 14) (oi := ⟨some 247, _, _, _, _, _⟩) (v := ?_) rfl (by kernel_rfl) (by kernel_rfl) (by kernel_rfl) (by rfl) (fun _ _ _ h => h) (by rfl) ?_ ?_
          rotate_left
          · intro w
            go_simp
            first | done | with_reducible rfl
          try simp only [Act.put, List.setIfInBounds_toArray, List.set_cons_zero, List.set_cons_succ]
          refine wpAnyG_pure (i := 15) (oi := ⟨some 248, _, _, _, _, _⟩) (v := ?_) rfl (by kernel_rfl) (by kernel_rfl) (by kernel_rfl) (by rfl) (fun _ _ _ h => h) (by rfl) ?_ ?_
          rotate_left
          · intro w
            go_simp
            first | done | with_reducible rfl
          try simp only [Act.put, List.setIfInBounds_toArray, List.set_cons_zero, List.set_cons_succ]
          refine wpAnyG_pure (i := 16) (oi := ⟨some 249, _, _, _, _, _⟩) (v := ?_) rfl (by kernel_rfl) (by kernel_rfl) (by kernel_rfl) (by rfl) (fun _ _ _ h => h) (by rfl) ?_ ?_
          rotate_left
          · intro w
            go_simp
            first | done | with_reducible rfl
          try simp only [Act.put, List.setIfInBounds_toArray, List.set_cons_zero, List.set_cons_succ]
          refine wpAnyG_pure (i := 17) (oi := ⟨some 250, _, _, _, _, _⟩) (v := ?_) rfl (by kernel_rfl) (by kernel_rfl) (by kernel_rfl) (by rfl) (fun _ _ _ h => h) (by rfl) ?_ ?_
          rotate_left
          · intro w
            go_simp
            first | done | with_reducible rfl
          try simp only [Act.put, List.setIfInBounds_toArray, List.set_cons_zero, List.set_cons_succ]
          refine wpAnyG_pure (i := 18) (oi := ⟨some 251, _, _, _, _, _⟩) (v := ?_) rfl (by kernel_rfl) (by kernel_rfl) (by kernel_rfl) (by rfl) (fun _ _ _ h => h) (by rfl) ?_ ?_
          rotate_left
          · intro w
            go_simp
            first | done | with_reducible rfl
          try simp only [Act.put, List.setIfInBounds_toArray, List.set_cons_zero, List.set_cons_succ]
          refine wpAnyG_pure (i := 19) (oi := ⟨some 252, _, _, _, _, _⟩) (v := ?_) rfl (by kernel_rfl) (by kernel_rfl) (by kernel_rfl) (by rfl) (fun _ _ _ h => h) (by rfl) ?_ ?_
          rotate_left
          · intro w
            go_simp
            first | done | with_reducible rfl
          try simp only [Act.put, List.setIfInBounds_toArray, List.set_cons_zero, List.set_cons_succ]
          refine wpAnyG_pure (i := 20) (oi := ⟨some 253, _, _, _, _, _⟩) (v := ?_) rfl (by kernel_rfl) (by kernel_rfl) (by kernel_rfl) (by rfl) (fun _ _ _ h => h) (by rfl) ?_ ?_
          rotate_left
          · intro w
            go_simp
            first | done | with_reducible rfl
          try simp only [Act.put, List.setIfInBounds_toArray, List.set_cons_zero, List.set_cons_succ]
          refine wpAnyG_pure (i := 21) (oi := ⟨some 254, _, _, _, _, _⟩) (v := ?_) rfl (by kernel_rfl) (by kernel_rfl) (by kernel_rfl) (by rfl) (fun _ _ _ h => h) (by rfl) ?_ ?_
          rotate_left
          · intro w
            go_simp
            first | done | with_reducible rfl
          try simp only [Act.put, List.setIfInBounds_toArray, List.set_cons_zero, List.set_cons_succ]
          refine wpAnyG_pure (i := 22) (oi := ⟨some 255, _, _, _, _, _⟩) (v := ?_) rfl (by kernel_rfl) (by kernel_rfl) (by kernel_rfl) (by rfl) (fun _ _ _ h => h) (by rfl) ?_ ?_
          rotate_left
          · intro w
            go_simp
            first | done | with_reducible rfl
          try simp only [Act.put, List.setIfInBounds_toArray, List.set_cons_zero, List.set_cons_succ]
          refine wpAnyG_done (by kernel_rfl) ?_ _
          refine NoPanic.normal ?_
          have hq1 := hq0.drew
          clear hq0
          rcases hc' with ⟨rfl, zc, ec⟩ | ⟨rfl, rfl⟩
          · go_wp2_with fail
            refine wp_region_text [8] (fun w' => w'.cell? ⟨g2, k, none⟩ = some (.string Z)) (by kernel_rfl) ?_ (fun hS => ?_)
            · exact (HK.out _ hq1.drew).2.2
            refine wpAnyG_pure (i := 0) (oi := ⟨some 256, _, _, _, _, _⟩) (v := ?_) rfl (by kernel_rfl) (by kernel_rfl) (by kernel_rfl) (by rfl) (fun _ _ _ h => h) (by rfl) ?_ ?_
            rotate_left
            · intro w
              go_simp
              first | done | with_reducible rfl
            try simp only [Act.put, List.setIfInBounds_toArray, List.set_cons_zero, List.set_cons_succ]
            refine wpAnyG_pure (i := 1) (oi := ⟨some 257, _, _, _, _, _⟩) (v := ?_) rfl (by kernel_rfl) (by kernel_rfl) (by kernel_rfl) (by rfl) (fun _ _ _ h => h) (by rfl) ?_ ?_
            rotate_left
            · intro w
              go_simp
              first | done | with_reducible rfl
            try simp only [Act.put, List.setIfInBounds_toArray, List.set_cons_zero, List.set_cons_succ]
            refine wpAnyG_pure (i := 2) (oi := ⟨some 258, _, _, _, _, _⟩) (v := ?_) rfl (by kernel_rfl) (by kernel_rfl) (by kernel_rfl) (by rfl) (fun _ _ _ h => h) (by rfl) ?_ ?_
            rotate_left
            · intro w
              go_simp
              first | done | with_reducible rfl
            try simp only [Act.put, List.setIfInBounds_toArray, List.set_cons_zero, List.set_cons_succ]
            refine wpAnyG_pure (i := 3) (oi := ⟨some 259, _, _, _, _, _⟩) (v := ?_) rfl (by kernel_rfl) (by kernel_rfl) (by kernel_rfl) (by rfl) (fun _ _ _ h => h) (by rfl) ?_ ?_
            rotate_left
            · intro w
              go_simp
              first | done | with_reducible rfl
            try simp only [Act.put, List.setIfInBounds_toArray, List.set_cons_zero, List.set_cons_succ]
            refine wpAnyG_pure (i := 5) (oi := ⟨some 261, _, _, _, _, _⟩) (v := ?_) rfl (by kernel_rfl) (by kernel_rfl) (by kernel_rfl) (by rfl) (fun _ _ _ h => h) (by rfl) ?_ ?_
            rotate_left
            · intro w
              go_simp
              first | done | with_reducible rfl
            try simp only [Act.put, List.setIfInBounds_toArray, List.set_cons_zero, List.set_cons_succ]
            refine wpAnyG_pure (i := 6) (oi := ⟨some 262, _, _, _, _, _⟩) (v := ?_) rfl (by kernel_rfl) (by kernel_rfl) (by kernel_rfl) (by rfl) (fun _ _ _ h => h) (by rfl) ?_ ?_
            rotate_left
            · intro w
              go_simp
              first | done | with_reducible rfl
            try simp only [Act.put, List.setIfInBounds_toArray, List.set_cons_zero, List.set_cons_succ]
            refine wpAnyG_pure (i := 7) (oi := ⟨some 263, _, _, _, _, _⟩) (v := ?_) rfl (by kernel_rfl) (by kernel_rfl) (by kernel_rfl) (by rfl) (fun _ _ _ h => h) (by rfl) ?_ ?_
            rotate_left
            · intro w
              go_simp
              first | done | with_reducible rfl
            try simp only [Act.put, List.setIfInBounds_toArray, List.set_cons_zero, List.set_cons_succ]
            refine wpAnyG_load (i := 8) (oi := ⟨some 264, _, _, _, _, _⟩) (v := ?_) rfl (by kernel_rfl) (by kernel_rfl) (by kernel_rfl) (by rfl) (fun _ _ _ h => h) (by rfl) ?_ (by assumption) ?_
            rotate_left
            · intro w hS
              try dsimp only at hS
              go_simp
              first | done | with_reducible rfl
            try simp only [Act.put, List.setIfInBounds_toArray, List.set_cons_zero, List.set_cons_succ]
            refine wpAnyG_keep (i := 4) (oi := ⟨some 260, _, _, _, _, _⟩) (by kernel_rfl) rfl (fun K hK => ?_)
            rw [if_pos (by rfl)]
            go_simp
            refine (hex_any c _ zc hq1.drew).mono ?_
            rintro e v6 ⟨rfl, hq2⟩
            rw [ec]
            refine hK.out _ _ ?_ (fun hS => ?_)
            · exact (HK.out _ hq2).2.2
            clear hK K
            try simp only [Act.put, List.setIfInBounds_toArray, List.set_cons_zero, List.set_cons_succ]
            refine wpAnyG_pure (i := 9) (oi := ⟨some 265, _, _, _, _, _⟩) (v := ?_) rfl (by kernel_rfl) (by kernel_rfl) (by kernel_rfl) (by rfl) (fun _ _ _ h => h) (by rfl) ?_ ?_
            rotate_left
            · intro w
              go_simp
              first | done | with_reducible rfl
            try simp only [Act.put, List.setIfInBounds_toArray, List.set_cons_zero, List.set_cons_succ]
            refine wpAnyG_pure (i := 10) (oi := ⟨some 266, _, _, _, _, _⟩) (v := ?_) rfl (by kernel_rfl) (by kernel_rfl) (by kernel_rfl) (by rfl) (fun _ _ _ h => h) (by rfl) ?_ ?_
            rotate_left
            · intro w
              go_simp
              first | done | with_reducible rfl
            try simp only [Act.put, List.setIfInBounds_toArray, List.set_cons_zero, List.set_cons_succ]
            refine wpAnyG_pure (i := 11) (oi := ⟨some 267, _, _, _, _, _⟩) (v := ?_) rfl (by kernel_rfl) (by kernel_rfl) (by kernel_rfl) (by rfl) (fun _ _ _ h => h) (by rfl) ?_ ?_
            rotate_left
            · intro w
              go_simp
              first | done | with_reducible rfl
            try simp only [Act.put, List.setIfInBounds_toArray, List.set_cons_zero, List.set_cons_succ]
            refine wpAnyG_pure (i := 12) (oi := ⟨some 268, _, _, _, _, _⟩) (v := ?_) rfl (by kernel_rfl) (by kernel_rfl) (by kernel_rfl) (by rfl) (fun _ _ _ h => h) (by rfl) ?_ ?_
            rotate_left
            · intro w
              go_simp
              first | done | with_reducible rfl
            try simp only [Act.put, List.setIfInBounds_toArray, List.set_cons_zero, List.set_cons_succ]
            refine wpAnyG_pure (i := 13) (oi := ⟨some 269, _, _, _, _, _⟩) (v := ?_) rfl (by kernel_rfl) (by kernel_rfl) (by kernel_rfl) (by rfl) (fun _ _ _ h => h) (by rfl) ?_ ?_
            rotate_left
            · intro w
              go_simp
              first | done | with_reducible rfl
            try simp only [Act.put, List.setIfInBounds_toArray, List.set_cons_zero, List.set_cons_succ]
            refine wpAnyG_pure (i := 14) (oi := ⟨some 270, _, _, _, _, _⟩) (v := ?_) rfl (by kernel_rfl) (by kernel_rfl) (by kernel_rfl) (by rfl) (fun _ _ _ h => h) (by rfl) ?_ ?_
            rotate_left
            · intro w
              go_simp
              first | done | with_reducible rfl
            try simp only [Act.put, List.setIfInBounds_toArray, List.set_cons_zero, List.set_cons_succ]
            refine wpAnyG_skip (i := 15) (oi := ⟨some 271, _, _, _, _, _⟩) rfl (by kernel_rfl) (by kernel_rfl) (by kernel_rfl) (by rfl) (fun _ _ _ h => h) (by rfl) ?_
            try simp only [Act.put, List.setIfInBounds_toArray, List.set_cons_zero, List.set_cons_succ]
            refine wpAnyG_skip (i := 16) (oi := ⟨some 272, _, _, _, _, _⟩) rfl (by kernel_rfl) (by kernel_rfl) (by kernel_rfl) (by rfl) (fun _ _ _ h => h) (by rfl) ?_
            try simp only [Act.put, List.setIfInBounds_toArray, List.set_cons_zero, List.set_cons_succ]
            refine wpAnyG_skip (i := 17) (oi := ⟨some 273, _, _, _, _, _⟩) rfl (by kernel_rfl) (by kernel_rfl) (by kernel_rfl) (by rfl) (fun _ _ _ h => h) (by rfl) ?_
            try simp only [Act.put, List.setIfInBounds_toArray, List.set_cons_zero, List.set_cons_succ]
            refine wpAnyG_skip (i := 18) (oi := ⟨some 274, _, _, _, _, _⟩) rfl (by kernel_rfl) (by kernel_rfl) (by kernel_rfl) (by rfl) (fun _ _ _ h => h) (by rfl) ?_
            try simp only [Act.put, List.setIfInBounds_toArray, List.set_cons_zero, List.set_cons_succ]
            refine wpAnyG_skip (i := 19) (oi := ⟨some 275, _, _, _, _, _⟩) rfl (by kernel_rfl) (by kernel_rfl) (by kernel_rfl) (by rfl) (fun _ _ _ h => h) (by rfl) ?_
            try simp only [Act.put, List.setIfInBounds_toArray, List.set_cons_zero, List.set_cons_succ]
            refine wpAnyG_skip (i := 20) (oi := ⟨some 276, _, _, _, _, _⟩) rfl (by kernel_rfl) (by kernel_rfl) (by kernel_rfl) (by rfl) (fun _ _ _ h => h) (by rfl) ?_
            try simp only [Act.put, List.setIfInBounds_toArray, List.set_cons_zero, List.set_cons_succ]
            refine wpAnyG_pure (i := 21) (oi := ⟨some 277, _, _, _, _, _⟩) (v := ?_) rfl (by kernel_rfl) (by kernel_rfl) (by kernel_rfl) (by rfl) (fun _ _ _ h => h) (by rfl) ?_ ?_
            rotate_left
            · intro w
              go_simp
              first | done | with_reducible rfl
            try simp only [Act.put, List.setIfInBounds_toArray, List.set_cons_zero, List.set_cons_succ]
            refine wpAnyG_pure (i := 22) (oi := ⟨some 278, _, _, _, _, _⟩) (v := ?_) rfl (by kernel_rfl) (by kernel_rfl) (by kernel_rfl) (by rfl) (fun _ _ _ h => h) (by rfl) ?_ ?_
            rotate_left
            · intro w
              go_simp
              first | done | with_reducible rfl
            try simp only [Act.put, List.setIfInBounds_toArray, List.set_cons_zero, List.set_cons_succ]
            refine wpAnyG_done (by kernel_rfl) ?_ _
            refine NoPanic.normal ?_
            clear hq1
            go_wp2_with fail
            go_roundw
            case rel => exact ⟨k + 1, by omega, by go_num, hq2⟩
            case measure => simp [intOf]; omega
          · go_wp2_with fail
            refine wp_region_text [] (fun _ => True) (by kernel_rfl) ?_ (fun hS => ?_)
            · trivial
            refine wpAnyG_pure (i := 0) (oi := ⟨some 256, _, _, _, _, _⟩) (v := ?_) rfl (by kernel_rfl) (by kernel_rfl) (by kernel_rfl) (by rfl) (fun _ _ _ h => h) (by rfl) ?_ ?_
            rotate_left
            · intro w
              go_simp
              first | done | with_reducible rfl
            try simp only [Act.put, List.setIfInBounds_toArray, List.set_cons_zero, List.set_cons_succ]
            refine wpAnyG_pure (i := 1) (oi := ⟨some 257, _, _, _, _, _⟩) (v := ?_) rfl (by kernel_rfl) (by kernel_rfl) (by kernel_rfl) (by rfl) (fun _ _ _ h => h) (by rfl) ?_ ?_
            rotate_left
            · intro w
              go_simp
              first | done | with_reducible rfl
            try simp only [Act.put, List.setIfInBounds_toArray, List.set_cons_zero, List.set_cons_succ]
            refine wpAnyG_pure (i := 2) (oi := ⟨some 258, _, _, _, _, _⟩) (v := ?_) rfl (by kernel_rfl) (by kernel_rfl) (by kernel_rfl) (by rfl) (fun _ _ _ h => h) (by rfl) ?_ ?_
            rotate_left
            · intro w
              go_simp
              first | done | with_reducible rfl
            try simp only [Act.put, List.setIfInBounds_toArray, List.set_cons_zero, List.set_cons_succ]
            refine wpAnyG_skip (i := 3) (oi := ⟨some 259, _, _, _, _, _⟩) rfl (by kernel_rfl) (by kernel_rfl) (by kernel_rfl) (by rfl) (fun _ _ _ h => h) (by rfl) ?_
            try simp only [Act.put, List.setIfInBounds_toArray, List.set_cons_zero, List.set_cons_succ]
            refine wpAnyG_skip (i := 4) (oi := ⟨some 260, _, _, _, _, _⟩) rfl (by kernel_rfl) (by kernel_rfl) (by kernel_rfl) (by rfl) (fun _ _ _ h => h) (by rfl) ?_
            try simp only [Act.put, List.setIfInBounds_toArray, List.set_cons_zero, List.set_cons_succ]
            refine wpAnyG_skip (i := 5) (oi := ⟨some 261, _, _, _, _, _⟩) rfl (by kernel_rfl) (by kernel_rfl) (by kernel_rfl) (by rfl) (fun _ _ _ h => h) (by rfl) ?_
            try simp only [Act.put, List.setIfInBounds_toArray, List.set_cons_zero, List.set_cons_succ]
            refine wpAnyG_skip (i := 6) (oi := ⟨some 262, _, _, _, _, _⟩) rfl (by kernel_rfl) (by kernel_rfl) (by kernel_rfl) (by rfl) (fun _ _ _ h => h) (by rfl) ?_
            try simp only [Act.put, List.setIfInBounds_toArray, List.set_cons_zero, List.set_cons_succ]
            refine wpAnyG_skip (i := 7) (oi := ⟨some 263, _, _, _, _, _⟩) rfl (by kernel_rfl) (by kernel_rfl) (by kernel_rfl) (by rfl) (fun _ _ _ h => h) (by rfl) ?_
            try simp only [Act.put, List.setIfInBounds_toArray, List.set_cons_zero, List.set_cons_succ]
            refine wpAnyG_skip (i := 8) (oi := ⟨some 264, _, _, _, _, _⟩) rfl (by kernel_rfl) (by kernel_rfl) (by kernel_rfl) (by rfl) (fun _ _ _ h => h) (by rfl) ?_
            try simp only [Act.put, List.setIfInBounds_toArray, List.set_cons_zero, List.set_cons_succ]
            refine wpAnyG_skip (i := 9) (oi := ⟨some 265, _, _, _, _, _⟩) rfl (by kernel_rfl) (by kernel_rfl) (by kernel_rfl) (by rfl) (fun _ _ _ h => h) (by rfl) ?_
            try simp only [Act.put, List.setIfInBounds_toArray, List.set_cons_zero, List.set_cons_succ]
            refine wpAnyG_pure (i := 10) (oi := ⟨some 266, _, _, _, _, _⟩) (v := ?_) rfl (by kernel_rfl) (by kernel_rfl) (by kernel_rfl) (by rfl) (fun _ _ _ h => h) (by rfl) ?_ ?_
            rotate_left
            · intro w
              go_simp
              first | done | with_reducible rfl
            try simp only [Act.put, List.setIfInBounds_toArray, List.set_cons_zero, List.set_cons_succ]
            refine wpAnyG_pure (i := 11) (oi := ⟨some 267, _, _, _, _, _⟩) (v := ?_) rfl (by kernel_rfl) (by kernel_rfl) (by kernel_rfl) (by rfl) (fun _ _ _ h => h) (by rfl) ?_ ?_
            rotate_left
            · intro w
              go_simp
              first | done | with_reducible rfl
            try simp only [Act.put, List.setIfInBounds_toArray, List.set_cons_zero, List.set_cons_succ]
            refine wpAnyG_pure (i := 12) (oi := ⟨some 268, _, _, _, _, _⟩) (v := ?_) rfl (by kernel_rfl) (by kernel_rfl) (by kernel_rfl) (by rfl) (fun _ _ _ h => h) (by rfl) ?_ ?_
            rotate_left
            · intro w
              go_simp
              first | done | with_reducible rfl
            try simp only [Act.put, List.setIfInBounds_toArray, List.set_cons_zero, List.set_cons_succ]
            refine wpAnyG_pure (i := 13) (oi := ⟨some 269, _, _, _, _, _⟩) (v := ?_) rfl (by kernel_rfl) (by kernel_rfl) (by kernel_rfl) (by rfl) (fun _ _ _ h => h) (by rfl) ?_ ?_
            rotate_left
            · intro w
              go_simp
              first | done | with_reducible rfl
            try simp only [Act.put, List.setIfInBounds_toArray, List.set_cons_zero, List.set_cons_succ]
            refine wpAnyG_pure (i := 14) (oi := ⟨some 270, _, _, _, _, _⟩) (v := ?_) rfl (by kernel_rfl) (by kernel_rfl) (by kernel_rfl) (by rfl) (fun _ _ _ h => h) (by rfl) ?_ ?_
            rotate_left
            · intro w
              go_simp
              first | done | with_reducible rfl
            try simp only [Act.put, List.setIfInBounds_toArray, List.set_cons_zero, List.set_cons_succ]
            refine wpAnyG_pure (i := 15) (oi := ⟨some 271, _, _, _, _, _⟩) (v := ?_) rfl (by kernel_rfl) (by kernel_rfl) (by kernel_rfl) (by rfl) (fun _ _ _ h => h) (by rfl) ?_ ?_
            rotate_left
            · intro w
              go_simp
              first | done | with_reducible rfl
            try simp only [Act.put, List.setIfInBounds_toArray, List.set_cons_zero, List.set_cons_succ]
            refine wpAnyG_pure (i := 16) (oi := ⟨some 272, _, _, _, _, _⟩) (v := ?_) rfl (by kernel_rfl) (by kernel_rfl) (by kernel_rfl) (by rfl) (fun _ _ _ h => h) (by rfl) ?_ ?_
            rotate_left
            · intro w
              go_simp
              first | done | with_reducible rfl
            try simp only [Act.put, List.setIfInBounds_toArray, List.set_cons_zero, List.set_cons_succ]
            refine wpAnyG_pure (i := 17) (oi := ⟨some 273, _, _, _, _, _⟩) (v := ?_) rfl (by kernel_rfl) (by kernel_rfl) (by kernel_rfl) (by rfl) (fun _ _ _ h => h) (by rfl) ?_ ?_
            rotate_left
            · intro w
              go_simp
              first | done | with_reducible rfl
            try simp only [Act.put, List.setIfInBounds_toArray, List.set_cons_zero, List.set_cons_succ]
            refine wpAnyG_pure (i := 18) (oi := ⟨some 274, _, _, _, _, _⟩) (v := ?_) rfl (by kernel_rfl) (by kernel_rfl) (by kernel_rfl) (by rfl) (fun _ _ _ h => h) (by rfl) ?_ ?_
            rotate_left
            · intro w
              go_simp
              first | done | with_reducible rfl
            try simp only [Act.put, List.setIfInBounds_toArray, List.set_cons_zero, List.set_cons_succ]
            refine wpAnyG_pure (i := 19) (oi := ⟨some 275, _, _, _, _, _⟩) (v := ?_) rfl (by kernel_rfl) (by kernel_rfl) (by kernel_rfl) (by rfl) (fun _ _ _ h => h) (by rfl) ?_ ?_
            rotate_left
            · intro w
              go_simp
              first | done | with_reducible rfl
            try simp only [Act.put, List.setIfInBounds_toArray, List.set_cons_zero, List.set_cons_succ]
            refine wpAnyG_pure (i := 20) (oi := ⟨some 276, _, _, _, _, _⟩) (v := ?_) rfl (by kernel_rfl) (by kernel_rfl) (by kernel_rfl) (by rfl) (fun _ _ _ h => h) (by rfl) ?_ ?_
            rotate_left
            · intro w
              go_simp
              first | done | with_reducible rfl
            try simp only [Act.put, List.setIfInBounds_toArray, List.set_cons_zero, List.set_cons_succ]
            refine wpAnyG_pure (i := 21) (oi := ⟨some 277, _, _, _, _, _⟩) (v := ?_) rfl (by kernel_rfl) (by kernel_rfl) (by kernel_rfl) (by rfl) (fun _ _ _ h => h) (by rfl) ?_ ?_
            rotate_left
            · intro w
              go_simp
              first | done | with_reducible rfl
            try simp only [Act.put, List.setIfInBounds_toArray, List.set_cons_zero, List.set_cons_succ]
            refine wpAnyG_pure (i := 22) (oi := ⟨some 278, _, _, _, _, _⟩) (v := ?_) rfl (by kernel_rfl) (by kernel_rfl) (by kernel_rfl) (by rfl) (fun _ _ _ h => h) (by rfl) ?_ ?_
            rotate_left
            · intro w
              go_simp
              first | done | with_reducible rfl
            try simp only [Act.put, List.setIfInBounds_toArray, List.set_cons_zero, List.set_cons_succ]
            refine wpAnyG_done (by kernel_rfl) ?_ _
            refine NoPanic.normal ?_
            have hq2 := hq1.drew
            clear hq1
            go_wp2_with fail
            go_roundw
            case rel => exact ⟨k + 1, by omega, by go_num, hq2⟩
            case measure => simp [intOf]; omega
      · go_wp2_with fail
        refine wp_region_text [] (fun _ => True) (by kernel_rfl) ?_ (fun hS => ?_)
        · trivial
        refine wpAnyG_pure (i := 0) (oi := ⟨some 210, _, _, _, _, _⟩) (v := ?_) rfl (by kernel_rfl) (by kernel_rfl) (by kernel_rfl) (by rfl) (fun _ _ _ h => h) (by rfl) ?_ ?_
        rotate_left
        · intro w
          go_simp
          first | done | with_reducible rfl
        try simp only [Act.put, List.setIfInBounds_toArray, List.set_cons_zero, List.set_cons_succ]
        refine wpAnyG_pure (i := 1) (oi := ⟨some 211, _, _, _, _, _⟩) (v := ?_) rfl (by kernel_rfl) (by kernel_rfl) (by kernel_rfl) (by rfl) (fun _ _ _ h => h) (by rfl) ?_ ?_
        rotate_left
        · intro w
          go_simp
          first | done | with_reducible rfl
        try simp only [Act.put, List.setIfInBounds_toArray, List.set_cons_zero, List.set_cons_succ]
        refine wpAnyG_pure (i := 2) (oi := ⟨some 212, _, _, _, _, _⟩) (v := ?_) rfl (by kernel_rfl) (by kernel_rfl) (by kernel_rfl) (by rfl) (fun _ _ _ h => h) (by rfl) ?_ ?_
        rotate_left
        · intro w
          go_simp
          first | done | with_reducible rfl
        try simp only [Act.put, List.setIfInBounds_toArray, List.set_cons_zero, List.set_cons_succ]
        refine wpAnyG_skip (i := 3) (oi := ⟨some 213, _, _, _, _, _⟩) rfl (by kernel_rfl) (by kernel_rfl) (by kernel_rfl) (by rfl) (fun _ _ _ h => h) (by rfl) ?_
        try simp only [Act.put, List.setIfInBounds_toArray, List.set_cons_zero, List.set_cons_succ]
        refine wpAnyG_skip (i := 4) (oi := ⟨some 214, _, _, _, _, _⟩) rfl (by kernel_rfl) (by kernel_rfl) (by kernel_rfl) (by rfl) (fun _ _ _ h => h) (by rfl) ?_
        try simp only [Act.put, List.setIfInBounds_toArray, List.set_cons_zero, List.set_cons_succ]
        refine wpAnyG_skip (i := 5) (oi := ⟨some 215, _, _, _, _, _⟩) rfl (by kernel_rfl) (by kernel_rfl) (by kernel_rfl) (by rfl) (fun _ _ _ h => h) (by rfl) ?_
        try simp only [Act.put, List.setIfInBounds_toArray, List.set_cons_zero, List.set_cons_succ]
        refine wpAnyG_skip (i := 6) (oi := ⟨some 216, _, _, _, _, _⟩) rfl (by kernel_rfl) (by kernel_rfl) (by kernel_rfl) (by rfl) (fun _ _ _ h => h) (by rfl) ?_
        try simp only [Act.put, List.setIfInBounds_toArray, List.set_cons_zero, List.set_cons_succ]
        refine wpAnyG_skip (i := 7) (oi := ⟨some 217, _, _, _, _, _⟩) rfl (by kernel_rfl) (by kernel_rfl) (by kernel_rfl) (by rfl) (fun _ _ _ h => h) (by rfl) ?_
        try simp only [Act.put, List.setIfInBounds_toArray, List.set_cons_zero, List.set_cons_succ]
        refine wpAnyG_skip (i := 8) (oi := ⟨some 218, _, _, _, _, _⟩) rfl (by kernel_rfl) (by kernel_rfl) (by kernel_rfl) (by rfl) (fun _ _ _ h => h) (by rfl) ?_
        try simp only [Act.put, List.setIfInBounds_toArray, List.set_cons_zero, List.set_cons_succ]
        refine wpAnyG_skip (i := 9) (oi := ⟨some 219, _, _, _, _, _⟩) rfl (by kernel_rfl) (by kernel_rfl) (by kernel_rfl) (by rfl) (fun _ _ _ h => h) (by rfl) ?_
        try simp only [Act.put, List.setIfInBounds_toArray, List.set_cons_zero, List.set_cons_succ]
        refine wpAnyG_pure (i := 10) (oi := ⟨some 220, _, _, _, _, _⟩) (v := ?_) rfl (by kernel_rfl) (by kernel_rfl) (by kernel_rfl) (by rfl) (fun _ _ _ h => h) (by rfl) ?_ ?_
        rotate_left
        · intro w
          go_simp
          first | done | with_reducible rfl
        try simp only [Act.put, List.setIfInBounds_toArray, List.set_cons_zero, List.set_cons_succ]
        refine wpAnyG_pure (i := 11) (oi := ⟨some 221, _, _, _, _, _⟩) (v := ?_) rfl (by kernel_rfl) (by kernel_rfl) (by kernel_rfl) (by rfl) (fun _ _ _ h => h) (by rfl) ?_ ?_
        rotate_left
        · intro w
          go_simp
          first | done | with_reducible rfl
        try simp only [Act.put, List.setIfInBounds_toArray, List.set_cons_zero, List.set_cons_succ]
        refine wpAnyG_pure (i := 12) (oi := ⟨some 222, _, _, _, _, _⟩) (v := ?_) rfl (by kernel_rfl) (by kernel_rfl) (by kernel_rfl) (by rfl) (fun _ _ _ h => h) (by rfl) ?_ ?_
        rotate_left
        · intro w
          go_simp
          first | done | with_reducible rfl
        try simp only [Act.put, List.setIfInBounds_toArray, List.set_cons_zero, List.set_cons_succ]
        refine wpAnyG_pure (i := 13) (oi := ⟨some 223, _, _, _, _, _⟩) (v := ?_) rfl (by kernel_rfl) (by kernel_rfl) (by kernel_rfl) (by rfl) (fun _ _ _ h => h) (by rfl) ?_ ?_
        rotate_left
        · intro w
          go_simp
          first | done | with_reducible rfl
        try simp only [Act.put, List.setIfInBounds_toArray, List.set_cons_zero, List.set_cons_succ]
        refine wpAnyG_pure (i := 14) (oi := ⟨some 224, _, _, _, _, _⟩) (v := ?_) rfl (by kernel_rfl) (by kernel_rfl) (by kernel_rfl) (by rfl) (fun _ _ _ h => h) (by rfl) ?_ ?_
        rotate_left
        · intro w
          go_simp
          first | done | with_reducible rfl
        try simp only [Act.put, List.setIfInBounds_toArray, List.set_cons_zero, List.set_cons_succ]
        refine wpAnyG_pure (i := 15) (oi := ⟨some 225, _, _, _, _, _⟩) (v := ?_) rfl (by kernel_rfl) (by kernel_rfl) (by kernel_rfl) (by rfl) (fun _ _ _ h => h) (by rfl) ?_ ?_
        rotate_left
        · intro w
          go_simp
          first | done | with_reducible rfl
        try simp only [Act.put, List.setIfInBounds_toArray, List.set_cons_zero, List.set_cons_succ]
        refine wpAnyG_pure (i := 16) (oi := ⟨some 226, _, _, _, _, _⟩) (v := ?_) rfl (by kernel_rfl) (by kernel_rfl) (by kernel_rfl) (by rfl) (fun _ _ _ h => h) (by rfl) ?_ ?_
        rotate_left
        · intro w
          go_simp
          first | done | with_reducible rfl
        try simp only [Act.put, List.setIfInBounds_toArray, List.set_cons_zero, List.set_cons_succ]
        refine wpAnyG_pure (i := 17) (oi := ⟨some 227, _, _, _, _, _⟩) (v := ?_) rfl (by kernel_rfl) (by kernel_rfl) (by kernel_rfl) (by rfl) (fun _ _ _ h => h) (by rfl) ?_ ?_
        rotate_left
        · intro w
          go_simp
          first | done | with_reducible rfl
        try simp only [Act.put, List.setIfInBounds_toArray, List.set_cons_zero, List.set_cons_succ]
        refine wpAnyG_pure (i := 18) (oi := ⟨some 228, _, _, _, _, _⟩) (v := ?_) rfl (by kernel_rfl) (by kernel_rfl) (by kernel_rfl) (by rfl) (fun _ _ _ h => h) (by rfl) ?_ ?_
        rotate_left
        · intro w
          go_simp
          first | done | with_reducible rfl
        try simp only [Act.put, List.setIfInBounds_toArray, List.set_cons_zero, List.set_cons_succ]
        refine wpAnyG_pure (i := 19) (oi := ⟨some 229, _, _, _, _, _⟩) (v := ?_) rfl (by kernel_rfl) (by kernel_rfl) (by kernel_rfl) (by rfl) (fun _ _ _ h => h) (by rfl) ?_ ?_
        rotate_left
        · intro w
          go_simp
          first | done | with_reducible rfl
        try simp only [Act.put, List.setIfInBounds_toArray, List.set_cons_zero, List.set_cons_succ]
        refine wpAnyG_pure (i := 20) (oi := ⟨some 230, _, _, _, _, _⟩) (v := ?_) rfl (by kernel_rfl) (by kernel_rfl) (by kernel_rfl) (by rfl) (fun _ _ _ h => h) (by rfl) ?_ ?_
        rotate_left
        · intro w
          go_simp
          first | done | with_reducible rfl
        try simp only [Act.put, List.setIfInBounds_toArray, List.set_cons_zero, List.set_cons_succ]
        refine wpAnyG_pure (i := 21) (oi := ⟨some 231, _, _, _, _, _⟩) (v := ?_) rfl (by kernel_rfl) (by kernel_rfl) (by kernel_rfl) (by rfl) (fun _ _ _ h => h) (by rfl) ?_ ?_
        rotate_left
        · intro w
          go_simp
          first | done | with_reducible rfl
        try simp only [Act.put, List.setIfInBounds_toArray, List.set_cons_zero, List.set_cons_succ]
        refine wpAnyG_pure (i := 22) (oi := ⟨some 232, _, _, _, _, _⟩) (v := ?_) rfl (by kernel_rfl) (by kernel_rfl) (by kernel_rfl) (by rfl) (fun _ _ _ h => h) (by rfl) ?_ ?_
        rotate_left
        · intro w
          go_simp
          first | done | with_reducible rfl
        try simp only [Act.put, List.setIfInBounds_toArray, List.set_cons_zero, List.set_cons_succ]
        refine wpAnyG_done (by kernel_rfl) ?_ _
        refine NoPanic.normal ?_
        have hq0 := h3.drew
        clear h3
        rcases hb with ⟨rfl, zb, eb⟩ | ⟨rfl, rfl⟩
        · go_wp2_with fail
          refine wp_region_text [8] (fun w' => w'.cell? ⟨g1, k, none⟩ = some (.string Y)) (by kernel_rfl) ?_ (fun hS => ?_)
          · exact (HK.out _ hq0.drew).2.1
          refine wpAnyG_pure (i := 0) (oi := ⟨some 233, _, _, _, _, _⟩) (v := ?_) rfl (by kernel_rfl) (by kernel_rfl) (by kernel_rfl) (by rfl) (fun _ _ _ h => h) (by rfl) ?_ ?_
          rotate_left
          · intro w
            go_simp
            first | done | with_reducible rfl
          try simp only [Act.put, List.setIfInBounds_toArray, List.set_cons_zero, List.set_cons_succ]
          refine wpAnyG_pure (i := 1) (oi := ⟨some 234, _, _, _, _, _⟩) (v := ?_) rfl (by kernel_rfl) (by kernel_rfl) (by kernel_rfl) (by rfl) (fun _ _ _ h => h) (by rfl) ?_ ?_
          rotate_left
          · intro w
            go_simp
            first | done | with_reducible rfl
          try simp only [Act.put, List.setIfInBounds_toArray, List.set_cons_zero, List.set_cons_succ]
          refine wpAnyG_pure (i := 2) (oi := ⟨some 235, _, _, _, _, _⟩) (v := ?_) rfl (by kernel_rfl) (by kernel_rfl) (by kernel_rfl) (by rfl) (fun _ _ _ h => h) (by rfl) ?_ ?_
          rotate_left
          · intro w
            go_simp
            first | done | with_reducible rfl
          try simp only [Act.put, List.setIfInBounds_toArray, List.set_cons_zero, List.set_cons_succ]
          refine wpAnyG_pure (i := 3) (oi := ⟨some 236, _, _, _, _, _⟩) (v := ?_) rfl (by kernel_rfl) (by kernel_rfl) (by kernel_rfl) (by rfl) (fun _ _ _ h => h) (by rfl) ?_ ?_
          rotate_left
          · intro w
            go_simp
            first | done | with_reducible rfl
          try simp only [Act.put, List.setIfInBounds_toArray, List.set_cons_zero, List.set_cons_succ]
          refine wpAnyG_pure (i := 5) (oi := ⟨some 238, _, _, _, _, _⟩) (v := ?_) rfl (by kernel_rfl) (by kernel_rfl) (by kernel_rfl) (by rfl) (fun _ _ _ h => h) (by rfl) ?_ ?_
          rotate_left
          · intro w
            go_simp
            first | done | with_reducible rfl
          try simp only [Act.put, List.setIfInBounds_toArray, List.set_cons_zero, List.set_cons_succ]
          refine wpAnyG_pure (i := 6) (oi := ⟨some 239, _, _, _, _, _⟩) (v := ?_) rfl (by kernel_rfl) (by kernel_rfl) (by kernel_rfl) (by rfl) (fun _ _ _ h => h) (by rfl) ?_ ?_
          rotate_left
          · intro w
            go_simp
            first | done | with_reducible rfl
          try simp only [Act.put, List.setIfInBounds_toArray, List.set_cons_zero, List.set_cons_succ]
          refine wpAnyG_pure (i := 7) (oi := ⟨some 240, _, _, _, _, _⟩) (v := ?_) rfl (by kernel_rfl) (by kernel_rfl) (by kernel_rfl) (by rfl) (fun _ _ _ h => h) (by rfl) ?_ ?_
          rotate_left
          · intro w
            go_simp
            first | done | with_reducible rfl
          try simp only [Act.put, List.setIfInBounds_toArray, List.set_cons_zero, List.set_cons_succ]
          refine wpAnyG_load (i := 8) (oi := ⟨some 241, _, _, _, _, _⟩) (v := ?_) rfl (by kernel_rfl) (by kernel_rfl) (by kernel_rfl) (by rfl) (fun _ _ _ h => h) (by rfl) ?_ (by assumption) ?_
          rotate_left
          · intro w hS
            try dsimp only at hS
            go_simp
            first | done | with_reducible rfl
          try simp only [Act.put, List.setIfInBounds_toArray, List.set_cons_zero, List.set_cons_succ]
          refine wpAnyG_keep (i := 4) (oi := ⟨some 237, _, _, _, _, _⟩) (by kernel_rfl) rfl (fun K hK => ?_)
          rw [if_pos (by rfl)]
          go_simp
          refine (standard_any b _ zb hq0.drew).mono ?_
          rintro e v5 ⟨rfl, hq1⟩
          rw [eb]
          refine hK.out _ _ ?_ (fun hS => ?_)
          · exact (HK.out _ hq1).2.1
          clear hK K
          try simp only [Act.put, List.setIfInBounds_toArray, List.set_cons_zero, List.set_cons_succ]
          refine wpAnyG_pure (i := 9) (oi := ⟨some 242, _, _, _, _, _⟩) (v := ?_) rfl (by kernel_rfl) (by kernel_rfl) (by kernel_rfl) (by rfl) (fun _ _ _ h => h) (by rfl) ?_ ?_
          rotate_left
          · intro w
            go_simp
            first | done | with_reducible rfl
          try simp only [Act.put, List.setIfInBounds_toArray, List.set_cons_zero, List.set_cons_succ]
          refine wpAnyG_pure (i := 10) (oi := ⟨some 243, _, _, _, _, _⟩) (v := ?_) rfl (by kernel_rfl) (by kernel_rfl) (by kernel_rfl) (by rfl) (fun _ _ _ h => h) (by rfl) ?_ ?_
          rotate_left
          · intro w
            go_simp
            first | done | with_reducible rfl
          try simp only [Act.put, List.setIfInBounds_toArray, List.set_cons_zero, List.set_cons_succ]
          refine wpAnyG_pure (i := 11) (oi := ⟨some 244, _, _, _, _, _⟩) (v := ?_) rfl (by kernel_rfl) (by kernel_rfl) (by kernel_rfl) (by rfl) (fun _ _ _ h => h) (by rfl) ?_ ?_
          rotate_left
          · intro w
            go_simp
            first | done | with_reducible rfl
          try simp only [Act.put, List.setIfInBounds_toArray, List.set_cons_zero, List.set_cons_succ]
          refine wpAnyG_pure (i := 12) (oi := ⟨some 245, _, _, _, _, _⟩) (v := ?_) rfl (by kernel_rfl) (by kernel_rfl) (by kernel_rfl) (by rfl) (fun _ _ _ h => h) (by rfl) ?_ ?_
          rotate_left
          · intro w
            go_simp
            first | done | with_reducible rfl
          try simp only [Act.put, List.setIfInBounds_toArray, List.set_cons_zero, List.set_cons_succ]
          refine wpAnyG_pure (i := 13) (oi := ⟨some 246, _, _, _, _, _⟩) (v := ?_) rfl (by kernel_rfl) (by kernel_rfl) (by kernel_rfl) (by rfl) (fun _ _ _ h => h) (by rfl) ?_ ?_
          rotate_left
          · intro w
            go_simp
            first | done | with_reducible rfl
          try simp only [Act.put, List.setIfInBounds_toArray, List.set_cons_zero, List.set_cons_succ]
          refine wpAnyG_pure (i := 14) (oi := ⟨some 247, _, _, _, _, _⟩) (v := ?_) rfl (by kernel_rfl) (by kernel_rfl) (by kernel_rfl) (by rfl) (fun _ _ _ h => h) (by rfl) ?_ ?_
          rotate_left
          · intro w
            go_simp
            first | done | with_reducible rfl
          try simp only [Act.put, List.setIfInBounds_toArray, List.set_cons_zero, List.set_cons_succ]
          refine wpAnyG_skip (i := 15) (oi := ⟨some 248, _, _, _, _, _⟩) rfl (by kernel_rfl) (by kernel_rfl) (by kernel_rfl) (by rfl) (fun _ _ _ h => h) (by rfl) ?_
          try simp only [Act.put, List.setIfInBounds_toArray, List.set_cons_zero, List.set_cons_succ]
          refine wpAnyG_skip (i := 16) (oi := ⟨some 249, _, _, _, _, _⟩) rfl (by kernel_rfl) (by kernel_rfl) (by kernel_rfl) (by rfl) (fun _ _ _ h => h) (by rfl) ?_
          try simp only [Act.put, List.setIfInBounds_toArray, List.set_cons_zero, List.set_cons_succ]
          refine wpAnyG_skip (i := 17) (oi := ⟨some 250, _, _, _, _, _⟩) rfl (by kernel_rfl) (by kernel_rfl) (by kernel_rfl) (by rfl) (fun _ _ _ h => h) (by rfl) ?_
          try simp only [Act.put, List.setIfInBounds_toArray, List.set_cons_zero, List.set_cons_succ]
          refine wpAnyG_skip (i := 18) (oi := ⟨some 251, _, _, _, _, _⟩) rfl (by kernel_rfl) (by kernel_rfl) (by kernel_rfl) (by rfl) (fun _ _ _ h => h) (by rfl) ?_
          try simp only [Act.put, List.setIfInBounds_toArray, List.set_cons_zero, List.set_cons_succ]
          refine wpAnyG_skip (i := 19) (oi := ⟨some 252, _, _, _, _, _⟩) rfl (by kernel_rfl) (by kernel_rfl) (by kernel_rfl) (by rfl) (fun _ _ _ h => h) (by rfl) ?_
          try simp only [Act.put, List.setIfInBounds_toArray, List.set_cons_zero, List.set_cons_succ]
          refine wpAnyG_skip (i := 20) (oi := ⟨some 253, _, _, _, _, _⟩) rfl (by kernel_rfl) (by kernel_rfl) (by kernel_rfl) (by rfl) (fun _ _ _ h => h) (by rfl) ?_
          try simp only [Act.put, List.setIfInBounds_toArray, List.set_cons_zero, List.set_cons_succ]
          refine wpAnyG_pure (i := 21) (oi := ⟨some 254, _, _, _, _, _⟩) (v := ?_) rfl (by kernel_rfl) (by kernel_rfl) (by kernel_rfl) (by rfl) (fun _ _ _ h => h) (by rfl) ?_ ?_
          rotate_left
          · intro w
            go_simp
            first | done | with_reducible rfl
          try simp only [Act.put, List.setIfInBounds_toArray, List.set_cons_zero, List.set_cons_succ]
          refine wpAnyG_pure (i := 22) (oi := ⟨some 255, _, _, _, _, _⟩) (v := ?_) rfl (by kernel_rfl) (by kernel_rfl) (by kernel_rfl) (by rfl) (fun _ _ _ h => h) (by rfl) ?_ ?_
          rotate_left
          · intro w
            go_simp
            first | done | with_reducible rfl
          try simp only [Act.put, List.setIfInBounds_toArray, List.set_cons_zero, List.set_cons_succ]
          refine wpAnyG_done (by kernel_rfl) ?_ _
          refine NoPanic.normal ?_
          clear hq0
          rcases hc' with ⟨rfl, zc, ec⟩ | ⟨rfl, rfl⟩
          · go_wp2_with fail
            refine wp_region_text [8] (fun w' => w'.cell? ⟨g2, k, none⟩ = some (.string Z)) (by kernel_rfl) ?_ (fun hS => ?_)
            · exact (HK.out _ hq1.drew).2.2
            refine wpAnyG_pure (i := 0) (oi := ⟨some 256, _, _, _, _, _⟩) (v := ?_) rfl (by kernel_rfl) (by kernel_rfl) (by kernel_rfl) (by rfl) (fun _ _ _ h => h) (by rfl) ?_ ?_
            rotate_left
            · intro w
              go_simp
              first | done | with_reducible rfl
            try simp only [Act.put, List.setIfInBounds_toArray, List.set_cons_zero, List.set_cons_succ]
            refine wpAnyG_pure (i := 1) (oi := ⟨some 257, _, _, _, _, _⟩) (v := ?_) rfl (by kernel_rfl) (by kernel_rfl) (by kernel_rfl) (by rfl) (fun _ _ _ h => h) (by rfl) ?_ ?_
            rotate_left
            · intro w
              go_simp
              first | done | with_reducible rfl
            try simp only [Act.put, List.setIfInBounds_toArray, List.set_cons_zero, List.set_cons_succ]
            refine wpAnyG_pure (i := 2) (oi := ⟨some 258, _, _, _, _, _⟩) (v := ?_) rfl (by kernel_rfl) (by kernel_rfl) (by kernel_rfl) (by rfl) (fun _ _ _ h => h) (by rfl) ?_ ?_
            rotate_left
            · intro w
              go_simp
              first | done | with_reducible rfl
            try simp only [Act.put, List.setIfInBounds_toArray, List.set_cons_zero, List.set_cons_succ]
            refine wpAnyG_pure (i := 3) (oi := ⟨some 259, _, _, _, _, _⟩) (v := ?_) rfl (by kernel_rfl) (by kernel_rfl) (by kernel_rfl) (by rfl) (fun _ _ _ h => h) (by rfl) ?_ ?_
            rotate_left
            · intro w
              go_simp
              first | done | with_reducible rfl
            try simp only [Act.put, List.setIfInBounds_toArray, List.set_cons_zero, List.set_cons_succ]
            refine wpAnyG_pure (i := 5) (oi := ⟨some 261, _, _, _, _, _⟩) (v := ?_) rfl (by kernel_rfl) (by kernel_rfl) (by kernel_rfl) (by rfl) (fun _ _ _ h => h) (by rfl) ?_ ?_
            rotate_left
            · intro w
              go_simp
              first | done | with_reducible rfl
            try simp only [Act.put, List.setIfInBounds_toArray, List.set_cons_zero, List.set_cons_succ]
            refine wpAnyG_pure (i := 6) (oi := ⟨some 262, _, _, _, _, _⟩) (v := ?_) rfl (by kernel_rfl) (by kernel_rfl) (by kernel_rfl) (by rfl) (fun _ _ _ h => h) (by rfl) ?_ ?_
            rotate_left
            · intro w
              go_simp
              first | done | with_reducible rfl
            try simp only [Act.put, List.setIfInBounds_toArray, List.set_cons_zero, List.set_cons_succ]
            refine wpAnyG_pure (i := 7) (oi := ⟨some 263, _, _, _, _, _⟩) (v := ?_) rfl (by kernel_rfl) (by kernel_rfl) (by kernel_rfl) (by rfl) (fun _ _ _ h => h) (by rfl) ?_ ?_
            rotate_left
            · intro w
              go_simp
              first | done | with_reducible rfl
            try simp only [Act.put, List.setIfInBounds_toArray, List.set_cons_zero, List.set_cons_succ]
            refine wpAnyG_load (i := 8) (oi := ⟨some 264, _, _, _, _, _⟩) (v := ?_) rfl (by kernel_rfl) (by kernel_rfl) (by kernel_rfl) (by rfl) (fun _ _ _ h => h) (by rfl) ?_ (by assumption) ?_
            rotate_left
            · intro w hS
              try dsimp only at hS
              go_simp
              first | done | with_reducible rfl
            try simp only [Act.put, List.setIfInBounds_toArray, List.set_cons_zero, List.set_cons_succ]
            refine wpAnyG_keep (i := 4) (oi := ⟨some 260, _, _, _, _, _⟩) (by kernel_rfl) rfl (fun K hK => ?_)
            rw [if_pos (by rfl)]
            go_simp
            refine (hex_any c _ zc hq1.drew).mono ?_
            rintro e v6 ⟨rfl, hq2⟩
            rw [ec]
            refine hK.out _ _ ?_ (fun hS => ?_)
            · exact (HK.out _ hq2).2.2
            clear hK K
            try simp only [Act.put, List.setIfInBounds_toArray, List.set_cons_zero, List.set_cons_succ]
            refine wpAnyG_pure (i := 9) (oi := ⟨some 265, _, _, _, _, _⟩) (v := ?_) rfl (by kernel_rfl) (by kernel_rfl) (by kernel_rfl) (by rfl) (fun _ _ _ h => h) (by rfl) ?_ ?_
            rotate_left
            · intro w
              go_simp
              first | done | with_reducible rfl
            try simp only [Act.put, List.setIfInBounds_toArray, List.set_cons_zero, List.set_cons_succ]
            refine wpAnyG_pure (i := 10) (oi := ⟨some 266, _, _, _, _, _⟩) (v := ?_) rfl (by kernel_rfl) (by kernel_rfl) (by kernel_rfl) (by rfl) (fun _ _ _ h => h) (by rfl) ?_ ?_
            rotate_left
            · intro w
              go_simp
              first | done | with_reducible rfl
            try simp only [Act.put, List.setIfInBounds_toArray, List.set_cons_zero, List.set_cons_succ]
            refine wpAnyG_pure (i := 11) (oi := ⟨some 267, _, _, _, _, _⟩) (v := ?_) rfl (by kernel_rfl) (by kernel_rfl) (by kernel_rfl) (by rfl) (fun _ _ _ h => h) (by rfl) ?_ ?_
            rotate_left
            · intro w
              go_simp
              first | done | with_reducible rfl
            try simp only [Act.put, List.setIfInBounds_toArray, List.set_cons_zero, List.set_cons_succ]
            refine wpAnyG_pure (i := 12) (oi := ⟨some 268, _, _, _, _, _⟩) (v := ?_) rfl (by kernel_rfl) (by kernel_rfl) (by kernel_rfl) (by rfl) (fun _ _ _ h => h) (by rfl) ?_ ?_
            rotate_left
            · intro w
              go_simp
              first | done | with_reducible rfl
            try simp only [Act.put, List.setIfInBounds_toArray, List.set_cons_zero, List.set_cons_succ]
            refine wpAnyG_pure (i := 13) (oi := ⟨some 269, _, _, _, _, _⟩) (v := ?_) rfl (by kernel_rfl) (by kernel_rfl) (by kernel_rfl) (by rfl) (fun _ _ _ h => h) (by rfl) ?_ ?_
            rotate_left
            · intro w
              go_simp
              first | done | with_reducible rfl
            try simp only [Act.put, List.setIfInBounds_toArray, List.set_cons_zero, List.set_cons_succ]
            refine wpAnyG_pure (i := 14) (oi := ⟨some 270, _, _, _, _, _⟩) (v := ?_) rfl (by kernel_rfl) (by kernel_rfl) (by kernel_rfl) (by rfl) (fun _ _ _ h => h) (by rfl) ?_ ?_
            rotate_left
            · intro w
              go_simp
              first | done | with_reducible rfl
            try simp only [Act.put, List.setIfInBounds_toArray, List.set_cons_zero, List.set_cons_succ]
            refine wpAnyG_skip (i := 15) (oi := ⟨some 271, _, _, _, _, _⟩) rfl (by kernel_rfl) (by kernel_rfl) (by kernel_rfl) (by rfl) (fun _ _ _ h => h) (by rfl) ?_
            try simp only [Act.put, List.setIfInBounds_toArray, List.set_cons_zero, List.set_cons_succ]
            refine wpAnyG_skip (i := 16) (oi := ⟨some 272, _, _, _, _, _⟩) rfl (by kernel_rfl) (by kernel_rfl) (by kernel_rfl) (by rfl) (fun _ _ _ h => h) (by rfl) ?_
            try simp only [Act.put, List.setIfInBounds_toArray, List.set_cons_zero, List.set_cons_succ]
            refine wpAnyG_skip (i := 17) (oi := ⟨some 273, _, _, _, _, _⟩) rfl (by kernel_rfl) (by kernel_rfl) (by kernel_rfl) (by rfl) (fun _ _ _ h => h) (by rfl) ?_
            try simp only [Act.put, List.setIfInBounds_toArray, List.set_cons_zero, List.set_cons_succ]
            refine wpAnyG_skip (i := 18) (oi := ⟨some 274, _, _, _, _, _⟩) rfl (by kernel_rfl) (by kernel_rfl) (by kernel_rfl) (by rfl) (fun _ _ _ h => h) (by rfl) ?_
            try simp only [Act.put, List.setIfInBounds_toArray, List.set_cons_zero, List.set_cons_succ]
            refine wpAnyG_skip (i := 19) (oi := ⟨some 275, _, _, _, _, _⟩) rfl (by kernel_rfl) (by kernel_rfl) (by kernel_rfl) (by rfl) (fun _ _ _ h => h) (by rfl) ?_
            try simp only [Act.put, List.setIfInBounds_toArray, List.set_cons_zero, List.set_cons_succ]
            refine wpAnyG_skip (i := 20) (oi := ⟨some 276, _, _, _, _, _⟩) rfl (by kernel_rfl) (by kernel_rfl) (by kernel_rfl) (by rfl) (fun _ _ _ h => h) (by rfl) ?_
            try simp only [Act.put, List.setIfInBounds_toArray, List.set_cons_zero, List.set_cons_succ]
            refine wpAnyG_pure (i := 21) (oi := ⟨some 277, _, _, _, _, _⟩) (v := ?_) rfl (by kernel_rfl) (by kernel_rfl) (by kernel_rfl) (by rfl) (fun _ _ _ h => h) (by rfl) ?_ ?_
            rotate_left
            · intro w
              go_simp
              first | done | with_reducible rfl
            try simp only [Act.put, List.setIfInBounds_toArray, List.set_cons_zero, List.set_cons_succ]
            refine wpAnyG_pure (i := 22) (oi := ⟨some 278, _, _, _, _, _⟩) (v := ?_) rfl (by kernel_rfl) (by kernel_rfl) (by kernel_rfl) (by rfl) (fun _ _ _ h => h) (by rfl) ?_ ?_
            rotate_left
            · intro w
              go_simp
              first | done | with_reducible rfl
            try simp only [Act.put, List.setIfInBounds_toArray, List.set_cons_zero, List.set_cons_succ]
            refine wpAnyG_done (by kernel_rfl) ?_ _
            refine NoPanic.normal ?_
            clear hq1
            go_wp2_with fail
            go_roundw
            case rel => exact ⟨k + 1, by omega, by go_num, hq2⟩
            case measure => simp [intOf]; omega
          · go_wp2_with fail
            refine wp_region_text [] (fun _ => True) (by kernel_rfl) ?_ (fun hS => ?_)
            · trivial
            refine wpAnyG_pure (i := 0) (oi := ⟨some 256, _, _, _, _, _⟩) (v := ?_) rfl (by kernel_rfl) (by kernel_rfl) (by kernel_rfl) (by rfl) (fun _ _ _ h => h) (by rfl) ?_ ?_
            rotate_left
            · intro w
              go_simp
              first | done | with_reducible rfl
            try simp only [Act.put, List.setIfInBounds_toArray, List.set_cons_zero, List.set_cons_succ]
            refine wpAnyG_pure (i := 1) (oi := ⟨some 257, _, _, _, _, _⟩) (v := ?_) rfl (by kernel_rfl) (by kernel_rfl) (by kernel_rfl) (by rfl) (fun _ _ _ h => h) (by rfl) ?_ ?_
            rotate_left
            · intro w
              go_simp
              first | done | with_reducible rfl
            try simp only [Act.put, List.setIfInBounds_toArray, List.set_cons_zero, List.set_cons_succ]
            refine wpAnyG_pure (i := 2) (oi := ⟨some 258, _, _, _, _, _⟩) (v := ?_) rfl (by kernel_rfl) (by kernel_rfl) (by kernel_rfl) (by rfl) (fun _ _ _ h => h) (by rfl) ?_ ?_
            rotate_left
            · intro w
              go_simp
              first | done | with_reducible rfl
            try simp only [Act.put, List.setIfInBounds_toArray, List.set_cons_zero, List.set_cons_succ]
            refine wpAnyG_skip (i := 3) (oi := ⟨some 259, _, _, _, _, _⟩) rfl (by kernel_rfl) (by kernel_rfl) (by kernel_rfl) (by rfl) (fun _ _ _ h => h) (by rfl) ?_
            try simp only [Act.put, List.setIfInBounds_toArray, List.set_cons_zero, List.set_cons_succ]
            refine wpAnyG_skip (i := 4) (oi := ⟨some 260, _, _, _, _, _⟩) rfl (by kernel_rfl) (by kernel_rfl) (by kernel_rfl) (by rfl) (fun _ _ _ h => h) (by rfl) ?_
            try simp only [Act.put, List.setIfInBounds_toArray, List.set_cons_zero, List.set_cons_succ]
            refine wpAnyG_skip (i := 5) (oi := ⟨some 261, _, _, _, _, _⟩) rfl (by kernel_rfl) (by kernel_rfl) (by kernel_rfl) (by rfl) (fun _ _ _ h => h) (by rfl) ?_
            try simp only [Act.put, List.setIfInBounds_toArray, List.set_cons_zero, List.set_cons_succ]
            refine wpAnyG_skip (i := 6) (oi := ⟨some 262, _, _, _, _, _⟩) rfl (by kernel_rfl) (by kernel_rfl) (by kernel_rfl) (by rfl) (fun _ _ _ h => h) (by rfl) ?_
            try simp only [Act.put, List.setIfInBounds_toArray, List.set_cons_zero, List.set_cons_succ]
            refine wpAnyG_skip (i := 7) (oi := ⟨some 263, _, _, _, _, _⟩) rfl (by kernel_rfl) (by kernel_rfl) (by kernel_rfl) (by rfl) (fun _ _ _ h => h) (by rfl) ?_
            try simp only [Act.put, List.setIfInBounds_toArray, List.set_cons_zero, List.set_cons_succ]
            refine wpAnyG_skip (i := 8) (oi := ⟨some 264, _, _, _, _, _⟩) rfl (by kernel_rfl) (by kernel_rfl) (by kernel_rfl) (by rfl) (fun _ _ _ h => h) (by rfl) ?_
            try simp only [Act.put, List.setIfInBounds_toArray, List.set_cons_zero, List.set_cons_succ]
            refine wpAnyG_skip (i := 9) (oi := ⟨some 265, _, _, _, _, _⟩) rfl (by kernel_rfl) (by kernel_rfl) (by kernel_rfl) (by rfl) (fun _ _ _ h => h) (by rfl) ?_
            try simp only [Act.put, List.setIfInBounds_toArray, List.set_cons_zero, List.set_cons_succ]
            refine wpAnyG_pure (i := 10) (oi := ⟨some 266, _, _, _, _, _⟩) (v := ?_) rfl (by kernel_rfl) (by kernel_rfl) (by kernel_rfl) (by rfl) (fun _ _ _ h => h) (by rfl) ?_ ?_
            rotate_left
            · intro w
              go_simp
              first | done | with_reducible rfl
            try simp only [Act.put, List.setIfInBounds_toArray, List.set_cons_zero, List.set_cons_succ]
            refine wpAnyG_pure (i := 11) (oi := ⟨some 267, _, _, _, _, _⟩) (v := ?_) rfl (by kernel_rfl) (by kernel_rfl) (by kernel_rfl) (by rfl) (fun _ _ _ h => h) (by rfl) ?_ ?_
            rotate_left
            · intro w
              go_simp
              first | done | with_reducible rfl
            try simp only [Act.put, List.setIfInBounds_toArray, List.set_cons_zero, List.set_cons_succ]
            refine wpAnyG_pure (i := 12) (oi := ⟨some 268, _, _, _, _, _⟩) (v := ?_) rfl (by kernel_rfl) (by kernel_rfl) (by kernel_rfl) (by rfl) (fun _ _ _ h => h) (by rfl) ?_ ?_
            rotate_left
            · intro w
              go_simp
              first | done | with_reducible rfl
            try simp only [Act.put, List.setIfInBounds_toArray, List.set_cons_zero, List.set_cons_succ]
            refine wpAnyG_pure (i := 13) (oi := ⟨some 269, _, _, _, _, _⟩) (v := ?_) rfl (by kernel_rfl) (by kernel_rfl) (by kernel_rfl) (by rfl) (fun _ _ _ h => h) (by rfl) ?_ ?_
            rotate_left
            · intro w
              go_simp
              first | done | with_reducible rfl
            try simp only [Act.put, List.setIfInBounds_toArray, List.set_cons_zero, List.set_cons_succ]
            refine wpAnyG_pure (i := 14) (oi := ⟨some 270, _, _, _, _, _⟩) (v := ?_) rfl (by kernel_rfl) (by kernel_rfl) (by kernel_rfl) (by rfl) (fun _ _ _ h => h) (by rfl) ?_ ?_
            rotate_left
            · intro w
              go_simp
              first | done | with_reducible rfl
            try simp only [Act.put, List.setIfInBounds_toArray, List.set_cons_zero, List.set_cons_succ]
            refine wpAnyG_pure (i := 15) (oi := ⟨some 271, _, _, _, _, _⟩) (v := ?_) rfl (by kernel_rfl) (by kernel_rfl) (by kernel_rfl) (by rfl) (fun _ _ _ h => h) (by rfl) ?_ ?_
            rotate_left
            · intro w
              go_simp
              first | done | with_reducible rfl
            try simp only [Act.put, List.setIfInBounds_toArray, List.set_cons_zero, List.set_cons_succ]
            refine wpAnyG_pure (i := 16) (oi := ⟨some 272, _, _, _, _, _⟩) (v := ?_) rfl (by kernel_rfl) (by kernel_rfl) (by kernel_rfl) (by rfl) (fun _ _ _ h => h) (by rfl) ?_ ?_
            rotate_left
            · intro w
              go_simp
              first | done | with_reducible rfl
            try simp only [Act.put, List.setIfInBounds_toArray, List.set_cons_zero, List.set_cons_succ]
            refine wpAnyG_pure (i := 17) (oi := ⟨some 273, _, _, _, _, _⟩) (v := ?_) rfl (by kernel_rfl) (by kernel_rfl) (by kernel_rfl) (by rfl) (fun _ _ _ h => h) (by rfl) ?_ ?_
            rotate_left
            · intro w
              go_simp
              first | done | with_reducible rfl
            try simp only [Act.put, List.setIfInBounds_toArray, List.set_cons_zero, List.set_cons_succ]
            refine wpAnyG_pure (i := 18) (oi := ⟨some 274, _, _, _, _, _⟩) (v := ?_) rfl (by kernel_rfl) (by kernel_rfl) (by kernel_rfl) (by rfl) (fun _ _ _ h => h) (by rfl) ?_ ?_
            rotate_left
            · intro w
              go_simp
              first | done | with_reducible rfl
            try simp only [Act.put, List.setIfInBounds_toArray, List.set_cons_zero, List.set_cons_succ]
            refine wpAnyG_pure (i := 19) (oi := ⟨some 275, _, _, _, _, _⟩) (v := ?_) rfl (by kernel_rfl) (by kernel_rfl) (by kernel_rfl) (by rfl) (fun _ _ _ h => h) (by rfl) ?_ ?_
            rotate_left
            · intro w
              go_simp
              first | done | with_reducible rfl
            try simp only [Act.put, List.setIfInBounds_toArray, List.set_cons_zero, List.set_cons_succ]
            refine wpAnyG_pure (i := 20) (oi := ⟨some 276, _, _, _, _, _⟩) (v := ?_) rfl (by kernel_rfl) (by kernel_rfl) (by kernel_rfl) (by rfl) (fun _ _ _ h => h) (by rfl) ?_ ?_
            rotate_left
            · intro w
              go_simp
              first | done | with_reducible rfl
            try simp only [Act.put, List.setIfInBounds_toArray, List.set_cons_zero, List.set_cons_succ]
            refine wpAnyG_pure (i := 21) (oi := ⟨some 277, _, _, _, _, _⟩) (v := ?_) rfl (by kernel_rfl) (by kernel_rfl) (by kernel_rfl) (by rfl) (fun _ _ _ h => h) (by rfl) ?_ ?_
            rotate_left
            · intro w
              go_simp
              first | done | with_reducible rfl
            try simp only [Act.put, List.setIfInBounds_toArray, List.set_cons_zero, List.set_cons_succ]
            refine wpAnyG_pure (i := 22) (oi := ⟨some 278, _, _, _, _, _⟩) (v := ?_) rfl (by kernel_rfl) (by kernel_rfl) (by kernel_rfl) (by rfl) (fun _ _ _ h => h) (by rfl) ?_ ?_
            rotate_left
            · intro w
              go_simp
              first | done | with_reducible rfl
            try simp only [Act.put, List.setIfInBounds_toArray, List.set_cons_zero, List.set_cons_succ]
            refine wpAnyG_done (by kernel_rfl) ?_ _
            refine NoPanic.normal ?_
            have hq2 := hq1.drew
            clear hq1
            go_wp2_with fail
            go_roundw
            case rel => exact ⟨k + 1, by omega, by go_num, hq2⟩
            case measure => simp [intOf]; omega
        · go_wp2_with fail
          refine wp_region_text [] (fun _ => True) (by kernel_rfl) ?_ (fun hS => ?_)
          · trivial
          refine wpAnyG_pure (i := 0) (oi := ⟨some 233, _, _, _, _, _⟩) (v := ?_) rfl (by kernel_rfl) (by kernel_rfl) (by kernel_rfl) (by rfl) (fun _ _ _ h => h) (by rfl) ?_ ?_
          rotate_left
          · intro w
            go_simp
            first | done | with_reducible rfl
          try simp only [Act.put, List.setIfInBounds_toArray, List.set_cons_zero, List.set_cons_succ]
          refine wpAnyG_pure (i := 1) (oi := ⟨some 234, _, _, _, _, _⟩) (v := ?_) rfl (by kernel_rfl) (by kernel_rfl) (by kernel_rfl) (by rfl) (fun _ _ _ h => h) (by rfl) ?_ ?_
          rotate_left
          · intro w
            go_simp
            first | done | with_reducible rfl
          try simp only [Act.put, List.setIfInBounds_toArray, List.set_cons_zero, List.set_cons_succ]
          refine wpAnyG_pure (i := 2) (oi := ⟨some 235, _, _, _, _, _⟩) (v := ?_) rfl (by kernel_rfl) (by kernel_rfl) (by kernel_rfl) (by rfl) (fun _ _ _ h => h) (by rfl) ?_ ?_
          rotate_left
          · intro w
            go_simp
            first | done | with_reducible rfl
          try simp only [Act.put, List.setIfInBounds_toArray, List.set_cons_zero, List.set_cons_succ]
          refine wpAnyG_skip (i := 3) (oi := ⟨some 236, _, _, _, _, _⟩) rfl (by kernel_rfl) (by kernel_rfl) (by kernel_rfl) (by rfl) (fun _ _ _ h => h) (by rfl) ?_
          try simp only [Act.put, List.setIfInBounds_toArray, List.set_cons_zero, List.set_cons_succ]
          refine wpAnyG_skip (i := 4) (oi := ⟨some 237, _, _, _, _, _⟩) rfl (by kernel_rfl) (by kernel_rfl) (by kernel_rfl) (by rfl) (fun _ _ _ h => h) (by rfl) ?_
          try simp only [Act.put, List.setIfInBounds_toArray, List.set_cons_zero, List.set_cons_succ]
          refine wpAnyG_skip (i := 5) (oi := ⟨some 238, _, _, _, _, _⟩) rfl (by kernel_rfl) (by kernel_rfl) (by kernel_rfl) (by rfl) (fun _ _ _ h => h) (by rfl) ?_
          try simp only [Act.put, List.setIfInBounds_toArray, List.set_cons_zero, List.set_cons_succ]
          refine wpAnyG_skip (i := 6) (oi := ⟨some 239, _, _, _, _, _⟩) rfl (by kernel_rfl) (by kernel_rfl) (by kernel_rfl) (by rfl) (fun _ _ _ h => h) (by rfl) ?_
          try simp only [Act.put, List.setIfInBounds_toArray, List.set_cons_zero, List.set_cons_succ]
          refine wpAnyG_skip (i := 7) (oi := ⟨some 240, _, _, _, _, _⟩) rfl (by kernel_rfl) (by kernel_rfl) (by kernel_rfl) (by rfl) (fun _ _ _ h => h) (by rfl) ?_
          try simp only [Act.put, List.setIfInBounds_toArray, List.set_cons_zero, List.set_cons_succ]
          refine wpAnyG_skip (i := 8) (oi := ⟨some 241, _, _, _, _, _⟩) rfl (by kernel_rfl) (by kernel_rfl) (by kernel_rfl) (by rfl) (fun _ _ _ h => h) (by rfl) ?_
          try simp only [Act.put, List.setIfInBounds_toArray, List.set_cons_zero, List.set_cons_succ]
          refine wpAnyG_skip (i := 9) (oi := ⟨some 242, _, _, _, _, _⟩) rfl (by kernel_rfl) (by kernel_rfl) (by kernel_rfl) (by rfl) (fun _ _ _ h => h) (by rfl) ?_
          try simp only [Act.put, List.setIfInBounds_toArray, List.set_cons_zero, List.set_cons_succ]
          refine wpAnyG_pure (i := 10) (oi := ⟨some 243, _, _, _, _, _⟩) (v := ?_) rfl (by kernel_rfl) (by kernel_rfl) (by kernel_rfl) (by rfl) (fun _ _ _ h => h) (by rfl) ?_ ?_
          rotate_left
          · intro w
            go_simp
            first | done | with_reducible rfl
          try simp only [Act.put, List.setIfInBounds_toArray, List.set_cons_zero, List.set_cons_succ]
          refine wpAnyG_pure (i := 11) (oi := ⟨some 244, _, _, _, _, _⟩) (v := ?_) rfl (by kernel_rfl) (by kernel_rfl) (by kernel_rfl) (by rfl) (fun _ _ _ h => h) (by rfl) ?_ ?_
          rotate_left
          · intro w
            go_simp
            first | done | with_reducible rfl
          try simp only [Act.put, List.setIfInBounds_toArray, List.set_cons_zero, List.set_cons_succ]
          refine wpAnyG_pure (i := 12) (oi := ⟨some 245, _, _, _, _, _⟩) (v := ?_) rfl (by kernel_rfl) (by kernel_rfl) (by kernel_rfl) (by rfl) (fun _ _ _ h => h) (by rfl) ?_ ?_
          rotate_left
          · intro w
            go_simp
            first | done | with_reducible rfl
          try simp only [Act.put, List.setIfInBounds_toArray, List.set_cons_zero, List.set_cons_succ]
          refine wpAnyG_pure (i := 13) (oi := ⟨some 246, _, _, _, _, _⟩) (v := ?_) rfl (by kernel_rfl) (by kernel_rfl) (by kernel_rfl) (by rfl) (fun _ _ _ h => h) (by rfl) ?_ ?_
          rotate_left
          · intro w
            go_simp
            first | done | with_reducible rfl
          try simp only [Act.put, List.setIfInBounds_toArray, List.set_cons_zero, List.set_cons_succ]
          refine wpAnyG_pure (i := 14) (oi := ⟨some 247, _, _, _, _, _⟩) (v := ?_) rfl (by kernel_rfl) (by kernel_rfl) (by kernel_rfl) (by rfl) (fun _ _ _ h => h) (by rfl) ?_ ?_
          rotate_left
          · intro w
            go_simp
            first | done | with_reducible rfl
          try simp only [Act.put, List.setIfInBounds_toArray, List.set_cons_zero, List.set_cons_succ]
          refine wpAnyG_pure (i := 15) (oi := ⟨some 248, _, _, _, _, _⟩) (v := ?_) rfl (by kernel_rfl) (by kernel_rfl) (by kernel_rfl) (by rfl) (fun _ _ _ h => h) (by rfl) ?_ ?_
          rotate_left
          · intro w
            go_simp
            first | done | with_reducible rfl
          try simp only [Act.put, List.setIfInBounds_toArray, List.set_cons_zero, List.set_cons_succ]
          refine wpAnyG_pure (i := 16) (oi := ⟨some 249, _, _, _, _, _⟩) (v := ?_) rfl (by kernel_rfl) (by kernel_rfl) (by kernel_rfl) (by rfl) (fun _ _ _ h => h) (by rfl) ?_ ?_
          rotate_left
          · intro w
            go_simp
            first | done | with_reducible rfl
          try simp only [Act.put, List.setIfInBounds_toArray, List.set_cons_zero, List.set_cons_succ]
          refine wpAnyG_pure (i := 17) (oi := ⟨some 250, _, _, _, _, _⟩) (v := ?_) rfl (by kernel_rfl) (by kernel_rfl) (by kernel_rfl) (by rfl) (fun _ _ _ h => h) (by rfl) ?_ ?_
          rotate_left
          · intro w
            go_simp
            first | done | with_reducible rfl
          try simp only [Act.put, List.setIfInBounds_toArray, List.set_cons_zero, List.set_cons_succ]
          refine wpAnyG_pure (i := 18) (oi := ⟨some 251, _, _, _, _, _⟩) (v := ?_) rfl (by kernel_rfl) (by kernel_rfl) (by kernel_rfl) (by rfl) (fun _ _ _ h => h) (by rfl) ?_ ?_
          rotate_left
          · intro w
            go_simp
            first | done | with_reducible rfl
          try simp only [Act.put, List.setIfInBounds_toArray, List.set_cons_zero, List.set_cons_succ]
          refine wpAnyG_pure (i := 19) (oi := ⟨some 252, _, _, _, _, _⟩) (v := ?_) rfl (by kernel_rfl) (by kernel_rfl) (by kernel_rfl) (by rfl) (fun _ _ _ h => h) (by rfl) ?_ ?_
          rotate_left
          · intro w
            go_simp
            first | done | with_reducible rfl
          try simp only [Act.put, List.setIfInBounds_toArray, List.set_cons_zero, List.set_cons_succ]
          refine wpAnyG_pure (i := 20) (oi := ⟨some 253, _, _, _, _, _⟩) (v := ?_) rfl (by kernel_rfl) (by kernel_rfl) (by kernel_rfl) (by rfl) (fun _ _ _ h => h) (by rfl) ?_ ?_
          rotate_left
          · intro w
            go_simp
            first | done | with_reducible rfl
          try simp only [Act.put, List.setIfInBounds_toArray, List.set_cons_zero, List.set_cons_succ]
          refine wpAnyG_pure (i := 21) (oi := ⟨some 254, _, _, _, _, _⟩) (v := ?_) rfl (by kernel_rfl) (by kernel_rfl) (by kernel_rfl) (by rfl) (fun _ _ _ h => h) (by rfl) ?_ ?_
          rotate_left
          · intro w
            go_simp
            first | done | with_reducible rfl
          try simp only [Act.put, List.setIfInBounds_toArray, List.set_cons_zero, List.set_cons_succ]
          refine wpAnyG_pure (i := 22) (oi := ⟨some 255, _, _, _, _, _⟩) (v := ?_) rfl (by kernel_rfl) (by kernel_rfl) (by kernel_rfl) (by rfl) (fun _ _ _ h => h) (by rfl) ?_ ?_
          rotate_left
          · intro w
            go_simp
            first | done | with_reducible rfl
          try simp only [Act.put, List.setIfInBounds_toArray, List.set_cons_zero, List.set_cons_succ]
          refine wpAnyG_done (by kernel_rfl) ?_ _
          refine NoPanic.normal ?_
          have hq1 := hq0.drew
          clear hq0
          rcases hc' with ⟨rfl, zc, ec⟩ | ⟨rfl, rfl⟩
          · go_wp2_with fail
            refine wp_region_text [8] (fun w' => w'.cell? ⟨g2, k, none⟩ = some (.string Z)) (by kernel_rfl) ?_ (fun hS => ?_)
            · exact (HK.out _ hq1.drew).2.2
            refine wpAnyG_pure (i := 0) (oi := ⟨some 256, _, _, _, _, _⟩) (v := ?_) rfl (by kernel_rfl) (by kernel_rfl) (by kernel_rfl) (by rfl) (fun _ _ _ h => h) (by rfl) ?_ ?_
            rotate_left
            · intro w
              go_simp
              first | done | with_reducible rfl
            try simp only [Act.put, List.setIfInBounds_toArray, List.set_cons_zero, List.set_cons_succ]
            refine wpAnyG_pure (i := 1) (oi := ⟨some 257, _, _, _, _, _⟩) (v := ?_) rfl (by kernel_rfl) (by kernel_rfl) (by kernel_rfl) (by rfl) (fun _ _ _ h => h) (by rfl) ?_ ?_
            rotate_left
            · intro w
              go_simp
              first | done | with_reducible rfl
            try simp only [Act.put, List.setIfInBounds_toArray, List.set_cons_zero, List.set_cons_succ]
            refine wpAnyG_pure (i := 2) (oi := ⟨some 258, _, _, _, _, _⟩) (v := ?_) rfl (by kernel_rfl) (by kernel_rfl) (by kernel_rfl) (by rfl) (fun _ _ _ h => h) (by rfl) ?_ ?_
            rotate_left
            · intro w
              go_simp
              first | done | with_reducible rfl
            try simp only [Act.put, List.setIfInBounds_toArray, List.set_cons_zero, List.set_cons_succ]
            refine wpAnyG_pure (i := 3) (oi := ⟨some 259, _, _, _, _, _⟩) (v := ?_) rfl (by kernel_rfl) (by kernel_rfl) (by kernel_rfl) (by rfl) (fun _ _ _ h => h) (by rfl) ?_ ?_
            rotate_left
            · intro w
              go_simp
              first | done | with_reducible rfl
            try simp only [Act.put, List.setIfInBounds_toArray, List.set_cons_zero, List.set_cons_succ]
            refine wpAnyG_pure (i := 5) (oi := ⟨some 261, _, _, _, _, _⟩) (v := ?_) rfl (by kernel_rfl) (by kernel_rfl) (by kernel_rfl) (by rfl) (fun _ _ _ h => h) (by rfl) ?_ ?_
            rotate_left
            · intro w
              go_simp
              first | done | with_reducible rfl
            try simp only [Act.put, List.setIfInBounds_toArray, List.set_cons_zero, List.set_cons_succ]
            refine wpAnyG_pure (i := 6) (oi := ⟨some 262, _, _, _, _, _⟩) (v := ?_) rfl (by kernel_rfl) (by kernel_rfl) (by kernel_rfl) (by rfl) (fun _ _ _ h => h) (by rfl) ?_ ?_
            rotate_left
            · intro w
              go_simp
              first | done | with_reducible rfl
            try simp only [Act.put, List.setIfInBounds_toArray, List.set_cons_zero, List.set_cons_succ]
            refine wpAnyG_pure (i := 7) (oi := ⟨some 263, _, _, _, _, _⟩) (v := ?_) rfl (by kernel_rfl) (by kernel_rfl) (by kernel_rfl) (by rfl) (fun _ _ _ h => h) (by rfl) ?_ ?_
            rotate_left
            · intro w
              go_simp
              first | done | with_reducible rfl
            try simp only [Act.put, List.setIfInBounds_toArray, List.set_cons_zero, List.set_cons_succ]
            refine wpAnyG_load (i := 8) (oi := ⟨some 264, _, _, _, _, _⟩) (v := ?_) rfl (by kernel_rfl) (by kernel_rfl) (by kernel_rfl) (by rfl) (fun _ _ _ h => h) (by rfl) ?_ (by assumption) ?_
            rotate_left
            · intro w hS
              try dsimp only at hS
              go_simp
              first | done | with_reducible rfl
            try simp only [Act.put, List.setIfInBounds_toArray, List.set_cons_zero, List.set_cons_succ]
            refine wpAnyG_keep (i := 4) (oi := ⟨some 260, _, _, _, _, _⟩) (by kernel_rfl) rfl (fun K hK => ?_)
            rw [if_pos (by rfl)]
            go_simp
            refine (hex_any c _ zc hq1.drew).mono ?_
            rintro e v6 ⟨rfl, hq2⟩
            rw [ec]
            refine hK.out _ _ ?_ (fun hS => ?_)
            · exact (HK.out _ hq2).2.2
            clear hK K
            try simp only [Act.put, List.setIfInBounds_toArray, List.set_cons_zero, List.set_cons_succ]
            refine wpAnyG_pure (i := 9) (oi := ⟨some 265, _, _, _, _, _⟩) (v := ?_) rfl (by kernel_rfl) (by kernel_rfl) (by kernel_rfl) (by rfl) (fun _ _ _ h => h) (by rfl) ?_ ?_
            rotate_left
            · intro w
              go_simp
              first | done | with_reducible rfl
            try simp only [Act.put, List.setIfInBounds_toArray, List.set_cons_zero, List.set_cons_succ]
            refine wpAnyG_pure (i := 10) (oi := ⟨some 266, _, _, _, _, _⟩) (v := ?_) rfl (by kernel_rfl) (by kernel_rfl) (by kernel_rfl) (by rfl) (fun _ _ _ h => h) (by rfl) ?_ ?_
            rotate_left
            · intro w
              go_simp
              first | done | with_reducible rfl
            try simp only [Act.put, List.setIfInBounds_toArray, List.set_cons_zero, List.set_cons_succ]
            refine wpAnyG_pure (i := 11) (oi := ⟨some 267, _, _, _, _, _⟩) (v := ?_) rfl (by kernel_rfl) (by kernel_rfl) (by kernel_rfl) (by rfl) (fun _ _ _ h => h) (by rfl) ?_ ?_
            rotate_left
            · intro w
              go_simp
              first | done | with_reducible rfl
            try simp only [Act.put, List.setIfInBounds_toArray, List.set_cons_zero, List.set_cons_succ]
            refine wpAnyG_pure (i := 12) (oi := ⟨some 268, _, _, _, _, _⟩) (v := ?_) rfl (by kernel_rfl) (by kernel_rfl) (by kernel_rfl) (by rfl) (fun _ _ _ h => h) (by rfl) ?_ ?_
            rotate_left
            · intro w
              go_simp
              first | done | with_reducible rfl
            try simp only [Act.put, List.setIfInBounds_toArray, List.set_cons_zero, List.set_cons_succ]
            refine wpAnyG_pure (i := 13) (oi := ⟨some 269, _, _, _, _, _⟩) (v := ?_) rfl (by kernel_rfl) (by kernel_rfl) (by kernel_rfl) (by rfl) (fun _ _ _ h => h) (by rfl) ?_ ?_
            rotate_left
            · intro w
              go_simp
              first | done | with_reducible rfl
            try simp only [Act.put, List.setIfInBounds_toArray, List.set_cons_zero, List.set_cons_succ]
            refine wpAnyG_pure (i := 14) (oi := ⟨some 270, _, _, _, _, _⟩) (v := ?_) rfl (by kernel_rfl) (by kernel_rfl) (by kernel_rfl) (by rfl) (fun _ _ _ h => h) (by rfl) ?_ ?_
            rotate_left
            · intro w
              go_simp
              first | done | with_reducible rfl
            try simp only [Act.put, List.setIfInBounds_toArray, List.set_cons_zero, List.set_cons_succ]
            refine wpAnyG_skip (i := 15) (oi := ⟨some 271, _, _, _, _, _⟩) rfl (by kernel_rfl) (by kernel_rfl) (by kernel_rfl) (by rfl) (fun _ _ _ h => h) (by rfl) ?_
            try simp only [Act.put, List.setIfInBounds_toArray, List.set_cons_zero, List.set_cons_succ]
            refine wpAnyG_skip (i := 16) (oi := ⟨some 272, _, _, _, _, _⟩) rfl (by kernel_rfl) (by kernel_rfl) (by kernel_rfl) (by rfl) (fun _ _ _ h => h) (by rfl) ?_
            try simp only [Act.put, List.setIfInBounds_toArray, List.set_cons_zero, List.set_cons_succ]
            refine wpAnyG_skip (i := 17) (oi := ⟨some 273, _, _, _, _, _⟩) rfl (by kernel_rfl) (by kernel_rfl) (by kernel_rfl) (by rfl) (fun _ _ _ h => h) (by rfl) ?_
            try simp only [Act.put, List.setIfInBounds_toArray, List.set_cons_zero, List.set_cons_succ]
            refine wpAnyG_skip (i := 18) (oi := ⟨some 274, _, _, _, _, _⟩) rfl (by kernel_rfl) (by kernel_rfl) (by kernel_rfl) (by rfl) (fun _ _ _ h => h) (by rfl) ?_
            try simp only [Act.put, List.setIfInBounds_toArray, List.set_cons_zero, List.set_cons_succ]
            refine wpAnyG_skip (i := 19) (oi := ⟨some 275, _, _, _, _, _⟩) rfl (by kernel_rfl) (by kernel_rfl) (by kernel_rfl) (by rfl) (fun _ _ _ h => h) (by rfl) ?_
            try simp only [Act.put, List.setIfInBounds_toArray, List.set_cons_zero, List.set_cons_succ]
            refine wpAnyG_skip (i := 20) (oi := ⟨some 276, _, _, _, _, _⟩) rfl (by kernel_rfl) (by kernel_rfl) (by kernel_rfl) (by rfl) (fun _ _ _ h => h) (by rfl) ?_
            try simp only [Act.put, List.setIfInBounds_toArray, List.set_cons_zero, List.set_cons_succ]
            refine wpAnyG_pure (i := 21) (oi := ⟨some 277, _, _, _, _, _⟩) (v := ?_) rfl (by kernel_rfl) (by kernel_rfl) (by kernel_rfl) (by rfl) (fun _ _ _ h => h) (by rfl) ?_ ?_
            rotate_left
            · intro w
              go_simp
              first | done | with_reducible rfl
            try simp only [Act.put, List.setIfInBounds_toArray, List.set_cons_zero, List.set_cons_succ]
            refine wpAnyG_pure (i := 22) (oi := ⟨some 278, _, _, _, _, _⟩) (v := ?_) rfl (by kernel_rfl) (by kernel_rfl) (by kernel_rfl) (by rfl) (fun _ _ _ h => h) (by rfl) ?_ ?_
            rotate_left
            · intro w
              go_simp
              first | done | with_reducible rfl
            try simp only [Act.put, List.setIfInBounds_toArray, List.set_cons_zero, List.set_cons_succ]
            refine wpAnyG_done (by kernel_rfl) ?_ _
            refine NoPanic.normal ?_
            clear hq1
            go_wp2_with fail
            go_roundw
            case rel => exact ⟨k + 1, by omega, by go_num, hq2⟩
            case measure => simp [intOf]; omega
          · go_wp2_with fail
            refine wp_region_text [] (fun _ => True) (by kernel_rfl) ?_ (fun hS => ?_)
            · trivial
            refine wpAnyG_pure (i := 0) (oi := ⟨some 256, _, _, _, _, _⟩) (v := ?_) rfl (by kernel_rfl) (by kernel_rfl) (by kernel_rfl) (by rfl) (fun _ _ _ h => h) (by rfl) ?_ ?_
            rotate_left
            · intro w
              go_simp
              first | done | with_reducible rfl
            try simp only [Act.put, List.setIfInBounds_toArray, List.set_cons_zero, List.set_cons_succ]
            refine wpAnyG_pure (i := 1) (oi := ⟨some 257, _, _, _, _, _⟩) (v := ?_) rfl (by kernel_rfl) (by kernel_rfl) (by kernel_rfl) (by rfl) (fun _ _ _ h => h) (by rfl) ?_ ?_
            rotate_left
            · intro w
              go_simp
              first | done | with_reducible rfl
            try simp only [Act.put, List.setIfInBounds_toArray, List.set_cons_zero, List.set_cons_succ]
            refine wpAnyG_pure (i := 2) (oi := ⟨some 258, _, _, _, _, _⟩) (v := ?_) rfl (by kernel_rfl) (by kernel_rfl) (by kernel_rfl) (by rfl) (fun _ _ _ h => h) (by rfl) ?_ ?_
            rotate_left
            · intro w
              go_simp
              first | done | with_reducible rfl
            try simp only [Act.put, List.setIfInBounds_toArray, List.set_cons_zero, List.set_cons_succ]
            refine wpAnyG_skip (i := 3) (oi := ⟨some 259, _, _, _, _, _⟩) rfl (by kernel_rfl) (by kernel_rfl) (by kernel_rfl) (by rfl) (fun _ _ _ h => h) (by rfl) ?_
            try simp only [Act.put, List.setIfInBounds_toArray, List.set_cons_zero, List.set_cons_succ]
            refine wpAnyG_skip (i := 4) (oi := ⟨some 260, _, _, _, _, _⟩) rfl (by kernel_rfl) (by kernel_rfl) (by kernel_rfl) (by rfl) (fun _ _ _ h => h) (by rfl) ?_
            try simp only [Act.put, List.setIfInBounds_toArray, List.set_cons_zero, List.set_cons_succ]
            refine wpAnyG_skip (i := 5) (oi := ⟨some 261, _, _, _, _, _⟩) rfl (by kernel_rfl) (by kernel_rfl) (by kernel_rfl) (by rfl) (fun _ _ _ h => h) (by rfl) ?_
            try simp only [Act.put, List.setIfInBounds_toArray, List.set_cons_zero, List.set_cons_succ]
            refine wpAnyG_skip (i := 6) (oi := ⟨some 262, _, _, _, _, _⟩) rfl (by kernel_rfl) (by kernel_rfl) (by kernel_rfl) (by rfl) (fun _ _ _ h => h) (by rfl) ?_
            try simp only [Act.put, List.setIfInBounds_toArray, List.set_cons_zero, List.set_cons_succ]
            refine wpAnyG_skip (i := 7) (oi := ⟨some 263, _, _, _, _, _⟩) rfl (by kernel_rfl) (by kernel_rfl) (by kernel_rfl) (by rfl) (fun _ _ _ h => h) (by rfl) ?_
            try simp only [Act.put, List.setIfInBounds_toArray, List.set_cons_zero, List.set_cons_succ]
            refine wpAnyG_skip (i := 8) (oi := ⟨some 264, _, _, _, _, _⟩) rfl (by kernel_rfl) (by kernel_rfl) (by kernel_rfl) (by rfl) (fun _ _ _ h => h) (by rfl) ?_
            try simp only [Act.put, List.setIfInBounds_toArray, List.set_cons_zero, List.set_cons_succ]
            refine wpAnyG_skip (i := 9) (oi := ⟨some 265, _, _, _, _, _⟩) rfl (by kernel_rfl) (by kernel_rfl) (by kernel_rfl) (by rfl) (fun _ _ _ h => h) (by rfl) ?_
            try simp only [Act.put, List.setIfInBounds_toArray, List.set_cons_zero, List.set_cons_succ]
            refine wpAnyG_pure (i := 10) (oi := ⟨some 266, _, _, _, _, _⟩) (v := ?_) rfl (by kernel_rfl) (by kernel_rfl) (by kernel_rfl) (by rfl) (fun _ _ _ h => h) (by rfl) ?_ ?_
            rotate_left
            · intro w
              go_simp
              first | done | with_reducible rfl
            try simp only [Act.put, List.setIfInBounds_toArray, List.set_cons_zero, List.set_cons_succ]
            refine wpAnyG_pure (i := 11) (oi := ⟨some 267, _, _, _, _, _⟩) (v := ?_) rfl (by kernel_rfl) (by kernel_rfl) (by kernel_rfl) (by rfl) (fun _ _ _ h => h) (by rfl) ?_ ?_
            rotate_left
            · intro w
              go_simp
              first | done | with_reducible rfl
            try simp only [Act.put, List.setIfInBounds_toArray, List.set_cons_zero, List.set_cons_succ]
            refine wpAnyG_pure (i := 12) (oi := ⟨some 268, _, _, _, _, _⟩) (v := ?_) rfl (by kernel_rfl) (by kernel_rfl) (by kernel_rfl) (by rfl) (fun _ _ _ h => h) (by rfl) ?_ ?_
            rotate_left
            · intro w
              go_simp
              first | done | with_reducible rfl
            try simp only [Act.put, List.setIfInBounds_toArray, List.set_cons_zero, List.set_cons_succ]
            refine wpAnyG_pure (i := 13) (oi := ⟨some 269, _, _, _, _, _⟩) (v := ?_) rfl (by kernel_rfl) (by kernel_rfl) (by kernel_rfl) (by rfl) (fun _ _ _ h => h) (by rfl) ?_ ?_
            rotate_left
            · intro w
              go_simp
              first | done | with_reducible rfl
            try simp only [Act.put, List.setIfInBounds_toArray, List.set_cons_zero, List.set_cons_succ]
            refine wpAnyG_pure (i := 14) (oi := ⟨some 270, _, _, _, _, _⟩) (v := ?_) rfl (by kernel_rfl) (by kernel_rfl) (by kernel_rfl) (by rfl) (fun _ _ _ h => h) (by rfl) ?_ ?_
            rotate_left
            · intro w
              go_simp
              first | done | with_reducible rfl
            try simp only [Act.put, List.setIfInBounds_toArray, List.set_cons_zero, List.set_cons_succ]
            refine wpAnyG_pure (i := 15) (oi := ⟨some 271, _, _, _, _, _⟩) (v := ?_) rfl (by kernel_rfl) (by kernel_rfl) (by kernel_rfl) (by rfl) (fun _ _ _ h => h) (by rfl) ?_ ?_
            rotate_left
            · intro w
              go_simp
              first | done | with_reducible rfl
            try simp only [Act.put, List.setIfInBounds_toArray, List.set_cons_zero, List.set_cons_succ]
            refine wpAnyG_pure (i := 16) (oi := ⟨some 272, _, _, _, _, _⟩) (v := ?_) rfl (by kernel_rfl) (by kernel_rfl) (by kernel_rfl) (by rfl) (fun _ _ _ h => h) (by rfl) ?_ ?_
            rotate_left
            · intro w
              go_simp
              first | done | with_reducible rfl
            try simp only [Act.put, List.setIfInBounds_toArray, List.set_cons_zero, List.set_cons_succ]
            refine wpAnyG_pure (i := 17) (oi := ⟨some 273, _, _, _, _, _⟩) (v := ?_) rfl (by kernel_rfl) (by kernel_rfl) (by kernel_rfl) (by rfl) (fun _ _ _ h => h) (by rfl) ?_ ?_
            rotate_left
            · intro w
              go_simp
              first | done | with_reducible rfl
            try simp only [Act.put, List.setIfInBounds_toArray, List.set_cons_zero, List.set_cons_succ]
            refine wpAnyG_pure (i := 18) (oi := ⟨some 274, _, _, _, _, _⟩) (v := ?_) rfl (by kernel_rfl) (by kernel_rfl) (by kernel_rfl) (by rfl) (fun _ _ _ h => h) (by rfl) ?_ ?_
            rotate_left
            · intro w
              go_simp
              first | done | with_reducible rfl
            try simp only [Act.put, List.setIfInBounds_toArray, List.set_cons_zero, List.set_cons_succ]
            refine wpAnyG_pure (i := 19) (oi := ⟨some 275, _, _, _, _, _⟩) (v := ?_) rfl (by kernel_rfl) (by kernel_rfl) (by kernel_rfl) (by rfl) (fun _ _ _ h => h) (by rfl) ?_ ?_
            rotate_left
            · intro w
              go_simp
              first | done | with_reducible rfl
            try simp only [Act.put, List.setIfInBounds_toArray, List.set_cons_zero, List.set_cons_succ]
            refine wpAnyG_pure (i := 20) (oi := ⟨some 276, _, _, _, _, _⟩) (v := ?_) rfl (by kernel_rfl) (by kernel_rfl) (by kernel_rfl) (by rfl) (fun _ _ _ h => h) (by rfl) ?_ ?_
            rotate_left
            · intro w
              go_simp
              first | done | with_reducible rfl
            try simp only [Act.put, List.setIfInBounds_toArray, List.set_cons_zero, List.set_cons_succ]
            refine wpAnyG_pure (i := 21) (oi := ⟨some 277, _, _, _, _, _⟩) (v := ?_) rfl (by kernel_rfl) (by kernel_rfl) (by kernel_rfl) (by rfl) (fun _ _ _ h => h) (by rfl) ?_ ?_
            rotate_left
            · intro w
              go_simp
              first | done | with_reducible rfl
            try simp only [Act.put, List.setIfInBounds_toArray, List.set_cons_zero, List.set_cons_succ]
            refine wpAnyG_pure (i := 22) (oi := ⟨some 278, _, _, _, _, _⟩) (v := ?_) rfl (by kernel_rfl) (by kernel_rfl) (by kernel_rfl) (by rfl) (fun _ _ _ h => h) (by rfl) ?_ ?_
            rotate_left
            · intro w
              go_simp
              first | done | with_reducible rfl
            try simp only [Act.put, List.setIfInBounds_toArray, List.set_cons_zero, List.set_cons_succ]
            refine wpAnyG_done (by kernel_rfl) ?_ _
            refine NoPanic.normal ?_
            have hq2 := hq1.drew
            clear hq1
            go_wp2_with fail
            go_roundw
            case rel => exact ⟨k + 1, by omega, by go_num, hq2⟩
            case measure => simp [intOf]; omega
    · obtain rfl : k = 5 := by omega
      have HW := Lib.hid (HE.out _ hw)
      clear hw
      go_wp2_with fail
      go_ret
      exact ⟨rfl, HW.out⟩
end Go.Proofs.YtokephnlelpjhaaDoor
