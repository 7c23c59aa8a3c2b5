/- latchkeylaw10.with. -/
import Derived.Test.YtbclmmneiphcaaaDoorMade1
import Derived.Test.YtbclmmneiphcaaaDoorParts
import Derived.Test.YtbclmmneiphcaaaDoorTail
namespace Go.Proofs.YtbclmmneiphcaaaDoor
open Go.RowKit
abbrev CLT : TypeId := 74
section
variable {E : World} {S : Ph} {L : List Hp}
set_option maxRecDepth 100000 in
set_option maxHeartbeats 4000000 in
theorem with_any (v : Nv) (n : Nd) (vk vv : ByteArray) (kid : Int) (most : Nat) (w : World) (hkid : -9223372036854775808 ≤ kid ∧ kid ≤ 9223372036854775807) (hb : n.bulk ≤ 1000000) (hlf : n.leaf = true → n.vs.length = n.ks.length) (hi : NdIn S v n) (h : Own E w (Hp.ro S :: L)) :
    Calls Tryd.prog 47 #[v.val n, .agg #[.string vk, .string vv, .int .i64 kid], .int .i64 most] w fun e w' => ∃ q : Nat, q < 1000 ∧ ∃ nv : Value, e = .returned nv ∧ ((nv = v.val n ∧ n.withC ⟨vk, vv, kid⟩ q most = n ∧ Own E w' (Hp.ro S :: L)) ∨ Own E w' (Hp.node nv (n.withC ⟨vk, vv, kid⟩ q most) :: Hp.ro S :: L)) := by
  have kshort := fun s (k : Nat) w M hw => short_any (E := E) (L := M) s k w hw
  have kplace := fun w M hw => place_any (E := E) (S := S) (L := M) v.a1 n.ks.length v.c1 n.ks (keyB vk) w (by have := hb; unfold Nd.bulk at this; omega) hi.r1 hw
  have ksize := fun w M hw => lsize_any (E := E) (S := S) (L := M) v n w (by omega) hi hw
  have kpick := fun w => pick10_any kid 1000 w hkid (by omega) (by omega)
  have hz1 : (shortB vk 36).size ≤ 36 := shortB_size vk 36
  have hz2 : (shortB vv 200).size ≤ 200 := shortB_size vv 200
  have hkey : keyB vk = if (shortB vk 36).size = 0 then ⟨#[107]⟩ else shortB vk 36 := rfl
  have hple := plN_le n.ks (keyB vk)
  have hsw : n.sizeW ≤ 10000000 := by unfold Nd.sizeW; unfold Nd.bulk at hb; omega
  have hwith : ∀ q, n.withC ⟨vk, vv, kid⟩ q most = if isAt n.ks (plN n.ks (keyB vk)) (keyB vk) = true ∨ most < n.sizeW + n.more ⟨vk, vv, kid⟩ then n else n.put1 ⟨vk, vv, kid⟩ q := fun q => rfl
  have hmore : n.more ⟨vk, vv, kid⟩ = if n.leaf then 2 + (keyB vk).size + (shortB vv 200).size else 5 + (keyB vk).size := rfl
  have hput : ∀ q, n.put1 ⟨vk, vv, kid⟩ q = if n.leaf then ⟨true, insAt n.ks (plN n.ks (keyB vk)) (keyB vk), insAt n.vs (plN n.ks (keyB vk)) (shortB vv 200), []⟩ else ⟨false, insAt n.ks (plN n.ks (keyB vk)) (keyB vk), [], n.ls ++ [newKid n q]⟩ := fun q => rfl
  generalize hsk : shortB vk 36 = sk at *
  generalize hsv : shortB vv 200 = sv at *
  have hks : (keyB vk).size ≤ 36 := by
    rw [hkey]
    split
    · decide
    · exact hz1
  generalize hkb : keyB vk = key at *
  generalize hik : plN n.ks key = i at *
  generalize his : isAt n.ks i key = is at *
  generalize hmo : n.more ⟨vk, vv, kid⟩ = more at *
  generalize hsz : n.sizeW = sz at *
  clear hkb hik his hmo hsz
  have HLF := Lib.hid hlf
  clear hlf
  have HW := Lib.hid hwith
  have HMO := Lib.hid hmore
  have HP := Lib.hid hput
  have KS := Lib.hid kshort
  have KP := Lib.hid kplace
  have KZ := Lib.hid ksize
  have KK := Lib.hid kpick
  have HK := Lib.hid hkey
  clear hwith hmore hput kshort kplace ksize kpick hkey
  have HSK := Lib.hid hsk
  have HSV := Lib.hid hsv
  clear hsk hsv
  have h1 : Own E _ (Hp.blk (w.heap.size + 2) NT #[.bool false, .slice none 0 0, .slice none 0 0, .slice none 0 0] :: Hp.blk (w.heap.size + 1) CLT #[.string vk, .string vv, .int .i64 kid] :: Hp.blk w.heap.size NT #[.bool n.leaf, .slice v.a1 n.ks.length v.c1, .slice v.a2 n.vs.length v.c2, .slice v.a3 n.ls.length v.c3] :: Hp.ro S :: L) := h.alloc3 _ _ _
  obtain ⟨g, hg⟩ : ∃ g, g = w.heap.size := ⟨_, rfl⟩
  rw [← hg] at h1
  have hcell : ∀ w', (∃ L', Own E w' (Hp.blk g NT #[.bool n.leaf, .slice v.a1 n.ks.length v.c1, .slice v.a2 n.vs.length v.c2, .slice v.a3 n.ls.length v.c3] :: L')) → (∃ L', Own E w' (Hp.blk (g + 1) CLT #[.string vk, .string vv, .int .i64 kid] :: L')) → w'.cell? ⟨g, 0, none⟩ = some (.bool n.leaf) ∧ w'.cell? ⟨g, 1, none⟩ = some (.slice v.a1 n.ks.length v.c1) ∧ w'.cell? ⟨g, 2, none⟩ = some (.slice v.a2 n.vs.length v.c2) ∧ w'.cell? ⟨g, 3, none⟩ = some (.slice v.a3 n.ls.length v.c3) ∧ w'.cell? ⟨g + 1, 0, none⟩ = some (.string vk) ∧ w'.cell? ⟨g + 1, 1, none⟩ = some (.string vv) ∧ w'.cell? ⟨g + 1, 2, none⟩ = some (.int .i64 kid) := fun w' hw hw2 => by
    obtain ⟨_, hw⟩ := hw
    obtain ⟨_, hw2⟩ := hw2
    exact ⟨hw.cell 0, hw.cell 1, hw.cell 2, hw.cell 3, hw2.cell 0, hw2.cell 1, hw2.cell 2⟩
  have HC := Lib.hid hcell
  clear hcell
  dsimp only [Nv.val] at *
  obtain ⟨c0, c1, c2, c3, d0, d1, d2⟩ := HC.out _ h1.has h1.has
  have H := Lib.hid h1
  clear h h1
  go_enter Tryd.func47, Tryd.ntmps47
  go_wp2_with fail
  rw [← hg]
  clear hg
  refine (KS.out vk 36 _ _ H.out).mono ?_
  rintro e w1 ⟨rfl, h⟩
  rw [HSK.out]
  clear c0 c1 c2 c3 d0 d1 d2 H
  obtain ⟨c0, c1, c2, c3, d0, d1, d2⟩ := HC.out _ h.has h.has
  have H := Lib.hid h
  clear h
  have hkk : (sk.size = 0 ∧ key = ⟨#[107]⟩ ∧ sk = ⟨#[]⟩) ∨ (sk.size ≠ 0 ∧ key = sk) := by
    by_cases hz : sk.size = 0
    · exact .inl ⟨hz, by rw [HK.out, if_pos hz], ByteArray.ext (Array.eq_empty_of_size_eq_zero hz)⟩
    · exact .inr ⟨hz, by rw [HK.out, if_neg hz]⟩
  have HKK := Lib.hid hkk
  clear hkk
  go_upto_if 17 with fail
  go_cut [7] from 13 (fun x w' => x = .string key ∧ w' = w1)
  case first =>
    rcases HKK.out with ⟨hz, rfl, rfl⟩ | ⟨hz, rfl⟩
    · have z1 : (⟨#[]⟩ : ByteArray).toList.isEmpty = true := by rw [ByteArray.toList_eq]; rfl
      go_wp2_with fail
      · go_meet
        case rel => exact ⟨rfl, rfl⟩
      · rename_i hx
        rw [z1] at hx
        cases hx
    · have z1 : key.toList.isEmpty = false := by
        rw [ByteArray.toList_eq]
        cases e : key.data.toList with
        | nil => exact absurd (show key.data.size = 0 by rw [← Array.length_toList, e]; rfl) hz
        | cons => rfl
      go_wp2_with fail
      · rename_i hx
        rw [z1] at hx
        cases hx
      · go_meet
        case rel => exact ⟨rfl, rfl⟩
  obtain ⟨rfl, rfl⟩ := hcut
  clear hz1 HK HKK
  go_wp2_with fail
  refine (KS.out vv 200 _ _ H.out).mono ?_
  rintro e w2 ⟨rfl, h⟩
  rw [HSV.out]
  clear c0 c1 c2 c3 d0 d1 d2 H
  obtain ⟨c0, c1, c2, c3, d0, d1, d2⟩ := HC.out _ h.has h.has
  have H := Lib.hid h
  clear h
  go_wp2_with fail
  have h := H.out
  first | have h := (h : Own _ _ (Hp.ro S :: _)) | have h := (h.f1 : Own _ _ (Hp.ro S :: _)) | have h := (h.f2 : Own _ _ (Hp.ro S :: _)) | have h := (h.f3 : Own _ _ (Hp.ro S :: _)) | have h := (h.f4 : Own _ _ (Hp.ro S :: _)) | have h := (h.f5 : Own _ _ (Hp.ro S :: _)) | have h := (h.f6 : Own _ _ (Hp.ro S :: _)) | have h := (h.f7 : Own _ _ (Hp.ro S :: _)) | have h := (h.f8 : Own _ _ (Hp.ro S :: _)) | have h := (h.f9 : Own _ _ (Hp.ro S :: _)) | have h := (h.f10 : Own _ _ (Hp.ro S :: _)) | have h := (h.f11 : Own _ _ (Hp.ro S :: _)) | have h := (h.f12 : Own _ _ (Hp.ro S :: _)) | have h := (h.f13 : Own _ _ (Hp.ro S :: _)) | have h := (h.f14 : Own _ _ (Hp.ro S :: _)) | have h := (h.f15 : Own _ _ (Hp.ro S :: _))
  refine (KP.out _ _ h).mono ?_
  rintro e w3 ⟨rfl, h⟩
  clear c0 c1 c2 c3 d0 d1 d2 H
  obtain ⟨c0, c1, c2, c3, d0, d1, d2⟩ := HC.out _ h.has h.has
  have H := Lib.hid h
  clear h
  have j1 : IntKind.i64.wrap (2 + (key.size : Int)) = ((2 + key.size : Nat) : Int) := IntWalk.i64_in _ (by omega)
  have j2 : IntKind.i64.wrap (((2 + key.size : Nat) : Int) + (sv.size : Int)) = ((2 + key.size + sv.size : Nat) : Int) := IntWalk.i64_in _ (by omega)
  have j3 : IntKind.i64.wrap (5 + (key.size : Int)) = ((5 + key.size : Nat) : Int) := IntWalk.i64_in _ (by omega)
  go_upto_if 36 with fail
  go_cut [11] from 13 (fun x w' => x = .int .i64 more ∧ w' = w3)
  case first =>
    obtain ⟨leaf, ks, vs, ls⟩ := n
    cases leaf with
    | true =>
      have hmv : more = 2 + key.size + sv.size := HMO.out
      subst hmv
      go_wp2_with fail
      go_meet
      case rel => exact ⟨by go_num, rfl⟩
    | false =>
      have hmv : more = 5 + key.size := HMO.out
      subst hmv
      go_wp2_with fail
      go_meet
      case rel => exact ⟨by go_num, rfl⟩
  obtain ⟨rfl, rfl⟩ := hcut
  have hmb : more ≤ 1000 := by rw [HMO.out]; split <;> omega
  clear HMO j1 j2 j3
  obtain ⟨nt, hnt, hnr⟩ := nt_u
  cases is with
  | true =>
    have hwc : ∀ q, n.withC ⟨vk, vv, kid⟩ q most = n := fun q => by rw [HW.out, if_pos (.inl rfl)]
    have h := H.out
    first | have h := (h : Own _ _ (Hp.blk (g + 2) NT _ :: _)) | have h := (h.f1 : Own _ _ (Hp.blk (g + 2) NT _ :: _)) | have h := (h.f2 : Own _ _ (Hp.blk (g + 2) NT _ :: _)) | have h := (h.f3 : Own _ _ (Hp.blk (g + 2) NT _ :: _)) | have h := (h.f4 : Own _ _ (Hp.blk (g + 2) NT _ :: _)) | have h := (h.f5 : Own _ _ (Hp.blk (g + 2) NT _ :: _)) | have h := (h.f6 : Own _ _ (Hp.blk (g + 2) NT _ :: _)) | have h := (h.f7 : Own _ _ (Hp.blk (g + 2) NT _ :: _)) | have h := (h.f8 : Own _ _ (Hp.blk (g + 2) NT _ :: _)) | have h := (h.f9 : Own _ _ (Hp.blk (g + 2) NT _ :: _)) | have h := (h.f10 : Own _ _ (Hp.blk (g + 2) NT _ :: _)) | have h := (h.f11 : Own _ _ (Hp.blk (g + 2) NT _ :: _)) | have h := (h.f12 : Own _ _ (Hp.blk (g + 2) NT _ :: _)) | have h := (h.f13 : Own _ _ (Hp.blk (g + 2) NT _ :: _)) | have h := (h.f14 : Own _ _ (Hp.blk (g + 2) NT _ :: _)) | have h := (h.f15 : Own _ _ (Hp.blk (g + 2) NT _ :: _))
    have HH := Lib.hid h
    have HWC := Lib.hid hwc
    clear h hwc
    go_wp2_with (with_reducible refine at_slot (k := none) ?_; refine wpList_store_whole (o := ⟨none, _, _, _, _, _⟩) (cs := [.bool false, .slice none 0 0, .slice none 0 0, .slice none 0 0]) (vs := [.bool n.leaf, .slice v.a1 n.ks.length v.c1, .slice v.a2 n.vs.length v.c2, .slice v.a3 n.ls.length v.c3]) HH.out rfl (ND_all1 _ _ _ _ rfl rfl rfl) (by kernel_rfl) rfl rfl rfl rfl ?_; intro w7 h)
    refine bodyPost_ret (results_arr rfl rfl h hnt hnr (by kernel_rfl)) rfl ?_
    refine ⟨0, by omega, _, rfl, .inl ⟨rfl, HWC.out 0, ?_⟩⟩
    have h := h.drop
    first | have h := (h : Own _ _ (Hp.blk (g + 1) CLT _ :: _)) | have h := (h.f1 : Own _ _ (Hp.blk (g + 1) CLT _ :: _)) | have h := (h.f2 : Own _ _ (Hp.blk (g + 1) CLT _ :: _)) | have h := (h.f3 : Own _ _ (Hp.blk (g + 1) CLT _ :: _)) | have h := (h.f4 : Own _ _ (Hp.blk (g + 1) CLT _ :: _)) | have h := (h.f5 : Own _ _ (Hp.blk (g + 1) CLT _ :: _)) | have h := (h.f6 : Own _ _ (Hp.blk (g + 1) CLT _ :: _)) | have h := (h.f7 : Own _ _ (Hp.blk (g + 1) CLT _ :: _)) | have h := (h.f8 : Own _ _ (Hp.blk (g + 1) CLT _ :: _)) | have h := (h.f9 : Own _ _ (Hp.blk (g + 1) CLT _ :: _)) | have h := (h.f10 : Own _ _ (Hp.blk (g + 1) CLT _ :: _)) | have h := (h.f11 : Own _ _ (Hp.blk (g + 1) CLT _ :: _)) | have h := (h.f12 : Own _ _ (Hp.blk (g + 1) CLT _ :: _)) | have h := (h.f13 : Own _ _ (Hp.blk (g + 1) CLT _ :: _)) | have h := (h.f14 : Own _ _ (Hp.blk (g + 1) CLT _ :: _)) | have h := (h.f15 : Own _ _ (Hp.blk (g + 1) CLT _ :: _))
    have h := h.drop
    first | have h := (h : Own _ _ (Hp.blk g NT _ :: _)) | have h := (h.f1 : Own _ _ (Hp.blk g NT _ :: _)) | have h := (h.f2 : Own _ _ (Hp.blk g NT _ :: _)) | have h := (h.f3 : Own _ _ (Hp.blk g NT _ :: _)) | have h := (h.f4 : Own _ _ (Hp.blk g NT _ :: _)) | have h := (h.f5 : Own _ _ (Hp.blk g NT _ :: _)) | have h := (h.f6 : Own _ _ (Hp.blk g NT _ :: _)) | have h := (h.f7 : Own _ _ (Hp.blk g NT _ :: _)) | have h := (h.f8 : Own _ _ (Hp.blk g NT _ :: _)) | have h := (h.f9 : Own _ _ (Hp.blk g NT _ :: _)) | have h := (h.f10 : Own _ _ (Hp.blk g NT _ :: _)) | have h := (h.f11 : Own _ _ (Hp.blk g NT _ :: _)) | have h := (h.f12 : Own _ _ (Hp.blk g NT _ :: _)) | have h := (h.f13 : Own _ _ (Hp.blk g NT _ :: _)) | have h := (h.f14 : Own _ _ (Hp.blk g NT _ :: _)) | have h := (h.f15 : Own _ _ (Hp.blk g NT _ :: _))
    have h := h.drop
    exact h
  | false =>
    go_wp2_with fail
    have h := H.out
    first | have h := (h : Own _ _ (Hp.ro S :: _)) | have h := (h.f1 : Own _ _ (Hp.ro S :: _)) | have h := (h.f2 : Own _ _ (Hp.ro S :: _)) | have h := (h.f3 : Own _ _ (Hp.ro S :: _)) | have h := (h.f4 : Own _ _ (Hp.ro S :: _)) | have h := (h.f5 : Own _ _ (Hp.ro S :: _)) | have h := (h.f6 : Own _ _ (Hp.ro S :: _)) | have h := (h.f7 : Own _ _ (Hp.ro S :: _)) | have h := (h.f8 : Own _ _ (Hp.ro S :: _)) | have h := (h.f9 : Own _ _ (Hp.ro S :: _)) | have h := (h.f10 : Own _ _ (Hp.ro S :: _)) | have h := (h.f11 : Own _ _ (Hp.ro S :: _)) | have h := (h.f12 : Own _ _ (Hp.ro S :: _)) | have h := (h.f13 : Own _ _ (Hp.ro S :: _)) | have h := (h.f14 : Own _ _ (Hp.ro S :: _)) | have h := (h.f15 : Own _ _ (Hp.ro S :: _))
    refine (KZ.out _ _ h).mono ?_
    rintro e w4 ⟨rfl, h⟩
    clear c0 c1 c2 c3 d0 d1 d2 H
    obtain ⟨c0, c1, c2, c3, d0, d1, d2⟩ := HC.out _ h.has h.has
    have H := Lib.hid h
    clear h
    have j4 : IntKind.i64.wrap ((sz : Int) + (more : Int)) = ((sz + more : Nat) : Int) := IntWalk.i64_in _ (by omega)
    by_cases hgt : most < sz + more
    · have hgi : (most : Int) < (sz : Int) + (more : Int) := by omega
      have hwc : ∀ q, n.withC ⟨vk, vv, kid⟩ q most = n := fun q => by rw [HW.out, if_pos (.inr hgt)]
      have h := H.out
      first | have h := (h : Own _ _ (Hp.blk (g + 2) NT _ :: _)) | have h := (h.f1 : Own _ _ (Hp.blk (g + 2) NT _ :: _)) | have h := (h.f2 : Own _ _ (Hp.blk (g + 2) NT _ :: _)) | have h := (h.f3 : Own _ _ (Hp.blk (g + 2) NT _ :: _)) | have h := (h.f4 : Own _ _ (Hp.blk (g + 2) NT _ :: _)) | have h := (h.f5 : Own _ _ (Hp.blk (g + 2) NT _ :: _)) | have h := (h.f6 : Own _ _ (Hp.blk (g + 2) NT _ :: _)) | have h := (h.f7 : Own _ _ (Hp.blk (g + 2) NT _ :: _)) | have h := (h.f8 : Own _ _ (Hp.blk (g + 2) NT _ :: _)) | have h := (h.f9 : Own _ _ (Hp.blk (g + 2) NT _ :: _)) | have h := (h.f10 : Own _ _ (Hp.blk (g + 2) NT _ :: _)) | have h := (h.f11 : Own _ _ (Hp.blk (g + 2) NT _ :: _)) | have h := (h.f12 : Own _ _ (Hp.blk (g + 2) NT _ :: _)) | have h := (h.f13 : Own _ _ (Hp.blk (g + 2) NT _ :: _)) | have h := (h.f14 : Own _ _ (Hp.blk (g + 2) NT _ :: _)) | have h := (h.f15 : Own _ _ (Hp.blk (g + 2) NT _ :: _))
      have HH := Lib.hid h
      have HWC := Lib.hid hwc
      clear h hwc
      go_wp2_with (with_reducible refine at_slot (k := none) ?_; refine wpList_store_whole (o := ⟨none, _, _, _, _, _⟩) (cs := [.bool false, .slice none 0 0, .slice none 0 0, .slice none 0 0]) (vs := [.bool n.leaf, .slice v.a1 n.ks.length v.c1, .slice v.a2 n.vs.length v.c2, .slice v.a3 n.ls.length v.c3]) HH.out rfl (ND_all1 _ _ _ _ rfl rfl rfl) (by kernel_rfl) rfl rfl rfl rfl ?_; intro w7 h)
      refine bodyPost_ret (results_arr rfl rfl h hnt hnr (by kernel_rfl)) rfl ?_
      refine ⟨0, by omega, _, rfl, .inl ⟨rfl, HWC.out 0, ?_⟩⟩
      have h := h.drop
      first | have h := (h : Own _ _ (Hp.blk (g + 1) CLT _ :: _)) | have h := (h.f1 : Own _ _ (Hp.blk (g + 1) CLT _ :: _)) | have h := (h.f2 : Own _ _ (Hp.blk (g + 1) CLT _ :: _)) | have h := (h.f3 : Own _ _ (Hp.blk (g + 1) CLT _ :: _)) | have h := (h.f4 : Own _ _ (Hp.blk (g + 1) CLT _ :: _)) | have h := (h.f5 : Own _ _ (Hp.blk (g + 1) CLT _ :: _)) | have h := (h.f6 : Own _ _ (Hp.blk (g + 1) CLT _ :: _)) | have h := (h.f7 : Own _ _ (Hp.blk (g + 1) CLT _ :: _)) | have h := (h.f8 : Own _ _ (Hp.blk (g + 1) CLT _ :: _)) | have h := (h.f9 : Own _ _ (Hp.blk (g + 1) CLT _ :: _)) | have h := (h.f10 : Own _ _ (Hp.blk (g + 1) CLT _ :: _)) | have h := (h.f11 : Own _ _ (Hp.blk (g + 1) CLT _ :: _)) | have h := (h.f12 : Own _ _ (Hp.blk (g + 1) CLT _ :: _)) | have h := (h.f13 : Own _ _ (Hp.blk (g + 1) CLT _ :: _)) | have h := (h.f14 : Own _ _ (Hp.blk (g + 1) CLT _ :: _)) | have h := (h.f15 : Own _ _ (Hp.blk (g + 1) CLT _ :: _))
      have h := h.drop
      first | have h := (h : Own _ _ (Hp.blk g NT _ :: _)) | have h := (h.f1 : Own _ _ (Hp.blk g NT _ :: _)) | have h := (h.f2 : Own _ _ (Hp.blk g NT _ :: _)) | have h := (h.f3 : Own _ _ (Hp.blk g NT _ :: _)) | have h := (h.f4 : Own _ _ (Hp.blk g NT _ :: _)) | have h := (h.f5 : Own _ _ (Hp.blk g NT _ :: _)) | have h := (h.f6 : Own _ _ (Hp.blk g NT _ :: _)) | have h := (h.f7 : Own _ _ (Hp.blk g NT _ :: _)) | have h := (h.f8 : Own _ _ (Hp.blk g NT _ :: _)) | have h := (h.f9 : Own _ _ (Hp.blk g NT _ :: _)) | have h := (h.f10 : Own _ _ (Hp.blk g NT _ :: _)) | have h := (h.f11 : Own _ _ (Hp.blk g NT _ :: _)) | have h := (h.f12 : Own _ _ (Hp.blk g NT _ :: _)) | have h := (h.f13 : Own _ _ (Hp.blk g NT _ :: _)) | have h := (h.f14 : Own _ _ (Hp.blk g NT _ :: _)) | have h := (h.f15 : Own _ _ (Hp.blk g NT _ :: _))
      have h := h.drop
      exact h
    · have hgi : ¬ (most : Int) < (sz : Int) + (more : Int) := by omega
      have hwc : ∀ q, n.withC ⟨vk, vv, kid⟩ q most = n.put1 ⟨vk, vv, kid⟩ q := fun q => by rw [HW.out, if_neg (fun hx => by rcases hx with hx | hx; cases hx; exact hgt hx)]
      have HWC := Lib.hid hwc
      have h1 := H.out.alloc (.cells #[.bool false, .slice none 0 0, .slice none 0 0, .slice none 0 0] NT)
      have H1 := Lib.hid h1
      clear hwc HW h1
      go_wp2_with (with_reducible refine at_slot (k := none) ?_; refine wpList_store_whole (o := ⟨none, _, _, _, _, _⟩) (cs := [.bool false, .slice none 0 0, .slice none 0 0, .slice none 0 0]) (vs := [.bool n.leaf, .slice none 0 0, .slice none 0 0, .slice none 0 0]) H1.out rfl (ND_all1 _ _ _ _ rfl rfl rfl) (by kernel_rfl) rfl rfl rfl rfl ?_; intro w7 h)
      obtain ⟨gz, hgz⟩ : ∃ x, x = w4.heap.size := ⟨_, rfl⟩
      rw [← hgz] at h ⊢
      clear hgz H H1 c0 c1 c2 c3 d0 d1 d2
      have hkd : Rds S 1 enStr v.a1 i (n.ks.take i) := hi.r1.pre i hple
      have HZ : Hid (∀ w' u1 u2 u3, (∃ L', Own E w' (Hp.blk gz NT #[.bool n.leaf, u1, u2, u3] :: L')) → w'.cell? ⟨gz, 1, none⟩ = some u1 ∧ w'.cell? ⟨gz, 2, none⟩ = some u2 ∧ w'.cell? ⟨gz, 3, none⟩ = some u3) := Lib.hid (fun w' u1 u2 u3 hw => by
        obtain ⟨_, hw⟩ := hw
        exact ⟨hw.cell 1, hw.cell 2, hw.cell 3⟩)
      have l1 : n.ks.length ≤ 1000000 := by unfold Nd.bulk at hb; omega
      have l2 : n.vs.length ≤ 1000000 := by unfold Nd.bulk at hb; omega
      have l3 : n.ls.length ≤ 1000000 := by unfold Nd.bulk at hb; omega
      have k0 : (0 : Int) ≤ (i : Int) := by omega
      have k1 : (i : Int) ≤ v.c1 := by have := hi.h1; omega
      have hil : (n.ks.take i).length = i := by rw [List.length_take]; omega
      have HIL := Lib.hid hil
      clear hil
      have h := h.drew
      refine wp_region_text [1, 3] (fun w' => w'.cell? ⟨gz, 1, none⟩ = some (.slice none 0 0) ∧ w'.cell? ⟨g, 1, none⟩ = some (.slice v.a1 n.ks.length v.c1)) (by kernel_rfl) ?_ (fun hS => ?_)
      · exact ⟨(HZ.out _ (.slice none 0 0) (.slice none 0 0) (.slice none 0 0) h.has).1, (HC.out _ h.has h.has).2.1⟩
      refine wpAnyG_pure (i := 0) (oi := ⟨some 53, _, _, _, _, _⟩) (v := ?_) rfl (by kernel_rfl) (by kernel_rfl) (by kernel_rfl) (by rfl) (fun _ _ _ h => h) (by rfl) ?_ ?_
      rotate_left
      · intro w
        go_simp
        first | done | with_reducible rfl
      try simp only [Act.put, List.setIfInBounds_toArray, List.set_cons_zero, List.set_cons_succ]
      refine wpAnyG_load (i := 1) (oi := ⟨some 54, _, _, _, _, _⟩) (v := ?_) rfl (by kernel_rfl) (by kernel_rfl) (by kernel_rfl) (by rfl) (fun _ _ _ h => h) (by rfl) ?_ (by assumption) ?_
      rotate_left
      · intro w hS
        try dsimp only at hS
        go_simp
        first | done | with_reducible rfl
      try simp only [Act.put, List.setIfInBounds_toArray, List.set_cons_zero, List.set_cons_succ]
      refine wpAnyG_pure (i := 2) (oi := ⟨some 55, _, _, _, _, _⟩) (v := ?_) rfl (by kernel_rfl) (by kernel_rfl) (by kernel_rfl) (by rfl) (fun _ _ _ h => h) (by rfl) ?_ ?_
      rotate_left
      · intro w
        go_simp
        first | done | with_reducible rfl
      try simp only [Act.put, List.setIfInBounds_toArray, List.set_cons_zero, List.set_cons_succ]
      refine wpAnyG_load (i := 3) (oi := ⟨some 56, _, _, _, _, _⟩) (v := ?_) rfl (by kernel_rfl) (by kernel_rfl) (by kernel_rfl) (by rfl) (fun _ _ _ h => h) (by rfl) ?_ (by assumption) ?_
      rotate_left
      · intro w hS
        try dsimp only at hS
        go_simp
        first | done | with_reducible rfl
      try simp only [Act.put, List.setIfInBounds_toArray, List.set_cons_zero, List.set_cons_succ]
      refine wpAnyG_pure (i := 4) (oi := ⟨some 57, _, _, _, _, _⟩) (v := ?_) rfl (by kernel_rfl) (by kernel_rfl) (by kernel_rfl) (by rfl) (fun _ _ _ h => h) (by rfl) ?_ ?_
      rotate_left
      · intro w
        go_simp
        first | done | with_reducible rfl
      try simp only [Act.put, List.setIfInBounds_toArray, List.set_cons_zero, List.set_cons_succ]
      refine wpAnyG_pure (i := 5) (oi := ⟨some 58, _, _, _, _, _⟩) (v := ?_) rfl (by kernel_rfl) (by kernel_rfl) (by kernel_rfl) (by rfl) (fun _ _ _ h => h) (by rfl) ?_ ?_
      rotate_left
      · intro w
        go_simp
        first | done | with_reducible rfl
      try simp only [Act.put, List.setIfInBounds_toArray, List.set_cons_zero, List.set_cons_succ]
      refine wpAnyG_keep (i := 6) (oi := ⟨some 59, _, _, _, _, _⟩) (by kernel_rfl) rfl (fun K hK => ?_)
      rw [if_pos (by rfl)]
      first | have h := (h : Own _ _ (Hp.ro S :: _)) | have h := (h.f1 : Own _ _ (Hp.ro S :: _)) | have h := (h.f2 : Own _ _ (Hp.ro S :: _)) | have h := (h.f3 : Own _ _ (Hp.ro S :: _)) | have h := (h.f4 : Own _ _ (Hp.ro S :: _)) | have h := (h.f5 : Own _ _ (Hp.ro S :: _)) | have h := (h.f6 : Own _ _ (Hp.ro S :: _)) | have h := (h.f7 : Own _ _ (Hp.ro S :: _)) | have h := (h.f8 : Own _ _ (Hp.ro S :: _)) | have h := (h.f9 : Own _ _ (Hp.ro S :: _)) | have h := (h.f10 : Own _ _ (Hp.ro S :: _)) | have h := (h.f11 : Own _ _ (Hp.ro S :: _)) | have h := (h.f12 : Own _ _ (Hp.ro S :: _)) | have h := (h.f13 : Own _ _ (Hp.ro S :: _)) | have h := (h.f14 : Own _ _ (Hp.ro S :: _)) | have h := (h.f15 : Own _ _ (Hp.ro S :: _))
      have hrd : RdC _ v.a1 ((n.ks.take i).map VS) := Rds.rdC hkd h
      obtain ⟨v6, w6, hap, h⟩ := lst_append (P := Tryd.prog) (t := LST) (ty := LST) lst_u st_info (by rfl) (h.emptyLst ST none) v.a1 i v.c1 ((n.ks.take i).map VS) (by rw [List.length_map, HIL.out]) hrd (VS_one _) (by unfold maxLen; simp; omega) (by simp; omega)
      rw [List.nil_append] at h
      obtain ⟨A6, c6, rfl, -⟩ := h.lstSlice
      rw [List.length_map, HIL.out] at h hap
      refine wp_append_run hap rfl rfl rfl ?_
      refine hK.out _ _ ?_ (fun hS => ?_)
      · exact ⟨(HZ.out _ (.slice none 0 0) (.slice none 0 0) (.slice none 0 0) h.has).1, (HC.out _ h.has h.has).2.1⟩
      clear hK K
      try simp only [Act.put, List.setIfInBounds_toArray, List.set_cons_zero, List.set_cons_succ]
      refine wpAnyG_pure (i := 7) (oi := ⟨some 60, _, _, _, _, _⟩) (v := ?_) rfl (by kernel_rfl) (by kernel_rfl) (by kernel_rfl) (by rfl) (fun _ _ _ h => h) (by rfl) ?_ ?_
      rotate_left
      · intro w
        go_simp
        first | done | with_reducible rfl
      try simp only [Act.put, List.setIfInBounds_toArray, List.set_cons_zero, List.set_cons_succ]
      refine wpAnyG_break (i := 8) (oi := ⟨none, _, _, _, _, _⟩) (by kernel_rfl) rfl (by kernel_rfl) (fun K hK => ?_)
      rw [if_pos (by rfl)]
      first | have h := (h : Own _ _ (Hp.blk gz NT _ :: _)) | have h := (h.f1 : Own _ _ (Hp.blk gz NT _ :: _)) | have h := (h.f2 : Own _ _ (Hp.blk gz NT _ :: _)) | have h := (h.f3 : Own _ _ (Hp.blk gz NT _ :: _)) | have h := (h.f4 : Own _ _ (Hp.blk gz NT _ :: _)) | have h := (h.f5 : Own _ _ (Hp.blk gz NT _ :: _)) | have h := (h.f6 : Own _ _ (Hp.blk gz NT _ :: _)) | have h := (h.f7 : Own _ _ (Hp.blk gz NT _ :: _)) | have h := (h.f8 : Own _ _ (Hp.blk gz NT _ :: _)) | have h := (h.f9 : Own _ _ (Hp.blk gz NT _ :: _)) | have h := (h.f10 : Own _ _ (Hp.blk gz NT _ :: _)) | have h := (h.f11 : Own _ _ (Hp.blk gz NT _ :: _)) | have h := (h.f12 : Own _ _ (Hp.blk gz NT _ :: _)) | have h := (h.f13 : Own _ _ (Hp.blk gz NT _ :: _)) | have h := (h.f14 : Own _ _ (Hp.blk gz NT _ :: _)) | have h := (h.f15 : Own _ _ (Hp.blk gz NT _ :: _))
      have f5 := h.cell 1
      have f6 := h.frozen 1
      have h := h.set 1 (.slice A6 i c6)
      go_simp
      refine hK.out _ _ ?_
      clear hK K
      try simp only [Act.put]
      refine wpAnyG_done (by kernel_rfl) ?_ _
      refine NoPanic.normal ?_
      have h : Own E _ (Hp.blk gz NT #[.bool n.leaf, .slice A6 i c6, .slice none 0 0, .slice none 0 0] :: _) := h
      generalize World.setCell _ _ _ = wa at h ⊢
      clear f5 f6
      have e1 := h.cell 1
      first | have h := (h : Own _ _ (Hp.strs (.slice A6 i c6) (n.ks.take i) :: _)) | have h := (h.f1 : Own _ _ (Hp.strs (.slice A6 i c6) (n.ks.take i) :: _)) | have h := (h.f2 : Own _ _ (Hp.strs (.slice A6 i c6) (n.ks.take i) :: _)) | have h := (h.f3 : Own _ _ (Hp.strs (.slice A6 i c6) (n.ks.take i) :: _)) | have h := (h.f4 : Own _ _ (Hp.strs (.slice A6 i c6) (n.ks.take i) :: _)) | have h := (h.f5 : Own _ _ (Hp.strs (.slice A6 i c6) (n.ks.take i) :: _)) | have h := (h.f6 : Own _ _ (Hp.strs (.slice A6 i c6) (n.ks.take i) :: _)) | have h := (h.f7 : Own _ _ (Hp.strs (.slice A6 i c6) (n.ks.take i) :: _)) | have h := (h.f8 : Own _ _ (Hp.strs (.slice A6 i c6) (n.ks.take i) :: _)) | have h := (h.f9 : Own _ _ (Hp.strs (.slice A6 i c6) (n.ks.take i) :: _)) | have h := (h.f10 : Own _ _ (Hp.strs (.slice A6 i c6) (n.ks.take i) :: _)) | have h := (h.f11 : Own _ _ (Hp.strs (.slice A6 i c6) (n.ks.take i) :: _)) | have h := (h.f12 : Own _ _ (Hp.strs (.slice A6 i c6) (n.ks.take i) :: _)) | have h := (h.f13 : Own _ _ (Hp.strs (.slice A6 i c6) (n.ks.take i) :: _)) | have h := (h.f14 : Own _ _ (Hp.strs (.slice A6 i c6) (n.ks.take i) :: _)) | have h := (h.f15 : Own _ _ (Hp.strs (.slice A6 i c6) (n.ks.take i) :: _))
      obtain ⟨v6, wb, hap, h⟩ := lst_append_new (P := Tryd.prog) (t := LST) (ty := LST) lst_u st_info (by rfl) h #[.string key] 1 rfl (VS_one [key]) (by unfold maxLen; rw [List.length_map, HIL.out]; omega) (by rw [List.length_map, HIL.out]; omega)
      have e9 : (n.ks.take i).map VS ++ (#[Value.string key] : Array Value).toList = (n.ks.take i ++ [key]).map VS := by simp
      rw [e9] at h
      obtain ⟨A9, c9, rfl, -⟩ := h.lstSlice
      have e8 : ((n.ks.take i ++ [key]).map VS).length = i + 1 := by rw [List.length_map, List.length_append, HIL.out]; rfl
      rw [e8] at h hap
      first | have h := (h : Own _ _ (Hp.blk gz NT _ :: _)) | have h := (h.f1 : Own _ _ (Hp.blk gz NT _ :: _)) | have h := (h.f2 : Own _ _ (Hp.blk gz NT _ :: _)) | have h := (h.f3 : Own _ _ (Hp.blk gz NT _ :: _)) | have h := (h.f4 : Own _ _ (Hp.blk gz NT _ :: _)) | have h := (h.f5 : Own _ _ (Hp.blk gz NT _ :: _)) | have h := (h.f6 : Own _ _ (Hp.blk gz NT _ :: _)) | have h := (h.f7 : Own _ _ (Hp.blk gz NT _ :: _)) | have h := (h.f8 : Own _ _ (Hp.blk gz NT _ :: _)) | have h := (h.f9 : Own _ _ (Hp.blk gz NT _ :: _)) | have h := (h.f10 : Own _ _ (Hp.blk gz NT _ :: _)) | have h := (h.f11 : Own _ _ (Hp.blk gz NT _ :: _)) | have h := (h.f12 : Own _ _ (Hp.blk gz NT _ :: _)) | have h := (h.f13 : Own _ _ (Hp.blk gz NT _ :: _)) | have h := (h.f14 : Own _ _ (Hp.blk gz NT _ :: _)) | have h := (h.f15 : Own _ _ (Hp.blk gz NT _ :: _))
      have e2 := h.cell 1
      have f2 := h.frozen 1
      have h := h.set 1 (.slice A9 (i + 1) c9)
      have H := Lib.hid h
      clear h e9 e8
      go_wp2_with (with_reducible refine at_slot (k := some 65) ?_; refine wpList_append_run (o := ⟨some 65, _, _, _, _, _⟩) hap rfl rfl rfl rfl ?_; clear hap)
      have h : Own E _ (Hp.blk gz NT #[.bool n.leaf, .slice A9 (i + 1) c9, .slice none 0 0, .slice none 0 0] :: _) := H.out
      generalize World.setCell _ _ _ = wc at h ⊢
      clear e1 e2 f2 H
      have k2 : (i : Int) ≤ n.ks.length := by omega
      have hr2 : Rds S 1 enStr (tailAt v.a1 v.c1 i 1) (n.ks.length - i) (n.ks.drop i) := hi.r1.tail hi.h1 i hple
      have h := h.drew
      refine wp_region_text [1, 3] (fun w' => w'.cell? ⟨gz, 1, none⟩ = some (.slice A9 (i + 1) c9) ∧ w'.cell? ⟨g, 1, none⟩ = some (.slice v.a1 n.ks.length v.c1)) (by kernel_rfl) ?_ (fun hS => ?_)
      · exact ⟨(HZ.out _ (.slice A9 (i + 1) c9) (.slice none 0 0) (.slice none 0 0) h.has).1, (HC.out _ h.has h.has).2.1⟩
      refine wpAnyG_pure (i := 0) (oi := ⟨some 67, _, _, _, _, _⟩) (v := ?_) rfl (by kernel_rfl) (by kernel_rfl) (by kernel_rfl) (by rfl) (fun _ _ _ h => h) (by rfl) ?_ ?_
      rotate_left
      · intro w
        go_simp
        first | done | with_reducible rfl
      try simp only [Act.put, List.setIfInBounds_toArray, List.set_cons_zero, List.set_cons_succ]
      refine wpAnyG_load (i := 1) (oi := ⟨some 68, _, _, _, _, _⟩) (v := ?_) rfl (by kernel_rfl) (by kernel_rfl) (by kernel_rfl) (by rfl) (fun _ _ _ h => h) (by rfl) ?_ (by assumption) ?_
      rotate_left
      · intro w hS
        try dsimp only at hS
        go_simp
        first | done | with_reducible rfl
      try simp only [Act.put, List.setIfInBounds_toArray, List.set_cons_zero, List.set_cons_succ]
      refine wpAnyG_pure (i := 2) (oi := ⟨some 69, _, _, _, _, _⟩) (v := ?_) rfl (by kernel_rfl) (by kernel_rfl) (by kernel_rfl) (by rfl) (fun _ _ _ h => h) (by rfl) ?_ ?_
      rotate_left
      · intro w
        go_simp
        first | done | with_reducible rfl
      try simp only [Act.put, List.setIfInBounds_toArray, List.set_cons_zero, List.set_cons_succ]
      refine wpAnyG_load (i := 3) (oi := ⟨some 70, _, _, _, _, _⟩) (v := ?_) rfl (by kernel_rfl) (by kernel_rfl) (by kernel_rfl) (by rfl) (fun _ _ _ h => h) (by rfl) ?_ (by assumption) ?_
      rotate_left
      · intro w hS
        try dsimp only at hS
        go_simp
        first | done | with_reducible rfl
      try simp only [Act.put, List.setIfInBounds_toArray, List.set_cons_zero, List.set_cons_succ]
      refine wpAnyG_pure (i := 4) (oi := ⟨some 71, _, _, _, _, _⟩) (v := ?_) rfl (by kernel_rfl) (by kernel_rfl) (by kernel_rfl) (by rfl) (fun _ _ _ h => h) (by rfl) ?_ ?_
      rotate_left
      · intro w
        go_simp
        first | done | with_reducible rfl
      try simp only [Act.put, List.setIfInBounds_toArray, List.set_cons_zero, List.set_cons_succ]
      refine wpAnyG_pure (i := 5) (oi := ⟨some 72, _, _, _, _, _⟩) (v := (Value.slice (tailAt v.a1 v.c1 i 1) (n.ks.length - i) (v.c1 - i))) rfl (by kernel_rfl) (by kernel_rfl) (by kernel_rfl) (by rfl) (fun _ _ _ h => h) (by rfl) ?_ ?_
      · intro w
        exact exec_slice_low (elem := ST) (size := 1) lst_u (by kernel_rfl) rfl rfl rfl (by omega)
      try simp only [Act.put, List.setIfInBounds_toArray, List.set_cons_zero, List.set_cons_succ]
      refine wpAnyG_keep (i := 6) (oi := ⟨some 73, _, _, _, _, _⟩) (by kernel_rfl) rfl (fun K hK => ?_)
      rw [if_pos (by rfl)]
      first | have h := (h : Own _ _ (Hp.ro S :: _)) | have h := (h.f1 : Own _ _ (Hp.ro S :: _)) | have h := (h.f2 : Own _ _ (Hp.ro S :: _)) | have h := (h.f3 : Own _ _ (Hp.ro S :: _)) | have h := (h.f4 : Own _ _ (Hp.ro S :: _)) | have h := (h.f5 : Own _ _ (Hp.ro S :: _)) | have h := (h.f6 : Own _ _ (Hp.ro S :: _)) | have h := (h.f7 : Own _ _ (Hp.ro S :: _)) | have h := (h.f8 : Own _ _ (Hp.ro S :: _)) | have h := (h.f9 : Own _ _ (Hp.ro S :: _)) | have h := (h.f10 : Own _ _ (Hp.ro S :: _)) | have h := (h.f11 : Own _ _ (Hp.ro S :: _)) | have h := (h.f12 : Own _ _ (Hp.ro S :: _)) | have h := (h.f13 : Own _ _ (Hp.ro S :: _)) | have h := (h.f14 : Own _ _ (Hp.ro S :: _)) | have h := (h.f15 : Own _ _ (Hp.ro S :: _))
      have hrd : RdC _ (tailAt v.a1 v.c1 i 1) ((n.ks.drop i).map VS) := Rds.rdC hr2 h
      first | have h := (h : Own _ _ (Hp.strs (.slice A9 (i + 1) c9) (n.ks.take i ++ [key]) :: _)) | have h := (h.f1 : Own _ _ (Hp.strs (.slice A9 (i + 1) c9) (n.ks.take i ++ [key]) :: _)) | have h := (h.f2 : Own _ _ (Hp.strs (.slice A9 (i + 1) c9) (n.ks.take i ++ [key]) :: _)) | have h := (h.f3 : Own _ _ (Hp.strs (.slice A9 (i + 1) c9) (n.ks.take i ++ [key]) :: _)) | have h := (h.f4 : Own _ _ (Hp.strs (.slice A9 (i + 1) c9) (n.ks.take i ++ [key]) :: _)) | have h := (h.f5 : Own _ _ (Hp.strs (.slice A9 (i + 1) c9) (n.ks.take i ++ [key]) :: _)) | have h := (h.f6 : Own _ _ (Hp.strs (.slice A9 (i + 1) c9) (n.ks.take i ++ [key]) :: _)) | have h := (h.f7 : Own _ _ (Hp.strs (.slice A9 (i + 1) c9) (n.ks.take i ++ [key]) :: _)) | have h := (h.f8 : Own _ _ (Hp.strs (.slice A9 (i + 1) c9) (n.ks.take i ++ [key]) :: _)) | have h := (h.f9 : Own _ _ (Hp.strs (.slice A9 (i + 1) c9) (n.ks.take i ++ [key]) :: _)) | have h := (h.f10 : Own _ _ (Hp.strs (.slice A9 (i + 1) c9) (n.ks.take i ++ [key]) :: _)) | have h := (h.f11 : Own _ _ (Hp.strs (.slice A9 (i + 1) c9) (n.ks.take i ++ [key]) :: _)) | have h := (h.f12 : Own _ _ (Hp.strs (.slice A9 (i + 1) c9) (n.ks.take i ++ [key]) :: _)) | have h := (h.f13 : Own _ _ (Hp.strs (.slice A9 (i + 1) c9) (n.ks.take i ++ [key]) :: _)) | have h := (h.f14 : Own _ _ (Hp.strs (.slice A9 (i + 1) c9) (n.ks.take i ++ [key]) :: _)) | have h := (h.f15 : Own _ _ (Hp.strs (.slice A9 (i + 1) c9) (n.ks.take i ++ [key]) :: _))
      obtain ⟨v6, w6, hap, h⟩ := lst_append (P := Tryd.prog) (t := LST) (ty := LST) lst_u st_info (by rfl) h (tailAt v.a1 v.c1 i 1) (n.ks.length - i) (v.c1 - i) ((n.ks.drop i).map VS) (by rw [List.length_map]; first | exact List.length_drop | (rw [List.length_take]; omega)) hrd (VS_one _) (by unfold maxLen; simp; omega) (by simp; omega)
      rw [← List.map_append] at h
      obtain ⟨A7, c7, rfl, -⟩ := h.lstSlice
      have e8 : ((n.ks.take i ++ [key] ++ n.ks.drop i).map VS).length = n.ks.length + 1 := by rw [List.length_map]; exact insAt_len n.ks i key
      rw [e8] at h hap
      refine wp_append_run hap rfl rfl rfl ?_
      refine hK.out _ _ ?_ (fun hS => ?_)
      · exact ⟨(HZ.out _ (.slice A9 (i + 1) c9) (.slice none 0 0) (.slice none 0 0) h.has).1, (HC.out _ h.has h.has).2.1⟩
      clear hK K
      try simp only [Act.put, List.setIfInBounds_toArray, List.set_cons_zero, List.set_cons_succ]
      refine wpAnyG_pure (i := 7) (oi := ⟨some 74, _, _, _, _, _⟩) (v := ?_) rfl (by kernel_rfl) (by kernel_rfl) (by kernel_rfl) (by rfl) (fun _ _ _ h => h) (by rfl) ?_ ?_
      rotate_left
      · intro w
        go_simp
        first | done | with_reducible rfl
      try simp only [Act.put, List.setIfInBounds_toArray, List.set_cons_zero, List.set_cons_succ]
      refine wpAnyG_break (i := 8) (oi := ⟨none, _, _, _, _, _⟩) (by kernel_rfl) rfl (by kernel_rfl) (fun K hK => ?_)
      rw [if_pos (by rfl)]
      first | have h := (h : Own _ _ (Hp.blk gz NT _ :: _)) | have h := (h.f1 : Own _ _ (Hp.blk gz NT _ :: _)) | have h := (h.f2 : Own _ _ (Hp.blk gz NT _ :: _)) | have h := (h.f3 : Own _ _ (Hp.blk gz NT _ :: _)) | have h := (h.f4 : Own _ _ (Hp.blk gz NT _ :: _)) | have h := (h.f5 : Own _ _ (Hp.blk gz NT _ :: _)) | have h := (h.f6 : Own _ _ (Hp.blk gz NT _ :: _)) | have h := (h.f7 : Own _ _ (Hp.blk gz NT _ :: _)) | have h := (h.f8 : Own _ _ (Hp.blk gz NT _ :: _)) | have h := (h.f9 : Own _ _ (Hp.blk gz NT _ :: _)) | have h := (h.f10 : Own _ _ (Hp.blk gz NT _ :: _)) | have h := (h.f11 : Own _ _ (Hp.blk gz NT _ :: _)) | have h := (h.f12 : Own _ _ (Hp.blk gz NT _ :: _)) | have h := (h.f13 : Own _ _ (Hp.blk gz NT _ :: _)) | have h := (h.f14 : Own _ _ (Hp.blk gz NT _ :: _)) | have h := (h.f15 : Own _ _ (Hp.blk gz NT _ :: _))
      have f5 := h.cell 1
      have f6 := h.frozen 1
      have h := h.set 1 (.slice A7 (n.ks.length + 1) c7)
      go_simp
      refine hK.out _ _ ?_
      clear hK K
      try simp only [Act.put]
      refine wpAnyG_done (by kernel_rfl) ?_ _
      refine NoPanic.normal ?_
      have h : Own E _ (Hp.blk gz NT #[.bool n.leaf, .slice A7 (n.ks.length + 1) c7, .slice none 0 0, .slice none 0 0] :: _) := h
      generalize World.setCell _ _ _ = wd at h ⊢
      clear f5 f6
      first | have h := (h : Own _ _ (Hp.strs (.slice A7 (n.ks.length + 1) c7) (insAt n.ks i key) :: _)) | have h := (h.f1 : Own _ _ (Hp.strs (.slice A7 (n.ks.length + 1) c7) (insAt n.ks i key) :: _)) | have h := (h.f2 : Own _ _ (Hp.strs (.slice A7 (n.ks.length + 1) c7) (insAt n.ks i key) :: _)) | have h := (h.f3 : Own _ _ (Hp.strs (.slice A7 (n.ks.length + 1) c7) (insAt n.ks i key) :: _)) | have h := (h.f4 : Own _ _ (Hp.strs (.slice A7 (n.ks.length + 1) c7) (insAt n.ks i key) :: _)) | have h := (h.f5 : Own _ _ (Hp.strs (.slice A7 (n.ks.length + 1) c7) (insAt n.ks i key) :: _)) | have h := (h.f6 : Own _ _ (Hp.strs (.slice A7 (n.ks.length + 1) c7) (insAt n.ks i key) :: _)) | have h := (h.f7 : Own _ _ (Hp.strs (.slice A7 (n.ks.length + 1) c7) (insAt n.ks i key) :: _)) | have h := (h.f8 : Own _ _ (Hp.strs (.slice A7 (n.ks.length + 1) c7) (insAt n.ks i key) :: _)) | have h := (h.f9 : Own _ _ (Hp.strs (.slice A7 (n.ks.length + 1) c7) (insAt n.ks i key) :: _)) | have h := (h.f10 : Own _ _ (Hp.strs (.slice A7 (n.ks.length + 1) c7) (insAt n.ks i key) :: _)) | have h := (h.f11 : Own _ _ (Hp.strs (.slice A7 (n.ks.length + 1) c7) (insAt n.ks i key) :: _)) | have h := (h.f12 : Own _ _ (Hp.strs (.slice A7 (n.ks.length + 1) c7) (insAt n.ks i key) :: _)) | have h := (h.f13 : Own _ _ (Hp.strs (.slice A7 (n.ks.length + 1) c7) (insAt n.ks i key) :: _)) | have h := (h.f14 : Own _ _ (Hp.strs (.slice A7 (n.ks.length + 1) c7) (insAt n.ks i key) :: _)) | have h := (h.f15 : Own _ _ (Hp.strs (.slice A7 (n.ks.length + 1) c7) (insAt n.ks i key) :: _))
      cases hlf : n.leaf with
      | true =>
        have hvl : n.vs.length = n.ks.length := HLF.out hlf
        have hvd : Rds S 1 enStr v.a2 i (n.vs.take i) := hi.r2.pre i (by omega)
        have hr3 : Rds S 1 enStr (tailAt v.a2 v.c2 i 1) (n.ks.length - i) (n.vs.drop i) := by rw [← hvl]; exact hi.r2.tail hi.h2 i (by omega)
        have hm2 := hi.h2
        have k3 : (0 : Int) ≤ (i : Int) := by omega
        rw [hlf, hvl] at h
        have HC2 := HC.out
        rw [hlf, hvl] at HC2
        have HC := Lib.hid HC2
        have HZ2 := HZ.out
        rw [hlf] at HZ2
        have HZ := Lib.hid HZ2
        clear HC2 HZ2
        have hcl := (HC.out _ h.has h.has).1
        have H := Lib.hid h
        clear h
        go_wp2_with fail
        have h := H.out
        clear H hcl
        have h := h.drew
        refine wp_region_text [1, 3] (fun w' => w'.cell? ⟨gz, 2, none⟩ = some (.slice none 0 0) ∧ w'.cell? ⟨g, 2, none⟩ = some (.slice v.a2 n.ks.length v.c2)) (by kernel_rfl) ?_ (fun hS => ?_)
        · exact ⟨(HZ.out _ (.slice A7 (n.ks.length + 1) c7) (.slice none 0 0) (.slice none 0 0) h.has).2.1, (HC.out _ h.has h.has).2.2.1⟩
        refine wpAnyG_pure (i := 0) (oi := ⟨some 77, _, _, _, _, _⟩) (v := ?_) rfl (by kernel_rfl) (by kernel_rfl) (by kernel_rfl) (by rfl) (fun _ _ _ h => h) (by rfl) ?_ ?_
        rotate_left
        · intro w
          go_simp
          first | done | with_reducible rfl
        try simp only [Act.put, List.setIfInBounds_toArray, List.set_cons_zero, List.set_cons_succ]
        refine wpAnyG_load (i := 1) (oi := ⟨some 78, _, _, _, _, _⟩) (v := ?_) rfl (by kernel_rfl) (by kernel_rfl) (by kernel_rfl) (by rfl) (fun _ _ _ h => h) (by rfl) ?_ (by assumption) ?_
        rotate_left
        · intro w hS
          try dsimp only at hS
          go_simp
          first | done | with_reducible rfl
        try simp only [Act.put, List.setIfInBounds_toArray, List.set_cons_zero, List.set_cons_succ]
        refine wpAnyG_pure (i := 2) (oi := ⟨some 79, _, _, _, _, _⟩) (v := ?_) rfl (by kernel_rfl) (by kernel_rfl) (by kernel_rfl) (by rfl) (fun _ _ _ h => h) (by rfl) ?_ ?_
        rotate_left
        · intro w
          go_simp
          first | done | with_reducible rfl
        try simp only [Act.put, List.setIfInBounds_toArray, List.set_cons_zero, List.set_cons_succ]
        refine wpAnyG_load (i := 3) (oi := ⟨some 80, _, _, _, _, _⟩) (v := ?_) rfl (by kernel_rfl) (by kernel_rfl) (by kernel_rfl) (by rfl) (fun _ _ _ h => h) (by rfl) ?_ (by assumption) ?_
        rotate_left
        · intro w hS
          try dsimp only at hS
          go_simp
          first | done | with_reducible rfl
        try simp only [Act.put, List.setIfInBounds_toArray, List.set_cons_zero, List.set_cons_succ]
        refine wpAnyG_pure (i := 4) (oi := ⟨some 81, _, _, _, _, _⟩) (v := ?_) rfl (by kernel_rfl) (by kernel_rfl) (by kernel_rfl) (by rfl) (fun _ _ _ h => h) (by rfl) ?_ ?_
        rotate_left
        · intro w
          go_simp
          first | done | with_reducible rfl
        try simp only [Act.put, List.setIfInBounds_toArray, List.set_cons_zero, List.set_cons_succ]
        refine wpAnyG_pure (i := 5) (oi := ⟨some 82, _, _, _, _, _⟩) (v := (Value.slice v.a2 i v.c2)) rfl (by kernel_rfl) (by kernel_rfl) (by kernel_rfl) (by rfl) (fun _ _ _ h => h) (by rfl) ?_ ?_
        · intro w
          exact exec_slice_high (elem := ST) (size := 1) lst_u (by kernel_rfl) rfl rfl rfl (by omega)
        try simp only [Act.put, List.setIfInBounds_toArray, List.set_cons_zero, List.set_cons_succ]
        refine wpAnyG_keep (i := 6) (oi := ⟨some 83, _, _, _, _, _⟩) (by kernel_rfl) rfl (fun K hK => ?_)
        rw [if_pos (by rfl)]
        first | have h := (h : Own _ _ (Hp.ro S :: _)) | have h := (h.f1 : Own _ _ (Hp.ro S :: _)) | have h := (h.f2 : Own _ _ (Hp.ro S :: _)) | have h := (h.f3 : Own _ _ (Hp.ro S :: _)) | have h := (h.f4 : Own _ _ (Hp.ro S :: _)) | have h := (h.f5 : Own _ _ (Hp.ro S :: _)) | have h := (h.f6 : Own _ _ (Hp.ro S :: _)) | have h := (h.f7 : Own _ _ (Hp.ro S :: _)) | have h := (h.f8 : Own _ _ (Hp.ro S :: _)) | have h := (h.f9 : Own _ _ (Hp.ro S :: _)) | have h := (h.f10 : Own _ _ (Hp.ro S :: _)) | have h := (h.f11 : Own _ _ (Hp.ro S :: _)) | have h := (h.f12 : Own _ _ (Hp.ro S :: _)) | have h := (h.f13 : Own _ _ (Hp.ro S :: _)) | have h := (h.f14 : Own _ _ (Hp.ro S :: _)) | have h := (h.f15 : Own _ _ (Hp.ro S :: _))
        have hrd : RdC _ v.a2 ((n.vs.take i).map VS) := Rds.rdC hvd h
        obtain ⟨v6, w6, hap, h⟩ := lst_append (P := Tryd.prog) (t := LST) (ty := LST) lst_u st_info (by rfl) (h.emptyLst ST none) v.a2 i v.c2 ((n.vs.take i).map VS) (by rw [List.length_map]; first | exact List.length_drop | (rw [List.length_take]; omega)) hrd (VS_one _) (by unfold maxLen; simp; omega) (by simp; omega)
        rw [List.nil_append] at h
        obtain ⟨Ab, cb, rfl, -⟩ := h.lstSlice
        have e8 : ((n.vs.take i).map VS).length = i := by rw [List.length_map]; rw [List.length_take]; omega
        rw [e8] at h hap
        refine wp_append_run hap rfl rfl rfl ?_
        refine hK.out _ _ ?_ (fun hS => ?_)
        · exact ⟨(HZ.out _ (.slice A7 (n.ks.length + 1) c7) (.slice none 0 0) (.slice none 0 0) h.has).2.1, (HC.out _ h.has h.has).2.2.1⟩
        clear hK K
        try simp only [Act.put, List.setIfInBounds_toArray, List.set_cons_zero, List.set_cons_succ]
        refine wpAnyG_pure (i := 7) (oi := ⟨some 84, _, _, _, _, _⟩) (v := ?_) rfl (by kernel_rfl) (by kernel_rfl) (by kernel_rfl) (by rfl) (fun _ _ _ h => h) (by rfl) ?_ ?_
        rotate_left
        · intro w
          go_simp
          first | done | with_reducible rfl
        try simp only [Act.put, List.setIfInBounds_toArray, List.set_cons_zero, List.set_cons_succ]
        refine wpAnyG_break (i := 8) (oi := ⟨none, _, _, _, _, _⟩) (by kernel_rfl) rfl (by kernel_rfl) (fun K hK => ?_)
        rw [if_pos (by rfl)]
        first | have h := (h : Own _ _ (Hp.blk gz NT _ :: _)) | have h := (h.f1 : Own _ _ (Hp.blk gz NT _ :: _)) | have h := (h.f2 : Own _ _ (Hp.blk gz NT _ :: _)) | have h := (h.f3 : Own _ _ (Hp.blk gz NT _ :: _)) | have h := (h.f4 : Own _ _ (Hp.blk gz NT _ :: _)) | have h := (h.f5 : Own _ _ (Hp.blk gz NT _ :: _)) | have h := (h.f6 : Own _ _ (Hp.blk gz NT _ :: _)) | have h := (h.f7 : Own _ _ (Hp.blk gz NT _ :: _)) | have h := (h.f8 : Own _ _ (Hp.blk gz NT _ :: _)) | have h := (h.f9 : Own _ _ (Hp.blk gz NT _ :: _)) | have h := (h.f10 : Own _ _ (Hp.blk gz NT _ :: _)) | have h := (h.f11 : Own _ _ (Hp.blk gz NT _ :: _)) | have h := (h.f12 : Own _ _ (Hp.blk gz NT _ :: _)) | have h := (h.f13 : Own _ _ (Hp.blk gz NT _ :: _)) | have h := (h.f14 : Own _ _ (Hp.blk gz NT _ :: _)) | have h := (h.f15 : Own _ _ (Hp.blk gz NT _ :: _))
        have f5 := h.cell 2
        have f6 := h.frozen 2
        have h := h.set 2 (.slice Ab (i) cb)
        go_simp
        refine hK.out _ _ ?_
        clear hK K
        try simp only [Act.put]
        refine wpAnyG_done (by kernel_rfl) ?_ _
        refine NoPanic.normal ?_
        have h : Own E _ (Hp.blk gz NT #[.bool true, .slice A7 (n.ks.length + 1) c7, .slice Ab i cb, .slice none 0 0] :: _) := h
        generalize World.setCell _ _ _ = we at h ⊢
        clear f5 f6
        clear hap hrd e8
        have e1 := h.cell 2
        first | have h := (h : Own _ _ (Hp.strs (.slice Ab i cb) (n.vs.take i) :: _)) | have h := (h.f1 : Own _ _ (Hp.strs (.slice Ab i cb) (n.vs.take i) :: _)) | have h := (h.f2 : Own _ _ (Hp.strs (.slice Ab i cb) (n.vs.take i) :: _)) | have h := (h.f3 : Own _ _ (Hp.strs (.slice Ab i cb) (n.vs.take i) :: _)) | have h := (h.f4 : Own _ _ (Hp.strs (.slice Ab i cb) (n.vs.take i) :: _)) | have h := (h.f5 : Own _ _ (Hp.strs (.slice Ab i cb) (n.vs.take i) :: _)) | have h := (h.f6 : Own _ _ (Hp.strs (.slice Ab i cb) (n.vs.take i) :: _)) | have h := (h.f7 : Own _ _ (Hp.strs (.slice Ab i cb) (n.vs.take i) :: _)) | have h := (h.f8 : Own _ _ (Hp.strs (.slice Ab i cb) (n.vs.take i) :: _)) | have h := (h.f9 : Own _ _ (Hp.strs (.slice Ab i cb) (n.vs.take i) :: _)) | have h := (h.f10 : Own _ _ (Hp.strs (.slice Ab i cb) (n.vs.take i) :: _)) | have h := (h.f11 : Own _ _ (Hp.strs (.slice Ab i cb) (n.vs.take i) :: _)) | have h := (h.f12 : Own _ _ (Hp.strs (.slice Ab i cb) (n.vs.take i) :: _)) | have h := (h.f13 : Own _ _ (Hp.strs (.slice Ab i cb) (n.vs.take i) :: _)) | have h := (h.f14 : Own _ _ (Hp.strs (.slice Ab i cb) (n.vs.take i) :: _)) | have h := (h.f15 : Own _ _ (Hp.strs (.slice Ab i cb) (n.vs.take i) :: _))
        obtain ⟨v6, wb, hap, h⟩ := lst_append_new (P := Tryd.prog) (t := LST) (ty := LST) lst_u st_info (by rfl) h #[.string sv] 1 rfl (VS_one [sv]) (by unfold maxLen; rw [List.length_map]; simp; omega) (by rw [List.length_map]; simp; omega)
        have e9 : (n.vs.take i).map VS ++ (#[Value.string sv] : Array Value).toList = (n.vs.take i ++ [sv]).map VS := by simp
        rw [e9] at h
        obtain ⟨Ac, cc, rfl, -⟩ := h.lstSlice
        have e8 : ((n.vs.take i ++ [sv]).map VS).length = i + 1 := by rw [List.length_map]; rw [List.length_append, List.length_take]; simp; omega
        rw [e8] at h hap
        have e7 : ((n.vs.take i).map VS).length = i := by rw [List.length_map, List.length_take]; omega
        try rw [e7] at hap
        first | have h := (h : Own _ _ (Hp.blk gz NT _ :: _)) | have h := (h.f1 : Own _ _ (Hp.blk gz NT _ :: _)) | have h := (h.f2 : Own _ _ (Hp.blk gz NT _ :: _)) | have h := (h.f3 : Own _ _ (Hp.blk gz NT _ :: _)) | have h := (h.f4 : Own _ _ (Hp.blk gz NT _ :: _)) | have h := (h.f5 : Own _ _ (Hp.blk gz NT _ :: _)) | have h := (h.f6 : Own _ _ (Hp.blk gz NT _ :: _)) | have h := (h.f7 : Own _ _ (Hp.blk gz NT _ :: _)) | have h := (h.f8 : Own _ _ (Hp.blk gz NT _ :: _)) | have h := (h.f9 : Own _ _ (Hp.blk gz NT _ :: _)) | have h := (h.f10 : Own _ _ (Hp.blk gz NT _ :: _)) | have h := (h.f11 : Own _ _ (Hp.blk gz NT _ :: _)) | have h := (h.f12 : Own _ _ (Hp.blk gz NT _ :: _)) | have h := (h.f13 : Own _ _ (Hp.blk gz NT _ :: _)) | have h := (h.f14 : Own _ _ (Hp.blk gz NT _ :: _)) | have h := (h.f15 : Own _ _ (Hp.blk gz NT _ :: _))
        have e2 := h.cell 2
        have f2 := h.frozen 2
        have h := h.set 2 (.slice Ac (i + 1) cc)
        have H := Lib.hid h
        clear h e9 e8 e7
        go_wp2_with (with_reducible refine at_slot (k := some 89) ?_; refine wpList_append_run (o := ⟨some 89, _, _, _, _, _⟩) hap rfl rfl rfl rfl ?_; clear hap)
        have h : Own E _ (Hp.blk gz NT #[.bool true, .slice A7 (n.ks.length + 1) c7, .slice Ac (i + 1) cc, .slice none 0 0] :: _) := H.out
        generalize World.setCell _ _ _ = wf at h ⊢
        clear e1 e2 f2 H
        have h := h.drew
        refine wp_region_text [1, 3] (fun w' => w'.cell? ⟨gz, 2, none⟩ = some (.slice Ac (i + 1) cc) ∧ w'.cell? ⟨g, 2, none⟩ = some (.slice v.a2 n.ks.length v.c2)) (by kernel_rfl) ?_ (fun hS => ?_)
        · exact ⟨(HZ.out _ (.slice A7 (n.ks.length + 1) c7) (.slice Ac (i + 1) cc) (.slice none 0 0) h.has).2.1, (HC.out _ h.has h.has).2.2.1⟩
        refine wpAnyG_pure (i := 0) (oi := ⟨some 91, _, _, _, _, _⟩) (v := ?_) rfl (by kernel_rfl) (by kernel_rfl) (by kernel_rfl) (by rfl) (fun _ _ _ h => h) (by rfl) ?_ ?_
        rotate_left
        · intro w
          go_simp
          first | done | with_reducible rfl
        try simp only [Act.put, List.setIfInBounds_toArray, List.set_cons_zero, List.set_cons_succ]
        refine wpAnyG_load (i := 1) (oi := ⟨some 92, _, _, _, _, _⟩) (v := ?_) rfl (by kernel_rfl) (by kernel_rfl) (by kernel_rfl) (by rfl) (fun _ _ _ h => h) (by rfl) ?_ (by assumption) ?_
        rotate_left
        · intro w hS
          try dsimp only at hS
          go_simp
          first | done | with_reducible rfl
        try simp only [Act.put, List.setIfInBounds_toArray, List.set_cons_zero, List.set_cons_succ]
        refine wpAnyG_pure (i := 2) (oi := ⟨some 93, _, _, _, _, _⟩) (v := ?_) rfl (by kernel_rfl) (by kernel_rfl) (by kernel_rfl) (by rfl) (fun _ _ _ h => h) (by rfl) ?_ ?_
        rotate_left
        · intro w
          go_simp
          first | done | with_reducible rfl
        try simp only [Act.put, List.setIfInBounds_toArray, List.set_cons_zero, List.set_cons_succ]
        refine wpAnyG_load (i := 3) (oi := ⟨some 94, _, _, _, _, _⟩) (v := ?_) rfl (by kernel_rfl) (by kernel_rfl) (by kernel_rfl) (by rfl) (fun _ _ _ h => h) (by rfl) ?_ (by assumption) ?_
        rotate_left
        · intro w hS
          try dsimp only at hS
          go_simp
          first | done | with_reducible rfl
        try simp only [Act.put, List.setIfInBounds_toArray, List.set_cons_zero, List.set_cons_succ]
        refine wpAnyG_pure (i := 4) (oi := ⟨some 95, _, _, _, _, _⟩) (v := ?_) rfl (by kernel_rfl) (by kernel_rfl) (by kernel_rfl) (by rfl) (fun _ _ _ h => h) (by rfl) ?_ ?_
        rotate_left
        · intro w
          go_simp
          first | done | with_reducible rfl
        try simp only [Act.put, List.setIfInBounds_toArray, List.set_cons_zero, List.set_cons_succ]
        refine wpAnyG_pure (i := 5) (oi := ⟨some 96, _, _, _, _, _⟩) (v := (Value.slice (tailAt v.a2 v.c2 i 1) (n.ks.length - i) (v.c2 - i))) rfl (by kernel_rfl) (by kernel_rfl) (by kernel_rfl) (by rfl) (fun _ _ _ h => h) (by rfl) ?_ ?_
        · intro w
          exact exec_slice_low (elem := ST) (size := 1) lst_u (by kernel_rfl) rfl rfl rfl (by omega)
        try simp only [Act.put, List.setIfInBounds_toArray, List.set_cons_zero, List.set_cons_succ]
        refine wpAnyG_keep (i := 6) (oi := ⟨some 97, _, _, _, _, _⟩) (by kernel_rfl) rfl (fun K hK => ?_)
        rw [if_pos (by rfl)]
        first | have h := (h : Own _ _ (Hp.ro S :: _)) | have h := (h.f1 : Own _ _ (Hp.ro S :: _)) | have h := (h.f2 : Own _ _ (Hp.ro S :: _)) | have h := (h.f3 : Own _ _ (Hp.ro S :: _)) | have h := (h.f4 : Own _ _ (Hp.ro S :: _)) | have h := (h.f5 : Own _ _ (Hp.ro S :: _)) | have h := (h.f6 : Own _ _ (Hp.ro S :: _)) | have h := (h.f7 : Own _ _ (Hp.ro S :: _)) | have h := (h.f8 : Own _ _ (Hp.ro S :: _)) | have h := (h.f9 : Own _ _ (Hp.ro S :: _)) | have h := (h.f10 : Own _ _ (Hp.ro S :: _)) | have h := (h.f11 : Own _ _ (Hp.ro S :: _)) | have h := (h.f12 : Own _ _ (Hp.ro S :: _)) | have h := (h.f13 : Own _ _ (Hp.ro S :: _)) | have h := (h.f14 : Own _ _ (Hp.ro S :: _)) | have h := (h.f15 : Own _ _ (Hp.ro S :: _))
        have hrd : RdC _ (tailAt v.a2 v.c2 i 1) ((n.vs.drop i).map VS) := Rds.rdC hr3 h
        first | have h := (h : Own _ _ (Hp.strs (.slice Ac (i + 1) cc) (n.vs.take i ++ [sv]) :: _)) | have h := (h.f1 : Own _ _ (Hp.strs (.slice Ac (i + 1) cc) (n.vs.take i ++ [sv]) :: _)) | have h := (h.f2 : Own _ _ (Hp.strs (.slice Ac (i + 1) cc) (n.vs.take i ++ [sv]) :: _)) | have h := (h.f3 : Own _ _ (Hp.strs (.slice Ac (i + 1) cc) (n.vs.take i ++ [sv]) :: _)) | have h := (h.f4 : Own _ _ (Hp.strs (.slice Ac (i + 1) cc) (n.vs.take i ++ [sv]) :: _)) | have h := (h.f5 : Own _ _ (Hp.strs (.slice Ac (i + 1) cc) (n.vs.take i ++ [sv]) :: _)) | have h := (h.f6 : Own _ _ (Hp.strs (.slice Ac (i + 1) cc) (n.vs.take i ++ [sv]) :: _)) | have h := (h.f7 : Own _ _ (Hp.strs (.slice Ac (i + 1) cc) (n.vs.take i ++ [sv]) :: _)) | have h := (h.f8 : Own _ _ (Hp.strs (.slice Ac (i + 1) cc) (n.vs.take i ++ [sv]) :: _)) | have h := (h.f9 : Own _ _ (Hp.strs (.slice Ac (i + 1) cc) (n.vs.take i ++ [sv]) :: _)) | have h := (h.f10 : Own _ _ (Hp.strs (.slice Ac (i + 1) cc) (n.vs.take i ++ [sv]) :: _)) | have h := (h.f11 : Own _ _ (Hp.strs (.slice Ac (i + 1) cc) (n.vs.take i ++ [sv]) :: _)) | have h := (h.f12 : Own _ _ (Hp.strs (.slice Ac (i + 1) cc) (n.vs.take i ++ [sv]) :: _)) | have h := (h.f13 : Own _ _ (Hp.strs (.slice Ac (i + 1) cc) (n.vs.take i ++ [sv]) :: _)) | have h := (h.f14 : Own _ _ (Hp.strs (.slice Ac (i + 1) cc) (n.vs.take i ++ [sv]) :: _)) | have h := (h.f15 : Own _ _ (Hp.strs (.slice Ac (i + 1) cc) (n.vs.take i ++ [sv]) :: _))
        obtain ⟨v6, w6, hap, h⟩ := lst_append (P := Tryd.prog) (t := LST) (ty := LST) lst_u st_info (by rfl) h (tailAt v.a2 v.c2 i 1) (n.ks.length - i) (v.c2 - i) ((n.vs.drop i).map VS) (by rw [List.length_map]; first | exact (List.length_drop.trans (by rw [hvl])) | (rw [List.length_take]; omega)) hrd (VS_one _) (by unfold maxLen; simp; omega) (by simp; omega)
        rw [← List.map_append] at h
        obtain ⟨Ad, cd, rfl, -⟩ := h.lstSlice
        have e8 : ((n.vs.take i ++ [sv] ++ n.vs.drop i).map VS).length = n.ks.length + 1 := by rw [List.length_map]; have := insAt_len n.vs i sv; rw [hvl] at this; exact this
        rw [e8] at h hap
        refine wp_append_run hap rfl rfl rfl ?_
        refine hK.out _ _ ?_ (fun hS => ?_)
        · exact ⟨(HZ.out _ (.slice A7 (n.ks.length + 1) c7) (.slice Ac (i + 1) cc) (.slice none 0 0) h.has).2.1, (HC.out _ h.has h.has).2.2.1⟩
        clear hK K
        try simp only [Act.put, List.setIfInBounds_toArray, List.set_cons_zero, List.set_cons_succ]
        refine wpAnyG_pure (i := 7) (oi := ⟨some 98, _, _, _, _, _⟩) (v := ?_) rfl (by kernel_rfl) (by kernel_rfl) (by kernel_rfl) (by rfl) (fun _ _ _ h => h) (by rfl) ?_ ?_
        rotate_left
        · intro w
          go_simp
          first | done | with_reducible rfl
        try simp only [Act.put, List.setIfInBounds_toArray, List.set_cons_zero, List.set_cons_succ]
        refine wpAnyG_break (i := 8) (oi := ⟨none, _, _, _, _, _⟩) (by kernel_rfl) rfl (by kernel_rfl) (fun K hK => ?_)
        rw [if_pos (by rfl)]
        first | have h := (h : Own _ _ (Hp.blk gz NT _ :: _)) | have h := (h.f1 : Own _ _ (Hp.blk gz NT _ :: _)) | have h := (h.f2 : Own _ _ (Hp.blk gz NT _ :: _)) | have h := (h.f3 : Own _ _ (Hp.blk gz NT _ :: _)) | have h := (h.f4 : Own _ _ (Hp.blk gz NT _ :: _)) | have h := (h.f5 : Own _ _ (Hp.blk gz NT _ :: _)) | have h := (h.f6 : Own _ _ (Hp.blk gz NT _ :: _)) | have h := (h.f7 : Own _ _ (Hp.blk gz NT _ :: _)) | have h := (h.f8 : Own _ _ (Hp.blk gz NT _ :: _)) | have h := (h.f9 : Own _ _ (Hp.blk gz NT _ :: _)) | have h := (h.f10 : Own _ _ (Hp.blk gz NT _ :: _)) | have h := (h.f11 : Own _ _ (Hp.blk gz NT _ :: _)) | have h := (h.f12 : Own _ _ (Hp.blk gz NT _ :: _)) | have h := (h.f13 : Own _ _ (Hp.blk gz NT _ :: _)) | have h := (h.f14 : Own _ _ (Hp.blk gz NT _ :: _)) | have h := (h.f15 : Own _ _ (Hp.blk gz NT _ :: _))
        have f5 := h.cell 2
        have f6 := h.frozen 2
        have h := h.set 2 (.slice Ad (n.ks.length + 1) cd)
        go_simp
        refine hK.out _ _ ?_
        clear hK K
        try simp only [Act.put]
        refine wpAnyG_done (by kernel_rfl) ?_ _
        refine NoPanic.normal ?_
        have h : Own E _ (Hp.blk gz NT #[.bool true, .slice A7 (n.ks.length + 1) c7, .slice Ad (n.ks.length + 1) cd, .slice none 0 0] :: _) := h
        generalize World.setCell _ _ _ = wg at h ⊢
        clear f5 f6
        clear hap hrd e8
        first | have h := (h : Own _ _ (Hp.blk gz NT _ :: _)) | have h := (h.f1 : Own _ _ (Hp.blk gz NT _ :: _)) | have h := (h.f2 : Own _ _ (Hp.blk gz NT _ :: _)) | have h := (h.f3 : Own _ _ (Hp.blk gz NT _ :: _)) | have h := (h.f4 : Own _ _ (Hp.blk gz NT _ :: _)) | have h := (h.f5 : Own _ _ (Hp.blk gz NT _ :: _)) | have h := (h.f6 : Own _ _ (Hp.blk gz NT _ :: _)) | have h := (h.f7 : Own _ _ (Hp.blk gz NT _ :: _)) | have h := (h.f8 : Own _ _ (Hp.blk gz NT _ :: _)) | have h := (h.f9 : Own _ _ (Hp.blk gz NT _ :: _)) | have h := (h.f10 : Own _ _ (Hp.blk gz NT _ :: _)) | have h := (h.f11 : Own _ _ (Hp.blk gz NT _ :: _)) | have h := (h.f12 : Own _ _ (Hp.blk gz NT _ :: _)) | have h := (h.f13 : Own _ _ (Hp.blk gz NT _ :: _)) | have h := (h.f14 : Own _ _ (Hp.blk gz NT _ :: _)) | have h := (h.f15 : Own _ _ (Hp.blk gz NT _ :: _))
        have d0 := h.cell 0
        have d1 := h.cell 1
        have d2 := h.cell 2
        have d3 := h.cell 3
        first | have h := (h : Own _ _ (Hp.blk (g + 2) NT _ :: _)) | have h := (h.f1 : Own _ _ (Hp.blk (g + 2) NT _ :: _)) | have h := (h.f2 : Own _ _ (Hp.blk (g + 2) NT _ :: _)) | have h := (h.f3 : Own _ _ (Hp.blk (g + 2) NT _ :: _)) | have h := (h.f4 : Own _ _ (Hp.blk (g + 2) NT _ :: _)) | have h := (h.f5 : Own _ _ (Hp.blk (g + 2) NT _ :: _)) | have h := (h.f6 : Own _ _ (Hp.blk (g + 2) NT _ :: _)) | have h := (h.f7 : Own _ _ (Hp.blk (g + 2) NT _ :: _)) | have h := (h.f8 : Own _ _ (Hp.blk (g + 2) NT _ :: _)) | have h := (h.f9 : Own _ _ (Hp.blk (g + 2) NT _ :: _)) | have h := (h.f10 : Own _ _ (Hp.blk (g + 2) NT _ :: _)) | have h := (h.f11 : Own _ _ (Hp.blk (g + 2) NT _ :: _)) | have h := (h.f12 : Own _ _ (Hp.blk (g + 2) NT _ :: _)) | have h := (h.f13 : Own _ _ (Hp.blk (g + 2) NT _ :: _)) | have h := (h.f14 : Own _ _ (Hp.blk (g + 2) NT _ :: _)) | have h := (h.f15 : Own _ _ (Hp.blk (g + 2) NT _ :: _))
        have HH := Lib.hid h
        clear h
        obtain ⟨nt, hnt, hnr⟩ := nt_u
        go_wp2_with (with_reducible refine at_slot (k := none) ?_; refine wpList_store_whole (o := ⟨none, _, _, _, _, _⟩) (cs := [.bool false, .slice none 0 0, .slice none 0 0, .slice none 0 0]) (vs := [.bool true, .slice A7 (n.ks.length + 1) c7, .slice Ad (n.ks.length + 1) cd, .slice none 0 0]) HH.out rfl (ND_all1 _ _ _ _ rfl rfl rfl) (by kernel_rfl) rfl rfl rfl rfl ?_; intro w7 h)
        refine bodyPost_ret (results_arr rfl rfl h hnt hnr (by kernel_rfl)) rfl ?_
        have h := h.drop
        first | have h := (h : Own _ _ (Hp.blk (g + 1) CLT _ :: _)) | have h := (h.f1 : Own _ _ (Hp.blk (g + 1) CLT _ :: _)) | have h := (h.f2 : Own _ _ (Hp.blk (g + 1) CLT _ :: _)) | have h := (h.f3 : Own _ _ (Hp.blk (g + 1) CLT _ :: _)) | have h := (h.f4 : Own _ _ (Hp.blk (g + 1) CLT _ :: _)) | have h := (h.f5 : Own _ _ (Hp.blk (g + 1) CLT _ :: _)) | have h := (h.f6 : Own _ _ (Hp.blk (g + 1) CLT _ :: _)) | have h := (h.f7 : Own _ _ (Hp.blk (g + 1) CLT _ :: _)) | have h := (h.f8 : Own _ _ (Hp.blk (g + 1) CLT _ :: _)) | have h := (h.f9 : Own _ _ (Hp.blk (g + 1) CLT _ :: _)) | have h := (h.f10 : Own _ _ (Hp.blk (g + 1) CLT _ :: _)) | have h := (h.f11 : Own _ _ (Hp.blk (g + 1) CLT _ :: _)) | have h := (h.f12 : Own _ _ (Hp.blk (g + 1) CLT _ :: _)) | have h := (h.f13 : Own _ _ (Hp.blk (g + 1) CLT _ :: _)) | have h := (h.f14 : Own _ _ (Hp.blk (g + 1) CLT _ :: _)) | have h := (h.f15 : Own _ _ (Hp.blk (g + 1) CLT _ :: _))
        have h := h.drop
        first | have h := (h : Own _ _ (Hp.blk g NT _ :: _)) | have h := (h.f1 : Own _ _ (Hp.blk g NT _ :: _)) | have h := (h.f2 : Own _ _ (Hp.blk g NT _ :: _)) | have h := (h.f3 : Own _ _ (Hp.blk g NT _ :: _)) | have h := (h.f4 : Own _ _ (Hp.blk g NT _ :: _)) | have h := (h.f5 : Own _ _ (Hp.blk g NT _ :: _)) | have h := (h.f6 : Own _ _ (Hp.blk g NT _ :: _)) | have h := (h.f7 : Own _ _ (Hp.blk g NT _ :: _)) | have h := (h.f8 : Own _ _ (Hp.blk g NT _ :: _)) | have h := (h.f9 : Own _ _ (Hp.blk g NT _ :: _)) | have h := (h.f10 : Own _ _ (Hp.blk g NT _ :: _)) | have h := (h.f11 : Own _ _ (Hp.blk g NT _ :: _)) | have h := (h.f12 : Own _ _ (Hp.blk g NT _ :: _)) | have h := (h.f13 : Own _ _ (Hp.blk g NT _ :: _)) | have h := (h.f14 : Own _ _ (Hp.blk g NT _ :: _)) | have h := (h.f15 : Own _ _ (Hp.blk g NT _ :: _))
        have h := h.drop
        first | have h := (h : Own _ _ (Hp.blk gz NT _ :: _)) | have h := (h.f1 : Own _ _ (Hp.blk gz NT _ :: _)) | have h := (h.f2 : Own _ _ (Hp.blk gz NT _ :: _)) | have h := (h.f3 : Own _ _ (Hp.blk gz NT _ :: _)) | have h := (h.f4 : Own _ _ (Hp.blk gz NT _ :: _)) | have h := (h.f5 : Own _ _ (Hp.blk gz NT _ :: _)) | have h := (h.f6 : Own _ _ (Hp.blk gz NT _ :: _)) | have h := (h.f7 : Own _ _ (Hp.blk gz NT _ :: _)) | have h := (h.f8 : Own _ _ (Hp.blk gz NT _ :: _)) | have h := (h.f9 : Own _ _ (Hp.blk gz NT _ :: _)) | have h := (h.f10 : Own _ _ (Hp.blk gz NT _ :: _)) | have h := (h.f11 : Own _ _ (Hp.blk gz NT _ :: _)) | have h := (h.f12 : Own _ _ (Hp.blk gz NT _ :: _)) | have h := (h.f13 : Own _ _ (Hp.blk gz NT _ :: _)) | have h := (h.f14 : Own _ _ (Hp.blk gz NT _ :: _)) | have h := (h.f15 : Own _ _ (Hp.blk gz NT _ :: _))
        have h := h.drop
        first | have h := (h : Own _ _ (Hp.strs (.slice Ad (n.ks.length + 1) cd) (insAt n.vs i sv) :: _)) | have h := (h.f1 : Own _ _ (Hp.strs (.slice Ad (n.ks.length + 1) cd) (insAt n.vs i sv) :: _)) | have h := (h.f2 : Own _ _ (Hp.strs (.slice Ad (n.ks.length + 1) cd) (insAt n.vs i sv) :: _)) | have h := (h.f3 : Own _ _ (Hp.strs (.slice Ad (n.ks.length + 1) cd) (insAt n.vs i sv) :: _)) | have h := (h.f4 : Own _ _ (Hp.strs (.slice Ad (n.ks.length + 1) cd) (insAt n.vs i sv) :: _)) | have h := (h.f5 : Own _ _ (Hp.strs (.slice Ad (n.ks.length + 1) cd) (insAt n.vs i sv) :: _)) | have h := (h.f6 : Own _ _ (Hp.strs (.slice Ad (n.ks.length + 1) cd) (insAt n.vs i sv) :: _)) | have h := (h.f7 : Own _ _ (Hp.strs (.slice Ad (n.ks.length + 1) cd) (insAt n.vs i sv) :: _)) | have h := (h.f8 : Own _ _ (Hp.strs (.slice Ad (n.ks.length + 1) cd) (insAt n.vs i sv) :: _)) | have h := (h.f9 : Own _ _ (Hp.strs (.slice Ad (n.ks.length + 1) cd) (insAt n.vs i sv) :: _)) | have h := (h.f10 : Own _ _ (Hp.strs (.slice Ad (n.ks.length + 1) cd) (insAt n.vs i sv) :: _)) | have h := (h.f11 : Own _ _ (Hp.strs (.slice Ad (n.ks.length + 1) cd) (insAt n.vs i sv) :: _)) | have h := (h.f12 : Own _ _ (Hp.strs (.slice Ad (n.ks.length + 1) cd) (insAt n.vs i sv) :: _)) | have h := (h.f13 : Own _ _ (Hp.strs (.slice Ad (n.ks.length + 1) cd) (insAt n.vs i sv) :: _)) | have h := (h.f14 : Own _ _ (Hp.strs (.slice Ad (n.ks.length + 1) cd) (insAt n.vs i sv) :: _)) | have h := (h.f15 : Own _ _ (Hp.strs (.slice Ad (n.ks.length + 1) cd) (insAt n.vs i sv) :: _))
        first | have h := (h : Own _ _ (Hp.strs (.slice A7 (n.ks.length + 1) c7) (insAt n.ks i key) :: _)) | have h := (h.f1 : Own _ _ (Hp.strs (.slice A7 (n.ks.length + 1) c7) (insAt n.ks i key) :: _)) | have h := (h.f2 : Own _ _ (Hp.strs (.slice A7 (n.ks.length + 1) c7) (insAt n.ks i key) :: _)) | have h := (h.f3 : Own _ _ (Hp.strs (.slice A7 (n.ks.length + 1) c7) (insAt n.ks i key) :: _)) | have h := (h.f4 : Own _ _ (Hp.strs (.slice A7 (n.ks.length + 1) c7) (insAt n.ks i key) :: _)) | have h := (h.f5 : Own _ _ (Hp.strs (.slice A7 (n.ks.length + 1) c7) (insAt n.ks i key) :: _)) | have h := (h.f6 : Own _ _ (Hp.strs (.slice A7 (n.ks.length + 1) c7) (insAt n.ks i key) :: _)) | have h := (h.f7 : Own _ _ (Hp.strs (.slice A7 (n.ks.length + 1) c7) (insAt n.ks i key) :: _)) | have h := (h.f8 : Own _ _ (Hp.strs (.slice A7 (n.ks.length + 1) c7) (insAt n.ks i key) :: _)) | have h := (h.f9 : Own _ _ (Hp.strs (.slice A7 (n.ks.length + 1) c7) (insAt n.ks i key) :: _)) | have h := (h.f10 : Own _ _ (Hp.strs (.slice A7 (n.ks.length + 1) c7) (insAt n.ks i key) :: _)) | have h := (h.f11 : Own _ _ (Hp.strs (.slice A7 (n.ks.length + 1) c7) (insAt n.ks i key) :: _)) | have h := (h.f12 : Own _ _ (Hp.strs (.slice A7 (n.ks.length + 1) c7) (insAt n.ks i key) :: _)) | have h := (h.f13 : Own _ _ (Hp.strs (.slice A7 (n.ks.length + 1) c7) (insAt n.ks i key) :: _)) | have h := (h.f14 : Own _ _ (Hp.strs (.slice A7 (n.ks.length + 1) c7) (insAt n.ks i key) :: _)) | have h := (h.f15 : Own _ _ (Hp.strs (.slice A7 (n.ks.length + 1) c7) (insAt n.ks i key) :: _))
        have h := h.emptyLst IT none
        have h := Own.toNode (n := ⟨true, insAt n.ks i key, insAt n.vs i sv, []⟩) h.b2
        have hpt : n.put1 ⟨vk, vv, kid⟩ 0 = ⟨true, insAt n.ks i key, insAt n.vs i sv, []⟩ := by rw [HP.out, if_pos hlf]
        refine ⟨0, by omega, _, rfl, .inr ?_⟩
        rw [HWC.out, hpt]
        exact h
      | false =>
        rw [hlf] at h
        have HC2 := HC.out
        rw [hlf] at HC2
        have HC := Lib.hid HC2
        clear HC2
        have hcl := (HC.out _ h.has h.has).1
        have hc3 := (HC.out _ h.has h.has).2.2.2.1
        first | have h := (h : Own _ _ (Hp.blk gz NT _ :: _)) | have h := (h.f1 : Own _ _ (Hp.blk gz NT _ :: _)) | have h := (h.f2 : Own _ _ (Hp.blk gz NT _ :: _)) | have h := (h.f3 : Own _ _ (Hp.blk gz NT _ :: _)) | have h := (h.f4 : Own _ _ (Hp.blk gz NT _ :: _)) | have h := (h.f5 : Own _ _ (Hp.blk gz NT _ :: _)) | have h := (h.f6 : Own _ _ (Hp.blk gz NT _ :: _)) | have h := (h.f7 : Own _ _ (Hp.blk gz NT _ :: _)) | have h := (h.f8 : Own _ _ (Hp.blk gz NT _ :: _)) | have h := (h.f9 : Own _ _ (Hp.blk gz NT _ :: _)) | have h := (h.f10 : Own _ _ (Hp.blk gz NT _ :: _)) | have h := (h.f11 : Own _ _ (Hp.blk gz NT _ :: _)) | have h := (h.f12 : Own _ _ (Hp.blk gz NT _ :: _)) | have h := (h.f13 : Own _ _ (Hp.blk gz NT _ :: _)) | have h := (h.f14 : Own _ _ (Hp.blk gz NT _ :: _)) | have h := (h.f15 : Own _ _ (Hp.blk gz NT _ :: _))
        have e3 := h.cell 3
        have g3 := h.frozen 3
        first | have h := (h : Own _ _ (Hp.ro S :: _)) | have h := (h.f1 : Own _ _ (Hp.ro S :: _)) | have h := (h.f2 : Own _ _ (Hp.ro S :: _)) | have h := (h.f3 : Own _ _ (Hp.ro S :: _)) | have h := (h.f4 : Own _ _ (Hp.ro S :: _)) | have h := (h.f5 : Own _ _ (Hp.ro S :: _)) | have h := (h.f6 : Own _ _ (Hp.ro S :: _)) | have h := (h.f7 : Own _ _ (Hp.ro S :: _)) | have h := (h.f8 : Own _ _ (Hp.ro S :: _)) | have h := (h.f9 : Own _ _ (Hp.ro S :: _)) | have h := (h.f10 : Own _ _ (Hp.ro S :: _)) | have h := (h.f11 : Own _ _ (Hp.ro S :: _)) | have h := (h.f12 : Own _ _ (Hp.ro S :: _)) | have h := (h.f13 : Own _ _ (Hp.ro S :: _)) | have h := (h.f14 : Own _ _ (Hp.ro S :: _)) | have h := (h.f15 : Own _ _ (Hp.ro S :: _))
        have hrd : RdC _ v.a3 (n.ls.map VI) := Rds.rdC hi.r3 h
        obtain ⟨v6, wk, hap, h⟩ := lst_append (P := Tryd.prog) (t := LIT) (ty := LIT) lit_u it_info (by rfl) (h.emptyLst IT none) v.a3 n.ls.length v.c3 (n.ls.map VI) (by rw [List.length_map]) hrd (VI_one _) (by unfold maxLen; simp; omega) (by simp; omega)
        rw [List.nil_append] at h
        obtain ⟨Ab, cb, rfl, -⟩ := h.lstSlice
        rw [List.length_map] at h hap
        have HZ4 : Hid (∀ w' u0 u1 u2 u3, (∃ L', Own E w' (Hp.blk gz NT #[u0, u1, u2, u3] :: L')) → w'.cell? ⟨gz, 3, none⟩ = some u3) := Lib.hid (fun w' u0 u1 u2 u3 hw => by
          obtain ⟨_, hw⟩ := hw
          exact hw.cell 3)
        first | have h := (h : Own _ _ (Hp.blk gz NT _ :: _)) | have h := (h.f1 : Own _ _ (Hp.blk gz NT _ :: _)) | have h := (h.f2 : Own _ _ (Hp.blk gz NT _ :: _)) | have h := (h.f3 : Own _ _ (Hp.blk gz NT _ :: _)) | have h := (h.f4 : Own _ _ (Hp.blk gz NT _ :: _)) | have h := (h.f5 : Own _ _ (Hp.blk gz NT _ :: _)) | have h := (h.f6 : Own _ _ (Hp.blk gz NT _ :: _)) | have h := (h.f7 : Own _ _ (Hp.blk gz NT _ :: _)) | have h := (h.f8 : Own _ _ (Hp.blk gz NT _ :: _)) | have h := (h.f9 : Own _ _ (Hp.blk gz NT _ :: _)) | have h := (h.f10 : Own _ _ (Hp.blk gz NT _ :: _)) | have h := (h.f11 : Own _ _ (Hp.blk gz NT _ :: _)) | have h := (h.f12 : Own _ _ (Hp.blk gz NT _ :: _)) | have h := (h.f13 : Own _ _ (Hp.blk gz NT _ :: _)) | have h := (h.f14 : Own _ _ (Hp.blk gz NT _ :: _)) | have h := (h.f15 : Own _ _ (Hp.blk gz NT _ :: _))
        have e3 := h.cell 3
        have g3 := h.frozen 3
        have h := h.set 3 (.slice Ab n.ls.length cb)
        have H := Lib.hid h
        clear h
        go_wp2_with (with_reducible refine at_slot (k := some 104) ?_; refine wpList_append_run (o := ⟨some 104, _, _, _, _, _⟩) hap rfl rfl rfl rfl ?_; clear hap)
        have h : Own E _ (Hp.blk gz NT #[.bool false, .slice A7 (n.ks.length + 1) c7, .slice none 0 0, .slice Ab n.ls.length cb] :: _) := H.out
        generalize World.setCell _ _ _ = we at h ⊢
        clear e3 g3 hcl hc3 H
        obtain ⟨nl, hnl⟩ : ∃ x, x = n.ls.length := ⟨_, rfl⟩
        have hnk : ∀ q, newKid n q = 2 + 1000 * (nl : Int) + (q : Int) := fun q => by rw [hnl]; rfl
        have HNK := Lib.hid hnk
        clear hnk
        rw [← hnl] at h HC l3
        have HNL := Lib.hid hnl
        clear hnl
        obtain ⟨n1, hn1⟩ : ∃ x : Nat, x = 1000 * nl := ⟨_, rfl⟩
        obtain ⟨n2, hn2⟩ : ∃ x : Nat, x = 2 + n1 := ⟨_, rfl⟩
        have j5 : IntKind.i64.wrap (1000 * (nl : Int)) = (n1 : Int) := by rw [IntWalk.i64_in _ (by omega)]; omega
        have j6 : IntKind.i64.wrap (2 + (n1 : Int)) = (n2 : Int) := by rw [IntWalk.i64_in _ (by omega)]; omega
        have hn3 : n2 = 2 + 1000 * nl := by omega
        have HN := Lib.hid hn3
        have hn4 : n2 ≤ 10000000000 := by omega
        clear hn1 hn2 hn3
        have h := h.drew
        refine wp_region_text [1, 3, 8] (fun w' => w'.cell? ⟨gz, 3, none⟩ = some (.slice Ab nl cb) ∧ w'.cell? ⟨g, 3, none⟩ = some (.slice v.a3 nl v.c3) ∧ w'.cell? ⟨g + 1, 2, none⟩ = some (.int .i64 kid)) (by kernel_rfl) ?_ (fun hS => ?_)
        · exact ⟨HZ4.out _ (.bool false) (.slice A7 (n.ks.length + 1) c7) (.slice none 0 0) (.slice Ab nl cb) h.has, (HC.out _ h.has h.has).2.2.2.1, (HC.out _ h.has h.has).2.2.2.2.2.2⟩
        refine wpAnyG_pure (i := 0) (oi := ⟨some 106, _, _, _, _, _⟩) (v := ?_) rfl (by kernel_rfl) (by kernel_rfl) (by kernel_rfl) (by rfl) (fun _ _ _ h => h) (by rfl) ?_ ?_
        rotate_left
        · intro w
          go_simp
          first | done | with_reducible rfl
        try simp only [Act.put, List.setIfInBounds_toArray, List.set_cons_zero, List.set_cons_succ]
        refine wpAnyG_load (i := 1) (oi := ⟨some 107, _, _, _, _, _⟩) (v := ?_) rfl (by kernel_rfl) (by kernel_rfl) (by kernel_rfl) (by rfl) (fun _ _ _ h => h) (by rfl) ?_ (by assumption) ?_
        rotate_left
        · intro w hS
          try dsimp only at hS
          go_simp
          first | done | with_reducible rfl
        try simp only [Act.put, List.setIfInBounds_toArray, List.set_cons_zero, List.set_cons_succ]
        refine wpAnyG_pure (i := 2) (oi := ⟨some 108, _, _, _, _, _⟩) (v := ?_) rfl (by kernel_rfl) (by kernel_rfl) (by kernel_rfl) (by rfl) (fun _ _ _ h => h) (by rfl) ?_ ?_
        rotate_left
        · intro w
          go_simp
          first | done | with_reducible rfl
        try simp only [Act.put, List.setIfInBounds_toArray, List.set_cons_zero, List.set_cons_succ]
        refine wpAnyG_load (i := 3) (oi := ⟨some 109, _, _, _, _, _⟩) (v := ?_) rfl (by kernel_rfl) (by kernel_rfl) (by kernel_rfl) (by rfl) (fun _ _ _ h => h) (by rfl) ?_ (by assumption) ?_
        rotate_left
        · intro w hS
          try dsimp only at hS
          go_simp
          first | done | with_reducible rfl
        try simp only [Act.put, List.setIfInBounds_toArray, List.set_cons_zero, List.set_cons_succ]
        refine wpAnyG_pure (i := 4) (oi := ⟨some 110, _, _, _, _, _⟩) (v := ?_) rfl (by kernel_rfl) (by kernel_rfl) (by kernel_rfl) (by rfl) (fun _ _ _ h => h) (by rfl) ?_ ?_
        rotate_left
        · intro w
          go_simp
          first | done | with_reducible rfl
        try simp only [Act.put, List.setIfInBounds_toArray, List.set_cons_zero, List.set_cons_succ]
        refine wpAnyG_pure (i := 5) (oi := ⟨some 111, _, _, _, _, _⟩) (v := ?_) rfl (by kernel_rfl) (by kernel_rfl) (by kernel_rfl) (by rfl) (fun _ _ _ h => h) (by rfl) ?_ ?_
        rotate_left
        · intro w
          go_simp
          first | done | with_reducible rfl
        try simp only [Act.put, List.setIfInBounds_toArray, List.set_cons_zero, List.set_cons_succ]
        refine wpAnyG_pure (i := 6) (oi := ⟨some 112, _, _, _, _, _⟩) (v := ?_) rfl (by kernel_rfl) (by kernel_rfl) (by kernel_rfl) (by rfl) (fun _ _ _ h => h) (by rfl) ?_ ?_
        rotate_left
        · intro w
          go_simp
          first | done | with_reducible rfl
        try simp only [Act.put, List.setIfInBounds_toArray, List.set_cons_zero, List.set_cons_succ]
        refine wpAnyG_pure (i := 7) (oi := ⟨some 113, _, _, _, _, _⟩) (v := ?_) rfl (by kernel_rfl) (by kernel_rfl) (by kernel_rfl) (by rfl) (fun _ _ _ h => h) (by rfl) ?_ ?_
        rotate_left
        · intro w
          go_simp
          first | done | with_reducible rfl
        try simp only [Act.put, List.setIfInBounds_toArray, List.set_cons_zero, List.set_cons_succ]
        refine wpAnyG_load (i := 8) (oi := ⟨some 114, _, _, _, _, _⟩) (v := ?_) rfl (by kernel_rfl) (by kernel_rfl) (by kernel_rfl) (by rfl) (fun _ _ _ h => h) (by rfl) ?_ (by assumption) ?_
        rotate_left
        · intro w hS
          try dsimp only at hS
          go_simp
          first | done | with_reducible rfl
        try simp only [Act.put, List.setIfInBounds_toArray, List.set_cons_zero, List.set_cons_succ]
        refine wpAnyG_keep (i := 9) (oi := ⟨some 115, _, _, _, _, _⟩) (by kernel_rfl) rfl (fun K hK => ?_)
        rw [if_pos (by rfl)]
        go_simp
        refine (KK.out _).mono ?_
        rintro e wz ⟨q, hq, rfl, rfl⟩
        obtain ⟨nk, hnk⟩ : ∃ x : Int, x = newKid n q := ⟨_, rfl⟩
        have j7 : IntKind.i64.wrap ((n2 : Int) + (q : Int)) = nk := by rw [IntWalk.i64_in _ (by omega), hnk, HNK.out, HN.out]; omega
        have HK2 := Lib.hid hnk
        clear hnk
        first | have h := (h : Own _ _ (Hp.ints (.slice Ab nl cb) n.ls :: _)) | have h := (h.f1 : Own _ _ (Hp.ints (.slice Ab nl cb) n.ls :: _)) | have h := (h.f2 : Own _ _ (Hp.ints (.slice Ab nl cb) n.ls :: _)) | have h := (h.f3 : Own _ _ (Hp.ints (.slice Ab nl cb) n.ls :: _)) | have h := (h.f4 : Own _ _ (Hp.ints (.slice Ab nl cb) n.ls :: _)) | have h := (h.f5 : Own _ _ (Hp.ints (.slice Ab nl cb) n.ls :: _)) | have h := (h.f6 : Own _ _ (Hp.ints (.slice Ab nl cb) n.ls :: _)) | have h := (h.f7 : Own _ _ (Hp.ints (.slice Ab nl cb) n.ls :: _)) | have h := (h.f8 : Own _ _ (Hp.ints (.slice Ab nl cb) n.ls :: _)) | have h := (h.f9 : Own _ _ (Hp.ints (.slice Ab nl cb) n.ls :: _)) | have h := (h.f10 : Own _ _ (Hp.ints (.slice Ab nl cb) n.ls :: _)) | have h := (h.f11 : Own _ _ (Hp.ints (.slice Ab nl cb) n.ls :: _)) | have h := (h.f12 : Own _ _ (Hp.ints (.slice Ab nl cb) n.ls :: _)) | have h := (h.f13 : Own _ _ (Hp.ints (.slice Ab nl cb) n.ls :: _)) | have h := (h.f14 : Own _ _ (Hp.ints (.slice Ab nl cb) n.ls :: _)) | have h := (h.f15 : Own _ _ (Hp.ints (.slice Ab nl cb) n.ls :: _))
        have hal := h.alloc (.cells #[.int .i64 nk] IT)
        have H5 := Lib.hid hal
        obtain ⟨v6, wb, hap, h⟩ := lst_append_new (P := Tryd.prog) (t := LIT) (ty := LIT) lit_u it_info (by rfl) h #[.int .i64 nk] 1 rfl (VI_one [nk]) (by unfold maxLen; rw [List.length_map, ← HNL.out]; omega) (by rw [List.length_map, ← HNL.out]; omega)
        clear hal
        have e9 : n.ls.map VI ++ (#[Value.int .i64 nk] : Array Value).toList = (n.ls ++ [nk]).map VI := by simp
        rw [e9] at h
        obtain ⟨Ac, cc, rfl, -⟩ := h.lstSlice
        have e8 : ((n.ls ++ [nk]).map VI).length = nl + 1 := by rw [List.length_map, List.length_append, HNL.out]; rfl
        rw [e8] at h hap
        try rw [List.length_map, ← HNL.out] at hap
        have H := Lib.hid h
        clear h e8 e9
        refine hK.out _ _ ?_ (fun hS => ?_)
        · exact ⟨HZ4.out _ (.bool false) (.slice A7 (n.ks.length + 1) c7) (.slice none 0 0) (.slice Ab nl cb) h.has, (HC.out _ h.has h.has).2.2.2.1, (HC.out _ h.has h.has).2.2.2.2.2.2⟩
        clear hK K
        try simp only [Act.put, List.setIfInBounds_toArray, List.set_cons_zero, List.set_cons_succ]
        refine wpAnyG_pure (i := 10) (oi := ⟨some 116, _, _, _, _, _⟩) (v := ?_) rfl (by kernel_rfl) (by kernel_rfl) (by kernel_rfl) (by rfl) (fun _ _ _ h => h) (by rfl) ?_ ?_
        rotate_left
        · intro w
          go_simp
          first | done | with_reducible rfl
        try simp only [Act.put, List.setIfInBounds_toArray, List.set_cons_zero, List.set_cons_succ]
        refine wpAnyG_keep (i := 11) (oi := ⟨some 117, _, _, _, _, _⟩) (by kernel_rfl) rfl (fun K hK => ?_)
        rw [if_pos (by rfl)]
        go_simp
        refine hK.out _ _ ?_ (fun hS => ?_)
        · exact ⟨HZ4.out _ (.bool false) (.slice A7 (n.ks.length + 1) c7) (.slice none 0 0) (.slice Ab nl cb) H5.out.has, (HC.out _ H5.out.has H5.out.has).2.2.2.1, (HC.out _ H5.out.has H5.out.has).2.2.2.2.2.2⟩
        clear hK K
        try simp only [Act.put, List.setIfInBounds_toArray, List.set_cons_zero, List.set_cons_succ]
        refine wpAnyG_keep (i := 12) (oi := ⟨some 118, _, _, _, _, _⟩) (by kernel_rfl) rfl (fun K hK => ?_)
        rw [if_pos (by rfl)]
        refine wp_append_run hap rfl rfl rfl ?_
        refine hK.out _ _ ?_ (fun hS => ?_)
        · exact ⟨HZ4.out _ (.bool false) (.slice A7 (n.ks.length + 1) c7) (.slice none 0 0) (.slice Ab nl cb) H.out.has, (HC.out _ H.out.has H.out.has).2.2.2.1, (HC.out _ H.out.has H.out.has).2.2.2.2.2.2⟩
        clear hK K
        try simp only [Act.put, List.setIfInBounds_toArray, List.set_cons_zero, List.set_cons_succ]
        refine wpAnyG_pure (i := 13) (oi := ⟨some 119, _, _, _, _, _⟩) (v := ?_) rfl (by kernel_rfl) (by kernel_rfl) (by kernel_rfl) (by rfl) (fun _ _ _ h => h) (by rfl) ?_ ?_
        rotate_left
        · intro w
          go_simp
          first | done | with_reducible rfl
        try simp only [Act.put, List.setIfInBounds_toArray, List.set_cons_zero, List.set_cons_succ]
        refine wpAnyG_break (i := 14) (oi := ⟨none, _, _, _, _, _⟩) (by kernel_rfl) rfl (by kernel_rfl) (fun K hK => ?_)
        rw [if_pos (by rfl)]
        have h := H.out
        clear H
        first | have h := (h : Own _ _ (Hp.blk gz NT _ :: _)) | have h := (h.f1 : Own _ _ (Hp.blk gz NT _ :: _)) | have h := (h.f2 : Own _ _ (Hp.blk gz NT _ :: _)) | have h := (h.f3 : Own _ _ (Hp.blk gz NT _ :: _)) | have h := (h.f4 : Own _ _ (Hp.blk gz NT _ :: _)) | have h := (h.f5 : Own _ _ (Hp.blk gz NT _ :: _)) | have h := (h.f6 : Own _ _ (Hp.blk gz NT _ :: _)) | have h := (h.f7 : Own _ _ (Hp.blk gz NT _ :: _)) | have h := (h.f8 : Own _ _ (Hp.blk gz NT _ :: _)) | have h := (h.f9 : Own _ _ (Hp.blk gz NT _ :: _)) | have h := (h.f10 : Own _ _ (Hp.blk gz NT _ :: _)) | have h := (h.f11 : Own _ _ (Hp.blk gz NT _ :: _)) | have h := (h.f12 : Own _ _ (Hp.blk gz NT _ :: _)) | have h := (h.f13 : Own _ _ (Hp.blk gz NT _ :: _)) | have h := (h.f14 : Own _ _ (Hp.blk gz NT _ :: _)) | have h := (h.f15 : Own _ _ (Hp.blk gz NT _ :: _))
        have f5 := h.cell 3
        have f6 := h.frozen 3
        have h := h.set 3 (.slice Ac (nl + 1) cc)
        go_simp
        refine hK.out _ _ ?_
        clear hK K
        try simp only [Act.put]
        refine wpAnyG_done (by kernel_rfl) ?_ _
        refine NoPanic.normal ?_
        have h : Own E _ (Hp.blk gz NT #[.bool false, .slice A7 (n.ks.length + 1) c7, .slice none 0 0, .slice Ac (nl + 1) cc] :: _) := h
        generalize World.setCell _ _ _ = wf at h ⊢
        clear f5 f6
        first | have h := (h : Own _ _ (Hp.blk gz NT _ :: _)) | have h := (h.f1 : Own _ _ (Hp.blk gz NT _ :: _)) | have h := (h.f2 : Own _ _ (Hp.blk gz NT _ :: _)) | have h := (h.f3 : Own _ _ (Hp.blk gz NT _ :: _)) | have h := (h.f4 : Own _ _ (Hp.blk gz NT _ :: _)) | have h := (h.f5 : Own _ _ (Hp.blk gz NT _ :: _)) | have h := (h.f6 : Own _ _ (Hp.blk gz NT _ :: _)) | have h := (h.f7 : Own _ _ (Hp.blk gz NT _ :: _)) | have h := (h.f8 : Own _ _ (Hp.blk gz NT _ :: _)) | have h := (h.f9 : Own _ _ (Hp.blk gz NT _ :: _)) | have h := (h.f10 : Own _ _ (Hp.blk gz NT _ :: _)) | have h := (h.f11 : Own _ _ (Hp.blk gz NT _ :: _)) | have h := (h.f12 : Own _ _ (Hp.blk gz NT _ :: _)) | have h := (h.f13 : Own _ _ (Hp.blk gz NT _ :: _)) | have h := (h.f14 : Own _ _ (Hp.blk gz NT _ :: _)) | have h := (h.f15 : Own _ _ (Hp.blk gz NT _ :: _))
        have d0 := h.cell 0
        have d1 := h.cell 1
        have d2 := h.cell 2
        have d3 := h.cell 3
        first | have h := (h : Own _ _ (Hp.blk (g + 2) NT _ :: _)) | have h := (h.f1 : Own _ _ (Hp.blk (g + 2) NT _ :: _)) | have h := (h.f2 : Own _ _ (Hp.blk (g + 2) NT _ :: _)) | have h := (h.f3 : Own _ _ (Hp.blk (g + 2) NT _ :: _)) | have h := (h.f4 : Own _ _ (Hp.blk (g + 2) NT _ :: _)) | have h := (h.f5 : Own _ _ (Hp.blk (g + 2) NT _ :: _)) | have h := (h.f6 : Own _ _ (Hp.blk (g + 2) NT _ :: _)) | have h := (h.f7 : Own _ _ (Hp.blk (g + 2) NT _ :: _)) | have h := (h.f8 : Own _ _ (Hp.blk (g + 2) NT _ :: _)) | have h := (h.f9 : Own _ _ (Hp.blk (g + 2) NT _ :: _)) | have h := (h.f10 : Own _ _ (Hp.blk (g + 2) NT _ :: _)) | have h := (h.f11 : Own _ _ (Hp.blk (g + 2) NT _ :: _)) | have h := (h.f12 : Own _ _ (Hp.blk (g + 2) NT _ :: _)) | have h := (h.f13 : Own _ _ (Hp.blk (g + 2) NT _ :: _)) | have h := (h.f14 : Own _ _ (Hp.blk (g + 2) NT _ :: _)) | have h := (h.f15 : Own _ _ (Hp.blk (g + 2) NT _ :: _))
        have HH := Lib.hid h
        clear h
        obtain ⟨nt, hnt, hnr⟩ := nt_u
        go_wp2_with (with_reducible refine at_slot (k := none) ?_; refine wpList_store_whole (o := ⟨none, _, _, _, _, _⟩) (cs := [.bool false, .slice none 0 0, .slice none 0 0, .slice none 0 0]) (vs := [.bool false, .slice A7 (n.ks.length + 1) c7, .slice none 0 0, .slice Ac (nl + 1) cc]) HH.out rfl (ND_all1 _ _ _ _ rfl rfl rfl) (by kernel_rfl) rfl rfl rfl rfl ?_; intro w7 h)
        refine bodyPost_ret (results_arr rfl rfl h hnt hnr (by kernel_rfl)) rfl ?_
        have h := h.drop
        first | have h := (h : Own _ _ (Hp.blk (g + 1) CLT _ :: _)) | have h := (h.f1 : Own _ _ (Hp.blk (g + 1) CLT _ :: _)) | have h := (h.f2 : Own _ _ (Hp.blk (g + 1) CLT _ :: _)) | have h := (h.f3 : Own _ _ (Hp.blk (g + 1) CLT _ :: _)) | have h := (h.f4 : Own _ _ (Hp.blk (g + 1) CLT _ :: _)) | have h := (h.f5 : Own _ _ (Hp.blk (g + 1) CLT _ :: _)) | have h := (h.f6 : Own _ _ (Hp.blk (g + 1) CLT _ :: _)) | have h := (h.f7 : Own _ _ (Hp.blk (g + 1) CLT _ :: _)) | have h := (h.f8 : Own _ _ (Hp.blk (g + 1) CLT _ :: _)) | have h := (h.f9 : Own _ _ (Hp.blk (g + 1) CLT _ :: _)) | have h := (h.f10 : Own _ _ (Hp.blk (g + 1) CLT _ :: _)) | have h := (h.f11 : Own _ _ (Hp.blk (g + 1) CLT _ :: _)) | have h := (h.f12 : Own _ _ (Hp.blk (g + 1) CLT _ :: _)) | have h := (h.f13 : Own _ _ (Hp.blk (g + 1) CLT _ :: _)) | have h := (h.f14 : Own _ _ (Hp.blk (g + 1) CLT _ :: _)) | have h := (h.f15 : Own _ _ (Hp.blk (g + 1) CLT _ :: _))
        have h := h.drop
        first | have h := (h : Own _ _ (Hp.blk g NT _ :: _)) | have h := (h.f1 : Own _ _ (Hp.blk g NT _ :: _)) | have h := (h.f2 : Own _ _ (Hp.blk g NT _ :: _)) | have h := (h.f3 : Own _ _ (Hp.blk g NT _ :: _)) | have h := (h.f4 : Own _ _ (Hp.blk g NT _ :: _)) | have h := (h.f5 : Own _ _ (Hp.blk g NT _ :: _)) | have h := (h.f6 : Own _ _ (Hp.blk g NT _ :: _)) | have h := (h.f7 : Own _ _ (Hp.blk g NT _ :: _)) | have h := (h.f8 : Own _ _ (Hp.blk g NT _ :: _)) | have h := (h.f9 : Own _ _ (Hp.blk g NT _ :: _)) | have h := (h.f10 : Own _ _ (Hp.blk g NT _ :: _)) | have h := (h.f11 : Own _ _ (Hp.blk g NT _ :: _)) | have h := (h.f12 : Own _ _ (Hp.blk g NT _ :: _)) | have h := (h.f13 : Own _ _ (Hp.blk g NT _ :: _)) | have h := (h.f14 : Own _ _ (Hp.blk g NT _ :: _)) | have h := (h.f15 : Own _ _ (Hp.blk g NT _ :: _))
        have h := h.drop
        first | have h := (h : Own _ _ (Hp.blk gz NT _ :: _)) | have h := (h.f1 : Own _ _ (Hp.blk gz NT _ :: _)) | have h := (h.f2 : Own _ _ (Hp.blk gz NT _ :: _)) | have h := (h.f3 : Own _ _ (Hp.blk gz NT _ :: _)) | have h := (h.f4 : Own _ _ (Hp.blk gz NT _ :: _)) | have h := (h.f5 : Own _ _ (Hp.blk gz NT _ :: _)) | have h := (h.f6 : Own _ _ (Hp.blk gz NT _ :: _)) | have h := (h.f7 : Own _ _ (Hp.blk gz NT _ :: _)) | have h := (h.f8 : Own _ _ (Hp.blk gz NT _ :: _)) | have h := (h.f9 : Own _ _ (Hp.blk gz NT _ :: _)) | have h := (h.f10 : Own _ _ (Hp.blk gz NT _ :: _)) | have h := (h.f11 : Own _ _ (Hp.blk gz NT _ :: _)) | have h := (h.f12 : Own _ _ (Hp.blk gz NT _ :: _)) | have h := (h.f13 : Own _ _ (Hp.blk gz NT _ :: _)) | have h := (h.f14 : Own _ _ (Hp.blk gz NT _ :: _)) | have h := (h.f15 : Own _ _ (Hp.blk gz NT _ :: _))
        have h := h.drop
        first | have h := (h : Own _ _ (Hp.ints (.slice Ac (nl + 1) cc) (n.ls ++ [nk]) :: _)) | have h := (h.f1 : Own _ _ (Hp.ints (.slice Ac (nl + 1) cc) (n.ls ++ [nk]) :: _)) | have h := (h.f2 : Own _ _ (Hp.ints (.slice Ac (nl + 1) cc) (n.ls ++ [nk]) :: _)) | have h := (h.f3 : Own _ _ (Hp.ints (.slice Ac (nl + 1) cc) (n.ls ++ [nk]) :: _)) | have h := (h.f4 : Own _ _ (Hp.ints (.slice Ac (nl + 1) cc) (n.ls ++ [nk]) :: _)) | have h := (h.f5 : Own _ _ (Hp.ints (.slice Ac (nl + 1) cc) (n.ls ++ [nk]) :: _)) | have h := (h.f6 : Own _ _ (Hp.ints (.slice Ac (nl + 1) cc) (n.ls ++ [nk]) :: _)) | have h := (h.f7 : Own _ _ (Hp.ints (.slice Ac (nl + 1) cc) (n.ls ++ [nk]) :: _)) | have h := (h.f8 : Own _ _ (Hp.ints (.slice Ac (nl + 1) cc) (n.ls ++ [nk]) :: _)) | have h := (h.f9 : Own _ _ (Hp.ints (.slice Ac (nl + 1) cc) (n.ls ++ [nk]) :: _)) | have h := (h.f10 : Own _ _ (Hp.ints (.slice Ac (nl + 1) cc) (n.ls ++ [nk]) :: _)) | have h := (h.f11 : Own _ _ (Hp.ints (.slice Ac (nl + 1) cc) (n.ls ++ [nk]) :: _)) | have h := (h.f12 : Own _ _ (Hp.ints (.slice Ac (nl + 1) cc) (n.ls ++ [nk]) :: _)) | have h := (h.f13 : Own _ _ (Hp.ints (.slice Ac (nl + 1) cc) (n.ls ++ [nk]) :: _)) | have h := (h.f14 : Own _ _ (Hp.ints (.slice Ac (nl + 1) cc) (n.ls ++ [nk]) :: _)) | have h := (h.f15 : Own _ _ (Hp.ints (.slice Ac (nl + 1) cc) (n.ls ++ [nk]) :: _))
        have h := h.emptyLst ST none
        first | have h := (h : Own _ _ (Hp.strs (.slice A7 (n.ks.length + 1) c7) (insAt n.ks i key) :: _)) | have h := (h.f1 : Own _ _ (Hp.strs (.slice A7 (n.ks.length + 1) c7) (insAt n.ks i key) :: _)) | have h := (h.f2 : Own _ _ (Hp.strs (.slice A7 (n.ks.length + 1) c7) (insAt n.ks i key) :: _)) | have h := (h.f3 : Own _ _ (Hp.strs (.slice A7 (n.ks.length + 1) c7) (insAt n.ks i key) :: _)) | have h := (h.f4 : Own _ _ (Hp.strs (.slice A7 (n.ks.length + 1) c7) (insAt n.ks i key) :: _)) | have h := (h.f5 : Own _ _ (Hp.strs (.slice A7 (n.ks.length + 1) c7) (insAt n.ks i key) :: _)) | have h := (h.f6 : Own _ _ (Hp.strs (.slice A7 (n.ks.length + 1) c7) (insAt n.ks i key) :: _)) | have h := (h.f7 : Own _ _ (Hp.strs (.slice A7 (n.ks.length + 1) c7) (insAt n.ks i key) :: _)) | have h := (h.f8 : Own _ _ (Hp.strs (.slice A7 (n.ks.length + 1) c7) (insAt n.ks i key) :: _)) | have h := (h.f9 : Own _ _ (Hp.strs (.slice A7 (n.ks.length + 1) c7) (insAt n.ks i key) :: _)) | have h := (h.f10 : Own _ _ (Hp.strs (.slice A7 (n.ks.length + 1) c7) (insAt n.ks i key) :: _)) | have h := (h.f11 : Own _ _ (Hp.strs (.slice A7 (n.ks.length + 1) c7) (insAt n.ks i key) :: _)) | have h := (h.f12 : Own _ _ (Hp.strs (.slice A7 (n.ks.length + 1) c7) (insAt n.ks i key) :: _)) | have h := (h.f13 : Own _ _ (Hp.strs (.slice A7 (n.ks.length + 1) c7) (insAt n.ks i key) :: _)) | have h := (h.f14 : Own _ _ (Hp.strs (.slice A7 (n.ks.length + 1) c7) (insAt n.ks i key) :: _)) | have h := (h.f15 : Own _ _ (Hp.strs (.slice A7 (n.ks.length + 1) c7) (insAt n.ks i key) :: _))
        have h := Own.toNode (n := ⟨false, insAt n.ks i key, [], n.ls ++ [nk]⟩) h
        have hpt : n.put1 ⟨vk, vv, kid⟩ q = ⟨false, insAt n.ks i key, [], n.ls ++ [nk]⟩ := by rw [HP.out, hlf, HK2.out]; rfl
        refine ⟨q, by omega, _, rfl, .inr ?_⟩
        rw [HWC.out, hpt]
        exact h
end
end Go.Proofs.YtbclmmneiphcaaaDoor
