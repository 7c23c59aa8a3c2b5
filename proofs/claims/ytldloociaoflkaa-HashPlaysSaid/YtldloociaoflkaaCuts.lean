/- HashCuts. -/
import Derived.Test.YtldloociaoflkaaKeys
namespace Go.Proofs.Ytldloociaoflkaa
open Go.RowKit
abbrev SLT : TypeId := 22
theorem str_info : (Try.prog.info? ST).map (fun i => (i.zero, i.size, i.bytes)) = some (some (.string .empty), 1, 16) := by kernel_rfl
theorem strs_one (xs : List ByteArray) : ∀ v ∈ xs.map Value.string, v.oneCell' = true := by
  intro v hv
  obtain ⟨z, _, rfl⟩ := List.mem_map.1 hv
  rfl
theorem add_str {E wr : World} {M : List Hp} {v : Value} {n : Nat} {l : List ByteArray} (x : ByteArray) (hn : n + 1 ≤ 8000000000000) (h : Own E wr (Hp.row ST 1 v n (l.map Value.string) :: M)) :
    ∃ v' w', (Builtin.append_ #[SLT, SLT] SLT #[v, .slice (some ⟨wr.heap.size, 0, none⟩) 1 1]).run Try.prog (wr.alloc (.cells #[.string x] ST)) = .ok v' w' ∧ Own E w' (Hp.row ST 1 v' (n + 1) ((l ++ [x]).map Value.string) :: M) := by
  obtain ⟨v', w', h1, h2, _⟩ := sl_append_new (P := Try.prog) (ty := SLT) (t := SLT) (by kernel_rfl) str_info rfl (by omega) h #[.string x] 1 rfl (by intro u hu; rw [List.mem_singleton.1 hu]; rfl) (by unfold maxLen; omega) (by omega)
  exact ⟨v', w', h1, by simpa using h2⟩
/-- A row of texts, read. -/
theorem Own.rowStrs {E w : World} {L : List Hp} {v : Value} {n : Nat} {l : List ByteArray} (h : Own E w (Hp.row ST 1 v n (l.map Value.string) :: L)) :
    ∃ (A : Option Addr) (c : Nat) (S : Ph), v = .slice A n c ∧ Rds S 1 enStr A n l ∧ Own E w (Hp.ro S :: L) := by
  obtain ⟨hl, hf⟩ := h.rowForm
  have hln : l.length = n := by simpa using hl
  rcases hf with ⟨rfl, rfl, h0, ho⟩ | ⟨g, cap, cur, rfl, h3, h4, h5, h6, ho⟩
  · have : l = [] := by simpa using h0
    subst this
    exact ⟨none, 0, Ph.emp, rfl, ⟨rfl, fun _ => rfl, fun _ hk => by cases hk⟩, Own.emp.2 ho⟩
  · obtain ⟨fr, _, ho2⟩ := ho.ofMk
    refine ⟨some ⟨g, 0, none⟩, cap, Ph.one g (.cells cur ST fr), rfl, ⟨hln, fun _ => rfl, fun k hk => ⟨g, 0, rfl, fun j u hu => ?_⟩⟩, ho2⟩
    obtain rfl : j = 0 := by
      have := (List.getElem?_eq_some_iff.1 hu).1
      simp at this; omega
    have hu' : u = .string l[k] := by simpa using hu.symm
    subst hu'
    have h7 : cur.toList[k]? = some (.string l[k]) := by
      have h8 : (cur.toList.take (n * 1))[k]? = some (.string l[k]) := by rw [h6]; simp [hk]
      rw [List.getElem?_take, if_pos (by omega)] at h8
      exact h8
    simp [Ph.cell, Ph.one]
    simpa using h7

theorem joined_snoc' (P : List ByteArray) (x : ByteArray) : joined (P ++ [x]) = joined P ++ x.data.toList := by
  unfold joined
  rw [List.flatMap_append]
  simp
set_option maxHeartbeats 4000000 in
theorem cuts_any {E : World} {S : Ph} {L : List Hp} (text : ByteArray) (A : Option Addr) (n c : Nat) (zs : List Int) (key : ByteArray) (w : World) (hn : n ≤ 1048576) (hr : Rds S 1 en64 A n zs) (hz : ∀ z ∈ zs, -9223372036854775808 ≤ z ∧ z ≤ 9223372036854775807)
    (ht : text.size ≤ 1048576) (hk : key.size ≤ 1048576) (h : Own E w (Hp.ro S :: L)) :
    Calls Try.prog 7 #[.string text, .slice A n c, .string key] w fun e w' => e = .returned (.bool true) ∧ Own E w' (Hp.ro S :: L) := by
  have htl : text.data.toList.length = text.size := rfl
  have HT := Lib.hid htl
  clear htl
  go_enter Try.func7, Try.ntmps7
  go_wp2_with fail
  refine (known_any _ h).mono ?_
  rintro e w1 ⟨rfl, h1⟩
  go_wp2_with fail
  refine (new_any _ h1).mono ?_
  rintro e w2 ⟨b, rfl, h2⟩
  clear h h1
  go_wp2_with fail
  have h3 := Lib.hid (h2.nilRow ST 1)
  clear h2
  go_loopw [9, 10, 11] (fun v s i wr => ∃ (k : Nat) (P : List ByteArray) (r : ByteArray), k ≤ n ∧ i = .int .i64 k ∧ s = .string r ∧ joined P ++ r.data.toList = text.data.toList ∧ Own E wr (Hp.row ST 1 v k (P.map Value.string) :: Hp.hasher b (joined P) :: Hp.ro S :: L)) (fun _ _ i _ => n - (intOf i).toNat)
  case atStart => exact ⟨0, [], text, by omega, rfl, rfl, rfl, h3.out⟩
  case round =>
    obtain ⟨k, P, r, hkn, rfl, rfl, hj, hw⟩ := hrel
    clear h3
    have hjl := congrArg List.length hj
    rw [List.length_append, HT.out] at hjl
    have hrl : r.data.toList.length = r.size := rfl
    rw [hrl] at hjl
    have hr1 : r.size ≤ 1048576 := by omega
    have hr2 : (joined P).length ≤ 1048576 := by omega
    have HJ := Lib.hid hj
    clear hj hjl hrl
    by_cases hlt : k < n
    · obtain ⟨z, g, off, hx, rfl, hc⟩ := hr.get1 hlt
      have c1 := hw.f2.rd (hc _ rfl)
      have hzb := hz z (List.mem_of_getElem? hx)
      have HZ := Lib.hid hzb
      have HW := Lib.hid hw
      clear hw hc hx hr hzb hz
      have hr3 : (0 : Int) < (r.size : Int) + 1 := by omega
      go_wp2_with fail
      refine (pick_any z _ _ HZ.out hr3 (by omega)).mono ?_
      rintro e w4 ⟨m, hm, rfl, rfl⟩
      have hmr : m ≤ r.size := by omega
      have hmi : (m : Int) ≤ r.size := by omega
      obtain ⟨x, hx⟩ : ∃ x : ByteArray, x = r.extract 0 m := ⟨_, rfl⟩
      obtain ⟨y, hy⟩ : ∃ y : ByteArray, y = r.extract m r.size := ⟨_, rfl⟩
      have hxd : x.data.toList = r.data.toList.take m := by rw [hx, Lib.extract_data]; simp
      have hyd : y.data.toList = r.data.toList.drop m := by
        rw [hy, Lib.extract_data, List.take_of_length_le (by
          have : r.data.toList.length = r.size := rfl
          simp [this])]
      have hxs : x.size ≤ 1048576 := by rw [hx, ByteArray.size_extract]; omega
      have hj2 : joined (P ++ [x]) ++ y.data.toList = text.data.toList := by
        rw [joined_snoc', hxd, hyd, List.append_assoc, List.take_append_drop]; exact HJ.out
      obtain ⟨v', w5, hap, h5⟩ := add_str x (by omega) HW.out
      have H5 := Lib.hid h5
      have HJ2 := Lib.hid hj2
      have HJs := Lib.hid (joined_snoc' P x)
      have HX := Lib.hid hx
      have HY := Lib.hid hy
      clear HW h5 hj2 hxd hyd hx hy
      rw [HX.out] at hap
      go_wp2_with (refine wpList_append_run (o := ⟨some 42, _, _, _, _, _⟩) hap rfl rfl rfl rfl ?_; clear hap)
      rw [← HX.out]
      have hwl : (joined P).length + x.size ≤ 9223372036854775807 := by omega
      refine (write_any b _ x _ hwl H5.out.f1).mono ?_
      rintro e w6 ⟨rfl, h6⟩
      rw [← HJs.out] at h6
      have H6 := Lib.hid h6.f1
      clear h6 H5 hwl
      go_wp2_with fail
      go_roundw
      case rel => exact ⟨k + 1, P ++ [x], y, by omega, by go_num, by rw [HY.out], HJ2.out, H6.out⟩
      case measure => simp [intOf]; omega
    · obtain rfl : k = n := by omega
      clear hr hz hlt
      obtain ⟨v', w5, hap, h5⟩ := add_str r (by omega) hw
      have hj2 : joined (P ++ [r]) = text.data.toList := by rw [joined_snoc']; exact HJ.out
      have H5 := Lib.hid h5
      have HJ2 := Lib.hid hj2
      clear hw h5 hj2
      go_wp2_with (refine wpList_append_run (o := ⟨some 54, _, _, _, _, _⟩) hap rfl rfl rfl rfl ?_; clear hap)
      have hwl : (joined P).length + r.size ≤ 9223372036854775807 := by omega
      refine (write_any b _ r _ hwl H5.out.f1).mono ?_
      rintro e w6 ⟨rfl, h6⟩
      rw [HJ.out] at h6
      obtain ⟨A', c', S', hv', hr', h7⟩ := Own.rowStrs h6.f1
      subst hv'
      have hjt : (joined [text]).length ≤ 1152921504606846975 := by rw [joined_one, HT.out]; omega
      have HJt := Lib.hid hjt
      have H7 := Lib.hid (h7.alloc (.cells #[.string text] ST))
      obtain ⟨D, hD⟩ : ∃ D : ByteArray, D = ⟨(Sha.sum text.data.toList).toArray⟩ := ⟨_, rfl⟩
      have hDs : D.size = 32 := by rw [hD]; rfl
      have HD := Lib.hid hD
      obtain ⟨M, hM⟩ : ∃ D : ByteArray, D = ⟨(Sha.mac key.data.toList text.data.toList).toArray⟩ := ⟨_, rfl⟩
      have HM := Lib.hid hM
      clear hM
      clear h6 h7 H5 hwl hjt hD
      go_wp2_with fail
      refine (hsum_any _ 1 1 [text] _ (by unfold maxLen; omega) (Rds.of_blk [text] rfl) HJt.out H7.out).mono ?_
      rintro e w7 ⟨rfl, h8⟩
      rw [joined_one, ← HD.out]
      have h9 := h8.drop
      clear h8 H7
      have hjp : (joined (P ++ [r])).length ≤ 1152921504606846975 := by rw [HJ2.out, HT.out]; omega
      have HJp := Lib.hid hjp
      clear hjp
      go_wp2_with fail
      refine (hsum_any _ _ _ (P ++ [r]) _ (by unfold maxLen; omega) hr' HJp.out h9).mono ?_
      rintro e w8 ⟨rfl, h10⟩
      rw [HJ2.out, ← HD.out]
      clear h9
      have h11 := h10.f1
      clear h10
      have htl2 : text.data.toList.length ≤ 1152921504606846975 := by rw [HT.out]; omega
      have HTl := Lib.hid htl2
      clear htl2
      go_wp2_with fail
      refine (sum_any b _ _ HTl.out h11).mono ?_
      rintro e w9 ⟨rfl, h12⟩
      rw [← HD.out]
      clear h11
      go_wp2_with fail
      refine (len_any b _ _ h12).mono ?_
      rintro e w10 ⟨rfl, rfl⟩
      rw [HT.out]
      have hkk : key.size ≤ 140737488355328 := by omega
      have hjp2 : (joined (P ++ [r])).length ≤ 140737488355328 := by rw [HJ2.out, HT.out]; omega
      have HJq := Lib.hid hjp2
      clear hjp2
      go_wp2_with fail
      refine (mac_any key _ _ _ (P ++ [r]) _ (by unfold maxLen; omega) hr' hkk HJq.out h12.f1).mono ?_
      rintro e w11 ⟨rfl, h13⟩
      rw [HJ2.out, ← HM.out]
      clear h12
      have hjt2 : (joined [text]).length ≤ 140737488355328 := by rw [joined_one, HT.out]; omega
      have HJr := Lib.hid hjt2
      clear hjt2
      go_wp2_with fail
      refine (mac_any key _ 1 1 [text] _ (by unfold maxLen; omega) (Rds.of_blk [text] rfl) hkk HJr.out (one_blk h13 text)).mono ?_
      rintro e w12 ⟨rfl, h14⟩
      rw [joined_one, ← HM.out]
      go_wp2_with fail
      go_ret
      exact ⟨rfl, h14.drop.drop.drop⟩
end Go.Proofs.Ytldloociaoflkaa
