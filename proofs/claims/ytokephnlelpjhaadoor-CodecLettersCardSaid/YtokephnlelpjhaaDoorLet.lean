/- latchkeylaw02.CodecLetters: true of any two texts. -/
import Derived.Test.YtokephnlelpjhaaDoorAwake2
import Derived.Test.YtokephnlelpjhaaDoorAdd
namespace Go.Proofs.YtokephnlelpjhaaDoor
open Go.RowKit
theorem readV_pair (R : Option (List UInt8)) : ∃ a k, readV R = .tuple #[.string a, .int .i64 k] := by
  cases R with
  | none => exact ⟨_, _, rfl⟩
  | some t => exact ⟨_, _, rfl⟩
set_option maxRecDepth 20000 in
set_option maxHeartbeats 1000000 in
theorem letters_any {E : World} {L : List Hp} (s t : ByteArray) (w : World) (hs : s.size ≤ 140737488355328) (ht : t.size ≤ 140737488355328) (h : Own E w L) :
    Calls Tryd.prog 6 #[.string s, .string t] w fun e w' => e = .returned (.bool true) ∧ Own E w' L := by
  have hs' : s.size ≤ 1000000000000000000 := by omega
  have ht' : t.size ≤ 1000000000000000000 := by omega
  have hb := addN_le s.size (addN s.size t.size)
  have hb1 := addN_le s.size t.size
  have hA1 : addN s.size t.size ≤ 1000000000000000000 := by have := addN_top s.size t.size; omega
  clear hs ht
  go_enter Tryd.func6, Tryd.ntmps6
  go_wp2_with fail
  refine (add_any s.size t.size _ hs' ht').mono ?_
  rintro e w1 ⟨rfl, rfl⟩
  go_wp2_with fail
  refine (add_any s.size (addN s.size t.size) _ hs' hA1).mono ?_
  rintro e w1 ⟨rfl, rfl⟩
  obtain ⟨B, hB⟩ : ∃ B, B = addN s.size (addN s.size t.size) := ⟨_, rfl⟩
  rw [← hB]
  rw [← hB] at hb
  clear hB
  by_cases hc : 2147483647 < B
  · go_wp2_with fail
    go_ret
    exact ⟨rfl, h⟩
  have hb2 := hb (by omega)
  have hs2 : s.size ≤ 10000000000000 := by omega
  have ht2 : t.size ≤ 10000000000000 := by
    have h3 := hb1 (by omega)
    omega
  clear hb hb1 hb2 hs' ht' hA1
  go_wp2_with fail
  refine (awake_any _ h).mono ?_
  rintro e w1 ⟨rfl, h1⟩
  clear h
  go_wp2_with fail
  refine (frombase64_any t _ ht2 h1).mono ?_
  rintro e w2 ⟨rfl, h2⟩
  clear h1
  obtain ⟨a1, k1, e1⟩ := readV_pair (fromS namesB.data.toList t.data.toList)
  rw [e1]
  have E1 := Lib.hid e1
  clear e1
  go_wp2_with fail
  refine (reffrombase64_any t _ ht2 h2).mono ?_
  rintro e w3 ⟨rfl, h3⟩
  clear h2
  rw [E1.out]
  go_wp2_with fail
  refine (fromstandard_any t _ ht2 h3).mono ?_
  rintro e w4 ⟨rfl, h4⟩
  clear h3
  obtain ⟨a2, k2, e2⟩ := readV_pair (fromM t.data.toList)
  rw [e2]
  have E2 := Lib.hid e2
  clear e2
  go_wp2_with fail
  refine (reffromstandard_any t _ ht2 h4).mono ?_
  rintro e w5 ⟨rfl, h5⟩
  clear h4
  rw [E2.out]
  go_wp2_with fail
  refine (fromhex_any t _ ht2 h5).mono ?_
  rintro e w6 ⟨rfl, h6⟩
  clear h5
  obtain ⟨a3, k3, e3⟩ := readV_pair (unhexL t.data.toList)
  rw [e3]
  have E3 := Lib.hid e3
  clear e3
  go_wp2_with fail
  refine (reffromhex_any t _ ht2 h6).mono ?_
  rintro e w7 ⟨rfl, h7⟩
  clear h6
  rw [E3.out]
  go_wp2_with fail
  refine (base64_any s _ hs2 h7).mono ?_
  rintro e w8 ⟨rfl, h8⟩
  clear h7
  go_wp2_with fail
  refine (refbase64_any s _ hs2 h8).mono ?_
  rintro e w9 ⟨rfl, h9⟩
  clear h8
  obtain ⟨B1, hB1⟩ : ∃ b, b = b64 s := ⟨_, rfl⟩
  rw [← hB1]
  clear hB1
  go_wp2_with fail
  refine (standard_any s _ hs2 h9).mono ?_
  rintro e w10 ⟨rfl, h10⟩
  clear h9
  go_wp2_with fail
  refine (refstandard_any s _ hs2 h10).mono ?_
  rintro e w11 ⟨rfl, h11⟩
  clear h10
  obtain ⟨B2, hB2⟩ : ∃ b, b = std s := ⟨_, rfl⟩
  rw [← hB2]
  clear hB2
  go_wp2_with fail
  refine (hex_any s _ hs2 h11).mono ?_
  rintro e w12 ⟨rfl, h12⟩
  clear h11
  go_wp2_with fail
  refine (refhex_any s _ hs2 h12).mono ?_
  rintro e w13 ⟨rfl, h13⟩
  clear h12
  obtain ⟨B3, hB3⟩ : ∃ b, b = hexS s := ⟨_, rfl⟩
  rw [← hB3]
  clear hB3
  go_wp2_with fail
  go_ret
  exact ⟨rfl, h13⟩
end Go.Proofs.YtokephnlelpjhaaDoor
