/- The letters of mail, with filling: of the program and of the document. -/
import Derived.Test.YtokephnlelpjhaaDoorFilled
namespace Go.Proofs.YtokephnlelpjhaaDoor
open Go.RowKit
section
variable {E : World} {L : List Hp}
set_option maxRecDepth 20000 in
theorem filling_any (n : Nat) (w : World) :
    Calls Tryd.prog 75 #[.int .i64 n] w fun e w' => e = .returned (.string ⟨(Six.fill n).toArray⟩) ∧ w = w' := by
  have h3 : n % 3 = 0 ∨ n % 3 = 1 ∨ n % 3 = 2 := by omega
  rcases h3 with h | h | h
  · have hi : (n : Int) % 3 = 0 := by omega
    have hix : ∀ W, (Instr.index 108 (.agg #[.string ⟨#[]⟩, .string ⟨#[61, 61]⟩, .string ⟨#[61]⟩]) (.int .i64 0)).run Tryd.prog W = .ok (.string ⟨#[]⟩) W := fun W => by kernel_rfl
    have hf : Six.fill n = [] := by simp [Six.fill, h]
    rw [hf]
    clear h hf
    go_enter Tryd.func75, Tryd.ntmps75
    go_wp2_with fail
    go_ret
    exact ⟨rfl, rfl⟩
  · have hi : (n : Int) % 3 = 1 := by omega
    have hix : ∀ W, (Instr.index 108 (.agg #[.string ⟨#[]⟩, .string ⟨#[61, 61]⟩, .string ⟨#[61]⟩]) (.int .i64 1)).run Tryd.prog W = .ok (.string ⟨#[61, 61]⟩) W := fun W => by kernel_rfl
    have hf : Six.fill n = [61, 61] := by simp [Six.fill, h]
    rw [hf]
    clear h hf
    go_enter Tryd.func75, Tryd.ntmps75
    go_wp2_with fail
    go_ret
    exact ⟨rfl, rfl⟩
  · have hi : (n : Int) % 3 = 2 := by omega
    have hix : ∀ W, (Instr.index 108 (.agg #[.string ⟨#[]⟩, .string ⟨#[61, 61]⟩, .string ⟨#[61]⟩]) (.int .i64 2)).run Tryd.prog W = .ok (.string ⟨#[61]⟩) W := fun W => by kernel_rfl
    have hf : Six.fill n = [61] := by simp [Six.fill, h]
    rw [hf]
    clear h hf
    go_enter Tryd.func75, Tryd.ntmps75
    go_wp2_with fail
    go_ret
    exact ⟨rfl, rfl⟩
theorem enc_size (sg : Nat → UInt8) (s : ByteArray) (hs : s.size ≤ 10000000000000) : (⟨(Six.enc sg 0 0 s.data.toList).toArray⟩ : ByteArray).size ≤ 15000000000000 := by
  show (Six.enc sg 0 0 s.data.toList).length ≤ _
  rw [Six.enc_len]
  have : s.data.toList.length = s.size := rfl
  omega
theorem fill_size (n : Nat) : (⟨(Six.fill n).toArray⟩ : ByteArray).size ≤ 2 := by
  show (Six.fill n).length ≤ _
  rcases Six.fill_cases n with h | h | h <;> rw [h] <;> simp
theorem standard_any (s : ByteArray) (w : World) (hs : s.size ≤ 10000000000000) (h : Own E w L) :
    Calls Tryd.prog 47 #[.string s] w fun e w' => e = .returned (.string (std s)) ∧ Own E w' L := by
  have h1 := enc_size (sgOf mailB) s hs
  have h2 := fill_size s.size
  obtain ⟨a, ha⟩ : ∃ a : ByteArray, a = ⟨(Six.enc (sgOf mailB) 0 0 s.data.toList).toArray⟩ := ⟨_, rfl⟩
  obtain ⟨b, hb⟩ : ∃ b : ByteArray, b = ⟨(Six.fill s.size).toArray⟩ := ⟨_, rfl⟩
  rw [← ha] at h1
  rw [← hb] at h2
  have hstd : a ++ b = std s := by rw [bytes_ext (a ++ b) _ (app_data a b), ha, hb]; rfl
  have HA := Lib.hid ha
  have HB := Lib.hid hb
  have HSt := Lib.hid hstd
  have hcat : ¬ 9223372036854775807 < a.size + b.size := by omega
  clear ha hb hstd
  go_enter Tryd.func47, Tryd.ntmps47
  go_wp2_with fail
  refine (sixes_any s mailB _ mail_size hs h).mono ?_
  rintro e w1 ⟨rfl, h3⟩
  rw [← HA.out]
  go_wp2_with fail
  refine (filling_any s.size _).mono ?_
  rintro e w2 ⟨rfl, rfl⟩
  rw [← HB.out]
  go_wp2_with fail
  go_ret
  exact ⟨by rw [← HSt.out]; rfl, h3⟩
theorem refstandard_any (s : ByteArray) (w : World) (hs : s.size ≤ 10000000000000) (h : Own E w L) :
    Calls Tryd.prog 48 #[.string s] w fun e w' => e = .returned (.string (std s)) ∧ Own E w' L := by
  have hstd : (⟨(Six.grp (sgOf mailB) true s.data.toList).toArray⟩ : ByteArray) = std s := by rw [Six.grp_fill]; rfl
  have HSt := Lib.hid hstd
  clear hstd
  go_enter Tryd.func48, Tryd.ntmps48
  go_wp2_with fail
  refine (refsigns_any s mailB true _ mail_size hs h).mono ?_
  rintro e w1 ⟨rfl, h1⟩
  rw [HSt.out]
  go_wp2_with fail
  go_ret
  exact ⟨rfl, h1⟩
theorem last_get {l : List UInt8} (h : l ≠ []) : l.getLast? = some (l.getD (l.length - 1) 0) := by
  rw [List.getLast?_eq_getElem?, List.getD_eq_getElem?_getD]
  have : l.length - 1 < l.length := by have := List.length_pos_iff.2 h; omega
  rw [List.getElem?_eq_getElem this]; rfl
theorem cut_last (u : ByteArray) : (u.extract 0 (u.size - 1)).data.toList = u.data.toList.dropLast := by
  rw [Lib.extract_data]
  simp [List.dropLast_eq_take]
set_option maxHeartbeats 1000000 in
theorem unfilled_any (s : ByteArray) (w : World) (hs : s.size ≤ 10000000000000) :
    Calls Tryd.prog 76 #[.string s] w fun e w' => e = .returned (.string ⟨(Six.stripAll s.data.toList).toArray⟩) ∧ w = w' := by
  obtain ⟨T, hT⟩ : ∃ T, T = Six.stripAll s.data.toList := ⟨_, rfl⟩
  rw [← hT]
  have HT := Lib.hid hT
  clear hT
  go_enter Tryd.func76, Tryd.ntmps76
  go_wp2_with fail
  go_loopw [0] (fun a wr => ∃ u : ByteArray, a = .string u ∧ u.size ≤ 10000000000000 ∧ Six.stripAll u.data.toList = T ∧ wr = w) (fun a _ => (match a with | .string u => u.size | _ => 0))
  case atStart => exact ⟨s, rfl, hs, HT.out.symm, rfl⟩
  case round =>
    obtain ⟨u, rfl, hus, hu, rfl⟩ := hrel
    have hul : u.data.toList.length = u.size := rfl
    by_cases h0 : 0 < u.size
    · have hne : u.data.toList ≠ [] := fun h => by rw [h] at hul; simp at hul; omega
      have hl := last_get hne
      rw [hul] at hl
      obtain ⟨m, hm⟩ : ∃ m, m = u.size - 1 := ⟨_, rfl⟩
      have hix := byte_index u (m : Int) m rfl (by omega)
      rw [← hm] at hl
      generalize u.data.toList.getD m 0 = y at *
      have h0i : (0 : Int) < u.size := by omega
      have hmi : (u.size : Int) - 1 = (m : Int) := by omega
      have HM := Lib.hid hm
      have HU := Lib.hid hu
      have HL := Lib.hid hl
      clear hm hu hl hul hne
      by_cases hy : y = 61
      · subst hy
        go_wp2_with fail
        have hsl : u.extract 0 m = u.extract 0 (u.size - 1) := by rw [HM.out]
        have hsz : (u.extract 0 m).size = m := by rw [ByteArray.size_extract]; have := HM.out; omega
        go_roundw
        case rel => exact ⟨u.extract 0 m, rfl, by rw [hsz]; have := HM.out; omega, by rw [hsl, cut_last, ← Six.stripAll_some HL.out]; exact HU.out, trivial⟩
        case measure => have := HM.out; simp [hsz]; omega
      · have hyi : ¬ (y.toNat : Int) = 61 := fun h => hy (UInt8.toNat_inj.1 (by show y.toNat = 61; omega))
        have HY := Lib.hid hy
        clear hy
        go_wp2_with fail
        go_ret
        exact ⟨str_ext (by rw [← HU.out, Six.stripAll_none (by rw [HL.out]; intro h; injection h with h; exact HY.out h)]), rfl⟩
    · have h0i : ¬ (0 : Int) < u.size := by omega
      have hu0 : u.data.toList = [] := List.eq_nil_of_length_eq_zero (by omega)
      have HU := Lib.hid hu
      have HU0 := Lib.hid hu0
      clear hu hu0 hul
      go_wp2_with fail
      go_ret
      exact ⟨str_ext (by rw [← HU.out, Six.stripAll_none (by rw [HU0.out]; simp)]), rfl⟩
end
end Go.Proofs.YtokephnlelpjhaaDoor
