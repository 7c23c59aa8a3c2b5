/- codec.Reader: take, Num (fewer than eight bytes), Text, Done, where nothing is wrong. -/
import Derived.Test.YtabibfabieghpaaGreatDoorReader
namespace Go.Proofs.YtabibfabieghpaaGreatDoor
open Go.RowKit
/-- The front and the rest of a text. -/
abbrev frontB (s : ByteArray) (n : Nat) : ByteArray := s.extract 0 n
abbrev restB (s : ByteArray) (n : Nat) : ByteArray := s.extract n s.size
theorem front_data (s : ByteArray) (n : Nat) : (frontB s n).data.toList = s.data.toList.take n := by rw [Lib.extract_data]; simp
theorem rest_data (s : ByteArray) (n : Nat) : (restB s n).data.toList = s.data.toList.drop n := by
  rw [Lib.extract_data, List.take_of_length_le (by
    have : s.data.toList.length = s.size := rfl
    simp [this])]
theorem front_size (s : ByteArray) (n : Nat) (h : n ≤ s.size) : (frontB s n).size = n := by rw [ByteArray.size_extract]; omega
theorem rest_size (s : ByteArray) (n : Nat) : (restB s n).size = s.size - n := by rw [ByteArray.size_extract]; omega
theorem numL_lt (l : List UInt8) : numL l < 256 ^ l.length := by
  have h : ∀ (m : List UInt8) (n q : Nat), n < 256 ^ q → m.foldl (fun n c => n * 256 + c.toNat) n < 256 ^ (q + m.length) := by
    intro m
    induction m with
    | nil => intro n q hn; exact hn
    | cons c m ih =>
      intro n q hn
      have hc := c.toNat_lt
      have h2 := ih (n * 256 + c.toNat) (q + 1) (by rw [Nat.pow_succ]; omega)
      rw [List.length_cons, show q + (m.length + 1) = q + 1 + m.length by omega]
      exact h2
  have h2 := h l 0 0 (by omega)
  rw [Nat.zero_add] at h2
  exact h2
section
variable {E : World} {L : List Hp}
theorem take_any (b : Nat) (W : Value) (s : ByteArray) (n : Nat) (w : World) (hn : n ≤ s.size) (h : Own E w (Hp.reader b W s :: L)) :
    Calls Tryz.prog 138 #[.pointer (some ⟨b, 0, none⟩), .int .i64 n] w fun e w' => e = .returned (.string (frontB s n)) ∧ Own E w' (Hp.reader b W (restB s n) :: L) := by
  unfold Hp.reader at h
  have c0 : w.cell? ⟨b, 0, none⟩ = some (.string s) := h.cell 0
  have f0 := h.frozen 0
  have h2 : Own E (w.setCell ⟨b, 0, none⟩ (.string (restB s n))) (Hp.reader b W (restB s n) :: L) := h.set 0 _
  have H2 := Lib.hid h2
  have hni : (n : Int) ≤ s.size := by omega
  clear h h2
  go_enter Tryz.func138, Tryz.ntmps138
  go_wp2_with fail
  go_ret
  exact ⟨rfl, H2.out⟩
theorem rnum_any (b : Nat) (s : ByteArray) (n : Nat) (w : World) (h1 : 1 ≤ n) (h8 : n < 8) (hn : n ≤ s.size) (h : Own E w (Hp.reader b .nilIface s :: L)) :
    Calls Tryz.prog 121 #[.pointer (some ⟨b, 0, none⟩), .int .i64 n] w fun e w' => e = .returned (.int .i64 (numL (s.data.toList.take n) : Nat)) ∧ Own E w' (Hp.reader b .nilIface (restB s n) :: L) := by
  have c0 : w.cell? ⟨b, 0, none⟩ = some (.string s) := by unfold Hp.reader at h; exact h.cell 0
  have c1 : w.cell? ⟨b, 1, none⟩ = some .nilIface := by unfold Hp.reader at h; exact h.cell 1
  have hf := numL_lt (s.data.toList.take n)
  rw [List.length_take, Nat.min_eq_left (show n ≤ s.data.toList.length from hn)] at hf
  have hf2 : numL (frontB s n).data.toList < 9223372036854775808 := by
    rw [front_data]
    exact Nat.lt_of_lt_of_le hf (Nat.le_trans (Nat.pow_le_pow_right (by omega) (show n ≤ 7 by omega)) (by omega))
  have HF := Lib.hid hf2
  have H := Lib.hid h
  have i1 : ¬ (n : Int) < 1 := by omega
  have i2 : ¬ (8 : Int) < n := by omega
  have i3 : ¬ (s.size : Int) < n := by omega
  have i4 : ¬ (n : Int) = 8 := by omega
  have i5 : ((n : Int) == 8) = false := by rw [beq_eq_false_iff_ne]; exact i4
  have hfs := front_size s n hn
  have HFs := Lib.hid hfs
  have HFd := Lib.hid (front_data s n)
  clear hf hf2 h hfs
  go_enter Tryz.func121, Tryz.ntmps121
  go_wp2_with fail
  refine (take_any b .nilIface s n _ hn H.out).mono ?_
  rintro e w1 ⟨rfl, h2⟩
  go_wp2_with fail
  refine (number_any (frontB s n) _ (by rw [HFs.out]; omega) HF.out h2).mono ?_
  rintro e w2 ⟨rfl, h3⟩
  rw [HFd.out]
  go_wp2_with fail
  go_ret
  exact ⟨rfl, h3⟩
theorem rdone_any (b : Nat) (s : ByteArray) (w : World) (hs : s.size = 0) (h : Own E w (Hp.reader b .nilIface s :: L)) :
    Calls Tryz.prog 119 #[.pointer (some ⟨b, 0, none⟩)] w fun e w' => e = .returned (.int .i64 0) ∧ w = w' := by
  have c0 : w.cell? ⟨b, 0, none⟩ = some (.string s) := by unfold Hp.reader at h; exact h.cell 0
  have c1 : w.cell? ⟨b, 1, none⟩ = some .nilIface := by unfold Hp.reader at h; exact h.cell 1
  have hs0 : s = ⟨#[]⟩ := bytes_ext s [] (List.eq_nil_of_length_eq_zero hs)
  subst hs0
  clear hs h
  go_enter Tryz.func119, Tryz.ntmps119
  go_wp2_with fail
  go_ret
  exact ⟨rfl, rfl⟩
end
end Go.Proofs.YtabibfabieghpaaGreatDoor
