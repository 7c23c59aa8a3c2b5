/- Reader.Text where it fits; latchkeylaw02.awake. -/
import Derived.Test.YtabibfabieghpaaGreatDoorReader2
namespace Go.Proofs.YtabibfabieghpaaGreatDoor
open Go.RowKit
section
variable {E : World} {L : List Hp}
set_option maxRecDepth 20000 in
theorem rtext_any (b : Nat) (s : ByteArray) (most n : Nat) (w : World) (hm : most ≤ 65535) (ha : ahead most ≤ s.size) (hn : numL (s.data.toList.take (ahead most)) = n) (hnm : n ≤ most) (hfit : ahead most + n ≤ s.size) (hs : s.size ≤ 1000000000000000) (h : Own E w (Hp.reader b .nilIface s :: L)) :
    Calls Tryz.prog 133 #[.pointer (some ⟨b, 0, none⟩), .int .i64 most] w fun e w' => e = .returned (.string (restB (frontB s (ahead most + n)) (ahead most))) ∧ Own E w' (Hp.reader b .nilIface (restB s (ahead most + n)) :: L) := by
  have c0 : w.cell? ⟨b, 0, none⟩ = some (.string s) := by unfold Hp.reader at h; exact h.cell 0
  have c1 : w.cell? ⟨b, 1, none⟩ = some .nilIface := by unfold Hp.reader at h; exact h.cell 1
  have ha2 : 1 ≤ ahead most ∧ ahead most ≤ 2 := by unfold ahead; split <;> omega
  have hf2 : numL (frontB s (ahead most)).data.toList = n := by rw [front_data]; exact hn
  have hfs := front_size s (ahead most) ha
  have hfs2 := front_size s (ahead most + n) hfit
  have H := Lib.hid h
  have HF := Lib.hid hf2
  have HFs := Lib.hid hfs
  have HFs2 := Lib.hid hfs2
  clear h hf2 hfs hfs2 hn
  have i1 : ¬ (most : Int) < 0 := by omega
  have i2 : ¬ (65535 : Int) < most := by omega
  go_enter Tryz.func133, Tryz.ntmps133
  go_wp2_with fail
  refine (length_any most _).mono ?_
  rintro e w1 ⟨rfl, rfl⟩
  generalize hae : ahead most = a at *
  have HAe := Lib.hid hae
  clear hae
  have i3 : ¬ (s.size : Int) < a := by omega
  have i4 : (a : Int) ≤ s.size := by omega
  go_wp2_with fail
  refine (number_any (frontB s a) _ (by rw [HFs.out]; omega) (by rw [HF.out]; omega) H.out).mono ?_
  rintro e w2 ⟨rfl, h2⟩
  rw [HF.out]
  have d0 : w2.cell? ⟨b, 0, none⟩ = some (.string s) := by unfold Hp.reader at h2; exact h2.cell 0
  have H2 := Lib.hid h2
  have i5 : ¬ (most : Int) < n := by omega
  have i6 : ¬ (s.size : Int) - a < n := by omega
  obtain ⟨k, hk⟩ : ∃ k, k = a + n := ⟨_, rfl⟩
  have i7 : (a : Int) + n = (k : Int) := by omega
  rw [← hk] at hfit HFs2
  have i8 : (a : Int) ≤ k := by omega
  have HK := Lib.hid hk
  have hak : a ≤ (frontB s k).size := by rw [HFs2.out]; omega
  have hfk := HFs2.out
  clear h2 c0 c1 hk
  go_wp2_with fail
  refine (take_any b .nilIface s k _ hfit H2.out).mono ?_
  rintro e w3 ⟨rfl, h3⟩
  have H3 := Lib.hid h3
  generalize hfr : frontB s k = fr at *
  have HFr := Lib.hid hfr
  clear h3 hfr
  go_wp2_with fail
  go_ret
  exact ⟨by rw [HAe.out, ← HK.out, HFr.out]; unfold restB; rw [hfk]; rfl, by rw [HAe.out, ← HK.out]; exact H3.out⟩
end
end Go.Proofs.YtabibfabieghpaaGreatDoor
