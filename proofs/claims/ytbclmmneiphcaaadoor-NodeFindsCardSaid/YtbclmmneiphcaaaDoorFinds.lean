/- latchkeylaw10.NodeFinds. -/
import Derived.Test.YtbclmmneiphcaaaDoorXFind
namespace Go.Proofs.YtbclmmneiphcaaaDoor
open Go.RowKit
section
variable {E : World} {S : Ph} {L : List Hp}
set_option maxRecDepth 100000 in
set_option maxHeartbeats 8000000 in
theorem nodefinds_any (v : Nv) (n : Nd) (key a b : ByteArray) (w : World) (hs : NdSm n) (hk : key.size ≤ 1000000000000000000) (ha : a.size ≤ 1000000000000000000) (hb : b.size ≤ 1000000000000000000) (hi : NdIn S v n) (hG : Laid0 E (Hp.ro S :: L)) (h : Own E w (Hp.ro S :: L)) :
    Calls Tryd.prog 3 #[v.val n, .string key, .string a, .string b] w fun e w' => e = .returned (.bool true) ∧ Own E w' (Hp.ro S :: L) := by
  have kw := fun w M hw => nodeweighs_any (E := E) (S := S) (L := M) v n w hs hi hw
  have kl := fun hb w M hw => lent_any (E := E) (S := S) (L := M) v n w hb hi hw
  have h1 : Own E _ (Hp.blk w.heap.size NT #[.bool n.leaf, .slice v.a1 n.ks.length v.c1, .slice v.a2 n.vs.length v.c2, .slice v.a3 n.ls.length v.c3] :: Hp.ro S :: L) := h.alloc _
  have hcell : ∀ w' g, (∃ L', Own E w' (Hp.blk g NT #[.bool n.leaf, .slice v.a1 n.ks.length v.c1, .slice v.a2 n.vs.length v.c2, .slice v.a3 n.ls.length v.c3] :: L')) → w'.cell? ⟨g, 0, none⟩ = some (.bool n.leaf) ∧ w'.cell? ⟨g, 1, none⟩ = some (.slice v.a1 n.ks.length v.c1) ∧ w'.cell? ⟨g, 2, none⟩ = some (.slice v.a2 n.vs.length v.c2) ∧ w'.cell? ⟨g, 3, none⟩ = some (.slice v.a3 n.ls.length v.c3) := fun w' g hw => by
    obtain ⟨_, hw⟩ := hw
    exact ⟨hw.cell 0, hw.cell 1, hw.cell 2, hw.cell 3⟩
  obtain ⟨g, hg⟩ : ∃ g, g = w.heap.size := ⟨_, rfl⟩
  rw [← hg] at h1
  have H1 := Lib.hid h1
  have HC := Lib.hid hcell
  have KW := Lib.hid kw
  have KL := Lib.hid kl
  have HK := Lib.hid hk
  have HA := Lib.hid ha
  have HB := Lib.hid hb
  have HG := Lib.hid hG
  have HI := Lib.hid hi
  clear h h1 hcell kw kl hk ha hb hG hi hs
  go_enter Tryd.func3, Tryd.ntmps3
  go_wp2_with fail
  rw [← hg]
  clear hg
  with_reducible refine (KW.out _ _ H1.out.f1).mono ?_
  rintro e w1 ⟨⟨z1, hz1, hy1, rfl⟩, h⟩
  have HY1 := Lib.hid hy1
  have H := Lib.hid h
  clear hy1 h H1
  go_wp2_with fail
  refine (addsup_any z1 key.size _ (by omega) HK.out).mono ?_
  rintro e w2 ⟨rfl, z2, hz2, hy2, rfl⟩
  have HY2 := Lib.hid hy2
  clear hy2
  go_wp2_with fail
  refine (addsup_any a.size b.size _ HA.out HB.out).mono ?_
  rintro e w2 ⟨rfl, z3, hz3, hy3, rfl⟩
  have HY3 := Lib.hid hy3
  clear hy3
  go_wp2_with fail
  refine (addsup_any z2 z3 _ (by omega) (by omega)).mono ?_
  rintro e w2 ⟨rfl, z4, hz4, hy4, rfl⟩
  have HY4 := Lib.hid hy4
  clear hy4
  by_cases hc : 2147483647 < z4
  · have hci : (2147483647 : Int) < z4 := by omega
    go_wp2_with fail
    go_ret
    exact ⟨rfl, H.out.f1.drop⟩
  have hci : ¬ (2147483647 : Int) < z4 := by omega
  have hsz : n.bulk ≤ 2147483647 ∧ b.size ≤ 2147483647 := by
    have e4 := HY4.out (by omega)
    have e3 := HY3.out (by omega)
    have e2 := HY2.out (by omega)
    have e1 := HY1.out (by omega)
    omega
  have HSZ := Lib.hid hsz
  clear hsz hc hz1 hz2 hz3 hz4 HY1 HY2 HY3 HY4
  go_wp2_with fail
  refine (awake_any _ HG.out.cons (L := Hp.blk g NT _ :: Hp.ro S :: L) H.out.f1).mono ?_
  rintro e w3 ⟨rfl, h⟩
  obtain ⟨p0, p1, p2, p3⟩ := HC.out _ _ ⟨_, h⟩
  clear H
  have H := Lib.hid h
  clear h
  go_wp2_with fail
  with_reducible refine (KL.out (by have := HSZ.out.1; omega) _ _ H.out.f1).mono ?_
  rintro e w4 ⟨gk, gv, gl, rfl, h⟩
  obtain ⟨aa, hA, had, h⟩ := h.lend
  obtain ⟨in1, sp1⟩ := three_in (by have := HSZ.out.1; omega) hA
  have in2 := HI.out.sub (Ph.join_r had)
  have in3 := in1.sub (T := Ph.join aa S) Ph.join_l
  have sp2 := sp1.sub (T := Ph.join aa S) Ph.join_l
  have h1 : Own E _ (Hp.blk w4.heap.size NT #[.bool n.leaf, .slice (some ⟨gk, 0, none⟩) n.ks.length (n.ks.length + 4), .slice (some ⟨gv, 0, none⟩) n.vs.length (n.vs.length + 4), .slice (some ⟨gl, 0, none⟩) n.ls.length (n.ls.length + 4)] :: _) := h.alloc _
  have kf := fun w M hw => find_any (E := E) (S := Ph.join aa S) (L := M) (lentV gk gv gl n) n key w (by have := HSZ.out.1; omega) in3 hw
  have kx := fun w M hw => xfind_any (E := E) (S := Ph.join aa S) (L := M) v n key w (by have := HSZ.out.1; omega) in2 hw
  have kh := fun w M hw => whole_any (E := E) (S := Ph.join aa S) (L := M) gk gv gl v n w (by have := HSZ.out.1; omega) in3 sp2 in2 hw
  have hcell2 : ∀ w' g, (∃ L', Own E w' (Hp.blk g NT #[.bool n.leaf, .slice (some ⟨gk, 0, none⟩) n.ks.length (n.ks.length + 4), .slice (some ⟨gv, 0, none⟩) n.vs.length (n.vs.length + 4), .slice (some ⟨gl, 0, none⟩) n.ls.length (n.ls.length + 4)] :: L')) → w'.cell? ⟨g, 0, none⟩ = some (.bool n.leaf) ∧ w'.cell? ⟨g, 1, none⟩ = some (.slice (some ⟨gk, 0, none⟩) n.ks.length (n.ks.length + 4)) ∧ w'.cell? ⟨g, 2, none⟩ = some (.slice (some ⟨gv, 0, none⟩) n.vs.length (n.vs.length + 4)) ∧ w'.cell? ⟨g, 3, none⟩ = some (.slice (some ⟨gl, 0, none⟩) n.ls.length (n.ls.length + 4)) := fun w' g hw => by
    obtain ⟨_, hw⟩ := hw
    exact ⟨hw.cell 0, hw.cell 1, hw.cell 2, hw.cell 3⟩
  generalize (n.find key).1 = fi at *
  generalize (n.find key).2 = fb at *
  obtain ⟨g2, hg2⟩ : ∃ g, g = w4.heap.size := ⟨_, rfl⟩
  rw [← hg2] at h1
  have HC2 := Lib.hid hcell2
  have KF := Lib.hid kf
  have KX := Lib.hid kx
  have KH := Lib.hid kh
  have H4 := Lib.hid h1
  clear h h1 hA in1 sp1 in2 in3 sp2 kf kx kh hcell2 H p0 p1 p2 p3
  go_wp2_with fail
  rw [← hg2]
  clear hg2
  with_reducible refine (KF.out _ _ H4.out.f1).mono ?_
  rintro e w5 ⟨rfl, h⟩
  obtain ⟨p0, p1, p2, p3⟩ := HC.out _ _ ⟨_, h.f2⟩
  have H := Lib.hid h
  clear h H4
  go_wp2_with fail
  with_reducible refine (KX.out _ _ H.out).mono ?_
  rintro e w6 ⟨rfl, h⟩
  clear p0 p1 p2 p3
  obtain ⟨p0, p1, p2, p3⟩ := HC.out _ _ ⟨_, h.f2⟩
  obtain ⟨q0, q1, q2, q3⟩ := HC2.out _ _ ⟨_, h.f1⟩
  have H4 := Lib.hid h
  clear h H
  go_wp2_with fail
  with_reducible refine (KH.out _ _ H4.out).mono ?_
  rintro e w7 ⟨rfl, h⟩
  clear p0 p1 p2 p3 q0 q1 q2 q3
  have H := Lib.hid h
  clear h H4
  have z1 : (fb == fb) = true := by simp
  have z2 : ((betweenV a b).toList == (betweenV a b).toList) = true := by simp
  go_wp2_with fail
  refine (between_any a b _ (by have := HSZ.out.2; omega) H.out).mono ?_
  rintro e w8 ⟨rfl, h⟩
  have H2 := Lib.hid h
  clear h H
  go_wp2_with fail
  refine (xbetween_any a b _ (by have := HSZ.out.2; omega) H2.out).mono ?_
  rintro e w9 ⟨rfl, h⟩
  go_wp2_with fail
  go_ret
  exact ⟨rfl, (h.part had).drop.f1.drop.f1.drop⟩
end
end Go.Proofs.YtbclmmneiphcaaaDoor
