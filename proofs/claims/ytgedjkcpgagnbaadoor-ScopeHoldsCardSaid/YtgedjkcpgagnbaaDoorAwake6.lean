/- The law's awake: some of the chapter's examples. -/
import Derived.Test.YtgedjkcpgagnbaaDoorLent6
namespace Go.Proofs.YtgedjkcpgagnbaaDoor
open Go.RowKit
abbrev bRead : ByteArray := bs [114, 101, 97, 100]
abbrev bWrite : ByteArray := bs [119, 114, 105, 116, 101]
section
variable {E : World} {S : Ph} {L : List Hp}
theorem Lent.lit1 {w : World} {T : Ph} {l : List (Option Addr × Nat × List ByteArray)} (x : ByteArray) (h : Lent E S L w T l) : ∃ T', Lent E S L (w.alloc (.cells #[.string x] ST)) T' ((some ⟨w.heap.size, 0, none⟩, 1, [x]) :: l) := h.lit [x] (by simp)
theorem Lent.lit2 {w : World} {T : Ph} {l : List (Option Addr × Nat × List ByteArray)} (x y : ByteArray) (h : Lent E S L w T l) : ∃ T', Lent E S L (w.alloc (.cells #[.string x, .string y] ST)) T' ((some ⟨w.heap.size, 0, none⟩, 2, [x, y]) :: l) := h.lit [x, y] (by simp)
theorem size_alloc (w : World) (o : Obj) : (w.alloc o).heap.size = w.heap.size + 1 := by show (w.heap.push o).size = _; simp
theorem Lent.lit21 {w : World} {T : Ph} {l : List (Option Addr × Nat × List ByteArray)} (x y z : ByteArray) (h : Lent E S L w T l) : ∃ T', Lent E S L ((w.alloc (.cells #[.string x, .string y] ST)).alloc (.cells #[.string z] ST)) T' ((some ⟨w.heap.size + 1, 0, none⟩, 1, [z]) :: (some ⟨w.heap.size, 0, none⟩, 2, [x, y]) :: l) := by
  obtain ⟨T1, h1⟩ := h.lit2 x y
  obtain ⟨T2, h2⟩ := h1.lit1 z
  rw [size_alloc] at h2
  exact ⟨T2, h2⟩
theorem Lent.lit22 {w : World} {T : Ph} {l : List (Option Addr × Nat × List ByteArray)} (x y z u : ByteArray) (h : Lent E S L w T l) : ∃ T', Lent E S L ((w.alloc (.cells #[.string x, .string y] ST)).alloc (.cells #[.string z, .string u] ST)) T' ((some ⟨w.heap.size + 1, 0, none⟩, 2, [z, u]) :: (some ⟨w.heap.size, 0, none⟩, 2, [x, y]) :: l) := by
  obtain ⟨T1, h1⟩ := h.lit2 x y
  obtain ⟨T2, h2⟩ := h1.lit2 z u
  rw [size_alloc] at h2
  exact ⟨T2, h2⟩
theorem Lent.cells {w : World} {T : Ph} {l : List (Option Addr × Nat × List ByteArray)} (i : Nat) {A : Option Addr} {c : Nat} {xs : List ByteArray} (hi : l[i]? = some (A, c, xs)) (hne : 0 < xs.length) (h : Lent E S L w T l) : ∃ b off, A = some ⟨b, off, none⟩ ∧ ∀ k x, xs[k]? = some x → w.cell? ⟨b, off + k, none⟩ = some (.string x) := by
  have hr := (h.lists.at_ i hi).1
  obtain ⟨x, b, off, hx, rfl, hc⟩ := hr.get1 hne
  refine ⟨b, off, rfl, fun k y hy => ?_⟩
  obtain ⟨y2, b2, off2, hy2, e2, hc2⟩ := hr.get1 (List.getElem?_eq_some_iff.1 hy).1
  injection e2 with e2
  injection e2 with e3 e4
  subst e3 e4
  rw [hy] at hy2
  injection hy2 with hy2
  subst hy2
  exact h.own.rd (hc2 _ rfl)
set_option maxRecDepth 100000 in
set_option maxHeartbeats 8000000 in
theorem awake_any (w : World) (hM : Max0 E (Hp.ro S :: L)) (h : Own E w (Hp.ro S :: L)) :
    Calls Tryd.prog 9 #[] w fun e w' => e = .returned (.bool true) ∧ Own E w' (Hp.ro S :: L) := by
  have K1 : Hid (∀ w T l, Lent E S L w T l → Calls Tryd.prog 10 #[.string ⟨#[119, 114, 105, 116, 101, 32, 114, 101, 97, 100, 32, 119, 114, 105, 116, 101]⟩] w fun e w' => ∃ T' A c, e = .returned (.tuple #[.slice A 2 c, .int .i64 0]) ∧ Lent E S L w' T' ((A, c, [bRead, bWrite]) :: l)) := Lib.hid fun w T l h => by
    have h2 := lparse (bs [119, 114, 105, 116, 101, 32, 114, 101, 97, 100, 32, 119, 114, 105, 116, 101]) (by decide) hM h
    rw [aw1] at h2
    exact h2
  have K2 : Hid (∀ w T l, Lent E S L w T l → Calls Tryd.prog 10 #[.string ⟨#[97, 32, 32, 98]⟩] w fun e w' => ∃ T' A c, e = .returned (.tuple #[.slice A 0 c, .int .i64 60]) ∧ Lent E S L w' T' ((A, c, []) :: l)) := Lib.hid fun w T l h => by
    have h2 := lparse (bs [97, 32, 32, 98]) (by decide) hM h
    rw [aw2] at h2
    exact h2
  have K3 : Hid (∀ w T l A c, Lent E S L w T ((A, c, [bRead, bWrite]) :: l) → Calls Tryd.prog 20 #[.slice A 2 c] w fun e w' => e = .returned (.tuple #[.string ⟨#[114, 101, 97, 100, 32, 119, 114, 105, 116, 101]⟩, .int .i64 0]) ∧ Lent E S L w' T ((A, c, [bRead, bWrite]) :: l)) := Lib.hid fun w T l A c h => by
    have h2 := lprint 0 rfl (by decide) h
    rw [aw3, aw3e] at h2
    exact h2
  have K4 : Hid (∀ w T l A c B d, Lent E S L w T ((B, d, [bs [98]]) :: (A, c, [bs [97], bs [99]]) :: l) → Calls Tryd.prog 23 #[.slice A 2 c, .slice B 1 d] w fun e w' => ∃ T' A' c', e = .returned (.tuple #[.slice A' 3 c', .int .i64 0]) ∧ Lent E S L w' T' ((A', c', [bs [97], bs [98], bs [99]]) :: (B, d, [bs [98]]) :: (A, c, [bs [97], bs [99]]) :: l)) := Lib.hid fun w T l A c B d h => by
    have h2 := ljoin 1 0 rfl rfl (by decide) (by decide) h
    rw [aw4] at h2
    exact h2
  have K5 : Hid (∀ w T l A c B d, Lent E S L w T ((B, d, [bs [98], bs [99]]) :: (A, c, [bs [97], bs [98]]) :: l) → Calls Tryd.prog 21 #[.slice A 2 c, .slice B 2 d] w fun e w' => ∃ T' A' c', e = .returned (.slice A' 1 c') ∧ Lent E S L w' T' ((A', c', [bs [98]]) :: (B, d, [bs [98], bs [99]]) :: (A, c, [bs [97], bs [98]]) :: l)) := Lib.hid fun w T l A c B d h => by
    have h2 := lmeet 1 0 rfl rfl (by decide) (by decide) h
    rw [aw5] at h2
    exact h2
  have K6 : Hid (∀ w T l A c B d, Lent E S L w T ((B, d, [bs [98], bs [99]]) :: (A, c, [bs [97], bs [98]]) :: l) → Calls Tryd.prog 22 #[.slice A 2 c, .slice B 2 d] w fun e w' => ∃ T' A' c', e = .returned (.slice A' 1 c') ∧ Lent E S L w' T' ((A', c', [bs [97]]) :: (B, d, [bs [98], bs [99]]) :: (A, c, [bs [97], bs [98]]) :: l)) := Lib.hid fun w T l A c B d h => by
    have h2 := lminus 1 0 rfl rfl (by decide) (by decide) h
    rw [aw6] at h2
    exact h2
  have K7 : Hid (∀ w T l, Lent E S L w T l → ∀ A c B d i j, l[i]? = some (A, c, [bRead]) → l[j]? = some (B, d, [bRead, bWrite]) → Calls Tryd.prog 24 #[.slice A 1 c, .slice B 2 d] w fun e w' => e = .returned (.bool true) ∧ Lent E S L w' T l) := Lib.hid fun w T l h A c B d i j hi hj => by
    have h2 := lwithin i j hi hj (by decide) (by decide) h
    rw [aw7] at h2
    exact h2
  have K8 : Hid (∀ w T l, Lent E S L w T l → ∀ A c B d i j, l[i]? = some (A, c, [bRead, bWrite]) → l[j]? = some (B, d, [bRead]) → Calls Tryd.prog 24 #[.slice A 2 c, .slice B 1 d] w fun e w' => e = .returned (.bool false) ∧ Lent E S L w' T l) := Lib.hid fun w T l h A c B d i j hi hj => by
    have h2 := lwithin i j hi hj (by decide) (by decide) h
    rw [aw8] at h2
    exact h2
  have K9 : Hid (∀ w T l, Lent E S L w T l → ∀ A c i, l[i]? = some (A, c, [bRead, bWrite]) → Calls Tryd.prog 19 #[.slice A 2 c] w fun e w' => e = .returned (.bool true) ∧ Lent E S L w' T l) := Lib.hid fun w T l h A c i hi => by
    have h2 := lright i hi (by decide) h
    rw [aw3e] at h2
    exact h2
  have H0 := Lib.hid (Lent.start h)
  clear h hM
  go_enter Tryd.func9, Tryd.ntmps9
  go_wp2_with (first
    | (with_reducible refine (K1.out _ _ _ H0.out).mono ?_; clear K1 H0; rintro e w1 ⟨T1, A1, c1, rfl, h⟩; have H1 := Lib.hid h; clear h)
    | (with_reducible refine (K2.out _ _ _ H1.out).mono ?_; clear K2 H1; rintro e w2 ⟨T2, A2, c2, rfl, h⟩; obtain ⟨T3, h⟩ := h.lit2 (bRead) (bWrite); have H3 := Lib.hid h; clear h)
    | (with_reducible refine (K3.out _ _ _ _ _ H3.out).mono ?_; clear K3 H3; rintro e w3 ⟨rfl, h⟩; obtain ⟨T5, h⟩ := h.lit21 (bs [97]) (bs [99]) (bs [98]); have H5 := Lib.hid h; clear h)
    | (with_reducible refine (K4.out _ _ _ _ _ _ _ H5.out).mono ?_; clear K4 H5; rintro e w5 ⟨T6, A6, c6, rfl, h⟩; obtain ⟨T8, h⟩ := h.lit22 (bs [97]) (bs [98]) (bs [98]) (bs [99]); have H8 := Lib.hid h; clear h)
    | (with_reducible refine (K5.out _ _ _ _ _ _ _ H8.out).mono ?_; clear K5 H8; rintro e w8 ⟨T9, A9, c9, rfl, h⟩; obtain ⟨T11, h⟩ := h.lit22 (bs [97]) (bs [98]) (bs [98]) (bs [99]); have H11 := Lib.hid h; clear h)
    | (with_reducible refine (K6.out _ _ _ _ _ _ _ H11.out).mono ?_; clear K6 H11; rintro e w11 ⟨T12, A12, c12, rfl, h⟩; obtain ⟨T13, h⟩ := h.lit1 (bRead); have H13 := Lib.hid h; clear h)
    | (with_reducible refine (K7.out _ _ _ H13.out _ _ _ _ 0 12 rfl rfl).mono ?_; clear K7 H13; rintro e w13 ⟨rfl, h⟩; obtain ⟨T14, h⟩ := h.lit1 bRead; have H14 := Lib.hid h; clear h))
  with_reducible refine (K8.out _ _ _ H14.out _ _ _ _ 13 0 rfl rfl).mono ?_
  clear K8 H14
  rintro e w14 ⟨rfl, h⟩
  have H15 := Lib.hid h
  obtain ⟨b1, o1, rfl, q1⟩ := h.cells 13 rfl (by decide)
  obtain ⟨b6, o6, rfl, q6⟩ := h.cells 8 rfl (by decide)
  obtain ⟨b9, o9, rfl, q9⟩ := h.cells 5 rfl (by decide)
  obtain ⟨b12, o12, rfl, q12⟩ := h.cells 2 rfl (by decide)
  have r1 : w14.cell? ⟨b1, o1, none⟩ = some (.string ⟨#[114, 101, 97, 100]⟩) := q1 0 bRead rfl
  have r2 : w14.cell? ⟨b1, o1 + 1, none⟩ = some (.string ⟨#[119, 114, 105, 116, 101]⟩) := q1 1 bWrite rfl
  have r3 : w14.cell? ⟨b6, o6 + 1, none⟩ = some (.string ⟨#[98]⟩) := q6 1 (bs [98]) rfl
  have r4 : w14.cell? ⟨b9, o9, none⟩ = some (.string ⟨#[98]⟩) := q9 0 (bs [98]) rfl
  have r5 : w14.cell? ⟨b12, o12, none⟩ = some (.string ⟨#[97]⟩) := q12 0 (bs [97]) rfl
  clear q1 q6 q9 q12 h
  go_wp2_with (with_reducible refine (K9.out _ _ _ H15.out _ _ 13 rfl).mono ?_; clear K9 H15; rintro e w15 ⟨rfl, h⟩; have H16 := Lib.hid h; clear h)
  go_ret
  exact ⟨rfl, H16.out.back⟩
end
end Go.Proofs.YtgedjkcpgagnbaaDoor
