/- limit.of, wait: what is kept of a name; how many seconds it takes. -/
import Derived.Test.YtnbpbonpcbemdaaLim4
import Derived.Test.YtnbpbonpcbemdaaRes
namespace Go.Proofs.Ytnbpbonpcbemdaa
open Go.RowKit
/-- what is kept of a name, or would be -/
def ofN (burst : Nat) (l : List Bkt) (s : ByteArray) (now : Int) : Bkt := ((findN l s).bind fun k => l[k]?).getD ⟨s, burst, now⟩
theorem ofN_some {burst : Nat} {l : List Bkt} {s : ByteArray} {now : Int} {k : Nat} {x : Bkt} (h : findN l s = some k) (hx : l[k]? = some x) : ofN burst l s now = x := by
  unfold ofN; rw [h]; show (l[k]?).getD _ = x; rw [hx]; rfl
theorem ofN_none {burst : Nat} {l : List Bkt} {s : ByteArray} {now : Int} (h : findN l s = none) : ofN burst l s now = ⟨s, burst, now⟩ := by
  unfold ofN; rw [h]; rfl
theorem enB_all1 (x : Bkt) : ∀ v ∈ enB x, v.oneCell' = true := by
  intro v hv
  simp only [enB, List.mem_cons, List.not_mem_nil, or_false] at hv
  rcases hv with rfl | rfl | rfl <;> rfl
section
variable {E : World} {L : List Hp}
set_option maxHeartbeats 4000000 in
theorem of_any (b rate burst : Nat) (l : List Bkt) (s : ByteArray) (now : Int) (w : World) (hl : l.length ≤ 1000) (h : Own E w (Hp.lim b rate burst l :: L)) :
    Calls Try.prog 23 #[.pointer (some ⟨b, 0, none⟩), .string s, .int .i64 now] w fun e w' => e = .returned (.agg #[.string (ofN burst l s now).name, .float .f32 (ofN burst l s now).level, .int .i64 (ofN burst l s now).at_]) ∧ Own E w' (Hp.lim b rate burst l :: L) := by
  have h1 := (h.alloc (.cells #[.string ⟨#[]⟩, .float .f32 0, .int .i64 0] BKT)).f1
  have kp := place_any b rate burst l s _ hl h1
  have KP := Lib.hid kp
  obtain ⟨g, hg⟩ : ∃ g, g = w.heap.size := ⟨_, rfl⟩
  rw [← hg] at KP
  clear h h1 kp
  go_enter Try.func23, Try.ntmps23
  go_wp2_with fail
  rw [← hg]
  clear hg
  with_reducible refine KP.out.mono ?_
  rintro e w2 ⟨rfl, h⟩
  clear KP
  cases hf : findN l s with
  | some k =>
    obtain ⟨x, hx, -, -⟩ := findN_some hf
    have hpi : placeI l s = (k : Int) := by unfold placeI; rw [hf]
    have ho : ofN burst l s now = x := ofN_some hf hx
    have HO := Lib.hid ho
    obtain ⟨v, h⟩ := h.ofLim
    obtain ⟨A, c, rfl⟩ := h.f1.lrow
    have c2 : w2.cell? ⟨b, 2, none⟩ = some (.slice A l.length c) := h.cell 2
    obtain ⟨g2, rfl, d0, d1, d2⟩ := h.f1.lcell k x hx
    have hk : k < l.length := (List.getElem?_eq_some_iff.1 hx).1
    have hki : (k : Int) < l.length := by omega
    have H := Lib.hid h.f2
    rw [hpi]
    clear hf hx hpi ho h
    go_wp2_with (with_reducible refine at_slot (k := none) ?_; refine wpList_store_whole (o := ⟨none, _, _, _, _, _⟩) (cs := [.string ⟨#[]⟩, .float .f32 0, .int .i64 0]) (vs := enB x) H.out rfl (enB_all1 _) (by kernel_rfl) rfl rfl rfl rfl ?_; intro w3 h3)
    refine bodyPost_ret (results_arr Try.results23 rfl h3 Try.underlying62 rfl (by kernel_rfl)) rfl ⟨?_, h3.drop.toLim⟩
    rw [HO.out]
  | none =>
    have hpi : placeI l s = -1 := by unfold placeI; rw [hf]
    have ho : ofN burst l s now = ⟨s, burst, now⟩ := ofN_none hf
    have HO := Lib.hid ho
    obtain ⟨c0, c1⟩ := h.limRate
    have H := Lib.hid h.f1
    rw [hpi]
    clear hf hpi ho h
    go_wp2_with (with_reducible refine at_slot (k := none) ?_; refine wpList_store_whole (o := ⟨none, _, _, _, _, _⟩) (cs := [.string ⟨#[]⟩, .float .f32 0, .int .i64 0]) (vs := enB ⟨s, burst, now⟩) H.out rfl (enB_all1 _) (by kernel_rfl) rfl rfl rfl rfl ?_; intro w3 h3)
    refine bodyPost_ret (results_arr Try.results23 rfl h3 Try.underlying62 rfl (by kernel_rfl)) rfl ⟨?_, h3.drop⟩
    rw [HO.out]
end
end Go.Proofs.Ytnbpbonpcbemdaa
