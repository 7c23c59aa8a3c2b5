/- The law of waiting, in plain Lean; latchkeylaw24.name. -/
import Derived.Test.YtnbpbonpcbemdaaLimC
namespace Go.Proofs.Ytnbpbonpcbemdaa
open Go.RowKit
/-- What is kept is no later than now. -/
def upTo (l : List Bkt) (now : Int) : Prop := ∀ x ∈ l, x.at_ ≤ now
theorem findN_head (x : Bkt) (l : List Bkt) : findN (x :: l) x.name = some 0 := by unfold findN; rw [if_pos rfl]
theorem tookN_head {rate burst : Nat} {l : List Bkt} {s : ByteArray} {cost : Nat} {now : Int} (t : Int) : ofN burst (tookN rate burst l s cost now) s t = ⟨s, Fl.D (hasN rate burst l s now) (Fl.Z cost), max (nearN now) (ofN burst l s (nearN now)).at_⟩ := by
  unfold tookN
  rw [List.take_succ_cons]
  exact ofN_some (findN_head _ _) rfl
theorem tookN_upTo {rate burst : Nat} {l : List Bkt} {s : ByteArray} {cost : Nat} {now : Int} (h : upTo l now) (hn : 0 ≤ now ∧ now ≤ 1099511627776) : upTo (tookN rate burst l s cost now) now := by
  intro x hx
  rcases List.mem_cons.1 (List.mem_of_mem_take hx) with rfl | hx
  · show max (nearN now) _ ≤ now
    rw [nearN_same hn]
    rcases ofN_mem (burst := burst) (l := l) (s := s) (now := now) with h1 | h1
    · have := h _ h1; omega
    · rw [h1]; show max now now ≤ now; omega
  · exact h x (dropN_mem hx)
theorem hasN_took {rate burst : Nat} {l : List Bkt} {s : ByteArray} {cost : Nat} {now : Int} : hasN rate burst (tookN rate burst l s cost now) s now = Fl.D (hasN rate burst l s now) (Fl.Z cost) := by
  show levelN rate burst (ofN burst (tookN rate burst l s cost now) s (nearN now)) (nearN now) = _
  rw [tookN_head]
  exact if_pos (by show nearN now ≤ max (nearN now) _; omega)
theorem ofN_kept {burst : Nat} {l : List Bkt} {s : ByteArray} {k : Nat} (h : findN l s = some k) (t u : Int) : ofN burst l s t = ofN burst l s u := by
  obtain ⟨x, hx, -, -⟩ := findN_some h
  rw [ofN_some h hx, ofN_some h hx]
/-- The level of a name that is kept, later. -/
theorem hasN_later {rate burst : Nat} {l : List Bkt} {s : ByteArray} {k : Nat} (h : findN l s = some k) {now : Int} (hn : 0 ≤ now) (hu : upTo l now) (d : Nat) (h1 : 1 ≤ d) (h2 : now + d ≤ 1099511627776) :
    hasN rate burst l s (now + d) = Fl.fillN rate burst (ofN burst l s now).level ((now - (ofN burst l s now).at_).toNat + d) := by
  obtain ⟨x, hx, -, -⟩ := findN_some h
  have hxa := hu x (List.mem_of_getElem? hx)
  unfold hasN
  rw [nearN_same ⟨by omega, h2⟩, ofN_some h hx, ofN_some h hx]
  unfold levelN
  rw [if_neg (by omega)]
  congr 1
  omega
theorem hasN_none {rate burst : Nat} {l : List Bkt} {s : ByteArray} (h : findN l s = none) (t : Int) : hasN rate burst l s t = burst := by
  unfold hasN
  rw [ofN_none h]
  exact if_pos (Int.le_refl _)
theorem big_int : Fl.R 1099511627775 0 = Fl.R 1099511627776 0 := by kernel_rfl
theorem fill_big (rate burst level : Nat) : Fl.fillN rate burst level 1099511627775 = Fl.fillN rate burst level 1099511627776 := by
  unfold Fl.fillN Fl.sumN; rw [big_int]
theorem wait_facts {rate burst cost W : Nat} {l : List Bkt} {s : ByteArray} {now : Int} (hb : burst < 2139095040) (hok : LimOk burst l) (hn : 0 ≤ now ∧ now ≤ 549755813888) (hu : upTo l now) (hlt : hasN rate burst l s now < Fl.Z cost)
    (hW : IsWait (fun d => enoughB rate burst (ofN burst l s (nearN now)).level cost ((nearN now - (ofN burst l s (nearN now)).at_).toNat + d)) W) :
    1 ≤ W ∧ W ≤ 1099511627776 ∧ (W = 1099511627776 → hasN rate burst l s 1099511627776 < Fl.Z cost) ∧
    (W < 1099511627776 → ∀ d : Nat, 1 ≤ d → now + d ≤ 1099511627776 → (d < W → hasN rate burst l s (now + d) < Fl.Z cost) ∧ (d = W → Fl.Z cost ≤ hasN rate burst l s (now + d))) := by
  have hnear : nearN now = now := nearN_same ⟨hn.1, by omega⟩
  rw [hnear] at hW
  cases hf : findN l s with
  | none =>
    have hall : ∀ t, hasN rate burst l s t = burst := hasN_none hf
    rw [hall] at hlt
    rw [ofN_none hf] at hW
    have hen : enoughB rate burst burst cost ((now - now).toNat + 1099511627776) = false := by
      unfold enoughB
      rw [Fl.fillN_full _ _ _ (by omega)]
      exact decide_eq_false (by omega)
    rcases hW with ⟨-, rfl⟩ | ⟨a, -⟩
    · refine ⟨by omega, by omega, fun _ => by rw [hall]; exact hlt, fun h => by omega⟩
    · have a' : enoughB rate burst burst cost ((now - now).toNat + 1099511627776) = true := a
      rw [hen] at a'; cases a'
  | some k =>
    have hl := fun d h1 h2 => hasN_later (rate := rate) (burst := burst) hf hn.1 hu d h1 h2
    obtain ⟨x, hx, -, -⟩ := findN_some hf
    have hxa := hu x (List.mem_of_getElem? hx)
    have hxb := hok.at_ x (List.mem_of_getElem? hx)
    have hox : ofN burst l s now = x := ofN_some hf hx
    rw [hox] at hW hl
    obtain ⟨gone, hg⟩ : ∃ gone : Nat, gone = (now - x.at_).toNat := ⟨_, rfl⟩
    rw [← hg] at hW hl
    obtain ⟨m, hm⟩ : ∃ m : Nat, now = (m : Int) := ⟨now.toNat, by omega⟩
    have hF : enoughB rate burst x.level cost (gone + 1099511627776) = false → hasN rate burst l s 1099511627776 < Fl.Z cost := fun a => by
      have a' := of_decide_eq_false a
      have e := hl (1099511627776 - m) (by omega) (by omega)
      rw [show now + ((1099511627776 - m : Nat) : Int) = 1099511627776 by omega] at e
      rw [e]
      have := Fl.fillN_mono rate burst x.level (show gone + (1099511627776 - m) ≤ gone + 1099511627776 by omega) (by omega)
      omega
    rcases hW with ⟨a, rfl⟩ | ⟨a, b1, b2, b3, b4⟩
    · exact ⟨by omega, by omega, fun _ => hF a, fun h => by omega⟩
    · refine ⟨b1, b2, fun hw => ?_, fun hw d h1 h2 => ⟨fun h3 => ?_, fun h3 => ?_⟩⟩
      · rcases Nat.eq_zero_or_pos m with h0 | h0
        · have c := b4 1099511627775 (by omega) (by omega)
          have c' := of_decide_eq_false c
          have e := hl 1099511627776 (by omega) (by omega)
          rw [show now + ((1099511627776 : Nat) : Int) = 1099511627776 by omega] at e
          rw [e]
          obtain rfl : gone = 0 := by omega
          rw [Nat.zero_add] at c' ⊢
          rw [fill_big] at c'
          omega
        · have c := of_decide_eq_false (b4 (1099511627776 - m) (by omega) (by omega))
          have e := hl (1099511627776 - m) (by omega) (by omega)
          rw [show now + ((1099511627776 - m : Nat) : Int) = 1099511627776 by omega] at e
          rw [e]; omega
      · rw [hl d h1 h2]
        have := of_decide_eq_false (b4 d h1 h3)
        omega
      · rw [hl d h1 h2, h3]
        exact of_decide_eq_true b3
def nmS (k : Nat) : ByteArray := ⟨#[110, UInt8.ofNat (97 + k)]⟩
theorem nmS_name : ∀ k, k < 20 → nameB (nmS k) = true := by decide
theorem nmS_size (k : Nat) : (nmS k).size ≤ 1000000000000000000 := by show 2 ≤ _; omega
section
variable {E : World} {L : List Hp}
set_option maxHeartbeats 4000000 in
theorem name_any (k : Nat) (s : ByteArray) (w : World) (hk : k < 20) (h : Own E w L) :
    Calls Try.prog 10 #[.int .i64 k, .string s] w fun e w' => e = .returned (.string (nmS k)) ∧ Own E w' L := by
  have kp := fun w => pick_any (k : Int) 20 w (by omega) (by omega) (by omega)
  have hpk : pickN (k : Int) 20 = k := by
    unfold pickN; rw [if_neg (by omega)]; omega
  rw [hpk] at kp
  have h2 := h.alloc (.cells #[.int .u8 (UInt8.ofNat (97 + k)).toNat] U8)
  have hrd : RdC (w.alloc (.cells #[.int .u8 (UInt8.ofNat (97 + k)).toNat] U8)) (some ⟨w.heap.size, 0, none⟩) ([UInt8.ofNat (97 + k)].map V8') := RdC.of_block h2.at_ _ (fun j u hu => by simpa [V8'] using hu)
  have hcv := sl_to_string (P := Try.prog) (src := BT) (dst := ST) (e := U8) (by kernel_rfl) (by kernel_rfl) (by kernel_rfl) (some ⟨w.heap.size, 0, none⟩) [UInt8.ofNat (97 + k)] 1 1 rfl hrd
  have e0 : IntKind.i64.wrap (97 + (k : Int)) = 97 + (k : Int) := IntWalk.i64_in _ (by omega)
  have e1 : IntKind.u8.wrap (97 + (k : Int)) = ((UInt8.ofNat (97 + k)).toNat : Int) := by
    rw [UInt8.toNat_ofNat', show (97 : Int) + k = ((97 + k : Nat) : Int) by omega]; simp [IntKind.wrap, IntKind.signed, IntKind.bits]
  have e3 : (⟨#[110]⟩ : ByteArray) ++ (⟨[UInt8.ofNat (97 + k)].toArray⟩ : ByteArray) = nmS k := by
    apply ByteArray.ext
    rw [ByteArray.data_append]; rfl
  obtain ⟨c, hc⟩ : ∃ c, c = UInt8.ofNat (97 + k) := ⟨_, rfl⟩
  rw [← hc] at h2 hcv e1 e3
  have i0 : ¬ (20 : Int) ≤ k := by omega
  have H2 := Lib.hid h2.drop
  have E3 := Lib.hid e3
  clear h h2 hrd e3 hpk hc
  go_enter Try.func10, Try.ntmps10
  go_wp2_with fail
  refine (kp _).mono ?_
  rintro e w1 ⟨rfl, rfl⟩
  go_wp2_with (with_reducible refine at_slot (k := some 13) ?_; refine wpList_conv_run (o := ⟨some 13, _, _, _, _, _⟩) hcv rfl rfl rfl ?_; clear hcv)
  go_ret
  exact ⟨congrArg (fun s => Ending.returned (.string s)) E3.out, H2.out⟩
end
end Go.Proofs.Ytnbpbonpcbemdaa
