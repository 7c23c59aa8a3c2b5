/- The library's maps.Copy, maps.Keys, slices.Collect at scope.names, among the parts of memory. -/
import Derived.Test.YtgedjkcpgagnbaaDoorShelf5
import Derived.Test.YtgedjkcpgagnbaaDoorRef6e
namespace Go.Proofs.YtgedjkcpgagnbaaDoor
open Go.RowKit Go.Maps Go.Sort
section
variable {E : World} {S : Ph} {L : List Hp}
/-- The names that are a map's keys. -/
def Keyd (D : DataW Unit) (xs : List ByteArray) : Prop := ∀ s, has D (keyL s) = true ↔ s ∈ xs
theorem Counts.keyd {D : DataW Unit} {xs : List ByteArray} (h : Counts D xs) : Keyd D xs := fun s => by rw [h.has_]; simp
theorem merge_has {w : World} {b n b2 n2 : Nat} {D D2 : DataW Unit} (h1 : w.ownsMap Tryd.prog ST intEl b n D) (h2 : w.ownsMap Tryd.prog ST intEl b2 n2 D2) {xs ys : List ByteArray} (hx : Keyd D xs) (hy : Keyd D2 ys) : Keyd (Lib.mergeD D D2) (xs ++ ys) := fun s => by
  obtain ⟨es, rfl, -, hk⟩ := h2.entries st_keyed
  show has (es.foldl (fun D p => D.put p.1 p.2) D) (keyL s) = true ↔ _
  rw [has_foldPut (keyL s) es D h1.isMap hk, Bool.or_eq_true, hx s, List.mem_append]
  have e : (es.any fun p => p.1.sameKey (keyL s)) = has (.map es : DataW Unit) (keyL s) := rfl
  rw [e, hy s]
theorem copy_any (b n b2 n2 : Nat) (D D2 : DataW Unit) (w : World) (hn : n ≤ 8796093022208) (hn2 : n2 ≤ 8796093022208) (h : Own E w (Hp.mp Tryd.prog ST intEl b n D :: Hp.mp Tryd.prog ST intEl b2 n2 D2 :: L)) :
    Calls Tryd.prog 45 #[.map (some b), .map (some b2)] w fun e w' => e = .returned (.tuple #[]) ∧ Own E w' (Hp.mp Tryd.prog ST intEl b (n + n2) (Lib.mergeD D D2) :: Hp.mp Tryd.prog ST intEl b2 n2 D2 :: L) := by
  have hs := h.f1.mpOwns.size_le
  have hne : b ≠ b2 := by
    obtain ⟨es, clock, -, -, -, ho⟩ := h.mp_obj
    obtain ⟨es2, clock2, -, -, -, ho2⟩ := ho.f1.mp_obj
    exact ho2.f1.ne
  refine (AnyX.maps_Copy Tryd.copyN st_keyed intEl b b2 n n2 D D2 w h.mpOwns h.f1.mpOwns hne (by unfold maxLen; omega)).mono ?_
  rintro e w' ⟨rfl, h1, -, h3⟩
  exact ⟨rfl, h.mpTurn (h1.mono (by omega)) h3⟩
theorem keys_any (b : Nat) (w : World) (h : Own E w L) :
    Calls Tryd.prog 57 #[.map (some b)] w fun e w' => e = .returned (.func (.func 67) #[] #[.pointer (some ⟨w.heap.size, 0, none⟩)]) ∧ Own E w' (Hp.blk w.heap.size NMT #[.map (some b)] :: L) := by
  have hK := AnyZ.keys_in Tryd.keysN Fence.wide 5 trivial rfl (some b) w
  refine (callsIn_wide.1 hK).mono ?_
  rintro e w' ⟨rfl, rfl⟩
  exact ⟨rfl, h.alloc _⟩
theorem strKeys_nodup {w : World} {b n : Nat} {D : DataW Unit} (hown : w.ownsMap Tryd.prog ST intEl b n D) : (strKeys D).Nodup ∧ ∀ x, x ∈ strKeys D ↔ has D (.string x) = true := by
  obtain ⟨es, hD, hpw, -⟩ := hown.entries st_keyed
  obtain ⟨es', hD', hko⟩ := hown.keysOf
  obtain rfl : es = es' := by rw [hD] at hD'; simpa using hD'
  subst hD
  have hk : ∀ p ∈ es, ∃ x, p.1 = .string x := fun p hp => by
    obtain ⟨v, hv⟩ := hko p hp
    obtain ⟨x, _, hx, _⟩ := Maps.keyOf_str st_str hv
    exact ⟨x, hx⟩
  refine ⟨?_, fun x => ?_⟩
  · show (es.map fun p => strOf p.1).Nodup
    refine List.pairwise_map.2 (hpw.imp_of_mem fun {p q} hp' hq' hne e => hne ?_)
    obtain ⟨a, ha⟩ := hk p hp'
    obtain ⟨b, hb⟩ := hk q hq'
    rw [ha, hb] at e ⊢
    exact congrArg _ e
  · show x ∈ es.map (fun p => strOf p.1) ↔ _
    rw [List.mem_map, has_eq, List.any_eq_true]
    constructor
    · rintro ⟨p, hp', rfl⟩
      obtain ⟨a, ha⟩ := hk p hp'
      exact ⟨p, hp', by rw [ha]; simp [Lit.sameKey, strOf]⟩
    · rintro ⟨p, hp', hs⟩
      obtain ⟨a, ha⟩ := hk p hp'
      rw [ha] at hs
      exact ⟨p, hp', by rw [ha]; simpa [Lit.sameKey, strOf] using hs⟩
theorem collect_any (b n bx : Nat) (D : DataW Unit) (w : World) (hn : n ≤ 8796093022208) (h : Own E w (Hp.blk bx NMT #[.map (some b)] :: Hp.mp Tryd.prog ST intEl b n D :: L)) :
    Calls Tryd.prog 56 #[.func (.func 67) #[] #[.pointer (some ⟨bx, 0, none⟩)]] w fun e w' => ∃ (v : Value) (ss : List ByteArray), e = .returned v ∧ ss.Nodup ∧ ss.length ≤ n ∧ (∀ s, s ∈ ss ↔ has D (keyL s) = true) ∧
      Own E w' (Hp.lst ST v (ss.map Value.string) :: Hp.mp Tryd.prog ST intEl b n D :: L) := by
  have hown := h.f1.mpOwns
  have hs := hown.size_le
  have hseq : SeqGives Fence.wide 3 Tryd.prog 67 #[.pointer (some ⟨bx, 0, none⟩)] encStr (fun ss => ss.Perm (strKeys D)) (Maps.size D) w :=
    AnyZ.keys_gives (ρ := Tryd.keysN_ren) { Tryd.keysN with } Fence.wide _ trivial rfl (by omega) bx b n D w (Own.lt h) (h.cell 0) hown
  have hC := AnyZ.collect_in Tryd.collectN Fence.wide 5 trivial trivial rfl (by omega) 67 #[.pointer (some ⟨bx, 0, none⟩)] trivial (enters_of Tryd.func67 (by kernel_rfl) rfl) _ (Maps.size D) (by unfold maxLen; omega) (by omega) w hseq
  refine (callsIn_wide.1 hC).mono ?_
  rintro e w' ⟨v, ss, rfl, hp, hrow, -, hb⟩
  obtain ⟨hnd, hmem⟩ := strKeys_nodup hown
  have hlen : ss.length ≤ n := by
    rw [hp.length_eq]
    obtain ⟨es, hD, -⟩ := hown.entries st_keyed
    have e1 : (strKeys D).length = Maps.size D := by rw [hD]; show (es.map _).length = es.length; simp
    omega
  have hnd2 : ss.Nodup := hp.nodup_iff.2 hnd
  refine ⟨v, ss.map fun b => ⟨b.toArray⟩, rfl, ?_, by rw [List.length_map]; exact hlen, fun s => ?_, ?_⟩
  · refine List.pairwise_map.2 (hnd2.imp fun {a b} h e => h ?_)
    have := congrArg (fun s : ByteArray => s.data.toList) e
    simpa using this
  · rw [List.mem_map]
    constructor
    · rintro ⟨b, hb, rfl⟩
      exact (hmem b).1 (hp.mem_iff.1 hb)
    · intro h2
      exact ⟨s.data.toList, hp.mem_iff.2 ((hmem _).2 h2), rfl⟩
  · have e2 : (ss.map fun b => (⟨b.toArray⟩ : ByteArray)).map Value.string = ss.map encStr := by rw [List.map_map]; rfl
    rw [e2]
    obtain ⟨hl, ⟨rfl, h0⟩ | ⟨g, cap, cur, rfl, hg, hcell, hnc, hcm, hsz, htk⟩⟩ := hrow
    · have e3 : ss = [] := List.eq_nil_of_length_eq_zero h0
      subst e3
      exact (h.ofBelow hb).drop.emptyLst ST none
    · have hobj := h.adopt hb (Ph.one g (.cells cur ST (0, 0))) (fun k o hk => by
        unfold Ph.one at hk
        split at hk
        · rename_i ek
          subst ek
          injection hk with hk
          subst hk
          exact ⟨hg, hcell⟩
        · cases hk)
      rw [Nat.mul_one] at htk hsz
      have h3 := Own.mtoLst (xs := ss.map encStr) (Own.toMk (show Own E w' (Hp.blk g ST cur :: _) from hobj)) cap (by omega) hcm (by rw [List.length_map]; exact hnc) (by rw [List.length_map]; exact htk)
      rw [List.length_map] at h3
      exact h3.f1.drop
end
end Go.Proofs.YtgedjkcpgagnbaaDoor
