/- The calls of package scope, and the reference's, on lists that are lent. -/
import Derived.Test.YtgedjkcpgagnbaaDoorLaw6
namespace Go.Proofs.YtgedjkcpgagnbaaDoor
open Go.RowKit
/-- In w lists lie in a part T that is lent, which holds S. -/
structure Lent (E : World) (S : Ph) (L : List Hp) (w : World) (T : Ph) (l : List (Option Addr × Nat × List ByteArray)) : Prop where
  own : Own E w (Hp.ro T :: L)
  ext : Ext S T
  lists : Lists T l
section
variable {E : World} {S T : Ph} {L : List Hp} {l : List (Option Addr × Nat × List ByteArray)} {w : World}
theorem Max0.ext (h : Max0 E (Hp.ro S :: L)) (he : Ext S T) : Max0 E (Hp.ro T :: L) := h.imp fun _ h w hw => h w (hw.shrink he)
theorem Lent.back (h : Lent E S L w T l) : Own E w (Hp.ro S :: L) := h.own.shrink h.ext
theorem Lent.start (h : Own E w (Hp.ro S :: L)) : Lent E S L w S [] := ⟨h, Ext.refl S, Lists.nil S⟩
theorem Lent.more {v : Value} {xs : List ByteArray} {w' : World} (hl : Lists T l) (he : Ext S T) (h : Own E w' (Hp.lst ST v (xs.map Value.string) :: Hp.ro T :: L)) :
    ∃ T' A c, v = .slice A xs.length c ∧ Lent E S L w' T' ((A, c, xs) :: l) := by
  obtain ⟨T', A, c, h1, h2, h3, h4⟩ := h.lendL hl
  exact ⟨T', A, c, h2, h4, he.trans h1, h3⟩
theorem Lent.lit (xs : List ByteArray) (hn : xs.length ≤ 100) (h : Lent E S L w T l) : ∃ T', Lent E S L (w.alloc (.cells (xs.map Value.string).toArray ST)) T' ((some ⟨w.heap.size, 0, none⟩, xs.length, xs) :: l) := by
  obtain ⟨T', h1, h2, h3⟩ := Own.lendLit xs h.lists hn (h.own.alloc (.cells (xs.map Value.string).toArray ST))
  exact ⟨T', h3, h.ext.trans h1, h2⟩
theorem lparse (s : ByteArray) (hs : s.size ≤ 4000000000) (hM : Max0 E (Hp.ro S :: L)) (h : Lent E S L w T l) :
    Calls Tryd.prog 10 #[.string s] w fun e w' => ∃ T' A c, e = .returned (.tuple #[.slice A (parseV s).1.length c, .int .i64 (parseV s).2]) ∧ Lent E S L w' T' ((A, c, (parseV s).1) :: l) := by
  refine (scparse_any s w hs (hM.ext h.ext) h.own).mono ?_
  rintro e w' ⟨v, rfl, h2⟩
  obtain ⟨T', A, c, rfl, h3⟩ := Lent.more h.lists h.ext h2
  exact ⟨T', A, c, rfl, h3⟩
theorem lxparse (s : ByteArray) (hs : s.size ≤ 4000000000) (h : Lent E S L w T l) :
    Calls Tryd.prog 11 #[.string s] w fun e w' => ∃ T' A c, e = .returned (.tuple #[.slice A (parseV s).1.length c, .int .i64 (parseV s).2]) ∧ Lent E S L w' T' ((A, c, (parseV s).1) :: l) := by
  refine (xparse_any s w hs h.own).mono ?_
  rintro e w' ⟨v, rfl, h2⟩
  obtain ⟨T', A, c, rfl, h3⟩ := Lent.more h.lists h.ext h2
  exact ⟨T', A, c, rfl, h3⟩
theorem lprint (i : Nat) {A : Option Addr} {c : Nat} {xs : List ByteArray} (hi : l[i]? = some (A, c, xs)) (hn : xs.length ≤ 8796093022208) (h : Lent E S L w T l) :
    Calls Tryd.prog 20 #[.slice A xs.length c] w fun e w' => e = .returned (.tuple #[.string (scTxt xs), .int .i64 (scErr xs)]) ∧ Lent E S L w' T l :=
  (print_any A xs.length c xs w (h.lists.at_ i hi).1 (h.lists.at_ i hi).2 hn h.own).mono fun _ _ hh => ⟨hh.1, hh.2, h.ext, h.lists⟩
theorem lright (i : Nat) {A : Option Addr} {c : Nat} {xs : List ByteArray} (hi : l[i]? = some (A, c, xs)) (hn : xs.length ≤ 8796093022208) (h : Lent E S L w T l) :
    Calls Tryd.prog 19 #[.slice A xs.length c] w fun e w' => e = .returned (.bool (decide (scErr xs = 0))) ∧ Lent E S L w' T l :=
  (right_any A xs.length c xs w (h.lists.at_ i hi).1 (h.lists.at_ i hi).2 hn h.own).mono fun _ _ hh => ⟨hh.1, hh.2, h.ext, h.lists⟩
theorem lsame (i j : Nat) {A B : Option Addr} {c d : Nat} {xs ys : List ByteArray} (hi : l[i]? = some (A, c, xs)) (hj : l[j]? = some (B, d, ys)) (hn : xs.length ≤ 8796093022208) (h : Lent E S L w T l) :
    Calls Tryd.prog 12 #[.slice A xs.length c, .slice B ys.length d] w fun e w' => e = .returned (.bool (decide (xs = ys))) ∧ Lent E S L w' T l :=
  (same_any A B xs.length c ys.length d xs ys w (seen_list (h.lists.at_ i hi).1) (seen_list (h.lists.at_ j hj).1) (by omega) h.own).mono fun _ _ hh => ⟨hh.1, hh.2, h.ext, h.lists⟩
theorem lwithin (i j : Nat) {A B : Option Addr} {c d : Nat} {xs ys : List ByteArray} (hi : l[i]? = some (A, c, xs)) (hj : l[j]? = some (B, d, ys)) (hn : xs.length ≤ 8796093022208) (hm : ys.length ≤ 8796093022208) (h : Lent E S L w T l) :
    Calls Tryd.prog 24 #[.slice A xs.length c, .slice B ys.length d] w fun e w' => e = .returned (.bool (withinV xs ys)) ∧ Lent E S L w' T l :=
  (within6_any A B xs.length c ys.length d xs ys w (h.lists.at_ i hi).1 (h.lists.at_ j hj).1 (h.lists.at_ i hi).2 (h.lists.at_ j hj).2 hn hm h.own).mono fun _ _ hh => ⟨hh.1, hh.2, h.ext, h.lists⟩
theorem ljoin (i j : Nat) {A B : Option Addr} {c d : Nat} {xs ys : List ByteArray} (hi : l[i]? = some (A, c, xs)) (hj : l[j]? = some (B, d, ys)) (hn : xs.length ≤ 8796093022208) (hm : ys.length ≤ 8796093022208) (h : Lent E S L w T l) :
    Calls Tryd.prog 23 #[.slice A xs.length c, .slice B ys.length d] w fun e w' => ∃ T' A' c', e = .returned (.tuple #[.slice A' (joinV xs ys).1.length c', .int .i64 (joinV xs ys).2]) ∧ Lent E S L w' T' ((A', c', (joinV xs ys).1) :: l) := by
  refine (join6_any A B xs.length c ys.length d xs ys w (h.lists.at_ i hi).1 (h.lists.at_ j hj).1 (h.lists.at_ i hi).2 (h.lists.at_ j hj).2 hn hm h.own).mono ?_
  rintro e w' ⟨v, rfl, h2⟩
  obtain ⟨T', A', c', rfl, h3⟩ := Lent.more h.lists h.ext h2
  exact ⟨T', A', c', rfl, h3⟩
theorem lmeet (i j : Nat) {A B : Option Addr} {c d : Nat} {xs ys : List ByteArray} (hi : l[i]? = some (A, c, xs)) (hj : l[j]? = some (B, d, ys)) (hn : xs.length ≤ 8796093022208) (hm : ys.length ≤ 8796093022208) (h : Lent E S L w T l) :
    Calls Tryd.prog 21 #[.slice A xs.length c, .slice B ys.length d] w fun e w' => ∃ T' A' c', e = .returned (.slice A' (thoseV xs ys true).length c') ∧ Lent E S L w' T' ((A', c', thoseV xs ys true) :: l) := by
  refine (meet6_any A B xs.length c ys.length d xs ys w (h.lists.at_ i hi).1 (h.lists.at_ j hj).1 (h.lists.at_ i hi).2 (h.lists.at_ j hj).2 hn hm h.own).mono ?_
  rintro e w' ⟨v, rfl, h2⟩
  obtain ⟨T', A', c', rfl, h3⟩ := Lent.more h.lists h.ext h2
  exact ⟨T', A', c', rfl, h3⟩
theorem lminus (i j : Nat) {A B : Option Addr} {c d : Nat} {xs ys : List ByteArray} (hi : l[i]? = some (A, c, xs)) (hj : l[j]? = some (B, d, ys)) (hn : xs.length ≤ 8796093022208) (hm : ys.length ≤ 8796093022208) (h : Lent E S L w T l) :
    Calls Tryd.prog 22 #[.slice A xs.length c, .slice B ys.length d] w fun e w' => ∃ T' A' c', e = .returned (.slice A' (thoseV xs ys false).length c') ∧ Lent E S L w' T' ((A', c', thoseV xs ys false) :: l) := by
  refine (minus6_any A B xs.length c ys.length d xs ys w (h.lists.at_ i hi).1 (h.lists.at_ j hj).1 (h.lists.at_ i hi).2 (h.lists.at_ j hj).2 hn hm h.own).mono ?_
  rintro e w' ⟨v, rfl, h2⟩
  obtain ⟨T', A', c', rfl, h3⟩ := Lent.more h.lists h.ext h2
  exact ⟨T', A', c', rfl, h3⟩
end
abbrev bs (l : List UInt8) : ByteArray := ⟨l.toArray⟩
theorem aw1 : parseV (bs [119, 114, 105, 116, 101, 32, 114, 101, 97, 100, 32, 119, 114, 105, 116, 101]) = ([bs [114, 101, 97, 100], bs [119, 114, 105, 116, 101]], 0) := by kernel_rfl
theorem aw2 : parseV (bs [97, 32, 32, 98]) = ([], 60) := by kernel_rfl
theorem aw3 : scTxt [bs [114, 101, 97, 100], bs [119, 114, 105, 116, 101]] = bs [114, 101, 97, 100, 32, 119, 114, 105, 116, 101] := by kernel_rfl
theorem aw3e : scErr [bs [114, 101, 97, 100], bs [119, 114, 105, 116, 101]] = 0 := by kernel_rfl
theorem aw4 : joinV [bs [97], bs [99]] [bs [98]] = ([bs [97], bs [98], bs [99]], 0) := by kernel_rfl
theorem aw5 : thoseV [bs [97], bs [98]] [bs [98], bs [99]] true = [bs [98]] := by kernel_rfl
theorem aw6 : thoseV [bs [97], bs [98]] [bs [98], bs [99]] false = [bs [97]] := by kernel_rfl
theorem aw7 : withinV [bs [114, 101, 97, 100]] [bs [114, 101, 97, 100], bs [119, 114, 105, 116, 101]] = true := by kernel_rfl
theorem aw8 : withinV [bs [114, 101, 97, 100], bs [119, 114, 105, 116, 101]] [bs [114, 101, 97, 100]] = false := by kernel_rfl
end Go.Proofs.YtgedjkcpgagnbaaDoor
