/- Base64, both ways, of the program and of the document. -/
import Derived.Test.YtilcilbmbhbakaaDoorRefSigns
namespace Go.Proofs.YtilcilbmbhbakaaDoor
open Go.RowKit
abbrev namesB : ByteArray := ⟨#[65, 66, 67, 68, 69, 70, 71, 72, 73, 74, 75, 76, 77, 78, 79, 80, 81, 82, 83, 84, 85, 86, 87, 88, 89, 90, 97, 98, 99, 100, 101, 102, 103, 104, 105, 106, 107, 108, 109, 110, 111, 112, 113, 114, 115, 116, 117, 118, 119, 120, 121, 122, 48, 49, 50, 51, 52, 53, 54, 55, 56, 57, 45, 95]⟩
abbrev mailB : ByteArray := ⟨#[65, 66, 67, 68, 69, 70, 71, 72, 73, 74, 75, 76, 77, 78, 79, 80, 81, 82, 83, 84, 85, 86, 87, 88, 89, 90, 97, 98, 99, 100, 101, 102, 103, 104, 105, 106, 107, 108, 109, 110, 111, 112, 113, 114, 115, 116, 117, 118, 119, 120, 121, 122, 48, 49, 50, 51, 52, 53, 54, 55, 56, 57, 43, 47]⟩
theorem names_size : namesB.size = 64 := by kernel_rfl
theorem mail_size : mailB.size = 64 := by kernel_rfl
/-- What is said, as a text. -/
def b64 (s : ByteArray) : ByteArray := ⟨(Six.enc (sgOf namesB) 0 0 s.data.toList).toArray⟩
def std (s : ByteArray) : ByteArray := ⟨(Six.enc (sgOf mailB) 0 0 s.data.toList ++ Six.fill s.size).toArray⟩
/-- A text that was read, or ErrCodecForm. -/
def readV : Option (List UInt8) → Value
  | some t => .tuple #[.string ⟨t.toArray⟩, .int .i64 0]
  | none => .tuple #[.string ⟨#[]⟩, .int .i64 24]
/-- What is read of a text by some signs, without filling. -/
def fromS (signs s : List UInt8) : Option (List UInt8) := if (unSix signs s).2 then some (unSix signs s).1 else none
theorem fromS_dec (signs s : List UInt8) : fromS signs s = match Six.dec (pl signs) 0 0 s with | some t => if Six.enc (fun k => signs.getD k 0) 0 0 t = s then some t else none | none => none := by
  unfold fromS unSix
  cases Six.dec (pl signs) 0 0 s with
  | none => rfl
  | some t =>
    simp only [unSixOf, beq_iff_eq]
theorem str_ne {a b : ByteArray} (h : ¬ a.data.toList = b.data.toList) : (a.toList == b.toList) = false := by
  rw [ByteArray.toList_eq, ByteArray.toList_eq, beq_eq_false_iff_ne]; exact h
section
variable {E : World} {L : List Hp}
theorem base64_any (s : ByteArray) (w : World) (hs : s.size ≤ 10000000000000) (h : Own E w L) :
    Calls Tryd.prog 26 #[.string s] w fun e w' => e = .returned (.string (b64 s)) ∧ Own E w' L := by
  go_enter Tryd.func26, Tryd.ntmps26
  go_wp2_with fail
  refine (sixes_any s namesB _ names_size hs h).mono ?_
  rintro e w1 ⟨rfl, h1⟩
  go_wp2_with fail
  go_ret
  exact ⟨rfl, h1⟩
theorem refbase64_any (s : ByteArray) (w : World) (hs : s.size ≤ 10000000000000) (h : Own E w L) :
    Calls Tryd.prog 29 #[.string s] w fun e w' => e = .returned (.string (b64 s)) ∧ Own E w' L := by
  go_enter Tryd.func29, Tryd.ntmps29
  go_wp2_with fail
  refine (refsigns_any s namesB false _ names_size hs h).mono ?_
  rintro e w1 ⟨rfl, h1⟩
  rw [← Six.enc_grp]
  go_wp2_with fail
  go_ret
  exact ⟨rfl, h1⟩
theorem frombase64_any (s : ByteArray) (w : World) (hs : s.size ≤ 10000000000000) (h : Own E w L) :
    Calls Tryd.prog 36 #[.string s] w fun e w' => e = .returned (readV (fromS namesB.data.toList s.data.toList)) ∧ Own E w' L := by
  obtain ⟨R, hR⟩ : ∃ R, R = fromS namesB.data.toList s.data.toList := ⟨_, rfl⟩
  rw [← hR]
  unfold fromS at hR
  have HR := Lib.hid hR
  clear hR
  go_enter Tryd.func36, Tryd.ntmps36
  go_wp2_with fail
  refine (fromSixes_any s namesB _ names_size hs h).mono ?_
  rintro e w1 ⟨rfl, h1⟩
  generalize unSix namesB.data.toList s.data.toList = u at *
  obtain ⟨t, ok⟩ := u
  cases ok with
  | true =>
    obtain rfl : R = some t := HR.out
    clear HR
    dsimp only
    go_wp2_with fail
    go_ret2
    exact ⟨rfl, h1⟩
  | false =>
    obtain rfl : R = none := HR.out
    clear HR
    dsimp only
    go_wp2_with fail
    go_ret2
    exact ⟨rfl, h1⟩
theorem reffrombase64_any (s : ByteArray) (w : World) (hs : s.size ≤ 10000000000000) (h : Own E w L) :
    Calls Tryd.prog 23 #[.string s] w fun e w' => e = .returned (readV (fromS namesB.data.toList s.data.toList)) ∧ Own E w' L := by
  obtain ⟨R, hR⟩ : ∃ R, R = fromS namesB.data.toList s.data.toList := ⟨_, rfl⟩
  rw [← hR]
  rw [fromS_dec] at hR
  have HR := Lib.hid hR
  clear hR
  go_enter Tryd.func23, Tryd.ntmps23
  go_wp2_with fail
  refine (refbytes_any s namesB _ names_size hs h).mono ?_
  rintro e w1 ⟨rfl, h1⟩
  cases hd : Six.dec (pl namesB.data.toList) 0 0 s.data.toList with
  | none =>
    obtain rfl : R = none := by have := HR.out; rw [hd] at this; exact this
    dsimp only [Option.getD, Option.isSome]
    clear hd HR
    go_wp2_with fail
    go_ret2
    exact ⟨rfl, h1⟩
  | some t =>
    have hl := dec_len _ _ _ _ _ hd
    have hsl : s.data.toList.length = s.size := rfl
    have hr := HR.out
    rw [hd] at hr
    have HR2 := Lib.hid hr
    dsimp only [Option.getD, Option.isSome]
    clear hd HR hr
    go_wp2_with fail
    refine (refsigns_any ⟨t.toArray⟩ namesB false _ names_size (by show t.length ≤ _; omega) h1).mono ?_
    rintro e w2 ⟨rfl, h2⟩
    rw [← Six.enc_grp, show (⟨t.toArray⟩ : ByteArray).data.toList = t from rfl]
    clear hl hsl
    by_cases heq : Six.enc (fun k => namesB.data.toList.getD k 0) 0 0 t = s.data.toList
    · obtain rfl : R = some t := HR2.out.trans (if_pos heq)
      have hes : (⟨(Six.enc (sgOf namesB) 0 0 t).toArray⟩ : ByteArray) = s := by
        show (⟨(Six.enc (fun k => namesB.data.toList.getD k 0) 0 0 t).toArray⟩ : ByteArray) = s
        rw [heq]
      rw [hes]
      clear heq hes HR2
      go_wp2_with fail
      go_ret2
      exact ⟨rfl, h2⟩
    · obtain rfl : R = none := HR2.out.trans (if_neg heq)
      have hzs : ((⟨(Six.enc (sgOf namesB) 0 0 t).toArray⟩ : ByteArray).toList == s.toList) = false := str_ne heq
      generalize (⟨(Six.enc (sgOf namesB) 0 0 t).toArray⟩ : ByteArray) = z at *
      clear heq HR2
      go_wp2_with fail
      go_ret2
      exact ⟨rfl, h2⟩
end
end Go.Proofs.YtilcilbmbhbakaaDoor
