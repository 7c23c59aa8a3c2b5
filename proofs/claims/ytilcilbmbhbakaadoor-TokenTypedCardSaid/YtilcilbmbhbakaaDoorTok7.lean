/- latchkeylaw17.awake; TokenParses. -/
import Derived.Test.YtilcilbmbhbakaaDoorTok6
namespace Go.Proofs.YtilcilbmbhbakaaDoor
open Go.RowKit
abbrev ssS : ByteArray := ⟨#[115, 115, 115, 115, 115, 115, 115, 115, 115, 115, 115, 115, 115, 115, 115, 115, 115, 115, 115, 115, 115, 115, 115, 115]⟩
abbrev tokS : ByteArray := ⟨#[108, 107, 114, 95, 65, 65, 65, 65, 65, 65, 65, 65, 65, 65, 100, 122, 99, 51, 78, 122, 99, 51, 78, 122, 99, 51, 78, 122, 99, 51, 78, 122, 99, 51, 78, 122, 99, 51, 78, 122, 99, 51, 78, 122, 99, 51, 79, 50, 45, 98, 113, 118]⟩
theorem k_mint : mintV 1 7 ssS = (tokS, 0) := by kernel_rfl
theorem k_mint3 : mintV 3 7 ssS = (⟨#[]⟩, 1) := by kernel_rfl
theorem k_parse : parseV 1 tokS = (7, ssS, 0) := by kernel_rfl
theorem k_parse2 : parseV 2 tokS = (0, ⟨#[]⟩, 170) := by kernel_rfl
section
variable {E : World} {L : List Hp}
set_option maxRecDepth 100000 in
theorem awake_any (a0 a1 a2 : Addr) (w : World) (hG : Sent E L a0 a1 a2) (h : Own E w L) :
    Calls Tryd.prog 7 #[] w fun e w' => e = .returned (.bool true) ∧ Own E w' L := by
  go_enter Tryd.func7, Tryd.ntmps7
  go_wp2_with fail
  refine (mint_any 1 7 ssS tokS 0 _ k_mint h).mono ?_
  rintro e w1 ⟨rfl, h1⟩
  go_wp2_with fail
  refine (parse_any 1 tokS a0 a1 a2 7 ssS 0 _ k_parse (by omega) hG h1).mono ?_
  rintro e w2 ⟨rfl, h2⟩
  go_wp2_with fail
  refine (parse_any 2 tokS a0 a1 a2 0 ⟨#[]⟩ 170 _ k_parse2 (by omega) hG h2).mono ?_
  rintro e w3 ⟨rfl, h3⟩
  go_wp2_with fail
  refine (mint_any 3 7 ssS ⟨#[]⟩ 1 _ k_mint3 h3).mono ?_
  rintro e w4 ⟨rfl, h4⟩
  go_wp2_with fail
  go_ret
  exact ⟨rfl, h4⟩
theorem parses_any (k : Int) (s : ByteArray) (a0 a1 a2 : Addr) (w : World) (hk : -9223372036854775808 ≤ k ∧ k ≤ 9223372036854775807) (hG : Sent E L a0 a1 a2) (h : Own E w L) :
    Calls Tryd.prog 3 #[.int .i64 k, .string s] w fun e w' => e = .returned (.bool true) ∧ Own E w' L := by
  by_cases hc : 2147483647 < s.size
  · have hci : (2147483647 : Int) < s.size := by omega
    go_enter Tryd.func3, Tryd.ntmps3
    go_wp2_with fail
    go_ret
    exact ⟨rfl, h⟩
  have hci : ¬ (2147483647 : Int) < s.size := by omega
  obtain ⟨id, v, c, hr⟩ : ∃ id v c, parseV k s = (id, v, c) := ⟨_, _, _, rfl⟩
  have HR := Lib.hid hr
  clear hr hc
  go_enter Tryd.func3, Tryd.ntmps3
  go_wp2_with fail
  refine (awake_any a0 a1 a2 _ hG h).mono ?_
  rintro e w1 ⟨rfl, h1⟩
  go_wp2_with fail
  refine (parse_any k s a0 a1 a2 id v c _ HR.out hk hG h1).mono ?_
  rintro e w2 ⟨rfl, h2⟩
  go_wp2_with fail
  refine (xparse_any k s id v c _ HR.out h2).mono ?_
  rintro e w3 ⟨rfl, h3⟩
  go_wp2_with fail
  go_ret
  exact ⟨rfl, h3⟩
end
end Go.Proofs.YtilcilbmbhbakaaDoor
