/- latchkeytop.Names answers true and leaves the heap as it was. -/
import Derived.Test.YtoffckcajdijdaaRows
import Derived.Test.YtoffckcajdijdaaSl
import Derived.WalkSpells
import Derived.WalkLawsBesides
namespace Go.Proofs.Ytoffckcajdijdaa
open Go.RowKit

theorem num_any (n : Int) (w : World) : Calls Try.prog 4 #[.int .i64 n] w fun e w' => e = .returned (.int .i64 n) ∧ w = w' := by
  go_enter Try.func4, Try.ntmps4
  go_wp2
  all_goals go_ret
  all_goals exact ⟨rfl, rfl⟩

theorem names_true {E : World} {L : List Hp} {w : World} (h : Own E w L) : Calls Try.prog 3 #[] w fun e w' => e = .returned (.bool true) ∧ Own E w' L := by
  go_enter Try.func3, Try.ntmps3
  go_wp2_with (go_at_call 4; refine (num_any _ _).mono ?_; rintro e w' ⟨rfl, rfl⟩)
  all_goals go_ret
  all_goals exact ⟨rfl, by assumption⟩
end Go.Proofs.Ytoffckcajdijdaa
