/- Readers of bytes and names, said weakly: letter, digit. -/
import Derived.Test.YtecckbkobkfnmaaDoorRead1
set_option linter.unusedVariables false
set_option linter.unusedSimpArgs false
set_option maxRecDepth 100000
namespace Go.Proofs.YtecckbkobkfnmaaDoor
open Go.RowKit Go.Proofs

def SomeQ (w : World) (e : Ending) (w' : World) : Prop := ∃ b, e = .returned (.bool b) ∧ w = w'
theorem letter_any (w : World) (x : Int) : Calls Tryd.prog 88 #[.int .u8 x] w (SomeQ w) := by
  go_enter Tryd.func88, Tryd.ntmps88
  go_wp2_with fail
  all_goals (go_ret; exact ⟨_, rfl, rfl⟩)
theorem digit_any (w : World) (x : Int) : Calls Tryd.prog 90 #[.int .u8 x] w (SomeQ w) := by
  go_enter Tryd.func90, Tryd.ntmps90
  go_wp2_with fail
  all_goals (go_ret; exact ⟨_, rfl, rfl⟩)
end Go.Proofs.YtecckbkobkfnmaaDoor
