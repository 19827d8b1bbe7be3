/- Readers of declarations, said weakly: cells, Lookup, names, declared. -/
import Derived.Test.YtecckbkobkfnmaaDoorRead4
import Derived.Test.YtecckbkobkfnmaaDoorName
set_option linter.unusedVariables false
set_option linter.unusedSimpArgs false
set_option maxRecDepth 100000
namespace Go.Proofs.YtecckbkobkfnmaaDoor
open Go.RowKit Go.Proofs

theorem cells_any (w : World) (name : ByteArray) (size init : Int) : Calls Tryd.prog 67 #[.agg #[.string name, .int .i64 size, .int .i64 init]] w (SomeI 1 2147483649 w) := by
  go_enter Tryd.func67, Tryd.ntmps67
  go_wp2_with fail
  all_goals (go_ret; refine ⟨_, ?_, rfl, Keep.new _ _⟩; (repeat' split) <;> omega)
def VarsR (w : World) (S : Nat → Prop) (A : Option Addr) (m c : Nat) (vs : List Vr) : Prop := Sl encVr 3 w S A m c vs ∧ m ≤ 1000 ∧ ∀ v ∈ vs, I64 v.size
def LookPost (w : World) (e : Ending) (w' : World) : Prop := ∃ (s z : Int) (b : Bool), e = .returned (.tuple #[.int .i64 s, .int .i64 z, .bool b]) ∧ I64 s ∧ I64 z ∧ Keep w w'
end Go.Proofs.YtecckbkobkfnmaaDoor
