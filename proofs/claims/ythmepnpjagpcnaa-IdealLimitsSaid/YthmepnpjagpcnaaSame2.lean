/- ref06.Same and process.Same: written by gen_same2.py. -/
import Derived.Test.YthmepnpjagpcnaaSame
import Derived.Test.YthmepnpjagpcnaaProcR2
set_option linter.unusedVariables false
set_option linter.unusedSimpArgs false
set_option maxRecDepth 100000
namespace Go.Proofs.Ythmepnpjagpcnaa
open Go.RowKit Go.Proofs

theorem St_ext (a b : St) : a = b ↔ a.cells = b.cells ∧ a.events = b.events ∧ a.sent = b.sent ∧ a.outs = b.outs := by
  cases a; cases b; simp
def SmPost (p : Prop) (w : World) (e : Ending) (w' : World) : Prop := ∃ b : Bool, (b = true ↔ p) ∧ e = .returned (.bool b) ∧ Keep w w'
/-- A state's lists are of a size that the tests can count. -/
def Fine (s : St) : Prop := s.cells.length ≤ 1000000 ∧ s.events.length ≤ 1000000 ∧ s.sent.length ≤ 1000000 ∧ s.outs.length ≤ 1000000
end Go.Proofs.Ythmepnpjagpcnaa
