/- The reference's machine: simple. -/
import Derived.Test.YthmepnpjagpcnaaRMach2
set_option linter.unusedVariables false
set_option linter.unusedSimpArgs false
set_option maxRecDepth 100000
namespace Go.Proofs.Ythmepnpjagpcnaa
open Go.RowKit Go.Proofs

theorem set_in {m : Ms} {j : Nat} (h : j < m.cells.length) (x : Int) : m.set j x = { m with cells := m.cells.set j x } := by
  unfold Ms.set; rw [if_pos (by omega)]; simp
theorem set_out {m : Ms} {k : Int} (h : ¬ (0 ≤ k ∧ k < m.cells.length)) (x : Int) : m.set k x = m := if_neg h
end Go.Proofs.Ythmepnpjagpcnaa
