/- What the listed variables hold, as the walks ask it. -/
import Derived.Test.YtfleindknalckaaDoorMkExpr
import Derived.ProofKit
import Derived.LaidMore
import Derived.OpenShut
import Derived.Stop.Joined
set_option linter.unusedVariables false
namespace Go.Proofs.YtfleindknalckaaDoor
open Go.ChangeShapes Go.WideShapes Go.ChangeAt Go.RowKit

/-- An array of strings that was read: its cells are strings. -/
theorem strs_of_trod {H : Type} {enc : TypeId × Value → H} {W : World} {base : Nat} {spare : Nat → Bool} {held : Bool} {t n fuel : Nat} {cs : List Value} {x : DataW H × List MemPlace} (ht : Tryd.prog.underlying t = some (.array n 9))
    (h : DataW.trod enc Tryd.prog W base spare held fuel t cs = some x) : ∀ i, i < n → ∃ s, cs[i]? = some (.string s) := by
  obtain ⟨xs, m, rfl, hx, hl, hn, hel⟩ := DataW.trod_array ht h
  intro i hi
  have hi' := hel i hi
  have c1 : Tryd.prog.cellsOf 9 = 1 := by kernel_rfl
  rw [c1, List.getElem?_eq_getElem (by omega)] at hi'
  obtain ⟨s, e1, _⟩ := DataW.trod_string Tryd.underlying9 hi'
  refine ⟨s, ?_⟩
  have := congrArg (fun l : List Value => l[0]?) e1
  simpa using this
theorem tScalars : (Tryd.prog.globals[0]?).map (·.type) = some 46 := by kernel_rfl
theorem tArrays : (Tryd.prog.globals[1]?).map (·.type) = some 47 := by kernel_rfl
theorem laid_in {W : World} {n1 n2 : String} {d1 d2 : DataW Unit} (gScalars : Tryd.prog.globalNamed n1 = some 0) (gArrays : Tryd.prog.globalNamed n2 = some 1) (h : laidMet Tryd.prog [(n1, d1), (n2, d2)] W) : Glob W := by
  obtain ⟨ps, ⟨g0, t0, cs0, f0, p0, q0, hg0, ht0, hv0, hd0, ⟨g1, t1, cs1, f1, p1, q1, hg1, ht1, hv1, hd1, _, _⟩, _⟩, _, _⟩ := h
  obtain rfl := Option.some.inj (gScalars.symm.trans hg0)
  obtain rfl := Option.some.inj (gArrays.symm.trans hg1)
  obtain rfl := Option.some.inj (tScalars.symm.trans ht0)
  obtain rfl := Option.some.inj (tArrays.symm.trans ht1)
  have h1 : ∀ i, i < 3 → ∃ s, W.cell? ⟨0, i, none⟩ = some (.string s) := fun i hi => by
    obtain ⟨s, hs⟩ := strs_of_trod Tryd.underlying46 hd0 i hi
    exact ⟨s, by rw [World.var?_cell hg0 hv0 i]; simpa using hs⟩
  have h2 : ∀ i, i < 2 → ∃ s, W.cell? ⟨1, i, none⟩ = some (.string s) := fun i hi => by
    obtain ⟨s, hs⟩ := strs_of_trod Tryd.underlying47 hd1 i hi
    exact ⟨s, by rw [World.var?_cell hg1 hv1 i]; simpa using hs⟩
  refine ⟨h1, h2, ?_⟩
  obtain ⟨s, hs⟩ := h1 0 (by omega)
  obtain ⟨s', hs'⟩ := h2 0 (by omega)
  have a := World.block_lt_of_cell? W _ hs
  have b := World.block_lt_of_cell? W _ hs'
  simp at a b
  omega
end Go.Proofs.YtfleindknalckaaDoor
