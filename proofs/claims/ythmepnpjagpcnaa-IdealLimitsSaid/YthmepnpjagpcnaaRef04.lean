/- The reference's Value computes valS. -/
import Derived.Test.YthmepnpjagpcnaaVal
import Derived.Test.YthmepnpjagpcnaaEval2
import Derived.Test.YthmepnpjagpcnaaMkExpr
set_option linter.unusedVariables false
set_option maxRecDepth 100000
set_option linter.unusedSimpArgs false
namespace Go.Proofs.Ythmepnpjagpcnaa
open Go.RowKit Go.Proofs

theorem w64_in (x : Int) (h : -9223372036854775808 ≤ x ∧ x ≤ 9223372036854775807) : wrap64 x = x := by unfold wrap64; omega
/-- The number of a cell of an array, or a negative one. -/
def PlaceIs (len : Nat) (slot size i : Int) (w : World) (e : Ending) (w' : World) : Prop :=
  ∃ p : Int, e = .returned (.int .i64 p) ∧ (((0 ≤ i ∧ i < size) ∧ 0 ≤ slot + i ∧ slot + i < len) ∧ p = slot + i ∨ ¬ ((0 ≤ i ∧ i < size) ∧ 0 ≤ slot + i ∧ slot + i < len) ∧ p < 0) ∧ w = w'
/-- Which cell is read: the program and the reference agree. -/
theorem idxS_place {cells : List Int} {slot size i p : Int} (hs : I64 slot) (hz : I64 size) (hm : cells.length ≤ 9223372036854775807) (h : ((0 ≤ i ∧ i < size) ∧ 0 ≤ slot + i ∧ slot + i < cells.length) ∧ p = slot + i ∨ ¬ ((0 ≤ i ∧ i < size) ∧ 0 ≤ slot + i ∧ slot + i < cells.length) ∧ p < 0) : cellS cells p = idxS cells slot size i := by
  obtain ⟨hs1, hs2⟩ := hs
  obtain ⟨hz1, hz2⟩ := hz
  unfold idxS
  rcases h with ⟨h1, rfl⟩ | ⟨h1, h2⟩
  · rw [if_neg (by omega), w64_in _ (by omega)]
  · have h0 : cellS cells p = 0 := if_pos (.inl h2)
    rw [h0]
    by_cases hi : i < 0 ∨ size ≤ i
    · rw [if_pos hi]
    · rw [if_neg hi]
      have : cellS cells (wrap64 (slot + i)) = 0 := by
        unfold cellS
        refine if_pos ?_
        by_cases hb : slot + i ≤ 9223372036854775807
        · rw [w64_in _ (by omega)]; omega
        · left; unfold wrap64; omega
      exact this.symm
end Go.Proofs.Ythmepnpjagpcnaa
