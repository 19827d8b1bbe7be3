/- Slices of integers that came in, as the row's frame gives them, read as lists. -/
import Derived.Test.YtcfpkmfppgodmaaBase
import Derived.OpenShut
set_option linter.unusedVariables false
namespace Go.Proofs.Ytcfpkmfppgodmaa
open Go.RowKit

theorem sl_of_ints {k : IntKind} {w : World} {a : Option Addr} {len cap : Nat} {zs : List Int}
    (h : (a = none ∧ len = 0 ∧ cap = 0 ∧ zs = []) ∨ ∃ x, a = some x ∧ len ≤ cap ∧ cap ≤ maxLen ∧ zs.length = cap ∧ (∀ i, i < zs.length → w.cell? (x.add i) = some (.int k (zs.getD i 0))) ∧ ∀ n ∈ zs, (Lit.int k n).wf = true) :
    Sl (fun x : Int => [.int k x]) 1 w (· < w.heap.size) a len cap (zs.take len) := by
  rcases h with ⟨rfl, rfl, rfl, rfl⟩ | ⟨x, rfl, h1, h2, h3, h4, _⟩
  · exact Sl.nil_
  · refine ⟨by simp; omega, h1, h2, by rw [flat_length (size := 1) (fun _ => rfl)]; simp; omega, fun hn => ?_⟩
    obtain ⟨b, off, spot⟩ := x
    have h0 := h4 0 (by omega)
    have hs : spot = none := by simpa [Addr.add] using World.cell?_spot h0
    subst hs
    refine ⟨b, off, rfl, ?_, fun j u hu => ?_⟩
    · have := World.block_lt_of_cell? w _ h0
      simpa [Addr.add] using this
    · have hj : j < len := by
        have := (List.getElem?_eq_some_iff.1 hu).1
        rw [flat_length (size := 1) (fun _ => rfl)] at this
        simp at this
        omega
      have hc := h4 j (by omega)
      rw [add_lit'] at hc
      rw [hc]
      have e : ((zs.take len).flatMap fun x : Int => [Value.int k x])[j]? = some (.int k (zs.getD j 0)) := by
        have := flat_get (enc := fun x : Int => [Value.int k x]) (size := 1) (fun _ => rfl) (zs.take len) j 0 (by simp; omega) (by omega)
        simp only [Nat.mul_one, Nat.add_zero] at this
        rw [this]
        simp [show j < zs.length by omega]
      rw [e] at hu
      exact hu
theorem wf_take {k : IntKind} {len : Nat} {zs : List Int} (h : ∀ n ∈ zs, (Lit.int k n).wf = true) : ∀ n ∈ zs.take len, (Lit.int k n).wf = true := fun n hn => h n (List.mem_of_mem_take hn)
theorem wf_ints {k : IntKind} {w : World} {a : Option Addr} {len cap : Nat} {zs : List Int}
    (h : (a = none ∧ len = 0 ∧ cap = 0 ∧ zs = []) ∨ ∃ x, a = some x ∧ len ≤ cap ∧ cap ≤ maxLen ∧ zs.length = cap ∧ (∀ i, i < zs.length → w.cell? (x.add i) = some (.int k (zs.getD i 0))) ∧ ∀ n ∈ zs, (Lit.int k n).wf = true) :
    ∀ n ∈ zs.take len, (Lit.int k n).wf = true := by
  rcases h with ⟨rfl, rfl, rfl, rfl⟩ | ⟨x, rfl, _, _, _, _, h⟩
  · simp
  · exact wf_take h
theorem i64_of_wf {x : Int} (h : (Lit.int .i64 x).wf = true) : I64 x := by
  have := bounds_i64 h
  exact ⟨by omega, by omega⟩
theorem u8_of_wf {x : Int} (h : (Lit.int .u8 x).wf = true) : 0 ≤ x ∧ x < 256 := by
  have := bounds_u8 h
  omega
end Go.Proofs.Ytcfpkmfppgodmaa
