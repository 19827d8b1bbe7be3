/- Slices of determinants that came in. -/
import Derived.Test.YtafgacfbplilpaaFlatIn
import Derived.Test.YtafgacfbplilpaaMkDets
set_option linter.unusedVariables false
namespace Go.Proofs.Ytafgacfbplilpaa
open Go.RowKit Go.Deep Go.Proofs

section
variable {H : Type} {enc' : TypeId × Value → H} {w : World} {base : Nat} {spare : Nat → Bool} {held : Bool}
theorem flat_Label : Flat enc' Try.prog w base spare held 69 2 :=
  flat_struct Try.underlying69 (by kernel_rfl) fun j hj => by
    match j, hj with
    | 0, _ => exact ⟨0, _, 1, rfl, by kernel_rfl, by decide, by decide, flat_int Try.underlying3⟩
    | 1, _ => exact ⟨1, _, 1, rfl, by kernel_rfl, by decide, by decide, flat_int Try.underlying3⟩
theorem flat_Event : Flat enc' Try.prog w base spare held 71 7 :=
  flat_struct Try.underlying71 (by kernel_rfl) fun j hj => by
    match j, hj with
    | 0, _ => exact ⟨0, _, 1, rfl, by kernel_rfl, by decide, by decide, flat_int Try.underlying3⟩
    | 1, _ => exact ⟨1, _, 1, rfl, by kernel_rfl, by decide, by decide, flat_int Try.underlying3⟩
    | 2, _ => exact ⟨2, _, 1, rfl, by kernel_rfl, by decide, by decide, flat_int Try.underlying3⟩
    | 3, _ => exact ⟨3, _, 2, rfl, by kernel_rfl, by decide, by decide, flat_Label⟩
    | 4, _ => exact ⟨3, _, 2, rfl, by kernel_rfl, by decide, by decide, flat_Label⟩
    | 5, _ => exact ⟨4, _, 1, rfl, by kernel_rfl, by decide, by decide, flat_int Try.underlying3⟩
    | 6, _ => exact ⟨5, _, 1, rfl, by kernel_rfl, by decide, by decide, flat_int Try.underlying3⟩
theorem flat_Det : Flat enc' Try.prog w base spare held 79 9 :=
  flat_struct Try.underlying79 (by kernel_rfl) fun j hj => by
    match j, hj with
    | 0, _ => exact ⟨0, _, 1, rfl, by kernel_rfl, by decide, by decide, flat_int Try.underlying3⟩
    | 1, _ => exact ⟨1, _, 1, rfl, by kernel_rfl, by decide, by decide, flat_int Try.underlying3⟩
    | 2, _ | 3, _ | 4, _ | 5, _ | 6, _ | 7, _ | 8, _ => exact ⟨2, _, 7, rfl, by kernel_rfl, by decide, by decide, flat_Event⟩
theorem el_Det (n : Nat) (cs : List Value) (y : DataW H × List MemPlace) (h : DataW.trod enc' Try.prog w base spare held n 79 cs = some y) : cs.length = 9 ∧ ∃ d : Dt, cs = encDt d := by
  obtain ⟨hl, hall⟩ := flat_Det n cs y h
  refine ⟨hl, ?_⟩
  obtain ⟨a0, h0, _⟩ := hall 0 (by omega)
  obtain ⟨a1, h1, _⟩ := hall 1 (by omega)
  obtain ⟨a2, h2, _⟩ := hall 2 (by omega)
  obtain ⟨a3, h3, _⟩ := hall 3 (by omega)
  obtain ⟨a4, h4, _⟩ := hall 4 (by omega)
  obtain ⟨a5, h5, _⟩ := hall 5 (by omega)
  obtain ⟨a6, h6, _⟩ := hall 6 (by omega)
  obtain ⟨a7, h7, _⟩ := hall 7 (by omega)
  obtain ⟨a8, h8, _⟩ := hall 8 (by omega)
  match cs, hl with
  | [c0, c1, c2, c3, c4, c5, c6, c7, c8], _ =>
    simp at h0 h1 h2 h3 h4 h5 h6 h7 h8
    subst h0 h1 h2 h3 h4 h5 h6 h7 h8
    exact ⟨⟨a0, a1, ⟨a2, a3, a4, a5, a6, a7, a8⟩⟩, rfl⟩
theorem dets_in {fuel : Nat} {A : Option Addr} {len cap : Nat} {x : DataW H × List MemPlace} (h : DataW.trod enc' Try.prog w base spare held fuel 22 [.slice A len cap] = some x) : ∃ l : List Dt, Sl encDt 9 w (· < w.heap.size) A len cap l := by
  obtain ⟨l, hl⟩ := slr_of_trod (R := fun cs a => cs = encDt a) (by omega) Try.underlying22 (by kernel_rfl) el_Det h
  exact ⟨l, sl_of_slr hl⟩
end
end Go.Proofs.Ytafgacfbplilpaa
