/- Contract of the maker's Mod. -/
import Derived.Test.YtecckbkobkfnmaaDoorProg
import Derived.Test.YtecckbkobkfnmaaDoorBase
set_option linter.unusedVariables false
set_option linter.unusedSimpArgs false
namespace Go.Proofs.YtecckbkobkfnmaaDoor
open Go.RowKit Go.Proofs

def ModIs (v : Int) (w : World) (e : Ending) (w' : World) : Prop := e = .returned (.int .i64 v) ∧ w = w'
def modv (x n : Int) : Int := x % n
theorem mod_is (x n : Int) (w : World) (hx : -9223372036854775808 ≤ x ∧ x ≤ 9223372036854775807) (h1 : 1 ≤ n) (h2 : n ≤ 1000000) : Calls Tryd.prog 28 #[.int .i64 x, .int .i64 n] w (ModIs (modv x n) w) := by
  obtain ⟨hx1, hx2⟩ := hx
  have e1 : x.tmod n = if 0 ≤ x ∨ n ∣ x then x % n else x % n - n := by rw [Int.tmod_eq_emod]; split <;> simp; omega
  have b0 := Int.emod_nonneg x (show n ≠ 0 by omega)
  have b1 := Int.emod_lt_of_pos x (show 0 < n by omega)
  have b2 : -n < x.tmod n := by rw [e1]; split <;> omega
  have b3 : x.tmod n < n := by rw [e1]; split <;> omega
  by_cases h : x.tmod n < 0
  · have hr : x.tmod n + n = modv x n := by unfold modv; rw [e1] at h ⊢; split at h <;> rename_i hc <;> simp only [hc, if_true, if_false] <;> omega
    have HR := Lib.hid hr
    clear hr e1 b0 b1
    go_enter Tryd.func28, Tryd.ntmps28
    go_wp2_with fail
    go_ret
    exact ⟨by simp [HR.out], rfl⟩
  · have hr : x.tmod n = modv x n := by unfold modv; rw [e1] at h ⊢; split at h <;> rename_i hc <;> simp only [hc, if_true, if_false] <;> omega
    have HR := Lib.hid hr
    clear hr e1 b0 b1
    go_enter Tryd.func28, Tryd.ntmps28
    go_wp2_with fail
    go_ret
    exact ⟨by simp [HR.out], rfl⟩
theorem modv_lt (x n : Int) (h : 1 ≤ n) : 0 ≤ modv x n ∧ modv x n < n := ⟨Int.emod_nonneg x (by omega), Int.emod_lt_of_pos x (by omega)⟩
end Go.Proofs.YtecckbkobkfnmaaDoor
