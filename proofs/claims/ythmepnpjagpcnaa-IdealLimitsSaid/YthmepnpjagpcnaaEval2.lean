/- Contracts: the reference's Apply, the maker's Mod. -/
import Derived.Test.YthmepnpjagpcnaaEval
set_option linter.unusedVariables false
set_option maxRecDepth 100000
set_option linter.unusedSimpArgs false
namespace Go.Proofs.Ythmepnpjagpcnaa
open Go.RowKit Go.Proofs

theorem quo_neg (a : Int) : quoS a (-1) = wrap64 (-a) := by simp [quoS, Int.tdiv_neg]
theorem rem_neg (a : Int) : remS a (-1) = 0 := by simp [remS, Int.tmod_neg]
def modS (x n : Int) : Int := x % n
theorem mod_any (x n : Int) (w : World) (hx : -9223372036854775808 ≤ x ∧ x ≤ 9223372036854775807) (h1 : 1 ≤ n) (h2 : n ≤ 4611686018427387904) : Calls Try.prog 23 #[.int .i64 x, .int .i64 n] w (IntIs (modS x n) w) := by
  obtain ⟨hx1, hx2⟩ := hx
  have e1 : x.tmod n = if 0 ≤ x ∨ n ∣ x then x % n else x % n - n := by rw [Int.tmod_eq_emod]; split <;> simp; omega
  have b0 := Int.emod_nonneg x (show n ≠ 0 by omega)
  have b1 := Int.emod_lt_of_pos x (show 0 < n by omega)
  have b2 : -n < x.tmod n := by rw [e1]; split <;> omega
  have b3 : x.tmod n < n := by rw [e1]; split <;> omega
  by_cases h : x.tmod n < 0
  · have hr : x.tmod n + n = modS x n := by unfold modS; rw [e1] at h ⊢; split at h <;> rename_i hc <;> simp only [hc, if_true, if_false] <;> omega
    have HR := Lib.hid hr
    clear hr e1 b0 b1
    go_enter Try.func23, Try.ntmps23
    go_wp2_with fail
    go_ret
    exact ⟨by simp [HR.out], rfl⟩
  · have hr : x.tmod n = modS x n := by unfold modS; rw [e1] at h ⊢; split at h <;> rename_i hc <;> simp only [hc, if_true, if_false] <;> omega
    have HR := Lib.hid hr
    clear hr e1 b0 b1
    go_enter Try.func23, Try.ntmps23
    go_wp2_with fail
    go_ret
    exact ⟨by simp [HR.out], rfl⟩
theorem modS_lt (x n : Int) (h : 1 ≤ n) : 0 ≤ modS x n ∧ modS x n < n := ⟨Int.emod_nonneg x (by omega), Int.emod_lt_of_pos x (by omega)⟩
end Go.Proofs.Ythmepnpjagpcnaa
