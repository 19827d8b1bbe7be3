/- Lineages that have an order have a witness. No program in sight. -/
import Derived.Test.YtcfpkmfppgodmaaSchO
set_option linter.unusedVariables false
set_option linter.unusedSimpArgs false
namespace Go.Proofs.Ytcfpkmfppgodmaa
open Go.RowKit Go.Proofs

theorem zerosL_getD (n q : Nat) : (zerosL n).getD q 0 = 0 := by
  unfold zerosL
  simp only [List.getD, List.getElem?_replicate]
  split <;> rfl
theorem lensL_getD (l : List (List Ev)) (q : Nat) : (lensL l).getD q 0 = ((l.getD q []).length : Int) := by
  unfold lensL
  simp only [List.getD, List.getElem?_map]
  cases l[q]? <;> rfl
theorem rng_full (l : List (List Ev)) : Rng l (zerosL l.length) (lensL l) := by
  refine ⟨by simp [zerosL], by simp [lensL], fun q hq => ?_⟩
  rw [zerosL_getD, lensL_getD]
  omega
theorem LinFine.shut {ls : List Nat} {l : List (List Ev)} {rk : Nat → Nat → Nat} (hf : LinFine ls l rk) (at_ : List Int) : Shut l at_ (lensL l) := fun q k e hq _ _ he hk => by
  obtain ⟨g1, g2, g3, g4, g5, g6, g7⟩ := hf.ev q k e he hk
  rw [lensL_getD, hf.lens _ (by rw [← hf.len]; omega)]
  exact g5
theorem LinFine.lenAt {ls : List Nat} {l : List (List Ev)} {rk : Nat → Nat → Nat} (hf : LinFine ls l rk) (hls : ∀ q, ls.getD q 0 ≤ 100) : ∀ q, (l.getD q []).length ≤ 100 := fun q => by
  rcases Nat.lt_or_ge q ls.length with h | h
  · rw [hf.lens q h]; exact hls q
  · have : l.getD q [] = [] := by
      have h2 : l[q]? = none := List.getElem?_eq_none (by rw [hf.len]; exact h)
      simp [List.getD, h2]
    rw [this]; exact Nat.zero_le _
/-- Between indexes and ends that need none beyond them there is an order. -/
theorem sched_open {ls : List Nat} {l : List (List Ev)} {rk : Nat → Nat → Nat} {fr to_ : List Int} {w w' : World} {e : Ending} (hf : LinFine ls l rk) (hr : Rng l fr to_) (hs : Shut l fr to_) (h : SchPost l fr to_ w e w') :
    ∃ (out : List Chc) (A : Option Addr) (n c : Nat), e = .returned (.tuple #[.slice A n c, .bool true]) ∧ RunL l fr out to_ ∧ SchIs l fr to_ (some out) ∧ Keep w w' ∧ Sl encCh 6 w' (fun i => w.heap.size ≤ i ∧ i < w'.heap.size) A n c out := by
  obtain ⟨r, hi, hk, hcs⟩ := h
  have hi' := hi
  rcases hi with ⟨-, hsc⟩ | ⟨hn, -⟩
  · obtain ⟨x, rfl⟩ := sched_full hf hsc hr hs
    obtain ⟨y, hy, hrun⟩ := sched_run hsc hr x rfl
    simp only [List.nil_append] at hy
    subst hy
    rcases hcs with ⟨h1, -⟩ | ⟨out, A, n, c, h1, rfl, hs3⟩
    · cases h1
    · injection h1 with h1
      subst h1
      exact ⟨x, A, n, c, rfl, hrun, hi', hk, hs3⟩
  · exact absurd hr hn
theorem RunL.inv {l : List (List Ev)} {at_ to_ : List Int} {x : Chc} {w : List Chc} (h : RunL l at_ (x :: w) to_) :
    ∃ q, q < l.length ∧ 0 ≤ at_.getD q 0 ∧ at_.getD q 0 < (l.getD q []).length ∧ possS l at_ q (evAt l at_ q) = true ∧ x = chS q (evAt l at_ q) ∧ RunL l (incS at_ q) w to_ := by
  cases h with
  | cons hq h0 hlt hp h => exact ⟨_, hq, h0, hlt, hp, rfl, h⟩
theorem RunL.inv_nil {l : List (List Ev)} {at_ to_ : List Int} (h : RunL l at_ [] to_) : at_ = to_ := by
  cases h
  rfl
theorem incS_len (at_ : List Int) (q : Nat) : (incS at_ q).length = at_.length := by simp [incS]
end Go.Proofs.Ytcfpkmfppgodmaa
