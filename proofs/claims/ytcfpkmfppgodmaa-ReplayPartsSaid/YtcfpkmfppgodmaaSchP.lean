/- What a schedule holds, and that events with an order have one. No program in sight. -/
import Derived.Test.YtcfpkmfppgodmaaPatS
import Derived.Test.YtcfpkmfppgodmaaRs2
set_option linter.unusedVariables false
set_option linter.unusedSimpArgs false
namespace Go.Proofs.Ytcfpkmfppgodmaa
open Go.RowKit Go.Proofs

/-- The choices lead from these indexes to those. -/
inductive RunL (l : List (List Ev)) : List Int → List Chc → List Int → Prop
  | nil {at_ : List Int} : RunL l at_ [] at_
  | cons {at_ to_ : List Int} {w : List Chc} {q : Nat} (hq : q < l.length) (h0 : 0 ≤ at_.getD q 0) (hlt : at_.getD q 0 < (l.getD q []).length) (hp : possS l at_ q (evAt l at_ q) = true) (h : RunL l (incS at_ q) w to_) : RunL l at_ (chS q (evAt l at_ q) :: w) to_
theorem sched_run {l : List (List Ev)} {to_ at_ : List Int} {out : List Chc} {r : Option (List Chc)} (h : Sched l to_ at_ out r) : Rng l at_ to_ → ∀ w, r = some w → ∃ x, w = out ++ x ∧ RunL l at_ x to_ := by
  induction h with
  | done h =>
    intro _ w hw
    injection hw with hw
    subst h
    exact ⟨[], by simp [hw], .nil⟩
  | stuck _ _ => intro _ w hw; cases hw
  | @step at_ out r q h hq hs ih =>
    intro hr w hw
    have hc := hq.2.1
    simp only [canS, Bool.and_eq_true, decide_eq_true_eq] at hc
    obtain ⟨x, hx, hrun⟩ := ih (hr.inc hq.1 hc.1) w hw
    have h3 := hr.2.2 q hq.1
    exact ⟨chS q (evAt l at_ q) :: x, by rw [hx]; simp, .cons hq.1 h3.1 (by omega) hc.2 hrun⟩
/-- The events up to the ends need none beyond them. -/
def Shut (l : List (List Ev)) (at_ to_ : List Int) : Prop := ∀ (q k : Nat) (e : Ev), q < l.length → at_.getD q 0 ≤ k → (k : Int) < to_.getD q 0 → (l.getD q [])[k]? = some e → e.kind = 1 → e.sIdx ≤ to_.getD e.frm.toNat 0
theorem Shut.inc {l : List (List Ev)} {at_ to_ : List Int} {q : Nat} (h : Shut l at_ to_) (hq : q < at_.length) : Shut l (incS at_ q) to_ := fun p k e hp h1 h2 he hk => by
  refine h p k e hp ?_ h2 he hk
  by_cases hpq : q = p
  · subst hpq
    unfold incS at h1
    rw [getD_set_self hq] at h1
    omega
  · unfold incS at h1
    rw [getD_set_other hpq] at h1
    exact h1
theorem min_of {p : Nat → Prop} [DecidablePred p] (f : Nat → Nat) : ∀ (n : Nat), (∃ q, q < n ∧ p q) → ∃ q, q < n ∧ p q ∧ ∀ r, r < n → p r → f q ≤ f r
  | 0, h => by obtain ⟨q, hq, -⟩ := h; omega
  | n + 1, h => by
    by_cases h0 : ∃ q, q < n ∧ p q
    · obtain ⟨q, hq, hp, hmin⟩ := min_of f n h0
      by_cases hn : p n ∧ f n < f q
      · refine ⟨n, by omega, hn.1, fun r hr hpr => ?_⟩
        rcases Nat.lt_or_ge r n with h1 | h1
        · have := hmin r h1 hpr; omega
        · obtain rfl : r = n := by omega
          exact Nat.le_refl _
      · refine ⟨q, by omega, hp, fun r hr hpr => ?_⟩
        rcases Nat.lt_or_ge r n with h1 | h1
        · exact hmin r h1 hpr
        · obtain rfl : r = n := by omega
          rcases Nat.lt_or_ge (f r) (f q) with h2 | h2
          · exact absurd ⟨hpr, h2⟩ hn
          · exact h2
    · obtain ⟨q, hq, hp⟩ := h
      have hqn : q = n := by
        rcases Nat.lt_or_ge q n with h1 | h1
        · exact absurd ⟨q, h1, hp⟩ h0
        · omega
      subst hqn
      refine ⟨q, by omega, hp, fun r hr hpr => ?_⟩
      rcases Nat.lt_or_ge r q with h1 | h1
      · exact absurd ⟨r, h1, hpr⟩ h0
      · obtain rfl : r = q := by omega
        exact Nat.le_refl _
theorem LinFine.mono_le {ls : List Nat} {l : List (List Ev)} {rk : Nat → Nat → Nat} (h : LinFine ls l rk) (q : Nat) : ∀ (d k : Nat), k + d < ls.getD q 0 → rk q k ≤ rk q (k + d)
  | 0, k, _ => Nat.le_refl _
  | d + 1, k, hk => by
    have h1 := h.mono_le q d k (by omega)
    have h2 := h.mono q (k + d) (by omega)
    have : k + (d + 1) = k + d + 1 := by omega
    rw [this]
    omega
theorem not_stuck {ls : List Nat} {l : List (List Ev)} {rk : Nat → Nat → Nat} (hf : LinFine ls l rk) {at_ to_ : List Int} (hr : Rng l at_ to_) (hc : Shut l at_ to_) (hne : at_ ≠ to_) : ∃ q, q < l.length ∧ canS l to_ at_ q = true := by
  have hpend : ∃ q, q < l.length ∧ at_.getD q 0 < to_.getD q 0 := by
    refine Classical.byContradiction fun hno => hne (ext_getD (by rw [hr.1, hr.2.1]) fun j hj => ?_)
    have h3 := hr.2.2 j (by rw [← hr.1]; exact hj)
    have : ¬ at_.getD j 0 < to_.getD j 0 := fun hlt => hno ⟨j, by rw [← hr.1]; exact hj, hlt⟩
    omega
  obtain ⟨q, hq, hlt, hmin⟩ := min_of (p := fun q => at_.getD q 0 < to_.getD q 0) (fun q => rk q (at_.getD q 0).toNat) l.length hpend
  refine ⟨q, hq, ?_⟩
  unfold canS
  have h3 := hr.2.2 q hq
  have hlq : (l.getD q []).length = ls.getD q 0 := hf.lens q (by rw [← hf.len]; exact hq)
  obtain ⟨k, hk⟩ : ∃ k : Nat, at_.getD q 0 = k := ⟨(at_.getD q 0).toNat, by omega⟩
  have hkl : k < (l.getD q []).length := by omega
  have hev : evAt l at_ q = (l.getD q [])[k] := by unfold evAt; rw [hk, Int.toNat_natCast]; exact getD_of (List.getElem?_eq_getElem hkl)
  have hge := List.getElem?_eq_getElem hkl
  rw [← hev] at hge
  rw [Bool.and_eq_true]
  refine ⟨by simpa using hlt, ?_⟩
  generalize evAt l at_ q = e at hge hev
  by_cases h1 : e.kind = 1
  · obtain ⟨g1, g2, g3, g4, g5, g6, g7⟩ := hf.ev q k e hge h1
    rw [possS_lab h1, g6]
    have d1 : decide (0 ≤ e.frm) = true := by simpa using g1
    have d2 : decide (e.frm < (l.length : Int)) = true := by simpa using g2
    have d3 : decide (e.frm ≠ (q : Int)) = true := by simpa using g3
    rw [d1, d2, d3]
    simp only [Bool.and_true, Bool.true_and, decide_eq_true_eq]
    refine Classical.byContradiction fun hno => ?_
    obtain ⟨p, hp⟩ : ∃ p : Nat, e.frm = p := ⟨e.frm.toNat, by omega⟩
    have hpt : e.frm.toNat = p := by omega
    rw [hpt] at hno g5 g7
    have hpl : p < l.length := by omega
    have h4 := hr.2.2 p hpl
    have hcl := hc q k e hq (by omega) (by omega) hge h1
    rw [hpt] at hcl
    have hm := hmin p hpl (by omega)
    obtain ⟨i, hi⟩ : ∃ i : Nat, at_.getD p 0 = i := ⟨(at_.getD p 0).toNat, by omega⟩
    have h7 := g7 (by omega)
    have h8 := hf.mono_le p (e.sIdx.toNat - 1 - i) i (by omega)
    have e8 : i + (e.sIdx.toNat - 1 - i) = e.sIdx.toNat - 1 := by omega
    rw [e8] at h8
    have e9 : (at_.getD q 0).toNat = k := by omega
    have e10 : (at_.getD p 0).toNat = i := by omega
    rw [e9, e10] at hm
    omega
  · unfold possS
    rw [if_neg h1]
theorem first_of {p : Nat → Bool} : ∀ (n : Nat), (∃ q, q < n ∧ p q = true) → ∃ q, FirstIs p n q := by
  intro n h
  obtain ⟨q, hq, hp, hm⟩ := min_of (p := fun q => p q = true) id n h
  refine ⟨q, hq, hp, fun i hi => ?_⟩
  cases hpi : p i
  · rfl
  · have := hm i (by omega) hpi
    simp at this
    omega
/-- A schedule of such events is never stuck. -/
theorem sched_full {ls : List Nat} {l : List (List Ev)} {rk : Nat → Nat → Nat} (hf : LinFine ls l rk) {to_ at_ : List Int} {out : List Chc} {r : Option (List Chc)} (h : Sched l to_ at_ out r) : Rng l at_ to_ → Shut l at_ to_ → ∃ w, r = some w := by
  induction h with
  | done h => exact fun _ _ => ⟨_, rfl⟩
  | stuck h hn =>
    intro hr hc
    obtain ⟨q, hq, hcan⟩ := not_stuck hf hr hc h
    rw [hn q hq] at hcan
    cases hcan
  | step h hq hs ih =>
    intro hr hc
    have hcan := hq.2.1
    simp only [canS, Bool.and_eq_true, decide_eq_true_eq] at hcan
    exact ih (hr.inc hq.1 hcan.1) (hc.inc (by rw [hr.1]; exact hq.1))
end Go.Proofs.Ytcfpkmfppgodmaa
