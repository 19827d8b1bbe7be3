/- The order of events, in plain Lean. -/
import Derived.Test.YtcfpkmfppgodmaaSched1
set_option linter.unusedVariables false
set_option linter.unusedSimpArgs false
namespace Go.Proofs.Ytcfpkmfppgodmaa
open Go.RowKit Go.Proofs

def evAt (l : List (List Ev)) (at_ : List Int) (q : Nat) : Ev := (l.getD q []).getD (at_.getD q 0).toNat ⟨0, 0, 0, 0, 0, 0, 0⟩
def canS (l : List (List Ev)) (to_ at_ : List Int) (q : Nat) : Bool := decide (at_.getD q 0 < to_.getD q 0) && possS l at_ q (evAt l at_ q)
def incS (at_ : List Int) (q : Nat) : List Int := at_.set q (at_.getD q 0 + 1)
def FirstIs (p : Nat → Bool) (n q : Nat) : Prop := q < n ∧ p q = true ∧ ∀ i, i < q → p i = false
theorem FirstIs.eq {p : Nat → Bool} {n a b : Nat} (h : FirstIs p n a) (k : FirstIs p n b) : a = b := by
  rcases Nat.lt_trichotomy a b with q | q | q
  · have := k.2.2 a q; rw [h.2.1] at this; cases this
  · exact q
  · have := h.2.2 b q; rw [k.2.1] at this; cases this
inductive Sched (l : List (List Ev)) (to_ : List Int) : List Int → List Chc → Option (List Chc) → Prop
  | done {at_ : List Int} {out : List Chc} (h : at_ = to_) : Sched l to_ at_ out (some out)
  | stuck {at_ : List Int} {out : List Chc} (h : at_ ≠ to_) (hn : ∀ q, q < l.length → canS l to_ at_ q = false) : Sched l to_ at_ out none
  | step {at_ : List Int} {out : List Chc} {r : Option (List Chc)} {q : Nat} (h : at_ ≠ to_) (hq : FirstIs (canS l to_ at_) l.length q) (hs : Sched l to_ (incS at_ q) (out ++ [chS q (evAt l at_ q)]) r) : Sched l to_ at_ out r
theorem Sched.det {l : List (List Ev)} {to_ at_ : List Int} {out : List Chc} {r : Option (List Chc)} (h : Sched l to_ at_ out r) : ∀ {r' : Option (List Chc)}, Sched l to_ at_ out r' → r = r' := by
  induction h with
  | done h =>
    intro r' k
    cases k with
    | done _ => rfl
    | stuck g _ => exact absurd h g
    | step g _ _ => exact absurd h g
  | stuck h hn =>
    intro r' k
    cases k with
    | done g => exact absurd g h
    | stuck _ _ => rfl
    | step _ g _ => have := hn _ g.1; rw [g.2.1] at this; cases this
  | step h hq hs ih =>
    intro r' k
    cases k with
    | done g => exact absurd g h
    | stuck _ g => have := g _ hq.1; rw [hq.2.1] at this; cases this
    | step _ g ks => have e := hq.eq g; subst e; exact ih ks
/-- The indexes lie between 0 and the ends. -/
def Rng (l : List (List Ev)) (at_ to_ : List Int) : Prop :=
  at_.length = l.length ∧ to_.length = l.length ∧ ∀ q, q < l.length → 0 ≤ at_.getD q 0 ∧ at_.getD q 0 ≤ to_.getD q 0 ∧ to_.getD q 0 ≤ (l.getD q []).length
theorem getD_set_self {at_ : List Int} {q : Nat} {v : Int} (h : q < at_.length) : (at_.set q v).getD q 0 = v := by simp [List.getD, h]
theorem getD_set_other {at_ : List Int} {q i : Nat} {v : Int} (h : q ≠ i) : (at_.set q v).getD i 0 = at_.getD i 0 := by simp [List.getD, List.getElem?_set, h]
theorem Rng.inc {l : List (List Ev)} {at_ to_ : List Int} {q : Nat} (h : Rng l at_ to_) (hq : q < l.length) (hlt : at_.getD q 0 < to_.getD q 0) : Rng l (incS at_ q) to_ := by
  obtain ⟨h1, h2, h3⟩ := h
  refine ⟨by simp [incS, h1], h2, fun i hi => ?_⟩
  have := h3 i hi
  unfold incS
  by_cases e : q = i
  · subst e
    rw [getD_set_self (by omega)]
    omega
  · rw [getD_set_other e]
    exact this
/-- How many events are still to come. -/
def leftS : List Int → List Int → Nat
  | a :: ar, t :: ts => (t - a).toNat + leftS ar ts
  | _, _ => 0
theorem leftS_inc : ∀ (at_ to_ : List Int) (q : Nat), q < at_.length → q < to_.length → at_.getD q 0 < to_.getD q 0 → leftS (incS at_ q) to_ < leftS at_ to_
  | a :: ar, t :: ts, 0, _, _, h => by
    simp only [incS, List.getD_cons_zero, List.set_cons_zero, leftS] at h ⊢
    omega
  | a :: ar, t :: ts, q + 1, h1, h2, h => by
    have ih := leftS_inc ar ts q (by simpa using h1) (by simpa using h2) (by simpa using h)
    simp only [incS, List.getD_cons_succ, List.set_cons_succ, leftS] at ih ⊢
    omega
  | [], _, _, h1, _, _ => by simp at h1
  | _ :: _, [], _, _, h2, _ => by simp at h2
/-- The order of the events between two lists of indexes, or that there is none. -/
def SchIs (l : List (List Ev)) (from_ to_ : List Int) (r : Option (List Chc)) : Prop := (Rng l from_ to_ ∧ Sched l to_ from_ [] r) ∨ (¬ Rng l from_ to_ ∧ r = none)
theorem SchIs.det {l : List (List Ev)} {from_ to_ : List Int} {r r' : Option (List Chc)} (h : SchIs l from_ to_ r) (k : SchIs l from_ to_ r') : r = r' := by
  rcases h with ⟨h1, h2⟩ | ⟨h1, h2⟩
  · rcases k with ⟨k1, k2⟩ | ⟨k1, k2⟩
    · exact h2.det k2
    · exact absurd h1 k1
  · rcases k with ⟨k1, k2⟩ | ⟨k1, k2⟩
    · exact absurd k1 h1
    · rw [h2, k2]
end Go.Proofs.Ytcfpkmfppgodmaa
