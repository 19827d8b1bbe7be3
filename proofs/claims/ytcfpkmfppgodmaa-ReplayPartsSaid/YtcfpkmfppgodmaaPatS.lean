/- Patterns that grew event by event, their lineages, and that these can be ordered. No program in sight. -/
import Derived.Test.YtcfpkmfppgodmaaRs1
set_option linter.unusedVariables false
set_option linter.unusedSimpArgs false
namespace Go.Proofs.Ytcfpkmfppgodmaa
open Go.RowKit Go.Proofs

structure Arc where
  frm : Nat
  idx : Nat
  to_ : Nat
  at_ : Nat
def encArc (x : Arc) : List Value := [.int .i64 x.frm, .int .i64 x.idx, .int .i64 x.to_, .int .i64 x.at_]
theorem encArc_len (x : Arc) : (encArc x).length = 4 := rfl
theorem encArc_one (d : Arc) : ∀ u ∈ encArc d, u.oneCell' = true := by
  intro u hu
  simp [encArc] at hu
  rcases hu with h | h | h | h <;> subst h <;> rfl
def intsN (ls : List Nat) : List Int := ls.map (fun x : Nat => (x : Int))
theorem intsN_len (ls : List Nat) : (intsN ls).length = ls.length := by simp [intsN]
theorem intsN_get {ls : List Nat} {q : Nat} (h : q < ls.length) : (intsN ls)[q]? = some ((ls.getD q 0 : Nat) : Int) := by simp [intsN, List.getD, h]
theorem intsN_getD (ls : List Nat) (q : Nat) : (intsN ls).getD q 0 = ((ls.getD q 0 : Nat) : Int) := by
  rcases Nat.lt_or_ge q ls.length with h | h
  · exact getD_of (intsN_get h)
  · simp [intsN, List.getD, h]
theorem intsN_set (ls : List Nat) (q v : Nat) : (intsN ls).set q (v : Int) = intsN (ls.set q v) := by simp [intsN, List.map_set]
def upN (ls : List Nat) (q : Nat) : List Nat := ls.set q (ls.getD q 0 + 1)
theorem upN_len (ls : List Nat) (q : Nat) : (upN ls q).length = ls.length := by simp [upN]
theorem upN_self {ls : List Nat} {q : Nat} (h : q < ls.length) : (upN ls q).getD q 0 = ls.getD q 0 + 1 := by simp [upN, List.getD, h]
theorem upN_other {ls : List Nat} {q p : Nat} (h : q ≠ p) : (upN ls q).getD p 0 = ls.getD p 0 := by simp [upN, List.getD, List.getElem?_set, h]
/-- The events of a pattern have an order. -/
structure PatOk (ls : List Nat) (arcs : List Arc) (rk : Nat → Nat → Nat) (T : Nat) : Prop where
  mono : ∀ q k, k + 1 < ls.getD q 0 → rk q k < rk q (k + 1)
  top : ∀ q k, k < ls.getD q 0 → rk q k < T
  arc : ∀ a ∈ arcs, a.frm < ls.length ∧ a.to_ < ls.length ∧ a.frm ≠ a.to_ ∧ a.idx ≤ ls.getD a.frm 0 ∧ a.at_ ≤ ls.getD a.to_ 0 ∧ (1 ≤ a.at_ → 1 ≤ a.idx → rk a.frm (a.idx - 1) < rk a.to_ (a.at_ - 1))
def PatR (ls : List Nat) (arcs : List Arc) : Prop := ∃ rk T, PatOk ls arcs rk T
theorem PatR.init (n : Nat) : PatR (List.replicate n 0) [] := by
  have h : ∀ q, (List.replicate n 0).getD q 0 = 0 := by intro q; simp only [List.getD, List.getElem?_replicate]; split <;> rfl
  exact ⟨fun _ _ => 0, 0, fun q k hk => by rw [h] at hk; omega, fun q k hk => by rw [h] at hk; omega, by simp⟩
theorem PatR.tick {ls : List Nat} {arcs : List Arc} {q : Nat} (h : PatR ls arcs) (hq : q < ls.length) : ∃ rk T, PatOk (upN ls q) arcs rk T ∧ rk q (ls.getD q 0) + 1 = T ∧ ∀ p k, p ≠ q → k < ls.getD p 0 → rk p k + 1 < T := by
  obtain ⟨rk, T, h1, h2, h3⟩ := h
  have key : ∀ p k, k < (upN ls q).getD p 0 → (p = q ∧ k = ls.getD q 0) ∨ (k < ls.getD p 0 ∧ ¬ (p = q ∧ k = ls.getD q 0)) := by
    intro p k hk
    by_cases hpq : q = p
    · subst hpq
      rw [upN_self hq] at hk
      omega
    · rw [upN_other hpq] at hk
      exact .inr ⟨hk, fun e => hpq e.1.symm⟩
  refine ⟨fun p k => if p = q ∧ k = ls.getD q 0 then T else rk p k, T + 1, ⟨fun p k hk => ?_, fun p k hk => ?_, fun a ha => ?_⟩, by simp, fun p k hp hk => ?_⟩
  · rcases key p (k + 1) hk with ⟨e1, e2⟩ | ⟨e1, e2⟩
    · have hn : ¬ (p = q ∧ k = ls.getD q 0) := by omega
      simp only [if_pos (And.intro e1 e2), if_neg hn]
      exact h2 p k (by rw [e1]; omega)
    · have hn : ¬ (p = q ∧ k = ls.getD q 0) := fun e => by have := e.1; subst this; omega
      simp only [if_neg e2, if_neg hn]
      exact h1 p k e1
  · rcases key p k hk with ⟨e1, e2⟩ | ⟨e1, e2⟩
    · simp only [if_pos (And.intro e1 e2)]
      omega
    · simp only [if_neg e2]
      have := h2 p k e1
      omega
  · obtain ⟨a1, a2, a3, a4, a5, a6⟩ := h3 a ha
    have u1 : ls.getD a.frm 0 ≤ (upN ls q).getD a.frm 0 := by
      by_cases e : q = a.frm
      · rw [e, upN_self (by omega)]; omega
      · rw [upN_other e]; omega
    have u2 : ls.getD a.to_ 0 ≤ (upN ls q).getD a.to_ 0 := by
      by_cases e : q = a.to_
      · rw [e, upN_self (by omega)]; omega
      · rw [upN_other e]; omega
    refine ⟨by rw [upN_len]; exact a1, by rw [upN_len]; exact a2, a3, by omega, by omega, fun c1 c2 => ?_⟩
    have n1 : ¬ (a.frm = q ∧ a.idx - 1 = ls.getD q 0) := fun e => by have := e.1; subst this; omega
    have n2 : ¬ (a.to_ = q ∧ a.at_ - 1 = ls.getD q 0) := fun e => by have := e.1; subst this; omega
    simp only [if_neg n1, if_neg n2]
    exact a6 c1 c2
  · have hn : ¬ (p = q ∧ k = ls.getD q 0) := fun e => hp e.1
    simp only [if_neg hn]
    have := h2 p k hk
    omega
theorem PatR.tick' {ls : List Nat} {arcs : List Arc} {q : Nat} (h : PatR ls arcs) (hq : q < ls.length) : PatR (upN ls q) arcs := by
  obtain ⟨rk, T, h, -⟩ := h.tick hq
  exact ⟨rk, T, h⟩
theorem PatR.transit {ls : List Nat} {arcs : List Arc} {q s i : Nat} (h : PatR ls arcs) (hq : q < ls.length) (hs : s < ls.length) (hsq : s ≠ q) (hi : i ≤ ls.getD s 0) : PatR ls (arcs ++ [⟨s, i, q, 0⟩]) := by
  obtain ⟨rk, T, h1, h2, h3⟩ := h
  refine ⟨rk, T, h1, h2, fun a ha => ?_⟩
  rcases List.mem_append.1 ha with ha | ha
  · exact h3 a ha
  · simp at ha
    subst ha
    exact ⟨hs, hq, hsq, hi, Nat.zero_le _, fun c => by simp at c⟩
theorem PatR.recv {ls : List Nat} {arcs : List Arc} {q s i : Nat} (h : PatR ls arcs) (hq : q < ls.length) (hs : s < ls.length) (hsq : s ≠ q) (hi : i ≤ ls.getD s 0) : PatR (upN ls q) (arcs ++ [⟨s, i, q, ls.getD q 0 + 1⟩]) := by
  obtain ⟨rk, T, h0, ht, hl⟩ := h.tick hq
  obtain ⟨h1, h2, h3⟩ := h0
  refine ⟨rk, T, h1, h2, fun a ha => ?_⟩
  rcases List.mem_append.1 ha with ha | ha
  · exact h3 a ha
  · simp at ha
    subst ha
    refine ⟨by rw [upN_len]; exact hs, by rw [upN_len]; exact hq, hsq, by show i ≤ _; rw [upN_other (fun e => hsq e.symm)]; exact hi, by show ls.getD q 0 + 1 ≤ _; rw [upN_self hq]; omega, fun c1 c2 => ?_⟩
    have := hl s (i - 1) hsq (by have : 1 ≤ i := c2; omega)
    show rk s (i - 1) < rk q (ls.getD q 0 + 1 - 1)
    rw [Nat.add_sub_cancel]
    omega
theorem PatR.reduce {ls : List Nat} {arcs : List Arc} (h : PatR ls arcs) : PatR ls (arcs.filter (fun a => a.at_ != 0)) := by
  obtain ⟨rk, T, h1, h2, h3⟩ := h
  exact ⟨rk, T, h1, h2, fun a ha => h3 a (List.mem_filter.1 ha).1⟩
/-! ### lineages -/
/-- Lineages whose first m arcs are laid in. -/
structure LinI (ls : List Nat) (arcs : List Arc) (m : Nat) (inc : Nat → Nat → Int) (l : List (List Ev)) : Prop where
  len : l.length = ls.length
  lens : ∀ q, q < ls.length → (l.getD q []).length = ls.getD q 0
  ev : ∀ (q k : Nat) (e : Ev), (l.getD q [])[k]? = some e → e.inc = inc q k ∧ (e.kind = 2 ∨ (e.kind = 1 ∧ ∃ a : Arc, a ∈ arcs.take m ∧ a.to_ = q ∧ a.at_ = k + 1 ∧ e.frm = (a.frm : Int) ∧ e.sIdx = (a.idx : Int) ∧ e.sInc = if a.idx = 0 then 0 else inc a.frm (a.idx - 1)))
/-- Lineages whose events have an order. -/
structure LinFine (ls : List Nat) (l : List (List Ev)) (rk : Nat → Nat → Nat) : Prop where
  len : l.length = ls.length
  lens : ∀ q, q < ls.length → (l.getD q []).length = ls.getD q 0
  mono : ∀ q k, k + 1 < ls.getD q 0 → rk q k < rk q (k + 1)
  ev : ∀ (q k : Nat) (e : Ev), (l.getD q [])[k]? = some e → e.kind = 1 → 0 ≤ e.frm ∧ e.frm < (l.length : Int) ∧ e.frm ≠ (q : Int) ∧ 0 ≤ e.sIdx ∧ e.sIdx ≤ (ls.getD e.frm.toNat 0 : Nat) ∧ labS (l.getD e.frm.toNat []) e.sInc e.sIdx = true ∧ (1 ≤ e.sIdx → rk e.frm.toNat (e.sIdx.toNat - 1) < rk q k)
theorem LinI.fine {ls : List Nat} {arcs : List Arc} {inc : Nat → Nat → Int} {l : List (List Ev)} (h : LinI ls arcs arcs.length inc l) (hp : PatR ls arcs) (ha : ∀ a ∈ arcs, a.at_ ≠ 0) : ∃ rk, LinFine ls l rk := by
  obtain ⟨rk, T, h1, h2, h3⟩ := hp
  refine ⟨rk, h.len, h.lens, h1, fun q k e he hk => ?_⟩
  obtain ⟨hi, hc⟩ := h.ev q k e he
  rcases hc with hc | ⟨-, a, ham, a1, a2, a3, a4, a5⟩
  · omega
  · rw [List.take_length] at ham
    obtain ⟨b1, b2, b3, b4, b5, b6⟩ := h3 a ham
    have hn : e.frm.toNat = a.frm := by rw [a3]; rfl
    have hl := h.len
    refine ⟨by omega, by omega, by rw [a3]; intro e; omega, by omega, by rw [hn]; omega, ?_, fun c => ?_⟩
    · rw [hn]
      rcases Nat.eq_zero_or_pos a.idx with h0 | h0
      · rw [a4, h0]
        rw [if_pos h0] at a5
        rw [a5, show ((0 : Nat) : Int) = 0 from rfl, labS_zero]
        rfl
      · rw [if_neg (by omega)] at a5
        have hlt : a.idx - 1 < (l.getD a.frm []).length := by rw [h.lens _ b1]; omega
        have hg := List.getElem?_eq_getElem hlt
        obtain ⟨g1, -⟩ := h.ev a.frm (a.idx - 1) _ hg
        have e4 : e.sIdx = ((a.idx - 1 : Nat) : Int) + 1 := by omega
        rw [e4, labS_in hg, a5, g1]
        simp
    · rw [hn]
      have : e.sIdx.toNat - 1 = a.idx - 1 := by omega
      rw [this, ← a1]
      have hk1 : k = a.at_ - 1 := by omega
      rw [hk1]
      exact b6 (by omega) (by omega)
end Go.Proofs.Ytcfpkmfppgodmaa
