/- Lineages in which every event can be in the cut of all: they have an order exactly if they have a ranking; rankings grown event by event. No program in sight. -/
import Derived.Test.YtcfpkmfppgodmaaCons
set_option linter.unusedVariables false
set_option linter.unusedSimpArgs false
namespace Go.Proofs.Ytcfpkmfppgodmaa
open Go.RowKit Go.Proofs

def lensN (l : List (List Ev)) : List Nat := l.map List.length
theorem lensN_getD (l : List (List Ev)) (q : Nat) : (lensN l).getD q 0 = (l.getD q []).length := by
  unfold lensN
  simp only [List.getD, List.getElem?_map]
  cases l[q]? <;> rfl
/-- The events before these counts have a ranking. -/
def Rkd (l : List (List Ev)) (cs : List Nat) : Prop := ∃ (rk : Nat → Nat → Nat) (T : Nat), (∀ q k, k + 1 < cs.getD q 0 - 1 → rk q k < rk q (k + 1)) ∧ (∀ q k, k < cs.getD q 0 - 1 → rk q k < T) ∧
  ∀ (q k : Nat) (e : Ev), k < cs.getD q 0 - 1 → (l.getD q [])[k]? = some e → e.kind = 1 → 1 ≤ e.sIdx → e.sIdx.toNat ≤ cs.getD e.frm.toNat 0 - 1 ∧ rk e.frm.toNat (e.sIdx.toNat - 1) < rk q k
theorem Rkd.init (l : List (List Ev)) (n : Nat) : Rkd l (List.replicate n 1) := by
  have h : ∀ q, (List.replicate n 1).getD q 0 - 1 = 0 := fun q => by simp only [List.getD, List.getElem?_replicate]; split <;> rfl
  exact ⟨fun _ _ => 0, 0, fun q k hk => by rw [h] at hk; omega, fun q k hk => by rw [h] at hk; omega, fun q k e hk => by rw [h] at hk; omega⟩
theorem getD_setN {cs : List Nat} {q v : Nat} (h : q < cs.length) : (cs.set q v).getD q 0 = v := by simp [List.getD, h]
theorem getD_setM {cs : List Nat} {q p v : Nat} (h : q ≠ p) : (cs.set q v).getD p 0 = cs.getD p 0 := by simp [List.getD, List.getElem?_set, h]
theorem Rkd.push {l : List (List Ev)} {cs : List Nat} {q : Nat} (h : Rkd l cs) (hq : q < cs.length) (h1 : 1 ≤ cs.getD q 0)
    (he : ∀ e : Ev, (l.getD q [])[cs.getD q 0 - 1]? = some e → e.kind = 1 → 1 ≤ e.sIdx → e.frm.toNat ≠ q ∧ e.sIdx.toNat ≤ cs.getD e.frm.toNat 0 - 1) : Rkd l (cs.set q (cs.getD q 0 + 1)) := by
  obtain ⟨rk, T, g1, g2, g3⟩ := h
  have key : ∀ p k, k < (cs.set q (cs.getD q 0 + 1)).getD p 0 - 1 → (p = q ∧ k = cs.getD q 0 - 1) ∨ (k < cs.getD p 0 - 1 ∧ ¬ (p = q ∧ k = cs.getD q 0 - 1)) := fun p k hk => by
    by_cases e : q = p
    · subst e
      rw [getD_setN hq] at hk
      omega
    · rw [getD_setM e] at hk
      exact .inr ⟨hk, fun hh => e hh.1.symm⟩
  have up : ∀ p, cs.getD p 0 ≤ (cs.set q (cs.getD q 0 + 1)).getD p 0 := fun p => by
    by_cases e : q = p
    · subst e; rw [getD_setN hq]; omega
    · rw [getD_setM e]; omega
  refine ⟨fun p k => if p = q ∧ k = cs.getD q 0 - 1 then T else rk p k, T + 1, fun p k hk => ?_, fun p k hk => ?_, fun p k e hk hev hk1 hs1 => ?_⟩
  · rcases key p (k + 1) hk with ⟨e1, e2⟩ | ⟨e1, e2⟩
    · have hn : ¬ (p = q ∧ k = cs.getD q 0 - 1) := by omega
      simp only [if_pos (And.intro e1 e2), if_neg hn]
      exact g2 p k (by rw [e1]; omega)
    · have hn : ¬ (p = q ∧ k = cs.getD q 0 - 1) := fun hh => by have := hh.1; subst this; omega
      simp only [if_neg e2, if_neg hn]
      exact g1 p k e1
  · rcases key p k hk with ⟨e1, e2⟩ | ⟨e1, e2⟩
    · simp only [if_pos (And.intro e1 e2)]; omega
    · simp only [if_neg e2]
      have := g2 p k e1; omega
  · rcases key p k hk with ⟨e1, e2⟩ | ⟨e1, e2⟩
    · subst e1 e2
      obtain ⟨a1, a2⟩ := he e hev hk1 hs1
      have hn : ¬ (e.frm.toNat = p ∧ e.sIdx.toNat - 1 = cs.getD p 0 - 1) := fun hh => a1 hh.1
      refine ⟨Nat.le_trans a2 (Nat.sub_le_sub_right (up _) 1), ?_⟩
      have hpp : p = p ∧ cs.getD p 0 - 1 = cs.getD p 0 - 1 := ⟨rfl, rfl⟩
      simp only [if_neg hn, if_pos hpp]
      exact g2 _ _ (by omega)
    · obtain ⟨a1, a2⟩ := g3 p k e e1 hev hk1 hs1
      have hn : ¬ (e.frm.toNat = q ∧ e.sIdx.toNat - 1 = cs.getD q 0 - 1) := fun hh => by have := hh.1; rw [this] at a1; omega
      refine ⟨Nat.le_trans a1 (Nat.sub_le_sub_right (up _) 1), ?_⟩
      simp only [if_neg hn, if_neg e2]
      exact a2
theorem ConsL.open_ {l : List (List Ev)} (h : ConsL l) {q k : Nat} {e : Ev} (hq : q < l.length) (he : (l.getD q [])[k]? = some e) (hk : e.kind = 1) :
    0 ≤ e.frm ∧ e.frm < (l.length : Int) ∧ e.frm ≠ (q : Int) ∧ 0 ≤ e.sIdx ∧ e.sIdx ≤ ((l.getD e.frm.toNat []).length : Int) ∧ labS (l.getD e.frm.toNat []) e.sInc e.sIdx = true := by
  have hp := h q k e hq he
  rw [possS_lab hk] at hp
  simp only [Bool.and_eq_true, decide_eq_true_eq] at hp
  obtain ⟨⟨⟨⟨p1, p2⟩, p3⟩, p4⟩, p5⟩ := hp
  rw [lensL_getD] at p5
  have p6 : 0 ≤ e.sIdx := by
    rcases Int.lt_or_le e.sIdx 0 with h0 | h0
    · rw [labS_neg h0] at p4; cases p4
    · exact h0
  exact ⟨p1, p2, p3, p6, p5, p4⟩
theorem ConsL.lt {l : List (List Ev)} {q k : Nat} {e : Ev} (he : (l.getD q [])[k]? = some e) : q < l.length := by
  rcases Nat.lt_or_ge q l.length with h | h
  · exact h
  · rw [show l.getD q [] = [] by simp [List.getD, List.getElem?_eq_none h]] at he
    simp at he
theorem Rkd.fine {l : List (List Ev)} {cs : List Nat} (h : Rkd l cs) (hc : ConsL l) (hl : ∀ q, q < l.length → (l.getD q []).length < cs.getD q 0) : ∃ rk, LinFine (lensN l) l rk := by
  obtain ⟨rk, T, g1, g2, g3⟩ := h
  have hq : ∀ q k, k < (l.getD q []).length → k < cs.getD q 0 - 1 ∧ q < l.length := fun q k hk => by
    have hql : q < l.length := ConsL.lt (List.getElem?_eq_getElem hk)
    have := hl q hql
    exact ⟨by omega, hql⟩
  refine ⟨rk, by simp [lensN], fun q _ => (lensN_getD l q).symm, fun q k hk => ?_, fun q k e he hk => ?_⟩
  · rw [lensN_getD] at hk
    exact g1 q k (hq q (k + 1) hk).1
  · have hkl := (List.getElem?_eq_some_iff.1 he).1
    obtain ⟨p1, p2, p3, p4, p5, p6⟩ := hc.open_ (hq q k hkl).2 he hk
    exact ⟨p1, p2, p3, p4, by rw [lensN_getD]; exact p5, p6, fun hs => (g3 q k e (hq q k hkl).1 he hk hs).2⟩
theorem LinFine.cons {ls : List Nat} {l : List (List Ev)} {rk : Nat → Nat → Nat} (h : LinFine ls l rk) : ConsL l := fun q k e hq he => by
  by_cases hk : e.kind = 1
  · obtain ⟨g1, g2, g3, g4, g5, g6, g7⟩ := h.ev q k e he hk
    rw [possS_lab hk, lensL_getD, g6]
    have d4 : e.sIdx ≤ ((l.getD e.frm.toNat []).length : Int) := by rw [h.lens _ (by rw [← h.len]; omega)]; exact g5
    have d1 : decide (0 ≤ e.frm) = true := decide_eq_true g1
    have d2 : decide (e.frm < (l.length : Int)) = true := decide_eq_true g2
    have d3 : decide (e.frm ≠ (q : Int)) = true := decide_eq_true g3
    have d5 := decide_eq_true d4
    rw [d1, d2, d3, d5]
    rfl
  · unfold possS
    rw [if_neg hk]
/-- A run to the ends gives a ranking of what it has still to do. -/
theorem run_rank {l : List (List Ev)} {at_ to_ : List Int} {w : List Chc} (h : RunL l at_ w to_) : to_ = lensL l → at_.length = l.length → (∀ q, q < l.length → 0 ≤ at_.getD q 0 ∧ at_.getD q 0 ≤ ((l.getD q []).length : Int)) →
    ∃ rk : Nat → Nat → Nat, (∀ (q k : Nat), at_.getD q 0 ≤ (k : Int) → k + 1 < (l.getD q []).length → rk q k < rk q (k + 1)) ∧
      ∀ (q k : Nat) (e : Ev), at_.getD q 0 ≤ (k : Int) → (l.getD q [])[k]? = some e → possS l (lensL l) q e = true ∧ (e.kind = 1 → e.sIdx ≤ at_.getD e.frm.toNat 0 ∨ rk e.frm.toNat (e.sIdx.toNat - 1) < rk q k) := by
  induction h with
  | nil =>
    intro hto _ _
    subst hto
    refine ⟨fun _ _ => 0, fun q k h1 h2 => ?_, fun q k e h1 he => ?_⟩
    · rw [lensL_getD] at h1; omega
    · have := (List.getElem?_eq_some_iff.1 he).1
      rw [lensL_getD] at h1; omega
  | @cons at_ to_ w q0 hq h0 hlt hp hrun ih =>
    intro hto hal hrng
    obtain ⟨a, ha⟩ : ∃ a : Nat, at_.getD q0 0 = a := ⟨(at_.getD q0 0).toNat, by omega⟩
    have hq0 : q0 < at_.length := by rw [hal]; exact hq
    have hself : (incS at_ q0).getD q0 0 = (a : Int) + 1 := by unfold incS; rw [getD_set_self hq0, ha]
    have hoth : ∀ p, q0 ≠ p → (incS at_ q0).getD p 0 = at_.getD p 0 := fun p hne => by unfold incS; exact getD_set_other hne
    obtain ⟨rk, g1, g2⟩ := ih hto (by rw [incS_len]; exact hal) (fun p hp' => by
      by_cases e : q0 = p
      · subst e; rw [hself]; omega
      · rw [hoth p e]; exact hrng p hp')
    have hev0 : ∀ e : Ev, (l.getD q0 [])[a]? = some e → evAt l at_ q0 = e := fun e he => by unfold evAt; rw [ha, Int.toNat_natCast]; exact getD_of he
    have hposs : ∀ e : Ev, (l.getD q0 [])[a]? = some e → possS l (lensL l) q0 e = true ∧ (e.kind = 1 → e.sIdx ≤ at_.getD e.frm.toNat 0) := fun e he => by
      have hp' := hp
      rw [hev0 e he] at hp'
      by_cases hk : e.kind = 1
      · rw [possS_lab hk] at hp' ⊢
        simp only [Bool.and_eq_true, decide_eq_true_eq] at hp' ⊢
        obtain ⟨⟨⟨⟨p1, p2⟩, p3⟩, p4⟩, p5⟩ := hp'
        have := (hrng e.frm.toNat (by omega)).2
        exact ⟨⟨⟨⟨⟨p1, p2⟩, p3⟩, p4⟩, by rw [lensL_getD]; omega⟩, fun _ => p5⟩
      · refine ⟨by unfold possS; rw [if_neg hk], fun h => absurd h hk⟩
    refine ⟨fun p k => if p = q0 ∧ k = a then 0 else rk p k + 1, fun p k h1 h2 => ?_, fun p k e h1 he => ?_⟩
    · by_cases e1 : p = q0 ∧ k = a
      · have e2 : ¬ (p = q0 ∧ k + 1 = a) := by omega
        simp only [if_pos e1, if_neg e2]
        omega
      · have e2 : ¬ (p = q0 ∧ k + 1 = a) := fun hh => by have := hh.1; subst this; omega
        simp only [if_neg e1, if_neg e2]
        have h3 : (incS at_ q0).getD p 0 ≤ (k : Int) := by
          by_cases e : q0 = p
          · subst e; rw [hself]; omega
          · rw [hoth p e]; exact h1
        have := g1 p k h3 h2
        omega
    · by_cases e1 : p = q0 ∧ k = a
      · obtain ⟨rfl, rfl⟩ := e1
        obtain ⟨b1, b2⟩ := hposs e he
        exact ⟨b1, fun hk => .inl (b2 hk)⟩
      · have h3 : (incS at_ q0).getD p 0 ≤ (k : Int) := by
          by_cases e : q0 = p
          · subst e; rw [hself]; omega
          · rw [hoth p e]; exact h1
        obtain ⟨b1, b2⟩ := g2 p k e h3 he
        refine ⟨b1, fun hk => ?_⟩
        simp only [if_neg e1]
        rcases b2 hk with b3 | b3
        · by_cases e4 : q0 = e.frm.toNat
          · rw [← e4, hself] at b3
            rcases Int.lt_or_le (a : Int) e.sIdx with b5 | b5
            · right
              have e5 : e.frm.toNat = q0 ∧ e.sIdx.toNat - 1 = a := ⟨e4.symm, by omega⟩
              simp only [if_pos e5]
              omega
            · left; rw [← e4, ha]; exact b5
          · rw [hoth _ e4] at b3
            exact .inl b3
        · right
          split
          · omega
          · omega
theorem run_fine {l : List (List Ev)} {w : List Chc} (h : RunL l (zerosL l.length) w (lensL l)) : ∃ rk, LinFine (lensN l) l rk := by
  obtain ⟨rk, g1, g2⟩ := run_rank h rfl (by simp [zerosL]) (fun q hq => by rw [zerosL_getD]; omega)
  have hc : ConsL l := fun q k e hq he => (g2 q k e (by rw [zerosL_getD]; omega) he).1
  refine ⟨rk, by simp [lensN], fun q _ => (lensN_getD l q).symm, fun q k hk => ?_, fun q k e he hk => ?_⟩
  · rw [lensN_getD] at hk
    exact g1 q k (by rw [zerosL_getD]; omega) hk
  · obtain ⟨p1, p2, p3, p4, p5, p6⟩ := hc.open_ (ConsL.lt he) he hk
    refine ⟨p1, p2, p3, p4, by rw [lensN_getD]; exact p5, p6, fun hs => ?_⟩
    rcases (g2 q k e (by rw [zerosL_getD]; omega) he).2 hk with b | b
    · rw [zerosL_getD] at b; omega
    · exact b
/-- There is an order exactly if there is a ranking. -/
theorem sched_rank {l : List (List Ev)} {b : Bool} {out : List Chc} (h : SchIs l (zerosL l.length) (lensL l) (optS b out)) : b = true ↔ ∃ rk, LinFine (lensN l) l rk := by
  rcases h with ⟨hr, hs⟩ | ⟨hn, -⟩
  · constructor
    · intro hb
      subst hb
      obtain ⟨y, hy, hrun⟩ := sched_run hs hr out rfl
      exact run_fine hrun
    · rintro ⟨rk, hf⟩
      obtain ⟨x, hx⟩ := sched_full hf hs hr (hf.shut _)
      cases b
      · cases hx
      · rfl
  · exact absurd (rng_full l) hn
/-- What is asked for ranks below all that are on the way. -/
def PreR (rk : Nat → Nat → Nat) (cs : List Nat) (ow : List Bool) (q k : Nat) : Prop := ∀ p, ow.getD p false = true → rk q (k - 1) < rk p (cs.getD p 0 - 1)
def Adv (cs cs' : List Nat) (ow : List Bool) : Prop := cs'.length = cs.length ∧ (∀ p, cs.getD p 0 ≤ cs'.getD p 0) ∧ ∀ p, ow.getD p false = true → cs'.getD p 0 = cs.getD p 0
def Bd (l : List (List Ev)) (cs : List Nat) : Prop := cs.length = l.length ∧ ∀ p, p < l.length → 1 ≤ cs.getD p 0 ∧ cs.getD p 0 ≤ (l.getD p []).length + 1
theorem Adv.refl (cs : List Nat) (ow : List Bool) : Adv cs cs ow := ⟨rfl, fun _ => Nat.le_refl _, fun _ _ => rfl⟩
theorem getD_setB {ow : List Bool} {q : Nat} {v : Bool} (h : q < ow.length) : (ow.set q v).getD q false = v := by simp [List.getD, h]
theorem getD_setC {ow : List Bool} {q p : Nat} {v : Bool} (h : q ≠ p) : (ow.set q v).getD p false = ow.getD p false := by simp [List.getD, List.getElem?_set, h]
/-- Whoever is on the way can't be asked for what is not yet there. -/
theorem onway_no {l : List (List Ev)} {rk : Nat → Nat → Nat} {cs : List Nat} {ow : List Bool} {q k : Nat} (hf : LinFine (lensN l) l rk) (hp : PreR rk cs ow q k) (ho : ow.getD q false = true) (hk : cs.getD q 0 ≤ k) (h1 : 1 ≤ cs.getD q 0) (hkl : k ≤ (l.getD q []).length) : False := by
  have h2 := hp q ho
  have h3 := hf.mono_le q (k - cs.getD q 0) (cs.getD q 0 - 1) (by rw [lensN_getD]; omega)
  have : cs.getD q 0 - 1 + (k - cs.getD q 0) = k - 1 := by omega
  rw [this] at h3
  omega
/-- The precondition of the call inside the loop. -/
theorem PreR.inner {l : List (List Ev)} {rk : Nat → Nat → Nat} {cs cs' : List Nat} {ow : List Bool} {q k i s f : Nat} {e : Ev} (hf : LinFine (lensN l) l rk) (hp : PreR rk cs ow q k) (hql : q < ow.length) (ha : ∀ p, p ≠ q → ow.getD p false = true → cs'.getD p 0 = cs.getD p 0) (hi : cs'.getD q 0 = i) (h1 : 1 ≤ i) (hik : i ≤ k) (hkl : k ≤ (l.getD q []).length)
    (he : (l.getD q [])[i - 1]? = some e) (hk : e.kind = 1) (hff : e.frm = (f : Int)) (hs : e.sIdx = (s : Int)) (hs1 : 1 ≤ s) : PreR rk cs' (ow.set q true) f s := by
  obtain ⟨g1, g2, g3, g4, g5, g6, g7⟩ := hf.ev q (i - 1) e he hk
  have h2 := g7 (by omega)
  have e1 : e.frm.toNat = f := by omega
  have e2 : e.sIdx.toNat = s := by omega
  rw [e1, e2] at h2
  intro p ho
  by_cases hpq : q = p
  · subst hpq
    rw [hi]
    exact h2
  · rw [getD_setC hpq] at ho
    rw [ha p (fun h => hpq h.symm) ho]
    have h3 := hp p ho
    have h4 := hf.mono_le q (k - i) (i - 1) (by rw [lensN_getD]; omega)
    have : i - 1 + (k - i) = k - 1 := by omega
    rw [this] at h4
    omega
/-- How many are not on the way. -/
def free (ow : List Bool) : Nat := ow.countP (fun b => !b)
theorem free_set : ∀ {ow : List Bool} {q : Nat}, q < ow.length → ow.getD q false = false → free (ow.set q true) < free ow
  | b :: ow, 0, _, h => by
    simp only [List.getD_cons_zero] at h
    subst h
    simp [free]
  | b :: ow, q + 1, hq, h => by
    have ih := free_set (ow := ow) (q := q) (by simpa using hq) (by simpa using h)
    simp only [free, List.set_cons_succ, List.countP_cons] at ih ⊢
    omega
theorem set_back {ow : List Bool} {q : Nat} (h : ow.getD q false = false) : (ow.set q true).set q false = ow := by
  rw [List.set_set]
  apply List.ext_getElem?
  intro j
  rw [List.getElem?_set]
  split
  · rename_i e
    subst e
    rcases Nat.lt_or_ge q ow.length with hq | hq
    · rw [if_pos hq]
      simp only [List.getD, List.getElem?_eq_getElem hq, Option.getD_some] at h
      rw [List.getElem?_eq_getElem hq, h]
    · rw [if_neg (by omega), List.getElem?_eq_none hq]
  · rfl
end Go.Proofs.Ytcfpkmfppgodmaa
