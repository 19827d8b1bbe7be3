/- Lists that grow by append, their elements leading to memory of their own. No program in sight. -/
import Derived.Test.YthmepnpjagpcnaaBase
set_option linter.unusedVariables false
namespace Go.Proofs.Ythmepnpjagpcnaa
open Go.RowKit

/-- The blocks from base on, but the row's own. -/
def Rest (w : World) (base : Nat) (v : Value) (i : Nat) : Prop := base ≤ i ∧ i < w.heap.size ∧ v.ownBlock ≠ some i
def New (w : World) (base : Nat) (i : Nat) : Prop := base ≤ i ∧ i < w.heap.size
/-- A relation of cells to a value that hangs on the blocks of S alone. -/
structure Good {α : Type} (R : World → (Nat → Prop) → List Value → α → Prop) : Prop where
  keep : ∀ {w w' : World} {S : Nat → Prop} {cs : List Value} {a : α}, Same S w w' → R w S cs a → R w' S cs a
  more : ∀ {w : World} {S T : Nat → Prop} {cs : List Value} {a : α}, (∀ i, S i → T i) → R w S cs a → R w T cs a
section
variable {α : Type} {R : World → (Nat → Prop) → List Value → α → Prop} {size base : Nat} {e : TypeId} {w w' W : World} {v v' : Value} {l : List α} {T : Nat → Prop}
def Grow (R : World → (Nat → Prop) → List Value → α → Prop) (size : Nat) (e : TypeId) (w : World) (base : Nat) (v : Value) (l : List α) : Prop :=
  ∃ css : List (List Value), css.length = l.length ∧ (∀ cs ∈ css, cs.length = size) ∧ w.ownsRow base e size v l.length css.flatten ∧ ∀ (k : Nat) (cs : List Value) (a : α), css[k]? = some cs → l[k]? = some a → R w (Rest w base v) cs a
theorem Grow.nil_ : Grow R size e w base (.slice none 0 0) ([] : List α) := ⟨[], rfl, by simp, World.ownsRow_nil _ _ _ _, by simp⟩
theorem Grow.same (hR : Good R) (h : Grow R size e w base v l) (hk : Same T w w') (hT : ∀ i, base ≤ i → i < w.heap.size → T i) : Grow R size e w' base v l := by
  obtain ⟨css, h1, h2, h3, h4⟩ := h
  refine ⟨css, h1, h2, ownsRow_same h3 hk (fun i hi => hT i hi.1 hi.2), fun k cs a e1 e2 => hR.more ?_ (hR.keep (hk.mono (fun i (hi : Rest w base v i) => hT i hi.1 hi.2.1)) (h4 k cs a e1 e2))⟩
  exact fun i hi => ⟨hi.1, Nat.lt_of_lt_of_le hi.2.1 hk.size, hi.2.2⟩
theorem Grow.push (hR : Good R) {css : List (List Value)} {cs : List Value} {a : α} (h1 : css.length = l.length) (h2 : ∀ cs ∈ css, cs.length = size) (h4 : ∀ (k : Nat) (cs : List Value) (a : α), css[k]? = some cs → l[k]? = some a → R w (Rest w base v) cs a)
    (hW : Keep w W) (hown' : w'.ownsRow base e size v' (l.length + 1) (css.flatten ++ cs)) (hg : W.grownBy w' v.ownBlock) (hat : v'.ownBlock = v.ownBlock ∨ v'.ownBlock = some W.heap.size) (hc : cs.length = size) (ha : R w (Rest w base v) cs a) :
    Grow R size e w' base v' (l ++ [a]) := by
  have hz := hW.size
  have hS : Same (Rest w base v) w w' := Same.grown (Same.mono hW (fun i (hi : Rest w base v i) => hi.2.1)) hg (fun i hi => by have := hi.2.1; omega) (fun k hk hs => hs.2.2 hk)
  have hz2 := hS.size
  have hm : ∀ i, Rest w base v i → Rest w' base v' i := fun i hi => ⟨hi.1, Nat.lt_of_lt_of_le hi.2.1 hS.size, by
    rcases hat with h | h
    · rw [h]; exact hi.2.2
    · rw [h]; intro hh; injection hh with hh; have := hi.2.1; omega⟩
  refine ⟨css ++ [cs], by simp [h1], ?_, by simpa using hown', fun k cs' a' e1 e2 => ?_⟩
  · intro c hcm
    rcases List.mem_append.1 hcm with h | h
    · exact h2 c h
    · simp at h; rw [h]; exact hc
  · refine hR.more hm (hR.keep hS ?_)
    rcases Nat.lt_or_ge k l.length with hk | hk
    · rw [List.getElem?_append_left (by omega)] at e1
      rw [List.getElem?_append_left hk] at e2
      exact h4 k cs' a' e1 e2
    · rw [List.getElem?_append_right (by omega)] at e1
      rw [List.getElem?_append_right hk] at e2
      have e0 : k - l.length = 0 := by
        have := (List.getElem?_eq_some_iff.1 e2).1
        simpa using this
      have e0' : k - css.length = 0 := by omega
      rw [e0] at e2
      rw [e0'] at e1
      simp at e1 e2
      subst e1 e2
      exact ha
theorem Grow.done (hR : Good R) (h : Grow R size e w base v l) : ∃ A c, v = .slice A l.length c ∧ SlR w (New w base) size (R w (New w base)) A l.length c l := by
  obtain ⟨css, h1, h2, h3, h4⟩ := h
  obtain ⟨A, c, rfl, hn, hc⟩ := own_form h3
  exact ⟨A, c, rfl, rfl, hn, hc, css, h1, h2, Reads.of_own h3, fun k cs a e1 e2 => hR.more (fun i hi => ⟨hi.1, hi.2.1⟩) (h4 k cs a e1 e2)⟩
theorem Grow.fresh (h : Grow R size e w base v l) {i : Nat} (hi : w.heap.size ≤ i) : v.ownBlock ≠ some i := fun e => by
  obtain ⟨css, _, _, h3, _⟩ := h
  have := (h3.lt i e).2
  omega
theorem Grow.len (h : Grow R size e w base v l) : ∃ A c, v = .slice A l.length c ∧ l.length ≤ c ∧ c ≤ maxLen := by
  obtain ⟨css, h1, h2, h3, h4⟩ := h
  exact own_form h3
/-- A list of one or two elements, built at once in a new block. -/
theorem SlR.one {S : Nat → Prop} {t : TypeId} {cs : List Value} {a : α} {n : Nat} (hb : Blk w n t cs.toArray) (hS : S n) (hc : cs.length = size) (hr : R w S cs a) : SlR w S size (R w S) (some ⟨n, 0, none⟩) 1 1 [a] := by
  refine ⟨rfl, Nat.le_refl _, by simp [maxLen], [cs], rfl, by simp [hc], ⟨by simp [hc], fun _ => ⟨n, 0, rfl, hS, fun j u hu => ?_⟩⟩, fun k cs' a' e1 e2 => ?_⟩
  · rw [hb.cell]
    simpa using hu
  · cases k with
    | zero => simp at e1 e2; subst e1 e2; exact hr
    | succ k => simp at e1
theorem SlR.two {S : Nat → Prop} {t : TypeId} {cs cs2 : List Value} {a a2 : α} {n : Nat} (hb : Blk w n t (cs ++ cs2).toArray) (hS : S n) (hc : cs.length = size) (hc2 : cs2.length = size) (hr : R w S cs a) (hr2 : R w S cs2 a2) : SlR w S size (R w S) (some ⟨n, 0, none⟩) 2 2 [a, a2] := by
  refine ⟨rfl, Nat.le_refl _, by simp [maxLen], [cs, cs2], rfl, by simp [hc, hc2], ⟨by simp [hc, hc2]; omega, fun _ => ⟨n, 0, rfl, hS, fun j u hu => ?_⟩⟩, fun k cs' a' e1 e2 => ?_⟩
  · rw [hb.cell]
    simpa using hu
  · match k with
    | 0 => simp at e1 e2; subst e1 e2; exact hr
    | 1 => simp at e1 e2; subst e1 e2; exact hr2
    | k + 2 => simp at e1
end
end Go.Proofs.Ythmepnpjagpcnaa
