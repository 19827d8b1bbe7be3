/- Lists of states in memory. -/
import Derived.Test.YtcfpkmfppgodmaaIdealS
import Derived.Test.YtcfpkmfppgodmaaGA
import Derived.Test.YtcfpkmfppgodmaaApd
set_option linter.unusedVariables false
set_option linter.unusedSimpArgs false
set_option maxRecDepth 100000
namespace Go.Proofs.Ytcfpkmfppgodmaa
open Go.RowKit Go.Proofs

/-- The blocks of a world but those of X. -/
def But (w : World) (X : Nat → Prop) (i : Nat) : Prop := i < w.heap.size ∧ ¬ X i
theorem cells_get {size : Nat} : ∀ (css : List (List Value)) (k j : Nat) (cs : List Value), (∀ c ∈ css, c.length = size) → css[k]? = some cs → j < size → css.flatten[k * size + j]? = cs[j]?
  | c :: css, 0, j, cs, h, hk, hj => by
    simp at hk
    subst hk
    rw [List.flatten_cons, List.getElem?_append_left (by rw [h c (by simp)]; omega), Nat.zero_mul, Nat.zero_add]
  | c :: css, k + 1, j, cs, h, hk, hj => by
    have hc := h c (by simp)
    rw [List.flatten_cons, List.getElem?_append_right (by rw [hc, Nat.add_mul]; omega), hc]
    have : (k + 1) * size + j - size = k * size + j := by rw [Nat.add_mul]; omega
    rw [this, cells_get css k j cs (fun c hc => h c (by simp [hc])) (by simpa using hk) hj]
theorem cells_len {size : Nat} : ∀ (css : List (List Value)), (∀ c ∈ css, c.length = size) → css.flatten.length = css.length * size
  | [], _ => by simp
  | c :: css, h => by
    rw [List.flatten_cons, List.length_append, h c (by simp), cells_len css (fun c hc => h c (by simp [hc])), List.length_cons, Nat.add_mul]
    omega
theorem flatten_set {size : Nat} : ∀ (css : List (List Value)) (k : Nat) (cs : List Value), (∀ c ∈ css, c.length = size) → cs.length = size → k < css.length → ∀ i, (css.set k cs).flatten[i]? = if k * size ≤ i ∧ i < k * size + size then cs[i - k * size]? else css.flatten[i]?
  | c :: css, 0, cs, h, hc, _, i => by
    have h0 := h c (by simp)
    rw [List.set_cons_zero, List.flatten_cons, List.flatten_cons, Nat.zero_mul, Nat.zero_add, Nat.sub_zero]
    by_cases hi : i < size
    · rw [if_pos ⟨by omega, hi⟩, List.getElem?_append_left (by omega)]
    · rw [if_neg (by omega), List.getElem?_append_right (by omega), List.getElem?_append_right (by omega), hc, h0]
  | c :: css, k + 1, cs, h, hc, hk, i => by
    have h0 := h c (by simp)
    rw [List.set_cons_succ, List.flatten_cons, List.flatten_cons]
    have ih := flatten_set css k cs (fun c hc => h c (by simp [hc])) hc (by simpa using hk)
    have e : (k + 1) * size = k * size + size := by rw [Nat.add_mul]; omega
    by_cases hi : i < size
    · rw [List.getElem?_append_left (by omega), if_neg (by omega), List.getElem?_append_left (by omega)]
    · rw [List.getElem?_append_right (by omega), h0, ih (i - size)]
      by_cases h2 : k * size ≤ i - size ∧ i - size < k * size + size
      · rw [if_pos h2, if_pos (by omega)]
        congr 1
        omega
      · rw [if_neg h2, if_neg (by omega), List.getElem?_append_right (by omega), h0]
theorem splice_flatten {size : Nat} {css : List (List Value)} {k : Nat} {cs : List Value} (h : ∀ c ∈ css, c.length = size) (hc : cs.length = size) (hk : k < css.length) : splice css.flatten.toArray (k * size) cs = (css.set k cs).flatten.toArray := by
  have hm := Nat.mul_le_mul_right size (show k + 1 ≤ css.length from hk)
  rw [Nat.add_mul] at hm
  apply Array.ext_getElem?
  intro i
  rw [splice_get cs _ _ (by simp only [List.size_toArray]; rw [cells_len css h]; omega), List.getElem?_toArray, List.getElem?_toArray, flatten_set css k cs h hc hk, hc]
/-- The cells of some states. -/
def StsR (w : World) (X : Nat → Prop) (css : List (List Value)) (ss : List St) : Prop :=
  css.length = ss.length ∧ (∀ cs ∈ css, cs.length = 4) ∧ ∀ (k : Nat) (cs : List Value) (s : St), css[k]? = some cs → ss[k]? = some s → StR w (But w X) cs s
section
variable {w w' : World} {X X' T : Nat → Prop} {css : List (List Value)} {ss : List St}
theorem But.of_keep (hk : Keep w w') {i : Nat} (hi : But w X i) : But w' X i := ⟨by have := hi.1; have := hk.size; omega, hi.2⟩
theorem StsR.nil_ : StsR w X [] [] := ⟨rfl, by simp, by simp⟩
theorem StsR.same (h : StsR w X css ss) (hs : Same T w w') (hT : ∀ i, But w X i → T i) (hX : ∀ i, But w X i → ¬ X' i) : StsR w' X' css ss :=
  ⟨h.1, h.2.1, fun k cs s e1 e2 => ((h.2.2 k cs s e1 e2).keep (hs.mono hT)).more (fun i hi => ⟨by have := hi.1; have := hs.size; omega, hX i hi⟩)⟩
theorem StsR.keep (h : StsR w X css ss) (hk : Keep w w') : StsR w' X css ss := h.same hk (fun i hi => hi.1) (fun i hi => hi.2)
theorem StsR.at_ (h : StsR w X css ss) {k : Nat} (hk : k < ss.length) : ∃ (B1 B2 B3 B4 : Option Addr) (p1 q1 p2 q2 p3 q3 p4 q4 : Nat), css[k]? = some [.slice B1 p1 q1, .slice B2 p2 q2, .slice B3 p3 q3, .slice B4 p4 q4] ∧ StR w (But w X) [.slice B1 p1 q1, .slice B2 p2 q2, .slice B3 p3 q3, .slice B4 p4 q4] (ss.getD k zeroSt) := by
  have hk' : k < css.length := by rw [h.1]; exact hk
  have hr := h.2.2 k css[k] ss[k] (List.getElem?_eq_getElem hk') (List.getElem?_eq_getElem hk)
  obtain ⟨B1, B2, B3, B4, p1, q1, p2, q2, p3, q3, p4, q4, e, hr'⟩ := st_open hr
  refine ⟨B1, B2, B3, B4, p1, q1, p2, q2, p3, q3, p4, q4, by rw [List.getElem?_eq_getElem hk', e], ?_⟩
  have : ss.getD k zeroSt = ss[k] := by simp [List.getD, hk]
  rw [this]
  exact hr'
theorem StsR.of (h : StsR w X css ss) {k : Nat} {cs : List Value} (hcs : css[k]? = some cs) (hk : k < ss.length) : StR w (But w X) cs (ss.getD k zeroSt) := by
  have hr := h.2.2 k cs ss[k] hcs (List.getElem?_eq_getElem hk)
  have : ss.getD k zeroSt = ss[k] := by simp [List.getD, hk]
  rw [this]
  exact hr
/-- The cells of one state, where the states lie in one block. -/
theorem StsR.cell (h : StsR w X css ss) {g : Nat} {t : TypeId} {k j : Nat} {cs : List Value} {u : Value} (hb : Blk w g t css.flatten.toArray) (hcs : css[k]? = some cs) (hu : cs[j]? = some u) : w.cell? ⟨g, k * 4 + j, none⟩ = some u := by
  have hl : cs.length = 4 := h.2.1 cs (List.mem_of_getElem? hcs)
  have hj : j < 4 := by rw [← hl]; exact (List.getElem?_eq_some_iff.1 hu).1
  rw [hb.cell, List.getElem?_toArray, cells_get css k j cs h.2.1 hcs hj]
  exact hu
theorem StsR.set_ (h : StsR w X css ss) {k : Nat} {cs : List Value} {s : St} (hr : StR w (But w X) cs s) (hc : cs.length = 4) : StsR w X (css.set k cs) (ss.set k s) := by
  refine ⟨by simp [h.1], fun c hcm => ?_, fun j c t e1 e2 => ?_⟩
  · rcases List.mem_or_eq_of_mem_set hcm with h1 | h1
    · exact h.2.1 c h1
    · rw [h1]; exact hc
  · rw [List.getElem?_set] at e1 e2
    by_cases hkj : k = j
    · rw [if_pos hkj] at e1 e2
      split at e1
      · split at e2
        · injection e1 with e1
          injection e2 with e2
          rw [← e1, ← e2]
          exact hr
        · cases e2
      · cases e1
    · rw [if_neg hkj] at e1 e2
      exact h.2.2 j c t e1 e2
theorem StsR.snoc (h : StsR w X css ss) {cs : List Value} {s : St} (hr : StR w (But w X) cs s) (hc : cs.length = 4) : StsR w X (css ++ [cs]) (ss ++ [s]) := by
  refine ⟨by simp [h.1], fun c hcm => ?_, fun j c t e1 e2 => ?_⟩
  · rcases List.mem_append.1 hcm with h1 | h1
    · exact h.2.1 c h1
    · simp at h1; rw [h1]; exact hc
  · have h1 := h.1
    rcases Nat.lt_or_ge j ss.length with hj | hj
    · rw [List.getElem?_append_left (by omega)] at e1
      rw [List.getElem?_append_left hj] at e2
      exact h.2.2 j c t e1 e2
    · rw [List.getElem?_append_right (by omega)] at e1
      rw [List.getElem?_append_right hj] at e2
      have e0 : j - ss.length = 0 := by
        have := (List.getElem?_eq_some_iff.1 e2).1
        simpa using this
      have e0' : j - css.length = 0 := by omega
      rw [e0] at e2
      rw [e0'] at e1
      simp at e1 e2
      subst e1 e2
      exact hr
theorem StsR.flen (h : StsR w X css ss) : css.flatten.length = ss.length * 4 := by rw [cells_len css h.2.1, h.1]
/-- The list of states as a slice's content. -/
theorem StsR.sl (h : StsR w X css ss) {A : Option Addr} {c : Nat} {S : Nat → Prop} (hn : ss.length ≤ c) (hc : c ≤ maxLen) (hr : Reads w S 4 A ss.length css.flatten) (hS : ∀ i, S i → T i) (hX : ∀ i, But w X i → T i) : SlR w T 4 (StR w T) A ss.length c ss :=
  ⟨rfl, hn, hc, css, h.1, h.2.1, hr.more hS, fun k cs s e1 e2 => (h.2.2 k cs s e1 e2).more hX⟩
end
/-- The codes of a system. -/
def CdsR (w : World) (S : Nat → Prop) (A : Option Addr) (n c : Nat) (l : List Cd) : Prop := SlR w S 5 (CdR w S) A n c l
theorem CdsR.keep {w w' : World} {S : Nat → Prop} {A : Option Addr} {n c : Nat} {l : List Cd} (h : CdsR w S A n c l) (hk : Same S w w') : CdsR w' S A n c l := SlR.keep h hk (fun cs a h => h.keep hk)
theorem CdsR.more {w : World} {S T : Nat → Prop} {A : Option Addr} {n c : Nat} {l : List Cd} (h : CdsR w S A n c l) (hk : ∀ i, S i → T i) : CdsR w T A n c l := SlR.more h hk (fun cs a h => h.more hk)
theorem CdsR.at_ {w : World} {S : Nat → Prop} {A : Option Addr} {n c : Nat} {l : List Cd} (h : CdsR w S A n c l) {k : Nat} (hk : k < n) : ∃ (b off : Nat) (B0 B1 B2 B3 B4 : Option Addr) (p0 q0 p1 q1 p2 q2 p3 q3 p4 q4 : Nat), A = some ⟨b, off, none⟩ ∧ S b ∧ CdR w S [.slice B0 p0 q0, .slice B1 p1 q1, .slice B2 p2 q2, .slice B3 p3 q3, .slice B4 p4 q4] (l.getD k zeroCd) ∧ w.rangeAt b (off + k * 5) [.slice B0 p0 q0, .slice B1 p1 q1, .slice B2 p2 q2, .slice B3 p3 q3, .slice B4 p4 q4] := by
  obtain ⟨b, off, cs, a, e, hS, ha, hR, hcl, hc⟩ := SlR.at_ h hk
  obtain ⟨A0, A1, A2, A3, A4, m0, c0, m1, c1, m2, c2, m3, c3, m4, c4, e2, rest⟩ := hR
  subst e2
  have ha' : l.getD k zeroCd = a := by simp [List.getD, ha]
  refine ⟨b, off, A0, A1, A2, A3, A4, m0, c0, m1, c1, m2, c2, m3, c3, m4, c4, e, hS, ?_, hc⟩
  rw [ha']
  exact ⟨A0, A1, A2, A3, A4, m0, c0, m1, c1, m2, c2, m3, c3, m4, c4, rfl, rest⟩
end Go.Proofs.Ytcfpkmfppgodmaa
