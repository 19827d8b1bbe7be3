/- Messages laid into lineages one by one. No program in sight. -/
import Derived.Test.YtcfpkmfppgodmaaPatS
import Derived.Test.YtcfpkmfppgodmaaLinM
set_option linter.unusedVariables false
set_option linter.unusedSimpArgs false
namespace Go.Proofs.Ytcfpkmfppgodmaa
open Go.RowKit Go.Proofs

theorem LinI.zero {ls : List Nat} {arcs : List Arc} {l : List (List Ev)} (hlen : l.length = ls.length) (hlens : ∀ q, q < ls.length → (l.getD q []).length = ls.getD q 0) (hk : ∀ (q k : Nat) (e : Ev), (l.getD q [])[k]? = some e → e.kind = 2) :
    ∃ inc, LinI ls arcs 0 inc l := by
  refine ⟨fun q k => ((l.getD q []).getD k ⟨0, 0, 0, 0, 0, 0, 0⟩).inc, hlen, hlens, fun q k e he => ⟨?_, .inl (hk q k e he)⟩⟩
  show e.inc = ((l.getD q []).getD k ⟨0, 0, 0, 0, 0, 0, 0⟩).inc
  rw [getD_of he]
theorem LinI.old {ls : List Nat} {arcs : List Arc} {i : Nat} {inc : Nat → Nat → Int} {l : List (List Ev)} (h : LinI ls arcs i inc l) {q k : Nat} {e : Ev} (he : (l.getD q [])[k]? = some e) : e.inc = inc q k := (h.ev q k e he).1
theorem LinI.step {ls : List Nat} {arcs : List Arc} {i : Nat} {inc : Nat → Nat → Int} {l : List (List Ev)} {a : Arc} {e : Ev} (h : LinI ls arcs i inc l) (ha : arcs[i]? = some a) (hto : a.to_ < ls.length) (hat : 1 ≤ a.at_) (hat2 : a.at_ ≤ ls.getD a.to_ 0)
    (hinc : e.inc = inc a.to_ (a.at_ - 1)) (hk : e.kind = 1) (hf : e.frm = (a.frm : Int)) (hi : e.sIdx = (a.idx : Int)) (hs : e.sInc = if a.idx = 0 then 0 else inc a.frm (a.idx - 1)) : LinI ls arcs (i + 1) inc (l.set a.to_ ((l.getD a.to_ []).set (a.at_ - 1) e)) := by
  have hql : a.to_ < l.length := by rw [h.len]; exact hto
  have htk : arcs.take (i + 1) = arcs.take i ++ [a] := by rw [List.take_add_one, ha]; rfl
  have hold : ∀ (q k : Nat) (x : Ev), (l.getD q [])[k]? = some x → x.inc = inc q k ∧ (x.kind = 2 ∨ (x.kind = 1 ∧ ∃ b : Arc, b ∈ arcs.take (i + 1) ∧ b.to_ = q ∧ b.at_ = k + 1 ∧ x.frm = (b.frm : Int) ∧ x.sIdx = (b.idx : Int) ∧ x.sInc = if b.idx = 0 then 0 else inc b.frm (b.idx - 1))) := by
    intro q k x hx
    obtain ⟨h1, h2⟩ := h.ev q k x hx
    refine ⟨h1, ?_⟩
    rcases h2 with h2 | ⟨h2, b, hb, h3⟩
    · exact .inl h2
    · exact .inr ⟨h2, b, by rw [htk]; exact List.mem_append_left _ hb, h3⟩
  refine ⟨by simp [h.len], fun q hq => ?_, fun q k x hx => ?_⟩
  · by_cases e' : a.to_ = q
    · subst e'
      rw [getD_setL hql, List.length_set]
      exact h.lens _ hq
    · rw [getD_setO e']
      exact h.lens q hq
  · by_cases e' : a.to_ = q
    · subst e'
      rw [getD_setL hql, List.getElem?_set] at hx
      by_cases e2 : a.at_ - 1 = k
      · subst e2
        rw [if_pos rfl, if_pos (by rw [h.lens _ hto]; omega)] at hx
        injection hx with hx
        subst hx
        exact ⟨hinc, .inr ⟨hk, a, by rw [htk]; simp, rfl, by omega, hf, hi, hs⟩⟩
      · rw [if_neg e2] at hx
        exact hold _ k x hx
    · rw [getD_setO e'] at hx
      exact hold q k x hx
end Go.Proofs.Ytcfpkmfppgodmaa
