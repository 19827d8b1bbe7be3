/- What a state hangs on: kinds, senders and values of events alone; in plain Lean. -/
import Derived.Test.YtecckbkobkfnmaaDoorProcS
set_option linter.unusedVariables false
set_option linter.unusedSimpArgs false
namespace Go.Proofs.YtecckbkobkfnmaaDoor
open Go.RowKit Go.Proofs

def EvLike (a b : Ev) : Prop := a.kind = b.kind ∧ a.frm = b.frm ∧ a.val = b.val
def StLike (s t : St) : Prop := s.cells = t.cells ∧ s.sent = t.sent ∧ s.outs = t.outs ∧ s.events.length = t.events.length
theorem runS_like {v : EnvS} {body : List Stm} {cells : List Int} {ix : Int} {s t : St} (h : StLike s t) : StLike (runS v body cells ix s) (runS v body cells ix t) := by
  obtain ⟨h1, h2, h3, h4⟩ := h
  exact ⟨rfl, by simp only [runS, h2], by simp only [runS, h3], h4⟩
theorem nextS_like {c : Cd} {self procs : Int} {s t : St} {e f : Ev} (h : StLike s t) (he : EvLike e f) : StLike (nextS c self procs s e) (nextS c self procs t f) := by
  obtain ⟨k1, k2, k3⟩ := he
  obtain ⟨sc, se, ss, so⟩ := s
  obtain ⟨tc, te, ts, tu⟩ := t
  obtain ⟨h1, h2, h3, h4⟩ := h
  simp only at h1 h2 h3 h4
  subst h1 h2 h3
  have hs : StLike ⟨sc, se ++ [e], ss, so⟩ ⟨sc, te ++ [f], ss, so⟩ := ⟨rfl, rfl, rfl, by simp [h4]⟩
  unfold nextS
  simp only [k1, k2, k3, h4]
  split
  · exact runS_like hs
  · split
    · exact runS_like hs
    · split
      · exact runS_like hs
      · exact hs
theorem replayS_like {c : Cd} {self procs : Int} : ∀ (l m : List Ev) (s t : St), StLike s t → l.length = m.length → (∀ (i : Nat) (e f : Ev), l[i]? = some e → m[i]? = some f → EvLike e f) → StLike (l.foldl (nextS c self procs) s) (m.foldl (nextS c self procs) t)
  | [], [], _, _, h, _, _ => h
  | e :: l, f :: m, s, t, h, hl, hx => replayS_like l m _ _ (nextS_like h (hx 0 e f rfl rfl)) (by simpa using hl) (fun i a b ha hb => hx (i + 1) a b (by simpa using ha) (by simpa using hb))
  | [], _ :: _, _, _, _, hl, _ => by simp at hl
  | _ :: _, [], _, _, _, hl, _ => by simp at hl
/-- An event with another incarnation, label and ordinal. -/
def relab (inc ord : Int) (i : Nat) (e : Ev) : Ev := { e with inc := inc, sInc := ord, sIdx := i, ord := ord }
def relabs (inc ord : Int) (k : Nat) (l : List Ev) : List Ev := l.mapIdx (fun i e => if i < k then relab inc ord i e else e)
theorem relabs_len (inc ord : Int) (k : Nat) (l : List Ev) : (relabs inc ord k l).length = l.length := by simp [relabs]
theorem relabs_zero (inc ord : Int) (l : List Ev) : relabs inc ord 0 l = l := by
  apply List.ext_getElem?
  intro i
  simp [relabs, List.getElem?_mapIdx]
theorem relabs_get {inc ord : Int} {k : Nat} {l : List Ev} {i : Nat} {e : Ev} (h : l[i]? = some e) : (relabs inc ord k l)[i]? = some (if i < k then relab inc ord i e else e) := by
  simp [relabs, List.getElem?_mapIdx, h]
theorem relabs_succ {inc ord : Int} {k : Nat} {l : List Ev} {e : Ev} (h : l[k]? = some e) : relabs inc ord (k + 1) l = (relabs inc ord k l).set k (relab inc ord k e) := by
  apply List.ext_getElem?
  intro i
  rw [List.getElem?_set]
  simp only [relabs, List.getElem?_mapIdx, List.length_mapIdx]
  by_cases hik : k = i
  · subst hik
    rw [if_pos rfl, h]
    have hk : k < l.length := (List.getElem?_eq_some_iff.1 h).1
    simp [hk]
  · rw [if_neg hik]
    cases l[i]? with
    | none => rfl
    | some x =>
      by_cases h1 : i < k
      · simp [h1, Nat.lt_succ_of_lt h1]
      · simp [h1, show ¬ i < k + 1 by omega]
theorem replayS_relabs (c : Cd) (self procs inc ord : Int) (l : List Ev) : StLike (replayS c self procs l) (replayS c self procs (relabs inc ord l.length l)) := by
  refine replayS_like l _ _ _ ⟨rfl, rfl, rfl, rfl⟩ (relabs_len ..).symm (fun i e f he hf => ?_)
  rw [relabs_get he] at hf
  injection hf with hf
  subst hf
  split <;> exact ⟨rfl, rfl, rfl⟩
end Go.Proofs.YtecckbkobkfnmaaDoor
