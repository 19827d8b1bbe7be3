/- The states of a process, in plain Lean. -/
import Derived.Test.YthmepnpjagpcnaaExec
set_option linter.unusedVariables false
namespace Go.Proofs.Ythmepnpjagpcnaa
open Go.RowKit Go.Proofs

structure Cd where
  init : List Int
  start : List Stm
  message : List Stm
  tick : List Stm
  input : List Stm
/-- What a handler leaves (whatever, if it never ends: which is shown nowhere). -/
noncomputable def execF (v : EnvS) (body : List Stm) (cells : List Int) : Ms :=
  open Classical in if h : ∃ r, Exec v (.list body) ⟨cells, [], 400⟩ r then h.choose.st else ⟨cells, [], 0⟩
theorem execF_of {v : EnvS} {body : List Stm} {cells : List Int} {r : Res} (h : Exec v (.list body) ⟨cells, [], 400⟩ r) : execF v body cells = r.st := by
  have hx : ∃ r, Exec v (.list body) ⟨cells, [], 400⟩ r := ⟨r, h⟩
  unfold execF
  rw [dif_pos hx]
  exact congrArg Res.st (hx.choose_spec.det h)
theorem execF_fit (v : EnvS) (body : List Stm) (cells : List Int) : (execF v body cells).cells.length = cells.length ∧ (execF v body cells).effs.length ≤ 8 := by
  by_cases hx : ∃ r, Exec v (.list body) ⟨cells, [], 400⟩ r
  · obtain ⟨r, h⟩ := hx
    rw [execF_of h]
    have := h.fit
    exact ⟨this.1, this.2.1 (by simp)⟩
  · unfold execF
    rw [dif_neg hx]
    exact ⟨rfl, by simp⟩
def sendsOf (index : Int) : Int → List Eff → List Snd
  | _, [] => []
  | ord, e :: l => if e.kind = 1 then ⟨index, ord, e.dst, e.val⟩ :: sendsOf index (ord + 1) l else sendsOf index ord l
def outsOf (index : Int) : List Eff → List Outp
  | [] => []
  | e :: l => if e.kind = 1 then outsOf index l else ⟨index, e.val⟩ :: outsOf index l
noncomputable def runS (v : EnvS) (body : List Stm) (cells : List Int) (index : Int) (s : St) : St :=
  { s with cells := (execF v body cells).cells, sent := s.sent ++ sendsOf index 0 (execF v body cells).effs, outs := s.outs ++ outsOf index (execF v body cells).effs }
noncomputable def startS (c : Cd) (self procs : Int) : St := runS ⟨self, procs, self, 0⟩ c.start c.init 0 ⟨[], [], [], []⟩
noncomputable def nextS (c : Cd) (self procs : Int) (s : St) (e : Ev) : St :=
  if e.kind = 1 then runS ⟨self, procs, e.frm, e.val⟩ c.message s.cells (s.events.length + 1) { s with events := s.events ++ [e] }
  else if e.kind = 2 then runS ⟨self, procs, self, e.val⟩ c.tick s.cells (s.events.length + 1) { s with events := s.events ++ [e] }
  else if e.kind = 3 then runS ⟨self, procs, self, e.val⟩ c.input s.cells (s.events.length + 1) { s with events := s.events ++ [e] }
  else { s with events := s.events ++ [e] }
noncomputable def replayS (c : Cd) (self procs : Int) (l : List Ev) : St := l.foldl (nextS c self procs) (startS c self procs)
theorem nextS_events (c : Cd) (self procs : Int) (s : St) (e : Ev) : (nextS c self procs s e).events = s.events ++ [e] := by
  unfold nextS
  split
  · rfl
  · split
    · rfl
    · split <;> rfl
theorem replayS_snoc (c : Cd) (self procs : Int) (l : List Ev) (e : Ev) : replayS c self procs (l ++ [e]) = nextS c self procs (replayS c self procs l) e := by
  unfold replayS
  rw [List.foldl_append]
  rfl
theorem replayS_events (c : Cd) (self procs : Int) (l : List Ev) : (replayS c self procs l).events = l := by
  have key : ∀ (l : List Ev) (s : St), (l.foldl (nextS c self procs) s).events = s.events ++ l := by
    intro l
    induction l with
    | nil => intro s; simp
    | cons e l ih => intro s; rw [List.foldl_cons, ih, nextS_events]; simp
  rw [replayS, key]
  rfl
theorem nextS_grows (c : Cd) (self procs : Int) (s : St) (e : Ev) : (∃ a, (nextS c self procs s e).sent = s.sent ++ a) ∧ (∃ b, (nextS c self procs s e).outs = s.outs ++ b) ∧ (nextS c self procs s e).cells.length = s.cells.length := by
  unfold nextS
  split
  · exact ⟨⟨_, rfl⟩, ⟨_, rfl⟩, (execF_fit _ _ _).1⟩
  · split
    · exact ⟨⟨_, rfl⟩, ⟨_, rfl⟩, (execF_fit _ _ _).1⟩
    · split
      · exact ⟨⟨_, rfl⟩, ⟨_, rfl⟩, (execF_fit _ _ _).1⟩
      · exact ⟨⟨[], by simp⟩, ⟨[], by simp⟩, rfl⟩
end Go.Proofs.Ythmepnpjagpcnaa
