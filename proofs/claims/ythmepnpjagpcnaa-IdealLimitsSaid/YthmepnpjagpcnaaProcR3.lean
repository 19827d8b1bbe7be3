/- The reference's Replay. -/
import Derived.Test.YthmepnpjagpcnaaProcR2
set_option linter.unusedVariables false
set_option linter.unusedSimpArgs false
set_option maxRecDepth 100000
namespace Go.Proofs.Ythmepnpjagpcnaa
open Go.RowKit Go.Proofs

theorem runS_len (v : EnvS) (body : List Stm) (cells : List Int) (ix : Int) (s : St) : (runS v body cells ix s).cells.length = cells.length ∧ (runS v body cells ix s).sent.length ≤ s.sent.length + 8 ∧ (runS v body cells ix s).outs.length ≤ s.outs.length + 8 := by
  have h := execF_fit v body cells
  have h1 := sendsOf_len ix (execF v body cells).effs 0
  have h2 := outsOf_len ix (execF v body cells).effs
  refine ⟨h.1, ?_, ?_⟩
  · show (s.sent ++ _).length ≤ _; rw [List.length_append]; omega
  · show (s.outs ++ _).length ≤ _; rw [List.length_append]; omega
theorem nextS_len (c : Cd) (self procs : Int) (s : St) (x : Ev) : (nextS c self procs s x).cells.length = s.cells.length ∧ (nextS c self procs s x).sent.length ≤ s.sent.length + 8 ∧ (nextS c self procs s x).outs.length ≤ s.outs.length + 8 := by
  unfold nextS
  split
  · exact runS_len _ _ _ _ _
  · split
    · exact runS_len _ _ _ _ _
    · split
      · exact runS_len _ _ _ _ _
      · exact ⟨rfl, by simp, by simp⟩
theorem replayS_len (c : Cd) (self procs : Int) (l : List Ev) : (replayS c self procs l).cells.length = c.init.length ∧ (replayS c self procs l).sent.length ≤ 8 * (l.length + 1) ∧ (replayS c self procs l).outs.length ≤ 8 * (l.length + 1) ∧ (replayS c self procs l).events.length = l.length := by
  have key : ∀ (l : List Ev) (s : St), (l.foldl (nextS c self procs) s).cells.length = s.cells.length ∧ (l.foldl (nextS c self procs) s).sent.length ≤ s.sent.length + 8 * l.length ∧ (l.foldl (nextS c self procs) s).outs.length ≤ s.outs.length + 8 * l.length := by
    intro l
    induction l with
    | nil => intro s; exact ⟨rfl, by simp, by simp⟩
    | cons x l ih =>
      intro s
      have h1 := ih (nextS c self procs s x)
      have h2 := nextS_len c self procs s x
      rw [List.foldl_cons, List.length_cons]
      exact ⟨h1.1.trans h2.1, by omega, by omega⟩
  have h := key l (startS c self procs)
  have h0 := runS_len ⟨self, procs, self, 0⟩ c.start c.init 0 ⟨[], [], [], []⟩
  have h0' : (startS c self procs).cells.length = c.init.length ∧ (startS c self procs).sent.length ≤ 8 ∧ (startS c self procs).outs.length ≤ 8 := by
    refine ⟨h0.1, ?_, ?_⟩
    · have := h0.2.1; simp only [List.length_nil, Nat.zero_add] at this; exact this
    · have := h0.2.2; simp only [List.length_nil, Nat.zero_add] at this; exact this
  refine ⟨h.1.trans h0'.1, ?_, ?_, by rw [replayS_events]⟩
  · have := h.2.1; unfold replayS; omega
  · have := h.2.2; unfold replayS; omega
/-- Blocks of S, and the blocks from B on, but b. -/
def Sb (S : Nat → Prop) (B b : Nat) (w : World) (i : Nat) : Prop := (S i ∨ (B ≤ i ∧ i < w.heap.size)) ∧ i ≠ b
def RepRel (S : Nat → Prop) (B b : Nat) (c : Cd) (self procs : Int) (l : List Ev) (w0 : World) (i : Value) (wr : World) : Prop :=
  ∃ (k : Nat) (B1 B2 B3 B4 : Option Addr) (p1 q1 p2 q2 p3 q3 p4 q4 : Nat), i = .int .i64 k ∧ k ≤ l.length ∧ Blk wr b 105 #[.slice B1 p1 q1, .slice B2 p2 q2, .slice B3 p3 q3, .slice B4 p4 q4] ∧ StR wr (Sb S B b wr) [.slice B1 p1 q1, .slice B2 p2 q2, .slice B3 p3 q3, .slice B4 p4 q4] (replayS c self procs (l.take k)) ∧ Same (· < B) w0 wr
theorem take_replay {c : Cd} {self procs : Int} {l : List Ev} {k : Nat} {x : Ev} (h : l[k]? = some x) : nextS c self procs (replayS c self procs (l.take k)) x = replayS c self procs (l.take (k + 1)) := by
  rw [(take_snoc h).1, replayS_snoc]
end Go.Proofs.Ythmepnpjagpcnaa
