/- What a handler does: the interpreter's steps, in plain Lean. -/
import Derived.Test.YthmepnpjagpcnaaStm
set_option linter.unusedVariables false
namespace Go.Proofs.Ythmepnpjagpcnaa
open Go.RowKit Go.Proofs

structure Eff where
  kind : Int
  dst : Int
  val : Int
def encEff (e : Eff) : List Value := [.int .i64 e.kind, .int .i64 e.dst, .int .i64 e.val]
theorem encEff_len (x : Eff) : (encEff x).length = 3 := rfl
theorem encEff_one (d : Eff) : ∀ u ∈ encEff d, u.oneCell' = true := by
  intro u hu
  simp [encEff] at hu
  rcases hu with h | h | h <;> subst h <;> rfl
structure Ms where
  cells : List Int
  effs : List Eff
  fuel : Nat
inductive Task where
  | list (l : List Stm)
  | stm (s : Stm)
  | loop (s : Stm)
inductive Res where
  | done (s : Ms)
  | dead (s : Ms)
def Res.st : Res → Ms
  | .done s => s
  | .dead s => s
def Stm.kind : Stm → Int | .mk k _ _ _ _ _ _ _ => k
def Stm.slot : Stm → Int | .mk _ _ k _ _ _ _ _ => k
def Stm.size : Stm → Int | .mk _ _ _ k _ _ _ _ => k
def Stm.place : Stm → Ex | .mk _ _ _ _ e _ _ _ => e
def Stm.value : Stm → Ex | .mk _ _ _ _ _ e _ _ => e
def Stm.body : Stm → List Stm | .mk _ _ _ _ _ _ b _ => b
def Stm.els : Stm → List Stm | .mk _ _ _ _ _ _ _ b => b
def Ms.pay (s : Ms) : Ms := { s with fuel := s.fuel - 1 }
def Ms.set (s : Ms) (k x : Int) : Ms := if 0 ≤ k ∧ k < s.cells.length then { s with cells := s.cells.set k.toNat x } else s
def Ms.eff (s : Ms) (e : Eff) : Ms := if s.effs.length < 8 then { s with effs := s.effs ++ [e] } else s
/-- What a statement without a body does. -/
def simpleS (v : EnvS) (s : Stm) (m : Ms) : Ms :=
  if s.kind = 1 then m.set s.slot (valS m.cells v 5 s.value)
  else if s.kind = 2 then (if 0 ≤ valS m.cells v 5 s.place ∧ valS m.cells v 5 s.place < s.size then m.set (wrap64 (s.slot + valS m.cells v 5 s.place)) (valS m.cells v 5 s.value) else m)
  else if s.kind = 5 then (if 0 ≤ valS m.cells v 5 s.place ∧ valS m.cells v 5 s.place < v.procs ∧ valS m.cells v 5 s.place ≠ v.self then m.eff ⟨1, valS m.cells v 5 s.place, valS m.cells v 5 s.value⟩ else m)
  else if s.kind = 6 then m.eff ⟨2, 0, valS m.cells v 5 s.value⟩
  else m
inductive Exec (v : EnvS) : Task → Ms → Res → Prop
  | nil (m : Ms) : Exec v (.list []) m (.done m)
  | cons {s : Stm} {l : List Stm} {m m1 : Ms} {r : Res} (h1 : Exec v (.stm s) m (.done m1)) (h2 : Exec v (.list l) m1 r) : Exec v (.list (s :: l)) m r
  | consDead {s : Stm} {l : List Stm} {m m1 : Ms} (h1 : Exec v (.stm s) m (.dead m1)) : Exec v (.list (s :: l)) m (.dead m1)
  | empty {s : Stm} {m : Ms} (h : m.fuel = 0) : Exec v (.stm s) m (.dead m)
  | simple {s : Stm} {m : Ms} (h : 0 < m.fuel) (h3 : s.kind ≠ 3) (h4 : s.kind ≠ 4) : Exec v (.stm s) m (.done (simpleS v s m.pay))
  | ifE {s : Stm} {m : Ms} {r : Res} (h : 0 < m.fuel) (h3 : s.kind = 3) (h1 : Exec v (.list (if valS m.cells v 5 s.value = 0 then s.els else s.body)) m.pay r) : Exec v (.stm s) m r
  | whileE {s : Stm} {m : Ms} {r : Res} (h : 0 < m.fuel) (h4 : s.kind = 4) (h1 : Exec v (.loop s) m.pay r) : Exec v (.stm s) m r
  | stop {s : Stm} {m : Ms} (h : valS m.cells v 5 s.value = 0) : Exec v (.loop s) m (.done m)
  | bodyDead {s : Stm} {m m1 : Ms} (h : valS m.cells v 5 s.value ≠ 0) (h1 : Exec v (.list s.body) m (.dead m1)) : Exec v (.loop s) m (.dead m1)
  | out {s : Stm} {m m1 : Ms} (h : valS m.cells v 5 s.value ≠ 0) (h1 : Exec v (.list s.body) m (.done m1)) (h0 : m1.fuel = 0) : Exec v (.loop s) m (.dead m1)
  | again {s : Stm} {m m1 : Ms} {r : Res} (h : valS m.cells v 5 s.value ≠ 0) (h1 : Exec v (.list s.body) m (.done m1)) (h0 : 0 < m1.fuel) (h2 : Exec v (.loop s) m1.pay r) : Exec v (.loop s) m r
theorem Exec.det {v : EnvS} {t : Task} {m : Ms} {r : Res} (h : Exec v t m r) : ∀ {r' : Res}, Exec v t m r' → r = r' := by
  induction h with
  | nil m => intro r' h'; cases h'; rfl
  | cons h1 h2 ih1 ih2 =>
    intro r' h'
    cases h' with
    | cons g1 g2 => have e := ih1 g1; injection e with e; subst e; exact ih2 g2
    | consDead g1 => have e := ih1 g1; cases e
  | consDead h1 ih1 =>
    intro r' h'
    cases h' with
    | cons g1 g2 => have e := ih1 g1; cases e
    | consDead g1 => exact ih1 g1
  | empty h0 =>
    intro r' h'
    cases h' with
    | empty _ => rfl
    | simple h _ _ => omega
    | ifE h _ _ => omega
    | whileE h _ _ => omega
  | simple h h3 h4 =>
    intro r' h'
    cases h' with
    | empty h0 => omega
    | simple _ _ _ => rfl
    | ifE _ g3 _ => exact absurd g3 h3
    | whileE _ g4 _ => exact absurd g4 h4
  | ifE h h3 h1 ih =>
    intro r' h'
    cases h' with
    | empty h0 => omega
    | simple _ g3 _ => exact absurd h3 g3
    | ifE _ _ g1 => exact ih g1
    | whileE _ g4 _ => omega
  | whileE h h4 h1 ih =>
    intro r' h'
    cases h' with
    | empty h0 => omega
    | simple _ _ g4 => exact absurd h4 g4
    | ifE _ g3 _ => omega
    | whileE _ _ g1 => exact ih g1
  | stop h =>
    intro r' h'
    cases h' with
    | stop _ => rfl
    | bodyDead g _ => exact absurd h g
    | out g _ _ => exact absurd h g
    | again g _ _ _ => exact absurd h g
  | bodyDead h h1 ih =>
    intro r' h'
    cases h' with
    | stop g => exact absurd g h
    | bodyDead _ g1 => exact ih g1
    | out _ g1 _ => have e := ih g1; cases e
    | again _ g1 _ _ => have e := ih g1; cases e
  | out h h1 h0 ih =>
    intro r' h'
    cases h' with
    | stop g => exact absurd g h
    | bodyDead _ g1 => have e := ih g1; cases e
    | out _ g1 _ => have e := ih g1; injection e with e; subst e; rfl
    | again _ g1 g0 _ => have e := ih g1; injection e with e; subst e; omega
  | again h h1 h0 h2 ih1 ih2 =>
    intro r' h'
    cases h' with
    | stop g => exact absurd g h
    | bodyDead _ g1 => have e := ih1 g1; cases e
    | out _ g1 g0 => have e := ih1 g1; injection e with e; subst e; omega
    | again _ g1 _ g2 => have e := ih1 g1; injection e with e; subst e; exact ih2 g2
theorem Ms.set_len (m : Ms) (k x : Int) : (m.set k x).cells.length = m.cells.length ∧ (m.set k x).effs = m.effs ∧ (m.set k x).fuel = m.fuel := by
  unfold Ms.set
  split
  · exact ⟨by simp, rfl, rfl⟩
  · exact ⟨rfl, rfl, rfl⟩
theorem Ms.eff_len (m : Ms) (e : Eff) : (m.eff e).cells = m.cells ∧ (m.eff e).fuel = m.fuel ∧ (m.effs.length ≤ 8 → (m.eff e).effs.length ≤ 8) := by
  unfold Ms.eff
  split
  · exact ⟨rfl, rfl, fun _ => by simp; omega⟩
  · exact ⟨rfl, rfl, fun h => h⟩
/-- What stays: the number of cells; at most eight effects; no more fuel. -/
def Fit (m m' : Ms) : Prop := m'.cells.length = m.cells.length ∧ (m.effs.length ≤ 8 → m'.effs.length ≤ 8) ∧ m'.fuel ≤ m.fuel
theorem Fit.trans {a b c : Ms} (h : Fit a b) (k : Fit b c) : Fit a c := ⟨k.1.trans h.1, fun e => k.2.1 (h.2.1 e), Nat.le_trans k.2.2 h.2.2⟩
theorem Fit.refl (a : Ms) : Fit a a := ⟨rfl, fun h => h, Nat.le_refl _⟩
theorem Fit.pay (a : Ms) : Fit a a.pay := ⟨rfl, fun h => h, by simp [Ms.pay]⟩
theorem simpleS_fit (v : EnvS) (s : Stm) (m : Ms) : Fit m (simpleS v s m) := by
  unfold simpleS
  split
  · have := m.set_len s.slot (valS m.cells v 5 s.value); exact ⟨this.1, fun h => by rw [this.2.1]; exact h, by rw [this.2.2]; exact Nat.le_refl _⟩
  · split
    · split
      · have := m.set_len (wrap64 (s.slot + valS m.cells v 5 s.place)) (valS m.cells v 5 s.value); exact ⟨this.1, fun h => by rw [this.2.1]; exact h, by rw [this.2.2]; exact Nat.le_refl _⟩
      · exact Fit.refl _
    · split
      · split
        · have := m.eff_len ⟨1, valS m.cells v 5 s.place, valS m.cells v 5 s.value⟩; exact ⟨by rw [this.1], this.2.2, by rw [this.2.1]; exact Nat.le_refl _⟩
        · exact Fit.refl _
      · split
        · have := m.eff_len ⟨2, 0, valS m.cells v 5 s.value⟩; exact ⟨by rw [this.1], this.2.2, by rw [this.2.1]; exact Nat.le_refl _⟩
        · exact Fit.refl _
theorem Exec.fit {v : EnvS} {t : Task} {m : Ms} {r : Res} (h : Exec v t m r) : Fit m r.st := by
  induction h with
  | nil m => exact Fit.refl _
  | cons _ _ i1 i2 => exact i1.trans i2
  | consDead _ i1 => exact i1
  | empty _ => exact Fit.refl _
  | simple _ _ _ => exact (Fit.pay _).trans (simpleS_fit _ _ _)
  | ifE _ _ _ i => exact (Fit.pay _).trans i
  | whileE _ _ _ i => exact (Fit.pay _).trans i
  | stop _ => exact Fit.refl _
  | bodyDead _ _ i => exact i
  | out _ _ _ i => exact i
  | again _ _ _ _ i1 i2 => exact (Fit.trans i1 (Fit.pay _)).trans i2
/-- One statement more. -/
theorem Exec.snoc {v : EnvS} {a : List Stm} {s : Stm} {m m1 : Ms} {r : Res} (h1 : Exec v (.list a) m (.done m1)) (h2 : Exec v (.stm s) m1 r) : (∀ m2, r = .done m2 → Exec v (.list (a ++ [s])) m (.done m2)) ∧ (∀ m2 b, r = .dead m2 → Exec v (.list (a ++ s :: b)) m (.dead m2)) := by
  induction a generalizing m with
  | nil =>
    cases h1
    exact ⟨fun m2 e => by subst e; exact .cons h2 (.nil _), fun m2 b e => by subst e; exact .consDead h2⟩
  | cons x a ih =>
    cases h1 with
    | cons g1 g2 =>
      have := ih g2
      exact ⟨fun m2 e => .cons g1 (this.1 m2 e), fun m2 b e => .cons g1 (this.2 m2 b e)⟩
end Go.Proofs.Ythmepnpjagpcnaa
