/- Data of the program as it lies in memory: events, sends, states. -/
import Derived.Test.YtcfpkmfppgodmaaBase
set_option linter.unusedVariables false
namespace Go.Proofs.Ytcfpkmfppgodmaa
open Go.RowKit

def encI (x : Int) : List Value := [.int .i64 x]
theorem encI_len (x : Int) : (encI x).length = 1 := rfl
theorem encI_one (x : Int) : ∀ u ∈ encI x, u.oneCell' = true := by intro u hu; simp [encI] at hu; subst hu; rfl
structure Ev where
  kind : Int
  inc : Int
  frm : Int
  sInc : Int
  sIdx : Int
  ord : Int
  val : Int
def encEv (e : Ev) : List Value := [.int .i64 e.kind, .int .i64 e.inc, .int .i64 e.frm, .int .i64 e.sInc, .int .i64 e.sIdx, .int .i64 e.ord, .int .i64 e.val]
theorem encEv_len (x : Ev) : (encEv x).length = 7 := rfl
theorem encEv_one (d : Ev) : ∀ u ∈ encEv d, u.oneCell' = true := by
  intro u hu
  simp [encEv] at hu
  rcases hu with h | h | h | h | h | h | h <;> subst h <;> rfl
structure Snd where
  idx : Int
  ord : Int
  to : Int
  val : Int
def encSnd (m : Snd) : List Value := [.int .i64 m.idx, .int .i64 m.ord, .int .i64 m.to, .int .i64 m.val]
theorem encSnd_len (x : Snd) : (encSnd x).length = 4 := rfl
theorem encSnd_one (d : Snd) : ∀ u ∈ encSnd d, u.oneCell' = true := by
  intro u hu
  simp [encSnd] at hu
  rcases hu with h | h | h | h <;> subst h <;> rfl
structure Outp where
  idx : Int
  val : Int
def encOut (m : Outp) : List Value := [.int .i64 m.idx, .int .i64 m.val]
theorem encOut_len (x : Outp) : (encOut x).length = 2 := rfl
theorem encOut_one (d : Outp) : ∀ u ∈ encOut d, u.oneCell' = true := by
  intro u hu
  simp [encOut] at hu
  rcases hu with h | h <;> subst h <;> rfl
structure St where
  cells : List Int
  events : List Ev
  sent : List Snd
  outs : List Outp
/-- Four cells that read as a state. -/
def StR (w : World) (S : Nat → Prop) (cs : List Value) (s : St) : Prop :=
  ∃ (A1 A2 A3 A4 : Option Addr) (n1 c1 n2 c2 n3 c3 n4 c4 : Nat), cs = [.slice A1 n1 c1, .slice A2 n2 c2, .slice A3 n3 c3, .slice A4 n4 c4] ∧
    Sl encI 1 w S A1 n1 c1 s.cells ∧ Sl encEv 7 w S A2 n2 c2 s.events ∧ Sl encSnd 4 w S A3 n3 c3 s.sent ∧ Sl encOut 2 w S A4 n4 c4 s.outs
theorem StR.keep {w w' : World} {S : Nat → Prop} {cs : List Value} {s : St} (h : StR w S cs s) (hk : Same S w w') : StR w' S cs s := by
  obtain ⟨A1, A2, A3, A4, n1, c1, n2, c2, n3, c3, n4, c4, e, h1, h2, h3, h4⟩ := h
  exact ⟨A1, A2, A3, A4, n1, c1, n2, c2, n3, c3, n4, c4, e, h1.keep hk, h2.keep hk, h3.keep hk, h4.keep hk⟩
theorem StR.more {w : World} {S T : Nat → Prop} {cs : List Value} {s : St} (h : StR w S cs s) (hk : ∀ i, S i → T i) : StR w T cs s := by
  obtain ⟨A1, A2, A3, A4, n1, c1, n2, c2, n3, c3, n4, c4, e, h1, h2, h3, h4⟩ := h
  exact ⟨A1, A2, A3, A4, n1, c1, n2, c2, n3, c3, n4, c4, e, h1.more hk, h2.more hk, h3.more hk, h4.more hk⟩
end Go.Proofs.Ytcfpkmfppgodmaa
