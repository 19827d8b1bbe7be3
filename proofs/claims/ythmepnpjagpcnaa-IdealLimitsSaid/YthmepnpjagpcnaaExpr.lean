/- Expressions in memory, and what eval.Value computes of them. -/
import Derived.Test.YthmepnpjagpcnaaEval
import Derived.Test.YthmepnpjagpcnaaData
set_option linter.unusedVariables false
set_option maxRecDepth 100000
set_option linter.unusedSimpArgs false
namespace Go.Proofs.Ythmepnpjagpcnaa
open Go.RowKit Go.Proofs

inductive Ex where
  | mk (op val : Int) (name : ByteArray) (slot size : Int) (args : List Ex)
/-- Six cells that read as an expression of at most so many levels. -/
def ExR (w : World) (S : Nat → Prop) : Nat → List Value → Ex → Prop
  | 0, _, _ => False
  | n + 1, cs, .mk op val name slot size args => I64 slot ∧ I64 size ∧ ∃ (A : Option Addr) (m c : Nat), cs = [.int .i64 op, .int .i64 val, .string name, .int .i64 slot, .int .i64 size, .slice A m c] ∧ SlR w S 6 (ExR w S n) A m c args
theorem ExR.keep {w w' : World} {S : Nat → Prop} (hk : Same S w w') : ∀ (n : Nat) (cs : List Value) (e : Ex), ExR w S n cs e → ExR w' S n cs e
  | 0, _, _, h => h
  | n + 1, cs, .mk op val name slot size args, h => by
    obtain ⟨h1, h2, A, m, c, e, hs⟩ := h
    exact ⟨h1, h2, A, m, c, e, hs.keep hk (ExR.keep hk n)⟩
theorem ExR.more {w : World} {S T : Nat → Prop} (hS : ∀ i, S i → T i) : ∀ (n : Nat) (cs : List Value) (e : Ex), ExR w S n cs e → ExR w T n cs e
  | 0, _, _, h => h
  | n + 1, cs, .mk op val name slot size args, h => by
    obtain ⟨h1, h2, A, m, c, e, hs⟩ := h
    exact ⟨h1, h2, A, m, c, e, hs.more hS (ExR.more hS n)⟩
theorem ExR.up {w : World} {S : Nat → Prop} : ∀ (n : Nat) (cs : List Value) (e : Ex), ExR w S n cs e → ExR w S (n + 1) cs e
  | n + 1, cs, .mk op val name slot size args, h => by
    obtain ⟨h1, h2, A, m, c, e, hs⟩ := h
    exact ⟨h1, h2, A, m, c, e, hs.more (fun _ h => h) (ExR.up n)⟩
def ExAt (w : World) (S : Nat → Prop) (n b off : Nat) (e : Ex) : Prop := S b ∧ ∃ cs, ExR w S n cs e ∧ ∀ j u, cs[j]? = some u → w.cell? ⟨b, off + j, none⟩ = some u
theorem ExAt.keep {w w' : World} {S : Nat → Prop} {n b off : Nat} {e : Ex} (h : ExAt w S n b off e) (hk : Same S w w') : ExAt w' S n b off e := by
  obtain ⟨hb, cs, hr, hc⟩ := h
  exact ⟨hb, cs, ExR.keep hk n cs e hr, fun j u hu => (hk.cell (p := ⟨b, off + j, none⟩) hb).trans (hc j u hu)⟩

structure EnvS where
  self : Int
  procs : Int
  frm : Int
  val : Int
def EnvAt (w : World) (S : Nat → Prop) (b : Nat) (v : EnvS) : Prop :=
  S b ∧ w.cell? ⟨b, 0, none⟩ = some (.int .i64 v.self) ∧ w.cell? ⟨b, 1, none⟩ = some (.int .i64 v.procs) ∧ w.cell? ⟨b, 2, none⟩ = some (.int .i64 v.frm) ∧ w.cell? ⟨b, 3, none⟩ = some (.int .i64 v.val)
theorem EnvAt.keep {w w' : World} {S : Nat → Prop} {b : Nat} {v : EnvS} (h : EnvAt w S b v) (hk : Same S w w') : EnvAt w' S b v := by
  obtain ⟨hb, h0, h1, h2, h3⟩ := h
  exact ⟨hb, (hk.cell (p := ⟨b, 0, none⟩) hb).trans h0, (hk.cell (p := ⟨b, 1, none⟩) hb).trans h1, (hk.cell (p := ⟨b, 2, none⟩) hb).trans h2, (hk.cell (p := ⟨b, 3, none⟩) hb).trans h3⟩

def cellS (cells : List Int) (k : Int) : Int := if k < 0 ∨ (cells.length : Int) ≤ k then 0 else cells.getD k.toNat 0
def idxS (cells : List Int) (slot size i : Int) : Int := if i < 0 ∨ size ≤ i then 0 else cellS cells (wrap64 (slot + i))
def valS (cells : List Int) (v : EnvS) : Nat → Ex → Int
  | 0, _ => 0
  | n + 1, .mk op val _ slot size args =>
    if op = 1 then val else if op = 2 then cellS cells slot else if op = 3 then idxS cells slot size (match args[0]? with | some a => valS cells v n a | none => 0)
    else if op = 4 then v.self else if op = 5 then v.procs else if op = 6 then v.frm else if op = 7 then v.val else if op < 8 ∨ 22 < op then 0
    else applyS op (match args[0]? with | some a => valS cells v n a | none => 0) (match args[1]? with | some a => valS cells v n a | none => 0)
def argS (cells : List Int) (v : EnvS) (n : Nat) (args : List Ex) (i : Nat) : Int := match args[i]? with | some a => valS cells v n a | none => 0

theorem cell_any (w : World) (S : Nat → Prop) (A : Option Addr) (m c : Nat) (cells : List Int) (k : Int) (h : Sl encI 1 w S A m c cells) (hm : m ≤ 9223372036854775807) :
    Calls Try.prog 78 #[.slice A m c, .int .i64 k] w (IntIs (cellS cells k) w) := by
  by_cases h1 : k < 0
  · have hs : cellS cells k = 0 := if_pos (.inl h1)
    rw [hs]
    clear hs
    go_enter Try.func78, Try.ntmps78
    go_wp2_with fail
    go_ret
    exact ⟨rfl, rfl⟩
  by_cases h2 : (m : Int) ≤ k
  · have hs : cellS cells k = 0 := if_pos (.inr (by have := h.1; omega))
    rw [hs]
    clear hs
    go_enter Try.func78, Try.ntmps78
    go_wp2_with fail
    go_ret
    exact ⟨rfl, rfl⟩
  obtain ⟨j, rfl⟩ := Int.eq_ofNat_of_zero_le (show 0 ≤ k by omega)
  obtain ⟨b, off, x, rfl, _, hx, hc⟩ := h.at_ encI_len (k := j) (by omega)
  have hs : cellS cells j = x := by
    unfold cellS
    rw [if_neg (by have := h.1; omega)]
    simp [hx]
  have hc0 : w.cell? ⟨b, off + j, none⟩ = some (.int .i64 x) := by have := hc 0 _ rfl; simpa using this
  rw [hs]
  clear hs hc hx h
  have h3 : (j : Int) < m := by omega
  have h4 : (0 : Int) ≤ j := by omega
  go_enter Try.func78, Try.ntmps78
  go_wp2_with fail
  go_ret
  exact ⟨rfl, rfl⟩
end Go.Proofs.Ythmepnpjagpcnaa
