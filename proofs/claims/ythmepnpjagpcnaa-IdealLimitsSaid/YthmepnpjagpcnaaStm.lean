/- Statements in memory. -/
import Derived.Test.YthmepnpjagpcnaaMkExpr
set_option linter.unusedVariables false
set_option maxRecDepth 100000
set_option linter.unusedSimpArgs false
namespace Go.Proofs.Ythmepnpjagpcnaa
open Go.RowKit Go.Proofs

inductive Stm where
  | mk (kind : Int) (name : ByteArray) (slot size : Int) (place value : Ex) (body els : List Stm)
def stmCells (kind : Int) (name : ByteArray) (slot size : Int) (ps vs : List Value) (b e : Value) : List Value := .int .i64 kind :: .string name :: .int .i64 slot :: .int .i64 size :: (ps ++ (vs ++ [b, e]))
/-- Eighteen cells that read as a statement of at most so many levels; its expressions have at most five. -/
def StmR (w : World) (S : Nat → Prop) : Nat → List Value → Stm → Prop
  | 0, _, _ => False
  | n + 1, cs, .mk kind name slot size place value body els => I64 slot ∧ I64 size ∧ ∃ (ps vs : List Value) (A A2 : Option Addr) (m c m2 c2 : Nat), cs = stmCells kind name slot size ps vs (.slice A m c) (.slice A2 m2 c2) ∧ ExR w S 5 ps place ∧ ExR w S 5 vs value ∧ SlR w S 18 (StmR w S n) A m c body ∧ SlR w S 18 (StmR w S n) A2 m2 c2 els
theorem StmR.keep {w w' : World} {S : Nat → Prop} (hk : Same S w w') : ∀ (n : Nat) (cs : List Value) (e : Stm), StmR w S n cs e → StmR w' S n cs e
  | 0, _, _, h => h
  | n + 1, cs, .mk kind name slot size place value body els, h => by
    obtain ⟨h1, h2, ps, vs, A, A2, m, c, m2, c2, e, hp, hv, hb, he⟩ := h
    exact ⟨h1, h2, ps, vs, A, A2, m, c, m2, c2, e, ExR.keep hk _ _ _ hp, ExR.keep hk _ _ _ hv, hb.keep hk (StmR.keep hk n), he.keep hk (StmR.keep hk n)⟩
theorem StmR.more {w : World} {S T : Nat → Prop} (hS : ∀ i, S i → T i) : ∀ (n : Nat) (cs : List Value) (e : Stm), StmR w S n cs e → StmR w T n cs e
  | 0, _, _, h => h
  | n + 1, cs, .mk kind name slot size place value body els, h => by
    obtain ⟨h1, h2, ps, vs, A, A2, m, c, m2, c2, e, hp, hv, hb, he⟩ := h
    exact ⟨h1, h2, ps, vs, A, A2, m, c, m2, c2, e, ExR.more hS _ _ _ hp, ExR.more hS _ _ _ hv, hb.more hS (StmR.more hS n), he.more hS (StmR.more hS n)⟩
theorem StmR.up {w : World} {S : Nat → Prop} : ∀ (n : Nat) (cs : List Value) (e : Stm), StmR w S n cs e → StmR w S (n + 1) cs e
  | n + 1, cs, .mk kind name slot size place value body els, h => by
    obtain ⟨h1, h2, ps, vs, A, A2, m, c, m2, c2, e, hp, hv, hb, he⟩ := h
    exact ⟨h1, h2, ps, vs, A, A2, m, c, m2, c2, e, hp, hv, hb.more (fun _ h => h) (StmR.up n), he.more (fun _ h => h) (StmR.up n)⟩
theorem StmR.good (n : Nat) : Good (fun w S cs e => StmR w S n cs e) := ⟨fun hk h => StmR.keep hk n _ _ h, fun hS h => StmR.more hS n _ _ h⟩
theorem ExR.upto {w : World} {S : Nat → Prop} {cs : List Value} {e : Ex} : ∀ {n m : Nat}, n ≤ m → ExR w S n cs e → ExR w S m cs e
  | n, 0, hm, h => by have e : n = 0 := by omega
                      rw [e] at h; exact h.elim
  | n, m + 1, hm, h => by
    rcases Nat.lt_or_ge n (m + 1) with hlt | hge
    · exact ExR.up _ _ _ (ExR.upto (by omega) h)
    · obtain rfl : n = m + 1 := by omega
      exact h
theorem Ex.few_upto {k : Nat} {w : World} {S : Nat → Prop} : ∀ {n m : Nat} {cs : List Value} {e : Ex}, ExR w S n cs e → Ex.few k n e → Ex.few k m e
  | n + 1, 0, cs, .mk op val name slot size args, h, hf => trivial
  | n + 1, m + 1, cs, .mk op val name slot size args, h, hf => by
    obtain ⟨_, _, A, m', c, e, hs⟩ := h
    refine ⟨hf.1, fun a ha => ?_⟩
    obtain ⟨j, hj, rfl⟩ := List.mem_iff_getElem.1 ha
    obtain ⟨_, _, cs', a', _, _, ha', hR, _⟩ := hs.at_ (k := j) (by have := hs.1; omega)
    rw [List.getElem?_eq_getElem hj] at ha'
    injection ha' with ha'
    rw [ha']
    refine Ex.few_upto hR (hf.2 a' ?_)
    rw [← ha']
    exact List.getElem_mem hj
/-- A statement's cells written out. -/
theorem StmR.open_ {w : World} {S : Nat → Prop} : ∀ {n : Nat} {cs : List Value} {s : Stm}, StmR w S n cs s → ∃ (kind : Int) (name : ByteArray) (slot size : Int) (place value : Ex) (body els : List Stm) (o1 x1 : Int) (n1 : ByteArray) (l1 z1 : Int) (B1 : Option Addr) (p1 q1 : Nat) (o2 x2 : Int) (n2 : ByteArray) (l2 z2 : Int) (B2 : Option Addr) (p2 q2 : Nat) (A A2 : Option Addr) (m c m2 c2 : Nat),
      s = .mk kind name slot size place value body els ∧ cs = [.int .i64 kind, .string name, .int .i64 slot, .int .i64 size, .int .i64 o1, .int .i64 x1, .string n1, .int .i64 l1, .int .i64 z1, .slice B1 p1 q1, .int .i64 o2, .int .i64 x2, .string n2, .int .i64 l2, .int .i64 z2, .slice B2 p2 q2, .slice A m c, .slice A2 m2 c2] ∧
      ExR w S 5 [.int .i64 o1, .int .i64 x1, .string n1, .int .i64 l1, .int .i64 z1, .slice B1 p1 q1] place ∧ ExR w S 5 [.int .i64 o2, .int .i64 x2, .string n2, .int .i64 l2, .int .i64 z2, .slice B2 p2 q2] value ∧ SlR w S 18 (StmR w S (n - 1)) A m c body ∧ SlR w S 18 (StmR w S (n - 1)) A2 m2 c2 els
  | n + 1, cs, .mk kind name slot size place value body els, h => by
    obtain ⟨h1, h2, ps, vs, A, A2, m, c, m2, c2, e, hp, hv, hb, he⟩ := h
    obtain ⟨o1, x1, n1, l1, z1, a1, B1, p1, q1, -, rfl⟩ := ExR.open_ hp
    obtain ⟨o2, x2, n2, l2, z2, a2, B2, p2, q2, -, rfl⟩ := ExR.open_ hv
    exact ⟨kind, name, slot, size, place, value, body, els, o1, x1, n1, l1, z1, B1, p1, q1, o2, x2, n2, l2, z2, B2, p2, q2, A, A2, m, c, m2, c2, rfl, e, hp, hv, hb, he⟩
theorem StmR.len {w : World} {S : Nat → Prop} {n : Nat} {cs : List Value} {s : Stm} (h : StmR w S n cs s) : cs.length = 18 := by
  obtain ⟨_, _, _, _, _, _, _, _, _, _, _, _, _, _, _, _, _, _, _, _, _, _, _, _, _, _, _, _, _, _, _, e, _⟩ := StmR.open_ h
  rw [e]; rfl
theorem StmR.one' {w : World} {S : Nat → Prop} {n : Nat} {cs : List Value} {s : Stm} (h : StmR w S n cs s) : ∀ u ∈ cs, u.oneCell' = true := by
  obtain ⟨_, _, _, _, _, _, _, _, _, _, _, _, _, _, _, _, _, _, _, _, _, _, _, _, _, _, _, _, _, _, _, e, _⟩ := StmR.open_ h
  rw [e]
  exact fun u hu => List.all_eq_true.1 (show List.all _ (·.oneCell') = true from rfl) u hu
def Stm.few (k : Nat) : Nat → Stm → Prop
  | 0, _ => True
  | n + 1, .mk _ _ _ _ place value body els => Ex.few k 5 place ∧ Ex.few k 5 value ∧ body.length ≤ k ∧ els.length ≤ k ∧ (∀ a ∈ body, Stm.few k n a) ∧ (∀ a ∈ els, Stm.few k n a)
/-- The expression that is not there. -/
def zeroEx : Ex := .mk 0 0 ⟨#[]⟩ 0 0 []
theorem zeroEx_R {w : World} {S : Nat → Prop} (n : Nat) : ExR w S (n + 1) [.int .i64 0, .int .i64 0, .string ⟨#[]⟩, .int .i64 0, .int .i64 0, .slice none 0 0] zeroEx := ExR.leaf n 0 0 ⟨#[]⟩
theorem zeroEx_few (k n : Nat) : Ex.few k n zeroEx := by
  cases n with
  | zero => trivial
  | succ n => exact few_leaf
end Go.Proofs.Ythmepnpjagpcnaa
