import Derived.Test.YtcfpkmfppgodmaaProg
import Derived.Test.YtcfpkmfppgodmaaBase
import Derived.Laws.EntriesVeiled
import Derived.Test.YtcfpkmfppgodmaaData
import Derived.Test.YtcfpkmfppgodmaaMk2
import Derived.Test.YtcfpkmfppgodmaaBlk
import Derived.Defers
import Derived.Recover
import Derived.Laws.Pointers
import Derived.Lib.SliceRun
import Derived.Test.YtcfpkmfppgodmaaSame
-- Eval
/- Contracts: eval.Apply, the reference's Apply, the maker's Mod: each computes applyS, modS. -/
set_option linter.unusedVariables false
set_option maxRecDepth 100000
set_option linter.unusedSimpArgs false
namespace Go.Proofs.Ytcfpkmfppgodmaa
open Go.RowKit Go.Proofs

def truthS (b : Bool) : Int := if b then 1 else 0
def quoS (a b : Int) : Int := if b = 0 then 0 else wrap64 (a.tdiv b)
def remS (a b : Int) : Int := if b = 0 then 0 else a.tmod b
def applyS (op a b : Int) : Int :=
  if op = 8 then wrap64 (-a) else if op = 9 then truthS (a == 0) else if op = 10 then wrap64 (a + b) else if op = 11 then wrap64 (a - b) else if op = 12 then wrap64 (a * b)
  else if op = 13 then quoS a b else if op = 14 then remS a b
  else if op = 15 then truthS (decide (a < b)) else if op = 16 then truthS (decide (a ≤ b)) else if op = 17 then truthS (decide (b < a)) else if op = 18 then truthS (decide (b ≤ a))
  else if op = 19 then truthS (a == b) else if op = 20 then truthS (a != b) else if op = 21 then truthS (a != 0 && b != 0) else if op = 22 then truthS (a != 0 || b != 0) else 0

def ApplyPost (v : Int) (w : World) (e : Ending) (w' : World) : Prop := e = .returned (.int .i64 v) ∧ Keep w w'


end Go.Proofs.Ytcfpkmfppgodmaa

-- Expr
/- Expressions in memory, and what eval.Value computes of them. -/
set_option linter.unusedVariables false
set_option maxRecDepth 100000
set_option linter.unusedSimpArgs false
namespace Go.Proofs.Ytcfpkmfppgodmaa
open Go.RowKit Go.Proofs

inductive Ex where
  | mk (op val : Int) (name : ByteArray) (slot size : Int) (args : List Ex)
/-- Six cells that read as an expression of at most so many levels. -/
def ExR (w : World) (S : Nat → Prop) : Nat → List Value → Ex → Prop
  | 0, _, _ => False
  | n + 1, cs, .mk op val name slot size args => I64 slot ∧ I64 size ∧ ∃ (A : Option Addr) (m c : Nat), cs = [.int .i64 op, .int .i64 val, .string name, .int .i64 slot, .int .i64 size, .slice A m c] ∧ SlR w S 6 (ExR w S n) A m c args
theorem ExR.keep {w w' : World} {S : Nat → Prop} (hk : Same S w w') : ∀ (n : Nat) (cs : List Value) (e : Ex), ExR w S n cs e → ExR w' S n cs e
  | 0, _, _, h => h
  | n + 1, cs, .mk op val name slot size args, h => by
    obtain ⟨h1, h2, A, m, c, e, hs⟩ := h
    exact ⟨h1, h2, A, m, c, e, hs.keep hk (ExR.keep hk n)⟩
theorem ExR.more {w : World} {S T : Nat → Prop} (hS : ∀ i, S i → T i) : ∀ (n : Nat) (cs : List Value) (e : Ex), ExR w S n cs e → ExR w T n cs e
  | 0, _, _, h => h
  | n + 1, cs, .mk op val name slot size args, h => by
    obtain ⟨h1, h2, A, m, c, e, hs⟩ := h
    exact ⟨h1, h2, A, m, c, e, hs.more hS (ExR.more hS n)⟩
theorem ExR.up {w : World} {S : Nat → Prop} : ∀ (n : Nat) (cs : List Value) (e : Ex), ExR w S n cs e → ExR w S (n + 1) cs e
  | n + 1, cs, .mk op val name slot size args, h => by
    obtain ⟨h1, h2, A, m, c, e, hs⟩ := h
    exact ⟨h1, h2, A, m, c, e, hs.more (fun _ h => h) (ExR.up n)⟩
def ExAt (w : World) (S : Nat → Prop) (n b off : Nat) (e : Ex) : Prop := S b ∧ ∃ cs, ExR w S n cs e ∧ ∀ j u, cs[j]? = some u → w.cell? ⟨b, off + j, none⟩ = some u
theorem ExAt.keep {w w' : World} {S : Nat → Prop} {n b off : Nat} {e : Ex} (h : ExAt w S n b off e) (hk : Same S w w') : ExAt w' S n b off e := by
  obtain ⟨hb, cs, hr, hc⟩ := h
  exact ⟨hb, cs, ExR.keep hk n cs e hr, fun j u hu => (hk.cell (p := ⟨b, off + j, none⟩) hb).trans (hc j u hu)⟩

structure EnvS where
  self : Int
  procs : Int
  frm : Int
  val : Int
def EnvAt (w : World) (S : Nat → Prop) (b : Nat) (v : EnvS) : Prop :=
  S b ∧ w.cell? ⟨b, 0, none⟩ = some (.int .i64 v.self) ∧ w.cell? ⟨b, 1, none⟩ = some (.int .i64 v.procs) ∧ w.cell? ⟨b, 2, none⟩ = some (.int .i64 v.frm) ∧ w.cell? ⟨b, 3, none⟩ = some (.int .i64 v.val)
theorem EnvAt.keep {w w' : World} {S : Nat → Prop} {b : Nat} {v : EnvS} (h : EnvAt w S b v) (hk : Same S w w') : EnvAt w' S b v := by
  obtain ⟨hb, h0, h1, h2, h3⟩ := h
  exact ⟨hb, (hk.cell (p := ⟨b, 0, none⟩) hb).trans h0, (hk.cell (p := ⟨b, 1, none⟩) hb).trans h1, (hk.cell (p := ⟨b, 2, none⟩) hb).trans h2, (hk.cell (p := ⟨b, 3, none⟩) hb).trans h3⟩

def cellS (cells : List Int) (k : Int) : Int := if k < 0 ∨ (cells.length : Int) ≤ k then 0 else cells.getD k.toNat 0
def idxS (cells : List Int) (slot size i : Int) : Int := if i < 0 ∨ size ≤ i then 0 else cellS cells (wrap64 (slot + i))
def valS (cells : List Int) (v : EnvS) : Nat → Ex → Int
  | 0, _ => 0
  | n + 1, .mk op val _ slot size args =>
    if op = 1 then val else if op = 2 then cellS cells slot else if op = 3 then idxS cells slot size (match args[0]? with | some a => valS cells v n a | none => 0)
    else if op = 4 then v.self else if op = 5 then v.procs else if op = 6 then v.frm else if op = 7 then v.val else if op < 8 ∨ 22 < op then 0
    else applyS op (match args[0]? with | some a => valS cells v n a | none => 0) (match args[1]? with | some a => valS cells v n a | none => 0)
def argS (cells : List Int) (v : EnvS) (n : Nat) (args : List Ex) (i : Nat) : Int := match args[i]? with | some a => valS cells v n a | none => 0

end Go.Proofs.Ytcfpkmfppgodmaa

-- Tree
/- Lists that grow by append, their elements leading to memory of their own. No program in sight. -/
set_option linter.unusedVariables false
namespace Go.Proofs.Ytcfpkmfppgodmaa
open Go.RowKit

/-- The blocks from base on, but the row's own. -/
def Rest (w : World) (base : Nat) (v : Value) (i : Nat) : Prop := base ≤ i ∧ i < w.heap.size ∧ v.ownBlock ≠ some i
def New (w : World) (base : Nat) (i : Nat) : Prop := base ≤ i ∧ i < w.heap.size
/-- A relation of cells to a value that hangs on the blocks of S alone. -/
structure Good {α : Type} (R : World → (Nat → Prop) → List Value → α → Prop) : Prop where
  keep : ∀ {w w' : World} {S : Nat → Prop} {cs : List Value} {a : α}, Same S w w' → R w S cs a → R w' S cs a
  more : ∀ {w : World} {S T : Nat → Prop} {cs : List Value} {a : α}, (∀ i, S i → T i) → R w S cs a → R w T cs a
section
variable {α : Type} {R : World → (Nat → Prop) → List Value → α → Prop} {size base : Nat} {e : TypeId} {w w' W : World} {v v' : Value} {l : List α} {T : Nat → Prop}
def Grow (R : World → (Nat → Prop) → List Value → α → Prop) (size : Nat) (e : TypeId) (w : World) (base : Nat) (v : Value) (l : List α) : Prop :=
  ∃ css : List (List Value), css.length = l.length ∧ (∀ cs ∈ css, cs.length = size) ∧ w.ownsRow base e size v l.length css.flatten ∧ ∀ (k : Nat) (cs : List Value) (a : α), css[k]? = some cs → l[k]? = some a → R w (Rest w base v) cs a
theorem Grow.nil_ : Grow R size e w base (.slice none 0 0) ([] : List α) := ⟨[], rfl, by simp, World.ownsRow_nil _ _ _ _, by simp⟩
theorem Grow.same (hR : Good R) (h : Grow R size e w base v l) (hk : Same T w w') (hT : ∀ i, base ≤ i → i < w.heap.size → T i) : Grow R size e w' base v l := by
  obtain ⟨css, h1, h2, h3, h4⟩ := h
  refine ⟨css, h1, h2, ownsRow_same h3 hk (fun i hi => hT i hi.1 hi.2), fun k cs a e1 e2 => hR.more ?_ (hR.keep (hk.mono (fun i (hi : Rest w base v i) => hT i hi.1 hi.2.1)) (h4 k cs a e1 e2))⟩
  exact fun i hi => ⟨hi.1, Nat.lt_of_lt_of_le hi.2.1 hk.size, hi.2.2⟩
theorem Grow.push (hR : Good R) {css : List (List Value)} {cs : List Value} {a : α} (h1 : css.length = l.length) (h2 : ∀ cs ∈ css, cs.length = size) (h4 : ∀ (k : Nat) (cs : List Value) (a : α), css[k]? = some cs → l[k]? = some a → R w (Rest w base v) cs a)
    (hW : Keep w W) (hown' : w'.ownsRow base e size v' (l.length + 1) (css.flatten ++ cs)) (hg : W.grownBy w' v.ownBlock) (hat : v'.ownBlock = v.ownBlock ∨ v'.ownBlock = some W.heap.size) (hc : cs.length = size) (ha : R w (Rest w base v) cs a) :
    Grow R size e w' base v' (l ++ [a]) := by
  have hz := hW.size
  have hS : Same (Rest w base v) w w' := Same.grown (Same.mono hW (fun i (hi : Rest w base v i) => hi.2.1)) hg (fun i hi => by have := hi.2.1; omega) (fun k hk hs => hs.2.2 hk)
  have hz2 := hS.size
  have hm : ∀ i, Rest w base v i → Rest w' base v' i := fun i hi => ⟨hi.1, Nat.lt_of_lt_of_le hi.2.1 hS.size, by
    rcases hat with h | h
    · rw [h]; exact hi.2.2
    · rw [h]; intro hh; injection hh with hh; have := hi.2.1; omega⟩
  refine ⟨css ++ [cs], by simp [h1], ?_, by simpa using hown', fun k cs' a' e1 e2 => ?_⟩
  · intro c hcm
    rcases List.mem_append.1 hcm with h | h
    · exact h2 c h
    · simp at h; rw [h]; exact hc
  · refine hR.more hm (hR.keep hS ?_)
    rcases Nat.lt_or_ge k l.length with hk | hk
    · rw [List.getElem?_append_left (by omega)] at e1
      rw [List.getElem?_append_left hk] at e2
      exact h4 k cs' a' e1 e2
    · rw [List.getElem?_append_right (by omega)] at e1
      rw [List.getElem?_append_right hk] at e2
      have e0 : k - l.length = 0 := by
        have := (List.getElem?_eq_some_iff.1 e2).1
        simpa using this
      have e0' : k - css.length = 0 := by omega
      rw [e0] at e2
      rw [e0'] at e1
      simp at e1 e2
      subst e1 e2
      exact ha
theorem Grow.done (hR : Good R) (h : Grow R size e w base v l) : ∃ A c, v = .slice A l.length c ∧ SlR w (New w base) size (R w (New w base)) A l.length c l := by
  obtain ⟨css, h1, h2, h3, h4⟩ := h
  obtain ⟨A, c, rfl, hn, hc⟩ := own_form h3
  exact ⟨A, c, rfl, rfl, hn, hc, css, h1, h2, Reads.of_own h3, fun k cs a e1 e2 => hR.more (fun i hi => ⟨hi.1, hi.2.1⟩) (h4 k cs a e1 e2)⟩
theorem Grow.fresh (h : Grow R size e w base v l) {i : Nat} (hi : w.heap.size ≤ i) : v.ownBlock ≠ some i := fun e => by
  obtain ⟨css, _, _, h3, _⟩ := h
  have := (h3.lt i e).2
  omega
theorem Grow.len (h : Grow R size e w base v l) : ∃ A c, v = .slice A l.length c ∧ l.length ≤ c ∧ c ≤ maxLen := by
  obtain ⟨css, h1, h2, h3, h4⟩ := h
  exact own_form h3
/-- A list of one or two elements, built at once in a new block. -/
theorem SlR.one {S : Nat → Prop} {t : TypeId} {cs : List Value} {a : α} {n : Nat} (hb : Blk w n t cs.toArray) (hS : S n) (hc : cs.length = size) (hr : R w S cs a) : SlR w S size (R w S) (some ⟨n, 0, none⟩) 1 1 [a] := by
  refine ⟨rfl, Nat.le_refl _, by simp [maxLen], [cs], rfl, by simp [hc], ⟨by simp [hc], fun _ => ⟨n, 0, rfl, hS, fun j u hu => ?_⟩⟩, fun k cs' a' e1 e2 => ?_⟩
  · rw [hb.cell]
    simpa using hu
  · cases k with
    | zero => simp at e1 e2; subst e1 e2; exact hr
    | succ k => simp at e1
theorem SlR.two {S : Nat → Prop} {t : TypeId} {cs cs2 : List Value} {a a2 : α} {n : Nat} (hb : Blk w n t (cs ++ cs2).toArray) (hS : S n) (hc : cs.length = size) (hc2 : cs2.length = size) (hr : R w S cs a) (hr2 : R w S cs2 a2) : SlR w S size (R w S) (some ⟨n, 0, none⟩) 2 2 [a, a2] := by
  refine ⟨rfl, Nat.le_refl _, by simp [maxLen], [cs, cs2], rfl, by simp [hc, hc2], ⟨by simp [hc, hc2]; omega, fun _ => ⟨n, 0, rfl, hS, fun j u hu => ?_⟩⟩, fun k cs' a' e1 e2 => ?_⟩
  · rw [hb.cell]
    simpa using hu
  · match k with
    | 0 => simp at e1 e2; subst e1 e2; exact hr
    | 1 => simp at e1 e2; subst e1 e2; exact hr2
    | k + 2 => simp at e1
end
end Go.Proofs.Ytcfpkmfppgodmaa

-- MkExpr
/- Contracts of the maker's functions: Expr. -/
set_option linter.unusedVariables false
set_option maxRecDepth 100000
set_option linter.unusedSimpArgs false
namespace Go.Proofs.Ytcfpkmfppgodmaa
open Go.RowKit Go.Proofs

theorem ExR.good (n : Nat) : Good (fun w S cs e => ExR w S n cs e) := ⟨fun hk h => ExR.keep hk n _ _ h, fun hS h => ExR.more hS n _ _ h⟩
theorem ExR.len {w : World} {S : Nat → Prop} : ∀ {n : Nat} {cs : List Value} {e : Ex}, ExR w S n cs e → cs.length = 6
  | n + 1, cs, .mk op val name slot size args, h => by obtain ⟨_, _, A, m, c, e, _⟩ := h; rw [e]; rfl
theorem ExR.one {w : World} {S : Nat → Prop} : ∀ {n : Nat} {cs : List Value} {e : Ex}, ExR w S n cs e → cs.all (·.oneCell') = true
  | n + 1, cs, .mk op val name slot size args, h => by obtain ⟨_, _, A, m, c, e, _⟩ := h; rw [e]; rfl
theorem ExR.one' {w : World} {S : Nat → Prop} {n : Nat} {cs : List Value} {e : Ex} (h : ExR w S n cs e) : ∀ u ∈ cs, u.oneCell' = true := fun u hu => List.all_eq_true.1 h.one u hu
theorem ExR.open_ {w : World} {S : Nat → Prop} : ∀ {n : Nat} {cs : List Value} {e : Ex}, ExR w S n cs e → ∃ op val name slot size args A m c, e = .mk op val name slot size args ∧ cs = [.int .i64 op, .int .i64 val, .string name, .int .i64 slot, .int .i64 size, .slice A m c]
  | n + 1, cs, .mk op val name slot size args, h => by obtain ⟨_, _, A, m, c, e, _⟩ := h; exact ⟨op, val, name, slot, size, args, A, m, c, rfl, e⟩
/-- No node has more than k operands. -/
def Ex.few (k : Nat) : Nat → Ex → Prop
  | 0, _ => True
  | n + 1, .mk _ _ _ _ _ args => args.length ≤ k ∧ ∀ a ∈ args, Ex.few k n a
theorem few_leaf {k n : Nat} {op val : Int} {name : ByteArray} {slot size : Int} : Ex.few k (n + 1) (.mk op val name slot size []) := ⟨by simp, by simp⟩
theorem I64.zero : I64 0 := ⟨by omega, by omega⟩
/-- An expression without operands. -/
theorem ExR.leaf {w : World} {S : Nat → Prop} (n : Nat) (op val : Int) (name : ByteArray) : ExR w S (n + 1) [.int .i64 op, .int .i64 val, .string name, .int .i64 0, .int .i64 0, .slice none 0 0] (.mk op val name 0 0 []) :=
  ⟨I64.zero, I64.zero, none, 0, 0, rfl, SlR.nil_⟩
def ExprPost (n : Nat) (B : Nat → Prop) (gc r : Nat) (w : World) (e : Ending) (w' : World) : Prop :=
  ∃ (x : Ex) (cs : List Value) (r' : Nat), e = .returned (.agg cs.toArray) ∧ ExR w' (New w' w.heap.size) n cs x ∧ Ex.few 2 n x ∧ r' ≤ r - 1 ∧ Cod w' B gc r' ∧ Only gc w w'
def CutK8 (n : Nat) (w1 : World) (s5 : Value) (wx : World) : Prop := ∃ k : Int, s5 = .int .i64 k ∧ 0 ≤ k ∧ k < 12 ∧ (n = 0 → k < 8) ∧ w1 = wx
def CutTB (w1 : World) (b : Bool) (s : Value) (wx : World) : Prop := s = .bool b ∧ w1 = wx

end Go.Proofs.Ytcfpkmfppgodmaa

-- Stm
/- Statements in memory. -/
set_option linter.unusedVariables false
set_option maxRecDepth 100000
set_option linter.unusedSimpArgs false
namespace Go.Proofs.Ytcfpkmfppgodmaa
open Go.RowKit Go.Proofs

inductive Stm where
  | mk (kind : Int) (name : ByteArray) (slot size : Int) (place value : Ex) (body els : List Stm)
def stmCells (kind : Int) (name : ByteArray) (slot size : Int) (ps vs : List Value) (b e : Value) : List Value := .int .i64 kind :: .string name :: .int .i64 slot :: .int .i64 size :: (ps ++ (vs ++ [b, e]))
/-- Eighteen cells that read as a statement of at most so many levels; its expressions have at most five. -/
def StmR (w : World) (S : Nat → Prop) : Nat → List Value → Stm → Prop
  | 0, _, _ => False
  | n + 1, cs, .mk kind name slot size place value body els => I64 slot ∧ I64 size ∧ ∃ (ps vs : List Value) (A A2 : Option Addr) (m c m2 c2 : Nat), cs = stmCells kind name slot size ps vs (.slice A m c) (.slice A2 m2 c2) ∧ ExR w S 5 ps place ∧ ExR w S 5 vs value ∧ SlR w S 18 (StmR w S n) A m c body ∧ SlR w S 18 (StmR w S n) A2 m2 c2 els
theorem StmR.keep {w w' : World} {S : Nat → Prop} (hk : Same S w w') : ∀ (n : Nat) (cs : List Value) (e : Stm), StmR w S n cs e → StmR w' S n cs e
  | 0, _, _, h => h
  | n + 1, cs, .mk kind name slot size place value body els, h => by
    obtain ⟨h1, h2, ps, vs, A, A2, m, c, m2, c2, e, hp, hv, hb, he⟩ := h
    exact ⟨h1, h2, ps, vs, A, A2, m, c, m2, c2, e, ExR.keep hk _ _ _ hp, ExR.keep hk _ _ _ hv, hb.keep hk (StmR.keep hk n), he.keep hk (StmR.keep hk n)⟩
theorem StmR.more {w : World} {S T : Nat → Prop} (hS : ∀ i, S i → T i) : ∀ (n : Nat) (cs : List Value) (e : Stm), StmR w S n cs e → StmR w T n cs e
  | 0, _, _, h => h
  | n + 1, cs, .mk kind name slot size place value body els, h => by
    obtain ⟨h1, h2, ps, vs, A, A2, m, c, m2, c2, e, hp, hv, hb, he⟩ := h
    exact ⟨h1, h2, ps, vs, A, A2, m, c, m2, c2, e, ExR.more hS _ _ _ hp, ExR.more hS _ _ _ hv, hb.more hS (StmR.more hS n), he.more hS (StmR.more hS n)⟩
theorem StmR.up {w : World} {S : Nat → Prop} : ∀ (n : Nat) (cs : List Value) (e : Stm), StmR w S n cs e → StmR w S (n + 1) cs e
  | n + 1, cs, .mk kind name slot size place value body els, h => by
    obtain ⟨h1, h2, ps, vs, A, A2, m, c, m2, c2, e, hp, hv, hb, he⟩ := h
    exact ⟨h1, h2, ps, vs, A, A2, m, c, m2, c2, e, hp, hv, hb.more (fun _ h => h) (StmR.up n), he.more (fun _ h => h) (StmR.up n)⟩
theorem StmR.good (n : Nat) : Good (fun w S cs e => StmR w S n cs e) := ⟨fun hk h => StmR.keep hk n _ _ h, fun hS h => StmR.more hS n _ _ h⟩
theorem ExR.upto {w : World} {S : Nat → Prop} {cs : List Value} {e : Ex} : ∀ {n m : Nat}, n ≤ m → ExR w S n cs e → ExR w S m cs e
  | n, 0, hm, h => by have e : n = 0 := by omega
                      rw [e] at h; exact h.elim
  | n, m + 1, hm, h => by
    rcases Nat.lt_or_ge n (m + 1) with hlt | hge
    · exact ExR.up _ _ _ (ExR.upto (by omega) h)
    · obtain rfl : n = m + 1 := by omega
      exact h
theorem Ex.few_upto {k : Nat} {w : World} {S : Nat → Prop} : ∀ {n m : Nat} {cs : List Value} {e : Ex}, ExR w S n cs e → Ex.few k n e → Ex.few k m e
  | n + 1, 0, cs, .mk op val name slot size args, h, hf => trivial
  | n + 1, m + 1, cs, .mk op val name slot size args, h, hf => by
    obtain ⟨_, _, A, m', c, e, hs⟩ := h
    refine ⟨hf.1, fun a ha => ?_⟩
    obtain ⟨j, hj, rfl⟩ := List.mem_iff_getElem.1 ha
    obtain ⟨_, _, cs', a', _, _, ha', hR, _⟩ := hs.at_ (k := j) (by have := hs.1; omega)
    rw [List.getElem?_eq_getElem hj] at ha'
    injection ha' with ha'
    rw [ha']
    refine Ex.few_upto hR (hf.2 a' ?_)
    rw [← ha']
    exact List.getElem_mem hj
/-- A statement's cells written out. -/
theorem StmR.open_ {w : World} {S : Nat → Prop} : ∀ {n : Nat} {cs : List Value} {s : Stm}, StmR w S n cs s → ∃ (kind : Int) (name : ByteArray) (slot size : Int) (place value : Ex) (body els : List Stm) (o1 x1 : Int) (n1 : ByteArray) (l1 z1 : Int) (B1 : Option Addr) (p1 q1 : Nat) (o2 x2 : Int) (n2 : ByteArray) (l2 z2 : Int) (B2 : Option Addr) (p2 q2 : Nat) (A A2 : Option Addr) (m c m2 c2 : Nat),
      s = .mk kind name slot size place value body els ∧ cs = [.int .i64 kind, .string name, .int .i64 slot, .int .i64 size, .int .i64 o1, .int .i64 x1, .string n1, .int .i64 l1, .int .i64 z1, .slice B1 p1 q1, .int .i64 o2, .int .i64 x2, .string n2, .int .i64 l2, .int .i64 z2, .slice B2 p2 q2, .slice A m c, .slice A2 m2 c2] ∧
      ExR w S 5 [.int .i64 o1, .int .i64 x1, .string n1, .int .i64 l1, .int .i64 z1, .slice B1 p1 q1] place ∧ ExR w S 5 [.int .i64 o2, .int .i64 x2, .string n2, .int .i64 l2, .int .i64 z2, .slice B2 p2 q2] value ∧ SlR w S 18 (StmR w S (n - 1)) A m c body ∧ SlR w S 18 (StmR w S (n - 1)) A2 m2 c2 els
  | n + 1, cs, .mk kind name slot size place value body els, h => by
    obtain ⟨h1, h2, ps, vs, A, A2, m, c, m2, c2, e, hp, hv, hb, he⟩ := h
    obtain ⟨o1, x1, n1, l1, z1, a1, B1, p1, q1, -, rfl⟩ := ExR.open_ hp
    obtain ⟨o2, x2, n2, l2, z2, a2, B2, p2, q2, -, rfl⟩ := ExR.open_ hv
    exact ⟨kind, name, slot, size, place, value, body, els, o1, x1, n1, l1, z1, B1, p1, q1, o2, x2, n2, l2, z2, B2, p2, q2, A, A2, m, c, m2, c2, rfl, e, hp, hv, hb, he⟩
theorem StmR.len {w : World} {S : Nat → Prop} {n : Nat} {cs : List Value} {s : Stm} (h : StmR w S n cs s) : cs.length = 18 := by
  obtain ⟨_, _, _, _, _, _, _, _, _, _, _, _, _, _, _, _, _, _, _, _, _, _, _, _, _, _, _, _, _, _, _, e, _⟩ := StmR.open_ h
  rw [e]; rfl
theorem StmR.one' {w : World} {S : Nat → Prop} {n : Nat} {cs : List Value} {s : Stm} (h : StmR w S n cs s) : ∀ u ∈ cs, u.oneCell' = true := by
  obtain ⟨_, _, _, _, _, _, _, _, _, _, _, _, _, _, _, _, _, _, _, _, _, _, _, _, _, _, _, _, _, _, _, e, _⟩ := StmR.open_ h
  rw [e]
  exact fun u hu => List.all_eq_true.1 (show List.all _ (·.oneCell') = true from rfl) u hu
def Stm.few (k : Nat) : Nat → Stm → Prop
  | 0, _ => True
  | n + 1, .mk _ _ _ _ place value body els => Ex.few k 5 place ∧ Ex.few k 5 value ∧ body.length ≤ k ∧ els.length ≤ k ∧ (∀ a ∈ body, Stm.few k n a) ∧ (∀ a ∈ els, Stm.few k n a)
/-- The expression that is not there. -/
def zeroEx : Ex := .mk 0 0 ⟨#[]⟩ 0 0 []
theorem zeroEx_R {w : World} {S : Nat → Prop} (n : Nat) : ExR w S (n + 1) [.int .i64 0, .int .i64 0, .string ⟨#[]⟩, .int .i64 0, .int .i64 0, .slice none 0 0] zeroEx := ExR.leaf n 0 0 ⟨#[]⟩
theorem zeroEx_few (k n : Nat) : Ex.few k n zeroEx := by
  cases n with
  | zero => trivial
  | succ n => exact few_leaf
end Go.Proofs.Ytcfpkmfppgodmaa

-- Exec
/- What a handler does: the interpreter's steps, in plain Lean. -/
set_option linter.unusedVariables false
namespace Go.Proofs.Ytcfpkmfppgodmaa
open Go.RowKit Go.Proofs

structure Eff where
  kind : Int
  dst : Int
  val : Int
def encEff (e : Eff) : List Value := [.int .i64 e.kind, .int .i64 e.dst, .int .i64 e.val]
theorem encEff_len (x : Eff) : (encEff x).length = 3 := rfl
theorem encEff_one (d : Eff) : ∀ u ∈ encEff d, u.oneCell' = true := by
  intro u hu
  simp [encEff] at hu
  rcases hu with h | h | h <;> subst h <;> rfl
structure Ms where
  cells : List Int
  effs : List Eff
  fuel : Nat
inductive Task where
  | list (l : List Stm)
  | stm (s : Stm)
  | loop (s : Stm)
inductive Res where
  | done (s : Ms)
  | dead (s : Ms)
def Res.st : Res → Ms
  | .done s => s
  | .dead s => s
def Stm.kind : Stm → Int | .mk k _ _ _ _ _ _ _ => k
def Stm.slot : Stm → Int | .mk _ _ k _ _ _ _ _ => k
def Stm.size : Stm → Int | .mk _ _ _ k _ _ _ _ => k
def Stm.place : Stm → Ex | .mk _ _ _ _ e _ _ _ => e
def Stm.value : Stm → Ex | .mk _ _ _ _ _ e _ _ => e
def Stm.body : Stm → List Stm | .mk _ _ _ _ _ _ b _ => b
def Stm.els : Stm → List Stm | .mk _ _ _ _ _ _ _ b => b
def Ms.pay (s : Ms) : Ms := { s with fuel := s.fuel - 1 }
def Ms.set (s : Ms) (k x : Int) : Ms := if 0 ≤ k ∧ k < s.cells.length then { s with cells := s.cells.set k.toNat x } else s
def Ms.eff (s : Ms) (e : Eff) : Ms := if s.effs.length < 8 then { s with effs := s.effs ++ [e] } else s
/-- What a statement without a body does. -/
def simpleS (v : EnvS) (s : Stm) (m : Ms) : Ms :=
  if s.kind = 1 then m.set s.slot (valS m.cells v 5 s.value)
  else if s.kind = 2 then (if 0 ≤ valS m.cells v 5 s.place ∧ valS m.cells v 5 s.place < s.size then m.set (wrap64 (s.slot + valS m.cells v 5 s.place)) (valS m.cells v 5 s.value) else m)
  else if s.kind = 5 then (if 0 ≤ valS m.cells v 5 s.place ∧ valS m.cells v 5 s.place < v.procs ∧ valS m.cells v 5 s.place ≠ v.self then m.eff ⟨1, valS m.cells v 5 s.place, valS m.cells v 5 s.value⟩ else m)
  else if s.kind = 6 then m.eff ⟨2, 0, valS m.cells v 5 s.value⟩
  else m
inductive Exec (v : EnvS) : Task → Ms → Res → Prop
  | nil (m : Ms) : Exec v (.list []) m (.done m)
  | cons {s : Stm} {l : List Stm} {m m1 : Ms} {r : Res} (h1 : Exec v (.stm s) m (.done m1)) (h2 : Exec v (.list l) m1 r) : Exec v (.list (s :: l)) m r
  | consDead {s : Stm} {l : List Stm} {m m1 : Ms} (h1 : Exec v (.stm s) m (.dead m1)) : Exec v (.list (s :: l)) m (.dead m1)
  | empty {s : Stm} {m : Ms} (h : m.fuel = 0) : Exec v (.stm s) m (.dead m)
  | simple {s : Stm} {m : Ms} (h : 0 < m.fuel) (h3 : s.kind ≠ 3) (h4 : s.kind ≠ 4) : Exec v (.stm s) m (.done (simpleS v s m.pay))
  | ifE {s : Stm} {m : Ms} {r : Res} (h : 0 < m.fuel) (h3 : s.kind = 3) (h1 : Exec v (.list (if valS m.cells v 5 s.value = 0 then s.els else s.body)) m.pay r) : Exec v (.stm s) m r
  | whileE {s : Stm} {m : Ms} {r : Res} (h : 0 < m.fuel) (h4 : s.kind = 4) (h1 : Exec v (.loop s) m.pay r) : Exec v (.stm s) m r
  | stop {s : Stm} {m : Ms} (h : valS m.cells v 5 s.value = 0) : Exec v (.loop s) m (.done m)
  | bodyDead {s : Stm} {m m1 : Ms} (h : valS m.cells v 5 s.value ≠ 0) (h1 : Exec v (.list s.body) m (.dead m1)) : Exec v (.loop s) m (.dead m1)
  | out {s : Stm} {m m1 : Ms} (h : valS m.cells v 5 s.value ≠ 0) (h1 : Exec v (.list s.body) m (.done m1)) (h0 : m1.fuel = 0) : Exec v (.loop s) m (.dead m1)
  | again {s : Stm} {m m1 : Ms} {r : Res} (h : valS m.cells v 5 s.value ≠ 0) (h1 : Exec v (.list s.body) m (.done m1)) (h0 : 0 < m1.fuel) (h2 : Exec v (.loop s) m1.pay r) : Exec v (.loop s) m r
theorem Exec.det {v : EnvS} {t : Task} {m : Ms} {r : Res} (h : Exec v t m r) : ∀ {r' : Res}, Exec v t m r' → r = r' := by
  induction h with
  | nil m => intro r' h'; cases h'; rfl
  | cons h1 h2 ih1 ih2 =>
    intro r' h'
    cases h' with
    | cons g1 g2 => have e := ih1 g1; injection e with e; subst e; exact ih2 g2
    | consDead g1 => have e := ih1 g1; cases e
  | consDead h1 ih1 =>
    intro r' h'
    cases h' with
    | cons g1 g2 => have e := ih1 g1; cases e
    | consDead g1 => exact ih1 g1
  | empty h0 =>
    intro r' h'
    cases h' with
    | empty _ => rfl
    | simple h _ _ => omega
    | ifE h _ _ => omega
    | whileE h _ _ => omega
  | simple h h3 h4 =>
    intro r' h'
    cases h' with
    | empty h0 => omega
    | simple _ _ _ => rfl
    | ifE _ g3 _ => exact absurd g3 h3
    | whileE _ g4 _ => exact absurd g4 h4
  | ifE h h3 h1 ih =>
    intro r' h'
    cases h' with
    | empty h0 => omega
    | simple _ g3 _ => exact absurd h3 g3
    | ifE _ _ g1 => exact ih g1
    | whileE _ g4 _ => omega
  | whileE h h4 h1 ih =>
    intro r' h'
    cases h' with
    | empty h0 => omega
    | simple _ _ g4 => exact absurd h4 g4
    | ifE _ g3 _ => omega
    | whileE _ _ g1 => exact ih g1
  | stop h =>
    intro r' h'
    cases h' with
    | stop _ => rfl
    | bodyDead g _ => exact absurd h g
    | out g _ _ => exact absurd h g
    | again g _ _ _ => exact absurd h g
  | bodyDead h h1 ih =>
    intro r' h'
    cases h' with
    | stop g => exact absurd g h
    | bodyDead _ g1 => exact ih g1
    | out _ g1 _ => have e := ih g1; cases e
    | again _ g1 _ _ => have e := ih g1; cases e
  | out h h1 h0 ih =>
    intro r' h'
    cases h' with
    | stop g => exact absurd g h
    | bodyDead _ g1 => have e := ih g1; cases e
    | out _ g1 _ => have e := ih g1; injection e with e; subst e; rfl
    | again _ g1 g0 _ => have e := ih g1; injection e with e; subst e; omega
  | again h h1 h0 h2 ih1 ih2 =>
    intro r' h'
    cases h' with
    | stop g => exact absurd g h
    | bodyDead _ g1 => have e := ih1 g1; cases e
    | out _ g1 g0 => have e := ih1 g1; injection e with e; subst e; omega
    | again _ g1 _ g2 => have e := ih1 g1; injection e with e; subst e; exact ih2 g2
theorem Ms.set_len (m : Ms) (k x : Int) : (m.set k x).cells.length = m.cells.length ∧ (m.set k x).effs = m.effs ∧ (m.set k x).fuel = m.fuel := by
  unfold Ms.set
  split
  · exact ⟨by simp, rfl, rfl⟩
  · exact ⟨rfl, rfl, rfl⟩
theorem Ms.eff_len (m : Ms) (e : Eff) : (m.eff e).cells = m.cells ∧ (m.eff e).fuel = m.fuel ∧ (m.effs.length ≤ 8 → (m.eff e).effs.length ≤ 8) := by
  unfold Ms.eff
  split
  · exact ⟨rfl, rfl, fun _ => by simp; omega⟩
  · exact ⟨rfl, rfl, fun h => h⟩
/-- What stays: the number of cells; at most eight effects; no more fuel. -/
def Fit (m m' : Ms) : Prop := m'.cells.length = m.cells.length ∧ (m.effs.length ≤ 8 → m'.effs.length ≤ 8) ∧ m'.fuel ≤ m.fuel
theorem Fit.trans {a b c : Ms} (h : Fit a b) (k : Fit b c) : Fit a c := ⟨k.1.trans h.1, fun e => k.2.1 (h.2.1 e), Nat.le_trans k.2.2 h.2.2⟩
theorem Fit.refl (a : Ms) : Fit a a := ⟨rfl, fun h => h, Nat.le_refl _⟩
theorem Fit.pay (a : Ms) : Fit a a.pay := ⟨rfl, fun h => h, by simp [Ms.pay]⟩
theorem simpleS_fit (v : EnvS) (s : Stm) (m : Ms) : Fit m (simpleS v s m) := by
  unfold simpleS
  split
  · have := m.set_len s.slot (valS m.cells v 5 s.value); exact ⟨this.1, fun h => by rw [this.2.1]; exact h, by rw [this.2.2]; exact Nat.le_refl _⟩
  · split
    · split
      · have := m.set_len (wrap64 (s.slot + valS m.cells v 5 s.place)) (valS m.cells v 5 s.value); exact ⟨this.1, fun h => by rw [this.2.1]; exact h, by rw [this.2.2]; exact Nat.le_refl _⟩
      · exact Fit.refl _
    · split
      · split
        · have := m.eff_len ⟨1, valS m.cells v 5 s.place, valS m.cells v 5 s.value⟩; exact ⟨by rw [this.1], this.2.2, by rw [this.2.1]; exact Nat.le_refl _⟩
        · exact Fit.refl _
      · split
        · have := m.eff_len ⟨2, 0, valS m.cells v 5 s.value⟩; exact ⟨by rw [this.1], this.2.2, by rw [this.2.1]; exact Nat.le_refl _⟩
        · exact Fit.refl _
theorem Exec.fit {v : EnvS} {t : Task} {m : Ms} {r : Res} (h : Exec v t m r) : Fit m r.st := by
  induction h with
  | nil m => exact Fit.refl _
  | cons _ _ i1 i2 => exact i1.trans i2
  | consDead _ i1 => exact i1
  | empty _ => exact Fit.refl _
  | simple _ _ _ => exact (Fit.pay _).trans (simpleS_fit _ _ _)
  | ifE _ _ _ i => exact (Fit.pay _).trans i
  | whileE _ _ _ i => exact (Fit.pay _).trans i
  | stop _ => exact Fit.refl _
  | bodyDead _ _ i => exact i
  | out _ _ _ i => exact i
  | again _ _ _ _ i1 i2 => exact (Fit.trans i1 (Fit.pay _)).trans i2
/-- One statement more. -/
theorem Exec.snoc {v : EnvS} {a : List Stm} {s : Stm} {m m1 : Ms} {r : Res} (h1 : Exec v (.list a) m (.done m1)) (h2 : Exec v (.stm s) m1 r) : (∀ m2, r = .done m2 → Exec v (.list (a ++ [s])) m (.done m2)) ∧ (∀ m2 b, r = .dead m2 → Exec v (.list (a ++ s :: b)) m (.dead m2)) := by
  induction a generalizing m with
  | nil =>
    cases h1
    exact ⟨fun m2 e => by subst e; exact .cons h2 (.nil _), fun m2 b e => by subst e; exact .consDead h2⟩
  | cons x a ih =>
    cases h1 with
    | cons g1 g2 =>
      have := ih g2
      exact ⟨fun m2 e => .cons g1 (this.1 m2 e), fun m2 b e => .cons g1 (this.2 m2 b e)⟩
end Go.Proofs.Ytcfpkmfppgodmaa

-- ProcS
/- The states of a process, in plain Lean. -/
set_option linter.unusedVariables false
namespace Go.Proofs.Ytcfpkmfppgodmaa
open Go.RowKit Go.Proofs

structure Cd where
  init : List Int
  start : List Stm
  message : List Stm
  tick : List Stm
  input : List Stm
/-- What a handler leaves (whatever, if it never ends: which is shown nowhere). -/
noncomputable def execF (v : EnvS) (body : List Stm) (cells : List Int) : Ms :=
  open Classical in if h : ∃ r, Exec v (.list body) ⟨cells, [], 400⟩ r then h.choose.st else ⟨cells, [], 0⟩
theorem execF_of {v : EnvS} {body : List Stm} {cells : List Int} {r : Res} (h : Exec v (.list body) ⟨cells, [], 400⟩ r) : execF v body cells = r.st := by
  have hx : ∃ r, Exec v (.list body) ⟨cells, [], 400⟩ r := ⟨r, h⟩
  unfold execF
  rw [dif_pos hx]
  exact congrArg Res.st (hx.choose_spec.det h)
theorem execF_fit (v : EnvS) (body : List Stm) (cells : List Int) : (execF v body cells).cells.length = cells.length ∧ (execF v body cells).effs.length ≤ 8 := by
  by_cases hx : ∃ r, Exec v (.list body) ⟨cells, [], 400⟩ r
  · obtain ⟨r, h⟩ := hx
    rw [execF_of h]
    have := h.fit
    exact ⟨this.1, this.2.1 (by simp)⟩
  · unfold execF
    rw [dif_neg hx]
    exact ⟨rfl, by simp⟩
def sendsOf (index : Int) : Int → List Eff → List Snd
  | _, [] => []
  | ord, e :: l => if e.kind = 1 then ⟨index, ord, e.dst, e.val⟩ :: sendsOf index (ord + 1) l else sendsOf index ord l
def outsOf (index : Int) : List Eff → List Outp
  | [] => []
  | e :: l => if e.kind = 1 then outsOf index l else ⟨index, e.val⟩ :: outsOf index l
noncomputable def runS (v : EnvS) (body : List Stm) (cells : List Int) (index : Int) (s : St) : St :=
  { s with cells := (execF v body cells).cells, sent := s.sent ++ sendsOf index 0 (execF v body cells).effs, outs := s.outs ++ outsOf index (execF v body cells).effs }
noncomputable def startS (c : Cd) (self procs : Int) : St := runS ⟨self, procs, self, 0⟩ c.start c.init 0 ⟨[], [], [], []⟩
noncomputable def nextS (c : Cd) (self procs : Int) (s : St) (e : Ev) : St :=
  if e.kind = 1 then runS ⟨self, procs, e.frm, e.val⟩ c.message s.cells (s.events.length + 1) { s with events := s.events ++ [e] }
  else if e.kind = 2 then runS ⟨self, procs, self, e.val⟩ c.tick s.cells (s.events.length + 1) { s with events := s.events ++ [e] }
  else if e.kind = 3 then runS ⟨self, procs, self, e.val⟩ c.input s.cells (s.events.length + 1) { s with events := s.events ++ [e] }
  else { s with events := s.events ++ [e] }
noncomputable def replayS (c : Cd) (self procs : Int) (l : List Ev) : St := l.foldl (nextS c self procs) (startS c self procs)
theorem nextS_events (c : Cd) (self procs : Int) (s : St) (e : Ev) : (nextS c self procs s e).events = s.events ++ [e] := by
  unfold nextS
  split
  · rfl
  · split
    · rfl
    · split <;> rfl
theorem replayS_snoc (c : Cd) (self procs : Int) (l : List Ev) (e : Ev) : replayS c self procs (l ++ [e]) = nextS c self procs (replayS c self procs l) e := by
  unfold replayS
  rw [List.foldl_append]
  rfl
theorem replayS_events (c : Cd) (self procs : Int) (l : List Ev) : (replayS c self procs l).events = l := by
  have key : ∀ (l : List Ev) (s : St), (l.foldl (nextS c self procs) s).events = s.events ++ l := by
    intro l
    induction l with
    | nil => intro s; simp
    | cons e l ih => intro s; rw [List.foldl_cons, ih, nextS_events]; simp
  rw [replayS, key]
  rfl
theorem nextS_grows (c : Cd) (self procs : Int) (s : St) (e : Ev) : (∃ a, (nextS c self procs s e).sent = s.sent ++ a) ∧ (∃ b, (nextS c self procs s e).outs = s.outs ++ b) ∧ (nextS c self procs s e).cells.length = s.cells.length := by
  unfold nextS
  split
  · exact ⟨⟨_, rfl⟩, ⟨_, rfl⟩, (execF_fit _ _ _).1⟩
  · split
    · exact ⟨⟨_, rfl⟩, ⟨_, rfl⟩, (execF_fit _ _ _).1⟩
    · split
      · exact ⟨⟨_, rfl⟩, ⟨_, rfl⟩, (execF_fit _ _ _).1⟩
      · exact ⟨⟨[], by simp⟩, ⟨[], by simp⟩, rfl⟩
end Go.Proofs.Ytcfpkmfppgodmaa

-- Val
/- eval.Value computes valS. -/
set_option linter.unusedVariables false
set_option maxRecDepth 100000
set_option linter.unusedSimpArgs false
namespace Go.Proofs.Ytcfpkmfppgodmaa
open Go.RowKit Go.Proofs

end Go.Proofs.Ytcfpkmfppgodmaa

-- Eval2
/- Contracts: the reference's Apply, the maker's Mod. -/
set_option linter.unusedVariables false
set_option maxRecDepth 100000
set_option linter.unusedSimpArgs false
namespace Go.Proofs.Ytcfpkmfppgodmaa
open Go.RowKit Go.Proofs

theorem quo_neg (a : Int) : quoS a (-1) = wrap64 (-a) := by simp [quoS, Int.tdiv_neg]
theorem rem_neg (a : Int) : remS a (-1) = 0 := by simp [remS, Int.tmod_neg]
def modS (x n : Int) : Int := x % n
theorem modS_lt (x n : Int) (h : 1 ≤ n) : 0 ≤ modS x n ∧ modS x n < n := ⟨Int.emod_nonneg x (by omega), Int.emod_lt_of_pos x (by omega)⟩
end Go.Proofs.Ytcfpkmfppgodmaa

-- Ref04
/- The reference's Value computes valS. -/
set_option linter.unusedVariables false
set_option maxRecDepth 100000
set_option linter.unusedSimpArgs false
namespace Go.Proofs.Ytcfpkmfppgodmaa
open Go.RowKit Go.Proofs

theorem w64_in (x : Int) (h : -9223372036854775808 ≤ x ∧ x ≤ 9223372036854775807) : wrap64 x = x := by unfold wrap64; omega
/-- The number of a cell of an array, or a negative one. -/
def PlaceIs (len : Nat) (slot size i : Int) (w : World) (e : Ending) (w' : World) : Prop :=
  ∃ p : Int, e = .returned (.int .i64 p) ∧ (((0 ≤ i ∧ i < size) ∧ 0 ≤ slot + i ∧ slot + i < len) ∧ p = slot + i ∨ ¬ ((0 ≤ i ∧ i < size) ∧ 0 ≤ slot + i ∧ slot + i < len) ∧ p < 0) ∧ w = w'
/-- Which cell is read: the program and the reference agree. -/
theorem idxS_place {cells : List Int} {slot size i p : Int} (hs : I64 slot) (hz : I64 size) (hm : cells.length ≤ 9223372036854775807) (h : ((0 ≤ i ∧ i < size) ∧ 0 ≤ slot + i ∧ slot + i < cells.length) ∧ p = slot + i ∨ ¬ ((0 ≤ i ∧ i < size) ∧ 0 ≤ slot + i ∧ slot + i < cells.length) ∧ p < 0) : cellS cells p = idxS cells slot size i := by
  obtain ⟨hs1, hs2⟩ := hs
  obtain ⟨hz1, hz2⟩ := hz
  unfold idxS
  rcases h with ⟨h1, rfl⟩ | ⟨h1, h2⟩
  · rw [if_neg (by omega), w64_in _ (by omega)]
  · have h0 : cellS cells p = 0 := if_pos (.inl h2)
    rw [h0]
    by_cases hi : i < 0 ∨ size ≤ i
    · rw [if_pos hi]
    · rw [if_neg hi]
      have : cellS cells (wrap64 (slot + i)) = 0 := by
        unfold cellS
        refine if_pos ?_
        by_cases hb : slot + i ≤ 9223372036854775807
        · rw [w64_in _ (by omega)]; omega
        · left; unfold wrap64; omega
      exact this.symm
end Go.Proofs.Ytcfpkmfppgodmaa

-- Mach1
/- The interpreter's machine: spend. -/
set_option linter.unusedVariables false
set_option linter.unusedSimpArgs false
set_option maxRecDepth 100000
namespace Go.Proofs.Ytcfpkmfppgodmaa
open Go.RowKit Go.Proofs

def machCells (C E : Value) (fuel : Nat) (v : EnvS) : Array Value := #[C, E, .int .i64 fuel, .int .i64 v.self, .int .i64 v.procs, .int .i64 v.frm, .int .i64 v.val]
end Go.Proofs.Ytcfpkmfppgodmaa

-- Mach2
/- The interpreter's machine: value. -/
set_option linter.unusedVariables false
set_option linter.unusedSimpArgs false
set_option maxRecDepth 100000
namespace Go.Proofs.Ytcfpkmfppgodmaa
open Go.RowKit Go.Proofs

end Go.Proofs.Ytcfpkmfppgodmaa

-- Mach3
/- The interpreter's machine: set. -/
set_option linter.unusedVariables false
set_option linter.unusedSimpArgs false
set_option maxRecDepth 100000
namespace Go.Proofs.Ytcfpkmfppgodmaa
open Go.RowKit Go.Proofs

theorem flat_int : ∀ xs : List Int, xs.flatMap encI = xs.map (fun x => Value.int .i64 x)
  | [] => rfl
  | x :: xs => by rw [List.flatMap_cons, flat_int xs]; rfl
/-- One number of a row of the call's own is changed. -/
theorem own_put {w : World} {base n : Nat} {e : TypeId} {v : Value} {xs : List Int} (h : w.ownsRow base e 1 v n (xs.flatMap encI)) {k : Nat} (hk : k < n) (x : Int) : ∃ (g cap : Nat) (cur : Array Value), v = .slice (some ⟨g, 0, none⟩) n cap ∧ base ≤ g ∧ Blk w g e cur ∧ k < cur.size ∧ n ≤ cap ∧ cap ≤ 9223372036854775807 ∧
    ∀ w', Blk w' g e (cur.setIfInBounds k (.int .i64 x)) → w'.ownsRow base e 1 v n ((xs.set k x).flatMap encI) := by
  obtain ⟨hl, h2⟩ := h
  rcases h2 with ⟨_, h0⟩ | ⟨g, cap, cur, rfl, hbg, hh, hnc, hcm, hcs, htake⟩
  · omega
  · refine ⟨g, cap, cur, rfl, hbg, hh, by omega, hnc, hcm, fun w' hb' => ⟨?_, .inr ⟨g, cap, cur.setIfInBounds k (.int .i64 x), rfl, hbg, hb', hnc, hcm, by simpa using hcs, ?_⟩⟩⟩
    · rw [flat_length encI_len] at hl ⊢
      simpa using hl
    · rw [flat_int, List.map_set, ← flat_int, ← htake]
      simp [List.take_set]
theorem ownsRow_own {w w' : World} {T : Nat → Prop} {base n size : Nat} {e : TypeId} {v : Value} {xs : List Value} (h : w.ownsRow base e size v n xs) (k : Same T w w') (hT : ∀ b, v.ownBlock = some b → T b) : w'.ownsRow base e size v n xs := by
  refine ⟨h.1, ?_⟩
  rcases h.2 with hn | ⟨g, cap, cur, rfl, hb, hgg, rest⟩
  · exact .inl hn
  · exact .inr ⟨g, cap, cur, rfl, hb, (k.block g (hT g rfl)).trans hgg, rest⟩
end Go.Proofs.Ytcfpkmfppgodmaa

-- Mach4
/- The interpreter's machine: effect. -/
set_option linter.unusedVariables false
set_option linter.unusedSimpArgs false
set_option maxRecDepth 100000
namespace Go.Proofs.Ytcfpkmfppgodmaa
open Go.RowKit Go.Proofs

end Go.Proofs.Ytcfpkmfppgodmaa

-- Mach5
/- The interpreter's machine: what a statement leaves, said; spend over the machine; list. -/
set_option linter.unusedVariables false
set_option linter.unusedSimpArgs false
set_option maxRecDepth 100000
namespace Go.Proofs.Ytcfpkmfppgodmaa
open Go.RowKit Go.Proofs

def StmAt (w : World) (S : Nat → Prop) (n b off : Nat) (s : Stm) : Prop := S b ∧ ∃ cs, StmR w S n cs s ∧ ∀ j u, cs[j]? = some u → w.cell? ⟨b, off + j, none⟩ = some u
theorem StmAt.keep {w w' : World} {S : Nat → Prop} {n b off : Nat} {s : Stm} (h : StmAt w S n b off s) (hk : Same S w w') : StmAt w' S n b off s := by
  obtain ⟨hb, cs, hr, hc⟩ := h
  exact ⟨hb, cs, StmR.keep hk n cs s hr, fun j u hu => (hk.cell (p := ⟨b, off + j, none⟩) hb).trans (hc j u hu)⟩
theorem take_snoc {α : Type} {l : List α} {k : Nat} {s : α} (h : l[k]? = some s) : l.take (k + 1) = l.take k ++ [s] ∧ l = l.take k ++ s :: l.drop (k + 1) := by
  obtain ⟨hk, rfl⟩ := List.getElem?_eq_some_iff.1 h
  refine ⟨by rw [List.take_succ_eq_append_getElem hk], ?_⟩
  rw [← List.drop_eq_getElem_cons hk, List.take_append_drop]
end Go.Proofs.Ytcfpkmfppgodmaa

-- Mach6
/- The interpreter's machine: statement. -/
set_option linter.unusedVariables false
set_option linter.unusedSimpArgs false
set_option maxRecDepth 100000
namespace Go.Proofs.Ytcfpkmfppgodmaa
open Go.RowKit Go.Proofs

def fuelAt (g : Nat) (w : World) : Nat := match w.cell? ⟨g, 2, none⟩ with | some (.int _ f) => f.toNat | _ => 0
end Go.Proofs.Ytcfpkmfppgodmaa

-- Mach7
/- The interpreter's machine: handler. -/
set_option linter.unusedVariables false
set_option linter.unusedSimpArgs false
set_option maxRecDepth 100000
namespace Go.Proofs.Ytcfpkmfppgodmaa
open Go.RowKit Go.Proofs

end Go.Proofs.Ytcfpkmfppgodmaa

-- Slices
/- slices.Clone, slices.Clip. -/
set_option linter.unusedVariables false
set_option linter.unusedSimpArgs false
set_option maxRecDepth 100000
namespace Go.Proofs.Ytcfpkmfppgodmaa
open Go.RowKit Go.Proofs

theorem info_Int : (Try.prog.info? 3).map (fun i => (i.zero, i.size, i.bytes)) = some (some (.int .i64 0), 1, 8) := by kernel_rfl
theorem info_Event : (Try.prog.info? 50).map (fun i => (i.zero, i.size, i.bytes)) = some (some (.agg #[.int .i64 0, .int .i64 0, .int .i64 0, .int .i64 0, .int .i64 0, .int .i64 0, .int .i64 0]), 7, 56) := by kernel_rfl
def OwnPost (ty : TypeId) (size : Nat) (n : Nat) (xs : List Value) (w : World) (e : Ending) (w' : World) : Prop := ∃ v, e = .returned v ∧ w'.ownsRow w.heap.size ty size v n xs ∧ Keep w w'
theorem owns_empty (w : World) (e : TypeId) (size : Nat) : (w.alloc (.cells #[] e)).ownsRow w.heap.size e size (.slice (some ⟨w.heap.size, 0, none⟩) 0 0) 0 [] :=
  ⟨by simp, .inr ⟨w.heap.size, 0, #[], rfl, Nat.le_refl _, heap_alloc_new w _, Nat.le_refl _, by simp [maxLen], by simp, by simp⟩⟩


set_option maxHeartbeats 4000000 in
theorem cloneInts_any (w : World) (S : Nat → Prop) (A : Option Addr) (n c : Nat) (l : List Int) (hl : Sl encI 1 w S A n c l) (hS : ∀ i, S i → i < w.heap.size) (hn : n ≤ 1000000) :
    Calls Try.prog 25 #[.slice A n c] w (OwnPost 3 1 l.length (l.flatMap encI) w) := by
  obtain ⟨i0, hi0, iz0, iz1, iz2⟩ := info_of info_Int
  have hnl := hl.1
  have q22 : ∀ (w : World) (a : Option Addr) (n c n' c' : Nat), (binOp .eql 23 (.slice a n c) (.slice none n' c')).run Try.prog w = .ok (.bool a.isNone) w := fun w a n c n' c' => Lib.run_eql_slice_nil w _ _ a n c n' c' Try.underlying23
  cases A with
  | none =>
    have h0 : l = [] := by
      have : ¬ 0 < n := fun h => by obtain ⟨_, _, h, _⟩ := hl.2.2.2.2 h; cases h
      exact List.eq_nil_of_length_eq_zero (by omega)
    subst h0
    clear hl hi0 iz0 iz1 iz2
    go_enter Try.func25, Try.ntmps25
    go_wp2_with fail
    go_ret
    exact ⟨_, rfl, World.ownsRow_nil _ _ _ _, Same.refl _ _⟩
  | some ad =>
    have hk := Keep.new w (.cells #[] 3)
    have hl2 := (hl.more hS).keep hk
    have HL2 := Lib.hid hl2
    have HI0 := Lib.hid hi0
    have IZ0 := Lib.hid iz0
    have IZ1 := Lib.hid iz1
    have IZ2 := Lib.hid iz2
    have HK := Lib.hid hk
    have HNL := Lib.hid hnl
    clear hl2 hi0 iz0 iz1 iz2 hk hnl
    clear hl
    go_enter Try.func25, Try.ntmps25
    go_wp2_with (refine wpList_append_any _ rfl (.tmp 5) (.tmp 6) _ rfl w.heap.size 3 i0 _ 1 8 Try.underlying23 HI0.out IZ0.out IZ1.out IZ2.out rfl (by omega) _ 0 [] rfl (owns_empty w _ _) _ (some ad) n c (l.flatMap encI) rfl HL2.out.2.2.2 (fun u hu => by obtain ⟨x, _, hx⟩ := List.mem_flatMap.1 hu; exact encI_one x u hx) (by simp [maxLen]; omega) (by omega) (by simp) ?_; intro v5 w5 hown5 hg5 hat5)
    go_ret
    refine ⟨_, rfl, ?_, Same.append HK.out (owns_empty w _ 1) hg5 (fun i hi => hi) (by simp)⟩
    have := HNL.out
    simpa [this] using hown5




end Go.Proofs.Ytcfpkmfppgodmaa

-- Mach8
/- interp.Run. -/
set_option linter.unusedVariables false
set_option linter.unusedSimpArgs false
set_option maxRecDepth 100000
namespace Go.Proofs.Ytcfpkmfppgodmaa
open Go.RowKit Go.Proofs

theorem ownsRow_less {w : World} {base b n size : Nat} {e : TypeId} {v : Value} {xs : List Value} (h : w.ownsRow base e size v n xs) (hb : b ≤ base) : w.ownsRow b e size v n xs := by
  refine ⟨h.1, ?_⟩
  rcases h.2 with hn | ⟨g, cap, cur, rfl, hg, rest⟩
  · exact .inl hn
  · exact .inr ⟨g, cap, cur, rfl, Nat.le_trans hb hg, rest⟩
theorem results_tmp3' {fn : Func} {p q r : Tmp} (h : fn.results = #[.tmp p, .tmp q, .tmp r]) (tmps : Array Value) (P : Program) (w : World) : (results fn tmps).run P w = .ok (.tuple #[tmps.getD p undef, tmps.getD q undef, tmps.getD r undef]) w := by
  simp [results, h, Sem.run_bind, Result.andThen]
end Go.Proofs.Ytcfpkmfppgodmaa

-- RMach1
/- The reference's machine: the machine in memory, pay, value. -/
set_option linter.unusedVariables false
set_option linter.unusedSimpArgs false
set_option maxRecDepth 100000
namespace Go.Proofs.Ytcfpkmfppgodmaa
open Go.RowKit Go.Proofs

def rmCells (C E : Value) (fuel : Nat) (v : EnvS) : Array Value := #[C, E, .int .i64 v.self, .int .i64 v.procs, .int .i64 v.frm, .int .i64 v.val, .int .i64 (400 - (fuel : Int))]
end Go.Proofs.Ytcfpkmfppgodmaa

-- RMach2
/- The reference's machine: effect. -/
set_option linter.unusedVariables false
set_option linter.unusedSimpArgs false
set_option maxRecDepth 100000
namespace Go.Proofs.Ytcfpkmfppgodmaa
open Go.RowKit Go.Proofs

end Go.Proofs.Ytcfpkmfppgodmaa

-- RMach3
/- The reference's machine: simple. -/
set_option linter.unusedVariables false
set_option linter.unusedSimpArgs false
set_option maxRecDepth 100000
namespace Go.Proofs.Ytcfpkmfppgodmaa
open Go.RowKit Go.Proofs

theorem set_in {m : Ms} {j : Nat} (h : j < m.cells.length) (x : Int) : m.set j x = { m with cells := m.cells.set j x } := by
  unfold Ms.set; rw [if_pos (by omega)]; simp
theorem set_out {m : Ms} {k : Int} (h : ¬ (0 ≤ k ∧ k < m.cells.length)) (x : Int) : m.set k x = m := if_neg h
end Go.Proofs.Ytcfpkmfppgodmaa

-- RMach4
/- The reference's machine: list. -/
set_option linter.unusedVariables false
set_option linter.unusedSimpArgs false
set_option maxRecDepth 100000
namespace Go.Proofs.Ytcfpkmfppgodmaa
open Go.RowKit Go.Proofs

def rfuelAt (g : Nat) (w : World) : Nat := match w.cell? ⟨g, 6, none⟩ with | some (.int _ f) => (400 - f).toNat | _ => 0
theorem while_again {v : EnvS} {s : Stm} {m m3 : Ms} {r : Res} (hf : 0 < m.fuel) (h4 : s.kind = 4) (hv : valS m.pay.cells v 5 s.value ≠ 0) (hb : Exec v (.list s.body) m.pay (.done m3)) (h : Exec v (.stm s) m3 r) : Exec v (.stm s) m r := by
  refine .whileE hf h4 ?_
  cases h with
  | empty h0 => exact .out hv hb h0
  | simple h _ g4 => exact absurd h4 g4
  | ifE _ g3 _ => omega
  | whileE h0 _ h1 => exact .again hv hb h0 h1
end Go.Proofs.Ytcfpkmfppgodmaa

-- RMach5
/- ref05.Run. -/
set_option linter.unusedVariables false
set_option linter.unusedSimpArgs false
set_option maxRecDepth 100000
namespace Go.Proofs.Ytcfpkmfppgodmaa
open Go.RowKit Go.Proofs

theorem ownsRow_up {w : World} {base b n size : Nat} {e : TypeId} {v : Value} {xs : List Value} (h : w.ownsRow base e size v n xs) (hb : ∀ g, v.ownBlock = some g → b ≤ g) : w.ownsRow b e size v n xs := by
  refine ⟨h.1, ?_⟩
  rcases h.2 with hn | ⟨g, cap, cur, rfl, hg, rest⟩
  · exact .inl hn
  · exact .inr ⟨g, cap, cur, rfl, hb g rfl, rest⟩
end Go.Proofs.Ytcfpkmfppgodmaa

-- ProcR1
/- The reference's execute. -/
set_option linter.unusedVariables false
set_option linter.unusedSimpArgs false
set_option maxRecDepth 100000
namespace Go.Proofs.Ytcfpkmfppgodmaa
open Go.RowKit Go.Proofs

theorem info_Send : (Try.prog.info? 113).map (fun i => (i.zero, i.size, i.bytes)) = some (some (.agg #[.int .i64 0, .int .i64 0, .int .i64 0, .int .i64 0]), 4, 32) := by kernel_rfl
theorem info_Output : (Try.prog.info? 115).map (fun i => (i.zero, i.size, i.bytes)) = some (some (.agg #[.int .i64 0, .int .i64 0]), 2, 16) := by kernel_rfl
theorem built_send (a b c d : Int) : builtS Try.prog 113 1 [(0, .agg #[.int .i64 a, .int .i64 b, .int .i64 c, .int .i64 d])] = some #[.int .i64 a, .int .i64 b, .int .i64 c, .int .i64 d] := by kernel_rfl
theorem built_out (a b : Int) : builtS Try.prog 115 1 [(0, .agg #[.int .i64 a, .int .i64 b])] = some #[.int .i64 a, .int .i64 b] := by kernel_rfl
theorem blkM (w : World) (o1 o3 : Obj) (t : TypeId) (cs : Array Value) : Blk (((w.alloc o1).alloc (.cells cs t)).alloc o3) (w.heap.size + 1) t cs := by simpa using (Blk.new (w.alloc o1) t cs).alloc o3
theorem blkL (w : World) (o1 o2 : Obj) (t : TypeId) (cs : Array Value) : Blk (((w.alloc o1).alloc o2).alloc (.cells cs t)) (w.heap.size + 2) t cs := by simpa using Blk.new ((w.alloc o1).alloc o2) t cs
def cntS (l : List Eff) : Nat := (l.filter (fun e => e.kind == 1)).length
theorem cntS_le (l : List Eff) : cntS l ≤ l.length := List.length_filter_le _ _
theorem cntS_snoc (l : List Eff) (e : Eff) : cntS (l ++ [e]) = cntS l + (if e.kind = 1 then 1 else 0) := by
  unfold cntS
  rw [List.filter_append, List.length_append]
  by_cases h : e.kind = 1 <;> simp [h]
theorem sendsOf_snoc (ix : Int) (e : Eff) : ∀ (l : List Eff) (o : Int), sendsOf ix o (l ++ [e]) = sendsOf ix o l ++ (if e.kind = 1 then [⟨ix, o + cntS l, e.dst, e.val⟩] else [])
  | [], o => by simp [sendsOf, cntS]
  | x :: l, o => by
    rw [List.cons_append, sendsOf, sendsOf]
    by_cases hx : x.kind = 1
    · rw [if_pos hx, if_pos hx, sendsOf_snoc ix e l (o + 1), List.cons_append]
      have : cntS (x :: l) = cntS l + 1 := by simp [cntS, hx]
      have e2 : o + 1 + (cntS l : Int) = o + ((cntS l + 1 : Nat) : Int) := by omega
      rw [this, e2]
    · rw [if_neg hx, if_neg hx, sendsOf_snoc ix e l o]
      have : cntS (x :: l) = cntS l := by simp [cntS, hx]
      rw [this]
theorem outsOf_snoc (ix : Int) (e : Eff) : ∀ l : List Eff, outsOf ix (l ++ [e]) = outsOf ix l ++ (if e.kind = 1 then [] else [⟨ix, e.val⟩])
  | [] => by simp [outsOf]
  | x :: l => by
    rw [List.cons_append, outsOf, outsOf]
    by_cases hx : x.kind = 1
    · rw [if_pos hx, if_pos hx, outsOf_snoc ix e l]
    · rw [if_neg hx, if_neg hx, outsOf_snoc ix e l, List.cons_append]
theorem sendsOf_len (ix : Int) : ∀ (l : List Eff) (o : Int), (sendsOf ix o l).length ≤ l.length
  | [], _ => by simp [sendsOf]
  | x :: l, o => by
    rw [sendsOf]
    split
    · have := sendsOf_len ix l (o + 1); simp; omega
    · have := sendsOf_len ix l o; simp; omega
theorem outsOf_len (ix : Int) : ∀ l : List Eff, (outsOf ix l).length ≤ l.length
  | [] => by simp [outsOf]
  | x :: l => by
    rw [outsOf]
    split
    · have := outsOf_len ix l; simp; omega
    · have := outsOf_len ix l; simp; omega
/-- The blocks of S, and those that came since w. -/
def Sn (S : Nat → Prop) (w w' : World) (i : Nat) : Prop := S i ∨ (w.heap.size ≤ i ∧ i < w'.heap.size)
def StPost (S : Nat → Prop) (s : St) (w : World) (e : Ending) (w' : World) : Prop := ∃ cs, e = .returned (.agg cs.toArray) ∧ StR w' (Sn S w w') cs s ∧ Keep w w'
theorem Sn.lt {S : Nat → Prop} {w w' : World} (hS : ∀ i, S i → i < w.heap.size) (hk : w.heap.size ≤ w'.heap.size) : ∀ i, Sn S w w' i → i < w'.heap.size := fun i hi => hi.elim (fun h => Nat.lt_of_lt_of_le (hS i h) hk) (fun h => h.2)
theorem Sn.mono {S : Nat → Prop} {w W w1 w2 : World} (h1 : w.heap.size ≤ W.heap.size) (h2 : w1.heap.size ≤ w2.heap.size) : ∀ i, Sn S W w1 i → Sn S w w2 i := fun i hi => hi.elim .inl (fun h => .inr ⟨by omega, by omega⟩)
def ExeRel (B : Nat) (ix : Int) (s : St) (effs : List Eff) (W : World) (a b o i : Value) (wr : World) : Prop :=
  ∃ k : Nat, k ≤ effs.length ∧ i = .int .i64 k ∧ o = .int .i64 (cntS (effs.take k)) ∧ wr.ownsRow B 113 4 a (s.sent ++ sendsOf ix 0 (effs.take k)).length ((s.sent ++ sendsOf ix 0 (effs.take k)).flatMap encSnd) ∧
    wr.ownsRow B 115 2 b (s.outs ++ outsOf ix (effs.take k)).length ((s.outs ++ outsOf ix (effs.take k)).flatMap encOut) ∧ (∀ g, a.ownBlock = some g → b.ownBlock ≠ some g) ∧ Same (· < B) W wr
theorem one_of {α : Type} {enc : α → List Value} (h : ∀ a, ∀ u ∈ enc a, u.oneCell' = true) (l : List α) : ∀ u ∈ l.flatMap enc, u.oneCell' = true := fun u hu => by obtain ⟨x, _, hx⟩ := List.mem_flatMap.1 hu; exact h x u hx
end Go.Proofs.Ytcfpkmfppgodmaa

-- ProcR2
/- The reference's Start, Next, Replay. -/
set_option linter.unusedVariables false
set_option linter.unusedSimpArgs false
set_option maxRecDepth 100000
namespace Go.Proofs.Ytcfpkmfppgodmaa
open Go.RowKit Go.Proofs

/-- Five cells that read as a code. -/
def CdR (w : World) (S : Nat → Prop) (cs : List Value) (c : Cd) : Prop :=
  ∃ (A0 A1 A2 A3 A4 : Option Addr) (m0 c0 m1 c1 m2 c2 m3 c3 m4 c4 : Nat), cs = [.slice A0 m0 c0, .slice A1 m1 c1, .slice A2 m2 c2, .slice A3 m3 c3, .slice A4 m4 c4] ∧ Sl encI 1 w S A0 m0 c0 c.init ∧
    SlR w S 18 (StmR w S 3) A1 m1 c1 c.start ∧ SlR w S 18 (StmR w S 3) A2 m2 c2 c.message ∧ SlR w S 18 (StmR w S 3) A3 m3 c3 c.tick ∧ SlR w S 18 (StmR w S 3) A4 m4 c4 c.input ∧ c.init.length ≤ 1000000
theorem CdR.keep {w w' : World} {S : Nat → Prop} {cs : List Value} {c : Cd} (h : CdR w S cs c) (hk : Same S w w') : CdR w' S cs c := by
  obtain ⟨A0, A1, A2, A3, A4, m0, c0, m1, c1, m2, c2, m3, c3, m4, c4, e, h0, h1, h2, h3, h4, h5⟩ := h
  exact ⟨A0, A1, A2, A3, A4, m0, c0, m1, c1, m2, c2, m3, c3, m4, c4, e, h0.keep hk, h1.keep hk (StmR.keep hk _), h2.keep hk (StmR.keep hk _), h3.keep hk (StmR.keep hk _), h4.keep hk (StmR.keep hk _), h5⟩
theorem CdR.more {w : World} {S T : Nat → Prop} {cs : List Value} {c : Cd} (h : CdR w S cs c) (hk : ∀ i, S i → T i) : CdR w T cs c := by
  obtain ⟨A0, A1, A2, A3, A4, m0, c0, m1, c1, m2, c2, m3, c3, m4, c4, e, h0, h1, h2, h3, h4, h5⟩ := h
  exact ⟨A0, A1, A2, A3, A4, m0, c0, m1, c1, m2, c2, m3, c3, m4, c4, e, h0.more hk, h1.more hk (StmR.more hk _), h2.more hk (StmR.more hk _), h3.more hk (StmR.more hk _), h4.more hk (StmR.more hk _), h5⟩
theorem st_open {w : World} {S : Nat → Prop} {cs : List Value} {s : St} (h : StR w S cs s) : ∃ (B1 B2 B3 B4 : Option Addr) (p1 q1 p2 q2 p3 q3 p4 q4 : Nat), cs = [.slice B1 p1 q1, .slice B2 p2 q2, .slice B3 p3 q3, .slice B4 p4 q4] ∧ StR w S [.slice B1 p1 q1, .slice B2 p2 q2, .slice B3 p3 q3, .slice B4 p4 q4] s := by
  have h' := h
  obtain ⟨A1, A2, A3, A4, n1, c1, n2, c2, n3, c3, n4, c4, rfl, _⟩ := h
  exact ⟨A1, A2, A3, A4, n1, c1, n2, c2, n3, c3, n4, c4, rfl, h'⟩
/-- A state that came from a call stays, though block b, which stood before the call, is written. -/
theorem st_after {S : Nat → Prop} {w W w1 wz : World} {cs : List Value} {s : St} {b : Nat} (hS : ∀ i, S i → i < w.heap.size) (hW : w.heap.size ≤ W.heap.size) (h : StR w1 (Sn S W w1) cs s) (hs : Same (· ≠ b) w1 wz) (h1 : w.heap.size ≤ b) (h2 : b < W.heap.size) : StR wz (Sn S w wz) cs s :=
  (h.keep (hs.mono (fun i hi e => hi.elim (fun hi => by have := hS i hi; omega) (fun hi => by omega)))).more (Sn.mono hW hs.size)
theorem load_st {w : World} {b : Nat} {cs : List Value} (hl : cs.length = 4) (hb : Blk w b 88 cs.toArray) : (loadVar 88 ⟨b, 0, none⟩).run Try.prog w = .ok (.agg cs.toArray) w :=
  loadVar_blk cs _ hb (fun j v hv => by simpa using hv) Try.underlying88 rfl (by rw [hl]; kernel_rfl)
theorem blk4b (w : World) (o1 o3 o4 : Obj) (t : TypeId) (cs : Array Value) : Blk ((((w.alloc o1).alloc (.cells cs t)).alloc o3).alloc o4) (w.heap.size + 1) t cs := (blkM w o1 o3 t cs).alloc o4
theorem blk4c (w : World) (o1 o2 o4 : Obj) (t : TypeId) (cs : Array Value) : Blk ((((w.alloc o1).alloc o2).alloc (.cells cs t)).alloc o4) (w.heap.size + 2) t cs := (blkL w o1 o2 t cs).alloc o4
theorem blk4d (w : World) (o1 o2 o3 : Obj) (t : TypeId) (cs : Array Value) : Blk ((((w.alloc o1).alloc o2).alloc o3).alloc (.cells cs t)) (w.heap.size + 3) t cs := by simpa using Blk.new (((w.alloc o1).alloc o2).alloc o3) t cs
theorem built_ev (a b c d e f g : Int) : builtS Try.prog 50 1 [(0, .agg #[.int .i64 a, .int .i64 b, .int .i64 c, .int .i64 d, .int .i64 e, .int .i64 f, .int .i64 g])] = some #[.int .i64 a, .int .i64 b, .int .i64 c, .int .i64 d, .int .i64 e, .int .i64 f, .int .i64 g] := by kernel_rfl
/-- The events have been copied and have one more; nothing else of W is changed. -/
def NxtRel (W : World) (b : Nat) (x y z : Value) (evs : List Ev) (wx : World) : Prop :=
  ∃ A c, Blk wx b 88 #[x, .slice A evs.length c, y, z] ∧ Sl encEv 7 wx (fun i => W.heap.size ≤ i ∧ i < wx.heap.size) A evs.length c evs ∧ Same (fun i => i < W.heap.size ∧ i ≠ b) W wx
end Go.Proofs.Ytcfpkmfppgodmaa

-- Same2
/- ref06.Same and process.Same: written by gen_same2.py. -/
set_option linter.unusedVariables false
set_option linter.unusedSimpArgs false
set_option maxRecDepth 100000
namespace Go.Proofs.Ytcfpkmfppgodmaa
open Go.RowKit Go.Proofs

theorem St_ext (a b : St) : a = b ↔ a.cells = b.cells ∧ a.events = b.events ∧ a.sent = b.sent ∧ a.outs = b.outs := by
  cases a; cases b; simp
def SmPost (p : Prop) (w : World) (e : Ending) (w' : World) : Prop := ∃ b : Bool, (b = true ↔ p) ∧ e = .returned (.bool b) ∧ Keep w w'
/-- A state's lists are of a size that the tests can count. -/
def Fine (s : St) : Prop := s.cells.length ≤ 1000000 ∧ s.events.length ≤ 1000000 ∧ s.sent.length ≤ 1000000 ∧ s.outs.length ≤ 1000000
end Go.Proofs.Ytcfpkmfppgodmaa

-- ProcR3
/- The reference's Replay. -/
set_option linter.unusedVariables false
set_option linter.unusedSimpArgs false
set_option maxRecDepth 100000
namespace Go.Proofs.Ytcfpkmfppgodmaa
open Go.RowKit Go.Proofs

theorem runS_len (v : EnvS) (body : List Stm) (cells : List Int) (ix : Int) (s : St) : (runS v body cells ix s).cells.length = cells.length ∧ (runS v body cells ix s).sent.length ≤ s.sent.length + 8 ∧ (runS v body cells ix s).outs.length ≤ s.outs.length + 8 := by
  have h := execF_fit v body cells
  have h1 := sendsOf_len ix (execF v body cells).effs 0
  have h2 := outsOf_len ix (execF v body cells).effs
  refine ⟨h.1, ?_, ?_⟩
  · show (s.sent ++ _).length ≤ _; rw [List.length_append]; omega
  · show (s.outs ++ _).length ≤ _; rw [List.length_append]; omega
theorem nextS_len (c : Cd) (self procs : Int) (s : St) (x : Ev) : (nextS c self procs s x).cells.length = s.cells.length ∧ (nextS c self procs s x).sent.length ≤ s.sent.length + 8 ∧ (nextS c self procs s x).outs.length ≤ s.outs.length + 8 := by
  unfold nextS
  split
  · exact runS_len _ _ _ _ _
  · split
    · exact runS_len _ _ _ _ _
    · split
      · exact runS_len _ _ _ _ _
      · exact ⟨rfl, by simp, by simp⟩
theorem replayS_len (c : Cd) (self procs : Int) (l : List Ev) : (replayS c self procs l).cells.length = c.init.length ∧ (replayS c self procs l).sent.length ≤ 8 * (l.length + 1) ∧ (replayS c self procs l).outs.length ≤ 8 * (l.length + 1) ∧ (replayS c self procs l).events.length = l.length := by
  have key : ∀ (l : List Ev) (s : St), (l.foldl (nextS c self procs) s).cells.length = s.cells.length ∧ (l.foldl (nextS c self procs) s).sent.length ≤ s.sent.length + 8 * l.length ∧ (l.foldl (nextS c self procs) s).outs.length ≤ s.outs.length + 8 * l.length := by
    intro l
    induction l with
    | nil => intro s; exact ⟨rfl, by simp, by simp⟩
    | cons x l ih =>
      intro s
      have h1 := ih (nextS c self procs s x)
      have h2 := nextS_len c self procs s x
      rw [List.foldl_cons, List.length_cons]
      exact ⟨h1.1.trans h2.1, by omega, by omega⟩
  have h := key l (startS c self procs)
  have h0 := runS_len ⟨self, procs, self, 0⟩ c.start c.init 0 ⟨[], [], [], []⟩
  have h0' : (startS c self procs).cells.length = c.init.length ∧ (startS c self procs).sent.length ≤ 8 ∧ (startS c self procs).outs.length ≤ 8 := by
    refine ⟨h0.1, ?_, ?_⟩
    · have := h0.2.1; simp only [List.length_nil, Nat.zero_add] at this; exact this
    · have := h0.2.2; simp only [List.length_nil, Nat.zero_add] at this; exact this
  refine ⟨h.1.trans h0'.1, ?_, ?_, by rw [replayS_events]⟩
  · have := h.2.1; unfold replayS; omega
  · have := h.2.2; unfold replayS; omega
/-- Blocks of S, and the blocks from B on, but b. -/
def Sb (S : Nat → Prop) (B b : Nat) (w : World) (i : Nat) : Prop := (S i ∨ (B ≤ i ∧ i < w.heap.size)) ∧ i ≠ b
def RepRel (S : Nat → Prop) (B b : Nat) (c : Cd) (self procs : Int) (l : List Ev) (w0 : World) (i : Value) (wr : World) : Prop :=
  ∃ (k : Nat) (B1 B2 B3 B4 : Option Addr) (p1 q1 p2 q2 p3 q3 p4 q4 : Nat), i = .int .i64 k ∧ k ≤ l.length ∧ Blk wr b 88 #[.slice B1 p1 q1, .slice B2 p2 q2, .slice B3 p3 q3, .slice B4 p4 q4] ∧ StR wr (Sb S B b wr) [.slice B1 p1 q1, .slice B2 p2 q2, .slice B3 p3 q3, .slice B4 p4 q4] (replayS c self procs (l.take k)) ∧ Same (· < B) w0 wr
theorem take_replay {c : Cd} {self procs : Int} {l : List Ev} {k : Nat} {x : Ev} (h : l[k]? = some x) : nextS c self procs (replayS c self procs (l.take k)) x = replayS c self procs (l.take (k + 1)) := by
  rw [(take_snoc h).1, replayS_snoc]
end Go.Proofs.Ytcfpkmfppgodmaa

-- Aid6
/- Small words for the walks of law06 and law34. -/
set_option linter.unusedVariables false
set_option linter.unusedSimpArgs false
set_option maxRecDepth 100000
namespace Go.Proofs.Ytcfpkmfppgodmaa
open Go.RowKit Go.Proofs

theorem st_sl {w : World} {S : Nat → Prop} {B1 B2 B3 B4 : Option Addr} {p1 q1 p2 q2 p3 q3 p4 q4 : Nat} {s : St} (h : StR w S [.slice B1 p1 q1, .slice B2 p2 q2, .slice B3 p3 q3, .slice B4 p4 q4] s) :
    Sl encI 1 w S B1 p1 q1 s.cells ∧ Sl encEv 7 w S B2 p2 q2 s.events ∧ Sl encSnd 4 w S B3 p3 q3 s.sent ∧ Sl encOut 2 w S B4 p4 q4 s.outs := by
  obtain ⟨A1, A2, A3, A4, n1, c1, n2, c2, n3, c3, n4, c4, e, h1, h2, h3, h4⟩ := h
  simp only [List.cons.injEq, Value.slice.injEq, and_true] at e
  obtain ⟨⟨rfl, rfl, rfl⟩, ⟨rfl, rfl, rfl⟩, ⟨rfl, rfl, rfl⟩, rfl, rfl, rfl⟩ := e
  exact ⟨h1, h2, h3, h4⟩
theorem st_mk {w : World} {S : Nat → Prop} {B1 B2 B3 B4 : Option Addr} {p1 q1 p2 q2 p3 q3 p4 q4 : Nat} {s : St}
    (h1 : Sl encI 1 w S B1 p1 q1 s.cells) (h2 : Sl encEv 7 w S B2 p2 q2 s.events) (h3 : Sl encSnd 4 w S B3 p3 q3 s.sent) (h4 : Sl encOut 2 w S B4 p4 q4 s.outs) :
    StR w S [.slice B1 p1 q1, .slice B2 p2 q2, .slice B3 p3 q3, .slice B4 p4 q4] s := ⟨B1, B2, B3, B4, p1, q1, p2, q2, p3, q3, p4, q4, rfl, h1, h2, h3, h4⟩
theorem cd_init {w : World} {S : Nat → Prop} {B0 B1 B2 B3 B4 : Option Addr} {p0 q0 p1 q1 p2 q2 p3 q3 p4 q4 : Nat} {c : Cd} (h : CdR w S [.slice B0 p0 q0, .slice B1 p1 q1, .slice B2 p2 q2, .slice B3 p3 q3, .slice B4 p4 q4] c) : p0 = c.init.length := by
  obtain ⟨A0, A1, A2, A3, A4, m0, c0, m1, c1, m2, c2, m3, c3, m4, c4, e, h0, h1, h2, h3, h4, h5⟩ := h
  simp only [List.cons.injEq, Value.slice.injEq, and_true] at e
  obtain ⟨⟨rfl, rfl, rfl⟩, -⟩ := e
  exact h0.1
theorem drop_cons {α : Type} {l : List α} {k : Nat} {y : α} (h : l[k]? = some y) : l.drop k = y :: l.drop (k + 1) := by
  obtain ⟨hk, rfl⟩ := List.getElem?_eq_some_iff.1 h
  exact List.drop_eq_getElem_cons hk
theorem cd_open2 {w : World} {S : Nat → Prop} {cs : List Value} {c : Cd} (h : CdR w S cs c) : ∃ (B0 B1 B2 B3 B4 : Option Addr) (p0 q0 p1 q1 p2 q2 p3 q3 p4 q4 : Nat), cs = [.slice B0 p0 q0, .slice B1 p1 q1, .slice B2 p2 q2, .slice B3 p3 q3, .slice B4 p4 q4] ∧ CdR w S [.slice B0 p0 q0, .slice B1 p1 q1, .slice B2 p2 q2, .slice B3 p3 q3, .slice B4 p4 q4] c := by
  have h' := h
  obtain ⟨A0, A1, A2, A3, A4, m0, c0, m1, c1, m2, c2, m3, c3, m4, c4, rfl, _⟩ := h
  exact ⟨A0, A1, A2, A3, A4, m0, c0, m1, c1, m2, c2, m3, c3, m4, c4, rfl, h'⟩
/-- The blocks of a world but one. -/
def Bx (g : Nat) (w : World) (i : Nat) : Prop := i < w.heap.size ∧ i ≠ g
def Bw (w : World) (i : Nat) : Prop := i < w.heap.size
section
variable {P : Program} {ops : Array Oper} {o : Oper} {a : Act} {w : World} {K : Act → World → Prop} {Q : Exit → Act → World → Prop} {E : Prop}
theorem step_load_blk (hgd : o.guard = none) (ty : TypeId) (x : Operand) (ho : o.op = .load ty x)
    (g off : Nat) (t : TypeId) (cs : Array Value) (vs : List Value) (d : TypeDesc) (hx : a.eval x = .pointer (some ⟨g, off, none⟩)) (hb : Blk w g t cs) (hvs : ∀ j v, vs[j]? = some v → cs[off + j]? = some v)
    (hu : P.underlying ty = some d) (hd : d.isRow = true) (hi : (P.info? ty).map (·.size) = some vs.length)
    (h : K (a.put o.dst (.agg vs.toArray)) w) : if Region.wanted o (yielded ops a.tmps) = true then Oper.wp P o a w K Q else E := by
  have hw : Region.wanted o (yielded ops a.tmps) = true := by simp [Region.wanted, hgd]
  rw [if_pos hw]
  have hy := yieldsIf_blk (T := fun w' => w' = w) hw ty x ho g off t cs vs d hx (fun w' e => e ▸ hb) hvs hu hd hi
  rcases hy with ⟨_, hr⟩ | hn
  · have e := hr w rfl
    unfold Oper.wp
    rw [e]
    exact h
  · simp_all
end
/-- Two variables that hold states. -/
def Bg (g h : Nat) (w : World) (i : Nat) : Prop := i < w.heap.size ∧ i ≠ g ∧ i ≠ h
def TwoSt (W : World) (g h : Nat) (s t : St) (wx : World) : Prop :=
  ∃ cs ct : List Value, Blk wx g 88 cs.toArray ∧ Blk wx h 88 ct.toArray ∧ StR wx (Bg g h wx) cs s ∧ StR wx (Bg g h wx) ct t ∧ Keep W wx
def TwoV (W : World) (s t : St) (p q : Value) (wx : World) : Prop := ∃ g h : Nat, p = .pointer (some ⟨g, 0, none⟩) ∧ q = .pointer (some ⟨h, 0, none⟩) ∧ g ≠ h ∧ W.heap.size ≤ g ∧ W.heap.size ≤ h ∧ TwoSt W g h s t wx
theorem two_put2 {W u u5 u6 : World} {g h : Nat} {cs ct : List Value} {s t : St} {S1 S2 : Nat → Prop} (hgh : g ≠ h) (hg : W.heap.size ≤ g) (hh : W.heap.size ≤ h) (hgl : g < u.heap.size) (hhl : h < u.heap.size)
    (h1 : ∀ i, S1 i → Bg g h u i) (h2 : ∀ i, S2 i → Bg g h u i) (r1 : StR u S1 cs s) (r2 : StR u S2 ct t) (hk : Keep W u)
    (b5 : Blk u5 g 88 cs.toArray) (s5 : Same (· ≠ g) u u5) (b6 : Blk u6 h 88 ct.toArray) (s6 : Same (· ≠ h) u5 u6) : TwoSt W g h s t u6 := by
  have z5 := s5.size
  have z6 := s6.size
  have sb : Same (Bg g h u) u u6 := Same.trans (s5.mono (fun i (hi : Bg g h u i) => hi.2.1)) s6 (fun i hi => hi.2.2)
  have up : ∀ i, Bg g h u i → Bg g h u6 i := fun i hi => ⟨by have := hi.1; omega, hi.2⟩
  exact ⟨cs, ct, s6.blk b5 hgh, b6, ((r1.more h1).keep sb).more up, ((r2.more h2).keep sb).more up, Same.trans hk (Same.trans (s5.mono (fun i (hi : i < W.heap.size) => by show i ≠ g; omega)) s6 (fun i hi => by show i ≠ h; omega)) (fun i hi => hi)⟩
theorem fine_replay (cd : Cd) (me : Int) (l : List Ev) (hi : cd.init.length ≤ 1000000) (hl : l.length ≤ 100) : Fine (replayS cd me 3 l) := by
  have h := replayS_len cd me 3 l
  have he := replayS_events cd me 3 l
  exact ⟨by omega, by rw [he]; omega, by omega, by omega⟩
end Go.Proofs.Ytcfpkmfppgodmaa

-- Ask
/- Label, Received and Sends of process and ref06: written by gen_ask.py. -/
set_option linter.unusedVariables false
set_option linter.unusedSimpArgs false
set_option maxRecDepth 100000
namespace Go.Proofs.Ytcfpkmfppgodmaa
open Go.RowKit Go.Proofs

def RecvPost (v : Int) (w : World) (e : Ending) (w' : World) : Prop := e = .returned (.int .i64 v) ∧ Keep w w'
def recvP (frm a b ord : Int) (e : Ev) : Bool := e.kind == 1 && e.frm == frm && e.sInc == a && e.sIdx == b && e.ord == ord
def recvAt (p : Ev → Bool) : Nat → List Ev → Int
  | _, [] => 0
  | k, e :: l => if p e then k + 1 else recvAt p (k + 1) l
def recvS (evs : List Ev) (frm a b ord : Int) : Int := recvAt (recvP frm a b ord) 0 evs
theorem recvAt_get {p : Ev → Bool} {l : List Ev} {k : Nat} {x : Ev} (h : l[k]? = some x) : recvAt p k (l.drop k) = if p x then (k : Int) + 1 else recvAt p (k + 1) (l.drop (k + 1)) := by
  rw [drop_cons h]
  rfl
theorem lab_cells (a b c d e f g : Int) : ∀ j v, ([.int .i64 d, .int .i64 e] : List Value)[j]? = some v → (#[.int .i64 a, .int .i64 b, .int .i64 c, .int .i64 d, .int .i64 e, .int .i64 f, .int .i64 g] : Array Value)[3 + j]? = some v := fun j v hv => by
  rcases j with _ | _ | j
  · exact hv
  · exact hv
  · simp at hv
def RcRel (W : World) (evs : List Ev) (frm a b ord : Int) (i : Value) (wr : World) : Prop := ∃ k : Nat, i = .int .i64 k ∧ k ≤ evs.length ∧ recvS evs frm a b ord = recvAt (recvP frm a b ord) k (evs.drop k) ∧ Keep W wr
/-- The label of an index. -/
def labInc (evs : List Ev) (k : Int) : Int := if 0 < k ∧ k ≤ evs.length then (evs.getD (k.toNat - 1) ⟨0, 0, 0, 0, 0, 0, 0⟩).inc else 0
def labIdx (evs : List Ev) (k : Int) : Int := if 0 < k ∧ k ≤ evs.length then k else 0
def labOk (evs : List Ev) (k : Int) : Bool := decide (0 ≤ k ∧ k ≤ evs.length)
def LabPost (evs : List Ev) (k : Int) (w : World) (e : Ending) (w' : World) : Prop := e = .returned (.tuple #[.agg #[.int .i64 (labInc evs k), .int .i64 (labIdx evs k)], .bool (labOk evs k)]) ∧ Keep w w'
/-- What the event with an index sent. -/
def sendsAt (l : List Snd) (k : Int) : List Snd := l.filter (fun y => y.idx == k)
theorem sendsAt_take {l : List Snd} {k : Nat} {y : Snd} (ix : Int) (h : l[k]? = some y) : sendsAt (l.take (k + 1)) ix = sendsAt (l.take k) ix ++ (if y.idx == ix then [y] else []) := by
  obtain ⟨hk, rfl⟩ := List.getElem?_eq_some_iff.1 h
  rw [List.take_succ_eq_append_getElem hk]
  unfold sendsAt
  rw [List.filter_append]
  simp [List.filter_cons]
theorem sendsAt_len (l : List Snd) (ix : Int) (k : Nat) (h : k ≤ l.length) : (sendsAt (l.take k) ix).length ≤ k := by
  unfold sendsAt
  have := List.length_filter_le (fun y : Snd => y.idx == ix) (l.take k)
  rw [List.length_take] at this
  omega
def SdsRel (B : Nat) (ix : Int) (l : List Snd) (W : World) (v i : Value) (wr : World) : Prop := ∃ k : Nat, i = .int .i64 k ∧ k ≤ l.length ∧ wr.ownsRow B 113 4 v (sendsAt (l.take k) ix).length ((sendsAt (l.take k) ix).flatMap encSnd) ∧ Keep W wr
def SdsPost (l : List Snd) (w : World) (e : Ending) (w' : World) : Prop := ∃ (A : Option Addr) (n c : Nat), e = .returned (.slice A n c) ∧ Sl encSnd 4 w' (fun i => w.heap.size ≤ i ∧ i < w'.heap.size) A n c l ∧ Keep w w'
set_option maxHeartbeats 4000000 in
theorem plabel_any (w : World) (S : Nat → Prop) (B1 B2 B3 B4 : Option Addr) (p1 q1 p2 q2 p3 q3 p4 q4 : Nat) (evs : List Ev) (k : Int) (hS : ∀ i, S i → i < w.heap.size) (hl : Sl encEv 7 w S B2 p2 q2 evs) (hn : evs.length ≤ 1000000) :
    Calls Try.prog 40 #[.agg #[.slice B1 p1 q1, .slice B2 p2 q2, .slice B3 p3 q3, .slice B4 p4 q4], .int .i64 k] w (LabPost evs k w) := by
  have hp := hl.1
  have hq := hl.2.1
  generalize hW : (w.alloc (.cells #[.slice B1 p1 q1, .slice B2 p2 q2, .slice B3 p3 q3, .slice B4 p4 q4] 88)).alloc (.cells #[.int .i64 0, .int .i64 0] 48) = W
  have hkW : Keep w W := hW ▸ Keep.alloc (Keep.new w _) _
  have hb2 : Blk W w.heap.size 88 #[.slice B1 p1 q1, .slice B2 p2 q2, .slice B3 p3 q3, .slice B4 p4 q4] := hW ▸ (Blk.new w _ _).alloc _
  have hb4 : Blk W (w.heap.size + 1) 48 #[.int .i64 0, .int .i64 0] := hW ▸ (by simpa using Blk.new (w.alloc _) _ _)
  have hz : w.heap.size + 1 < W.heap.size := hb4.lt
  have e1 : W.cell? ⟨w.heap.size, 1, none⟩ = some (.slice B2 p2 q2) := by rw [hb2.cell]; rfl
  have key : ∀ (w' : World) (a b : Int) (q : Bool), Blk w' (w.heap.size + 1) 48 #[.int .i64 a, .int .i64 b] → Same (· ≠ w.heap.size + 1) W w' → a = labInc evs k → b = labIdx evs k → q = labOk evs k →
      LabPost evs k w (.returned (.tuple #[.agg #[.int .i64 a, .int .i64 b], .bool q])) w' := fun w' a b q _ hs h1 h2 h3 => ⟨by rw [h1, h2, h3], Keep.write hkW hs (by omega)⟩
  have hlW := hl.keep (Same.mono hkW hS)
  have hp9 : p2 ≤ 1000000 := by omega
  have HKW := Lib.hid hkW
  have HB2 := Lib.hid hb2
  have HB4 := Lib.hid hb4
  have KEY := Lib.hid key
  have HLW := Lib.hid hlW
  have E1 := Lib.hid e1
  have HS := Lib.hid hS
  have HP := Lib.hid hp
  clear hkW hb2 hb4 key hlW e1 hS hp
  clear hl hn
  by_cases hk0 : k = 0
  · subst hk0
    have t0 : decide ((p2 : Int) < 0) = false := by simp
    go_enter Try.func40, Try.ntmps40
    go_upto_region 1 with fail
    clear hW
    have e1 := E1.out
    go_wp2_with (refine wpList_store_all rfl _ (.tmp 4) (.tmp 20) rfl (w.heap.size + 1) 48 _ [.int .i64 0, .int .i64 0] rfl rfl HB4.out rfl (by kernel_rfl) rfl ?_; intro v6 hv6 hs6)
    exact bodyPost_ret (results_cell_tmp' Try.results40 _ _ _ ⟨w.heap.size + 1, 0, none⟩ _ _ rfl rfl (loadVar_blk [.int .i64 0, .int .i64 0] _ hv6 (fun j v hv => by simpa using hv) Try.underlying48 rfl (by kernel_rfl))) rfl (KEY.out v6 _ _ _ hv6 hs6 (by simp [labInc]) (by simp [labIdx]) (by simp [labOk]))
  · have t0 : (k == 0) = false := by simpa using hk0
    by_cases hneg : k < 0
    · have t1 : decide (k < 0) = true := by simpa using hneg
      go_enter Try.func40, Try.ntmps40
      go_upto_region 1 with fail
      clear hW
      have e1 := E1.out
      go_wp2_with (refine wpList_store_all rfl _ (.tmp 4) (.tmp 16) rfl (w.heap.size + 1) 48 _ [.int .i64 0, .int .i64 0] rfl rfl HB4.out rfl (by kernel_rfl) rfl ?_; intro v6 hv6 hs6)
      exact bodyPost_ret (results_cell_tmp' Try.results40 _ _ _ ⟨w.heap.size + 1, 0, none⟩ _ _ rfl rfl (loadVar_blk [.int .i64 0, .int .i64 0] _ hv6 (fun j v hv => by simpa using hv) Try.underlying48 rfl (by kernel_rfl))) rfl (KEY.out v6 _ _ _ hv6 hs6 (by have := HP.out; simp [labInc]; omega) (by have := HP.out; simp [labIdx]; omega) (by have := HP.out; simp [labOk]; omega))
    · have t1 : decide (k < 0) = false := by simpa using hneg
      by_cases hbig : (p2 : Int) < k
      · have t2 : decide ((p2 : Int) < k) = true := by simpa using hbig
        go_enter Try.func40, Try.ntmps40
        go_upto_region 1 with fail
        clear hW
        have e1 := E1.out
        go_wp2_with (refine wpList_store_all rfl _ (.tmp 4) (.tmp 16) rfl (w.heap.size + 1) 48 _ [.int .i64 0, .int .i64 0] rfl rfl HB4.out rfl (by kernel_rfl) rfl ?_; intro v6 hv6 hs6)
        exact bodyPost_ret (results_cell_tmp' Try.results40 _ _ _ ⟨w.heap.size + 1, 0, none⟩ _ _ rfl rfl (loadVar_blk [.int .i64 0, .int .i64 0] _ hv6 (fun j v hv => by simpa using hv) Try.underlying48 rfl (by kernel_rfl))) rfl (KEY.out v6 _ _ _ hv6 hs6 (by have := HP.out; simp [labInc]; omega) (by have := HP.out; simp [labIdx]; omega) (by have := HP.out; simp [labOk]; omega))
      · have t2 : decide ((p2 : Int) < k) = false := by simpa using hbig
        obtain ⟨b, off, x, rfl, hb, hx, hcx⟩ := HLW.out.at_ encEv_len (k := k.toNat - 1) (by omega)
        have c1 : W.cell? ⟨b, off + (k.toNat - 1) * 7 + 1, none⟩ = some (.int .i64 x.inc) := hcx 1 _ rfl
        have c2 : (k - 1).toNat = k.toNat - 1 := by omega
        have c3 : (0 : Int) ≤ k - 1 := by omega
        have c4 : k - 1 < (p2 : Int) := by omega
        have hxd : evs.getD (k.toNat - 1) ⟨0, 0, 0, 0, 0, 0, 0⟩ = x := by simp [List.getD, hx]
        have HXD := Lib.hid hxd
        clear hxd
        clear hcx hx
        go_enter Try.func40, Try.ntmps40
        go_upto_region 1 with fail
        clear hW
        have e1 := E1.out
        go_wp2_with (refine wpList_store_all rfl _ (.tmp 4) (.tmp 29) rfl (w.heap.size + 1) 48 _ [.int .i64 x.inc, .int .i64 k] rfl rfl HB4.out rfl (by kernel_rfl) rfl ?_; intro v6 hv6 hs6)
        exact bodyPost_ret (results_cell_tmp' Try.results40 _ _ _ ⟨w.heap.size + 1, 0, none⟩ _ _ rfl rfl (loadVar_blk [.int .i64 x.inc, .int .i64 k] _ hv6 (fun j v hv => by simpa using hv) Try.underlying48 rfl (by kernel_rfl))) rfl (KEY.out v6 _ _ _ hv6 hs6 (by unfold labInc; rw [if_pos ⟨by have := HP.out; omega, by have := HP.out; omega⟩, HXD.out]) (by unfold labIdx; rw [if_pos ⟨by have := HP.out; omega, by have := HP.out; omega⟩]) (by have := HP.out; unfold labOk; simp; omega))
end Go.Proofs.Ytcfpkmfppgodmaa
