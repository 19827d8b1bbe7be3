/- Contracts of the maker's functions: Expr. -/
import Derived.Test.YthmepnpjagpcnaaMk2
import Derived.Test.YthmepnpjagpcnaaExpr
import Derived.Test.YthmepnpjagpcnaaTree
import Derived.Test.YthmepnpjagpcnaaBlk
set_option linter.unusedVariables false
set_option maxRecDepth 100000
set_option linter.unusedSimpArgs false
namespace Go.Proofs.Ythmepnpjagpcnaa
open Go.RowKit Go.Proofs

theorem ExR.good (n : Nat) : Good (fun w S cs e => ExR w S n cs e) := ⟨fun hk h => ExR.keep hk n _ _ h, fun hS h => ExR.more hS n _ _ h⟩
theorem ExR.len {w : World} {S : Nat → Prop} : ∀ {n : Nat} {cs : List Value} {e : Ex}, ExR w S n cs e → cs.length = 6
  | n + 1, cs, .mk op val name slot size args, h => by obtain ⟨_, _, A, m, c, e, _⟩ := h; rw [e]; rfl
theorem ExR.one {w : World} {S : Nat → Prop} : ∀ {n : Nat} {cs : List Value} {e : Ex}, ExR w S n cs e → cs.all (·.oneCell') = true
  | n + 1, cs, .mk op val name slot size args, h => by obtain ⟨_, _, A, m, c, e, _⟩ := h; rw [e]; rfl
theorem ExR.one' {w : World} {S : Nat → Prop} {n : Nat} {cs : List Value} {e : Ex} (h : ExR w S n cs e) : ∀ u ∈ cs, u.oneCell' = true := fun u hu => List.all_eq_true.1 h.one u hu
theorem ExR.open_ {w : World} {S : Nat → Prop} : ∀ {n : Nat} {cs : List Value} {e : Ex}, ExR w S n cs e → ∃ op val name slot size args A m c, e = .mk op val name slot size args ∧ cs = [.int .i64 op, .int .i64 val, .string name, .int .i64 slot, .int .i64 size, .slice A m c]
  | n + 1, cs, .mk op val name slot size args, h => by obtain ⟨_, _, A, m, c, e, _⟩ := h; exact ⟨op, val, name, slot, size, args, A, m, c, rfl, e⟩
/-- No node has more than k operands. -/
def Ex.few (k : Nat) : Nat → Ex → Prop
  | 0, _ => True
  | n + 1, .mk _ _ _ _ _ args => args.length ≤ k ∧ ∀ a ∈ args, Ex.few k n a
theorem few_leaf {k n : Nat} {op val : Int} {name : ByteArray} {slot size : Int} : Ex.few k (n + 1) (.mk op val name slot size []) := ⟨by simp, by simp⟩
theorem I64.zero : I64 0 := ⟨by omega, by omega⟩
/-- An expression without operands. -/
theorem ExR.leaf {w : World} {S : Nat → Prop} (n : Nat) (op val : Int) (name : ByteArray) : ExR w S (n + 1) [.int .i64 op, .int .i64 val, .string name, .int .i64 0, .int .i64 0, .slice none 0 0] (.mk op val name 0 0 []) :=
  ⟨I64.zero, I64.zero, none, 0, 0, rfl, SlR.nil_⟩
theorem info_ex {cs : List Value} (h : cs.length = 6) : (Try.prog.info? 97).map (·.size) = some cs.length := by rw [h]; kernel_rfl
def ExprPost (n : Nat) (B : Nat → Prop) (gc r : Nat) (w : World) (e : Ending) (w' : World) : Prop :=
  ∃ (x : Ex) (cs : List Value) (r' : Nat), e = .returned (.agg cs.toArray) ∧ ExR w' (New w' w.heap.size) n cs x ∧ Ex.few 2 n x ∧ r' ≤ r - 1 ∧ Cod w' B gc r' ∧ Only gc w w'
/-- The result's variable holds an expression: the end of every branch. -/
theorem expr_end {fn : Func} {p : Tmp} (hf : fn.results = #[.cell p 97]) {tmps : Array Value} {w' : World} {b : Nat} {cs : List Value} (hp : tmps.getD p undef = .pointer (some ⟨b, 0, none⟩)) (hb : Blk w' b 97 cs.toArray) (hl : cs.length = 6) :
    (results fn tmps).run Try.prog w' = .ok (.agg cs.toArray) w' :=
  results_cell1 hf _ _ _ ⟨b, 0, none⟩ _ hp (loadVar_blk cs _ hb (fun j v hv => by simpa using hv) Try.underlying97 rfl (info_ex hl))
def CutK8 (n : Nat) (w1 : World) (s5 : Value) (wx : World) : Prop := ∃ k : Int, s5 = .int .i64 k ∧ 0 ≤ k ∧ k < 12 ∧ (n = 0 → k < 8) ∧ w1 = wx
def CutTB (w1 : World) (b : Bool) (s : Value) (wx : World) : Prop := s = .bool b ∧ w1 = wx

theorem built_ex1 (op val slot size : Int) (name : ByteArray) (A : Option Addr) (m c : Nat) : builtS Try.prog 97 1 [(0, .agg #[.int .i64 op, .int .i64 val, .string name, .int .i64 slot, .int .i64 size, .slice A m c])] = some #[.int .i64 op, .int .i64 val, .string name, .int .i64 slot, .int .i64 size, .slice A m c] := by kernel_rfl
theorem built_ex2 (op val slot size : Int) (name : ByteArray) (A : Option Addr) (m c : Nat) (op' val' slot' size' : Int) (name' : ByteArray) (A' : Option Addr) (m' c' : Nat) : builtS Try.prog 97 2 [(0, .agg #[.int .i64 op, .int .i64 val, .string name, .int .i64 slot, .int .i64 size, .slice A m c]), (1, .agg #[.int .i64 op', .int .i64 val', .string name', .int .i64 slot', .int .i64 size', .slice A' m' c'])] =
    some #[.int .i64 op, .int .i64 val, .string name, .int .i64 slot, .int .i64 size, .slice A m c, .int .i64 op', .int .i64 val', .string name', .int .i64 slot', .int .i64 size', .slice A' m' c'] := by kernel_rfl
end Go.Proofs.Ythmepnpjagpcnaa
