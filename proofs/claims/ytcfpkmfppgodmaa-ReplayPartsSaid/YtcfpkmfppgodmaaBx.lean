/- A slice literal whose world is abstract behind it. -/
import Derived.Test.YtcfpkmfppgodmaaBlk
import Derived.Test.YtcfpkmfppgodmaaGA
set_option linter.unusedVariables false
set_option linter.unusedSimpArgs false
namespace Go.Proofs.Ytcfpkmfppgodmaa
open Go.RowKit Go.Proofs

section
variable {P : Program} {ops : Array Oper} {rest : List Oper} {o : Oper} {a : Act} {w : World} {Q : Exit → Act → World → Prop}
/-- A slice literal, the world abstract behind it. -/
theorem wpList_buildX (hg : o.guard = none) (t e : TypeId) (len : Nat) (parts : Array (Nat × Operand)) (ho : o.op = .buildSlice t len parts) (hu : P.underlying t = some (.slice e)) (cells : Array Value)
    (vs : List (Nat × Value)) (hp : parts.toList.map (fun p => (p.1, a.eval p.2)) = vs) (hf : builtS P e len vs = some cells)
    (h : ∀ w', Blk w' w.heap.size e cells → Keep w w' → w.heap.size < w'.heap.size → wpList P ops Q rest (a.put o.dst (.slice (some ⟨w.heap.size, 0, none⟩) len len)) w') : wpList P ops Q (o :: rest) a w :=
  wpList_buildS hg t e len parts ho hu cells vs hp hf (h _ (Blk.new _ _ _) (Keep.new _ _) (by simp))
end
def exC (op val : Int) (name : ByteArray) (A : Option Addr) (m : Nat) : List Value := [.int .i64 op, .int .i64 val, .string name, .int .i64 0, .int .i64 0, .slice A m m]
def stC (k : Int) (name : ByteArray) (ps vs : List Value) (A : Option Addr) (m : Nat) : List Value := .int .i64 k :: .string name :: .int .i64 0 :: .int .i64 0 :: (ps ++ (vs ++ [.slice A m m, .slice none 0 0]))
def z6 : List Value := [.int .i64 0, .int .i64 0, .string ⟨#[]⟩, .int .i64 0, .int .i64 0, .slice none 0 0]
section
variable {w : World} {S : Nat → Prop}
theorem st_leaf {k : Int} {name : ByteArray} {ps vs : List Value} {p v : Ex} (hp : ExR w S 5 ps p) (hv : ExR w S 5 vs v) (n : Nat) : StmR w S (n + 1) (stC k name ps vs none 0) (.mk k name 0 0 p v [] []) :=
  ⟨I64.zero, I64.zero, ps, vs, none, none, 0, 0, 0, 0, rfl, hp, hv, SlR.nil_, SlR.nil_⟩
end
end Go.Proofs.Ytcfpkmfppgodmaa
