/-
  No cell of these rows narrows 'for every input' (looked for: loops, veiled, ifaces, maps, wideKeys, modest, calm, conditions, laid).
  DERIVED. THE GIVEN ROWS OF THIS SEAT. 7 by the template 'for every input the law returns true; each argument reads behind the call as it read before'; 0 by the template 'total and deterministic' (their statements: YtafgacfbplilpaaTotals.lean).
  GIVEN WITH THE SEED: the statements are not yours to turn. If you find one false, say at which input.
  Laid BY PROGRAM, IN A SANDBOX (cutbox-rows.mjs): the forced cells as the released guide's own fill.sh prints them over the translation 9f8666d8190d5c05… (all of the seat's roots in one cut). By AI agents, Wed Nov 11 2026. No macro, syntax, notation, axiom, sorry.
-/
import Derived.Test.YtafgacfbplilpaaChecked
import GoSem.Claim
import GoSem.ClaimJoined
import GoSem.ClaimMapViews
import Derived.JoinedTies
import Derived.KernelRfl
namespace Go.Proofs.Ytafgacfbplilpaa
/- THE CELL 'sum', in the pinned program and in every row, IS THE sha256 OF THE DUMP (.gsa) THAT YtafgacfbplilpaaProg.lean LOADS. Nothing in Lean hashes anything: it is a label: what it is worth is what the hold of that sum in a sandbox is worth. -/
noncomputable def Try.pinned : Pinned := { name := "ytafgacfbplilpaa", sum := "9f8666d8190d5c05bc6c2178d77b2db153d039db4731ea114dc7b41d991f6c2a", checked := Try.checked }
namespace Rows
def none {H : Type} : Left H := { results := [], args := [] }

/-- 'rollbacknetlaw37.LogcollectDets': WHATEVER THE INPUT: true; the input reads as it did. -/
def logcollectDetsSpec : ChangeSpec := { name := "logcollectDets", fn := fun _ => fun
  | [d1, d2, d3] => { results := [.lit (.bool true)], args := [d1, d2, d3] }
  | _ => none }
def logcollectDetsRow : OpenClaim := { program := "ytafgacfbplilpaa", sum := "9f8666d8190d5c05bc6c2178d77b2db153d039db4731ea114dc7b41d991f6c2a", func := "rollbacknet/rollbacknetlaw37.LogcollectDets", spec := "logcollectDets", apart := false }
def LogcollectDetsSaid : Prop := logcollectDetsRow.holds Try.pinned (OpenSpec.ofChange logcollectDetsSpec)

/-- ITS FALSE NEIGHBOUR: 'it returns false'. Refute it at one input. -/
def logcollectDetsWrong : ChangeSpec := { name := "logcollectDets", fn := fun _ => fun
  | [d1, d2, d3] => { results := [.lit (.bool false)], args := [d1, d2, d3] }
  | _ => none }
def LogcollectDetsWrongFalsely : Prop := logcollectDetsRow.holds Try.pinned (OpenSpec.ofChange logcollectDetsWrong)

/-- 'rollbacknetlaw15.LinkOrder': WHATEVER THE INPUT: true; the input reads as it did. -/
def linkOrderSpec : ChangeSpec := { name := "linkOrder", fn := fun _ => fun
  | [d1, d2] => { results := [.lit (.bool true)], args := [d1, d2] }
  | _ => none }
def linkOrderRow : OpenClaim := { program := "ytafgacfbplilpaa", sum := "9f8666d8190d5c05bc6c2178d77b2db153d039db4731ea114dc7b41d991f6c2a", func := "rollbacknet/rollbacknetlaw15.LinkOrder", spec := "linkOrder", apart := false }
def LinkOrderSaid : Prop := linkOrderRow.holds Try.pinned (OpenSpec.ofChange linkOrderSpec)

/-- ITS FALSE NEIGHBOUR: 'it returns false'. Refute it at one input. -/
def linkOrderWrong : ChangeSpec := { name := "linkOrder", fn := fun _ => fun
  | [d1, d2] => { results := [.lit (.bool false)], args := [d1, d2] }
  | _ => none }
def LinkOrderWrongFalsely : Prop := linkOrderRow.holds Try.pinned (OpenSpec.ofChange linkOrderWrong)

/-- 'rollbacknetlaw15.LinkWindow': WHATEVER THE INPUT: true; the input reads as it did. -/
def linkWindowSpec : ChangeSpec := { name := "linkWindow", fn := fun _ => fun
  | [d1, d2] => { results := [.lit (.bool true)], args := [d1, d2] }
  | _ => none }
def linkWindowRow : OpenClaim := { program := "ytafgacfbplilpaa", sum := "9f8666d8190d5c05bc6c2178d77b2db153d039db4731ea114dc7b41d991f6c2a", func := "rollbacknet/rollbacknetlaw15.LinkWindow", spec := "linkWindow", apart := false }
def LinkWindowSaid : Prop := linkWindowRow.holds Try.pinned (OpenSpec.ofChange linkWindowSpec)

/-- ITS FALSE NEIGHBOUR: 'it returns false'. Refute it at one input. -/
def linkWindowWrong : ChangeSpec := { name := "linkWindow", fn := fun _ => fun
  | [d1, d2] => { results := [.lit (.bool false)], args := [d1, d2] }
  | _ => none }
def LinkWindowWrongFalsely : Prop := linkWindowRow.holds Try.pinned (OpenSpec.ofChange linkWindowWrong)

/-- 'rollbacknetlaw15.LinkIgnores': WHATEVER THE INPUT: true; the input reads as it did. -/
def linkIgnoresSpec : ChangeSpec := { name := "linkIgnores", fn := fun _ => fun
  | [d1, d2, d3] => { results := [.lit (.bool true)], args := [d1, d2, d3] }
  | _ => none }
def linkIgnoresRow : OpenClaim := { program := "ytafgacfbplilpaa", sum := "9f8666d8190d5c05bc6c2178d77b2db153d039db4731ea114dc7b41d991f6c2a", func := "rollbacknet/rollbacknetlaw15.LinkIgnores", spec := "linkIgnores", apart := false }
def LinkIgnoresSaid : Prop := linkIgnoresRow.holds Try.pinned (OpenSpec.ofChange linkIgnoresSpec)

/-- ITS FALSE NEIGHBOUR: 'it returns false'. Refute it at one input. -/
def linkIgnoresWrong : ChangeSpec := { name := "linkIgnores", fn := fun _ => fun
  | [d1, d2, d3] => { results := [.lit (.bool false)], args := [d1, d2, d3] }
  | _ => none }
def LinkIgnoresWrongFalsely : Prop := linkIgnoresRow.holds Try.pinned (OpenSpec.ofChange linkIgnoresWrong)

/-- 'rollbacknetlaw37.LogcollectTwice': WHATEVER THE INPUT: true; the input reads as it did. -/
def logcollectTwiceSpec : ChangeSpec := { name := "logcollectTwice", fn := fun _ => fun
  | [d] => { results := [.lit (.bool true)], args := [d] }
  | _ => none }
def logcollectTwiceRow : OpenClaim := { program := "ytafgacfbplilpaa", sum := "9f8666d8190d5c05bc6c2178d77b2db153d039db4731ea114dc7b41d991f6c2a", func := "rollbacknet/rollbacknetlaw37.LogcollectTwice", spec := "logcollectTwice", apart := false }
def LogcollectTwiceSaid : Prop := logcollectTwiceRow.holds Try.pinned (OpenSpec.ofChange logcollectTwiceSpec)

/-- ITS FALSE NEIGHBOUR: 'it returns false'. Refute it at one input. -/
def logcollectTwiceWrong : ChangeSpec := { name := "logcollectTwice", fn := fun _ => fun
  | [d] => { results := [.lit (.bool false)], args := [d] }
  | _ => none }
def LogcollectTwiceWrongFalsely : Prop := logcollectTwiceRow.holds Try.pinned (OpenSpec.ofChange logcollectTwiceWrong)

/-- 'rollbacknetlaw15.LinkPlays': WHATEVER THE INPUT: true; the input reads as it did. -/
def linkPlaysSpec : ChangeSpec := { name := "linkPlays", fn := fun _ => fun
  | [d1, d2] => { results := [.lit (.bool true)], args := [d1, d2] }
  | _ => none }
def linkPlaysRow : OpenClaim := { program := "ytafgacfbplilpaa", sum := "9f8666d8190d5c05bc6c2178d77b2db153d039db4731ea114dc7b41d991f6c2a", func := "rollbacknet/rollbacknetlaw15.LinkPlays", spec := "linkPlays", apart := false }
def LinkPlaysSaid : Prop := linkPlaysRow.holds Try.pinned (OpenSpec.ofChange linkPlaysSpec)

/-- ITS FALSE NEIGHBOUR: 'it returns false'. Refute it at one input. -/
def linkPlaysWrong : ChangeSpec := { name := "linkPlays", fn := fun _ => fun
  | [d1, d2] => { results := [.lit (.bool false)], args := [d1, d2] }
  | _ => none }
def LinkPlaysWrongFalsely : Prop := linkPlaysRow.holds Try.pinned (OpenSpec.ofChange linkPlaysWrong)

/-- 'rollbacknetlaw15.LinkEnds': WHATEVER THE INPUT: true; the input reads as it did. -/
def linkEndsSpec : ChangeSpec := { name := "linkEnds", fn := fun _ => fun
  | [d1, d2, d3] => { results := [.lit (.bool true)], args := [d1, d2, d3] }
  | _ => none }
def linkEndsRow : OpenClaim := { program := "ytafgacfbplilpaa", sum := "9f8666d8190d5c05bc6c2178d77b2db153d039db4731ea114dc7b41d991f6c2a", func := "rollbacknet/rollbacknetlaw15.LinkEnds", spec := "linkEnds", apart := false }
def LinkEndsSaid : Prop := linkEndsRow.holds Try.pinned (OpenSpec.ofChange linkEndsSpec)

/-- ITS FALSE NEIGHBOUR: 'it returns false'. Refute it at one input. -/
def linkEndsWrong : ChangeSpec := { name := "linkEnds", fn := fun _ => fun
  | [d1, d2, d3] => { results := [.lit (.bool false)], args := [d1, d2, d3] }
  | _ => none }
def LinkEndsWrongFalsely : Prop := linkEndsRow.holds Try.pinned (OpenSpec.ofChange linkEndsWrong)

/- THE SECOND FORM. 'bulk': how many values and letters a reading holds, each counted each time it is reached (what is shared counts as often as it is met; a slice's spare places count too). A statement '..UptoSaid' is the law's where the arguments, and the package variables that the reading takes, are together of bulk at most 1048576: NARROWER than '..Said'. Prove '..Said' where nothing that the law and all that it calls make is longer than what came in: it says more and counts as full. Else prove '..UptoSaid'. A law counts once. -/
mutual
def uptoBulk {H : Type} : DataW H → Nat
  | .lit (.string bytes) => bytes.length + 1
  | .lit _ => 1
  | .nil => 1
  | .ptr d => uptoBulk d + 1
  | .slice elems spare => uptoBulkAll elems + uptoBulkAll spare + 1
  | .agg parts => uptoBulkAll parts + 1
  | .iface _ d => uptoBulk d + 1
  | .map entries => uptoBulkEntries entries + 1
  | .held _ => 1
def uptoBulkAll {H : Type} : List (DataW H) → Nat
  | [] => 0
  | d :: r => uptoBulk d + uptoBulkAll r
def uptoBulkEntries {H : Type} : List (Lit × DataW H) → Nat
  | [] => 0
  | x :: r => uptoBulkEntry x + uptoBulkEntries r
def uptoBulkEntry {H : Type} : Lit × DataW H → Nat
  | (.string bytes, d) => bytes.length + uptoBulk d + 1
  | (_, d) => uptoBulk d + 1
 end
def uptoSmall : (H : Type) → List (DataW H) → Bool := fun _ ds => decide (uptoBulkAll ds ≤ 1048576)
def OpenSpec.upto (s : _root_.Go.ChangeSpec) : _root_.Go.OpenSpec := { _root_.Go.OpenSpec.ofChange s with cond := some uptoSmall }

/-- 'rollbacknetlaw37.LogcollectDets', WHERE WHAT IT READS IS OF BULK AT MOST 1048576: true; the input reads as it did. -/
def logcollectDetsUptoRow : OpenClaim := { program := "ytafgacfbplilpaa", sum := "9f8666d8190d5c05bc6c2178d77b2db153d039db4731ea114dc7b41d991f6c2a", func := "rollbacknet/rollbacknetlaw37.LogcollectDets", spec := "logcollectDets", apart := false, narrowed := true }
def LogcollectDetsUptoSaid : Prop := logcollectDetsUptoRow.holds Try.pinned (OpenSpec.upto logcollectDetsSpec)

/-- 'rollbacknetlaw15.LinkOrder', WHERE WHAT IT READS IS OF BULK AT MOST 1048576: true; the input reads as it did. -/
def linkOrderUptoRow : OpenClaim := { program := "ytafgacfbplilpaa", sum := "9f8666d8190d5c05bc6c2178d77b2db153d039db4731ea114dc7b41d991f6c2a", func := "rollbacknet/rollbacknetlaw15.LinkOrder", spec := "linkOrder", apart := false, narrowed := true }
def LinkOrderUptoSaid : Prop := linkOrderUptoRow.holds Try.pinned (OpenSpec.upto linkOrderSpec)

/-- 'rollbacknetlaw15.LinkWindow', WHERE WHAT IT READS IS OF BULK AT MOST 1048576: true; the input reads as it did. -/
def linkWindowUptoRow : OpenClaim := { program := "ytafgacfbplilpaa", sum := "9f8666d8190d5c05bc6c2178d77b2db153d039db4731ea114dc7b41d991f6c2a", func := "rollbacknet/rollbacknetlaw15.LinkWindow", spec := "linkWindow", apart := false, narrowed := true }
def LinkWindowUptoSaid : Prop := linkWindowUptoRow.holds Try.pinned (OpenSpec.upto linkWindowSpec)

/-- 'rollbacknetlaw15.LinkIgnores', WHERE WHAT IT READS IS OF BULK AT MOST 1048576: true; the input reads as it did. -/
def linkIgnoresUptoRow : OpenClaim := { program := "ytafgacfbplilpaa", sum := "9f8666d8190d5c05bc6c2178d77b2db153d039db4731ea114dc7b41d991f6c2a", func := "rollbacknet/rollbacknetlaw15.LinkIgnores", spec := "linkIgnores", apart := false, narrowed := true }
def LinkIgnoresUptoSaid : Prop := linkIgnoresUptoRow.holds Try.pinned (OpenSpec.upto linkIgnoresSpec)

/-- 'rollbacknetlaw37.LogcollectTwice', WHERE WHAT IT READS IS OF BULK AT MOST 1048576: true; the input reads as it did. -/
def logcollectTwiceUptoRow : OpenClaim := { program := "ytafgacfbplilpaa", sum := "9f8666d8190d5c05bc6c2178d77b2db153d039db4731ea114dc7b41d991f6c2a", func := "rollbacknet/rollbacknetlaw37.LogcollectTwice", spec := "logcollectTwice", apart := false, narrowed := true }
def LogcollectTwiceUptoSaid : Prop := logcollectTwiceUptoRow.holds Try.pinned (OpenSpec.upto logcollectTwiceSpec)

/-- 'rollbacknetlaw15.LinkPlays', WHERE WHAT IT READS IS OF BULK AT MOST 1048576: true; the input reads as it did. -/
def linkPlaysUptoRow : OpenClaim := { program := "ytafgacfbplilpaa", sum := "9f8666d8190d5c05bc6c2178d77b2db153d039db4731ea114dc7b41d991f6c2a", func := "rollbacknet/rollbacknetlaw15.LinkPlays", spec := "linkPlays", apart := false, narrowed := true }
def LinkPlaysUptoSaid : Prop := linkPlaysUptoRow.holds Try.pinned (OpenSpec.upto linkPlaysSpec)

/-- 'rollbacknetlaw15.LinkEnds', WHERE WHAT IT READS IS OF BULK AT MOST 1048576: true; the input reads as it did. -/
def linkEndsUptoRow : OpenClaim := { program := "ytafgacfbplilpaa", sum := "9f8666d8190d5c05bc6c2178d77b2db153d039db4731ea114dc7b41d991f6c2a", func := "rollbacknet/rollbacknetlaw15.LinkEnds", spec := "linkEnds", apart := false, narrowed := true }
def LinkEndsUptoSaid : Prop := linkEndsUptoRow.holds Try.pinned (OpenSpec.upto linkEndsSpec)

end Rows
end Go.Proofs.Ytafgacfbplilpaa
