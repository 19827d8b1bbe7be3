/-
  NARROWER THAN 'FOR EVERY INPUT', by the rows' own cells (each row's printed sentence says how): LogcollectSends: laid · LogcollectShrinks: laid · LogcollectSuffices: laid.
  DERIVED. THE GIVEN ROWS OF THIS SEAT. 3 by the template 'for every input the law returns true; each argument reads behind the call as it read before'; 0 by the template 'total and deterministic' (their statements: YtdhklhebgclcoaaGreatDoorTotals.lean).
  GIVEN WITH THE SEED: the statements are not yours to turn. If you find one false, say at which input.
  Laid BY PROGRAM, IN A SANDBOX (cutbox-rows.mjs): the forced cells as the released guide's own fill.sh prints them over the translation b8933204e7dc77a5… (all of the seat's roots in one cut). By AI agents, Wed Nov 11 2026. No macro, syntax, notation, axiom, sorry.
-/
import Derived.Test.YtdhklhebgclcoaaGreatDoorChecked
import GoSem.Claim
import GoSem.ClaimJoined
import GoSem.ClaimMapViews
import Derived.JoinedTies
import Derived.KernelRfl
namespace Go.Proofs.YtdhklhebgclcoaaGreatDoor
/- THE CELL 'sum', in the pinned program and in every row, IS THE sha256 OF THE DUMP (.gsa) THAT YtdhklhebgclcoaaGreatDoorProg.lean LOADS. Nothing in Lean hashes anything: it is a label: what it is worth is what the hold of that sum in a sandbox is worth. -/
noncomputable def Tryz.pinned : Pinned := { name := "ytdhklhebgclcoaagreatdoor", sum := "b8933204e7dc77a5962fcf9c22697c435738879d25b010de2ab55c1e62434521", checked := Tryz.checked }
namespace Rows
def none {H : Type} : Left H := { results := [], args := [] }

/- WHAT THE LISTED PACKAGE-LEVEL VARIABLES READ AS WHEN THE CALL BEGINS. Each datum BY PROGRAM (the guide's laid-datum.mjs) off the statement by which the dump's own 'gosem.cut.vars' lays the variable. In a bare row this is a premise. The card (YtdhklhebgclcoaaGreatDoorCards.lean) ties it to the program's text. -/
def laid_rollbacknet_rollbacknetmake_scalars {H : Type} : DataW H := .agg [.lit (.string [120]), .lit (.string [121]), .lit (.string [122])]
def laid_rollbacknet_rollbacknetmake_arrays {H : Type} : DataW H := .agg [.lit (.string [97]), .lit (.string [98])]

/-- 'rollbacknetlaw37.LogcollectSends': WHATEVER THE INPUT: true; the input reads as it did. -/
def logcollectSendsSpec : ChangeSpec := { name := "logcollectSends", fn := fun _ => fun
  | [d1, d2, d3] => { results := [.lit (.bool true)], args := [d1, d2, d3] }
  | _ => none }
def logcollectSendsRow : OpenClaim := { program := "ytdhklhebgclcoaagreatdoor", sum := "b8933204e7dc77a5962fcf9c22697c435738879d25b010de2ab55c1e62434521", func := "rollbacknet/rollbacknetlaw37.LogcollectSends", spec := "logcollectSends", recurses := true, named := ["rollbacknet/rollbacknetmake.scalars", "rollbacknet/rollbacknetmake.arrays"], apart := false, laid := [("rollbacknet/rollbacknetmake.scalars", laid_rollbacknet_rollbacknetmake_scalars), ("rollbacknet/rollbacknetmake.arrays", laid_rollbacknet_rollbacknetmake_arrays)] }
def LogcollectSendsSaid : Prop := logcollectSendsRow.holds Tryz.pinned (OpenSpec.ofChange logcollectSendsSpec)

/-- ITS FALSE NEIGHBOUR: 'it returns false'. Refute it at one input. -/
def logcollectSendsWrong : ChangeSpec := { name := "logcollectSends", fn := fun _ => fun
  | [d1, d2, d3] => { results := [.lit (.bool false)], args := [d1, d2, d3] }
  | _ => none }
def LogcollectSendsWrongFalsely : Prop := logcollectSendsRow.holds Tryz.pinned (OpenSpec.ofChange logcollectSendsWrong)

/-- 'rollbacknetlaw37.LogcollectShrinks': WHATEVER THE INPUT: true; the input reads as it did. -/
def logcollectShrinksSpec : ChangeSpec := { name := "logcollectShrinks", fn := fun _ => fun
  | [d] => { results := [.lit (.bool true)], args := [d] }
  | _ => none }
def logcollectShrinksRow : OpenClaim := { program := "ytdhklhebgclcoaagreatdoor", sum := "b8933204e7dc77a5962fcf9c22697c435738879d25b010de2ab55c1e62434521", func := "rollbacknet/rollbacknetlaw37.LogcollectShrinks", spec := "logcollectShrinks", recurses := true, named := ["rollbacknet/rollbacknetmake.scalars", "rollbacknet/rollbacknetmake.arrays"], apart := false, laid := [("rollbacknet/rollbacknetmake.scalars", laid_rollbacknet_rollbacknetmake_scalars), ("rollbacknet/rollbacknetmake.arrays", laid_rollbacknet_rollbacknetmake_arrays)] }
def LogcollectShrinksSaid : Prop := logcollectShrinksRow.holds Tryz.pinned (OpenSpec.ofChange logcollectShrinksSpec)

/-- ITS FALSE NEIGHBOUR: 'it returns false'. Refute it at one input. -/
def logcollectShrinksWrong : ChangeSpec := { name := "logcollectShrinks", fn := fun _ => fun
  | [d] => { results := [.lit (.bool false)], args := [d] }
  | _ => none }
def LogcollectShrinksWrongFalsely : Prop := logcollectShrinksRow.holds Tryz.pinned (OpenSpec.ofChange logcollectShrinksWrong)

/-- 'rollbacknetlaw37.LogcollectSuffices': WHATEVER THE INPUT: true; the input reads as it did. -/
def logcollectSufficesSpec : ChangeSpec := { name := "logcollectSuffices", fn := fun _ => fun
  | [d] => { results := [.lit (.bool true)], args := [d] }
  | _ => none }
def logcollectSufficesRow : OpenClaim := { program := "ytdhklhebgclcoaagreatdoor", sum := "b8933204e7dc77a5962fcf9c22697c435738879d25b010de2ab55c1e62434521", func := "rollbacknet/rollbacknetlaw37.LogcollectSuffices", spec := "logcollectSuffices", unfollowed := true, recurses := true, named := ["rollbacknet/rollbacknetmake.scalars", "rollbacknet/rollbacknetmake.arrays"], apart := false, laid := [("rollbacknet/rollbacknetmake.scalars", laid_rollbacknet_rollbacknetmake_scalars), ("rollbacknet/rollbacknetmake.arrays", laid_rollbacknet_rollbacknetmake_arrays)] }
def LogcollectSufficesSaid : Prop := logcollectSufficesRow.holds Tryz.pinned (OpenSpec.ofChange logcollectSufficesSpec)

/-- ITS FALSE NEIGHBOUR: 'it returns false'. Refute it at one input. -/
def logcollectSufficesWrong : ChangeSpec := { name := "logcollectSuffices", fn := fun _ => fun
  | [d] => { results := [.lit (.bool false)], args := [d] }
  | _ => none }
def LogcollectSufficesWrongFalsely : Prop := logcollectSufficesRow.holds Tryz.pinned (OpenSpec.ofChange logcollectSufficesWrong)

/- THE SECOND FORM. 'bulk': how many values and letters a reading holds, each counted each time it is reached (what is shared counts as often as it is met; a slice's spare places count too). A statement '..UptoSaid' is the law's where the arguments, and the package variables that the reading takes, are together of bulk at most 1048576: NARROWER than '..Said'. Prove '..Said' where nothing that the law and all that it calls make is longer than what came in: it says more and counts as full. Else prove '..UptoSaid'. A law counts once. -/
mutual
def uptoBulk {H : Type} : DataW H → Nat
  | .lit (.string bytes) => bytes.length + 1
  | .lit _ => 1
  | .nil => 1
  | .ptr d => uptoBulk d + 1
  | .slice elems spare => uptoBulkAll elems + uptoBulkAll spare + 1
  | .agg parts => uptoBulkAll parts + 1
  | .iface _ d => uptoBulk d + 1
  | .map entries => uptoBulkEntries entries + 1
  | .held _ => 1
def uptoBulkAll {H : Type} : List (DataW H) → Nat
  | [] => 0
  | d :: r => uptoBulk d + uptoBulkAll r
def uptoBulkEntries {H : Type} : List (Lit × DataW H) → Nat
  | [] => 0
  | x :: r => uptoBulkEntry x + uptoBulkEntries r
def uptoBulkEntry {H : Type} : Lit × DataW H → Nat
  | (.string bytes, d) => bytes.length + uptoBulk d + 1
  | (_, d) => uptoBulk d + 1
 end
def uptoSmall : (H : Type) → List (DataW H) → Bool := fun _ ds => decide (uptoBulkAll ds ≤ 1048576)
def OpenSpec.upto (s : _root_.Go.ChangeSpec) : _root_.Go.OpenSpec := { _root_.Go.OpenSpec.ofChange s with cond := some uptoSmall }

/-- 'rollbacknetlaw37.LogcollectSends', WHERE WHAT IT READS IS OF BULK AT MOST 1048576: true; the input reads as it did. -/
def logcollectSendsUptoRow : OpenClaim := { program := "ytdhklhebgclcoaagreatdoor", sum := "b8933204e7dc77a5962fcf9c22697c435738879d25b010de2ab55c1e62434521", func := "rollbacknet/rollbacknetlaw37.LogcollectSends", spec := "logcollectSends", recurses := true, named := ["rollbacknet/rollbacknetmake.scalars", "rollbacknet/rollbacknetmake.arrays"], apart := false, laid := [("rollbacknet/rollbacknetmake.scalars", laid_rollbacknet_rollbacknetmake_scalars), ("rollbacknet/rollbacknetmake.arrays", laid_rollbacknet_rollbacknetmake_arrays)], narrowed := true }
def LogcollectSendsUptoSaid : Prop := logcollectSendsUptoRow.holds Tryz.pinned (OpenSpec.upto logcollectSendsSpec)

/-- 'rollbacknetlaw37.LogcollectShrinks', WHERE WHAT IT READS IS OF BULK AT MOST 1048576: true; the input reads as it did. -/
def logcollectShrinksUptoRow : OpenClaim := { program := "ytdhklhebgclcoaagreatdoor", sum := "b8933204e7dc77a5962fcf9c22697c435738879d25b010de2ab55c1e62434521", func := "rollbacknet/rollbacknetlaw37.LogcollectShrinks", spec := "logcollectShrinks", recurses := true, named := ["rollbacknet/rollbacknetmake.scalars", "rollbacknet/rollbacknetmake.arrays"], apart := false, laid := [("rollbacknet/rollbacknetmake.scalars", laid_rollbacknet_rollbacknetmake_scalars), ("rollbacknet/rollbacknetmake.arrays", laid_rollbacknet_rollbacknetmake_arrays)], narrowed := true }
def LogcollectShrinksUptoSaid : Prop := logcollectShrinksUptoRow.holds Tryz.pinned (OpenSpec.upto logcollectShrinksSpec)

/-- 'rollbacknetlaw37.LogcollectSuffices', WHERE WHAT IT READS IS OF BULK AT MOST 1048576: true; the input reads as it did. -/
def logcollectSufficesUptoRow : OpenClaim := { program := "ytdhklhebgclcoaagreatdoor", sum := "b8933204e7dc77a5962fcf9c22697c435738879d25b010de2ab55c1e62434521", func := "rollbacknet/rollbacknetlaw37.LogcollectSuffices", spec := "logcollectSuffices", unfollowed := true, recurses := true, named := ["rollbacknet/rollbacknetmake.scalars", "rollbacknet/rollbacknetmake.arrays"], apart := false, laid := [("rollbacknet/rollbacknetmake.scalars", laid_rollbacknet_rollbacknetmake_scalars), ("rollbacknet/rollbacknetmake.arrays", laid_rollbacknet_rollbacknetmake_arrays)], narrowed := true }
def LogcollectSufficesUptoSaid : Prop := logcollectSufficesUptoRow.holds Tryz.pinned (OpenSpec.upto logcollectSufficesSpec)

end Rows
end Go.Proofs.YtdhklhebgclcoaaGreatDoor
