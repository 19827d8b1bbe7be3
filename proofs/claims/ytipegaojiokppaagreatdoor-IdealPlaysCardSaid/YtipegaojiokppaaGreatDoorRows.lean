/-
  NARROWER THAN 'FOR EVERY INPUT', by the rows' own cells (each row's printed sentence says how): IdealPlays: laid · IdealOutputs: laid · IdealPrefixes: laid · IdealExchanges: laid · IdealDelivers: laid · IdealReplays: laid.
  DERIVED. THE GIVEN ROWS OF THIS SEAT. 6 by the template 'for every input the law returns true; each argument reads behind the call as it read before'; 0 by the template 'total and deterministic' (their statements: YtipegaojiokppaaGreatDoorTotals.lean).
  GIVEN WITH THE SEED: the statements are not yours to turn. If you find one false, say at which input.
  Laid BY PROGRAM, IN A SANDBOX (cutbox-rows.mjs): the forced cells as the released guide's own fill.sh prints them over the translation 25e5a3b52b618ce8… (all of the seat's roots in one cut). By AI agents, Wed Nov 11 2026. No macro, syntax, notation, axiom, sorry.
-/
import Derived.Test.YtipegaojiokppaaGreatDoorChecked
import GoSem.Claim
import GoSem.ClaimJoined
import GoSem.ClaimMapViews
import Derived.JoinedTies
import Derived.KernelRfl
namespace Go.Proofs.YtipegaojiokppaaGreatDoor
/- THE CELL 'sum', in the pinned program and in every row, IS THE sha256 OF THE DUMP (.gsa) THAT YtipegaojiokppaaGreatDoorProg.lean LOADS. Nothing in Lean hashes anything: it is a label: what it is worth is what the hold of that sum in a sandbox is worth. -/
noncomputable def Tryz.pinned : Pinned := { name := "ytipegaojiokppaagreatdoor", sum := "25e5a3b52b618ce8a6b3593dad14c2a69f3172b48d19a70aed7007a0bd947c7e", checked := Tryz.checked }
namespace Rows
def none {H : Type} : Left H := { results := [], args := [] }

/- WHAT THE LISTED PACKAGE-LEVEL VARIABLES READ AS WHEN THE CALL BEGINS. Each datum BY PROGRAM (the guide's laid-datum.mjs) off the statement by which the dump's own 'gosem.cut.vars' lays the variable. In a bare row this is a premise. The card (YtipegaojiokppaaGreatDoorCards.lean) ties it to the program's text. -/
def laid_rollbacknet_rollbacknetmake_scalars {H : Type} : DataW H := .agg [.lit (.string [120]), .lit (.string [121]), .lit (.string [122])]
def laid_rollbacknet_rollbacknetmake_arrays {H : Type} : DataW H := .agg [.lit (.string [97]), .lit (.string [98])]

/-- 'rollbacknetlaw40.IdealPlays': WHATEVER THE INPUT: true; the input reads as it did. -/
def idealPlaysSpec : ChangeSpec := { name := "idealPlays", fn := fun _ => fun
  | [d1, d2] => { results := [.lit (.bool true)], args := [d1, d2] }
  | _ => none }
def idealPlaysRow : OpenClaim := { program := "ytipegaojiokppaagreatdoor", sum := "25e5a3b52b618ce8a6b3593dad14c2a69f3172b48d19a70aed7007a0bd947c7e", func := "rollbacknet/rollbacknetlaw40.IdealPlays", spec := "idealPlays", unfollowed := true, recurses := true, named := ["rollbacknet/rollbacknetmake.scalars", "rollbacknet/rollbacknetmake.arrays"], apart := false, laid := [("rollbacknet/rollbacknetmake.scalars", laid_rollbacknet_rollbacknetmake_scalars), ("rollbacknet/rollbacknetmake.arrays", laid_rollbacknet_rollbacknetmake_arrays)] }
def IdealPlaysSaid : Prop := idealPlaysRow.holds Tryz.pinned (OpenSpec.ofChange idealPlaysSpec)

/-- ITS FALSE NEIGHBOUR: 'it returns false'. Refute it at one input. -/
def idealPlaysWrong : ChangeSpec := { name := "idealPlays", fn := fun _ => fun
  | [d1, d2] => { results := [.lit (.bool false)], args := [d1, d2] }
  | _ => none }
def IdealPlaysWrongFalsely : Prop := idealPlaysRow.holds Tryz.pinned (OpenSpec.ofChange idealPlaysWrong)

/-- 'rollbacknetlaw40.IdealOutputs': WHATEVER THE INPUT: true; the input reads as it did. -/
def idealOutputsSpec : ChangeSpec := { name := "idealOutputs", fn := fun _ => fun
  | [d] => { results := [.lit (.bool true)], args := [d] }
  | _ => none }
def idealOutputsRow : OpenClaim := { program := "ytipegaojiokppaagreatdoor", sum := "25e5a3b52b618ce8a6b3593dad14c2a69f3172b48d19a70aed7007a0bd947c7e", func := "rollbacknet/rollbacknetlaw40.IdealOutputs", spec := "idealOutputs", unfollowed := true, recurses := true, named := ["rollbacknet/rollbacknetmake.scalars", "rollbacknet/rollbacknetmake.arrays"], apart := false, laid := [("rollbacknet/rollbacknetmake.scalars", laid_rollbacknet_rollbacknetmake_scalars), ("rollbacknet/rollbacknetmake.arrays", laid_rollbacknet_rollbacknetmake_arrays)] }
def IdealOutputsSaid : Prop := idealOutputsRow.holds Tryz.pinned (OpenSpec.ofChange idealOutputsSpec)

/-- ITS FALSE NEIGHBOUR: 'it returns false'. Refute it at one input. -/
def idealOutputsWrong : ChangeSpec := { name := "idealOutputs", fn := fun _ => fun
  | [d] => { results := [.lit (.bool false)], args := [d] }
  | _ => none }
def IdealOutputsWrongFalsely : Prop := idealOutputsRow.holds Tryz.pinned (OpenSpec.ofChange idealOutputsWrong)

/-- 'rollbacknetlaw40.IdealPrefixes': WHATEVER THE INPUT: true; the input reads as it did. -/
def idealPrefixesSpec : ChangeSpec := { name := "idealPrefixes", fn := fun _ => fun
  | [d1, d2] => { results := [.lit (.bool true)], args := [d1, d2] }
  | _ => none }
def idealPrefixesRow : OpenClaim := { program := "ytipegaojiokppaagreatdoor", sum := "25e5a3b52b618ce8a6b3593dad14c2a69f3172b48d19a70aed7007a0bd947c7e", func := "rollbacknet/rollbacknetlaw40.IdealPrefixes", spec := "idealPrefixes", unfollowed := true, recurses := true, named := ["rollbacknet/rollbacknetmake.scalars", "rollbacknet/rollbacknetmake.arrays"], apart := false, laid := [("rollbacknet/rollbacknetmake.scalars", laid_rollbacknet_rollbacknetmake_scalars), ("rollbacknet/rollbacknetmake.arrays", laid_rollbacknet_rollbacknetmake_arrays)] }
def IdealPrefixesSaid : Prop := idealPrefixesRow.holds Tryz.pinned (OpenSpec.ofChange idealPrefixesSpec)

/-- ITS FALSE NEIGHBOUR: 'it returns false'. Refute it at one input. -/
def idealPrefixesWrong : ChangeSpec := { name := "idealPrefixes", fn := fun _ => fun
  | [d1, d2] => { results := [.lit (.bool false)], args := [d1, d2] }
  | _ => none }
def IdealPrefixesWrongFalsely : Prop := idealPrefixesRow.holds Tryz.pinned (OpenSpec.ofChange idealPrefixesWrong)

/-- 'rollbacknetlaw40.IdealExchanges': WHATEVER THE INPUT: true; the input reads as it did. -/
def idealExchangesSpec : ChangeSpec := { name := "idealExchanges", fn := fun _ => fun
  | [d1, d2] => { results := [.lit (.bool true)], args := [d1, d2] }
  | _ => none }
def idealExchangesRow : OpenClaim := { program := "ytipegaojiokppaagreatdoor", sum := "25e5a3b52b618ce8a6b3593dad14c2a69f3172b48d19a70aed7007a0bd947c7e", func := "rollbacknet/rollbacknetlaw40.IdealExchanges", spec := "idealExchanges", unfollowed := true, recurses := true, named := ["rollbacknet/rollbacknetmake.scalars", "rollbacknet/rollbacknetmake.arrays"], apart := false, laid := [("rollbacknet/rollbacknetmake.scalars", laid_rollbacknet_rollbacknetmake_scalars), ("rollbacknet/rollbacknetmake.arrays", laid_rollbacknet_rollbacknetmake_arrays)] }
def IdealExchangesSaid : Prop := idealExchangesRow.holds Tryz.pinned (OpenSpec.ofChange idealExchangesSpec)

/-- ITS FALSE NEIGHBOUR: 'it returns false'. Refute it at one input. -/
def idealExchangesWrong : ChangeSpec := { name := "idealExchanges", fn := fun _ => fun
  | [d1, d2] => { results := [.lit (.bool false)], args := [d1, d2] }
  | _ => none }
def IdealExchangesWrongFalsely : Prop := idealExchangesRow.holds Tryz.pinned (OpenSpec.ofChange idealExchangesWrong)

/-- 'rollbacknetlaw40.IdealDelivers': WHATEVER THE INPUT: true; the input reads as it did. -/
def idealDeliversSpec : ChangeSpec := { name := "idealDelivers", fn := fun _ => fun
  | [d1, d2] => { results := [.lit (.bool true)], args := [d1, d2] }
  | _ => none }
def idealDeliversRow : OpenClaim := { program := "ytipegaojiokppaagreatdoor", sum := "25e5a3b52b618ce8a6b3593dad14c2a69f3172b48d19a70aed7007a0bd947c7e", func := "rollbacknet/rollbacknetlaw40.IdealDelivers", spec := "idealDelivers", unfollowed := true, recurses := true, named := ["rollbacknet/rollbacknetmake.scalars", "rollbacknet/rollbacknetmake.arrays"], apart := false, laid := [("rollbacknet/rollbacknetmake.scalars", laid_rollbacknet_rollbacknetmake_scalars), ("rollbacknet/rollbacknetmake.arrays", laid_rollbacknet_rollbacknetmake_arrays)] }
def IdealDeliversSaid : Prop := idealDeliversRow.holds Tryz.pinned (OpenSpec.ofChange idealDeliversSpec)

/-- ITS FALSE NEIGHBOUR: 'it returns false'. Refute it at one input. -/
def idealDeliversWrong : ChangeSpec := { name := "idealDelivers", fn := fun _ => fun
  | [d1, d2] => { results := [.lit (.bool false)], args := [d1, d2] }
  | _ => none }
def IdealDeliversWrongFalsely : Prop := idealDeliversRow.holds Tryz.pinned (OpenSpec.ofChange idealDeliversWrong)

/-- 'rollbacknetlaw40.IdealReplays': WHATEVER THE INPUT: true; the input reads as it did. -/
def idealReplaysSpec : ChangeSpec := { name := "idealReplays", fn := fun _ => fun
  | [d] => { results := [.lit (.bool true)], args := [d] }
  | _ => none }
def idealReplaysRow : OpenClaim := { program := "ytipegaojiokppaagreatdoor", sum := "25e5a3b52b618ce8a6b3593dad14c2a69f3172b48d19a70aed7007a0bd947c7e", func := "rollbacknet/rollbacknetlaw40.IdealReplays", spec := "idealReplays", unfollowed := true, recurses := true, named := ["rollbacknet/rollbacknetmake.scalars", "rollbacknet/rollbacknetmake.arrays"], apart := false, laid := [("rollbacknet/rollbacknetmake.scalars", laid_rollbacknet_rollbacknetmake_scalars), ("rollbacknet/rollbacknetmake.arrays", laid_rollbacknet_rollbacknetmake_arrays)] }
def IdealReplaysSaid : Prop := idealReplaysRow.holds Tryz.pinned (OpenSpec.ofChange idealReplaysSpec)

/-- ITS FALSE NEIGHBOUR: 'it returns false'. Refute it at one input. -/
def idealReplaysWrong : ChangeSpec := { name := "idealReplays", fn := fun _ => fun
  | [d] => { results := [.lit (.bool false)], args := [d] }
  | _ => none }
def IdealReplaysWrongFalsely : Prop := idealReplaysRow.holds Tryz.pinned (OpenSpec.ofChange idealReplaysWrong)

/- THE SECOND FORM. 'bulk': how many values and letters a reading holds, each counted each time it is reached (what is shared counts as often as it is met; a slice's spare places count too). A statement '..UptoSaid' is the law's where the arguments, and the package variables that the reading takes, are together of bulk at most 1048576: NARROWER than '..Said'. Prove '..Said' where nothing that the law and all that it calls make is longer than what came in: it says more and counts as full. Else prove '..UptoSaid'. A law counts once. -/
mutual
def uptoBulk {H : Type} : DataW H → Nat
  | .lit (.string bytes) => bytes.length + 1
  | .lit _ => 1
  | .nil => 1
  | .ptr d => uptoBulk d + 1
  | .slice elems spare => uptoBulkAll elems + uptoBulkAll spare + 1
  | .agg parts => uptoBulkAll parts + 1
  | .iface _ d => uptoBulk d + 1
  | .map entries => uptoBulkEntries entries + 1
  | .held _ => 1
def uptoBulkAll {H : Type} : List (DataW H) → Nat
  | [] => 0
  | d :: r => uptoBulk d + uptoBulkAll r
def uptoBulkEntries {H : Type} : List (Lit × DataW H) → Nat
  | [] => 0
  | x :: r => uptoBulkEntry x + uptoBulkEntries r
def uptoBulkEntry {H : Type} : Lit × DataW H → Nat
  | (.string bytes, d) => bytes.length + uptoBulk d + 1
  | (_, d) => uptoBulk d + 1
 end
def uptoSmall : (H : Type) → List (DataW H) → Bool := fun _ ds => decide (uptoBulkAll ds ≤ 1048576)
def OpenSpec.upto (s : _root_.Go.ChangeSpec) : _root_.Go.OpenSpec := { _root_.Go.OpenSpec.ofChange s with cond := some uptoSmall }

/-- 'rollbacknetlaw40.IdealPlays', WHERE WHAT IT READS IS OF BULK AT MOST 1048576: true; the input reads as it did. -/
def idealPlaysUptoRow : OpenClaim := { program := "ytipegaojiokppaagreatdoor", sum := "25e5a3b52b618ce8a6b3593dad14c2a69f3172b48d19a70aed7007a0bd947c7e", func := "rollbacknet/rollbacknetlaw40.IdealPlays", spec := "idealPlays", unfollowed := true, recurses := true, named := ["rollbacknet/rollbacknetmake.scalars", "rollbacknet/rollbacknetmake.arrays"], apart := false, laid := [("rollbacknet/rollbacknetmake.scalars", laid_rollbacknet_rollbacknetmake_scalars), ("rollbacknet/rollbacknetmake.arrays", laid_rollbacknet_rollbacknetmake_arrays)], narrowed := true }
def IdealPlaysUptoSaid : Prop := idealPlaysUptoRow.holds Tryz.pinned (OpenSpec.upto idealPlaysSpec)

/-- 'rollbacknetlaw40.IdealOutputs', WHERE WHAT IT READS IS OF BULK AT MOST 1048576: true; the input reads as it did. -/
def idealOutputsUptoRow : OpenClaim := { program := "ytipegaojiokppaagreatdoor", sum := "25e5a3b52b618ce8a6b3593dad14c2a69f3172b48d19a70aed7007a0bd947c7e", func := "rollbacknet/rollbacknetlaw40.IdealOutputs", spec := "idealOutputs", unfollowed := true, recurses := true, named := ["rollbacknet/rollbacknetmake.scalars", "rollbacknet/rollbacknetmake.arrays"], apart := false, laid := [("rollbacknet/rollbacknetmake.scalars", laid_rollbacknet_rollbacknetmake_scalars), ("rollbacknet/rollbacknetmake.arrays", laid_rollbacknet_rollbacknetmake_arrays)], narrowed := true }
def IdealOutputsUptoSaid : Prop := idealOutputsUptoRow.holds Tryz.pinned (OpenSpec.upto idealOutputsSpec)

/-- 'rollbacknetlaw40.IdealPrefixes', WHERE WHAT IT READS IS OF BULK AT MOST 1048576: true; the input reads as it did. -/
def idealPrefixesUptoRow : OpenClaim := { program := "ytipegaojiokppaagreatdoor", sum := "25e5a3b52b618ce8a6b3593dad14c2a69f3172b48d19a70aed7007a0bd947c7e", func := "rollbacknet/rollbacknetlaw40.IdealPrefixes", spec := "idealPrefixes", unfollowed := true, recurses := true, named := ["rollbacknet/rollbacknetmake.scalars", "rollbacknet/rollbacknetmake.arrays"], apart := false, laid := [("rollbacknet/rollbacknetmake.scalars", laid_rollbacknet_rollbacknetmake_scalars), ("rollbacknet/rollbacknetmake.arrays", laid_rollbacknet_rollbacknetmake_arrays)], narrowed := true }
def IdealPrefixesUptoSaid : Prop := idealPrefixesUptoRow.holds Tryz.pinned (OpenSpec.upto idealPrefixesSpec)

/-- 'rollbacknetlaw40.IdealExchanges', WHERE WHAT IT READS IS OF BULK AT MOST 1048576: true; the input reads as it did. -/
def idealExchangesUptoRow : OpenClaim := { program := "ytipegaojiokppaagreatdoor", sum := "25e5a3b52b618ce8a6b3593dad14c2a69f3172b48d19a70aed7007a0bd947c7e", func := "rollbacknet/rollbacknetlaw40.IdealExchanges", spec := "idealExchanges", unfollowed := true, recurses := true, named := ["rollbacknet/rollbacknetmake.scalars", "rollbacknet/rollbacknetmake.arrays"], apart := false, laid := [("rollbacknet/rollbacknetmake.scalars", laid_rollbacknet_rollbacknetmake_scalars), ("rollbacknet/rollbacknetmake.arrays", laid_rollbacknet_rollbacknetmake_arrays)], narrowed := true }
def IdealExchangesUptoSaid : Prop := idealExchangesUptoRow.holds Tryz.pinned (OpenSpec.upto idealExchangesSpec)

/-- 'rollbacknetlaw40.IdealDelivers', WHERE WHAT IT READS IS OF BULK AT MOST 1048576: true; the input reads as it did. -/
def idealDeliversUptoRow : OpenClaim := { program := "ytipegaojiokppaagreatdoor", sum := "25e5a3b52b618ce8a6b3593dad14c2a69f3172b48d19a70aed7007a0bd947c7e", func := "rollbacknet/rollbacknetlaw40.IdealDelivers", spec := "idealDelivers", unfollowed := true, recurses := true, named := ["rollbacknet/rollbacknetmake.scalars", "rollbacknet/rollbacknetmake.arrays"], apart := false, laid := [("rollbacknet/rollbacknetmake.scalars", laid_rollbacknet_rollbacknetmake_scalars), ("rollbacknet/rollbacknetmake.arrays", laid_rollbacknet_rollbacknetmake_arrays)], narrowed := true }
def IdealDeliversUptoSaid : Prop := idealDeliversUptoRow.holds Tryz.pinned (OpenSpec.upto idealDeliversSpec)

/-- 'rollbacknetlaw40.IdealReplays', WHERE WHAT IT READS IS OF BULK AT MOST 1048576: true; the input reads as it did. -/
def idealReplaysUptoRow : OpenClaim := { program := "ytipegaojiokppaagreatdoor", sum := "25e5a3b52b618ce8a6b3593dad14c2a69f3172b48d19a70aed7007a0bd947c7e", func := "rollbacknet/rollbacknetlaw40.IdealReplays", spec := "idealReplays", unfollowed := true, recurses := true, named := ["rollbacknet/rollbacknetmake.scalars", "rollbacknet/rollbacknetmake.arrays"], apart := false, laid := [("rollbacknet/rollbacknetmake.scalars", laid_rollbacknet_rollbacknetmake_scalars), ("rollbacknet/rollbacknetmake.arrays", laid_rollbacknet_rollbacknetmake_arrays)], narrowed := true }
def IdealReplaysUptoSaid : Prop := idealReplaysUptoRow.holds Tryz.pinned (OpenSpec.upto idealReplaysSpec)

end Rows
end Go.Proofs.YtipegaojiokppaaGreatDoor
