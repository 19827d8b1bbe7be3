/-
  NARROWER THAN 'FOR EVERY INPUT', by the rows' own cells (each row's printed sentence says how): ReplayStrips: laid · ProcessNumbers: laid · ProcessStates: laid · ProcessLabels: laid · ProcessSame: laid · ProcessPrefixes: laid · ProcessAsks: laid · ReplayGaps: laid · ReplayReturns: laid.
  DERIVED. THE GIVEN ROWS OF THIS SEAT. 9 by the template 'for every input the law returns true; each argument reads behind the call as it read before'; 0 by the template 'total and deterministic' (their statements: YtecckbkobkfnmaaDoorTotals.lean).
  GIVEN WITH THE SEED: the statements are not yours to turn. If you find one false, say at which input.
  Laid BY PROGRAM, IN A SANDBOX (cutbox-rows.mjs): the forced cells as the released guide's own fill.sh prints them over the translation d0f6d3a8494172bd… (all of the seat's roots in one cut). By AI agents, Wed Nov 11 2026. No macro, syntax, notation, axiom, sorry.
-/
import Derived.Test.YtecckbkobkfnmaaDoorChecked
import GoSem.Claim
import GoSem.ClaimJoined
import GoSem.ClaimMapViews
import Derived.JoinedTies
import Derived.KernelRfl
namespace Go.Proofs.YtecckbkobkfnmaaDoor
/- THE CELL 'sum', in the pinned program and in every row, IS THE sha256 OF THE DUMP (.gsa) THAT YtecckbkobkfnmaaDoorProg.lean LOADS. Nothing in Lean hashes anything: it is a label: what it is worth is what the hold of that sum in a sandbox is worth. -/
noncomputable def Tryd.pinned : Pinned := { name := "ytecckbkobkfnmaadoor", sum := "d0f6d3a8494172bdf20863d02e98e0f2f1b485e93d5886963cce93f111e79bbd", checked := Tryd.checked }
namespace Rows
def none {H : Type} : Left H := { results := [], args := [] }

/- WHAT THE LISTED PACKAGE-LEVEL VARIABLES READ AS WHEN THE CALL BEGINS. Each datum BY PROGRAM (the guide's laid-datum.mjs) off the statement by which the dump's own 'gosem.cut.vars' lays the variable. In a bare row this is a premise. The card (YtecckbkobkfnmaaDoorCards.lean) ties it to the program's text. -/
def laid_rollbacknet_rollbacknetmake_scalars {H : Type} : DataW H := .agg [.lit (.string [120]), .lit (.string [121]), .lit (.string [122])]
def laid_rollbacknet_rollbacknetmake_arrays {H : Type} : DataW H := .agg [.lit (.string [97]), .lit (.string [98])]

/-- 'rollbacknetlaw34.ReplayStrips': WHATEVER THE INPUT: true; the input reads as it did. -/
def replayStripsSpec : ChangeSpec := { name := "replayStrips", fn := fun _ => fun
  | [d1, d2] => { results := [.lit (.bool true)], args := [d1, d2] }
  | _ => none }
def replayStripsRow : OpenClaim := { program := "ytecckbkobkfnmaadoor", sum := "d0f6d3a8494172bdf20863d02e98e0f2f1b485e93d5886963cce93f111e79bbd", func := "rollbacknet/rollbacknetlaw34.ReplayStrips", spec := "replayStrips", recurses := true, named := ["rollbacknet/rollbacknetmake.scalars", "rollbacknet/rollbacknetmake.arrays"], apart := false, laid := [("rollbacknet/rollbacknetmake.scalars", laid_rollbacknet_rollbacknetmake_scalars), ("rollbacknet/rollbacknetmake.arrays", laid_rollbacknet_rollbacknetmake_arrays)] }
def ReplayStripsSaid : Prop := replayStripsRow.holds Tryd.pinned (OpenSpec.ofChange replayStripsSpec)

/-- ITS FALSE NEIGHBOUR: 'it returns false'. Refute it at one input. -/
def replayStripsWrong : ChangeSpec := { name := "replayStrips", fn := fun _ => fun
  | [d1, d2] => { results := [.lit (.bool false)], args := [d1, d2] }
  | _ => none }
def ReplayStripsWrongFalsely : Prop := replayStripsRow.holds Tryd.pinned (OpenSpec.ofChange replayStripsWrong)

/-- 'rollbacknetlaw06.ProcessNumbers': WHATEVER THE INPUT: true; the input reads as it did. -/
def processNumbersSpec : ChangeSpec := { name := "processNumbers", fn := fun _ => fun
  | [d1, d2] => { results := [.lit (.bool true)], args := [d1, d2] }
  | _ => none }
def processNumbersRow : OpenClaim := { program := "ytecckbkobkfnmaadoor", sum := "d0f6d3a8494172bdf20863d02e98e0f2f1b485e93d5886963cce93f111e79bbd", func := "rollbacknet/rollbacknetlaw06.ProcessNumbers", spec := "processNumbers", unfollowed := true, recurses := true, named := ["rollbacknet/rollbacknetmake.scalars", "rollbacknet/rollbacknetmake.arrays"], apart := false, laid := [("rollbacknet/rollbacknetmake.scalars", laid_rollbacknet_rollbacknetmake_scalars), ("rollbacknet/rollbacknetmake.arrays", laid_rollbacknet_rollbacknetmake_arrays)] }
def ProcessNumbersSaid : Prop := processNumbersRow.holds Tryd.pinned (OpenSpec.ofChange processNumbersSpec)

/-- ITS FALSE NEIGHBOUR: 'it returns false'. Refute it at one input. -/
def processNumbersWrong : ChangeSpec := { name := "processNumbers", fn := fun _ => fun
  | [d1, d2] => { results := [.lit (.bool false)], args := [d1, d2] }
  | _ => none }
def ProcessNumbersWrongFalsely : Prop := processNumbersRow.holds Tryd.pinned (OpenSpec.ofChange processNumbersWrong)

/-- 'rollbacknetlaw06.ProcessStates': WHATEVER THE INPUT: true; the input reads as it did. -/
def processStatesSpec : ChangeSpec := { name := "processStates", fn := fun _ => fun
  | [d1, d2] => { results := [.lit (.bool true)], args := [d1, d2] }
  | _ => none }
def processStatesRow : OpenClaim := { program := "ytecckbkobkfnmaadoor", sum := "d0f6d3a8494172bdf20863d02e98e0f2f1b485e93d5886963cce93f111e79bbd", func := "rollbacknet/rollbacknetlaw06.ProcessStates", spec := "processStates", unfollowed := true, recurses := true, named := ["rollbacknet/rollbacknetmake.scalars", "rollbacknet/rollbacknetmake.arrays"], apart := false, laid := [("rollbacknet/rollbacknetmake.scalars", laid_rollbacknet_rollbacknetmake_scalars), ("rollbacknet/rollbacknetmake.arrays", laid_rollbacknet_rollbacknetmake_arrays)] }
def ProcessStatesSaid : Prop := processStatesRow.holds Tryd.pinned (OpenSpec.ofChange processStatesSpec)

/-- ITS FALSE NEIGHBOUR: 'it returns false'. Refute it at one input. -/
def processStatesWrong : ChangeSpec := { name := "processStates", fn := fun _ => fun
  | [d1, d2] => { results := [.lit (.bool false)], args := [d1, d2] }
  | _ => none }
def ProcessStatesWrongFalsely : Prop := processStatesRow.holds Tryd.pinned (OpenSpec.ofChange processStatesWrong)

/-- 'rollbacknetlaw06.ProcessLabels': WHATEVER THE INPUT: true; the input reads as it did. -/
def processLabelsSpec : ChangeSpec := { name := "processLabels", fn := fun _ => fun
  | [d1, d2, d3, d4] => { results := [.lit (.bool true)], args := [d1, d2, d3, d4] }
  | _ => none }
def processLabelsRow : OpenClaim := { program := "ytecckbkobkfnmaadoor", sum := "d0f6d3a8494172bdf20863d02e98e0f2f1b485e93d5886963cce93f111e79bbd", func := "rollbacknet/rollbacknetlaw06.ProcessLabels", spec := "processLabels", unfollowed := true, recurses := true, named := ["rollbacknet/rollbacknetmake.scalars", "rollbacknet/rollbacknetmake.arrays"], apart := false, laid := [("rollbacknet/rollbacknetmake.scalars", laid_rollbacknet_rollbacknetmake_scalars), ("rollbacknet/rollbacknetmake.arrays", laid_rollbacknet_rollbacknetmake_arrays)] }
def ProcessLabelsSaid : Prop := processLabelsRow.holds Tryd.pinned (OpenSpec.ofChange processLabelsSpec)

/-- ITS FALSE NEIGHBOUR: 'it returns false'. Refute it at one input. -/
def processLabelsWrong : ChangeSpec := { name := "processLabels", fn := fun _ => fun
  | [d1, d2, d3, d4] => { results := [.lit (.bool false)], args := [d1, d2, d3, d4] }
  | _ => none }
def ProcessLabelsWrongFalsely : Prop := processLabelsRow.holds Tryd.pinned (OpenSpec.ofChange processLabelsWrong)

/-- 'rollbacknetlaw06.ProcessSame': WHATEVER THE INPUT: true; the input reads as it did. -/
def processSameSpec : ChangeSpec := { name := "processSame", fn := fun _ => fun
  | [d1, d2, d3] => { results := [.lit (.bool true)], args := [d1, d2, d3] }
  | _ => none }
def processSameRow : OpenClaim := { program := "ytecckbkobkfnmaadoor", sum := "d0f6d3a8494172bdf20863d02e98e0f2f1b485e93d5886963cce93f111e79bbd", func := "rollbacknet/rollbacknetlaw06.ProcessSame", spec := "processSame", unfollowed := true, recurses := true, named := ["rollbacknet/rollbacknetmake.scalars", "rollbacknet/rollbacknetmake.arrays"], apart := false, laid := [("rollbacknet/rollbacknetmake.scalars", laid_rollbacknet_rollbacknetmake_scalars), ("rollbacknet/rollbacknetmake.arrays", laid_rollbacknet_rollbacknetmake_arrays)] }
def ProcessSameSaid : Prop := processSameRow.holds Tryd.pinned (OpenSpec.ofChange processSameSpec)

/-- ITS FALSE NEIGHBOUR: 'it returns false'. Refute it at one input. -/
def processSameWrong : ChangeSpec := { name := "processSame", fn := fun _ => fun
  | [d1, d2, d3] => { results := [.lit (.bool false)], args := [d1, d2, d3] }
  | _ => none }
def ProcessSameWrongFalsely : Prop := processSameRow.holds Tryd.pinned (OpenSpec.ofChange processSameWrong)

/-- 'rollbacknetlaw06.ProcessPrefixes': WHATEVER THE INPUT: true; the input reads as it did. -/
def processPrefixesSpec : ChangeSpec := { name := "processPrefixes", fn := fun _ => fun
  | [d1, d2, d3] => { results := [.lit (.bool true)], args := [d1, d2, d3] }
  | _ => none }
def processPrefixesRow : OpenClaim := { program := "ytecckbkobkfnmaadoor", sum := "d0f6d3a8494172bdf20863d02e98e0f2f1b485e93d5886963cce93f111e79bbd", func := "rollbacknet/rollbacknetlaw06.ProcessPrefixes", spec := "processPrefixes", unfollowed := true, recurses := true, named := ["rollbacknet/rollbacknetmake.scalars", "rollbacknet/rollbacknetmake.arrays"], apart := false, laid := [("rollbacknet/rollbacknetmake.scalars", laid_rollbacknet_rollbacknetmake_scalars), ("rollbacknet/rollbacknetmake.arrays", laid_rollbacknet_rollbacknetmake_arrays)] }
def ProcessPrefixesSaid : Prop := processPrefixesRow.holds Tryd.pinned (OpenSpec.ofChange processPrefixesSpec)

/-- ITS FALSE NEIGHBOUR: 'it returns false'. Refute it at one input. -/
def processPrefixesWrong : ChangeSpec := { name := "processPrefixes", fn := fun _ => fun
  | [d1, d2, d3] => { results := [.lit (.bool false)], args := [d1, d2, d3] }
  | _ => none }
def ProcessPrefixesWrongFalsely : Prop := processPrefixesRow.holds Tryd.pinned (OpenSpec.ofChange processPrefixesWrong)

/-- 'rollbacknetlaw06.ProcessAsks': WHATEVER THE INPUT: true; the input reads as it did. -/
def processAsksSpec : ChangeSpec := { name := "processAsks", fn := fun _ => fun
  | [d1, d2, d3] => { results := [.lit (.bool true)], args := [d1, d2, d3] }
  | _ => none }
def processAsksRow : OpenClaim := { program := "ytecckbkobkfnmaadoor", sum := "d0f6d3a8494172bdf20863d02e98e0f2f1b485e93d5886963cce93f111e79bbd", func := "rollbacknet/rollbacknetlaw06.ProcessAsks", spec := "processAsks", unfollowed := true, recurses := true, named := ["rollbacknet/rollbacknetmake.scalars", "rollbacknet/rollbacknetmake.arrays"], apart := false, laid := [("rollbacknet/rollbacknetmake.scalars", laid_rollbacknet_rollbacknetmake_scalars), ("rollbacknet/rollbacknetmake.arrays", laid_rollbacknet_rollbacknetmake_arrays)] }
def ProcessAsksSaid : Prop := processAsksRow.holds Tryd.pinned (OpenSpec.ofChange processAsksSpec)

/-- ITS FALSE NEIGHBOUR: 'it returns false'. Refute it at one input. -/
def processAsksWrong : ChangeSpec := { name := "processAsks", fn := fun _ => fun
  | [d1, d2, d3] => { results := [.lit (.bool false)], args := [d1, d2, d3] }
  | _ => none }
def ProcessAsksWrongFalsely : Prop := processAsksRow.holds Tryd.pinned (OpenSpec.ofChange processAsksWrong)

/-- 'rollbacknetlaw34.ReplayGaps': WHATEVER THE INPUT: true; the input reads as it did. -/
def replayGapsSpec : ChangeSpec := { name := "replayGaps", fn := fun _ => fun
  | [d1, d2, d3] => { results := [.lit (.bool true)], args := [d1, d2, d3] }
  | _ => none }
def replayGapsRow : OpenClaim := { program := "ytecckbkobkfnmaadoor", sum := "d0f6d3a8494172bdf20863d02e98e0f2f1b485e93d5886963cce93f111e79bbd", func := "rollbacknet/rollbacknetlaw34.ReplayGaps", spec := "replayGaps", unfollowed := true, recurses := true, named := ["rollbacknet/rollbacknetmake.scalars", "rollbacknet/rollbacknetmake.arrays"], apart := false, laid := [("rollbacknet/rollbacknetmake.scalars", laid_rollbacknet_rollbacknetmake_scalars), ("rollbacknet/rollbacknetmake.arrays", laid_rollbacknet_rollbacknetmake_arrays)] }
def ReplayGapsSaid : Prop := replayGapsRow.holds Tryd.pinned (OpenSpec.ofChange replayGapsSpec)

/-- ITS FALSE NEIGHBOUR: 'it returns false'. Refute it at one input. -/
def replayGapsWrong : ChangeSpec := { name := "replayGaps", fn := fun _ => fun
  | [d1, d2, d3] => { results := [.lit (.bool false)], args := [d1, d2, d3] }
  | _ => none }
def ReplayGapsWrongFalsely : Prop := replayGapsRow.holds Tryd.pinned (OpenSpec.ofChange replayGapsWrong)

/-- 'rollbacknetlaw34.ReplayReturns': WHATEVER THE INPUT: true; the input reads as it did. -/
def replayReturnsSpec : ChangeSpec := { name := "replayReturns", fn := fun _ => fun
  | [d1, d2, d3] => { results := [.lit (.bool true)], args := [d1, d2, d3] }
  | _ => none }
def replayReturnsRow : OpenClaim := { program := "ytecckbkobkfnmaadoor", sum := "d0f6d3a8494172bdf20863d02e98e0f2f1b485e93d5886963cce93f111e79bbd", func := "rollbacknet/rollbacknetlaw34.ReplayReturns", spec := "replayReturns", unfollowed := true, recurses := true, named := ["rollbacknet/rollbacknetmake.scalars", "rollbacknet/rollbacknetmake.arrays"], apart := false, laid := [("rollbacknet/rollbacknetmake.scalars", laid_rollbacknet_rollbacknetmake_scalars), ("rollbacknet/rollbacknetmake.arrays", laid_rollbacknet_rollbacknetmake_arrays)] }
def ReplayReturnsSaid : Prop := replayReturnsRow.holds Tryd.pinned (OpenSpec.ofChange replayReturnsSpec)

/-- ITS FALSE NEIGHBOUR: 'it returns false'. Refute it at one input. -/
def replayReturnsWrong : ChangeSpec := { name := "replayReturns", fn := fun _ => fun
  | [d1, d2, d3] => { results := [.lit (.bool false)], args := [d1, d2, d3] }
  | _ => none }
def ReplayReturnsWrongFalsely : Prop := replayReturnsRow.holds Tryd.pinned (OpenSpec.ofChange replayReturnsWrong)

/- THE SECOND FORM. 'bulk': how many values and letters a reading holds, each counted each time it is reached (what is shared counts as often as it is met; a slice's spare places count too). A statement '..UptoSaid' is the law's where the arguments, and the package variables that the reading takes, are together of bulk at most 1048576: NARROWER than '..Said'. Prove '..Said' where nothing that the law and all that it calls make is longer than what came in: it says more and counts as full. Else prove '..UptoSaid'. A law counts once. -/
mutual
def uptoBulk {H : Type} : DataW H → Nat
  | .lit (.string bytes) => bytes.length + 1
  | .lit _ => 1
  | .nil => 1
  | .ptr d => uptoBulk d + 1
  | .slice elems spare => uptoBulkAll elems + uptoBulkAll spare + 1
  | .agg parts => uptoBulkAll parts + 1
  | .iface _ d => uptoBulk d + 1
  | .map entries => uptoBulkEntries entries + 1
  | .held _ => 1
def uptoBulkAll {H : Type} : List (DataW H) → Nat
  | [] => 0
  | d :: r => uptoBulk d + uptoBulkAll r
def uptoBulkEntries {H : Type} : List (Lit × DataW H) → Nat
  | [] => 0
  | x :: r => uptoBulkEntry x + uptoBulkEntries r
def uptoBulkEntry {H : Type} : Lit × DataW H → Nat
  | (.string bytes, d) => bytes.length + uptoBulk d + 1
  | (_, d) => uptoBulk d + 1
 end
def uptoSmall : (H : Type) → List (DataW H) → Bool := fun _ ds => decide (uptoBulkAll ds ≤ 1048576)
def OpenSpec.upto (s : _root_.Go.ChangeSpec) : _root_.Go.OpenSpec := { _root_.Go.OpenSpec.ofChange s with cond := some uptoSmall }

/-- 'rollbacknetlaw34.ReplayStrips', WHERE WHAT IT READS IS OF BULK AT MOST 1048576: true; the input reads as it did. -/
def replayStripsUptoRow : OpenClaim := { program := "ytecckbkobkfnmaadoor", sum := "d0f6d3a8494172bdf20863d02e98e0f2f1b485e93d5886963cce93f111e79bbd", func := "rollbacknet/rollbacknetlaw34.ReplayStrips", spec := "replayStrips", recurses := true, named := ["rollbacknet/rollbacknetmake.scalars", "rollbacknet/rollbacknetmake.arrays"], apart := false, laid := [("rollbacknet/rollbacknetmake.scalars", laid_rollbacknet_rollbacknetmake_scalars), ("rollbacknet/rollbacknetmake.arrays", laid_rollbacknet_rollbacknetmake_arrays)], narrowed := true }
def ReplayStripsUptoSaid : Prop := replayStripsUptoRow.holds Tryd.pinned (OpenSpec.upto replayStripsSpec)

/-- 'rollbacknetlaw06.ProcessNumbers', WHERE WHAT IT READS IS OF BULK AT MOST 1048576: true; the input reads as it did. -/
def processNumbersUptoRow : OpenClaim := { program := "ytecckbkobkfnmaadoor", sum := "d0f6d3a8494172bdf20863d02e98e0f2f1b485e93d5886963cce93f111e79bbd", func := "rollbacknet/rollbacknetlaw06.ProcessNumbers", spec := "processNumbers", unfollowed := true, recurses := true, named := ["rollbacknet/rollbacknetmake.scalars", "rollbacknet/rollbacknetmake.arrays"], apart := false, laid := [("rollbacknet/rollbacknetmake.scalars", laid_rollbacknet_rollbacknetmake_scalars), ("rollbacknet/rollbacknetmake.arrays", laid_rollbacknet_rollbacknetmake_arrays)], narrowed := true }
def ProcessNumbersUptoSaid : Prop := processNumbersUptoRow.holds Tryd.pinned (OpenSpec.upto processNumbersSpec)

/-- 'rollbacknetlaw06.ProcessStates', WHERE WHAT IT READS IS OF BULK AT MOST 1048576: true; the input reads as it did. -/
def processStatesUptoRow : OpenClaim := { program := "ytecckbkobkfnmaadoor", sum := "d0f6d3a8494172bdf20863d02e98e0f2f1b485e93d5886963cce93f111e79bbd", func := "rollbacknet/rollbacknetlaw06.ProcessStates", spec := "processStates", unfollowed := true, recurses := true, named := ["rollbacknet/rollbacknetmake.scalars", "rollbacknet/rollbacknetmake.arrays"], apart := false, laid := [("rollbacknet/rollbacknetmake.scalars", laid_rollbacknet_rollbacknetmake_scalars), ("rollbacknet/rollbacknetmake.arrays", laid_rollbacknet_rollbacknetmake_arrays)], narrowed := true }
def ProcessStatesUptoSaid : Prop := processStatesUptoRow.holds Tryd.pinned (OpenSpec.upto processStatesSpec)

/-- 'rollbacknetlaw06.ProcessLabels', WHERE WHAT IT READS IS OF BULK AT MOST 1048576: true; the input reads as it did. -/
def processLabelsUptoRow : OpenClaim := { program := "ytecckbkobkfnmaadoor", sum := "d0f6d3a8494172bdf20863d02e98e0f2f1b485e93d5886963cce93f111e79bbd", func := "rollbacknet/rollbacknetlaw06.ProcessLabels", spec := "processLabels", unfollowed := true, recurses := true, named := ["rollbacknet/rollbacknetmake.scalars", "rollbacknet/rollbacknetmake.arrays"], apart := false, laid := [("rollbacknet/rollbacknetmake.scalars", laid_rollbacknet_rollbacknetmake_scalars), ("rollbacknet/rollbacknetmake.arrays", laid_rollbacknet_rollbacknetmake_arrays)], narrowed := true }
def ProcessLabelsUptoSaid : Prop := processLabelsUptoRow.holds Tryd.pinned (OpenSpec.upto processLabelsSpec)

/-- 'rollbacknetlaw06.ProcessSame', WHERE WHAT IT READS IS OF BULK AT MOST 1048576: true; the input reads as it did. -/
def processSameUptoRow : OpenClaim := { program := "ytecckbkobkfnmaadoor", sum := "d0f6d3a8494172bdf20863d02e98e0f2f1b485e93d5886963cce93f111e79bbd", func := "rollbacknet/rollbacknetlaw06.ProcessSame", spec := "processSame", unfollowed := true, recurses := true, named := ["rollbacknet/rollbacknetmake.scalars", "rollbacknet/rollbacknetmake.arrays"], apart := false, laid := [("rollbacknet/rollbacknetmake.scalars", laid_rollbacknet_rollbacknetmake_scalars), ("rollbacknet/rollbacknetmake.arrays", laid_rollbacknet_rollbacknetmake_arrays)], narrowed := true }
def ProcessSameUptoSaid : Prop := processSameUptoRow.holds Tryd.pinned (OpenSpec.upto processSameSpec)

/-- 'rollbacknetlaw06.ProcessPrefixes', WHERE WHAT IT READS IS OF BULK AT MOST 1048576: true; the input reads as it did. -/
def processPrefixesUptoRow : OpenClaim := { program := "ytecckbkobkfnmaadoor", sum := "d0f6d3a8494172bdf20863d02e98e0f2f1b485e93d5886963cce93f111e79bbd", func := "rollbacknet/rollbacknetlaw06.ProcessPrefixes", spec := "processPrefixes", unfollowed := true, recurses := true, named := ["rollbacknet/rollbacknetmake.scalars", "rollbacknet/rollbacknetmake.arrays"], apart := false, laid := [("rollbacknet/rollbacknetmake.scalars", laid_rollbacknet_rollbacknetmake_scalars), ("rollbacknet/rollbacknetmake.arrays", laid_rollbacknet_rollbacknetmake_arrays)], narrowed := true }
def ProcessPrefixesUptoSaid : Prop := processPrefixesUptoRow.holds Tryd.pinned (OpenSpec.upto processPrefixesSpec)

/-- 'rollbacknetlaw06.ProcessAsks', WHERE WHAT IT READS IS OF BULK AT MOST 1048576: true; the input reads as it did. -/
def processAsksUptoRow : OpenClaim := { program := "ytecckbkobkfnmaadoor", sum := "d0f6d3a8494172bdf20863d02e98e0f2f1b485e93d5886963cce93f111e79bbd", func := "rollbacknet/rollbacknetlaw06.ProcessAsks", spec := "processAsks", unfollowed := true, recurses := true, named := ["rollbacknet/rollbacknetmake.scalars", "rollbacknet/rollbacknetmake.arrays"], apart := false, laid := [("rollbacknet/rollbacknetmake.scalars", laid_rollbacknet_rollbacknetmake_scalars), ("rollbacknet/rollbacknetmake.arrays", laid_rollbacknet_rollbacknetmake_arrays)], narrowed := true }
def ProcessAsksUptoSaid : Prop := processAsksUptoRow.holds Tryd.pinned (OpenSpec.upto processAsksSpec)

/-- 'rollbacknetlaw34.ReplayGaps', WHERE WHAT IT READS IS OF BULK AT MOST 1048576: true; the input reads as it did. -/
def replayGapsUptoRow : OpenClaim := { program := "ytecckbkobkfnmaadoor", sum := "d0f6d3a8494172bdf20863d02e98e0f2f1b485e93d5886963cce93f111e79bbd", func := "rollbacknet/rollbacknetlaw34.ReplayGaps", spec := "replayGaps", unfollowed := true, recurses := true, named := ["rollbacknet/rollbacknetmake.scalars", "rollbacknet/rollbacknetmake.arrays"], apart := false, laid := [("rollbacknet/rollbacknetmake.scalars", laid_rollbacknet_rollbacknetmake_scalars), ("rollbacknet/rollbacknetmake.arrays", laid_rollbacknet_rollbacknetmake_arrays)], narrowed := true }
def ReplayGapsUptoSaid : Prop := replayGapsUptoRow.holds Tryd.pinned (OpenSpec.upto replayGapsSpec)

/-- 'rollbacknetlaw34.ReplayReturns', WHERE WHAT IT READS IS OF BULK AT MOST 1048576: true; the input reads as it did. -/
def replayReturnsUptoRow : OpenClaim := { program := "ytecckbkobkfnmaadoor", sum := "d0f6d3a8494172bdf20863d02e98e0f2f1b485e93d5886963cce93f111e79bbd", func := "rollbacknet/rollbacknetlaw34.ReplayReturns", spec := "replayReturns", unfollowed := true, recurses := true, named := ["rollbacknet/rollbacknetmake.scalars", "rollbacknet/rollbacknetmake.arrays"], apart := false, laid := [("rollbacknet/rollbacknetmake.scalars", laid_rollbacknet_rollbacknetmake_scalars), ("rollbacknet/rollbacknetmake.arrays", laid_rollbacknet_rollbacknetmake_arrays)], narrowed := true }
def ReplayReturnsUptoSaid : Prop := replayReturnsUptoRow.holds Tryd.pinned (OpenSpec.upto replayReturnsSpec)

end Rows
end Go.Proofs.YtecckbkobkfnmaaDoor
