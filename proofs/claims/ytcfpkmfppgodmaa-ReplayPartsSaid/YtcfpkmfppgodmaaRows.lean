/-
  No cell of these rows narrows 'for every input' (looked for: loops, veiled, ifaces, maps, wideKeys, modest, calm, conditions, laid).
  DERIVED. THE GIVEN ROWS OF THIS SEAT. 4 by the template 'for every input the law returns true; each argument reads behind the call as it read before'; 0 by the template 'total and deterministic' (their statements: YtcfpkmfppgodmaaTotals.lean).
  GIVEN WITH THE SEED: the statements are not yours to turn. If you find one false, say at which input.
  Laid BY PROGRAM, IN A SANDBOX (cutbox-rows.mjs): the forced cells as the released guide's own fill.sh prints them over the translation 8e95d42802af0d13… (all of the seat's roots in one cut). By AI agents, Wed Nov 11 2026. No macro, syntax, notation, axiom, sorry.
-/
import Derived.Test.YtcfpkmfppgodmaaChecked
import GoSem.Claim
import GoSem.ClaimJoined
import GoSem.ClaimMapViews
import Derived.JoinedTies
import Derived.KernelRfl
namespace Go.Proofs.Ytcfpkmfppgodmaa
/- THE CELL 'sum', in the pinned program and in every row, IS THE sha256 OF THE DUMP (.gsa) THAT YtcfpkmfppgodmaaProg.lean LOADS. Nothing in Lean hashes anything: it is a label: what it is worth is what the hold of that sum in a sandbox is worth. -/
noncomputable def Try.pinned : Pinned := { name := "ytcfpkmfppgodmaa", sum := "8e95d42802af0d13de750dc5ec6f26e65e6ce7e683de6245d089c808415f9156", checked := Try.checked }
namespace Rows
def none {H : Type} : Left H := { results := [], args := [] }

/-- 'rollbacknetlaw34.ReplaySchedules': WHATEVER THE INPUT: true; the input reads as it did. -/
def replaySchedulesSpec : ChangeSpec := { name := "replaySchedules", fn := fun _ => fun
  | [d1, d2, d3, d4] => { results := [.lit (.bool true)], args := [d1, d2, d3, d4] }
  | _ => none }
def replaySchedulesRow : OpenClaim := { program := "ytcfpkmfppgodmaa", sum := "8e95d42802af0d13de750dc5ec6f26e65e6ce7e683de6245d089c808415f9156", func := "rollbacknet/rollbacknetlaw34.ReplaySchedules", spec := "replaySchedules", apart := false }
def ReplaySchedulesSaid : Prop := replaySchedulesRow.holds Try.pinned (OpenSpec.ofChange replaySchedulesSpec)

/-- ITS FALSE NEIGHBOUR: 'it returns false'. Refute it at one input. -/
def replaySchedulesWrong : ChangeSpec := { name := "replaySchedules", fn := fun _ => fun
  | [d1, d2, d3, d4] => { results := [.lit (.bool false)], args := [d1, d2, d3, d4] }
  | _ => none }
def ReplaySchedulesWrongFalsely : Prop := replaySchedulesRow.holds Try.pinned (OpenSpec.ofChange replaySchedulesWrong)

/-- 'rollbacknetlaw34.ReplayOrders': WHATEVER THE INPUT: true; the input reads as it did. -/
def replayOrdersSpec : ChangeSpec := { name := "replayOrders", fn := fun _ => fun
  | [d] => { results := [.lit (.bool true)], args := [d] }
  | _ => none }
def replayOrdersRow : OpenClaim := { program := "ytcfpkmfppgodmaa", sum := "8e95d42802af0d13de750dc5ec6f26e65e6ce7e683de6245d089c808415f9156", func := "rollbacknet/rollbacknetlaw34.ReplayOrders", spec := "replayOrders", apart := false }
def ReplayOrdersSaid : Prop := replayOrdersRow.holds Try.pinned (OpenSpec.ofChange replayOrdersSpec)

/-- ITS FALSE NEIGHBOUR: 'it returns false'. Refute it at one input. -/
def replayOrdersWrong : ChangeSpec := { name := "replayOrders", fn := fun _ => fun
  | [d] => { results := [.lit (.bool false)], args := [d] }
  | _ => none }
def ReplayOrdersWrongFalsely : Prop := replayOrdersRow.holds Try.pinned (OpenSpec.ofChange replayOrdersWrong)

/-- 'rollbacknetlaw34.ReplayParts': WHATEVER THE INPUT: true; the input reads as it did. -/
def replayPartsSpec : ChangeSpec := { name := "replayParts", fn := fun _ => fun
  | [d] => { results := [.lit (.bool true)], args := [d] }
  | _ => none }
def replayPartsRow : OpenClaim := { program := "ytcfpkmfppgodmaa", sum := "8e95d42802af0d13de750dc5ec6f26e65e6ce7e683de6245d089c808415f9156", func := "rollbacknet/rollbacknetlaw34.ReplayParts", spec := "replayParts", unfollowed := true, recurses := true, apart := false }
def ReplayPartsSaid : Prop := replayPartsRow.holds Try.pinned (OpenSpec.ofChange replayPartsSpec)

/-- ITS FALSE NEIGHBOUR: 'it returns false'. Refute it at one input. -/
def replayPartsWrong : ChangeSpec := { name := "replayParts", fn := fun _ => fun
  | [d] => { results := [.lit (.bool false)], args := [d] }
  | _ => none }
def ReplayPartsWrongFalsely : Prop := replayPartsRow.holds Try.pinned (OpenSpec.ofChange replayPartsWrong)

/-- 'rollbacknetlaw34.ReplayExists': WHATEVER THE INPUT: true; the input reads as it did. -/
def replayExistsSpec : ChangeSpec := { name := "replayExists", fn := fun _ => fun
  | [d1, d2] => { results := [.lit (.bool true)], args := [d1, d2] }
  | _ => none }
def replayExistsRow : OpenClaim := { program := "ytcfpkmfppgodmaa", sum := "8e95d42802af0d13de750dc5ec6f26e65e6ce7e683de6245d089c808415f9156", func := "rollbacknet/rollbacknetlaw34.ReplayExists", spec := "replayExists", recurses := true, apart := false }
def ReplayExistsSaid : Prop := replayExistsRow.holds Try.pinned (OpenSpec.ofChange replayExistsSpec)

/-- ITS FALSE NEIGHBOUR: 'it returns false'. Refute it at one input. -/
def replayExistsWrong : ChangeSpec := { name := "replayExists", fn := fun _ => fun
  | [d1, d2] => { results := [.lit (.bool false)], args := [d1, d2] }
  | _ => none }
def ReplayExistsWrongFalsely : Prop := replayExistsRow.holds Try.pinned (OpenSpec.ofChange replayExistsWrong)

/- THE SECOND FORM. 'bulk': how many values and letters a reading holds, each counted each time it is reached (what is shared counts as often as it is met; a slice's spare places count too). A statement '..UptoSaid' is the law's where the arguments, and the package variables that the reading takes, are together of bulk at most 1048576: NARROWER than '..Said'. Prove '..Said' where nothing that the law and all that it calls make is longer than what came in: it says more and counts as full. Else prove '..UptoSaid'. A law counts once. -/
mutual
def uptoBulk {H : Type} : DataW H → Nat
  | .lit (.string bytes) => bytes.length + 1
  | .lit _ => 1
  | .nil => 1
  | .ptr d => uptoBulk d + 1
  | .slice elems spare => uptoBulkAll elems + uptoBulkAll spare + 1
  | .agg parts => uptoBulkAll parts + 1
  | .iface _ d => uptoBulk d + 1
  | .map entries => uptoBulkEntries entries + 1
  | .held _ => 1
def uptoBulkAll {H : Type} : List (DataW H) → Nat
  | [] => 0
  | d :: r => uptoBulk d + uptoBulkAll r
def uptoBulkEntries {H : Type} : List (Lit × DataW H) → Nat
  | [] => 0
  | x :: r => uptoBulkEntry x + uptoBulkEntries r
def uptoBulkEntry {H : Type} : Lit × DataW H → Nat
  | (.string bytes, d) => bytes.length + uptoBulk d + 1
  | (_, d) => uptoBulk d + 1
 end
def uptoSmall : (H : Type) → List (DataW H) → Bool := fun _ ds => decide (uptoBulkAll ds ≤ 1048576)
def OpenSpec.upto (s : _root_.Go.ChangeSpec) : _root_.Go.OpenSpec := { _root_.Go.OpenSpec.ofChange s with cond := some uptoSmall }

/-- 'rollbacknetlaw34.ReplaySchedules', WHERE WHAT IT READS IS OF BULK AT MOST 1048576: true; the input reads as it did. -/
def replaySchedulesUptoRow : OpenClaim := { program := "ytcfpkmfppgodmaa", sum := "8e95d42802af0d13de750dc5ec6f26e65e6ce7e683de6245d089c808415f9156", func := "rollbacknet/rollbacknetlaw34.ReplaySchedules", spec := "replaySchedules", apart := false, narrowed := true }
def ReplaySchedulesUptoSaid : Prop := replaySchedulesUptoRow.holds Try.pinned (OpenSpec.upto replaySchedulesSpec)

/-- 'rollbacknetlaw34.ReplayOrders', WHERE WHAT IT READS IS OF BULK AT MOST 1048576: true; the input reads as it did. -/
def replayOrdersUptoRow : OpenClaim := { program := "ytcfpkmfppgodmaa", sum := "8e95d42802af0d13de750dc5ec6f26e65e6ce7e683de6245d089c808415f9156", func := "rollbacknet/rollbacknetlaw34.ReplayOrders", spec := "replayOrders", apart := false, narrowed := true }
def ReplayOrdersUptoSaid : Prop := replayOrdersUptoRow.holds Try.pinned (OpenSpec.upto replayOrdersSpec)

/-- 'rollbacknetlaw34.ReplayParts', WHERE WHAT IT READS IS OF BULK AT MOST 1048576: true; the input reads as it did. -/
def replayPartsUptoRow : OpenClaim := { program := "ytcfpkmfppgodmaa", sum := "8e95d42802af0d13de750dc5ec6f26e65e6ce7e683de6245d089c808415f9156", func := "rollbacknet/rollbacknetlaw34.ReplayParts", spec := "replayParts", unfollowed := true, recurses := true, apart := false, narrowed := true }
def ReplayPartsUptoSaid : Prop := replayPartsUptoRow.holds Try.pinned (OpenSpec.upto replayPartsSpec)

/-- 'rollbacknetlaw34.ReplayExists', WHERE WHAT IT READS IS OF BULK AT MOST 1048576: true; the input reads as it did. -/
def replayExistsUptoRow : OpenClaim := { program := "ytcfpkmfppgodmaa", sum := "8e95d42802af0d13de750dc5ec6f26e65e6ce7e683de6245d089c808415f9156", func := "rollbacknet/rollbacknetlaw34.ReplayExists", spec := "replayExists", recurses := true, apart := false, narrowed := true }
def ReplayExistsUptoSaid : Prop := replayExistsUptoRow.holds Try.pinned (OpenSpec.upto replayExistsSpec)

end Rows
end Go.Proofs.Ytcfpkmfppgodmaa
