/- The reference's machine: the machine in memory, pay, value. -/
import Derived.Test.YthmepnpjagpcnaaMach8
set_option linter.unusedVariables false
set_option linter.unusedSimpArgs false
set_option maxRecDepth 100000
namespace Go.Proofs.Ythmepnpjagpcnaa
open Go.RowKit Go.Proofs

def rmCells (C E : Value) (fuel : Nat) (v : EnvS) : Array Value := #[C, E, .int .i64 v.self, .int .i64 v.procs, .int .i64 v.frm, .int .i64 v.val, .int .i64 (400 - (fuel : Int))]
end Go.Proofs.Ythmepnpjagpcnaa
