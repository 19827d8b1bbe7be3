/- The reference's machine: effect. -/
import Derived.Test.YthmepnpjagpcnaaRMach1
set_option linter.unusedVariables false
set_option linter.unusedSimpArgs false
set_option maxRecDepth 100000
namespace Go.Proofs.Ythmepnpjagpcnaa
open Go.RowKit Go.Proofs

end Go.Proofs.Ythmepnpjagpcnaa
