/- The reference's machine: list. -/
import Derived.Test.YthmepnpjagpcnaaRMach3
set_option linter.unusedVariables false
set_option linter.unusedSimpArgs false
set_option maxRecDepth 100000
namespace Go.Proofs.Ythmepnpjagpcnaa
open Go.RowKit Go.Proofs

def rfuelAt (g : Nat) (w : World) : Nat := match w.cell? ⟨g, 6, none⟩ with | some (.int _ f) => (400 - f).toNat | _ => 0
theorem while_again {v : EnvS} {s : Stm} {m m3 : Ms} {r : Res} (hf : 0 < m.fuel) (h4 : s.kind = 4) (hv : valS m.pay.cells v 5 s.value ≠ 0) (hb : Exec v (.list s.body) m.pay (.done m3)) (h : Exec v (.stm s) m3 r) : Exec v (.stm s) m r := by
  refine .whileE hf h4 ?_
  cases h with
  | empty h0 => exact .out hv hb h0
  | simple h _ g4 => exact absurd h4 g4
  | ifE _ g3 _ => omega
  | whileE h0 _ h1 => exact .again hv hb h0 h1
end Go.Proofs.Ythmepnpjagpcnaa
