/-
  Ledgers: of facts next to one another that are the same, the first.
-/
import Derived.Test.YtfgcgagcpnbgmaaGreatDoorWKb
set_option linter.unusedVariables false
set_option linter.unusedSimpArgs false
set_option linter.unusedSectionVars false
namespace Go.Proofs.YtfgcgagcpnbgmaaGreatDoor
open Go.Xe Go.RowKit
@[simp] def cB:Box:=.cells 202 [.d Eh_]
@[simp] def rBk (l:List F):Box:=.row 67 57 l.length ((fsC l).map .d)
end Go.Proofs.YtfgcgagcpnbgmaaGreatDoor
