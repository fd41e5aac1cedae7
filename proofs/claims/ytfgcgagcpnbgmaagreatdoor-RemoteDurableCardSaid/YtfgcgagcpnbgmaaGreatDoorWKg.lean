/-
  Ledgers: the set of a list of facts.
-/
import Derived.Test.YtfgcgagcpnbgmaaGreatDoorWKe
set_option linter.unusedVariables false
set_option linter.unusedSimpArgs false
set_option linter.unusedSectionVars false
namespace Go.Proofs.YtfgcgagcpnbgmaaGreatDoor
open Go.Xe Go.RowKit
abbrev ys_:D:=.v (.slice none 0 0)
end Go.Proofs.YtfgcgagcpnbgmaaGreatDoor
