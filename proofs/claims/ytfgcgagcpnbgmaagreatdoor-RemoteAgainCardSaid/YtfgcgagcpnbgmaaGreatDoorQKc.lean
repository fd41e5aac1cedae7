/-
  Ledgers: references as a map's keys.
-/
import Derived.Test.YtfgcgagcpnbgmaaGreatDoorQFC
import Derived.Test.YtfgcgagcpnbgmaaGreatDoorQEngFz
import Derived.DeepKeys5
set_option linter.unusedVariables false
set_option linter.unusedSimpArgs false
set_option linter.unusedSectionVars false
namespace Go.Proofs.YtfgcgagcpnbgmaaGreatDoor
open Go.Xe Go.RowKit
theorem laidOut : laidOutB Tryz.prog = true := by kernel_rfl
end Go.Proofs.YtfgcgagcpnbgmaaGreatDoor
