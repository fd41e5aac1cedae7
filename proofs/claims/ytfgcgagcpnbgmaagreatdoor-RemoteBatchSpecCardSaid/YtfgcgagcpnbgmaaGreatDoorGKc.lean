/-
  Ledgers: references as a map's keys.
-/
import Derived.Test.YtfgcgagcpnbgmaaGreatDoorGFC
import Derived.Test.YtfgcgagcpnbgmaaGreatDoorGEngFz
import Derived.DeepKeys5
set_option linter.all false
namespace Go.Proofs.YtfgcgagcpnbgmaaGreatDoor
open Go.Xe Go.RowKit
theorem laidOut:laidOutB Tryz.prog=true:=by kernel_rfl
end Go.Proofs.YtfgcgagcpnbgmaaGreatDoor
