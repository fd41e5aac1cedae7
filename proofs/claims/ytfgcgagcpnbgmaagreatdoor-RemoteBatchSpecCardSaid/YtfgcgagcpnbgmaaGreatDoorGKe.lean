/-
  Ledgers: of facts next to one another that are the same, the first.
-/
import Derived.Test.YtfgcgagcpnbgmaaGreatDoorGKb
set_option linter.all false
namespace Go.Proofs.YtfgcgagcpnbgmaaGreatDoor
open Go.Xe Go.RowKit
@[simp] def cB:Box:=.cells 202 [.d FZ_]
@[simp] def rBk (l:List F):Box:=.row 67 57 l.length ((fsC l).map .d)
end Go.Proofs.YtfgcgagcpnbgmaaGreatDoor
