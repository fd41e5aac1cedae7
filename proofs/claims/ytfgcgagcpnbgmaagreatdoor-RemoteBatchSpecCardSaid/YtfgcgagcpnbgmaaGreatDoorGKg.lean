/-
  Ledgers: the set of a list of facts.
-/
import Derived.Test.YtfgcgagcpnbgmaaGreatDoorGKe
set_option linter.all false
namespace Go.Proofs.YtfgcgagcpnbgmaaGreatDoor
open Go.Xe Go.RowKit
abbrev EW_:D:=.v (.slice none 0 0)
end Go.Proofs.YtfgcgagcpnbgmaaGreatDoor
