/-
  Evidence: the keys of a map of numbers, collected in one of several orders.
-/
import Derived.Test.YtfgcgagcpnbgmaaGreatDoorWJk
import Derived.Test.YtfgcgagcpnbgmaaGreatDoorWEX
import Derived.Test.YtfgcgagcpnbgmaaGreatDoorWEngFz
set_option linter.unusedVariables false
set_option linter.unusedSimpArgs false
set_option linter.unusedSectionVars false
namespace Go.Proofs.YtfgcgagcpnbgmaaGreatDoor
open Go.Xe Go.RowKit
@[simp] theorem Dg_ (ρ:Nat→Nat) (o:List Int):renL ρ (o.map (AV.d∘fun r=>D.v (.int .i64 r)))=o.map (AV.d∘fun r=>D.v (.int .i64 r)):=by
 rw[← List.map_map]
 exact v3_ ρ _
end Go.Proofs.YtfgcgagcpnbgmaaGreatDoor
