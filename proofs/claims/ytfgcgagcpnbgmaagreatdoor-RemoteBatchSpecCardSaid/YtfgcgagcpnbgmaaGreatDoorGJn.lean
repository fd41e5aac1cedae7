/-
  Evidence: the keys of a map of numbers, collected in one of several orders.
-/
import Derived.Test.YtfgcgagcpnbgmaaGreatDoorGJd
import Derived.Test.YtfgcgagcpnbgmaaGreatDoorGKh
import Derived.Test.YtfgcgagcpnbgmaaGreatDoorGKc
import Derived.Test.YtfgcgagcpnbgmaaGreatDoorGJa
import Derived.Test.YtfgcgagcpnbgmaaGreatDoorGF
import Derived.Test.YtfgcgagcpnbgmaaGreatDoorGEngFz
import Derived.Test.YtfgcgagcpnbgmaaGreatDoorGEngCr
set_option linter.all false
namespace Go.Proofs.YtfgcgagcpnbgmaaGreatDoor
open Go.Xe Go.RowKit
@[simp] theorem E2_ (ρ:Nat→Nat) (o:List Int):renL ρ (o.map (AV.d∘fun r=>D.v (.int .i64 r)))=o.map (AV.d∘fun r=>D.v (.int .i64 r)):=by
 rw[← List.map_map]
 exact xx_ ρ _
end Go.Proofs.YtfgcgagcpnbgmaaGreatDoor
