/-
  Evidence: the keys of a map of numbers, collected in one of several orders.
-/
import Derived.Test.YtfgcgagcpnbgmaaGreatDoorQJd
import Derived.Test.YtfgcgagcpnbgmaaGreatDoorQKh
import Derived.Test.YtfgcgagcpnbgmaaGreatDoorQKc
import Derived.Test.YtfgcgagcpnbgmaaGreatDoorQJa
import Derived.Test.YtfgcgagcpnbgmaaGreatDoorQF
import Derived.Test.YtfgcgagcpnbgmaaGreatDoorQEngFz
import Derived.Test.YtfgcgagcpnbgmaaGreatDoorQEX
set_option linter.unusedVariables false
set_option linter.unusedSimpArgs false
set_option linter.unusedSectionVars false
namespace Go.Proofs.YtfgcgagcpnbgmaaGreatDoor
open Go.Xe Go.RowKit
@[simp] theorem ifC_ren (ρ : Nat → Nat) (o : List Int) : renL ρ (o.map (AV.d ∘ fun r => D.v (.int .i64 r))) = o.map (AV.d ∘ fun r => D.v (.int .i64 r)) := by
 rw [← List.map_map]
 exact renL_d ρ _
end Go.Proofs.YtfgcgagcpnbgmaaGreatDoor
