/-
  Ledgers: the laying of the insertion sort at facts.
-/
import Derived.Test.YtfgcgagcpnbgmaaGreatDoorQKp
import Derived.Test.YtfgcgagcpnbgmaaGreatDoorQEngFz
import Derived.Test.YtfgcgagcpnbgmaaGreatDoorQ8
set_option linter.unusedVariables false
set_option linter.unusedSimpArgs false
set_option linter.unusedSectionVars false
namespace Go.Proofs.YtfgcgagcpnbgmaaGreatDoor
open Go.Xe Go.RowKit
abbrev Fk := {f : Nat → Int // fOk f}
theorem fOk0 : fOk f0 := ⟨fun _ => isI0, .inl rfl, fun _ _ => rfl⟩
instance : Inhabited Fk := ⟨⟨f0, fOk0⟩⟩
end Go.Proofs.YtfgcgagcpnbgmaaGreatDoor
