/-
  Ledgers: the laying of the insertion sort at facts.
-/
import Derived.Test.YtfgcgagcpnbgmaaGreatDoorWKp
import Derived.Test.YtfgcgagcpnbgmaaGreatDoorWEngFz
import Derived.Test.YtfgcgagcpnbgmaaGreatDoorW8
set_option linter.unusedVariables false
set_option linter.unusedSimpArgs false
set_option linter.unusedSectionVars false
namespace Go.Proofs.YtfgcgagcpnbgmaaGreatDoor
open Go.Xe Go.RowKit
abbrev Fk:={f:Nat→Int // fOk f}
theorem Ef_:fOk f0:=⟨fun _=>sG_,.inl rfl,fun _ _=>rfl⟩
instance:Inhabited Fk:=⟨⟨f0,Ef_⟩⟩
end Go.Proofs.YtfgcgagcpnbgmaaGreatDoor
