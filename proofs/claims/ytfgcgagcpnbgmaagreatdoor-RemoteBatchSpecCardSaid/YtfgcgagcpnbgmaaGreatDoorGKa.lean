/-
  Ledgers: the laying of the insertion sort at facts.
-/
import Derived.Test.YtfgcgagcpnbgmaaGreatDoorGKp
import Derived.Test.YtfgcgagcpnbgmaaGreatDoorGEngFz
import Derived.Test.YtfgcgagcpnbgmaaGreatDoorG8
set_option linter.all false
namespace Go.Proofs.YtfgcgagcpnbgmaaGreatDoor
open Go.Xe Go.RowKit
abbrev Fk:={f:Nat→Int // fOk f}
theorem FY_:fOk f0:=⟨fun _=>t9_,.inl rfl,fun _ _=>rfl⟩
instance:Inhabited Fk:=⟨⟨f0,FY_⟩⟩
end Go.Proofs.YtfgcgagcpnbgmaaGreatDoor
