/-
  Ledgers: a list of facts in order, each once.
-/
import Derived.Test.YtfgcgagcpnbgmaaGreatDoorQKa
import Derived.Test.YtfgcgagcpnbgmaaGreatDoorQ8
import Derived.Test.YtfgcgagcpnbgmaaGreatDoorQEngFz
set_option linter.unusedVariables false
set_option linter.unusedSimpArgs false
set_option linter.unusedSectionVars false
namespace Go.Proofs.YtfgcgagcpnbgmaaGreatDoor
open Go.Xe Go.RowKit
abbrev cmpD : D := .v (.func (.func 135) #[] #[])
@[simp] theorem fsC_any (k : Nat) (l : List F) : AV.hasL k ((fsC l).map .d) = false := by
 induction fsC l with
 | nil => rfl
 | cons c cs ih => rw [List.map_cons, AV.hasL, ih]; rfl
end Go.Proofs.YtfgcgagcpnbgmaaGreatDoor
