/-
  Evidence: the elements of two ledgers in one row.
-/
import Derived.Test.YtfgcgagcpnbgmaaGreatDoorQJz
import Derived.Test.YtfgcgagcpnbgmaaGreatDoorQJd
import Derived.Test.YtfgcgagcpnbgmaaGreatDoorQKh
import Derived.Test.YtfgcgagcpnbgmaaGreatDoorQKc
import Derived.Test.YtfgcgagcpnbgmaaGreatDoorQJa
import Derived.Test.YtfgcgagcpnbgmaaGreatDoorQF
import Derived.Test.YtfgcgagcpnbgmaaGreatDoorQEX
import Derived.Test.YtfgcgagcpnbgmaaGreatDoorQEngFz
import Derived.Test.YtfgcgagcpnbgmaaGreatDoorQ8
set_option linter.unusedVariables false
set_option linter.unusedSimpArgs false
set_option linter.unusedSectionVars false
namespace Go.Proofs.YtfgcgagcpnbgmaaGreatDoor
open Go.Xe Go.RowKit
@[simp] theorem hasL_any (k n : Nat) : AV.hasL k (List.replicate n (.d .any)) = false := by
 induction n with
 | zero => rfl
 | succ n ih => rw [List.replicate_succ, AV.hasL, ih]; rfl
def lsS (ls : List (List Sg)) : List D := ls.map fun l => .sl 61 (sgC l) l.length false
@[simp] def slLS (ls : List (List Sg)) : D := .sl 1 (lsS ls) ls.length false
end Go.Proofs.YtfgcgagcpnbgmaaGreatDoor
