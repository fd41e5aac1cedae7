/-
  Evidence: the elements of two ledgers in one row.
-/
import Derived.Test.YtfgcgagcpnbgmaaGreatDoorWUd
import Derived.Test.YtfgcgagcpnbgmaaGreatDoorW8
set_option linter.unusedVariables false
set_option linter.unusedSimpArgs false
set_option linter.unusedSectionVars false
namespace Go.Proofs.YtfgcgagcpnbgmaaGreatDoor
open Go.Xe Go.RowKit
@[simp] theorem BX_ (k n:Nat):ah_ k (List.replicate n (.d .any))=false:=by
 induction n with
 | zero=>rfl
 | succ n ih=>rw[List.replicate_succ,ah_,ih];rfl
def lsS (ls:List (List Sg)):List D:=ls.map fun l=>.sl 61 (sgC l) l.length false
@[simp] def Ek_ (ls:List (List Sg)):D:=.sl 1 (lsS ls) ls.length false
end Go.Proofs.YtfgcgagcpnbgmaaGreatDoor
