/-
  Ledgers: a list of facts in order, each once.
-/
import Derived.Test.YtfgcgagcpnbgmaaGreatDoorWKa
import Derived.Test.YtfgcgagcpnbgmaaGreatDoorW8
import Derived.Test.YtfgcgagcpnbgmaaGreatDoorWEngFz
set_option linter.unusedVariables false
set_option linter.unusedSimpArgs false
set_option linter.unusedSectionVars false
namespace Go.Proofs.YtfgcgagcpnbgmaaGreatDoor
open Go.Xe Go.RowKit
abbrev Eh_:D:=.v (.func (.func 135) #[] #[])
@[simp] theorem Dm_ (k:Nat) (l:List F):ah_ k ((fsC l).map .d)=false:=by
 induction fsC l with
 | nil=>rfl
 | cons c cs ih=>rw[List.map_cons,ah_,ih];rfl
end Go.Proofs.YtfgcgagcpnbgmaaGreatDoor
