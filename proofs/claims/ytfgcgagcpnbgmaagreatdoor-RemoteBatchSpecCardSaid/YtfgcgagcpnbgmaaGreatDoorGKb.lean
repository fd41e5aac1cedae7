/-
  Ledgers: a list of facts in order, each once.
-/
import Derived.Test.YtfgcgagcpnbgmaaGreatDoorGKa
import Derived.Test.YtfgcgagcpnbgmaaGreatDoorG8
import Derived.Test.YtfgcgagcpnbgmaaGreatDoorGEngFz
set_option linter.all false
namespace Go.Proofs.YtfgcgagcpnbgmaaGreatDoor
open Go.Xe Go.RowKit
abbrev FZ_:D:=.v (.func (.func 135) #[] #[])
@[simp] theorem E6_ (k:Nat) (l:List F):am_ k ((fsC l).map .d)=false:=by
 induction fsC l with
 | nil=>rfl
 | cons c cs ih=>rw[List.map_cons,am_,ih];rfl
end Go.Proofs.YtfgcgagcpnbgmaaGreatDoor
