/-
  Evidence: the keys, collected in one of several orders.
-/
import Derived.Test.YtfgcgagcpnbgmaaGreatDoorWJf
import Derived.Test.YtfgcgagcpnbgmaaGreatDoorWEX
import Derived.Test.YtfgcgagcpnbgmaaGreatDoorWEngFz
set_option linter.unusedVariables false
set_option linter.unusedSimpArgs false
set_option linter.unusedSectionVars false
namespace Go.Proofs.YtfgcgagcpnbgmaaGreatDoor
open Go.Xe Go.RowKit
def rfC (o:List R2):List D:=o.flatMap fun r=>[.v (.int .i64 r.1),.v (.int .i64 r.2)]
@[simp] theorem wW_:∀ o:List R2,(rfC o).length=o.length*2
 | []=>rfl
 | r::o=>by rw[show rfC (r::o)=[.v (.int .i64 r.1),.v (.int .i64 r.2)]++rfC o from rfl,List.length_append,wW_ o,List.length_cons];simp;omega
theorem qk_ (a b:List R2):rfC (a++b)=rfC a++rfC b:=by simp[rfC]
end Go.Proofs.YtfgcgagcpnbgmaaGreatDoor
