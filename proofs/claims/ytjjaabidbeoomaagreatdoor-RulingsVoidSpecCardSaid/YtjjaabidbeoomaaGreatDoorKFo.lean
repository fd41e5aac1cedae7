/-
  The next number of a list.
-/
import Derived.Test.YtjjaabidbeoomaaGreatDoorKFm
set_option linter.unusedSectionVars false
set_option linter.unusedSimpArgs false
set_option linter.unusedVariables false
namespace Go.Proofs.YtjjaabidbeoomaaGreatDoor
open Go.Xe Go.RowKit

@[simp] def vB (k n : Int) (s : ByteArray) (l : List V) : Box := .cells 111 [.d (.v (.int .i64 k)), .d (.v (.int .i64 n)), .d (.v (.string s)), .d (slV l)]
def V.num : V → Int
  | .mk _ n _ _ => n
end Go.Proofs.YtjjaabidbeoomaaGreatDoor
