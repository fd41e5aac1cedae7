/-
  Decode of facts.
-/
import Derived.Test.YtjjaabidbeoomaaGreatDoorKFr
set_option linter.unusedSectionVars false
set_option linter.unusedSimpArgs false
set_option linter.unusedVariables false
namespace Go.Proofs.YtjjaabidbeoomaaGreatDoor
open Go.Xe Go.RowKit

def V.items : V → List V
  | .mk _ _ _ l => l
end Go.Proofs.YtjjaabidbeoomaaGreatDoor
