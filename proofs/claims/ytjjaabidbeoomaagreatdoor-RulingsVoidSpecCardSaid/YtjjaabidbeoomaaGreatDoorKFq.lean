/-
  The next number, by its place.
-/
import Derived.Test.YtjjaabidbeoomaaGreatDoorKFo
set_option linter.unusedSectionVars false
set_option linter.unusedSimpArgs false
set_option linter.unusedVariables false
namespace Go.Proofs.YtjjaabidbeoomaaGreatDoor
open Go.Xe Go.RowKit

end Go.Proofs.YtjjaabidbeoomaaGreatDoor
