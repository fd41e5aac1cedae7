/-
  Joined texts.
-/
import Derived.Test.YtnljenjcaeophaaGreatDoorWC
import Derived.Test.YtnljenjcaeophaaGreatDoorWZ
import Derived.Test.YtnljenjcaeophaaGreatDoorWF
set_option linter.unusedVariables false
set_option linter.unusedSimpArgs false
set_option linter.unusedSectionVars false
namespace Go.Proofs.YtnljenjcaeophaaGreatDoor
open Go.Xe Go.RowKit
end Go.Proofs.YtnljenjcaeophaaGreatDoor
