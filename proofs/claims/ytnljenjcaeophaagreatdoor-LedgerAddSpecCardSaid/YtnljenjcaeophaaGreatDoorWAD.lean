/-
  Joined texts.
-/
import Derived.Test.YtnljenjcaeophaaGreatDoorWAB
import Derived.Test.YtnljenjcaeophaaGreatDoorWAC
set_option linter.unusedVariables false
set_option linter.unusedSimpArgs false
set_option linter.unusedSectionVars false
namespace Go.Proofs.YtnljenjcaeophaaGreatDoor
open Go.Xe Go.RowKit
end Go.Proofs.YtnljenjcaeophaaGreatDoor
