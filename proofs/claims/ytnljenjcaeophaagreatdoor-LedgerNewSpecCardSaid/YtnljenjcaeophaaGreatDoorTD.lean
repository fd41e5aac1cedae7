/-
  Joined texts.
-/
import Derived.Test.YtnljenjcaeophaaGreatDoorTC
import Derived.Test.YtnljenjcaeophaaGreatDoorTZ
import Derived.Test.YtnljenjcaeophaaGreatDoorTF
set_option linter.unusedVariables false
set_option linter.unusedSimpArgs false
set_option linter.unusedSectionVars false
namespace Go.Proofs.YtnljenjcaeophaaGreatDoor
open Go.Xe Go.RowKit
end Go.Proofs.YtnljenjcaeophaaGreatDoor
