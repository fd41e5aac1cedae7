/-
  Joined texts.
-/
import Derived.Test.YtnljenjcaeophaaGreatDoorWD
import Derived.Test.YtnljenjcaeophaaGreatDoorWVC
import Derived.Test.YtnljenjcaeophaaGreatDoorWZI
import Derived.Test.YtnljenjcaeophaaGreatDoorW8
import Derived.Shelf.SlSortCmp.Whole1
set_option linter.unusedVariables false
set_option linter.unusedSimpArgs false
set_option linter.unusedSectionVars false
namespace Go.Proofs.YtnljenjcaeophaaGreatDoor
open Go.Xe Go.RowKit
end Go.Proofs.YtnljenjcaeophaaGreatDoor
namespace Go.Xe
open Go.RowKit Go.Sort Go.Shelf
variable [Glob]
section
variable {α : Type} [Inhabited α]
end
end Go.Xe
