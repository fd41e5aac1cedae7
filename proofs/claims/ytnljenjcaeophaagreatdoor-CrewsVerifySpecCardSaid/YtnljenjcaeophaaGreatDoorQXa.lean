/-
  Signed facts: the reference's Same.. of any two of them.
-/
import Derived.Test.YtnljenjcaeophaaGreatDoorQAB
import Derived.Test.YtnljenjcaeophaaGreatDoorQG
set_option linter.unusedVariables false
set_option linter.unusedSimpArgs false
set_option linter.unusedSectionVars false
namespace Go.Proofs.YtnljenjcaeophaaGreatDoor
open Go.Xe Go.RowKit
theorem bys_t32L {x : Dg} (h : x.length = 32) : List.take 32 (bys x) = bys x := List.take_of_length_le (by rw [bys_len]; omega)
end Go.Proofs.YtnljenjcaeophaaGreatDoor
