/-
  Joined texts.
-/
import Derived.Test.YtnljenjcaeophaaGreatDoorSD
import Derived.Test.YtnljenjcaeophaaGreatDoorSVC
import Derived.Test.YtnljenjcaeophaaGreatDoorSZI
import Derived.Test.YtnljenjcaeophaaGreatDoorS8
import Derived.Shelf.SlSortCmp.Whole1
set_option linter.unusedVariables false
set_option linter.unusedSimpArgs false
set_option linter.unusedSectionVars false
namespace Go.Proofs.YtnljenjcaeophaaGreatDoor
open Go.Xe Go.RowKit
def rfC (o : List R2) : List D := o.flatMap fun r => [.v (.int .i64 r.1), .v (.int .i64 r.2)]
@[simp] theorem rfC_len : ∀ o : List R2, (rfC o).length = o.length * 2
 | [] => rfl
 | r :: o => by rw [show rfC (r :: o) = [.v (.int .i64 r.1), .v (.int .i64 r.2)] ++ rfC o from rfl, List.length_append, rfC_len o, List.length_cons]; simp; omega
theorem rfC_append (a b : List R2) : rfC (a ++ b) = rfC a ++ rfC b := by simp [rfC]
end Go.Proofs.YtnljenjcaeophaaGreatDoor
namespace Go.Xe
open Go.RowKit Go.Sort Go.Shelf
variable [Glob]
section
variable {α : Type} [Inhabited α]
end
end Go.Xe
