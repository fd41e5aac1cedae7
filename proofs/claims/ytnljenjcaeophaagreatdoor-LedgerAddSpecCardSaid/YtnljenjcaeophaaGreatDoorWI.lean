/-
  Joined texts.
-/
import Derived.Test.YtnljenjcaeophaaGreatDoorWE
import Derived.Test.YtnljenjcaeophaaGreatDoorWVC
import Derived.Test.YtnljenjcaeophaaGreatDoorWZI
set_option linter.unusedVariables false
set_option linter.unusedSimpArgs false
set_option linter.unusedSectionVars false
namespace Go.Proofs.YtnljenjcaeophaaGreatDoor
open Go.Xe Go.RowKit
@[simp] theorem A4_ (ρ : Nat → Nat) (o : List Int) : renL ρ (o.map (AV.d ∘ fun r => D.v (.int .i64 r))) = o.map (AV.d ∘ fun r => D.v (.int .i64 r)) := by
 rw [← List.map_map]
 exact uu_ ρ _
end Go.Proofs.YtnljenjcaeophaaGreatDoor
namespace Go.Proofs.YtnljenjcaeophaaGreatDoor
open Go.Xe Go.RowKit
end Go.Proofs.YtnljenjcaeophaaGreatDoor
