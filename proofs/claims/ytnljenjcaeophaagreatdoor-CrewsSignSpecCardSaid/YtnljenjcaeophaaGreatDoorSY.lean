/-
  Joined texts.
-/
import Derived.Test.YtnljenjcaeophaaGreatDoorS8
import Derived.Shelf.SlSortCmp.InsertionK
import Derived.Shelf.SlSortCmp.NoneTotal
import Derived.Test.YtnljenjcaeophaaGreatDoorSB
import Derived.Test.YtnljenjcaeophaaGreatDoorSZI
set_option linter.unusedVariables false
set_option linter.unusedSimpArgs false
set_option linter.unusedSectionVars false
namespace Go.Xe
open Go.RowKit Go.Sort Go.Shelf
variable [Glob]
section
variable {α : Type} [Inhabited α]
end
end Go.Xe
namespace Go.Proofs.YtnljenjcaeophaaGreatDoor
open Go.Xe Go.RowKit
abbrev Fk := {f : Nat → Int // fOk f}
theorem fOk0 : fOk f0 := ⟨fun _ => isI0, .inl rfl, fun _ _ => rfl⟩
instance : Inhabited Fk := ⟨⟨f0, fOk0⟩⟩
abbrev cmpD : D := .v (.func (.func 39) #[] #[])
@[simp] theorem Leq_fD (f : F) : Leq (.agg ((fcs f 0 57).map .d)) (.d (fD f)) ↔ True := ⟨fun _ => trivial, fun _ => Leq.aggD _⟩
@[simp] theorem fsC_any (k : Nat) (l : List F) : AV.hasL k ((fsC l).map .d) = false := by
 induction fsC l with
 | nil => rfl
 | cons c cs ih => rw [List.map_cons, AV.hasL, ih]; rfl
end Go.Proofs.YtnljenjcaeophaaGreatDoor
