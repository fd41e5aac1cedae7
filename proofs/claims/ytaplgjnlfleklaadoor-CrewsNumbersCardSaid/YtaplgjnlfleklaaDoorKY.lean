/-
  Joined texts.
-/
import Derived.Test.YtaplgjnlfleklaaDoorKB
import Derived.Test.YtaplgjnlfleklaaDoorKEngSs
import Derived.Test.YtaplgjnlfleklaaDoorK8
import Derived.Test.YtaplgjnlfleklaaDoorKZI
set_option linter.unusedVariables false
set_option linter.unusedSimpArgs false
set_option linter.unusedSectionVars false
/-
  Ledgers: the laying of the insertion sort at facts.
-/
set_option linter.unusedSimpArgs false
set_option linter.unusedVariables false
namespace Go.Proofs.YtaplgjnlfleklaaDoor
open Go.Xe Go.RowKit

abbrev Fk := {f : Nat → Int // fOk f}
theorem fOk0 : fOk f0 := ⟨fun _ => isI0, .inl rfl, fun _ _ => rfl⟩
instance : Inhabited Fk := ⟨⟨f0, fOk0⟩⟩
end Go.Proofs.YtaplgjnlfleklaaDoor

/-
  Ledgers: a list of facts in order, each once.
-/
set_option linter.unusedSimpArgs false
set_option linter.unusedVariables false
namespace Go.Proofs.YtaplgjnlfleklaaDoor
open Go.Xe Go.RowKit

abbrev cmpD : D := .v (.func (.func 31) #[] #[])
@[simp] theorem fsC_any (k : Nat) (l : List F) : AV.hasL k ((fsC l).map .d) = false := by
  induction fsC l with
  | nil => rfl
  | cons c cs ih => rw [List.map_cons, AV.hasL, ih]; rfl
end Go.Proofs.YtaplgjnlfleklaaDoor
