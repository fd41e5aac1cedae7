/-
  Joined texts.
-/
import Derived.Test.YtaplgjnlfleklaaDoorKE
import Derived.Test.YtaplgjnlfleklaaDoorKVC
import Derived.Test.YtaplgjnlfleklaaDoorKZI
set_option linter.unusedVariables false
set_option linter.unusedSimpArgs false
set_option linter.unusedSectionVars false
/-
  Evidence: the keys of a map of numbers, in one of several orders.
-/
set_option linter.unusedSimpArgs false
set_option linter.unusedVariables false
namespace Go.Proofs.YtaplgjnlfleklaaDoor
open Go.Xe Go.RowKit

end Go.Proofs.YtaplgjnlfleklaaDoor

/-
  Evidence: the keys of a map of numbers, collected in one of several orders.
-/
set_option linter.unusedSimpArgs false
set_option linter.unusedVariables false
namespace Go.Proofs.YtaplgjnlfleklaaDoor
open Go.Xe Go.RowKit

@[simp] theorem ifC_ren (ρ : Nat → Nat) (o : List Int) : renL ρ (o.map (AV.d ∘ fun r => D.v (.int .i64 r))) = o.map (AV.d ∘ fun r => D.v (.int .i64 r)) := by
  rw [← List.map_map]
  exact renL_d ρ _
end Go.Proofs.YtaplgjnlfleklaaDoor

/-
  Evidence: the library's order of whole numbers.
-/
set_option linter.unusedSimpArgs false
set_option linter.unusedVariables false
namespace Go.Proofs.YtaplgjnlfleklaaDoor
open Go.Xe Go.RowKit

end Go.Proofs.YtaplgjnlfleklaaDoor

/-
  Evidence: the length of a small number in bits.
-/
set_option linter.unusedSimpArgs false
set_option linter.unusedVariables false
namespace Go.Proofs.YtaplgjnlfleklaaDoor
open Go.Xe Go.RowKit

end Go.Proofs.YtaplgjnlfleklaaDoor

/-
  Evidence: the length of a small word in bits.
-/
set_option linter.unusedSimpArgs false
set_option linter.unusedVariables false
namespace Go.Proofs.YtaplgjnlfleklaaDoor
open Go.Xe Go.RowKit

end Go.Proofs.YtaplgjnlfleklaaDoor
