/-
  Joined texts.
-/
import Derived.Test.YtpamincphlfhlaaGreatDoorLW
import Derived.Test.YtpamincphlfhlaaGreatDoorLB
import Derived.Test.YtpamincphlfhlaaGreatDoorLUn
import Derived.Test.YtpamincphlfhlaaGreatDoorLZ
set_option linter.unusedVariables false
set_option linter.unusedSimpArgs false
set_option linter.unusedSectionVars false
/-
  Ledgers: what the valid facts of a ledger are.
-/
set_option linter.unusedSimpArgs false
set_option linter.unusedVariables false
namespace Go.Proofs.YtpamincphlfhlaaGreatDoor
open Go.Xe Go.RowKit

end Go.Proofs.YtpamincphlfhlaaGreatDoor

/-
  Evidence: the plain law of Complete.
-/
set_option linter.unusedSimpArgs false
set_option linter.unusedVariables false
namespace Go.Proofs.YtpamincphlfhlaaGreatDoor
open Go.Xe Go.RowKit

theorem numF_head {f : F} (h : (numF f).2 = true) : headE.all (inE f (susp f)) = true := by
  unfold numF at h
  split at h
  · cases h
  · split at h
    · rename_i hc
      rw [Bool.and_eq_true, List.all_append, Bool.and_eq_true] at hc
      exact hc.2.1
    · cases h
theorem num_head {f : F} (h : (numF f).2 = true) : 0 ≤ f 0 ∧ f 0 ≤ 31 ∧ 1 ≤ f 1 := by
  have := numF_head h
  simp [headE, inE, valE] at this
  obtain ⟨_, ⟨h1, h2⟩, ⟨h3, _⟩, _⟩ := this
  exact ⟨of_decide_eq_true h1, of_decide_eq_true h2, of_decide_eq_true h3⟩
theorem vF_head {l : List Sg} {f : F} (h : f ∈ vF l) : 0 ≤ f 0 ∧ f 0 ≤ 31 ∧ 1 ≤ f 1 := by
  obtain ⟨s, _, rfl, hs⟩ := vF_iff.1 h
  exact num_head hs
end Go.Proofs.YtpamincphlfhlaaGreatDoor
