/-
  Evidence: the reference's Of and Facts.
-/
import Derived.Test.YtadfkiigjnbdgaaGreatDoorKO
import Derived.Test.YtadfkiigjnbdgaaGreatDoorKG
set_option linter.unusedSectionVars false
set_option linter.unusedSimpArgs false
set_option linter.unusedVariables false
namespace Go.Proofs.YtadfkiigjnbdgaaGreatDoor
open Go.Xe Go.RowKit

theorem refOf2_ok (f : F) : Fn0 Tryz.prog 6 [fD f] (.agg [.v (.int .i64 (f 0)), .v (.int .i64 (f 1))]) := by
  refine Fun.of_wp (pn := noPn) Tryz.tab Tryz.func6 rfl fun β0 => ?_
  simp only [Tryz.f6]
  rw [fD]
  repeat (first | apply wG | (apply wR; simp -dsimp) | refine aI ?_)
  refine WP.ret (finQ.retE ?_)
  simp -dsimp
end Go.Proofs.YtadfkiigjnbdgaaGreatDoor
