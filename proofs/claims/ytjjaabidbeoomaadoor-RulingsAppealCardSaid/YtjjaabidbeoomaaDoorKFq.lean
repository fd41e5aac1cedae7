/-
  The next number, by its place.
-/
import Derived.Test.YtjjaabidbeoomaaDoorKFo
set_option linter.unusedSectionVars false
set_option linter.unusedSimpArgs false
set_option linter.unusedVariables false
namespace Go.Proofs.YtjjaabidbeoomaaDoor
open Go.Xe Go.RowKit

/-- The number at a place; 0 behind the end. -/
def nthL (l : List V) (i : Nat) : Int := match l[i]? with
  | some v => v.num
  | none => 0
end Go.Proofs.YtjjaabidbeoomaaDoor
