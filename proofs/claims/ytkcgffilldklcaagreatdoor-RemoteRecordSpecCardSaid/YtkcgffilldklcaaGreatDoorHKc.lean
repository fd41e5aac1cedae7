/-
  Ledgers: references as a map's keys.
-/
import Derived.Test.YtkcgffilldklcaaGreatDoorHFC
import Derived.Test.YtkcgffilldklcaaGreatDoorHEngFz
import Derived.DeepKeys5
set_option linter.all false
namespace Go.Proofs.YtkcgffilldklcaaGreatDoor
open Go.Xe Go.RowKit
theorem laidOut:laidOutB Tryz.prog=true:=by kernel_rfl
end Go.Proofs.YtkcgffilldklcaaGreatDoor
