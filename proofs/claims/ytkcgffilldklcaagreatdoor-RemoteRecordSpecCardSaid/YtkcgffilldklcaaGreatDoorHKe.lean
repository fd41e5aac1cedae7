/-
  Ledgers: of facts next to one another that are the same, the first.
-/
import Derived.Test.YtkcgffilldklcaaGreatDoorHKb
set_option linter.all false
namespace Go.Proofs.YtkcgffilldklcaaGreatDoor
open Go.Xe Go.RowKit
@[simp] def rBk (l:List F):Box:=.row 59 57 l.length ((fsC l).map .d)
end Go.Proofs.YtkcgffilldklcaaGreatDoor
