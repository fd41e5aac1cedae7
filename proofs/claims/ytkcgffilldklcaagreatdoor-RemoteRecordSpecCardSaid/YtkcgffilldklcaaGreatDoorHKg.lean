/-
  Ledgers: the set of a list of facts.
-/
import Derived.Test.YtkcgffilldklcaaGreatDoorHKe
set_option linter.all false
namespace Go.Proofs.YtkcgffilldklcaaGreatDoor
open Go.Xe Go.RowKit
abbrev E2_:D:=.v (.slice none 0 0)
end Go.Proofs.YtkcgffilldklcaaGreatDoor
