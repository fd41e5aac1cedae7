/-
  Ledgers: a list of facts in order, each once.
-/
import Derived.Test.YtkcgffilldklcaaGreatDoorHKa
import Derived.Test.YtkcgffilldklcaaGreatDoorH8
import Derived.Test.YtkcgffilldklcaaGreatDoorHEngFz
set_option linter.all false
namespace Go.Proofs.YtkcgffilldklcaaGreatDoor
open Go.Xe Go.RowKit
@[simp] theorem Fb_ (k:Nat) (l:List F):am_ k ((fsC l).map .d)=false:=by
 induction fsC l with
 | nil=>rfl
 | cons c cs ih=>rw[List.map_cons,am_,ih];rfl
end Go.Proofs.YtkcgffilldklcaaGreatDoor
