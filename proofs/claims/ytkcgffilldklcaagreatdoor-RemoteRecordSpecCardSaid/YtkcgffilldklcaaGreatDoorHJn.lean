/-
  Evidence: the keys of a map of numbers, collected in one of several orders.
-/
import Derived.Test.YtkcgffilldklcaaGreatDoorHJd
import Derived.Test.YtkcgffilldklcaaGreatDoorHKh
import Derived.Test.YtkcgffilldklcaaGreatDoorHKc
import Derived.Test.YtkcgffilldklcaaGreatDoorHJa
import Derived.Test.YtkcgffilldklcaaGreatDoorHF
import Derived.Test.YtkcgffilldklcaaGreatDoorHEngFz
import Derived.Test.YtkcgffilldklcaaGreatDoorHEngCr
set_option linter.all false
namespace Go.Proofs.YtkcgffilldklcaaGreatDoor
open Go.Xe Go.RowKit
@[simp] theorem E7_ (ρ:Nat→Nat) (o:List Int):renL ρ (o.map (AV.d∘fun r=>D.v (.int .i64 r)))=o.map (AV.d∘fun r=>D.v (.int .i64 r)):=by
 rw[← List.map_map]
 exact xz_ ρ _
end Go.Proofs.YtkcgffilldklcaaGreatDoor
