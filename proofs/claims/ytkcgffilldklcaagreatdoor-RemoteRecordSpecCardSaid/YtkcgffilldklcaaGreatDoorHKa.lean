/-
  Ledgers: the laying of the insertion sort at facts.
-/
import Derived.Test.YtkcgffilldklcaaGreatDoorHKp
import Derived.Test.YtkcgffilldklcaaGreatDoorHEngFz
import Derived.Test.YtkcgffilldklcaaGreatDoorH8
set_option linter.all false
namespace Go.Proofs.YtkcgffilldklcaaGreatDoor
open Go.Xe Go.RowKit
abbrev Fk:={f:Nat→Int // fOk f}
theorem F4_:fOk f0:=⟨fun _=>t9_,.inl rfl,fun _ _=>rfl⟩
instance:Inhabited Fk:=⟨⟨f0,F4_⟩⟩
end Go.Proofs.YtkcgffilldklcaaGreatDoor
