/-
  Joined texts.
-/
import Derived.Test.YtkcgffilldklcaaGreatDoorHKg
import Derived.Test.YtkcgffilldklcaaGreatDoorHKh
import Derived.Test.YtkcgffilldklcaaGreatDoorHJa
set_option linter.all false
namespace Go.Proofs.YtkcgffilldklcaaGreatDoor
open Go.Xe Go.RowKit
def shF (c n t:Int):F:=fun i=>if i=0 then c else if i=1 then n else if i=2 then t else if i=3 then 12 else 0
theorem AN_ {c n t:Int} (h1:isI c) (h2:isI n) (h3:isI t):fOk (shF c n t):=by
 refine⟨fun i=>?_,.inl rfl,fun i hi=>?_⟩
 ·unfold shF
  split
  ·exact h1
  ·split
   ·exact h2
   ·split
    ·exact h3
    ·split
     ·unfold isI;omega
     ·exact t9_
 ·unfold shF
  rw[if_neg (by omega),if_neg (by omega),if_neg (by omega),if_neg (by omega)]
def zs:List D:=[.v (.int .i64 0),E2_,E2_,E2_]
end Go.Proofs.YtkcgffilldklcaaGreatDoor
namespace Go.Proofs.YtkcgffilldklcaaGreatDoor
open Go.Xe Go.RowKit
def DK_ (s:Sg):R2:=F1_ s.1
end Go.Proofs.YtkcgffilldklcaaGreatDoor
namespace Go.Proofs.YtkcgffilldklcaaGreatDoor
open Go.Xe Go.RowKit
section
variable {a b:List Sg} (ha:∀ s∈a,fOk s.1) (hb:∀ s∈b,fOk s.1)
include ha hb
end
end Go.Proofs.YtkcgffilldklcaaGreatDoor
namespace Go.Proofs.YtkcgffilldklcaaGreatDoor
open Go.Xe Go.RowKit
def pickA:Option R2→List Sg→List (Sg×Sg)
 | _,[]=>[]
 | _,[_]=>[]
 | p,a::b::l=>(if DK_ a=DK_ b∧p≠some (DK_ a) then [(a,b)] else [])++pickA (some (DK_ a)) (b::l)
end Go.Proofs.YtkcgffilldklcaaGreatDoor
