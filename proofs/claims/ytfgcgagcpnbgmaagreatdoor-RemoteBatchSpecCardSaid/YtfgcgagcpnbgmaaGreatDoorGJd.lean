/-
  Joined texts.
-/
import Derived.Test.YtfgcgagcpnbgmaaGreatDoorGKg
import Derived.Test.YtfgcgagcpnbgmaaGreatDoorGKh
import Derived.Test.YtfgcgagcpnbgmaaGreatDoorGJa
set_option linter.all false
namespace Go.Proofs.YtfgcgagcpnbgmaaGreatDoor
open Go.Xe Go.RowKit
def shF (c n t:Int):F:=fun i=>if i=0 then c else if i=1 then n else if i=2 then t else if i=3 then 12 else 0
theorem AG_ {c n t:Int} (h1:isI c) (h2:isI n) (h3:isI t):fOk (shF c n t):=by
 refine⟨fun i=>?_,.inl rfl,fun i hi=>?_⟩
 ·unfold shF
  split
  ·exact h1
  ·split
   ·exact h2
   ·split
    ·exact h3
    ·split
     ·unfold isI;omega
     ·exact t9_
 ·unfold shF
  rw[if_neg (by omega),if_neg (by omega),if_neg (by omega),if_neg (by omega)]
def zs:List D:=[.v (.int .i64 0),EW_,EW_,EW_]
end Go.Proofs.YtfgcgagcpnbgmaaGreatDoor
namespace Go.Proofs.YtfgcgagcpnbgmaaGreatDoor
open Go.Xe Go.RowKit
def DB_ (s:Sg):R2:=FV_ s.1
end Go.Proofs.YtfgcgagcpnbgmaaGreatDoor
namespace Go.Proofs.YtfgcgagcpnbgmaaGreatDoor
open Go.Xe Go.RowKit
section
variable {a b:List Sg} (ha:∀ s∈a,fOk s.1) (hb:∀ s∈b,fOk s.1)
include ha hb
end
end Go.Proofs.YtfgcgagcpnbgmaaGreatDoor
namespace Go.Proofs.YtfgcgagcpnbgmaaGreatDoor
open Go.Xe Go.RowKit
def pickA:Option R2→List Sg→List (Sg×Sg)
 | _,[]=>[]
 | _,[_]=>[]
 | p,a::b::l=>(if DB_ a=DB_ b∧p≠some (DB_ a) then [(a,b)] else [])++pickA (some (DB_ a)) (b::l)
end Go.Proofs.YtfgcgagcpnbgmaaGreatDoor
