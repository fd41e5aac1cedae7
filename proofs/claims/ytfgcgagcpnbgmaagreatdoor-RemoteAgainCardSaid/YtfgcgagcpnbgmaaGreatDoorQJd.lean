/-
  Joined texts.
-/
import Derived.Test.YtfgcgagcpnbgmaaGreatDoorQKg
import Derived.Test.YtfgcgagcpnbgmaaGreatDoorQKh
import Derived.Test.YtfgcgagcpnbgmaaGreatDoorQJa
set_option linter.unusedVariables false
set_option linter.unusedSimpArgs false
set_option linter.unusedSectionVars false
namespace Go.Proofs.YtfgcgagcpnbgmaaGreatDoor
open Go.Xe Go.RowKit
def shF (c n t : Int) : F := fun i => if i = 0 then c else if i = 1 then n else if i = 2 then t else if i = 3 then 12 else 0
theorem shF_ok {c n t : Int} (h1 : isI c) (h2 : isI n) (h3 : isI t) : fOk (shF c n t) := by
 refine ⟨fun i => ?_, .inl rfl, fun i hi => ?_⟩
 ·unfold shF
  split
  ·exact h1
  ·split
   ·exact h2
   ·split
    ·exact h3
    ·split
     ·unfold isI; omega
     ·exact isI0
 ·unfold shF
  rw [if_neg (by omega), if_neg (by omega), if_neg (by omega), if_neg (by omega)]
def zs : List D := [.v (.int .i64 0), nilD, nilD, nilD]
end Go.Proofs.YtfgcgagcpnbgmaaGreatDoor
set_option linter.unusedVariables false
set_option linter.unusedSimpArgs false
set_option linter.unusedSectionVars false
namespace Go.Proofs.YtfgcgagcpnbgmaaGreatDoor
open Go.Xe Go.RowKit
def refS (s : Sg) : R2 := refF s.1
end Go.Proofs.YtfgcgagcpnbgmaaGreatDoor
set_option linter.unusedVariables false
set_option linter.unusedSimpArgs false
set_option linter.unusedSectionVars false
namespace Go.Proofs.YtfgcgagcpnbgmaaGreatDoor
open Go.Xe Go.RowKit
section
variable {a b : List Sg} (ha : ∀ s ∈ a, fOk s.1) (hb : ∀ s ∈ b, fOk s.1)
include ha hb
end
end Go.Proofs.YtfgcgagcpnbgmaaGreatDoor
set_option linter.unusedVariables false
set_option linter.unusedSimpArgs false
set_option linter.unusedSectionVars false
namespace Go.Proofs.YtfgcgagcpnbgmaaGreatDoor
open Go.Xe Go.RowKit
def pickA : Option R2 → List Sg → List (Sg × Sg)
 | _, [] => []
 | _, [_] => []
 | p, a :: b :: l => (if refS a = refS b ∧ p ≠ some (refS a) then [(a, b)] else []) ++ pickA (some (refS a)) (b :: l)
end Go.Proofs.YtfgcgagcpnbgmaaGreatDoor
