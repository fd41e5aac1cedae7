/-
  Joined texts.
-/
import Derived.Test.YtnljenjcaeophaaGreatDoorSFe
import Derived.Test.YtnljenjcaeophaaGreatDoorSFf
import Derived.Test.YtnljenjcaeophaaGreatDoorSEngMa
import Derived.DeepKeys5
import Derived.Test.YtnljenjcaeophaaGreatDoorSW
import Derived.Test.YtnljenjcaeophaaGreatDoorSB
set_option linter.unusedVariables false
set_option linter.unusedSimpArgs false
set_option linter.unusedSectionVars false
namespace Go.Proofs.YtnljenjcaeophaaGreatDoor
open Go.Xe Go.RowKit
def refV (r : Int × Int) : Value := .agg #[.int .i64 r.1, .int .i64 r.2]
theorem refV_inj {r s : Int × Int} (h : refV r = refV s) : r = s := by
 simp [refV] at h
 exact Prod.ext h.1 h.2
theorem nty : Tryz.prog.types.size = 362 := by kernel_rfl
theorem laidOut : laidOutB Tryz.prog = true := by kernel_rfl
def addRef (l : List (Int × Int)) (r : Int × Int) : List (Int × Int) := if r ∈ l then l else l ++ [r]
theorem addRef_in {l : List (Int × Int)} {r s : Int × Int} : s ∈ addRef l r ↔ s ∈ l ∨ s = r := by
 unfold addRef
 split
 ·rename_i h
  exact ⟨.inl, fun h' => h'.elim id fun e => e ▸ h⟩
 ·simp
theorem ref_leq (a b : Int) : Leq (.agg [.d (.v (.int .i64 a)), .d (.v (.int .i64 b))]) (.d (.v (refV (a, b)))) := fun w I β v hv => by
 obtain ⟨vs, rfl, x, vs1, rfl, h1, y, vs2, rfl, h2, h3⟩ := hv
 have h3 : vs2 = [] := h3
 subst h3
 rw [DenA_v] at h1 h2
 subst h1; subst h2
 exact DenA_v.2 rfl
end Go.Proofs.YtnljenjcaeophaaGreatDoor
