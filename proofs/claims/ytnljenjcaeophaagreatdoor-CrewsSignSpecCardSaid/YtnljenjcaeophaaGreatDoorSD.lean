/-
  Joined texts.
-/
import Derived.Test.YtnljenjcaeophaaGreatDoorSC
import Derived.Test.YtnljenjcaeophaaGreatDoorSZ
import Derived.Test.YtnljenjcaeophaaGreatDoorSF
set_option linter.unusedVariables false
set_option linter.unusedSimpArgs false
set_option linter.unusedSectionVars false
namespace Go.Proofs.YtnljenjcaeophaaGreatDoor
open Go.Xe Go.RowKit
def cmpR (a b : R2) : Int := orL [cmpI a.1 b.1, cmpI a.2 b.2]
abbrev rfD (r : R2) : D := .agg [.v (.int .i64 r.1), .v (.int .i64 r.2)]
theorem or_row2 (a b : Int) : Fun Tryz.prog 84 [.row 1000] [(1000, .row 3 1 2 [.d (.v (.int .i64 a)), .d (.v (.int .i64 b))])] (.d (.v (.int .i64 (orL [a, b])))) [] fun _ => False :=
 Fun.ofRow 1000 (T := 3) (cs := iD [a, b]) (or_ok [a, b] (by simp)) rfl rfl trivial
theorem refV_leq (r : R2) : Leq (.d (.v (refV r))) (.agg [.d (.v (.int .i64 r.1)), .d (.v (.int .i64 r.2))]) := fun w I β v hv => by
 rw [DenA_v] at hv
 subst hv
 exact ⟨[.int .i64 r.1, .int .i64 r.2], rfl, _, _, rfl, DenA_v.2 rfl, _, _, rfl, DenA_v.2 rfl, rfl⟩
def keyO : Value → R2
 | .agg #[.int _ a, .int _ b] => (a, b)
 | _ => (0, 0)
theorem keyO_V (r : R2) : keyO (refV r) = r := rfl
end Go.Proofs.YtnljenjcaeophaaGreatDoor
