/-
  Evidence: what the rows read, and the variables that they list.
-/
import Derived.Test.YtadfkiigjnbdgaaGreatDoorKUn
import Derived.Test.YtadfkiigjnbdgaaGreatDoorK4
import Derived.Test.YtadfkiigjnbdgaaGreatDoorCards
import Derived.Test.YtadfkiigjnbdgaaGreatDoorTie
import Derived.SevenTiedAt
import Derived.Stop.Joined
set_option linter.unusedSectionVars false
set_option linter.unusedSimpArgs false
set_option linter.unusedVariables false
namespace Go.Proofs.YtadfkiigjnbdgaaGreatDoor
open Go.Xe Go.RowKit

theorem Tryz.own : ownKnob Tryz.prog.godebug = none := by kernel_rfl
theorem Tryz.laidOut : laidOutB Tryz.prog = true := by kernel_rfl
def Tryz.L : List TypeId := [5, 22, 24, 26, 54, 56, 58, 145] ++ FL
theorem Tryz.gok : gOk Tryz.τ Tryz.L = true := by decide
theorem ok_int {n : Nat} {ds : List D} (h : OkD Tryz.τ n 3 ds) : ∃ x, ds = [.v (.int .i64 x)] ∧ isI x := by
  cases n with
  | zero => exact h.elim
  | succ n =>
    simp only [OkD, Tryz.τ3] at h
    exact h
theorem ok_ref {n : Nat} {ds : List D} (h : OkD Tryz.τ n 26 ds) : ∃ r : R2, ds = [.v (.int .i64 r.1), .v (.int .i64 r.2)] ∧ isI r.1 ∧ isI r.2 := by
  cases n with
  | zero => exact h.elim
  | succ n =>
    simp only [OkD, Tryz.τ26] at h
    obtain ⟨l, rfl, hl, h⟩ := h
    match l, hl, h with
    | [a, b], _, h =>
      obtain ⟨x, rfl, hx⟩ := ok_int (h 0 a (0, 3) rfl rfl)
      obtain ⟨y, rfl, hy⟩ := ok_int (h 1 b (1, 3) rfl rfl)
      exact ⟨(x, y), rfl, hx, hy⟩
theorem arg_ref {n : Nat} {ds : List D} (h : OkD Tryz.τ n 26 ds) : ∃ r : R2, argOf Tryz.τ 26 ds = rfD r ∧ isI r.1 ∧ isI r.2 := by
  obtain ⟨r, rfl, h1, h2⟩ := ok_ref h
  exact ⟨r, rfl, h1, h2⟩
def zeroR : Value := .agg #[.int .i64 0, .int .i64 0]
def zeroL : Value := .agg #[.slice none 0 0]
def Tryz.LP : List TypeId := [3, 5, 166, 181, 263, 274, 275]
theorem Tryz.pok : pOk Tryz.τ Tryz.LP = true := by decide
def laidL : List (String × DataW Unit) := [("stopwatch/digest.start", Rows.laid_stopwatch_digest_start), ("stopwatch/digest.permutations", Rows.laid_stopwatch_digest_permutations), ("stopwatch/facts.timeS", Rows.laid_stopwatch_facts_timeS), ("stopwatch/facts.lengthS", Rows.laid_stopwatch_facts_lengthS), ("stopwatch/facts.bibS", Rows.laid_stopwatch_facts_bibS), ("stopwatch/facts.matS", Rows.laid_stopwatch_facts_matS), ("stopwatch/facts.epochS", Rows.laid_stopwatch_facts_epochS), ("stopwatch/facts.chipS", Rows.laid_stopwatch_facts_chipS), ("stopwatch/facts.positionS", Rows.laid_stopwatch_facts_positionS), ("stopwatch/facts.caseS", Rows.laid_stopwatch_facts_caseS), ("stopwatch/facts.crewS", Rows.laid_stopwatch_facts_crewS), ("stopwatch/facts.numberS", Rows.laid_stopwatch_facts_numberS), ("stopwatch/facts.bitS", Rows.laid_stopwatch_facts_bitS)]
theorem laidL_ok : laidOkB Tryz.prog Tryz.LP laidL = true := by kernel_rfl
theorem laidL_plain : (laidL.all fun x => x.2.handleName?.isNone) = true := by kernel_rfl
theorem door_met (os : Os) (args : Array Value) : laidMetH Tryz.prog laidL ((World.doorLaid Tryz.prog (400) os).forCall (fun _ _ => 0) ⟨#[], args, []⟩).memory :=
  laidMetH_of_parts3 (fuel := 8) (laidMet_of_run' 8 (by kernel_rfl) (by kernel_rfl)) (by kernel_rfl) (by kernel_rfl)
theorem laid_at (g : Nat) (ds : List D) (h : Glob.laid g = some ds) : laidAt Tryz.prog laidL g = some ds := by
  dsimp only [Glob.laid, instGlob] at h
  split at h <;> cases h <;> kernel_rfl
end Go.Proofs.YtadfkiigjnbdgaaGreatDoor
