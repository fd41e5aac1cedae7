/-
  Rulings: what the rows read, and the variables that they list.
-/
import Derived.Test.YtjjaabidbeoomaaGreatDoorKQq
import Derived.Test.YtjjaabidbeoomaaGreatDoorK4
import Derived.Test.YtjjaabidbeoomaaGreatDoorCards
import Derived.Test.YtjjaabidbeoomaaGreatDoorTie
import Derived.SevenTiedAt
import Derived.Stop.Joined
set_option linter.unusedSectionVars false
set_option linter.unusedSimpArgs false
set_option linter.unusedVariables false
namespace Go.Proofs.YtjjaabidbeoomaaGreatDoor
open Go.Xe Go.RowKit

theorem Tryz.own : ownKnob Tryz.prog.godebug = none := by kernel_rfl
theorem Tryz.laidOut : laidOutB Tryz.prog = true := by kernel_rfl
def Tryz.L : List TypeId := 22 :: FL
theorem Tryz.gok : gOk Tryz.τ Tryz.L = true := by decide
def Tryz.LP : List TypeId := [3, 128]
theorem Tryz.pok : pOk Tryz.τ Tryz.LP = true := by decide
theorem ok_facts {n : Nat} {ds : List D} (h : OkD Tryz.τ n 22 ds) : ∃ l : List F, ds = [slF l] ∧ (∀ f ∈ l, fOk f) ∧ l.length ≤ 1000000000000 := by
  cases n with
  | zero => exact h.elim
  | succ n =>
    simp only [OkD, Tryz.τ22] at h
    obtain ⟨m, rfl, h1, h2⟩ := h
    have key : ∀ m : List (List D), (∀ x ∈ m, OkD Tryz.τ n 62 x) → ∃ l : List F, m.flatten = fsC l ∧ l.length = m.length ∧ ∀ f ∈ l, fOk f := by
      intro m
      induction m with
      | nil => intro _; exact ⟨[], rfl, rfl, fun _ h => by cases h⟩
      | cons x m ih =>
        intro h
        obtain ⟨f, hf, hfo⟩ := fact_of (h x (by simp))
        obtain ⟨l, h3, h4, h5⟩ := ih fun y hy => h y (by simp [hy])
        refine ⟨f :: l, ?_, by simp [h4], fun q hq => ?_⟩
        · rw [List.flatten_cons, hf, h3]; rfl
        · rcases List.mem_cons.1 hq with rfl | hq
          · exact hfo
          · exact h5 q hq
    obtain ⟨l, h3, h4, h5⟩ := key m h1
    refine ⟨l, ?_, h5, ?_⟩
    · rw [h3, ← h4]
      rfl
    · have e : tby Tryz.τ 62 = 456 := rfl
      rw [e] at h2
      omega
theorem arg_facts {n : Nat} {ds : List D} (h : OkD Tryz.τ n 22 ds) : ∃ l, argOf Tryz.τ 22 ds = slF l ∧ ((∀ f ∈ l, fOk f) ∧ l.length ≤ 1000000000000) := by
  obtain ⟨l, rfl, h1, h2⟩ := ok_facts h
  exact ⟨l, rfl, h1, h2⟩
theorem ok_int {n : Nat} {ds : List D} (h : OkD Tryz.τ n 3 ds) : ∃ x, ds = [.v (.int .i64 x)] ∧ isI x := by
  cases n with
  | zero => exact h.elim
  | succ n =>
    simp only [OkD, Tryz.τ3] at h
    exact h
theorem arg_int {n : Nat} {ds : List D} (h : OkD Tryz.τ n 3 ds) : ∃ x, argOf Tryz.τ 3 ds = .v (.int .i64 x) ∧ isI x := by
  obtain ⟨x, rfl, hx⟩ := ok_int h
  exact ⟨x, rfl, hx⟩
def laidL : List (String × DataW Unit) := [("stopwatch/facts.timeS", Rows.laid_stopwatch_facts_timeS), ("stopwatch/facts.lengthS", Rows.laid_stopwatch_facts_lengthS), ("stopwatch/facts.bibS", Rows.laid_stopwatch_facts_bibS), ("stopwatch/facts.matS", Rows.laid_stopwatch_facts_matS), ("stopwatch/facts.epochS", Rows.laid_stopwatch_facts_epochS), ("stopwatch/facts.chipS", Rows.laid_stopwatch_facts_chipS), ("stopwatch/facts.positionS", Rows.laid_stopwatch_facts_positionS), ("stopwatch/facts.caseS", Rows.laid_stopwatch_facts_caseS), ("stopwatch/facts.crewS", Rows.laid_stopwatch_facts_crewS), ("stopwatch/facts.numberS", Rows.laid_stopwatch_facts_numberS), ("stopwatch/facts.bitS", Rows.laid_stopwatch_facts_bitS)]
theorem laidL_ok : laidOkB Tryz.prog Tryz.LP laidL = true := by kernel_rfl
theorem laidL_plain : (laidL.all fun x => x.2.handleName?.isNone) = true := by kernel_rfl
/-- The door's own heap meets the condition. -/
theorem door_met (os : Os) (args : Array Value) : laidMetH Tryz.prog laidL ((World.doorLaid Tryz.prog (400) os).forCall (fun _ _ => 0) ⟨#[], args, []⟩).memory :=
  laidMetH_of_parts3 (fuel := 8) (laidMet_of_run' 8 (by kernel_rfl) (by kernel_rfl)) (by kernel_rfl) (by kernel_rfl)
theorem laid_at (g : Nat) (ds : List D) (h : Glob.laid g = some ds) : laidAt Tryz.prog laidL g = some ds := by
  dsimp only [Glob.laid, instGlob] at h
  split at h <;> cases h <;> kernel_rfl
end Go.Proofs.YtjjaabidbeoomaaGreatDoor
