/-
  The rows and the cards.
-/
import Derived.Test.YtjfkeicmdaanbaaDoorKGa
import Derived.Test.YtjfkeicmdaanbaaDoorK4
import Derived.Test.YtjfkeicmdaanbaaDoorCards
import Derived.Test.YtjfkeicmdaanbaaDoorTie
import Derived.SevenTiedAt
import Derived.Stop.Joined
set_option linter.unusedSectionVars false
set_option linter.unusedSimpArgs false
set_option linter.unusedVariables false
namespace Go.Proofs.YtjfkeicmdaanbaaDoor
open Go.Xe Go.RowKit

theorem Tryd.own : ownKnob Tryd.prog.godebug = none := by kernel_rfl
theorem Tryd.laidOut : laidOutB Tryd.prog = true := by kernel_rfl
def Tryd.L : List TypeId := 5 :: 53 :: FL
theorem Tryd.gok : gOk Tryd.τ Tryd.L = true := by decide
def Tryd.LP : List TypeId := [3, 86]
theorem Tryd.pok : pOk Tryd.τ Tryd.LP = true := by decide
theorem ok_int {n : Nat} {ds : List D} (h : OkD Tryd.τ n 3 ds) : ∃ x, ds = [.v (.int .i64 x)] ∧ isI x := by
  cases n with
  | zero => exact h.elim
  | succ n =>
    simp only [OkD, Tryd.τ3] at h
    exact h
theorem ok_byte {n : Nat} {ds : List D} (h : OkD Tryd.τ n 5 ds) : ∃ c : UInt8, ds = [byteD c] := by
  cases n with
  | zero => exact h.elim
  | succ n =>
    simp only [OkD, Tryd.τ5] at h
    obtain ⟨x, rfl, h1, h2⟩ := h
    have h1 : (0 : Int) ≤ x := h1
    have h2 : x ≤ 255 := h2
    refine ⟨UInt8.ofNat x.toNat, ?_⟩
    rw [byteD]
    simp
    omega
theorem ok_bytes {n : Nat} {ds : List D} (h : OkD Tryd.τ n 53 ds) : ∃ bs : List UInt8, ds = [slB bs] := by
  cases n with
  | zero => exact h.elim
  | succ n =>
    simp only [OkD, Tryd.τ53] at h
    obtain ⟨l, rfl, h1, _⟩ := h
    have key : ∀ l : List (List D), (∀ x ∈ l, OkD Tryd.τ n 5 x) → ∃ bs : List UInt8, l.flatten = bys bs ∧ l.length = bs.length := by
      intro l
      induction l with
      | nil => intro _; exact ⟨[], rfl, rfl⟩
      | cons x l ih =>
        intro h
        obtain ⟨c, hc⟩ := ok_byte (h x (by simp))
        obtain ⟨bs, h2, h3⟩ := ih fun y hy => h y (by simp [hy])
        exact ⟨c :: bs, by rw [List.flatten_cons, hc, h2]; rfl, by simp [h3]⟩
    obtain ⟨bs, h2, h3⟩ := key l h1
    exact ⟨bs, by rw [h2, h3]; rfl⟩
theorem arg_int {n : Nat} {ds : List D} (h : OkD Tryd.τ n 3 ds) : ∃ x, argOf Tryd.τ 3 ds = .v (.int .i64 x) ∧ isI x := by
  obtain ⟨x, rfl, hx⟩ := ok_int h
  exact ⟨x, rfl, hx⟩
theorem arg_bytes {n : Nat} {ds : List D} (h : OkD Tryd.τ n 53 ds) : ∃ bs, argOf Tryd.τ 53 ds = slB bs := by
  obtain ⟨bs, rfl⟩ := ok_bytes h
  exact ⟨bs, rfl⟩
theorem arg_fact {n : Nat} {ds : List D} (h : OkD Tryd.τ n 47 ds) : ∃ f, argOf Tryd.τ 47 ds = fD f ∧ fOk f := by
  obtain ⟨f, rfl, hf⟩ := fact_of h
  exact ⟨f, rfl, hf⟩
def zeroF : Value := .agg #[.int .i64 0, .int .i64 0, .int .i64 0, .int .i64 0, .int .i64 0, .int .i64 0, .int .i64 0, .int .i64 0, .int .i64 0, .int .i64 0, .int .i64 0, .int .i64 0, .int .i64 0, .int .i64 0, .int .i64 0, .int .i64 0, .int .i64 0, .int .i64 0, .int .i64 0, .int .i64 0, .int .i64 0, .int .i64 0, .int .i64 0, .int .i64 0, .int .i64 0, .int .i64 0, .int .i64 0, .int .i64 0, .int .i64 0, .int .i64 0, .int .i64 0, .int .i64 0, .int .i64 0, .int .i64 0, .int .i64 0, .int .i64 0, .int .i64 0, .int .i64 0, .int .i64 0, .int .i64 0, .int .i64 0, .int .i64 0, .int .i64 0, .int .i64 0, .int .i64 0, .int .i64 0, .int .i64 0, .int .i64 0, .int .i64 0, .int .i64 0, .int .i64 0, .int .i64 0, .int .i64 0, .int .i64 0, .bool false, .int .i64 0, .int .i64 0]
def laidL : List (String × DataW Unit) := [("stopwatch/facts.timeS", Rows.laid_stopwatch_facts_timeS), ("stopwatch/facts.lengthS", Rows.laid_stopwatch_facts_lengthS), ("stopwatch/facts.bibS", Rows.laid_stopwatch_facts_bibS), ("stopwatch/facts.matS", Rows.laid_stopwatch_facts_matS), ("stopwatch/facts.epochS", Rows.laid_stopwatch_facts_epochS), ("stopwatch/facts.chipS", Rows.laid_stopwatch_facts_chipS), ("stopwatch/facts.positionS", Rows.laid_stopwatch_facts_positionS), ("stopwatch/facts.caseS", Rows.laid_stopwatch_facts_caseS), ("stopwatch/facts.crewS", Rows.laid_stopwatch_facts_crewS), ("stopwatch/facts.numberS", Rows.laid_stopwatch_facts_numberS), ("stopwatch/facts.bitS", Rows.laid_stopwatch_facts_bitS)]
theorem laidL_ok : laidOkB Tryd.prog Tryd.LP laidL = true := by kernel_rfl
theorem laid_at (g : Nat) (ds : List D) (h : Glob.laid g = some ds) : laidAt Tryd.prog laidL g = some ds := by
  dsimp only [Glob.laid, instGlob] at h
  split at h <;> cases h <;> kernel_rfl
theorem laidL_plain : (laidL.all fun x => x.2.handleName?.isNone) = true := by kernel_rfl
/-- The door's own heap meets the condition. -/
theorem door_met (os : Os) (args : Array Value) : laidMetH Tryd.prog laidL ((World.doorLaid Tryd.prog (400) os).forCall (fun _ _ => 0) ⟨#[], args, []⟩).memory :=
  laidMetH_of_parts3 (fuel := 8) (laidMet_of_run' 8 (by kernel_rfl) (by kernel_rfl)) (by kernel_rfl) (by kernel_rfl)
end Go.Proofs.YtjfkeicmdaanbaaDoor
