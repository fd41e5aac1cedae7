/-
  Crews: what the rows read, and the variables that they list.
-/
import Derived.Test.YtnljenjcaeophaaGreatDoorSAB
import Derived.Test.YtnljenjcaeophaaGreatDoorS0
import Derived.Test.YtnljenjcaeophaaGreatDoorS4
import Derived.Test.YtnljenjcaeophaaGreatDoorCards
import Derived.Test.YtnljenjcaeophaaGreatDoorTie
import Derived.SevenTiedAt
import Derived.Stop.Joined
set_option linter.unusedVariables false
set_option linter.unusedSimpArgs false
set_option linter.unusedSectionVars false
namespace Go.Proofs.YtnljenjcaeophaaGreatDoor
open Go.Xe Go.RowKit
theorem Tryz.own : ownKnob Tryz.prog.godebug = none := by kernel_rfl
theorem Tryz.laidOut : laidOutB Tryz.prog = true := by kernel_rfl
def Tryz.L : List TypeId := [5, 74, 76, 102, 66, 68, 70, 22, 104, 23, 25, 174] ++ FL
theorem Tryz.gok : gOk Tryz.τ Tryz.L = true := by decide
theorem ok_int {n : Nat} {ds : List D} (h : OkD Tryz.τ n 3 ds) : ∃ x, ds = [.v (.int .i64 x)] ∧ isI x := by
 cases n with
 | zero => exact h.elim
 | succ n =>
  simp only [OkD, Tryz.τ3] at h
  exact h
theorem ok_byte {n : Nat} {ds : List D} (h : OkD Tryz.τ n 5 ds) : ∃ c : UInt8, ds = [byteD c] := by
 cases n with
 | zero => exact h.elim
 | succ n =>
  simp only [OkD, Tryz.τ5] at h
  obtain ⟨x, rfl, h1, h2⟩ := h
  have h1 : (0 : Int) ≤ x := h1
  have h2 : x ≤ 255 := h2
  refine ⟨UInt8.ofNat x.toNat, ?_⟩
  rw [byteD]
  simp
  omega
theorem ok_bys {n : Nat} : ∀ l : List (List D), (∀ x ∈ l, OkD Tryz.τ n 5 x) → ∃ bs : List UInt8, l.flatten = bys bs ∧ l.length = bs.length
 | [], _ => ⟨[], rfl, rfl⟩
 | x :: l, h => by
  obtain ⟨c, hc⟩ := ok_byte (h x (by simp))
  obtain ⟨bs, h2, h3⟩ := ok_bys l fun y hy => h y (by simp [hy])
  exact ⟨c :: bs, by rw [List.flatten_cons, hc, h2]; rfl, by simp [h3]⟩
theorem ok_bytes {n : Nat} {ds : List D} (h : OkD Tryz.τ n 74 ds) : ∃ bs : List UInt8, ds = [slB bs] := by
 cases n with
 | zero => exact h.elim
 | succ n =>
  simp only [OkD, Tryz.τ74] at h
  obtain ⟨l, rfl, h1, _⟩ := h
  obtain ⟨bs, h2, h3⟩ := ok_bys l h1
  exact ⟨bs, by rw [h2, h3]; rfl⟩
theorem arg_fact {n : Nat} {ds : List D} (h : OkD Tryz.τ n 65 ds) : ∃ f, argOf Tryz.τ 65 ds = fD f ∧ fOk f := by
 obtain ⟨f, rfl, h1⟩ := fact_of h
 exact ⟨f, rfl, h1⟩
abbrev Ky := List UInt8 × Int × Int
def kyD (k : Ky) : D := keyD k.1 k.2.1 k.2.2
theorem arg_key {n : Nat} {ds : List D} (h : OkD Tryz.τ n 76 ds) : ∃ k : Ky, argOf Tryz.τ 76 ds = kyD k ∧ isI k.2.1 ∧ isI k.2.2 := by
 cases n with
 | zero => exact h.elim
 | succ n =>
  simp only [OkD, Tryz.τ76] at h
  obtain ⟨l, rfl, hl, h⟩ := h
  match l, hl, h with
  | [a, b, c], _, h =>
   obtain ⟨s, rfl⟩ := ok_bytes (h 0 a (0, 74) rfl rfl)
   obtain ⟨x, rfl, hx⟩ := ok_int (h 1 b (1, 3) rfl rfl)
   obtain ⟨y, rfl, hy⟩ := ok_int (h 2 c (2, 3) rfl rfl)
   exact ⟨(s, x, y), rfl, hx, hy⟩
def zeroF : Value := .agg #[.int .i64 0, .int .i64 0, .int .i64 0, .int .i64 0, .int .i64 0, .int .i64 0, .int .i64 0, .int .i64 0, .int .i64 0, .int .i64 0, .int .i64 0, .int .i64 0, .int .i64 0, .int .i64 0, .int .i64 0, .int .i64 0, .int .i64 0, .int .i64 0, .int .i64 0, .int .i64 0, .int .i64 0, .int .i64 0, .int .i64 0, .int .i64 0, .int .i64 0, .int .i64 0, .int .i64 0, .int .i64 0, .int .i64 0, .int .i64 0, .int .i64 0, .int .i64 0, .int .i64 0, .int .i64 0, .int .i64 0, .int .i64 0, .int .i64 0, .int .i64 0, .int .i64 0, .int .i64 0, .int .i64 0, .int .i64 0, .int .i64 0, .int .i64 0, .int .i64 0, .int .i64 0, .int .i64 0, .int .i64 0, .int .i64 0, .int .i64 0, .int .i64 0, .int .i64 0, .int .i64 0, .int .i64 0, .bool false, .int .i64 0, .int .i64 0]
def Tryz.LP : List TypeId := [3, 5, 232, 277, 278, 316, 317]
theorem Tryz.pok : pOk Tryz.τ Tryz.LP = true := by decide
def laidL : List (String × DataW Unit) := [("stopwatch/digest.start", Rows.laid_stopwatch_digest_start), ("stopwatch/digest.permutations", Rows.laid_stopwatch_digest_permutations), ("stopwatch/facts.timeS", Rows.laid_stopwatch_facts_timeS), ("stopwatch/facts.lengthS", Rows.laid_stopwatch_facts_lengthS), ("stopwatch/facts.bibS", Rows.laid_stopwatch_facts_bibS), ("stopwatch/facts.matS", Rows.laid_stopwatch_facts_matS), ("stopwatch/facts.epochS", Rows.laid_stopwatch_facts_epochS), ("stopwatch/facts.chipS", Rows.laid_stopwatch_facts_chipS), ("stopwatch/facts.positionS", Rows.laid_stopwatch_facts_positionS), ("stopwatch/facts.caseS", Rows.laid_stopwatch_facts_caseS), ("stopwatch/facts.crewS", Rows.laid_stopwatch_facts_crewS), ("stopwatch/facts.numberS", Rows.laid_stopwatch_facts_numberS), ("stopwatch/facts.bitS", Rows.laid_stopwatch_facts_bitS)]
theorem laidL_ok : laidOkB Tryz.prog Tryz.LP laidL = true := by kernel_rfl
theorem laidL_plain : (laidL.all fun x => x.2.handleName?.isNone) = true := by kernel_rfl
theorem door_met (os : Os) (args : Array Value) : laidMetH Tryz.prog laidL ((World.doorLaid Tryz.prog (400) os).forCall (fun _ _ => 0) ⟨#[], args, []⟩).memory :=
 laidMetH_of_parts3 (fuel := 8) (laidMet_of_run' 8 (by kernel_rfl) (by kernel_rfl)) (by kernel_rfl) (by kernel_rfl)
theorem laid_at (g : Nat) (ds : List D) (h : Glob.laid g = some ds) : laidAt Tryz.prog laidL g = some ds := by
 dsimp only [Glob.laid, instGlob] at h
 split at h <;> cases h <;> kernel_rfl
end Go.Proofs.YtnljenjcaeophaaGreatDoor
