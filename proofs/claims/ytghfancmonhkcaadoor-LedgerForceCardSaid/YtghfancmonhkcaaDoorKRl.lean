/-
  Ledgers: what the rows read, and the variables that they list.
-/
import Derived.Test.YtghfancmonhkcaaDoorKB
import Derived.Test.YtghfancmonhkcaaDoorKC
import Derived.Test.YtghfancmonhkcaaDoorK4
import Derived.Test.YtghfancmonhkcaaDoorCards
import Derived.Test.YtghfancmonhkcaaDoorTie
import Derived.SevenTiedAt
import Derived.Stop.Joined
set_option linter.unusedSectionVars false
set_option linter.unusedSimpArgs false
set_option linter.unusedVariables false
namespace Go.Proofs.YtghfancmonhkcaaDoor
open Go.Xe Go.RowKit

theorem Tryd.own : ownKnob Tryd.prog.godebug = none := by kernel_rfl
theorem Tryd.laidOut : laidOutB Tryd.prog = true := by kernel_rfl
def Tryd.L : List TypeId := [5, 22, 24, 55, 57, 59, 93] ++ FL
theorem Tryd.gok : gOk Tryd.τ Tryd.L = true := by decide
theorem ok_int {n : Nat} {ds : List D} (h : OkD Tryd.τ n 3 ds) : ∃ x, ds = [.v (.int .i64 x)] ∧ isI x := by
  cases n with
  | zero => exact h.elim
  | succ n =>
    simp only [OkD, Tryd.τ3] at h
    exact h
theorem ok_digests {n : Nat} {ds : List D} (h : OkD Tryd.τ n 55 ds) : ∃ d, ds = [d] ∧ oneD d = true := by
  cases n with
  | zero => exact h.elim
  | succ n =>
    simp only [OkD, Tryd.τ55] at h
    obtain ⟨l, rfl, _⟩ := h
    exact ⟨_, rfl, rfl⟩
theorem ok_sig {n : Nat} {ds : List D} (h : OkD Tryd.τ n 57 ds) : ds.length = 4 ∧ ∀ d ∈ ds, oneD d = true := by
  cases n with
  | zero => exact h.elim
  | succ n =>
    simp only [OkD, Tryd.τ57] at h
    obtain ⟨l, rfl, hl, h⟩ := h
    match l, hl, h with
    | [a, b, c, d], _, h =>
      obtain ⟨x, ha, _⟩ := ok_int (h 0 a (0, 3) rfl rfl)
      obtain ⟨y, hb, hy⟩ := ok_digests (h 1 b (1, 55) rfl rfl)
      obtain ⟨z, hc, hz⟩ := ok_digests (h 2 c (2, 55) rfl rfl)
      obtain ⟨u, hd, hu⟩ := ok_digests (h 3 d (3, 55) rfl rfl)
      subst ha hb hc hd
      refine ⟨rfl, fun e he => ?_⟩
      simp at he
      rcases he with rfl | rfl | rfl | rfl
      · rfl
      · exact hy
      · exact hz
      · exact hu
theorem ok_signed {n : Nat} {ds : List D} (h : OkD Tryd.τ n 59 ds) : ∃ p : Sg, ds = fcs p.1 0 57 ++ p.2 ∧ sgOk p := by
  cases n with
  | zero => exact h.elim
  | succ n =>
    simp only [OkD, Tryd.τ59] at h
    obtain ⟨l, rfl, hl, h⟩ := h
    match l, hl, h with
    | [a, b], _, h =>
      obtain ⟨f, rfl, hf⟩ := fact_of (h 0 a (0, 54) rfl rfl)
      obtain ⟨h1, h2⟩ := ok_sig (h 1 b (57, 57) rfl rfl)
      exact ⟨(f, b), by simp, hf, h1, h2⟩
theorem ok_ledger {n : Nat} {ds : List D} (h : OkD Tryd.τ n 24 ds) : ∃ l : List Sg, ds = [sgD l false] ∧ (∀ p ∈ l, sgOk p) ∧ l.length ≤ 1000000000000 := by
  cases n with
  | zero => exact h.elim
  | succ n =>
    simp only [OkD, Tryd.τ24] at h
    obtain ⟨l, rfl, hl, h⟩ := h
    match l, hl, h with
    | [a], _, h =>
      have h := h 0 a (0, 22) rfl rfl
      cases n with
      | zero => exact h.elim
      | succ n =>
        simp only [OkD, Tryd.τ22] at h
        obtain ⟨m, rfl, h1, h2⟩ := h
        have key : ∀ m : List (List D), (∀ x ∈ m, OkD Tryd.τ n 59 x) → ∃ l : List Sg, m.flatten = sgC l ∧ l.length = m.length ∧ ∀ p ∈ l, sgOk p := by
          intro m
          induction m with
          | nil => intro _; exact ⟨[], rfl, rfl, fun _ h => by cases h⟩
          | cons x m ih =>
            intro h
            obtain ⟨p, hp, hpo⟩ := ok_signed (h x (by simp))
            obtain ⟨l, h3, h4, h5⟩ := ih fun y hy => h y (by simp [hy])
            refine ⟨p :: l, ?_, by simp [h4], fun q hq => ?_⟩
            · rw [List.flatten_cons, hp, h3]; rfl
            · rcases List.mem_cons.1 hq with rfl | hq
              · exact hpo
              · exact h5 q hq
        obtain ⟨l, h3, h4, h5⟩ := key m h1
        refine ⟨l, ?_, h5, ?_⟩
        · rw [h3, ← h4]
          rfl
        · have e : tby Tryd.τ 59 = 536 := rfl
          rw [e] at h2
          omega
theorem arg_int {n : Nat} {ds : List D} (h : OkD Tryd.τ n 3 ds) : ∃ x, argOf Tryd.τ 3 ds = .v (.int .i64 x) ∧ isI x := by
  obtain ⟨x, rfl, hx⟩ := ok_int h
  exact ⟨x, rfl, hx⟩
theorem arg_ledger {n : Nat} {ds : List D} (h : OkD Tryd.τ n 24 ds) : ∃ l, argOf Tryd.τ 24 ds = lgD l false ∧ ((∀ p ∈ l, sgOk p) ∧ l.length ≤ 1000000000000) := by
  obtain ⟨l, rfl, h1, h2⟩ := ok_ledger h
  exact ⟨l, rfl, h1, h2⟩
def zeroL : Value := .agg #[.slice none 0 0]
def Tryd.LP : List TypeId := [3, 5, 113, 176, 177, 186, 187]
theorem Tryd.pok : pOk Tryd.τ Tryd.LP = true := by decide
def laidL : List (String × DataW Unit) := [("stopwatch/digest.start", Rows.laid_stopwatch_digest_start), ("stopwatch/digest.permutations", Rows.laid_stopwatch_digest_permutations), ("stopwatch/facts.timeS", Rows.laid_stopwatch_facts_timeS), ("stopwatch/facts.lengthS", Rows.laid_stopwatch_facts_lengthS), ("stopwatch/facts.bibS", Rows.laid_stopwatch_facts_bibS), ("stopwatch/facts.matS", Rows.laid_stopwatch_facts_matS), ("stopwatch/facts.epochS", Rows.laid_stopwatch_facts_epochS), ("stopwatch/facts.chipS", Rows.laid_stopwatch_facts_chipS), ("stopwatch/facts.positionS", Rows.laid_stopwatch_facts_positionS), ("stopwatch/facts.caseS", Rows.laid_stopwatch_facts_caseS), ("stopwatch/facts.crewS", Rows.laid_stopwatch_facts_crewS), ("stopwatch/facts.numberS", Rows.laid_stopwatch_facts_numberS), ("stopwatch/facts.bitS", Rows.laid_stopwatch_facts_bitS)]
theorem laidL_ok : laidOkB Tryd.prog Tryd.LP laidL = true := by kernel_rfl
theorem laidL_plain : (laidL.all fun x => x.2.handleName?.isNone) = true := by kernel_rfl
/-- The door's own heap meets the condition. -/
theorem door_met (os : Os) (args : Array Value) : laidMetH Tryd.prog laidL ((World.doorLaid Tryd.prog (400) os).forCall (fun _ _ => 0) ⟨#[], args, []⟩).memory :=
  laidMetH_of_parts3 (fuel := 8) (laidMet_of_run' 8 (by kernel_rfl) (by kernel_rfl)) (by kernel_rfl) (by kernel_rfl)
theorem laid_at (g : Nat) (ds : List D) (h : Glob.laid g = some ds) : laidAt Tryd.prog laidL g = some ds := by
  dsimp only [Glob.laid, instGlob] at h
  split at h <;> cases h <;> kernel_rfl
end Go.Proofs.YtghfancmonhkcaaDoor
