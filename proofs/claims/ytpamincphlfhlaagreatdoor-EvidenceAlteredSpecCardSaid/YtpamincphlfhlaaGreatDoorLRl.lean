/-
  Evidence: what the rows read, and the variables that they list.
-/
import Derived.Test.YtpamincphlfhlaaGreatDoorLUn
import Derived.Test.YtpamincphlfhlaaGreatDoorL4
import Derived.Test.YtpamincphlfhlaaGreatDoorCards
import Derived.Test.YtpamincphlfhlaaGreatDoorTie
import Derived.SevenTiedAt
import Derived.Stop.Joined
set_option linter.unusedSectionVars false
set_option linter.unusedSimpArgs false
set_option linter.unusedVariables false
namespace Go.Proofs.YtpamincphlfhlaaGreatDoor
open Go.Xe Go.RowKit

theorem Tryz.own : ownKnob Tryz.prog.godebug = none := by kernel_rfl
theorem Tryz.laidOut : laidOutB Tryz.prog = true := by kernel_rfl
def Tryz.L : List TypeId := [5, 23, 25, 39, 64, 66, 68, 88] ++ FL
theorem Tryz.gok : gOk Tryz.τ Tryz.L = true := by decide
theorem ok_int {n : Nat} {ds : List D} (h : OkD Tryz.τ n 3 ds) : ∃ x, ds = [.v (.int .i64 x)] ∧ isI x := by
  cases n with
  | zero => exact h.elim
  | succ n =>
    simp only [OkD, Tryz.τ3] at h
    exact h
theorem ok_digests {n : Nat} {ds : List D} (h : OkD Tryz.τ n 64 ds) : ∃ (s n : Nat) (c : List D), ds = [.sl s c n false] := by
  cases n with
  | zero => exact h.elim
  | succ n =>
    simp only [OkD, Tryz.τ64] at h
    obtain ⟨l, rfl, _⟩ := h
    exact ⟨_, _, _, rfl⟩
theorem ok_sig {n : Nat} {ds : List D} (h : OkD Tryz.τ n 66 ds) : ∃ (k : Int) (s1 n1 s2 n2 s3 n3 : Nat) (c1 c2 c3 : List D), isI k ∧ ds = [.v (.int .i64 k), .sl s1 c1 n1 false, .sl s2 c2 n2 false, .sl s3 c3 n3 false] := by
  cases n with
  | zero => exact h.elim
  | succ n =>
    simp only [OkD, Tryz.τ66] at h
    obtain ⟨l, rfl, hl, h⟩ := h
    match l, hl, h with
    | [a, b, c, d], _, h =>
      obtain ⟨x, ha, hx⟩ := ok_int (h 0 a (0, 3) rfl rfl)
      obtain ⟨s1, n1, c1, hb⟩ := ok_digests (h 1 b (1, 64) rfl rfl)
      obtain ⟨s2, n2, c2, hc⟩ := ok_digests (h 2 c (2, 64) rfl rfl)
      obtain ⟨s3, n3, c3, hd⟩ := ok_digests (h 3 d (3, 64) rfl rfl)
      subst ha hb hc hd
      exact ⟨x, s1, n1, s2, n2, s3, n3, c1, c2, c3, hx, rfl⟩
theorem ok_signed {n : Nat} {ds : List D} (h : OkD Tryz.τ n 68 ds) : ∃ p : Sg, ds = fcs p.1 0 57 ++ p.2 ∧ sgOk p ∧ sgF p := by
  cases n with
  | zero => exact h.elim
  | succ n =>
    simp only [OkD, Tryz.τ68] at h
    obtain ⟨l, rfl, hl, h⟩ := h
    match l, hl, h with
    | [a, b], _, h =>
      obtain ⟨f, rfl, hf⟩ := fact_of (h 0 a (0, 63) rfl rfl)
      obtain ⟨k, s1, n1, s2, n2, s3, n3, c1, c2, c3, hk, rfl⟩ := ok_sig (h 1 b (57, 66) rfl rfl)
      exact ⟨(f, _), by simp, ⟨hf, rfl, by simp [oneD]⟩, k, s1, n1, s2, n2, s3, n3, c1, c2, c3, hk, rfl⟩
theorem ok_ledger {n : Nat} {ds : List D} (h : OkD Tryz.τ n 25 ds) : ∃ l : List Sg, ds = [sgD l false] ∧ (∀ p ∈ l, sgOk p ∧ sgF p) ∧ l.length ≤ 1000000000000 := by
  cases n with
  | zero => exact h.elim
  | succ n =>
    simp only [OkD, Tryz.τ25] at h
    obtain ⟨l, rfl, hl, h⟩ := h
    match l, hl, h with
    | [a], _, h =>
      have h := h 0 a (0, 23) rfl rfl
      cases n with
      | zero => exact h.elim
      | succ n =>
        simp only [OkD, Tryz.τ23] at h
        obtain ⟨m, rfl, h1, h2⟩ := h
        have key : ∀ m : List (List D), (∀ x ∈ m, OkD Tryz.τ n 68 x) → ∃ l : List Sg, m.flatten = sgC l ∧ l.length = m.length ∧ ∀ p ∈ l, sgOk p ∧ sgF p := by
          intro m
          induction m with
          | nil => intro _; exact ⟨[], rfl, rfl, fun _ h => by cases h⟩
          | cons x m ih =>
            intro h
            obtain ⟨p, hp, hpo⟩ := ok_signed (h x (by simp))
            obtain ⟨l, h3, h4, h5⟩ := ih fun y hy => h y (by simp [hy])
            refine ⟨p :: l, ?_, by simp [h4], fun q hq => ?_⟩
            · rw [List.flatten_cons, hp, h3]; rfl
            · rcases List.mem_cons.1 hq with rfl | hq
              · exact hpo
              · exact h5 q hq
        obtain ⟨l, h3, h4, h5⟩ := key m h1
        refine ⟨l, ?_, h5, ?_⟩
        · rw [h3, ← h4]
          rfl
        · have e : tby Tryz.τ 68 = 536 := rfl
          rw [e] at h2
          omega
theorem arg_ledger {n : Nat} {ds : List D} (h : OkD Tryz.τ n 25 ds) : ∃ l, argOf Tryz.τ 25 ds = lgD l false ∧ ((∀ p ∈ l, sgOk p) ∧ (∀ p ∈ l, sgF p) ∧ l.length ≤ 1000000000000) := by
  obtain ⟨l, rfl, h1, h2⟩ := ok_ledger h
  exact ⟨l, rfl, fun p hp => (h1 p hp).1, fun p hp => (h1 p hp).2, h2⟩
def zeroL : Value := .agg #[.slice none 0 0]
def Tryz.LP : List TypeId := [3, 5, 210, 228, 278, 301, 302]
theorem Tryz.pok : pOk Tryz.τ Tryz.LP = true := by decide
def laidL : List (String × DataW Unit) := [("stopwatch/digest.start", Rows.laid_stopwatch_digest_start), ("stopwatch/digest.permutations", Rows.laid_stopwatch_digest_permutations), ("stopwatch/facts.timeS", Rows.laid_stopwatch_facts_timeS), ("stopwatch/facts.lengthS", Rows.laid_stopwatch_facts_lengthS), ("stopwatch/facts.bibS", Rows.laid_stopwatch_facts_bibS), ("stopwatch/facts.matS", Rows.laid_stopwatch_facts_matS), ("stopwatch/facts.epochS", Rows.laid_stopwatch_facts_epochS), ("stopwatch/facts.chipS", Rows.laid_stopwatch_facts_chipS), ("stopwatch/facts.positionS", Rows.laid_stopwatch_facts_positionS), ("stopwatch/facts.caseS", Rows.laid_stopwatch_facts_caseS), ("stopwatch/facts.crewS", Rows.laid_stopwatch_facts_crewS), ("stopwatch/facts.numberS", Rows.laid_stopwatch_facts_numberS), ("stopwatch/facts.bitS", Rows.laid_stopwatch_facts_bitS)]
theorem laidL_ok : laidOkB Tryz.prog Tryz.LP laidL = true := by kernel_rfl
theorem laidL_plain : (laidL.all fun x => x.2.handleName?.isNone) = true := by kernel_rfl
/-- The door's own heap meets the condition. -/
theorem door_met (os : Os) (args : Array Value) : laidMetH Tryz.prog laidL ((World.doorLaid Tryz.prog (400) os).forCall (fun _ _ => 0) ⟨#[], args, []⟩).memory :=
  laidMetH_of_parts3 (fuel := 8) (laidMet_of_run' 8 (by kernel_rfl) (by kernel_rfl)) (by kernel_rfl) (by kernel_rfl)
theorem laid_at (g : Nat) (ds : List D) (h : Glob.laid g = some ds) : laidAt Tryz.prog laidL g = some ds := by
  dsimp only [Glob.laid, instGlob] at h
  split at h <;> cases h <;> kernel_rfl
end Go.Proofs.YtpamincphlfhlaaGreatDoor
