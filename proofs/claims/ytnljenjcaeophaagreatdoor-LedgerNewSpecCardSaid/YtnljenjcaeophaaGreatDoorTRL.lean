/-
  Joined texts.
-/
import Derived.Test.YtnljenjcaeophaaGreatDoorTAB
import Derived.Test.YtnljenjcaeophaaGreatDoorT0
import Derived.Test.YtnljenjcaeophaaGreatDoorT4
import Derived.Test.YtnljenjcaeophaaGreatDoorCards
import Derived.Test.YtnljenjcaeophaaGreatDoorTie
import Derived.SevenTiedAt
import Derived.Stop.Joined
set_option linter.unusedVariables false
set_option linter.unusedSimpArgs false
set_option linter.unusedSectionVars false
namespace Go.Proofs.YtnljenjcaeophaaGreatDoor
open Go.Xe Go.RowKit
theorem Tryz.own : ownKnob Tryz.prog.godebug = none := by kernel_rfl
theorem Tryz.laidOut : laidOutB Tryz.prog = true := by kernel_rfl
def Tryz.L : List TypeId := [5, 74, 76, 102, 66, 68, 70, 22, 104, 23, 25, 174] ++ FL
theorem Tryz.gok : gOk Tryz.τ Tryz.L = true := by decide
theorem ok_int {n : Nat} {ds : List D} (h : OkD Tryz.τ n 3 ds) : ∃ x, ds = [.v (.int .i64 x)] ∧ isI x := by
 cases n with
 | zero => exact h.elim
 | succ n =>
  simp only [OkD, Tryz.τ3] at h
  exact h
theorem ok_byte {n : Nat} {ds : List D} (h : OkD Tryz.τ n 5 ds) : ∃ c : UInt8, ds = [byteD c] := by
 cases n with
 | zero => exact h.elim
 | succ n =>
  simp only [OkD, Tryz.τ5] at h
  obtain ⟨x, rfl, h1, h2⟩ := h
  have h1 : (0 : Int) ≤ x := h1
  have h2 : x ≤ 255 := h2
  refine ⟨UInt8.ofNat x.toNat, ?_⟩
  rw [byteD]
  simp
  omega
theorem ok_bys {n : Nat} : ∀ l : List (List D), (∀ x ∈ l, OkD Tryz.τ n 5 x) → ∃ bs : List UInt8, l.flatten = bys bs ∧ l.length = bs.length
 | [], _ => ⟨[], rfl, rfl⟩
 | x :: l, h => by
  obtain ⟨c, hc⟩ := ok_byte (h x (by simp))
  obtain ⟨bs, h2, h3⟩ := ok_bys l fun y hy => h y (by simp [hy])
  exact ⟨c :: bs, by rw [List.flatten_cons, hc, h2]; rfl, by simp [h3]⟩
theorem ok_dg {n : Nat} {ds : List D} (h : OkD Tryz.τ n 102 ds) : ∃ d : Dg, ds = bys d ∧ d.length = 32 := by
 cases n with
 | zero => exact h.elim
 | succ n =>
  simp only [OkD, Tryz.τ102] at h
  obtain ⟨l, rfl, h1, h2⟩ := h
  obtain ⟨bs, h3, h4⟩ := ok_bys l h2
  exact ⟨bs, h3, by rw [← h4, h1]⟩
theorem ok_dgs {n : Nat} {ds : List D} (h : OkD Tryz.τ n 66 ds) : ∃ l : List Dg, ds = [slG l] ∧ all32 l := by
 cases n with
 | zero => exact h.elim
 | succ n =>
  simp only [OkD, Tryz.τ66] at h
  obtain ⟨m, rfl, h1, _⟩ := h
  have key : ∀ m : List (List D), (∀ x ∈ m, OkD Tryz.τ n 102 x) → ∃ l : List Dg, m.flatten = dgL l ∧ m.length = l.length ∧ all32 l := by
   intro m
   induction m with
   | nil => intro _; exact ⟨[], rfl, rfl, fun _ h => by cases h⟩
   | cons x m ih =>
    intro h
    obtain ⟨d, hd, hl⟩ := ok_dg (h x (by simp))
    obtain ⟨l, h2, h3, h4⟩ := ih fun y hy => h y (by simp [hy])
    refine ⟨d :: l, by rw [List.flatten_cons, hd, h2]; rfl, by simp [h3], fun y hy => ?_⟩
    rcases List.mem_cons.1 hy with rfl | hy
    ·exact hl
    ·exact h4 y hy
  obtain ⟨l, h2, h3, h4⟩ := key m h1
  exact ⟨l, by rw [h2, h3]; rfl, h4⟩
theorem ok_crew {n : Nat} {ds : List D} (h : OkD Tryz.τ n 104 ds) : ∃ c : Crw, ds = crX c ∧ crOk c := by
 cases n with
 | zero => exact h.elim
 | succ n =>
  simp only [OkD, Tryz.τ104] at h
  obtain ⟨l, rfl, hl, h⟩ := h
  match l, hl, h with
  | [a, b], _, h =>
   obtain ⟨d, rfl, hd⟩ := ok_dg (h 0 a (0, 102) rfl rfl)
   obtain ⟨x, rfl, hx⟩ := ok_int (h 1 b (32, 3) rfl rfl)
   exact ⟨(d, x), by simp [crX], hd, hx⟩
theorem ok_crews {n : Nat} {ds : List D} (h : OkD Tryz.τ n 22 ds) : ∃ l : List Crw, ds = [crwD l] ∧ (∀ c ∈ l, crOk c) ∧ l.length ≤ 10000000000000 := by
 cases n with
 | zero => exact h.elim
 | succ n =>
  simp only [OkD, Tryz.τ22] at h
  obtain ⟨m, rfl, h1, h2⟩ := h
  have key : ∀ m : List (List D), (∀ x ∈ m, OkD Tryz.τ n 104 x) → ∃ l : List Crw, m.flatten = crC l ∧ l.length = m.length ∧ ∀ c ∈ l, crOk c := by
   intro m
   induction m with
   | nil => intro _; exact ⟨[], rfl, rfl, fun _ h => by cases h⟩
   | cons x m ih =>
    intro h
    obtain ⟨c, hc, hco⟩ := ok_crew (h x (by simp))
    obtain ⟨l, h3, h4, h5⟩ := ih fun y hy => h y (by simp [hy])
    refine ⟨c :: l, by rw [List.flatten_cons, hc, h3]; rfl, by simp [h4], fun q hq => ?_⟩
    rcases List.mem_cons.1 hq with rfl | hq
    ·exact hco
    ·exact h5 q hq
  obtain ⟨l, h3, h4, h5⟩ := key m h1
  refine ⟨l, ?_, h5, ?_⟩
  ·rw [h3, ← h4]
   rfl
  ·have e : tby Tryz.τ 104 = 40 := rfl
   rw [e] at h2
   omega
theorem arg_crews {n : Nat} {ds : List D} (h : OkD Tryz.τ n 22 ds) : ∃ l, argOf Tryz.τ 22 ds = crwD l ∧ ((∀ c ∈ l, crOk c) ∧ l.length ≤ 10000000000000) := by
 obtain ⟨l, rfl, h1, h2⟩ := ok_crews h
 exact ⟨l, rfl, h1, h2⟩
def Tryz.LP : List TypeId := [3, 5, 232, 277, 278, 316, 317]
theorem Tryz.pok : pOk Tryz.τ Tryz.LP = true := by decide
def laidL : List (String × DataW Unit) := [("stopwatch/digest.start", Rows.laid_stopwatch_digest_start), ("stopwatch/digest.permutations", Rows.laid_stopwatch_digest_permutations), ("stopwatch/facts.timeS", Rows.laid_stopwatch_facts_timeS), ("stopwatch/facts.lengthS", Rows.laid_stopwatch_facts_lengthS), ("stopwatch/facts.bibS", Rows.laid_stopwatch_facts_bibS), ("stopwatch/facts.matS", Rows.laid_stopwatch_facts_matS), ("stopwatch/facts.epochS", Rows.laid_stopwatch_facts_epochS), ("stopwatch/facts.chipS", Rows.laid_stopwatch_facts_chipS), ("stopwatch/facts.positionS", Rows.laid_stopwatch_facts_positionS), ("stopwatch/facts.caseS", Rows.laid_stopwatch_facts_caseS), ("stopwatch/facts.crewS", Rows.laid_stopwatch_facts_crewS), ("stopwatch/facts.numberS", Rows.laid_stopwatch_facts_numberS), ("stopwatch/facts.bitS", Rows.laid_stopwatch_facts_bitS)]
theorem laidL_ok : laidOkB Tryz.prog Tryz.LP laidL = true := by kernel_rfl
theorem laidL_plain : (laidL.all fun x => x.2.handleName?.isNone) = true := by kernel_rfl
theorem door_met (os : Os) (args : Array Value) : laidMetH Tryz.prog laidL ((World.doorLaid Tryz.prog (400) os).forCall (fun _ _ => 0) ⟨#[], args, []⟩).memory :=
 laidMetH_of_parts3 (fuel := 8) (laidMet_of_run' 8 (by kernel_rfl) (by kernel_rfl)) (by kernel_rfl) (by kernel_rfl)
theorem laid_at (g : Nat) (ds : List D) (h : Glob.laid g = some ds) : laidAt Tryz.prog laidL g = some ds := by
 dsimp only [Glob.laid, instGlob] at h
 split at h <;> cases h <;> kernel_rfl
theorem ok_dgsT {n : Nat} {ds : List D} (h : OkD Tryz.τ n 66 ds) : ∃ l : List Dg, ds = [slG l] ∧ all32 l ∧ l.length ≤ 10000000000000 := by
 obtain ⟨l, e, h1⟩ := ok_dgs h
 refine ⟨l, e, h1, ?_⟩
 cases n with
 | zero => exact h.elim
 | succ n =>
  simp only [OkD, Tryz.τ66] at h
  obtain ⟨m, hm, _, h2⟩ := h
  have hl : l.length = m.length := by
   rw [e] at hm
   simp only [slG, List.cons.injEq, D.sl.injEq, and_true] at hm
   exact hm.2.2
  have e : tby Tryz.τ 102 = 32 := rfl
  rw [e] at h2
  omega
theorem ok_sigT {n : Nat} {ds : List D} (h : OkD Tryz.τ n 68 ds) : ∃ (k : Int) (op cl pa : List Dg), ds = sigC k op cl pa ∧ sigG k op cl pa := by
 cases n with
 | zero => exact h.elim
 | succ n =>
  simp only [OkD, Tryz.τ68] at h
  obtain ⟨l, rfl, hl, h⟩ := h
  match l, hl, h with
  | [a, b, c, d], _, h =>
   obtain ⟨x, ha, hx⟩ := ok_int (h 0 a (0, 3) rfl rfl)
   obtain ⟨l1, hb, h1, n1⟩ := ok_dgsT (h 1 b (1, 66) rfl rfl)
   obtain ⟨l2, hc, h2, n2⟩ := ok_dgsT (h 2 c (2, 66) rfl rfl)
   obtain ⟨l3, hd, h3, n3⟩ := ok_dgsT (h 3 d (3, 66) rfl rfl)
   subst ha hb hc hd
   exact ⟨x, l1, l2, l3, rfl, hx, h1, h2, h3, n1, n2, n3⟩
theorem ok_signedT {n : Nat} {ds : List D} (h : OkD Tryz.τ n 70 ds) : ∃ p : Sg, ds = sgc p ∧ fOk p.1 ∧ sgT p := by
 cases n with
 | zero => exact h.elim
 | succ n =>
  simp only [OkD, Tryz.τ70] at h
  obtain ⟨l, rfl, hl, h⟩ := h
  match l, hl, h with
  | [a, b], _, h =>
   obtain ⟨f, rfl, hf⟩ := fact_of (h 0 a (0, 65) rfl rfl)
   obtain ⟨k, l1, l2, l3, rfl, hg⟩ := ok_sigT (h 1 b (57, 68) rfl rfl)
   exact ⟨(f, _), by simp [sgc, sigC], hf, k, l1, l2, l3, rfl, hg⟩
theorem ok_signedsT {n : Nat} {ds : List D} (h : OkD Tryz.τ n 23 ds) : ∃ l : List Sg, ds = [sgD l false] ∧ (∀ p ∈ l, fOk p.1 ∧ sgT p) ∧ l.length ≤ 1000000000000 := by
 cases n with
 | zero => exact h.elim
 | succ n =>
  simp only [OkD, Tryz.τ23] at h
  obtain ⟨m, rfl, h1, h2⟩ := h
  have key : ∀ m : List (List D), (∀ x ∈ m, OkD Tryz.τ n 70 x) → ∃ l : List Sg, m.flatten = sgC l ∧ l.length = m.length ∧ ∀ p ∈ l, fOk p.1 ∧ sgT p := by
   intro m
   induction m with
   | nil => intro _; exact ⟨[], rfl, rfl, fun _ h => by cases h⟩
   | cons x m ih =>
    intro h
    obtain ⟨p, hp, hpo⟩ := ok_signedT (h x (by simp))
    obtain ⟨l, h3, h4, h5⟩ := ih fun y hy => h y (by simp [hy])
    refine ⟨p :: l, ?_, by simp [h4], fun q hq => ?_⟩
    ·rw [List.flatten_cons, hp, h3]; rfl
    ·rcases List.mem_cons.1 hq with rfl | hq
     ·exact hpo
     ·exact h5 q hq
  obtain ⟨l, h3, h4, h5⟩ := key m h1
  refine ⟨l, ?_, h5, ?_⟩
  ·rw [h3, ← h4]
   rfl
  ·have e : tby Tryz.τ 70 = 536 := rfl
   rw [e] at h2
   omega
theorem arg_signedsT {n : Nat} {ds : List D} (h : OkD Tryz.τ n 23 ds) : ∃ l, argOf Tryz.τ 23 ds = sgD l false ∧ ((∀ p ∈ l, fOk p.1 ∧ sgT p) ∧ l.length ≤ 1000000000000) := by
 obtain ⟨l, rfl, h1⟩ := ok_signedsT h
 exact ⟨l, rfl, h1⟩
end Go.Proofs.YtnljenjcaeophaaGreatDoor
