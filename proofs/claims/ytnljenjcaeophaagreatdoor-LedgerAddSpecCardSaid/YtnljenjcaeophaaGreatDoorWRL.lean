/-
  Joined texts.
-/
import Derived.Test.YtnljenjcaeophaaGreatDoorWAB
import Derived.Test.YtnljenjcaeophaaGreatDoorW0
import Derived.Test.YtnljenjcaeophaaGreatDoorW4
import Derived.Test.YtnljenjcaeophaaGreatDoorCards
import Derived.Test.YtnljenjcaeophaaGreatDoorTie
import Derived.SevenTiedAt
import Derived.Stop.Joined
set_option linter.unusedVariables false
set_option linter.unusedSimpArgs false
set_option linter.unusedSectionVars false
namespace Go.Proofs.YtnljenjcaeophaaGreatDoor
open Go.Xe Go.RowKit
theorem uf_ : ownKnob Tryz.prog.godebug = none := by kernel_rfl
theorem l6_ : laidOutB Tryz.prog = true := by kernel_rfl
def zk_ : List TypeId := [5, 74, 76, 102, 66, 68, 70, 22, 104, 23, 25, 174] ++ FL
theorem ug_ : gOk al_ zk_ = true := by decide
theorem uy_ {n : Nat} {ds : List D} (h : OkD al_ n 3 ds) : ∃ x, ds = [.v (.int .i64 x)] ∧ isI x := by
 cases n with
 | zero => exact h.elim
 | succ n =>
  simp only [OkD, ww_] at h
  exact h
theorem vK_ {n : Nat} {ds : List D} (h : OkD al_ n 5 ds) : ∃ c : UInt8, ds = [aT_ c] := by
 cases n with
 | zero => exact h.elim
 | succ n =>
  simp only [OkD, sH_] at h
  obtain ⟨x, rfl, h1, h2⟩ := h
  have h1 : (0 : Int) ≤ x := h1
  have h2 : x ≤ 255 := h2
  refine ⟨UInt8.ofNat x.toNat, ?_⟩
  rw [aT_]
  simp
  omega
theorem uz_ {n : Nat} : ∀ l : List (List D), (∀ x ∈ l, OkD al_ n 5 x) → ∃ bs : List UInt8, l.flatten = bys bs ∧ l.length = bs.length
 | [], _ => ⟨[], rfl, rfl⟩
 | x :: l, h => by
  obtain ⟨c, hc⟩ := vK_ (h x (by simp))
  obtain ⟨bs, h2, h3⟩ := uz_ l fun y hy => h y (by simp [hy])
  exact ⟨c :: bs, by rw [List.flatten_cons, hc, h2]; rfl, by simp [h3]⟩
theorem xA_ {n : Nat} {ds : List D} (h : OkD al_ n 102 ds) : ∃ d : Dg, ds = bys d ∧ d.length = 32 := by
 cases n with
 | zero => exact h.elim
 | succ n =>
  simp only [OkD, fC_] at h
  obtain ⟨l, rfl, h1, h2⟩ := h
  obtain ⟨bs, h3, h4⟩ := uz_ l h2
  exact ⟨bs, h3, by rw [← h4, h1]⟩
theorem xz_ {n : Nat} {ds : List D} (h : OkD al_ n 66 ds) : ∃ l : List Dg, ds = [slG l] ∧ bi_ l := by
 cases n with
 | zero => exact h.elim
 | succ n =>
  simp only [OkD, pc_] at h
  obtain ⟨m, rfl, h1, _⟩ := h
  have key : ∀ m : List (List D), (∀ x ∈ m, OkD al_ n 102 x) → ∃ l : List Dg, m.flatten = dgL l ∧ m.length = l.length ∧ bi_ l := by
   intro m
   induction m with
   | nil => intro _; exact ⟨[], rfl, rfl, fun _ h => by cases h⟩
   | cons x m ih =>
    intro h
    obtain ⟨d, hd, hl⟩ := xA_ (h x (by simp))
    obtain ⟨l, h2, h3, h4⟩ := ih fun y hy => h y (by simp [hy])
    refine ⟨d :: l, by rw [List.flatten_cons, hd, h2]; rfl, by simp [h3], fun y hy => ?_⟩
    rcases List.mem_cons.1 hy with rfl | hy
    ·exact hl
    ·exact h4 y hy
  obtain ⟨l, h2, h3, h4⟩ := key m h1
  exact ⟨l, by rw [h2, h3]; rfl, h4⟩
theorem vJ_ {n : Nat} {ds : List D} (h : OkD al_ n 104 ds) : ∃ c : Crw, ds = crX c ∧ ec_ c := by
 cases n with
 | zero => exact h.elim
 | succ n =>
  simp only [OkD, sI_] at h
  obtain ⟨l, rfl, hl, h⟩ := h
  match l, hl, h with
  | [a, b], _, h =>
   obtain ⟨d, rfl, hd⟩ := xA_ (h 0 a (0, 102) rfl rfl)
   obtain ⟨x, rfl, hx⟩ := uy_ (h 1 b (32, 3) rfl rfl)
   exact ⟨(d, x), by simp [crX], hd, hx⟩
theorem tq_ {n : Nat} {ds : List D} (h : OkD al_ n 22 ds) : ∃ l : List Crw, ds = [crwD l] ∧ (∀ c ∈ l, ec_ c) ∧ l.length ≤ 10000000000000 := by
 cases n with
 | zero => exact h.elim
 | succ n =>
  simp only [OkD, ud_] at h
  obtain ⟨m, rfl, h1, h2⟩ := h
  have key : ∀ m : List (List D), (∀ x ∈ m, OkD al_ n 104 x) → ∃ l : List Crw, m.flatten = crC l ∧ l.length = m.length ∧ ∀ c ∈ l, ec_ c := by
   intro m
   induction m with
   | nil => intro _; exact ⟨[], rfl, rfl, fun _ h => by cases h⟩
   | cons x m ih =>
    intro h
    obtain ⟨c, hc, hco⟩ := vJ_ (h x (by simp))
    obtain ⟨l, h3, h4, h5⟩ := ih fun y hy => h y (by simp [hy])
    refine ⟨c :: l, by rw [List.flatten_cons, hc, h3]; rfl, by simp [h4], fun q hq => ?_⟩
    rcases List.mem_cons.1 hq with rfl | hq
    ·exact hco
    ·exact h5 q hq
  obtain ⟨l, h3, h4, h5⟩ := key m h1
  refine ⟨l, ?_, h5, ?_⟩
  ·rw [h3, ← h4]
   rfl
  ·have e : tby al_ 104 = 40 := rfl
   rw [e] at h2
   omega
theorem su_ {n : Nat} {ds : List D} (h : OkD al_ n 22 ds) : ∃ l, iN_ al_ 22 ds = crwD l ∧ ((∀ c ∈ l, ec_ c) ∧ l.length ≤ 10000000000000) := by
 obtain ⟨l, rfl, h1, h2⟩ := tq_ h
 exact ⟨l, rfl, h1, h2⟩
def AA_ : Value := .agg #[.int .i64 0, .int .i64 0, .int .i64 0, .int .i64 0, .int .i64 0, .int .i64 0, .int .i64 0, .int .i64 0, .int .i64 0, .int .i64 0, .int .i64 0, .int .i64 0, .int .i64 0, .int .i64 0, .int .i64 0, .int .i64 0, .int .i64 0, .int .i64 0, .int .i64 0, .int .i64 0, .int .i64 0, .int .i64 0, .int .i64 0, .int .i64 0, .int .i64 0, .int .i64 0, .int .i64 0, .int .i64 0, .int .i64 0, .int .i64 0, .int .i64 0, .int .i64 0, .int .i64 0, .int .i64 0, .int .i64 0, .int .i64 0, .int .i64 0, .int .i64 0, .int .i64 0, .int .i64 0, .int .i64 0, .int .i64 0, .int .i64 0, .int .i64 0, .int .i64 0, .int .i64 0, .int .i64 0, .int .i64 0, .int .i64 0, .int .i64 0, .int .i64 0, .int .i64 0, .int .i64 0, .int .i64 0, .bool false, .int .i64 0, .int .i64 0, .int .i64 0, .slice none 0 0, .slice none 0 0, .slice none 0 0]
def sJ_ : List TypeId := [3, 5, 232, 277, 278, 316, 317]
theorem ue_ : pOk al_ sJ_ = true := by decide
def laidL : List (String × DataW Unit) := [("stopwatch/digest.start", Rows.laid_stopwatch_digest_start), ("stopwatch/digest.permutations", Rows.laid_stopwatch_digest_permutations), ("stopwatch/facts.timeS", Rows.laid_stopwatch_facts_timeS), ("stopwatch/facts.lengthS", Rows.laid_stopwatch_facts_lengthS), ("stopwatch/facts.bibS", Rows.laid_stopwatch_facts_bibS), ("stopwatch/facts.matS", Rows.laid_stopwatch_facts_matS), ("stopwatch/facts.epochS", Rows.laid_stopwatch_facts_epochS), ("stopwatch/facts.chipS", Rows.laid_stopwatch_facts_chipS), ("stopwatch/facts.positionS", Rows.laid_stopwatch_facts_positionS), ("stopwatch/facts.caseS", Rows.laid_stopwatch_facts_caseS), ("stopwatch/facts.crewS", Rows.laid_stopwatch_facts_crewS), ("stopwatch/facts.numberS", Rows.laid_stopwatch_facts_numberS), ("stopwatch/facts.bitS", Rows.laid_stopwatch_facts_bitS)]
theorem ty_ : h3_ Tryz.prog sJ_ laidL = true := by kernel_rfl
theorem no_ : (laidL.all fun x => x.2.handleName?.isNone) = true := by kernel_rfl
theorem tV_ (os : Os) (args : Array Value) : laidMetH Tryz.prog laidL ((World.doorLaid Tryz.prog (400) os).forCall (fun _ _ => 0) ⟨#[], args, []⟩).memory :=
 laidMetH_of_parts3 (fuel := 8) (laidMet_of_run' 8 (by kernel_rfl) (by kernel_rfl)) (by kernel_rfl) (by kernel_rfl)
theorem vV_ (g : Nat) (ds : List D) (h : Glob.laid g = some ds) : lw_ Tryz.prog laidL g = some ds := by
 dsimp only [Glob.laid, instGlob] at h
 split at h <;> cases h <;> kernel_rfl
theorem nm_ {n : Nat} {ds : List D} (h : OkD al_ n 66 ds) : ∃ l : List Dg, ds = [slG l] ∧ bi_ l ∧ l.length ≤ 10000000000000 := by
 obtain ⟨l, e, h1⟩ := xz_ h
 refine ⟨l, e, h1, ?_⟩
 cases n with
 | zero => exact h.elim
 | succ n =>
  simp only [OkD, pc_] at h
  obtain ⟨m, hm, _, h2⟩ := h
  have hl : l.length = m.length := by
   rw [e] at hm
   simp only [slG, List.cons.injEq, D.sl.injEq, and_true] at hm
   exact hm.2.2
  have e : tby al_ 102 = 32 := rfl
  rw [e] at h2
  omega
theorem vI_ {n : Nat} {ds : List D} (h : OkD al_ n 68 ds) : ∃ (k : Int) (op cl pa : List Dg), ds = sigC k op cl pa ∧ sigG k op cl pa := by
 cases n with
 | zero => exact h.elim
 | succ n =>
  simp only [OkD, ua_] at h
  obtain ⟨l, rfl, hl, h⟩ := h
  match l, hl, h with
  | [a, b, c, d], _, h =>
   obtain ⟨x, ha, hx⟩ := uy_ (h 0 a (0, 3) rfl rfl)
   obtain ⟨l1, hb, h1, n1⟩ := nm_ (h 1 b (1, 66) rfl rfl)
   obtain ⟨l2, hc, h2, n2⟩ := nm_ (h 2 c (2, 66) rfl rfl)
   obtain ⟨l3, hd, h3, n3⟩ := nm_ (h 3 d (3, 66) rfl rfl)
   subst ha hb hc hd
   exact ⟨x, l1, l2, l3, rfl, hx, h1, h2, h3, n1, n2, n3⟩
theorem jd_ {n : Nat} {ds : List D} (h : OkD al_ n 70 ds) : ∃ p : Sg, ds = sgc p ∧ fOk p.1 ∧ sgT p := by
 cases n with
 | zero => exact h.elim
 | succ n =>
  simp only [OkD, t9_] at h
  obtain ⟨l, rfl, hl, h⟩ := h
  match l, hl, h with
  | [a, b], _, h =>
   obtain ⟨f, rfl, hf⟩ := v5_ (h 0 a (0, 65) rfl rfl)
   obtain ⟨k, l1, l2, l3, rfl, hg⟩ := vI_ (h 1 b (57, 68) rfl rfl)
   exact ⟨(f, _), by simp [sgc, sigC], hf, k, l1, l2, l3, rfl, hg⟩
theorem nl_ {n : Nat} {ds : List D} (h : OkD al_ n 23 ds) : ∃ l : List Sg, ds = [sgD l false] ∧ (∀ p ∈ l, fOk p.1 ∧ sgT p) ∧ l.length ≤ 1000000000000 := by
 cases n with
 | zero => exact h.elim
 | succ n =>
  simp only [OkD, uc_] at h
  obtain ⟨m, rfl, h1, h2⟩ := h
  have key : ∀ m : List (List D), (∀ x ∈ m, OkD al_ n 70 x) → ∃ l : List Sg, m.flatten = sgC l ∧ l.length = m.length ∧ ∀ p ∈ l, fOk p.1 ∧ sgT p := by
   intro m
   induction m with
   | nil => intro _; exact ⟨[], rfl, rfl, fun _ h => by cases h⟩
   | cons x m ih =>
    intro h
    obtain ⟨p, hp, hpo⟩ := jd_ (h x (by simp))
    obtain ⟨l, h3, h4, h5⟩ := ih fun y hy => h y (by simp [hy])
    refine ⟨p :: l, ?_, by simp [h4], fun q hq => ?_⟩
    ·rw [List.flatten_cons, hp, h3]; rfl
    ·rcases List.mem_cons.1 hq with rfl | hq
     ·exact hpo
     ·exact h5 q hq
  obtain ⟨l, h3, h4, h5⟩ := key m h1
  refine ⟨l, ?_, h5, ?_⟩
  ·rw [h3, ← h4]
   rfl
  ·have e : tby al_ 70 = 536 := rfl
   rw [e] at h2
   omega
theorem nK_ {n : Nat} {ds : List D} (h : OkD al_ n 70 ds) : ∃ p, iN_ al_ 70 ds = sgV p ∧ (fOk p.1 ∧ sgT p) := by
 obtain ⟨p, rfl, h1⟩ := jd_ h
 exact ⟨p, rfl, h1⟩
theorem il_ {n : Nat} {ds : List D} (h : OkD al_ n 25 ds) : ∃ l, iN_ al_ 25 ds = lgD l false ∧ ((∀ p ∈ l, fOk p.1 ∧ sgT p) ∧ l.length ≤ 1000000000000) := by
 cases n with
 | zero => exact h.elim
 | succ n =>
  simp only [OkD, ub_] at h
  obtain ⟨l, rfl, hl, h⟩ := h
  match l, hl, h with
  | [a], _, h =>
   obtain ⟨x, rfl, h1⟩ := nl_ (h 0 a (0, 23) rfl rfl)
   exact ⟨x, rfl, h1⟩
end Go.Proofs.YtnljenjcaeophaaGreatDoor
