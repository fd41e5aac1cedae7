/-
  Crews: CrewsForks: the places of forks in order, walked.
-/
import Derived.Test.YtnljenjcaeophaaGreatDoorMXb
set_option maxRecDepth 10000
set_option linter.unusedVariables false
set_option linter.unusedSimpArgs false
set_option linter.unusedSectionVars false
namespace Go.Proofs.YtnljenjcaeophaaGreatDoor
open Go.Xe Go.RowKit
set_option maxHeartbeats 16000000 in
theorem p17_zero {l : List Sg} {w : List (Sg × Sg)} {q : Sg × Sg} {n : Nat} (ow : ∀ q ∈ w, sgOk q.1 ∧ sgOk q.2) (hil : 0 < w.length) (hq : w[0] = q) {β0 : Nat → Value} {Q : Exit → St → Prop} (hQ : ∀ S', Wk S' (cfI l w 0 q n true true) → Q .normal S') :
  WP Tryz.prog ⟨[], β0, none, false⟩ noPn fC17 Q (cfI l w 0 q n true true) := by
 have x1 := fkC_at ow hil
 rw [hq] at x1
 have o1 := ow w[0] (List.getElem_mem _)
 rw [hq] at o1
 have lf := fkc_len o1.1 o1.2
 have ew0 : IntKind.i64.wrap (-1) = -1 := by decide
 have A0 : atL ((fkc q).map AV.d) 0 = .d (.v (.int .i64 (q.1.1 0))) := rfl
 have A1 : atL ((fkc q).map AV.d) 1 = .d (.v (.int .i64 (q.1.1 1))) := rfl
 have W0 : (fkC w)[0]? = some (.v (.int .i64 (q.1.1 0))) := by
  have h : (List.take 122 (List.drop (0 * 122) (fkC w)))[0]? = some (.v (.int .i64 (q.1.1 0))) := by rw [x1]; rfl
  rw [List.getElem?_take, if_pos (by decide), List.getElem?_drop] at h
  simpa using h
 have W1 : (fkC w)[1]? = some (.v (.int .i64 (q.1.1 1))) := by
  have h : (List.take 122 (List.drop (0 * 122) (fkC w)))[1]? = some (.v (.int .i64 (q.1.1 1))) := by rw [x1]; rfl
  rw [List.getElem?_take, if_pos (by decide), List.getElem?_drop] at h
  simpa using h
 simp only [fC17, fB1, fX1, fB8, Tryz.f8, Cl, Cr, Option.getD]
 simp -dsimp
 refine WP.seq ?_
 refine WP.draw Tryz.tab Tryz.mixed ?_
 simp (maxSteps := 3000000) -dsimp [lf, ew0, A0, A1, W0, W1]
 refine And.intro (by kernel_rfl) ?_
 refine cF (by simp) ?_
 refine WP.skip ?_
 exact hQ _ (Wk.lessE [] (by simp) (by simp))
set_option maxHeartbeats 16000000 in
theorem p17_pos {l : List Sg} {w : List (Sg × Sg)} {q q0 : Sg × Sg} {i n : Nat} (h0 : 0 < i) (ow : ∀ q ∈ w, sgOk q.1 ∧ sgOk q.2) (hil : i < w.length) (hq : w[i] = q) (hq0 : w[i - 1]'(by omega) = q0) (hwn : w.length ≤ 1000) (hasc : ltR (refS q0.1) (refS q.1)) {β0 : Nat → Value} {Q : Exit → St → Prop} (hQ : ∀ S', Wk S' (cfI l w i q n true true) → Q .normal S') :
  WP Tryz.prog ⟨[], β0, none, false⟩ noPn fC17 Q (cfI l w i q n true true) := by
 have o1 := ow w[i] (List.getElem_mem _)
 rw [hq] at o1
 have x0 := fkC_at ow (show i - 1 < w.length by omega)
 rw [hq0] at x0
 have o0 := ow (w[i - 1]'(by omega)) (List.getElem_mem _)
 rw [hq0] at o0
 have lf := fkc_len o1.1 o1.2
 have ew : IntKind.i64.wrap ((i : Int) - 1) = ((i - 1 : Nat) : Int) := by rw [IntWalk.i64_in _ (by omega)]; omega
 have l0 := fkc_len o0.1 o0.2
 have t0 : List.take 122 (fkc q0) = fkc q0 := List.take_of_length_le (by omega)
 have A0 : atL ((fkc q).map AV.d) 0 = .d (.v (.int .i64 (q.1.1 0))) := rfl
 have A1 : atL ((fkc q).map AV.d) 1 = .d (.v (.int .i64 (q.1.1 1))) := rfl
 have B0 : (fkc q0)[0]'(by omega) = .v (.int .i64 (q0.1.1 0)) := rfl
 have B1 : (fkc q0)[1]'(by omega) = .v (.int .i64 (q0.1.1 1)) := rfl
 have B2 : (fkc q0)[0 + 1]'(by omega) = .v (.int .i64 (q0.1.1 1)) := rfl
 have hiw : i - 1 < w.length := by omega
 have hd0 : decide (0 < i) = true := by simp; omega
 simp only [ltR, refS, refF] at hasc
 have d1 : decide (q.1.1 0 < q0.1.1 0) = false := by rw [decide_eq_false_iff_not]; omega
 simp only [fC17, fB1, fX1, fB8, Tryz.f8, Cl, Cr, Option.getD]
 simp -dsimp
 refine WP.seq ?_
 refine WP.draw Tryz.tab Tryz.mixed ?_
 by_cases hc0 : q0.1.1 0 = q.1.1 0
 ·have d2 : decide (q0.1.1 0 = q.1.1 0) = true := decide_eq_true hc0
  have d3 : decide (q.1.1 1 ≤ q0.1.1 1) = false := by rw [decide_eq_false_iff_not]; omega
  simp (maxSteps := 3000000) -dsimp [hd0, hiw, ew, x0, l0, lf, t0, A0, A1, B0, B1, B2, d1, d2, d3]
  refine And.intro (by kernel_rfl) ?_
  refine cF (by simp [d1, d2, d3]) ?_
  refine WP.skip ?_
  exact hQ _ (Wk.lessE [] (by simp) (by simp))
 ·have d2 : decide (q0.1.1 0 = q.1.1 0) = false := decide_eq_false hc0
  simp (maxSteps := 3000000) -dsimp [hd0, hiw, ew, x0, l0, lf, t0, A0, A1, B0, B1, B2, d1, d2]
  refine And.intro (by kernel_rfl) ?_
  refine cF (by simp [d1, d2]) ?_
  refine WP.skip ?_
  exact hQ _ (Wk.lessE [] (by simp) (by simp))
end Go.Proofs.YtnljenjcaeophaaGreatDoor
