/-
  Crews: CrewsForks: the look at one fork, walked: what does not count.
-/
import Derived.Test.YtnljenjcaeophaaGreatDoorMXb
set_option maxRecDepth 10000
set_option linter.unusedVariables false
set_option linter.unusedSimpArgs false
set_option linter.unusedSectionVars false
namespace Go.Proofs.YtnljenjcaeophaaGreatDoor
open Go.Xe Go.RowKit
set_option maxHeartbeats 16000000 in
theorem p31_yes {l : List Sg} {w : List (Sg × Sg)} {i k m : Nat} {q : Sg × Sg} {s t : Sg} (hl : ∀ p ∈ l, sgOk p) (hil2 : i < l.length) (hkl : k < l.length) (hs0 : l[i] = s) (ht0 : l[k] = t) (oq : fOk q.1.1)  {β0 : Nat → Value} {Q : Exit → St → Prop} (hQ : ∀ S', Wk S' (cfN l w i k true m q) → Q .normal S') :
  WP Tryz.prog ⟨[], β0, none, false⟩ noPn fC31 Q (cfN l w i k true m q) := by
 have hs := sgc_at hil2 hl
 rw [hs0] at hs
 have os := hl l[i] (List.getElem_mem hil2)
 rw [hs0] at os
 have ht := sgc_at hkl hl
 rw [ht0] at ht
 have ot := hl l[k] (List.getElem_mem hkl)
 rw [ht0] at ot
 have ls := sgc_len os
 have s57 := sgc_57D s
 have lt := sgc_len ot
 have t57 := sgc_57D t
 have lS := sgC_len hl
 have r0 : (sgc s)[0]'(by omega) = .v (.int .i64 (s.1 0)) := rfl
 have r1 : (sgc s)[1]'(by omega) = .v (.int .i64 (s.1 1)) := rfl
 have r2 : (sgc s)[0 + 1]'(by omega) = .v (.int .i64 (s.1 1)) := rfl
 have S0 : (sgC l)[i * 61]? = some (.v (.int .i64 (s.1 0))) := by
  have h : (List.take 61 (List.drop (i * 61) (sgC l)))[0]? = some (.v (.int .i64 (s.1 0))) := by rw [hs]; rfl
  rw [List.getElem?_take, if_pos (by decide), List.getElem?_drop] at h
  simpa using h
 have S1 : (sgC l)[i * 61 + 1]? = some (.v (.int .i64 (s.1 1))) := by
  have h : (List.take 61 (List.drop (i * 61) (sgC l)))[1]? = some (.v (.int .i64 (s.1 1))) := by rw [hs]; rfl
  rw [List.getElem?_take, if_pos (by decide), List.getElem?_drop] at h
  simpa using h
 have ca := factsCompare_ok q.1.1 s.1 oq os.1
 have cb := factsCompare_ok q.1.1 t.1 oq ot.1
 have G0 : atL ((fcs q.1.1 0 57).map AV.d) 0 = .d (.v (.int .i64 (q.1.1 0))) := rfl
 have G1 : atL ((fcs q.1.1 0 57).map AV.d) 1 = .d (.v (.int .i64 (q.1.1 1))) := rfl
 simp only [fC31, fZ, fB7, fY, fB5, fX2, fB8, Tryz.f8, Cl, Cr, Option.getD]
 simp -dsimp
 refine WP.draw Tryz.tab Tryz.mixed ?_
 simp (maxSteps := 3000000) -dsimp [S0, S1, r0, r1, r2, hil2, hkl, G0, G1, hs, ls, s57, ht, lt, t57]
 refine vcStopG.skip (.d (.v (.int .i64 0))) ?_
 simp (maxSteps := 3000000) -dsimp
 refine vcStopG.skip (.d (.v (.int .i64 0))) ?_
 simp (maxSteps := 3000000) -dsimp
 refine And.intro (by kernel_rfl) ?_
 exact hQ _ (Wk.lessE [] (by simp) (by simp))
set_option maxHeartbeats 16000000 in
theorem p31_no0 {l : List Sg} {w : List (Sg × Sg)} {i k m : Nat} {q : Sg × Sg} {s t : Sg} (hl : ∀ p ∈ l, sgOk p) (hil2 : i < l.length) (hkl : k < l.length) (hs0 : l[i] = s) (ht0 : l[k] = t) (oq : fOk q.1.1) (e0 : ¬ q.1.1 0 = s.1 0) {β0 : Nat → Value} {Q : Exit → St → Prop} (hQ : ∀ S', Wk S' (cfN l w i k false m q) → Q .normal S') :
  WP Tryz.prog ⟨[], β0, none, false⟩ noPn fC31 Q (cfN l w i k false m q) := by
 have hs := sgc_at hil2 hl
 rw [hs0] at hs
 have os := hl l[i] (List.getElem_mem hil2)
 rw [hs0] at os
 have ht := sgc_at hkl hl
 rw [ht0] at ht
 have ot := hl l[k] (List.getElem_mem hkl)
 rw [ht0] at ot
 have ls := sgc_len os
 have s57 := sgc_57D s
 have lt := sgc_len ot
 have t57 := sgc_57D t
 have lS := sgC_len hl
 have r0 : (sgc s)[0]'(by omega) = .v (.int .i64 (s.1 0)) := rfl
 have r1 : (sgc s)[1]'(by omega) = .v (.int .i64 (s.1 1)) := rfl
 have r2 : (sgc s)[0 + 1]'(by omega) = .v (.int .i64 (s.1 1)) := rfl
 have S0 : (sgC l)[i * 61]? = some (.v (.int .i64 (s.1 0))) := by
  have h : (List.take 61 (List.drop (i * 61) (sgC l)))[0]? = some (.v (.int .i64 (s.1 0))) := by rw [hs]; rfl
  rw [List.getElem?_take, if_pos (by decide), List.getElem?_drop] at h
  simpa using h
 have S1 : (sgC l)[i * 61 + 1]? = some (.v (.int .i64 (s.1 1))) := by
  have h : (List.take 61 (List.drop (i * 61) (sgC l)))[1]? = some (.v (.int .i64 (s.1 1))) := by rw [hs]; rfl
  rw [List.getElem?_take, if_pos (by decide), List.getElem?_drop] at h
  simpa using h
 have ca := factsCompare_ok q.1.1 s.1 oq os.1
 have cb := factsCompare_ok q.1.1 t.1 oq ot.1
 have G0 : atL ((fcs q.1.1 0 57).map AV.d) 0 = .d (.v (.int .i64 (q.1.1 0))) := rfl
 have G1 : atL ((fcs q.1.1 0 57).map AV.d) 1 = .d (.v (.int .i64 (q.1.1 1))) := rfl
 simp only [fC31, fZ, fB7, fY, fB5, fX2, fB8, Tryz.f8, Cl, Cr, Option.getD]
 simp -dsimp
 refine WP.draw Tryz.tab Tryz.mixed ?_
 have d0 : decide (q.1.1 0 = s.1 0) = false := decide_eq_false e0
 simp (maxSteps := 3000000) -dsimp [S0, S1, r0, r1, r2, hil2, hkl, G0, G1, hs, ls, s57, ht, lt, t57, d0]
 refine vcStopG.skip (.d (.v (.int .i64 0))) ?_
 simp (maxSteps := 3000000) -dsimp [d0]
 refine vcStopG.skip (.d (.v (.int .i64 0))) ?_
 simp (maxSteps := 3000000) -dsimp [d0]
 refine And.intro (by kernel_rfl) ?_
 exact hQ _ (Wk.lessE [] (by simp) (by simp))
set_option maxHeartbeats 16000000 in
theorem p31_no1 {l : List Sg} {w : List (Sg × Sg)} {i k m : Nat} {q : Sg × Sg} {s t : Sg} (hl : ∀ p ∈ l, sgOk p) (hil2 : i < l.length) (hkl : k < l.length) (hs0 : l[i] = s) (ht0 : l[k] = t) (oq : fOk q.1.1) (e0 : q.1.1 0 = s.1 0) (e1 : ¬ q.1.1 1 = s.1 1) {β0 : Nat → Value} {Q : Exit → St → Prop} (hQ : ∀ S', Wk S' (cfN l w i k false m q) → Q .normal S') :
  WP Tryz.prog ⟨[], β0, none, false⟩ noPn fC31 Q (cfN l w i k false m q) := by
 have hs := sgc_at hil2 hl
 rw [hs0] at hs
 have os := hl l[i] (List.getElem_mem hil2)
 rw [hs0] at os
 have ht := sgc_at hkl hl
 rw [ht0] at ht
 have ot := hl l[k] (List.getElem_mem hkl)
 rw [ht0] at ot
 have ls := sgc_len os
 have s57 := sgc_57D s
 have lt := sgc_len ot
 have t57 := sgc_57D t
 have lS := sgC_len hl
 have r0 : (sgc s)[0]'(by omega) = .v (.int .i64 (s.1 0)) := rfl
 have r1 : (sgc s)[1]'(by omega) = .v (.int .i64 (s.1 1)) := rfl
 have r2 : (sgc s)[0 + 1]'(by omega) = .v (.int .i64 (s.1 1)) := rfl
 have S0 : (sgC l)[i * 61]? = some (.v (.int .i64 (s.1 0))) := by
  have h : (List.take 61 (List.drop (i * 61) (sgC l)))[0]? = some (.v (.int .i64 (s.1 0))) := by rw [hs]; rfl
  rw [List.getElem?_take, if_pos (by decide), List.getElem?_drop] at h
  simpa using h
 have S1 : (sgC l)[i * 61 + 1]? = some (.v (.int .i64 (s.1 1))) := by
  have h : (List.take 61 (List.drop (i * 61) (sgC l)))[1]? = some (.v (.int .i64 (s.1 1))) := by rw [hs]; rfl
  rw [List.getElem?_take, if_pos (by decide), List.getElem?_drop] at h
  simpa using h
 have ca := factsCompare_ok q.1.1 s.1 oq os.1
 have cb := factsCompare_ok q.1.1 t.1 oq ot.1
 have G0 : atL ((fcs q.1.1 0 57).map AV.d) 0 = .d (.v (.int .i64 (q.1.1 0))) := rfl
 have G1 : atL ((fcs q.1.1 0 57).map AV.d) 1 = .d (.v (.int .i64 (q.1.1 1))) := rfl
 simp only [fC31, fZ, fB7, fY, fB5, fX2, fB8, Tryz.f8, Cl, Cr, Option.getD]
 simp -dsimp
 refine WP.draw Tryz.tab Tryz.mixed ?_
 have d0 : decide (q.1.1 0 = s.1 0) = true := decide_eq_true e0
 have d1 : decide (q.1.1 1 = s.1 1) = false := decide_eq_false e1
 simp (maxSteps := 3000000) -dsimp [S0, S1, r0, r1, r2, hil2, hkl, G0, G1, hs, ls, s57, ht, lt, t57, d0, d1]
 refine vcStopG.skip (.d (.v (.int .i64 0))) ?_
 simp (maxSteps := 3000000) -dsimp [d0, d1]
 refine vcStopG.skip (.d (.v (.int .i64 0))) ?_
 simp (maxSteps := 3000000) -dsimp [d0, d1]
 refine And.intro (by kernel_rfl) ?_
 exact hQ _ (Wk.lessE [] (by simp) (by simp))
end Go.Proofs.YtnljenjcaeophaaGreatDoor
