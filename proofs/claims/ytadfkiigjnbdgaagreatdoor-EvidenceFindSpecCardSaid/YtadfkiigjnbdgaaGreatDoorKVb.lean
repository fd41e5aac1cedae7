/-
  Forks: the reference's before and forked.
-/
import Derived.Test.YtadfkiigjnbdgaaGreatDoorKC
import Derived.Test.YtadfkiigjnbdgaaGreatDoorKG
import Derived.Test.YtadfkiigjnbdgaaGreatDoorKH
set_option linter.unusedSectionVars false
set_option linter.unusedSimpArgs false
set_option linter.unusedVariables false
namespace Go.Proofs.YtadfkiigjnbdgaaGreatDoor
open Go.Xe Go.RowKit

theorem refCmp_eq {f g : F} (hf : fOk f) (hg : fOk g) : refCmp f g = cmpF f g := by rw [refCmp, cmpF, enc_ref hf, enc_ref hg]
theorem before_ok (x y : Sg) (hf : fOk x.1) (hg : fOk y.1) : Fn0 Tryz.prog 62 [fD x.1, fD y.1] (.v (.bool (befB x y))) := by
  have hc := refCompare_ok x.1 y.1 hf hg
  rw [refCmp_eq hf hg] at hc
  have hd : befB x y = (if x.1 0 ≠ y.1 0 then decide (x.1 0 < y.1 0) else if x.1 1 ≠ y.1 1 then decide (x.1 1 < y.1 1) else decide (cmpF x.1 y.1 < 0)) := by
    rw [Bool.eq_iff_iff, befB_iff]
    unfold ltR
    have e1 : (refS x).1 = x.1 0 := rfl
    have e2 : (refS x).2 = x.1 1 := rfl
    have e3 : (refS y).1 = y.1 0 := rfl
    have e4 : (refS y).2 = y.1 1 := rfl
    have e5 : refS x = refS y ↔ x.1 0 = y.1 0 ∧ x.1 1 = y.1 1 := ⟨fun h => ⟨congrArg Prod.fst h, congrArg Prod.snd h⟩, fun h => Prod.ext h.1 h.2⟩
    rw [e1, e2, e3, e4, e5]
    by_cases h0 : x.1 0 = y.1 0
    · rw [if_neg (fun h => h h0)]
      by_cases h1 : x.1 1 = y.1 1
      · rw [if_neg (fun h => h h1), decide_eq_true_iff]; omega
      · rw [if_pos h1, decide_eq_true_iff]; omega
    · rw [if_pos h0, decide_eq_true_iff]; omega
  generalize x.1 = f at *
  generalize y.1 = g at *
  rw [hd]
  clear hd
  refine Fun.of_wp (pn := noPn) Tryz.tab Tryz.func62 rfl fun β0 => ?_
  simp only [Tryz.f62]
  rw [fD, fD]
  repeat (first | apply wG | (apply wR; simp -dsimp) | refine aI ?_)
  by_cases h0 : f 0 = g 0
  · refine cF (by simp [h0]) ?_
    refine WP.skip ?_
    simp -dsimp
    repeat (first | apply wG | (apply wR; simp -dsimp) | refine aI ?_)
    by_cases h1 : f 1 = g 1
    · refine cF (by simp [h1]) ?_
      refine WP.skip ?_
      simp -dsimp
      repeat (first | apply wG | (apply wR; simp -dsimp) | refine aI ?_)
      refine vcStop.call0 Tryz.body87 hc rfl rfl (by simp [fD]) ?_
      simp -dsimp
      repeat (first | apply wG | (apply wR; simp -dsimp) | refine aI ?_)
      refine WP.ret (finQ.retE ?_)
      simp -dsimp [h0, h1]
    · refine cT (by simp [h1]) ?_
      repeat (first | apply wG | (apply wR; simp -dsimp) | refine aI ?_)
      refine WP.ret (finQ.retE ?_)
      simp -dsimp [h0, h1]
  · refine cT (by simp [h0]) ?_
    repeat (first | apply wG | (apply wR; simp -dsimp) | refine aI ?_)
    refine WP.ret (finQ.retE ?_)
    simp -dsimp [h0]
def fkdB (f g : F) : Bool := decide (refF f = refF g) && !eqF f g
theorem forked_ok (f g : F) (hf : fOk f) (hg : fOk g) : Fn0 Tryz.prog 37 [fD f, fD g] (.v (.bool (fkdB f g))) := by
  have hs := refSame_ok f g hf hg
  have hd : fkdB f g = (decide (f 0 = g 0) && decide (f 1 = g 1) && !eqF f g) := by
    rw [fkdB]
    congr 1
    rw [Bool.eq_iff_iff, decide_eq_true_iff, Bool.and_eq_true, decide_eq_true_iff, decide_eq_true_iff]
    exact ⟨fun h => ⟨congrArg Prod.fst h, congrArg Prod.snd h⟩, fun h => Prod.ext h.1 h.2⟩
  rw [hd]
  clear hd
  refine Fun.of_wp (pn := noPn) Tryz.tab Tryz.func37 rfl fun β0 => ?_
  simp only [Tryz.f37]
  rw [fD, fD]
  repeat (first | apply wG | (apply wR; simp -dsimp) | refine aI ?_)
  refine vcStopG.call0 Tryz.body38 (fun _ => hs) rfl (fun _ => rfl) (fun h => by simp [fD]) ?_
  simp -dsimp
  repeat (first | apply wG | (apply wR; simp -dsimp) | refine aI ?_)
  refine WP.ret (finQ.retE ?_)
  simp -dsimp
end Go.Proofs.YtadfkiigjnbdgaaGreatDoor
