/-
  Forks: the reference's SameForks of a pair and itself.
-/
import Derived.Test.YtadfkiigjnbdgaaGreatDoorKVg
import Derived.Test.YtadfkiigjnbdgaaGreatDoorKR
set_option linter.unusedSectionVars false
set_option linter.unusedSimpArgs false
set_option linter.unusedVariables false
namespace Go.Proofs.YtadfkiigjnbdgaaGreatDoor
open Go.Xe Go.RowKit

abbrev sfS (q : Sg × Sg) (i : Nat) : St := mkS 43 [(0, .d (slK [q])), (1, .d (slK [q])), (5, .d (.v (.int .i64 i)))] []
set_option maxRecDepth 10000 in
set_option maxHeartbeats 4000000 in
theorem sameFk_ok (q : Sg × Sg) (h1 : sgOk q.1) (h2 : sgOk q.2) (g1 : Fn0 Tryz.prog 39 [.agg q.1.2, .agg q.1.2] (.v (.bool true))) (g2 : Fn0 Tryz.prog 39 [.agg q.2.2, .agg q.2.2] (.v (.bool true))) :
    Fn0 Tryz.prog 9 [slK [q], slK [q]] (.v (.bool true)) := by
  have k1 := sameSg_ok q.1 h1 g1
  have k2 := sameSg_ok q.2 h2 g2
  have e0 : fkC [q] = fkc q := by simp [fkC]
  have fl := fkc_len h1 h2
  have fo := fkc_one h1 h2
  have l1 := sgc_len h1
  have l2 := sgc_len h2
  have t0 : List.take 122 (fkc q) = fkc q := List.take_of_length_le (by omega)
  have t1 : List.take 61 (fkc q) = sgc q.1 := by
    rw [fkc, List.take_left' l1]
  have t2 : List.take 61 (List.drop 61 (fkc q)) = sgc q.2 := by
    rw [fkc, List.drop_left' l1, List.take_of_length_le (by omega)]
  refine Fun.of_wp (pn := noPn) Tryz.tab Tryz.func9 rfl fun β0 => ?_
  simp only [Tryz.f9]
  repeat (first | apply wG | (apply wR; simp -dsimp) | refine aI ?_)
  refine cF (by simp) ?_
  refine WP.skip ?_
  simp -dsimp
  repeat (first | apply wG | (apply wR; simp -dsimp) | refine aI ?_)
  refine WP.loopWk (fun m S => ∃ i : Nat, m = 1 - i ∧ i ≤ 1 ∧ S = sfS q i) 1 (S0 := sfS q 0) (Wk.lessE [] (by simp) (by simp)) ⟨0, rfl, by omega, rfl⟩ ?_
  rintro m _ ⟨i, rfl, hi, rfl⟩
  simp -dsimp
  repeat (first | apply wG | (apply wR; simp -dsimp) | refine aI ?_)
  by_cases hi0 : i = 0
  · subst hi0
    refine cT (by simp) ?_
    refine WP.skip ?_
    simp -dsimp
    repeat (first | apply wG | (apply wR; simp -dsimp [e0, fl, t0, t1, t2]) | refine aI ?_)
    refine vcStop.call0L Tryz.body23 k1 rfl rfl (And.intro (.refl _) (And.intro (.refl _) trivial)) ?_
    simp -dsimp
    repeat (first | apply wG | (apply wR; simp -dsimp [e0, fl, t0, t1, t2]) | refine aI ?_)
    refine vcStopG.call0L Tryz.body23 (fun _ => k2) rfl (fun _ => rfl) (fun _ => And.intro (by simp [e0, t0, t2, sgV]) (And.intro (by simp [e0, t0, t2, sgV]) trivial)) ?_
    simp -dsimp
    repeat (first | apply wG | (apply wR; simp -dsimp [e0, fl, t0, t1, t2]) | refine aI ?_)
    have e1 : IntKind.i64.wrap 1 = 1 := by decide
    refine cF (by simp) ?_
    refine WP.skip ?_
    simp -dsimp
    repeat (first | apply wG | (apply wR; simp -dsimp) | refine aI ?_)
    refine loopW.next (sfS q 1) (Wk.lessE [] (by simp [e1]) (by simp)) 0 (by omega) ⟨1, rfl, by omega, rfl⟩
  · have hi1 : i = 1 := by omega
    subst hi1
    refine cF (by simp) ?_
    refine WP.exit ?_
    simp -dsimp
    repeat (first | apply wG | (apply wR; simp -dsimp) | refine aI ?_)
    refine WP.ret (finQ.retE ?_)
    simp -dsimp
end Go.Proofs.YtadfkiigjnbdgaaGreatDoor
