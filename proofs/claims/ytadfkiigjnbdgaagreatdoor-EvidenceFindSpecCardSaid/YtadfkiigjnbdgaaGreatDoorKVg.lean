/-
  Forks: the reference's Same, SameSigned of a thing and itself.
-/
import Derived.Test.YtadfkiigjnbdgaaGreatDoorKVf
set_option maxRecDepth 10000
set_option linter.unusedSectionVars false
set_option linter.unusedSimpArgs false
set_option linter.unusedVariables false
namespace Go.Proofs.YtadfkiigjnbdgaaGreatDoor
open Go.Xe Go.RowKit

def sgG (p : Sg) : Prop := ∃ (k : Int) (n1 n2 n3 : Nat) (c1 c2 c3 : List D), isI k ∧ p.2 = [.v (.int .i64 k), .sl 32 c1 n1 false, .sl 32 c2 n2 false, .sl 32 c3 n3 false] ∧ dgC c1 n1 ∧ dgC c2 n2 ∧ dgC c3 n3
theorem sgG_F {p : Sg} (h : sgG p) : sgF p := by
  obtain ⟨k, n1, n2, n3, c1, c2, c3, hk, e, _⟩ := h
  exact ⟨k, 32, n1, 32, n2, 32, n3, c1, c2, c3, hk, e⟩
theorem sameSig_ok (p : Sg) (h : sgG p) (hs : shrtB p = true) : Fn0 Tryz.prog 39 [.agg p.2, .agg p.2] (.v (.bool true)) := by
  obtain ⟨k, n1, n2, n3, c1, c2, c3, _, e, d1, d2, d3⟩ := h
  rw [shrtB, e] at hs
  simp only [Bool.and_eq_true, decide_eq_true_eq] at hs
  have k1 := sameDig_ok c1 n1 d1 (by omega)
  have k2 := sameDig_ok c2 n2 d2 (by omega)
  have k3 := sameDig_ok c3 n3 d3 (by omega)
  rw [e]
  refine Fun.of_wp (pn := noPn) Tryz.tab Tryz.func39 rfl fun β0 => ?_
  simp only [Tryz.f39]
  repeat (first | apply wG | (apply wR; simp -dsimp) | refine aI ?_)
  refine vcStopG.call0 Tryz.body63 (fun _ => k1) rfl (fun _ => rfl) (fun _ => by simp) ?_
  simp -dsimp
  repeat (first | apply wG | (apply wR; simp -dsimp) | refine aI ?_)
  refine vcStopG.call0 Tryz.body63 (fun _ => k2) rfl (fun _ => rfl) (fun _ => by simp) ?_
  simp -dsimp
  repeat (first | apply wG | (apply wR; simp -dsimp) | refine aI ?_)
  refine vcStopG.call0 Tryz.body63 (fun _ => k3) rfl (fun _ => rfl) (fun _ => by simp) ?_
  simp -dsimp
  repeat (first | apply wG | (apply wR; simp -dsimp) | refine aI ?_)
  refine WP.ret (finQ.retE ?_)
  simp -dsimp
theorem sameNil_ok : Fn0 Tryz.prog 63 [nilD, nilD] (.v (.bool true)) := by
  refine Fun.of_wp (pn := noPn) Tryz.tab Tryz.func63 rfl fun β0 => ?_
  simp only [Tryz.f63]
  repeat (first | apply wG | (apply wR; simp -dsimp) | refine aI ?_)
  refine cF (by simp) ?_
  refine WP.skip ?_
  simp -dsimp
  repeat (first | apply wG | (apply wR; simp -dsimp) | refine aI ?_)
  refine WP.loopWk (fun q S => S = mkS 26 [(0, .d nilD), (1, .d nilD), (5, .d (.v (.int .i64 0)))] []) 1 (S0 := mkS 26 [(0, .d nilD), (1, .d nilD), (5, .d (.v (.int .i64 0)))] []) (Wk.lessE [] (by simp) (by simp)) rfl ?_
  rintro _ _ rfl
  simp -dsimp
  repeat (first | apply wG | (apply wR; simp -dsimp) | refine aI ?_)
  refine cF (by simp) ?_
  refine WP.exit ?_
  simp -dsimp
  repeat (first | apply wG | (apply wR; simp -dsimp) | refine aI ?_)
  refine WP.ret (finQ.retE ?_)
  simp -dsimp
theorem sameZs_ok : Fn0 Tryz.prog 39 [.agg zs, .agg zs] (.v (.bool true)) := by
  have k1 := sameNil_ok
  refine Fun.of_wp (pn := noPn) Tryz.tab Tryz.func39 rfl fun β0 => ?_
  simp only [Tryz.f39]
  simp only [zs]
  repeat (first | apply wG | (apply wR; simp -dsimp) | refine aI ?_)
  refine vcStopG.call0 Tryz.body63 (fun _ => k1) rfl (fun _ => rfl) (fun _ => by simp) ?_
  simp -dsimp
  repeat (first | apply wG | (apply wR; simp -dsimp) | refine aI ?_)
  refine vcStopG.call0 Tryz.body63 (fun _ => k1) rfl (fun _ => rfl) (fun _ => by simp) ?_
  simp -dsimp
  repeat (first | apply wG | (apply wR; simp -dsimp) | refine aI ?_)
  refine vcStopG.call0 Tryz.body63 (fun _ => k1) rfl (fun _ => rfl) (fun _ => by simp) ?_
  simp -dsimp
  repeat (first | apply wG | (apply wR; simp -dsimp) | refine aI ?_)
  refine WP.ret (finQ.retE ?_)
  simp -dsimp
theorem sameSg_ok (p : Sg) (hp : sgOk p) (k2 : Fn0 Tryz.prog 39 [.agg p.2, .agg p.2] (.v (.bool true))) : Fn0 Tryz.prog 23 [sgV p, sgV p] (.v (.bool true)) := by
  have k1 := refSame_ok p.1 p.1 hp.1 hp.1
  rw [(eqF_iff hp.1 hp.1).2 rfl] at k1
  have l1 := sgc_len hp
  have h57 := sgc_57 p
  have h4 : List.take 4 (List.drop 57 ((sgc p).map AV.d)) = p.2.map .d := by rw [← List.map_drop, ← List.map_take, sgc_sig hp]
  simp only [sgV]
  refine Fun.of_wp (pn := noPn) Tryz.tab Tryz.func23 rfl fun β0 => ?_
  simp only [Tryz.f23]
  repeat (first | apply wG | (apply wR; simp -dsimp) | refine aI ?_)
  refine And.intro (sgc_oneD hp) ?_
  repeat (first | apply wG | (apply wR; simp -dsimp [h57, h4]) | refine aI ?_)
  refine vcStop.call0L Tryz.body38 k1 rfl rfl (And.intro (by simp [fD]) (And.intro (by simp [fD]) trivial)) ?_
  simp -dsimp
  repeat (first | apply wG | (apply wR; simp -dsimp [h57, h4]) | refine aI ?_)
  refine vcStopG.call0L Tryz.body39 (fun _ => k2) rfl (fun _ => rfl) (fun _ => And.intro (by simp [h4]) (And.intro (by simp [h4]) trivial)) ?_
  simp -dsimp
  repeat (first | apply wG | (apply wR; simp -dsimp) | refine aI ?_)
  refine WP.ret (finQ.retE ?_)
  simp -dsimp
end Go.Proofs.YtadfkiigjnbdgaaGreatDoor
