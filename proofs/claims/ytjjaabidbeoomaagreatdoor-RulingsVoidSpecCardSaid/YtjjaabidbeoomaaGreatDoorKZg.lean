/-
  RulingsForceSpec and RulingsVoidSpec: the rulings agree with the reference.
-/
import Derived.Test.YtjjaabidbeoomaaGreatDoorKZf
set_option linter.unusedSectionVars false
set_option linter.unusedSimpArgs false
set_option linter.unusedVariables false
namespace Go.Proofs.YtjjaabidbeoomaaGreatDoor
open Go.Xe Go.RowKit

def rOZ : Option F → F
  | some g => g
  | none => f0
theorem forceD_rOZ (o : Option F) : forceD o = .tup [.agg (fcs (rOZ o) 47 6), .v (.bool o.isSome)] := by cases o <;> rfl
theorem fcs476 (f : F) : fcs f 47 6 = [.v (.int .i64 (f 47)), .v (.int .i64 (f 48)), .v (.int .i64 (f 49)), .v (.int .i64 (f 50)), .v (.int .i64 (f 51)), .v (.int .i64 (f 52))] := rfl
set_option maxRecDepth 10000 in
set_option maxHeartbeats 4000000 in
theorem law_force (l : List F) (n : Int) (hlen : l.length ≤ 1000000000000) (hv : ∀ f ∈ l, fOk f) (hn : isI n) : Fn0 Tryz.prog 3 [slF l, .v (.int .i64 n)] (.v (.bool true)) := by
  refine Fun.of_wp (pn := noPn) Tryz.tab Tryz.func3 rfl fun β0 => ?_
  simp only [Tryz.f3]
  repeat (first | refine wS ?_ | refine wB ?_ | ((first | refine wR ?_ | refine wD ?_); simp -dsimp) | refine aI ?_)
  refine vcStop.call0 Tryz.body5 sane_ok rfl rfl (by simp) ?_
  simp -dsimp
  repeat (first | refine wS ?_ | refine wB ?_ | ((first | refine wR ?_ | refine wD ?_); simp -dsimp) | refine aI ?_)
  refine WP.cond (b := false) (by simp) (fun h => by cases h) (fun _ => ?_)
  refine WP.skip ?_
  simp -dsimp
  repeat (first | refine wS ?_ | refine wB ?_ | ((first | refine wR ?_ | refine wD ?_); simp -dsimp) | refine aI ?_)
  refine WP.cond (b := decide (16 < l.length)) (by simp; omega) (fun hk => ?_) (fun hk => ?_)
  · repeat (first | refine wS ?_ | refine wB ?_ | ((first | refine wR ?_ | refine wD ?_); simp -dsimp) | refine aI ?_)
    refine WP.ret (finQ.retE ?_)
    simp -dsimp
  have hk := of_decide_eq_false hk
  have hl16 : l.length ≤ 16 := by omega
  refine WP.skip ?_
  simp -dsimp
  have hcv := canF_vOk hv
  have hcl := Nat.le_trans (canF_len hv) hl16
  have o1 := of_ok l n (by omega) hv hn
  have o2 := refOf_ok l n (by omega) hv
  have a1 := all_ok l (by omega) hv
  have a2 := refAll_ok l (by omega) hv
  have s1 := suspended_ok l n (by omega) hv hn
  have s2 := refSuspended_ok l n (by omega) hv
  have a3 := same43_ok (allO (canF l)) (Nat.le_trans (allO_len _) (by omega)) (fun f hf => (hcv f (allO_mem hf)).1)
  have hO : fOk (rOZ (forceO (fileOf (canF l) n))) := by
    cases h : forceO (fileOf (canF l) n) with
    | none => exact ⟨fun _ => isI0, .inl rfl, fun _ _ => rfl⟩
    | some g => exact (hcv g (force_mem h)).1
  rw [forceD_rOZ] at o1 o2
  generalize forceO (fileOf (canF l) n) = O at o1 o2 hO
  generalize allO (canF l) = A at a1 a2 a3
  generalize susB (fileOf (canF l) n) = s at s1 s2
  repeat (first | refine wS ?_ | refine wB ?_ | ((first | refine wR ?_ | refine wD ?_); simp -dsimp) | refine aI ?_)
  refine vcStop.call0 Tryz.body6 o1 rfl rfl (by simp) ?_
  simp -dsimp [fcs476]
  repeat (first | refine wS ?_ | refine wB ?_ | ((first | refine wR ?_ | refine wD ?_); simp -dsimp) | refine aI ?_)
  refine vcStop.call0 Tryz.body7 o2 rfl rfl (by simp) ?_
  simp -dsimp [fcs476]
  repeat (first | refine wS ?_ | refine wB ?_ | ((first | refine wR ?_ | refine wD ?_); simp -dsimp) | refine aI ?_)
  refine vcStop.call0 Tryz.body9 a1 rfl rfl (by simp) ?_
  simp -dsimp
  repeat (first | refine wS ?_ | refine wB ?_ | ((first | refine wR ?_ | refine wD ?_); simp -dsimp) | refine aI ?_)
  refine vcStop.call0 Tryz.body10 a2 rfl rfl (by simp) ?_
  simp -dsimp
  repeat (first | refine wS ?_ | refine wB ?_ | ((first | refine wR ?_ | refine wD ?_); simp -dsimp) | refine aI ?_)
  refine vcStop.call0 Tryz.body8 a3 rfl rfl (by simp) ?_
  simp -dsimp
  repeat (first | refine wS ?_ | refine wB ?_ | ((first | refine wR ?_ | refine wD ?_); simp -dsimp) | refine aI ?_)
  refine vcStopG.eqS Tryz.tab gokF noarrF rfl (.inl rfl) (m := 5) (by omega) keyN43 (by decide) gdN43 stN43 (cs := fcs (rOZ O) 47 6) (es := fcs (rOZ O) 47 6) (fun hg => by simp [fcs476]) (fun hg => by simp [fcs476]) (fit_ok hO.1 3 25 47 (by decide)) (fit_ok hO.1 3 25 47 (by decide)) (r := true) (by simp) ?_
  simp -dsimp [eqRes]
  repeat (first | refine wS ?_ | refine wB ?_ | ((first | refine wR ?_ | refine wD ?_); simp -dsimp) | refine aI ?_)
  refine vcStopG.call0 Tryz.body11 (fun _ => s1) rfl (fun _ => rfl) (fun hg => by simp) ?_
  simp -dsimp
  repeat (first | refine wS ?_ | refine wB ?_ | ((first | refine wR ?_ | refine wD ?_); simp -dsimp) | refine aI ?_)
  refine vcStopG.call0 Tryz.body12 (fun _ => s2) rfl (fun _ => rfl) (fun hg => by simp) ?_
  simp -dsimp
  repeat (first | refine wS ?_ | refine wB ?_ | ((first | refine wR ?_ | refine wD ?_); simp -dsimp) | refine aI ?_)
  refine WP.ret (finQ.retE ?_)
  simp -dsimp
set_option maxRecDepth 10000 in
set_option maxHeartbeats 4000000 in
theorem law_voids (l : List F) (hlen : l.length ≤ 1000000000000) (hv : ∀ f ∈ l, fOk f) : Fn0 Tryz.prog 4 [slF l] (.v (.bool true)) := by
  refine Fun.of_wp (pn := noPn) Tryz.tab Tryz.func4 rfl fun β0 => ?_
  simp only [Tryz.f4]
  repeat (first | refine wS ?_ | refine wB ?_ | ((first | refine wR ?_ | refine wD ?_); simp -dsimp) | refine aI ?_)
  refine vcStop.call0 Tryz.body5 sane_ok rfl rfl (by simp) ?_
  simp -dsimp
  repeat (first | refine wS ?_ | refine wB ?_ | ((first | refine wR ?_ | refine wD ?_); simp -dsimp) | refine aI ?_)
  refine WP.cond (b := false) (by simp) (fun h => by cases h) (fun _ => ?_)
  refine WP.skip ?_
  simp -dsimp
  repeat (first | refine wS ?_ | refine wB ?_ | ((first | refine wR ?_ | refine wD ?_); simp -dsimp) | refine aI ?_)
  refine WP.cond (b := decide (16 < l.length)) (by simp; omega) (fun hk => ?_) (fun hk => ?_)
  · repeat (first | refine wS ?_ | refine wB ?_ | ((first | refine wR ?_ | refine wD ?_); simp -dsimp) | refine aI ?_)
    refine WP.ret (finQ.retE ?_)
    simp -dsimp
  have hk := of_decide_eq_false hk
  have hl16 : l.length ≤ 16 := by omega
  refine WP.skip ?_
  simp -dsimp
  have hcv := canF_vOk hv
  have hcl := Nat.le_trans (canF_len hv) hl16
  have hvo := voidL_len hcv (by omega)
  have b1 := void_ok l (by omega) hv
  have b2 := refVoid_ok l (by omega) hv
  have b3 := same47_ok (voidL (canF l)) (by omega) (fun f hf => (hcv f (hvo.2 f hf)).1)
  have c1 := reports_ok l (by omega) hv
  have c2 := refReports_ok l (by omega) hv
  have c3 := same39_ok (repO (canF l)) (Nat.le_trans (repO_len _) (by omega)) (fun f hf => (hcv f (repO_mem hf)).1)
  generalize voidL (canF l) = V at b1 b2 b3
  generalize repO (canF l) = R at c1 c2 c3
  repeat (first | refine wS ?_ | refine wB ?_ | ((first | refine wR ?_ | refine wD ?_); simp -dsimp) | refine aI ?_)
  refine vcStop.call0 Tryz.body14 b1 rfl rfl (by simp) ?_
  simp -dsimp
  repeat (first | refine wS ?_ | refine wB ?_ | ((first | refine wR ?_ | refine wD ?_); simp -dsimp) | refine aI ?_)
  refine vcStop.call0 Tryz.body15 b2 rfl rfl (by simp) ?_
  simp -dsimp
  repeat (first | refine wS ?_ | refine wB ?_ | ((first | refine wR ?_ | refine wD ?_); simp -dsimp) | refine aI ?_)
  refine vcStop.call0 Tryz.body13 b3 rfl rfl (by simp) ?_
  simp -dsimp
  repeat (first | refine wS ?_ | refine wB ?_ | ((first | refine wR ?_ | refine wD ?_); simp -dsimp) | refine aI ?_)
  refine vcStopG.call0 Tryz.body17 (fun _ => c1) rfl (fun _ => rfl) (fun hg => by simp) ?_
  simp -dsimp
  repeat (first | refine wS ?_ | refine wB ?_ | ((first | refine wR ?_ | refine wD ?_); simp -dsimp) | refine aI ?_)
  refine vcStopG.call0 Tryz.body18 (fun _ => c2) rfl (fun _ => rfl) (fun hg => by simp) ?_
  simp -dsimp
  repeat (first | refine wS ?_ | refine wB ?_ | ((first | refine wR ?_ | refine wD ?_); simp -dsimp) | refine aI ?_)
  refine vcStopG.call0 Tryz.body16 (fun _ => c3) rfl (fun _ => rfl) (fun hg => by simp) ?_
  simp -dsimp
  repeat (first | refine wS ?_ | refine wB ?_ | ((first | refine wR ?_ | refine wD ?_); simp -dsimp) | refine aI ?_)
  refine WP.ret (finQ.retE ?_)
  simp -dsimp
end Go.Proofs.YtjjaabidbeoomaaGreatDoor
