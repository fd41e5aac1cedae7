/-
  Joined texts.
-/
import Derived.Test.YtjjaabidbeoomaaGreatDoorKFf
set_option linter.unusedVariables false
set_option linter.unusedSimpArgs false
set_option linter.unusedSectionVars false
/-
  The reference's checks: numbers in their ranges.
-/
set_option linter.unusedSimpArgs false
set_option linter.unusedVariables false
namespace Go.Proofs.YtjjaabidbeoomaaGreatDoor
open Go.Xe Go.RowKit

abbrev inB (x lo hi : Int) : Bool := decide (lo ≤ x) && decide (x ≤ hi)
theorem in_ok (x lo hi : Int) : Fn0 Tryz.prog 49 [.v (.int .i64 x), .v (.int .i64 lo), .v (.int .i64 hi)] (.v (.bool (inB x lo hi))) := by
  refine Fun.of_wp (pn := noPn) Tryz.tab Tryz.func49 rfl fun β0 => ?_
  simp only [Tryz.f49]
  repeat (first | refine wS ?_ | refine wB ?_ | ((first | refine wR ?_ | refine wD ?_); simp -dsimp) | refine aI ?_)
  refine WP.ret (finQ.retE ?_)
  simp -dsimp
theorem time_ok (x : Int) : Fn0 Tryz.prog 67 [.v (.int .i64 x)] (.v (.bool (inB x (-1099511627776) 1099511627776))) := by
  refine Fun.of_wp (pn := noPn) Tryz.tab Tryz.func67 rfl fun β0 => ?_
  simp only [Tryz.f67]
  repeat (first | refine wS ?_ | refine wB ?_ | ((first | refine wR ?_ | refine wD ?_); simp -dsimp) | refine aI ?_)
  refine vcStop.call0 Tryz.body49 (in_ok x (-1099511627776) 1099511627776) rfl rfl (by simp) ?_
  simp -dsimp
  repeat (first | refine wS ?_ | refine wB ?_ | ((first | refine wR ?_ | refine wD ?_); simp -dsimp) | refine aI ?_)
  refine WP.ret (finQ.retE ?_)
  simp -dsimp
theorem bib_ok (x : Int) : Fn0 Tryz.prog 69 [.v (.int .i64 x)] (.v (.bool (inB x (1) 9999))) := by
  refine Fun.of_wp (pn := noPn) Tryz.tab Tryz.func69 rfl fun β0 => ?_
  simp only [Tryz.f69]
  repeat (first | refine wS ?_ | refine wB ?_ | ((first | refine wR ?_ | refine wD ?_); simp -dsimp) | refine aI ?_)
  refine vcStop.call0 Tryz.body49 (in_ok x (1) 9999) rfl rfl (by simp) ?_
  simp -dsimp
  repeat (first | refine wS ?_ | refine wB ?_ | ((first | refine wR ?_ | refine wD ?_); simp -dsimp) | refine aI ?_)
  refine WP.ret (finQ.retE ?_)
  simp -dsimp
theorem mat_ok (x : Int) : Fn0 Tryz.prog 64 [.v (.int .i64 x)] (.v (.bool (inB x (0) 39))) := by
  refine Fun.of_wp (pn := noPn) Tryz.tab Tryz.func64 rfl fun β0 => ?_
  simp only [Tryz.f64]
  repeat (first | refine wS ?_ | refine wB ?_ | ((first | refine wR ?_ | refine wD ?_); simp -dsimp) | refine aI ?_)
  refine vcStop.call0 Tryz.body49 (in_ok x (0) 39) rfl rfl (by simp) ?_
  simp -dsimp
  repeat (first | refine wS ?_ | refine wB ?_ | ((first | refine wR ?_ | refine wD ?_); simp -dsimp) | refine aI ?_)
  refine WP.ret (finQ.retE ?_)
  simp -dsimp
theorem epoch_ok (x : Int) : Fn0 Tryz.prog 65 [.v (.int .i64 x)] (.v (.bool (inB x (0) 255))) := by
  refine Fun.of_wp (pn := noPn) Tryz.tab Tryz.func65 rfl fun β0 => ?_
  simp only [Tryz.f65]
  repeat (first | refine wS ?_ | refine wB ?_ | ((first | refine wR ?_ | refine wD ?_); simp -dsimp) | refine aI ?_)
  refine vcStop.call0 Tryz.body49 (in_ok x (0) 255) rfl rfl (by simp) ?_
  simp -dsimp
  repeat (first | refine wS ?_ | refine wB ?_ | ((first | refine wR ?_ | refine wD ?_); simp -dsimp) | refine aI ?_)
  refine WP.ret (finQ.retE ?_)
  simp -dsimp
theorem chip_ok (x : Int) : Fn0 Tryz.prog 66 [.v (.int .i64 x)] (.v (.bool (inB x (0) 1048576))) := by
  refine Fun.of_wp (pn := noPn) Tryz.tab Tryz.func66 rfl fun β0 => ?_
  simp only [Tryz.f66]
  repeat (first | refine wS ?_ | refine wB ?_ | ((first | refine wR ?_ | refine wD ?_); simp -dsimp) | refine aI ?_)
  refine vcStop.call0 Tryz.body49 (in_ok x (0) 1048576) rfl rfl (by simp) ?_
  simp -dsimp
  repeat (first | refine wS ?_ | refine wB ?_ | ((first | refine wR ?_ | refine wD ?_); simp -dsimp) | refine aI ?_)
  refine WP.ret (finQ.retE ?_)
  simp -dsimp
theorem pos_ok (x : Int) : Fn0 Tryz.prog 70 [.v (.int .i64 x)] (.v (.bool (inB x (0) 255))) := by
  refine Fun.of_wp (pn := noPn) Tryz.tab Tryz.func70 rfl fun β0 => ?_
  simp only [Tryz.f70]
  repeat (first | refine wS ?_ | refine wB ?_ | ((first | refine wR ?_ | refine wD ?_); simp -dsimp) | refine aI ?_)
  refine vcStop.call0 Tryz.body49 (in_ok x (0) 255) rfl rfl (by simp) ?_
  simp -dsimp
  repeat (first | refine wS ?_ | refine wB ?_ | ((first | refine wR ?_ | refine wD ?_); simp -dsimp) | refine aI ?_)
  refine WP.ret (finQ.retE ?_)
  simp -dsimp
theorem case_ok (x : Int) : Fn0 Tryz.prog 71 [.v (.int .i64 x)] (.v (.bool (inB x (1) 1048576))) := by
  refine Fun.of_wp (pn := noPn) Tryz.tab Tryz.func71 rfl fun β0 => ?_
  simp only [Tryz.f71]
  repeat (first | refine wS ?_ | refine wB ?_ | ((first | refine wR ?_ | refine wD ?_); simp -dsimp) | refine aI ?_)
  refine vcStop.call0 Tryz.body49 (in_ok x (1) 1048576) rfl rfl (by simp) ?_
  simp -dsimp
  repeat (first | refine wS ?_ | refine wB ?_ | ((first | refine wR ?_ | refine wD ?_); simp -dsimp) | refine aI ?_)
  refine WP.ret (finQ.retE ?_)
  simp -dsimp
theorem number_ok (x : Int) : Fn0 Tryz.prog 48 [.v (.int .i64 x)] (.v (.bool (inB x (1) 1048576))) := by
  refine Fun.of_wp (pn := noPn) Tryz.tab Tryz.func48 rfl fun β0 => ?_
  simp only [Tryz.f48]
  repeat (first | refine wS ?_ | refine wB ?_ | ((first | refine wR ?_ | refine wD ?_); simp -dsimp) | refine aI ?_)
  refine vcStop.call0 Tryz.body49 (in_ok x (1) 1048576) rfl rfl (by simp) ?_
  simp -dsimp
  repeat (first | refine wS ?_ | refine wB ?_ | ((first | refine wR ?_ | refine wD ?_); simp -dsimp) | refine aI ?_)
  refine WP.ret (finQ.retE ?_)
  simp -dsimp
theorem crew_ok (x : Int) : Fn0 Tryz.prog 47 [.v (.int .i64 x)] (.v (.bool (inB x (0) 31))) := by
  refine Fun.of_wp (pn := noPn) Tryz.tab Tryz.func47 rfl fun β0 => ?_
  simp only [Tryz.f47]
  repeat (first | refine wS ?_ | refine wB ?_ | ((first | refine wR ?_ | refine wD ?_); simp -dsimp) | refine aI ?_)
  refine vcStop.call0 Tryz.body49 (in_ok x (0) 31) rfl rfl (by simp) ?_
  simp -dsimp
  repeat (first | refine wS ?_ | refine wB ?_ | ((first | refine wR ?_ | refine wD ?_); simp -dsimp) | refine aI ?_)
  refine WP.ret (finQ.retE ?_)
  simp -dsimp
set_option maxRecDepth 10000 in
theorem starter_ok (f : Nat → Int) : Fn0 Tryz.prog 63 [.agg (fcs f 4 8)] (.v (.bool (inB (f 4) 1 9999 && inB (f 5) 0 7 && inB (f 6) 0 31 && inB (f 7) (-1099511627776) 1099511627776 && inB (f 8) 0 120 && inB (f 9) 0 1048576 && inB (f 10) 0 9999 && inB (f 11) 0 1048576))) := by
  refine Fun.of_wp (pn := noPn) Tryz.tab Tryz.func63 rfl fun β0 => ?_
  simp only [Tryz.f63]
  repeat (first | refine wS ?_ | refine wB ?_ | ((first | refine wR ?_ | refine wD ?_); simp -dsimp) | refine aI ?_)
  refine vcStop.call0 Tryz.body69 (bib_ok (f 4)) rfl rfl (by simp) ?_
  simp -dsimp
  repeat refine aI ?_
  refine vcStopG.call0 Tryz.body49 (fun _ => in_ok (f 5) (0) (7)) rfl (fun _ => rfl) (fun _ => by simp) ?_
  simp -dsimp
  repeat refine aI ?_
  refine vcStopG.call0 Tryz.body49 (fun _ => in_ok (f 6) (0) (31)) rfl (fun _ => rfl) (fun _ => by simp) ?_
  simp -dsimp
  repeat refine aI ?_
  refine vcStopG.call0 Tryz.body67 (fun _ => time_ok (f 7)) rfl (fun _ => rfl) (fun _ => by simp) ?_
  simp -dsimp
  repeat refine aI ?_
  refine vcStopG.call0 Tryz.body49 (fun _ => in_ok (f 8) (0) (120)) rfl (fun _ => rfl) (fun _ => by simp) ?_
  simp -dsimp
  repeat refine aI ?_
  refine vcStopG.call0 Tryz.body66 (fun _ => chip_ok (f 9)) rfl (fun _ => rfl) (fun _ => by simp) ?_
  simp -dsimp
  repeat refine aI ?_
  refine vcStopG.call0 Tryz.body49 (fun _ => in_ok (f 10) (0) (9999)) rfl (fun _ => rfl) (fun _ => by simp) ?_
  simp -dsimp
  repeat refine aI ?_
  refine vcStopG.call0 Tryz.body49 (fun _ => in_ok (f 11) (0) (1048576)) rfl (fun _ => rfl) (fun _ => by simp) ?_
  simp -dsimp
  repeat refine aI ?_
  repeat (first | refine wS ?_ | refine wB ?_ | ((first | refine wR ?_ | refine wD ?_); simp -dsimp) | refine aI ?_)
  refine WP.ret (finQ.retE ?_)
  simp -dsimp
set_option maxRecDepth 10000 in
theorem sync_ok (f : Nat → Int) : Fn0 Tryz.prog 68 [.agg (fcs f 21 8)] (.v (.bool (inB (f 21) 0 39 && inB (f 24) 0 39 && inB (f 22) 0 255 && inB (f 25) 0 255 && inB (f 23) (-1099511627776) 1099511627776 && inB (f 26) (-1099511627776) 1099511627776 && inB (f 27) (-1099511627776) 1099511627776 && inB (f 28) (-1099511627776) 1099511627776 && decide (f 27 ≤ f 28)))) := by
  refine Fun.of_wp (pn := noPn) Tryz.tab Tryz.func68 rfl fun β0 => ?_
  simp only [Tryz.f68]
  repeat (first | refine wS ?_ | refine wB ?_ | ((first | refine wR ?_ | refine wD ?_); simp -dsimp) | refine aI ?_)
  refine vcStop.call0 Tryz.body64 (mat_ok (f 21)) rfl rfl (by simp) ?_
  simp -dsimp
  repeat refine aI ?_
  refine vcStopG.call0 Tryz.body64 (fun _ => mat_ok (f 24)) rfl (fun _ => rfl) (fun _ => by simp) ?_
  simp -dsimp
  repeat refine aI ?_
  refine vcStopG.call0 Tryz.body65 (fun _ => epoch_ok (f 22)) rfl (fun _ => rfl) (fun _ => by simp) ?_
  simp -dsimp
  repeat refine aI ?_
  refine vcStopG.call0 Tryz.body65 (fun _ => epoch_ok (f 25)) rfl (fun _ => rfl) (fun _ => by simp) ?_
  simp -dsimp
  repeat refine aI ?_
  refine vcStopG.call0 Tryz.body67 (fun _ => time_ok (f 23)) rfl (fun _ => rfl) (fun _ => by simp) ?_
  simp -dsimp
  repeat refine aI ?_
  refine vcStopG.call0 Tryz.body67 (fun _ => time_ok (f 26)) rfl (fun _ => rfl) (fun _ => by simp) ?_
  simp -dsimp
  repeat refine aI ?_
  refine vcStopG.call0 Tryz.body67 (fun _ => time_ok (f 27)) rfl (fun _ => rfl) (fun _ => by simp) ?_
  simp -dsimp
  repeat refine aI ?_
  refine vcStopG.call0 Tryz.body67 (fun _ => time_ok (f 28)) rfl (fun _ => rfl) (fun _ => by simp) ?_
  simp -dsimp
  repeat refine aI ?_
  repeat (first | refine wS ?_ | refine wB ?_ | ((first | refine wR ?_ | refine wD ?_); simp -dsimp) | refine aI ?_)
  refine WP.ret (finQ.retE ?_)
  simp -dsimp
end Go.Proofs.YtjjaabidbeoomaaGreatDoor

/-
  The reference's checks: rulings, contents; a fact without what its kind does not have.
-/
set_option linter.unusedSimpArgs false
set_option linter.unusedVariables false
namespace Go.Proofs.YtjjaabidbeoomaaGreatDoor
open Go.Xe Go.RowKit

def rulB (f : Nat → Int) : Bool :=
  if f 49 = 1 ∨ f 49 = 2 then decide (f 50 = 0) && decide (f 51 = 0) && decide (f 52 = 0)
  else if f 49 = 3 then inB (f 50) 1 9999 && inB (f 51) 0 255 && inB (f 52) 1 1099511627776
  else if f 49 = 4 then inB (f 50) 1 9999 && inB (f 51) 0 255 && inB (f 52) 1 64
  else if f 49 = 5 then inB (f 50) 1 9999 && inB (f 51) 0 255 && decide (f 52 = 0)
  else false
def rulF (f : Nat → Int) : Bool := (inB (f 47) 1 1048576 && inB (f 48) 1 2) && rulB f
set_option maxRecDepth 10000 in
set_option maxHeartbeats 4000000 in
theorem ruling_ok (f : Nat → Int) : Fn0 Tryz.prog 72 [.agg (fcs f 47 6)] (.v (.bool (rulF f))) := by
  refine Fun.of_wp (pn := noPn) Tryz.tab Tryz.func72 rfl fun β0 => ?_
  simp only [Tryz.f72]
  repeat (first | refine wS ?_ | refine wB ?_ | ((first | refine wR ?_ | refine wD ?_); simp -dsimp) | refine aI ?_)
  refine vcStop.call0 Tryz.body71 (case_ok (f 47)) rfl rfl (by simp) ?_
  simp -dsimp
  repeat refine aI ?_
  refine vcStopG.call0 Tryz.body49 (fun _ => in_ok (f 48) (1) (2)) rfl (fun _ => rfl) (fun _ => by simp) ?_
  simp -dsimp
  repeat refine aI ?_
  repeat (first | refine wS ?_ | refine wB ?_ | ((first | refine wR ?_ | refine wD ?_); simp -dsimp) | refine aI ?_)
  refine WP.cond (b := !(inB (f 47) 1 1048576 && inB (f 48) 1 2)) (by simp) (fun hb => ?_) (fun hb => ?_)
  · have hb : (inB (f 47) 1 1048576 && inB (f 48) 1 2) = false := by simpa only [Bool.not_eq_true'] using hb
    repeat (first | refine wS ?_ | refine wB ?_ | ((first | refine wR ?_ | refine wD ?_); simp -dsimp) | refine aI ?_)
    refine WP.ret (finQ.retE ?_)
    simp -dsimp [rulF, hb]
  have hb : (inB (f 47) 1 1048576 && inB (f 48) 1 2) = true := by simpa only [Bool.not_eq_false'] using hb
  rw [rulF, hb, Bool.true_and]
  refine WP.skip ?_
  simp -dsimp
  repeat (first | refine wS ?_ | refine wB ?_ | ((first | refine wR ?_ | refine wD ?_); simp -dsimp) | refine aI ?_)
  have hr : f 49 = 1 ∨ f 49 = 2 ∨ f 49 = 3 ∨ f 49 = 4 ∨ f 49 = 5 ∨ (f 49 ≠ 1 ∧ f 49 ≠ 2 ∧ f 49 ≠ 3 ∧ f 49 ≠ 4 ∧ f 49 ≠ 5) := by omega
  rcases hr with hr | hr | hr | hr | hr | ⟨hr1, hr2, hr3, hr4, hr5⟩
  · rw [hr]
    refine WP.cond (b := true) (by simp) (fun _ => ?_) (fun h => by cases h)
    refine WP.skip ?_
    simp -dsimp
    repeat (first | refine wS ?_ | refine wB ?_ | ((first | refine wR ?_ | refine wD ?_); simp -dsimp) | refine aI ?_)
    refine WP.cond (b := true) (by simp) (fun _ => ?_) (fun h => by cases h)
    repeat (first | refine wS ?_ | refine wB ?_ | ((first | refine wR ?_ | refine wD ?_); simp -dsimp) | refine aI ?_)
    refine WP.ret (finQ.retE ?_)
    simp -dsimp [rulB, hr]
  · rw [hr]
    refine WP.cond (b := false) (by simp) (fun h => by cases h) (fun _ => ?_)
    repeat (first | refine wS ?_ | refine wB ?_ | ((first | refine wR ?_ | refine wD ?_); simp -dsimp) | refine aI ?_)
    refine WP.cond (b := true) (by simp) (fun _ => ?_) (fun h => by cases h)
    repeat (first | refine wS ?_ | refine wB ?_ | ((first | refine wR ?_ | refine wD ?_); simp -dsimp) | refine aI ?_)
    refine WP.ret (finQ.retE ?_)
    simp -dsimp [rulB, hr]
  · rw [hr]
    refine WP.cond (b := false) (by simp) (fun h => by cases h) (fun _ => ?_)
    repeat (first | refine wS ?_ | refine wB ?_ | ((first | refine wR ?_ | refine wD ?_); simp -dsimp) | refine aI ?_)
    refine WP.cond (b := false) (by simp) (fun h => by cases h) (fun _ => ?_)
    repeat (first | refine wS ?_ | refine wB ?_ | ((first | refine wR ?_ | refine wD ?_); simp -dsimp) | refine aI ?_)
    refine WP.cond (b := true) (by simp) (fun _ => ?_) (fun h => by cases h)
    repeat (first | refine wS ?_ | refine wB ?_ | ((first | refine wR ?_ | refine wD ?_); simp -dsimp) | refine aI ?_)
    refine vcStop.call0 Tryz.body69 (bib_ok (f 50)) rfl rfl (by simp) ?_
    simp -dsimp
    repeat refine aI ?_
    refine vcStopG.call0 Tryz.body70 (fun _ => pos_ok (f 51)) rfl (fun _ => rfl) (fun _ => by simp) ?_
    simp -dsimp
    repeat refine aI ?_
    refine vcStopG.call0 Tryz.body49 (fun _ => in_ok (f 52) (1) (1099511627776)) rfl (fun _ => rfl) (fun _ => by simp) ?_
    simp -dsimp
    repeat refine aI ?_
    repeat (first | refine wS ?_ | refine wB ?_ | ((first | refine wR ?_ | refine wD ?_); simp -dsimp) | refine aI ?_)
    refine WP.ret (finQ.retE ?_)
    simp -dsimp [rulB, hr]
  · rw [hr]
    refine WP.cond (b := false) (by simp) (fun h => by cases h) (fun _ => ?_)
    repeat (first | refine wS ?_ | refine wB ?_ | ((first | refine wR ?_ | refine wD ?_); simp -dsimp) | refine aI ?_)
    refine WP.cond (b := false) (by simp) (fun h => by cases h) (fun _ => ?_)
    repeat (first | refine wS ?_ | refine wB ?_ | ((first | refine wR ?_ | refine wD ?_); simp -dsimp) | refine aI ?_)
    refine WP.cond (b := false) (by simp) (fun h => by cases h) (fun _ => ?_)
    repeat (first | refine wS ?_ | refine wB ?_ | ((first | refine wR ?_ | refine wD ?_); simp -dsimp) | refine aI ?_)
    refine WP.cond (b := true) (by simp) (fun _ => ?_) (fun h => by cases h)
    repeat (first | refine wS ?_ | refine wB ?_ | ((first | refine wR ?_ | refine wD ?_); simp -dsimp) | refine aI ?_)
    refine vcStop.call0 Tryz.body69 (bib_ok (f 50)) rfl rfl (by simp) ?_
    simp -dsimp
    repeat refine aI ?_
    refine vcStopG.call0 Tryz.body70 (fun _ => pos_ok (f 51)) rfl (fun _ => rfl) (fun _ => by simp) ?_
    simp -dsimp
    repeat refine aI ?_
    refine vcStopG.call0 Tryz.body49 (fun _ => in_ok (f 52) (1) (64)) rfl (fun _ => rfl) (fun _ => by simp) ?_
    simp -dsimp
    repeat refine aI ?_
    repeat (first | refine wS ?_ | refine wB ?_ | ((first | refine wR ?_ | refine wD ?_); simp -dsimp) | refine aI ?_)
    refine WP.ret (finQ.retE ?_)
    simp -dsimp [rulB, hr]
  · rw [hr]
    refine WP.cond (b := false) (by simp) (fun h => by cases h) (fun _ => ?_)
    repeat (first | refine wS ?_ | refine wB ?_ | ((first | refine wR ?_ | refine wD ?_); simp -dsimp) | refine aI ?_)
    refine WP.cond (b := false) (by simp) (fun h => by cases h) (fun _ => ?_)
    repeat (first | refine wS ?_ | refine wB ?_ | ((first | refine wR ?_ | refine wD ?_); simp -dsimp) | refine aI ?_)
    refine WP.cond (b := false) (by simp) (fun h => by cases h) (fun _ => ?_)
    repeat (first | refine wS ?_ | refine wB ?_ | ((first | refine wR ?_ | refine wD ?_); simp -dsimp) | refine aI ?_)
    refine WP.cond (b := false) (by simp) (fun h => by cases h) (fun _ => ?_)
    repeat (first | refine wS ?_ | refine wB ?_ | ((first | refine wR ?_ | refine wD ?_); simp -dsimp) | refine aI ?_)
    refine WP.cond (b := true) (by simp) (fun _ => ?_) (fun h => by cases h)
    repeat (first | refine wS ?_ | refine wB ?_ | ((first | refine wR ?_ | refine wD ?_); simp -dsimp) | refine aI ?_)
    refine vcStop.call0 Tryz.body69 (bib_ok (f 50)) rfl rfl (by simp) ?_
    simp -dsimp
    repeat refine aI ?_
    refine vcStopG.call0 Tryz.body70 (fun _ => pos_ok (f 51)) rfl (fun _ => rfl) (fun _ => by simp) ?_
    simp -dsimp
    repeat refine aI ?_
    repeat (first | refine wS ?_ | refine wB ?_ | ((first | refine wR ?_ | refine wD ?_); simp -dsimp) | refine aI ?_)
    refine WP.ret (finQ.retE ?_)
    simp -dsimp [rulB, hr]
  · refine WP.cond (b := false) (by simp [*]) (fun h => by cases h) (fun _ => ?_)
    repeat (first | refine wS ?_ | refine wB ?_ | ((first | refine wR ?_ | refine wD ?_); simp -dsimp) | refine aI ?_)
    refine WP.cond (b := false) (by simp [*]) (fun h => by cases h) (fun _ => ?_)
    repeat (first | refine wS ?_ | refine wB ?_ | ((first | refine wR ?_ | refine wD ?_); simp -dsimp) | refine aI ?_)
    refine WP.cond (b := false) (by simp [*]) (fun h => by cases h) (fun _ => ?_)
    repeat (first | refine wS ?_ | refine wB ?_ | ((first | refine wR ?_ | refine wD ?_); simp -dsimp) | refine aI ?_)
    refine WP.cond (b := false) (by simp [*]) (fun h => by cases h) (fun _ => ?_)
    repeat (first | refine wS ?_ | refine wB ?_ | ((first | refine wR ?_ | refine wD ?_); simp -dsimp) | refine aI ?_)
    refine WP.cond (b := false) (by simp [*]) (fun h => by cases h) (fun _ => ?_)
    refine WP.skip ?_
    simp -dsimp
    repeat (first | refine wS ?_ | refine wB ?_ | ((first | refine wR ?_ | refine wD ?_); simp -dsimp) | refine aI ?_)
    refine WP.ret (finQ.retE ?_)
    simp -dsimp [rulB, hr1, hr2, hr3, hr4, hr5]

/-- The contents of the kind are valid. -/
def conF (f : Nat → Int) : Bool :=
  if f 3 = 1 then inB (f 4) 1 9999 && inB (f 5) 0 7 && inB (f 6) 0 31 && inB (f 7) (-1099511627776) 1099511627776 && inB (f 8) 0 120 && inB (f 9) 0 1048576 && inB (f 10) 0 9999 && inB (f 11) 0 1048576
  else if f 3 = 2 then inB (f 12) 0 39 && inB (f 13) 0 255 && inB (f 14) 0 1048576 && inB (f 15) (-1099511627776) 1099511627776
  else if f 3 = 3 then inB (f 16) 0 39 && inB (f 17) 0 255 && inB (f 18) (-1099511627776) 1099511627776 && inB (f 19) (-1099511627776) 1099511627776 && inB (f 20) 0 1099511627776
  else if f 3 = 4 then inB (f 21) 0 39 && inB (f 24) 0 39 && inB (f 22) 0 255 && inB (f 25) 0 255 && inB (f 23) (-1099511627776) 1099511627776 && inB (f 26) (-1099511627776) 1099511627776 && inB (f 27) (-1099511627776) 1099511627776 && inB (f 28) (-1099511627776) 1099511627776 && decide (f 27 ≤ f 28)
  else if f 3 = 5 then inB (f 29) 1 9999 && inB (f 30) 0 255 && inB (f 31) (-1099511627776) 1099511627776 && inB (f 32) (-1099511627776) 1099511627776 && decide (f 31 ≤ f 32)
  else if f 3 = 6 then inB (f 33) 0 39 && inB (f 34) 0 255 && inB (f 35) (-1099511627776) 1099511627776 && inB (f 36) (-1099511627776) 1099511627776 && decide (f 35 ≤ f 36)
  else if f 3 = 7 then inB (f 37) 1 9999 && inB (f 38) 1 9999 && decide (f 37 < f 38)
  else if f 3 = 8 then inB (f 39) 1 1048576 && inB (f 40) 1 9999 && inB (f 41) 0 31 && inB (f 42) 0 255
  else if f 3 = 9 then inB (f 43) 1 1048576 && inB (f 44) 0 9999 && inB (f 45) 0 1125899906842624 && inB (f 46) 0 1
  else if f 3 = 10 then rulF f
  else if f 3 = 11 then inB (f 53) 1 1048576
  else if f 3 = 12 then true
  else if f 3 = 13 then inB (f 55) 0 31 && inB (f 56) 1 1048576
  else false
set_option maxRecDepth 10000 in
set_option maxHeartbeats 4000000 in
theorem content_1 (f : Nat → Int) (hk : f 3 = 1) : Fn0 Tryz.prog 50 [fD f] (.v (.bool (inB (f 4) 1 9999 && inB (f 5) 0 7 && inB (f 6) 0 31 && inB (f 7) (-1099511627776) 1099511627776 && inB (f 8) 0 120 && inB (f 9) 0 1048576 && inB (f 10) 0 9999 && inB (f 11) 0 1048576))) := by
  refine Fun.of_wp (pn := noPn) Tryz.tab Tryz.func50 rfl fun β0 => ?_
  simp only [Tryz.f50]
  rw [fD]
  repeat (first | refine wS ?_ | refine wB ?_ | ((first | refine wR ?_ | refine wD ?_); simp -dsimp) | refine aI ?_)
  rw [hk]
  refine WP.cond (b := true) (by simp) (fun _ => ?_) (fun h => by cases h)
  repeat (first | refine wS ?_ | refine wB ?_ | ((first | refine wR ?_ | refine wD ?_); simp -dsimp) | refine aI ?_)
  refine vcStop.call0 Tryz.body63 (starter_ok f) rfl rfl (by simp) ?_
  simp -dsimp
  repeat refine aI ?_
  repeat (first | refine wS ?_ | refine wB ?_ | ((first | refine wR ?_ | refine wD ?_); simp -dsimp) | refine aI ?_)
  refine WP.ret (finQ.retE ?_)
  simp -dsimp

set_option maxRecDepth 10000 in
set_option maxHeartbeats 4000000 in
theorem content_2 (f : Nat → Int) (hk : f 3 = 2) : Fn0 Tryz.prog 50 [fD f] (.v (.bool (inB (f 12) 0 39 && inB (f 13) 0 255 && inB (f 14) 0 1048576 && inB (f 15) (-1099511627776) 1099511627776))) := by
  refine Fun.of_wp (pn := noPn) Tryz.tab Tryz.func50 rfl fun β0 => ?_
  simp only [Tryz.f50]
  rw [fD]
  repeat (first | refine wS ?_ | refine wB ?_ | ((first | refine wR ?_ | refine wD ?_); simp -dsimp) | refine aI ?_)
  rw [hk]
  refine WP.cond (b := false) (by simp) (fun h => by cases h) (fun _ => ?_)
  repeat (first | refine wS ?_ | refine wB ?_ | ((first | refine wR ?_ | refine wD ?_); simp -dsimp) | refine aI ?_)
  refine WP.cond (b := true) (by simp) (fun _ => ?_) (fun h => by cases h)
  repeat (first | refine wS ?_ | refine wB ?_ | ((first | refine wR ?_ | refine wD ?_); simp -dsimp) | refine aI ?_)
  refine vcStop.call0 Tryz.body64 (mat_ok (f 12)) rfl rfl (by simp) ?_
  simp -dsimp
  repeat refine aI ?_
  refine vcStopG.call0 Tryz.body65 (fun _ => epoch_ok (f 13)) rfl (fun _ => rfl) (fun _ => by simp) ?_
  simp -dsimp
  repeat refine aI ?_
  refine vcStopG.call0 Tryz.body66 (fun _ => chip_ok (f 14)) rfl (fun _ => rfl) (fun _ => by simp) ?_
  simp -dsimp
  repeat refine aI ?_
  refine vcStopG.call0 Tryz.body67 (fun _ => time_ok (f 15)) rfl (fun _ => rfl) (fun _ => by simp) ?_
  simp -dsimp
  repeat refine aI ?_
  repeat (first | refine wS ?_ | refine wB ?_ | ((first | refine wR ?_ | refine wD ?_); simp -dsimp) | refine aI ?_)
  refine WP.ret (finQ.retE ?_)
  simp -dsimp

set_option maxRecDepth 10000 in
set_option maxHeartbeats 4000000 in
theorem content_3 (f : Nat → Int) (hk : f 3 = 3) : Fn0 Tryz.prog 50 [fD f] (.v (.bool (inB (f 16) 0 39 && inB (f 17) 0 255 && inB (f 18) (-1099511627776) 1099511627776 && inB (f 19) (-1099511627776) 1099511627776 && inB (f 20) 0 1099511627776))) := by
  refine Fun.of_wp (pn := noPn) Tryz.tab Tryz.func50 rfl fun β0 => ?_
  simp only [Tryz.f50]
  rw [fD]
  repeat (first | refine wS ?_ | refine wB ?_ | ((first | refine wR ?_ | refine wD ?_); simp -dsimp) | refine aI ?_)
  rw [hk]
  refine WP.cond (b := false) (by simp) (fun h => by cases h) (fun _ => ?_)
  repeat (first | refine wS ?_ | refine wB ?_ | ((first | refine wR ?_ | refine wD ?_); simp -dsimp) | refine aI ?_)
  refine WP.cond (b := false) (by simp) (fun h => by cases h) (fun _ => ?_)
  repeat (first | refine wS ?_ | refine wB ?_ | ((first | refine wR ?_ | refine wD ?_); simp -dsimp) | refine aI ?_)
  refine WP.cond (b := true) (by simp) (fun _ => ?_) (fun h => by cases h)
  repeat (first | refine wS ?_ | refine wB ?_ | ((first | refine wR ?_ | refine wD ?_); simp -dsimp) | refine aI ?_)
  refine vcStop.call0 Tryz.body64 (mat_ok (f 16)) rfl rfl (by simp) ?_
  simp -dsimp
  repeat refine aI ?_
  refine vcStopG.call0 Tryz.body65 (fun _ => epoch_ok (f 17)) rfl (fun _ => rfl) (fun _ => by simp) ?_
  simp -dsimp
  repeat refine aI ?_
  refine vcStopG.call0 Tryz.body67 (fun _ => time_ok (f 18)) rfl (fun _ => rfl) (fun _ => by simp) ?_
  simp -dsimp
  repeat refine aI ?_
  refine vcStopG.call0 Tryz.body67 (fun _ => time_ok (f 19)) rfl (fun _ => rfl) (fun _ => by simp) ?_
  simp -dsimp
  repeat refine aI ?_
  refine vcStopG.call0 Tryz.body49 (fun _ => in_ok (f 20) (0) (1099511627776)) rfl (fun _ => rfl) (fun _ => by simp) ?_
  simp -dsimp
  repeat refine aI ?_
  repeat (first | refine wS ?_ | refine wB ?_ | ((first | refine wR ?_ | refine wD ?_); simp -dsimp) | refine aI ?_)
  refine WP.ret (finQ.retE ?_)
  simp -dsimp

set_option maxRecDepth 10000 in
set_option maxHeartbeats 4000000 in
theorem content_4 (f : Nat → Int) (hk : f 3 = 4) : Fn0 Tryz.prog 50 [fD f] (.v (.bool (inB (f 21) 0 39 && inB (f 24) 0 39 && inB (f 22) 0 255 && inB (f 25) 0 255 && inB (f 23) (-1099511627776) 1099511627776 && inB (f 26) (-1099511627776) 1099511627776 && inB (f 27) (-1099511627776) 1099511627776 && inB (f 28) (-1099511627776) 1099511627776 && decide (f 27 ≤ f 28)))) := by
  refine Fun.of_wp (pn := noPn) Tryz.tab Tryz.func50 rfl fun β0 => ?_
  simp only [Tryz.f50]
  rw [fD]
  repeat (first | refine wS ?_ | refine wB ?_ | ((first | refine wR ?_ | refine wD ?_); simp -dsimp) | refine aI ?_)
  rw [hk]
  refine WP.cond (b := false) (by simp) (fun h => by cases h) (fun _ => ?_)
  repeat (first | refine wS ?_ | refine wB ?_ | ((first | refine wR ?_ | refine wD ?_); simp -dsimp) | refine aI ?_)
  refine WP.cond (b := false) (by simp) (fun h => by cases h) (fun _ => ?_)
  repeat (first | refine wS ?_ | refine wB ?_ | ((first | refine wR ?_ | refine wD ?_); simp -dsimp) | refine aI ?_)
  refine WP.cond (b := false) (by simp) (fun h => by cases h) (fun _ => ?_)
  repeat (first | refine wS ?_ | refine wB ?_ | ((first | refine wR ?_ | refine wD ?_); simp -dsimp) | refine aI ?_)
  refine WP.cond (b := true) (by simp) (fun _ => ?_) (fun h => by cases h)
  repeat (first | refine wS ?_ | refine wB ?_ | ((first | refine wR ?_ | refine wD ?_); simp -dsimp) | refine aI ?_)
  refine vcStop.call0 Tryz.body68 (sync_ok f) rfl rfl (by simp) ?_
  simp -dsimp
  repeat refine aI ?_
  repeat (first | refine wS ?_ | refine wB ?_ | ((first | refine wR ?_ | refine wD ?_); simp -dsimp) | refine aI ?_)
  refine WP.ret (finQ.retE ?_)
  simp -dsimp

set_option maxRecDepth 10000 in
set_option maxHeartbeats 4000000 in
theorem content_5 (f : Nat → Int) (hk : f 3 = 5) : Fn0 Tryz.prog 50 [fD f] (.v (.bool (inB (f 29) 1 9999 && inB (f 30) 0 255 && inB (f 31) (-1099511627776) 1099511627776 && inB (f 32) (-1099511627776) 1099511627776 && decide (f 31 ≤ f 32)))) := by
  refine Fun.of_wp (pn := noPn) Tryz.tab Tryz.func50 rfl fun β0 => ?_
  simp only [Tryz.f50]
  rw [fD]
  repeat (first | refine wS ?_ | refine wB ?_ | ((first | refine wR ?_ | refine wD ?_); simp -dsimp) | refine aI ?_)
  rw [hk]
  refine WP.cond (b := false) (by simp) (fun h => by cases h) (fun _ => ?_)
  repeat (first | refine wS ?_ | refine wB ?_ | ((first | refine wR ?_ | refine wD ?_); simp -dsimp) | refine aI ?_)
  refine WP.cond (b := false) (by simp) (fun h => by cases h) (fun _ => ?_)
  repeat (first | refine wS ?_ | refine wB ?_ | ((first | refine wR ?_ | refine wD ?_); simp -dsimp) | refine aI ?_)
  refine WP.cond (b := false) (by simp) (fun h => by cases h) (fun _ => ?_)
  repeat (first | refine wS ?_ | refine wB ?_ | ((first | refine wR ?_ | refine wD ?_); simp -dsimp) | refine aI ?_)
  refine WP.cond (b := false) (by simp) (fun h => by cases h) (fun _ => ?_)
  repeat (first | refine wS ?_ | refine wB ?_ | ((first | refine wR ?_ | refine wD ?_); simp -dsimp) | refine aI ?_)
  refine WP.cond (b := true) (by simp) (fun _ => ?_) (fun h => by cases h)
  repeat (first | refine wS ?_ | refine wB ?_ | ((first | refine wR ?_ | refine wD ?_); simp -dsimp) | refine aI ?_)
  refine vcStop.call0 Tryz.body69 (bib_ok (f 29)) rfl rfl (by simp) ?_
  simp -dsimp
  repeat refine aI ?_
  refine vcStopG.call0 Tryz.body70 (fun _ => pos_ok (f 30)) rfl (fun _ => rfl) (fun _ => by simp) ?_
  simp -dsimp
  repeat refine aI ?_
  refine vcStopG.call0 Tryz.body67 (fun _ => time_ok (f 31)) rfl (fun _ => rfl) (fun _ => by simp) ?_
  simp -dsimp
  repeat refine aI ?_
  refine vcStopG.call0 Tryz.body67 (fun _ => time_ok (f 32)) rfl (fun _ => rfl) (fun _ => by simp) ?_
  simp -dsimp
  repeat refine aI ?_
  repeat (first | refine wS ?_ | refine wB ?_ | ((first | refine wR ?_ | refine wD ?_); simp -dsimp) | refine aI ?_)
  refine WP.ret (finQ.retE ?_)
  simp -dsimp

set_option maxRecDepth 10000 in
set_option maxHeartbeats 4000000 in
theorem content_6 (f : Nat → Int) (hk : f 3 = 6) : Fn0 Tryz.prog 50 [fD f] (.v (.bool (inB (f 33) 0 39 && inB (f 34) 0 255 && inB (f 35) (-1099511627776) 1099511627776 && inB (f 36) (-1099511627776) 1099511627776 && decide (f 35 ≤ f 36)))) := by
  refine Fun.of_wp (pn := noPn) Tryz.tab Tryz.func50 rfl fun β0 => ?_
  simp only [Tryz.f50]
  rw [fD]
  repeat (first | refine wS ?_ | refine wB ?_ | ((first | refine wR ?_ | refine wD ?_); simp -dsimp) | refine aI ?_)
  rw [hk]
  refine WP.cond (b := false) (by simp) (fun h => by cases h) (fun _ => ?_)
  repeat (first | refine wS ?_ | refine wB ?_ | ((first | refine wR ?_ | refine wD ?_); simp -dsimp) | refine aI ?_)
  refine WP.cond (b := false) (by simp) (fun h => by cases h) (fun _ => ?_)
  repeat (first | refine wS ?_ | refine wB ?_ | ((first | refine wR ?_ | refine wD ?_); simp -dsimp) | refine aI ?_)
  refine WP.cond (b := false) (by simp) (fun h => by cases h) (fun _ => ?_)
  repeat (first | refine wS ?_ | refine wB ?_ | ((first | refine wR ?_ | refine wD ?_); simp -dsimp) | refine aI ?_)
  refine WP.cond (b := false) (by simp) (fun h => by cases h) (fun _ => ?_)
  repeat (first | refine wS ?_ | refine wB ?_ | ((first | refine wR ?_ | refine wD ?_); simp -dsimp) | refine aI ?_)
  refine WP.cond (b := false) (by simp) (fun h => by cases h) (fun _ => ?_)
  repeat (first | refine wS ?_ | refine wB ?_ | ((first | refine wR ?_ | refine wD ?_); simp -dsimp) | refine aI ?_)
  refine WP.cond (b := true) (by simp) (fun _ => ?_) (fun h => by cases h)
  repeat (first | refine wS ?_ | refine wB ?_ | ((first | refine wR ?_ | refine wD ?_); simp -dsimp) | refine aI ?_)
  refine vcStop.call0 Tryz.body64 (mat_ok (f 33)) rfl rfl (by simp) ?_
  simp -dsimp
  repeat refine aI ?_
  refine vcStopG.call0 Tryz.body65 (fun _ => epoch_ok (f 34)) rfl (fun _ => rfl) (fun _ => by simp) ?_
  simp -dsimp
  repeat refine aI ?_
  refine vcStopG.call0 Tryz.body67 (fun _ => time_ok (f 35)) rfl (fun _ => rfl) (fun _ => by simp) ?_
  simp -dsimp
  repeat refine aI ?_
  refine vcStopG.call0 Tryz.body67 (fun _ => time_ok (f 36)) rfl (fun _ => rfl) (fun _ => by simp) ?_
  simp -dsimp
  repeat refine aI ?_
  repeat (first | refine wS ?_ | refine wB ?_ | ((first | refine wR ?_ | refine wD ?_); simp -dsimp) | refine aI ?_)
  refine WP.ret (finQ.retE ?_)
  simp -dsimp

set_option maxRecDepth 10000 in
set_option maxHeartbeats 4000000 in
theorem content_7 (f : Nat → Int) (hk : f 3 = 7) : Fn0 Tryz.prog 50 [fD f] (.v (.bool (inB (f 37) 1 9999 && inB (f 38) 1 9999 && decide (f 37 < f 38)))) := by
  refine Fun.of_wp (pn := noPn) Tryz.tab Tryz.func50 rfl fun β0 => ?_
  simp only [Tryz.f50]
  rw [fD]
  repeat (first | refine wS ?_ | refine wB ?_ | ((first | refine wR ?_ | refine wD ?_); simp -dsimp) | refine aI ?_)
  rw [hk]
  refine WP.cond (b := false) (by simp) (fun h => by cases h) (fun _ => ?_)
  repeat (first | refine wS ?_ | refine wB ?_ | ((first | refine wR ?_ | refine wD ?_); simp -dsimp) | refine aI ?_)
  refine WP.cond (b := false) (by simp) (fun h => by cases h) (fun _ => ?_)
  repeat (first | refine wS ?_ | refine wB ?_ | ((first | refine wR ?_ | refine wD ?_); simp -dsimp) | refine aI ?_)
  refine WP.cond (b := false) (by simp) (fun h => by cases h) (fun _ => ?_)
  repeat (first | refine wS ?_ | refine wB ?_ | ((first | refine wR ?_ | refine wD ?_); simp -dsimp) | refine aI ?_)
  refine WP.cond (b := false) (by simp) (fun h => by cases h) (fun _ => ?_)
  repeat (first | refine wS ?_ | refine wB ?_ | ((first | refine wR ?_ | refine wD ?_); simp -dsimp) | refine aI ?_)
  refine WP.cond (b := false) (by simp) (fun h => by cases h) (fun _ => ?_)
  repeat (first | refine wS ?_ | refine wB ?_ | ((first | refine wR ?_ | refine wD ?_); simp -dsimp) | refine aI ?_)
  refine WP.cond (b := false) (by simp) (fun h => by cases h) (fun _ => ?_)
  repeat (first | refine wS ?_ | refine wB ?_ | ((first | refine wR ?_ | refine wD ?_); simp -dsimp) | refine aI ?_)
  refine WP.cond (b := true) (by simp) (fun _ => ?_) (fun h => by cases h)
  repeat (first | refine wS ?_ | refine wB ?_ | ((first | refine wR ?_ | refine wD ?_); simp -dsimp) | refine aI ?_)
  refine vcStop.call0 Tryz.body69 (bib_ok (f 37)) rfl rfl (by simp) ?_
  simp -dsimp
  repeat refine aI ?_
  refine vcStopG.call0 Tryz.body69 (fun _ => bib_ok (f 38)) rfl (fun _ => rfl) (fun _ => by simp) ?_
  simp -dsimp
  repeat refine aI ?_
  repeat (first | refine wS ?_ | refine wB ?_ | ((first | refine wR ?_ | refine wD ?_); simp -dsimp) | refine aI ?_)
  refine WP.ret (finQ.retE ?_)
  simp -dsimp

set_option maxRecDepth 10000 in
set_option maxHeartbeats 4000000 in
theorem content_8 (f : Nat → Int) (hk : f 3 = 8) : Fn0 Tryz.prog 50 [fD f] (.v (.bool (inB (f 39) 1 1048576 && inB (f 40) 1 9999 && inB (f 41) 0 31 && inB (f 42) 0 255))) := by
  refine Fun.of_wp (pn := noPn) Tryz.tab Tryz.func50 rfl fun β0 => ?_
  simp only [Tryz.f50]
  rw [fD]
  repeat (first | refine wS ?_ | refine wB ?_ | ((first | refine wR ?_ | refine wD ?_); simp -dsimp) | refine aI ?_)
  rw [hk]
  refine WP.cond (b := false) (by simp) (fun h => by cases h) (fun _ => ?_)
  repeat (first | refine wS ?_ | refine wB ?_ | ((first | refine wR ?_ | refine wD ?_); simp -dsimp) | refine aI ?_)
  refine WP.cond (b := false) (by simp) (fun h => by cases h) (fun _ => ?_)
  repeat (first | refine wS ?_ | refine wB ?_ | ((first | refine wR ?_ | refine wD ?_); simp -dsimp) | refine aI ?_)
  refine WP.cond (b := false) (by simp) (fun h => by cases h) (fun _ => ?_)
  repeat (first | refine wS ?_ | refine wB ?_ | ((first | refine wR ?_ | refine wD ?_); simp -dsimp) | refine aI ?_)
  refine WP.cond (b := false) (by simp) (fun h => by cases h) (fun _ => ?_)
  repeat (first | refine wS ?_ | refine wB ?_ | ((first | refine wR ?_ | refine wD ?_); simp -dsimp) | refine aI ?_)
  refine WP.cond (b := false) (by simp) (fun h => by cases h) (fun _ => ?_)
  repeat (first | refine wS ?_ | refine wB ?_ | ((first | refine wR ?_ | refine wD ?_); simp -dsimp) | refine aI ?_)
  refine WP.cond (b := false) (by simp) (fun h => by cases h) (fun _ => ?_)
  repeat (first | refine wS ?_ | refine wB ?_ | ((first | refine wR ?_ | refine wD ?_); simp -dsimp) | refine aI ?_)
  refine WP.cond (b := false) (by simp) (fun h => by cases h) (fun _ => ?_)
  repeat (first | refine wS ?_ | refine wB ?_ | ((first | refine wR ?_ | refine wD ?_); simp -dsimp) | refine aI ?_)
  refine WP.cond (b := true) (by simp) (fun _ => ?_) (fun h => by cases h)
  repeat (first | refine wS ?_ | refine wB ?_ | ((first | refine wR ?_ | refine wD ?_); simp -dsimp) | refine aI ?_)
  refine vcStop.call0 Tryz.body71 (case_ok (f 39)) rfl rfl (by simp) ?_
  simp -dsimp
  repeat refine aI ?_
  refine vcStopG.call0 Tryz.body69 (fun _ => bib_ok (f 40)) rfl (fun _ => rfl) (fun _ => by simp) ?_
  simp -dsimp
  repeat refine aI ?_
  refine vcStopG.call0 Tryz.body49 (fun _ => in_ok (f 41) (0) (31)) rfl (fun _ => rfl) (fun _ => by simp) ?_
  simp -dsimp
  repeat refine aI ?_
  refine vcStopG.call0 Tryz.body70 (fun _ => pos_ok (f 42)) rfl (fun _ => rfl) (fun _ => by simp) ?_
  simp -dsimp
  repeat refine aI ?_
  repeat (first | refine wS ?_ | refine wB ?_ | ((first | refine wR ?_ | refine wD ?_); simp -dsimp) | refine aI ?_)
  refine WP.ret (finQ.retE ?_)
  simp -dsimp

set_option maxRecDepth 10000 in
set_option maxHeartbeats 4000000 in
theorem content_9 (f : Nat → Int) (hk : f 3 = 9) : Fn0 Tryz.prog 50 [fD f] (.v (.bool (inB (f 43) 1 1048576 && inB (f 44) 0 9999 && inB (f 45) 0 1125899906842624 && inB (f 46) 0 1))) := by
  refine Fun.of_wp (pn := noPn) Tryz.tab Tryz.func50 rfl fun β0 => ?_
  simp only [Tryz.f50]
  rw [fD]
  repeat (first | refine wS ?_ | refine wB ?_ | ((first | refine wR ?_ | refine wD ?_); simp -dsimp) | refine aI ?_)
  rw [hk]
  refine WP.cond (b := false) (by simp) (fun h => by cases h) (fun _ => ?_)
  repeat (first | refine wS ?_ | refine wB ?_ | ((first | refine wR ?_ | refine wD ?_); simp -dsimp) | refine aI ?_)
  refine WP.cond (b := false) (by simp) (fun h => by cases h) (fun _ => ?_)
  repeat (first | refine wS ?_ | refine wB ?_ | ((first | refine wR ?_ | refine wD ?_); simp -dsimp) | refine aI ?_)
  refine WP.cond (b := false) (by simp) (fun h => by cases h) (fun _ => ?_)
  repeat (first | refine wS ?_ | refine wB ?_ | ((first | refine wR ?_ | refine wD ?_); simp -dsimp) | refine aI ?_)
  refine WP.cond (b := false) (by simp) (fun h => by cases h) (fun _ => ?_)
  repeat (first | refine wS ?_ | refine wB ?_ | ((first | refine wR ?_ | refine wD ?_); simp -dsimp) | refine aI ?_)
  refine WP.cond (b := false) (by simp) (fun h => by cases h) (fun _ => ?_)
  repeat (first | refine wS ?_ | refine wB ?_ | ((first | refine wR ?_ | refine wD ?_); simp -dsimp) | refine aI ?_)
  refine WP.cond (b := false) (by simp) (fun h => by cases h) (fun _ => ?_)
  repeat (first | refine wS ?_ | refine wB ?_ | ((first | refine wR ?_ | refine wD ?_); simp -dsimp) | refine aI ?_)
  refine WP.cond (b := false) (by simp) (fun h => by cases h) (fun _ => ?_)
  repeat (first | refine wS ?_ | refine wB ?_ | ((first | refine wR ?_ | refine wD ?_); simp -dsimp) | refine aI ?_)
  refine WP.cond (b := false) (by simp) (fun h => by cases h) (fun _ => ?_)
  repeat (first | refine wS ?_ | refine wB ?_ | ((first | refine wR ?_ | refine wD ?_); simp -dsimp) | refine aI ?_)
  refine WP.cond (b := true) (by simp) (fun _ => ?_) (fun h => by cases h)
  repeat (first | refine wS ?_ | refine wB ?_ | ((first | refine wR ?_ | refine wD ?_); simp -dsimp) | refine aI ?_)
  refine vcStop.call0 Tryz.body71 (case_ok (f 43)) rfl rfl (by simp) ?_
  simp -dsimp
  repeat refine aI ?_
  refine vcStopG.call0 Tryz.body49 (fun _ => in_ok (f 44) (0) (9999)) rfl (fun _ => rfl) (fun _ => by simp) ?_
  simp -dsimp
  repeat refine aI ?_
  refine vcStopG.call0 Tryz.body49 (fun _ => in_ok (f 45) (0) (1125899906842624)) rfl (fun _ => rfl) (fun _ => by simp) ?_
  simp -dsimp
  repeat refine aI ?_
  refine vcStopG.call0 Tryz.body49 (fun _ => in_ok (f 46) (0) (1)) rfl (fun _ => rfl) (fun _ => by simp) ?_
  simp -dsimp
  repeat refine aI ?_
  repeat (first | refine wS ?_ | refine wB ?_ | ((first | refine wR ?_ | refine wD ?_); simp -dsimp) | refine aI ?_)
  refine WP.ret (finQ.retE ?_)
  simp -dsimp

set_option maxRecDepth 10000 in
set_option maxHeartbeats 4000000 in
theorem content_10 (f : Nat → Int) (hk : f 3 = 10) : Fn0 Tryz.prog 50 [fD f] (.v (.bool (rulF f))) := by
  refine Fun.of_wp (pn := noPn) Tryz.tab Tryz.func50 rfl fun β0 => ?_
  simp only [Tryz.f50]
  rw [fD]
  repeat (first | refine wS ?_ | refine wB ?_ | ((first | refine wR ?_ | refine wD ?_); simp -dsimp) | refine aI ?_)
  rw [hk]
  refine WP.cond (b := false) (by simp) (fun h => by cases h) (fun _ => ?_)
  repeat (first | refine wS ?_ | refine wB ?_ | ((first | refine wR ?_ | refine wD ?_); simp -dsimp) | refine aI ?_)
  refine WP.cond (b := false) (by simp) (fun h => by cases h) (fun _ => ?_)
  repeat (first | refine wS ?_ | refine wB ?_ | ((first | refine wR ?_ | refine wD ?_); simp -dsimp) | refine aI ?_)
  refine WP.cond (b := false) (by simp) (fun h => by cases h) (fun _ => ?_)
  repeat (first | refine wS ?_ | refine wB ?_ | ((first | refine wR ?_ | refine wD ?_); simp -dsimp) | refine aI ?_)
  refine WP.cond (b := false) (by simp) (fun h => by cases h) (fun _ => ?_)
  repeat (first | refine wS ?_ | refine wB ?_ | ((first | refine wR ?_ | refine wD ?_); simp -dsimp) | refine aI ?_)
  refine WP.cond (b := false) (by simp) (fun h => by cases h) (fun _ => ?_)
  repeat (first | refine wS ?_ | refine wB ?_ | ((first | refine wR ?_ | refine wD ?_); simp -dsimp) | refine aI ?_)
  refine WP.cond (b := false) (by simp) (fun h => by cases h) (fun _ => ?_)
  repeat (first | refine wS ?_ | refine wB ?_ | ((first | refine wR ?_ | refine wD ?_); simp -dsimp) | refine aI ?_)
  refine WP.cond (b := false) (by simp) (fun h => by cases h) (fun _ => ?_)
  repeat (first | refine wS ?_ | refine wB ?_ | ((first | refine wR ?_ | refine wD ?_); simp -dsimp) | refine aI ?_)
  refine WP.cond (b := false) (by simp) (fun h => by cases h) (fun _ => ?_)
  repeat (first | refine wS ?_ | refine wB ?_ | ((first | refine wR ?_ | refine wD ?_); simp -dsimp) | refine aI ?_)
  refine WP.cond (b := false) (by simp) (fun h => by cases h) (fun _ => ?_)
  repeat (first | refine wS ?_ | refine wB ?_ | ((first | refine wR ?_ | refine wD ?_); simp -dsimp) | refine aI ?_)
  refine WP.cond (b := true) (by simp) (fun _ => ?_) (fun h => by cases h)
  repeat (first | refine wS ?_ | refine wB ?_ | ((first | refine wR ?_ | refine wD ?_); simp -dsimp) | refine aI ?_)
  refine vcStop.call0 Tryz.body72 (ruling_ok f) rfl rfl (by simp) ?_
  simp -dsimp
  repeat refine aI ?_
  repeat (first | refine wS ?_ | refine wB ?_ | ((first | refine wR ?_ | refine wD ?_); simp -dsimp) | refine aI ?_)
  refine WP.ret (finQ.retE ?_)
  simp -dsimp

set_option maxRecDepth 10000 in
set_option maxHeartbeats 4000000 in
theorem content_11 (f : Nat → Int) (hk : f 3 = 11) : Fn0 Tryz.prog 50 [fD f] (.v (.bool (inB (f 53) 1 1048576))) := by
  refine Fun.of_wp (pn := noPn) Tryz.tab Tryz.func50 rfl fun β0 => ?_
  simp only [Tryz.f50]
  rw [fD]
  repeat (first | refine wS ?_ | refine wB ?_ | ((first | refine wR ?_ | refine wD ?_); simp -dsimp) | refine aI ?_)
  rw [hk]
  refine WP.cond (b := false) (by simp) (fun h => by cases h) (fun _ => ?_)
  repeat (first | refine wS ?_ | refine wB ?_ | ((first | refine wR ?_ | refine wD ?_); simp -dsimp) | refine aI ?_)
  refine WP.cond (b := false) (by simp) (fun h => by cases h) (fun _ => ?_)
  repeat (first | refine wS ?_ | refine wB ?_ | ((first | refine wR ?_ | refine wD ?_); simp -dsimp) | refine aI ?_)
  refine WP.cond (b := false) (by simp) (fun h => by cases h) (fun _ => ?_)
  repeat (first | refine wS ?_ | refine wB ?_ | ((first | refine wR ?_ | refine wD ?_); simp -dsimp) | refine aI ?_)
  refine WP.cond (b := false) (by simp) (fun h => by cases h) (fun _ => ?_)
  repeat (first | refine wS ?_ | refine wB ?_ | ((first | refine wR ?_ | refine wD ?_); simp -dsimp) | refine aI ?_)
  refine WP.cond (b := false) (by simp) (fun h => by cases h) (fun _ => ?_)
  repeat (first | refine wS ?_ | refine wB ?_ | ((first | refine wR ?_ | refine wD ?_); simp -dsimp) | refine aI ?_)
  refine WP.cond (b := false) (by simp) (fun h => by cases h) (fun _ => ?_)
  repeat (first | refine wS ?_ | refine wB ?_ | ((first | refine wR ?_ | refine wD ?_); simp -dsimp) | refine aI ?_)
  refine WP.cond (b := false) (by simp) (fun h => by cases h) (fun _ => ?_)
  repeat (first | refine wS ?_ | refine wB ?_ | ((first | refine wR ?_ | refine wD ?_); simp -dsimp) | refine aI ?_)
  refine WP.cond (b := false) (by simp) (fun h => by cases h) (fun _ => ?_)
  repeat (first | refine wS ?_ | refine wB ?_ | ((first | refine wR ?_ | refine wD ?_); simp -dsimp) | refine aI ?_)
  refine WP.cond (b := false) (by simp) (fun h => by cases h) (fun _ => ?_)
  repeat (first | refine wS ?_ | refine wB ?_ | ((first | refine wR ?_ | refine wD ?_); simp -dsimp) | refine aI ?_)
  refine WP.cond (b := false) (by simp) (fun h => by cases h) (fun _ => ?_)
  repeat (first | refine wS ?_ | refine wB ?_ | ((first | refine wR ?_ | refine wD ?_); simp -dsimp) | refine aI ?_)
  refine WP.cond (b := true) (by simp) (fun _ => ?_) (fun h => by cases h)
  repeat (first | refine wS ?_ | refine wB ?_ | ((first | refine wR ?_ | refine wD ?_); simp -dsimp) | refine aI ?_)
  refine vcStop.call0 Tryz.body71 (case_ok (f 53)) rfl rfl (by simp) ?_
  simp -dsimp
  repeat refine aI ?_
  repeat (first | refine wS ?_ | refine wB ?_ | ((first | refine wR ?_ | refine wD ?_); simp -dsimp) | refine aI ?_)
  refine WP.ret (finQ.retE ?_)
  simp -dsimp

set_option maxRecDepth 10000 in
set_option maxHeartbeats 4000000 in
theorem content_12 (f : Nat → Int) (hk : f 3 = 12) : Fn0 Tryz.prog 50 [fD f] (.v (.bool (true))) := by
  refine Fun.of_wp (pn := noPn) Tryz.tab Tryz.func50 rfl fun β0 => ?_
  simp only [Tryz.f50]
  rw [fD]
  repeat (first | refine wS ?_ | refine wB ?_ | ((first | refine wR ?_ | refine wD ?_); simp -dsimp) | refine aI ?_)
  rw [hk]
  refine WP.cond (b := false) (by simp) (fun h => by cases h) (fun _ => ?_)
  repeat (first | refine wS ?_ | refine wB ?_ | ((first | refine wR ?_ | refine wD ?_); simp -dsimp) | refine aI ?_)
  refine WP.cond (b := false) (by simp) (fun h => by cases h) (fun _ => ?_)
  repeat (first | refine wS ?_ | refine wB ?_ | ((first | refine wR ?_ | refine wD ?_); simp -dsimp) | refine aI ?_)
  refine WP.cond (b := false) (by simp) (fun h => by cases h) (fun _ => ?_)
  repeat (first | refine wS ?_ | refine wB ?_ | ((first | refine wR ?_ | refine wD ?_); simp -dsimp) | refine aI ?_)
  refine WP.cond (b := false) (by simp) (fun h => by cases h) (fun _ => ?_)
  repeat (first | refine wS ?_ | refine wB ?_ | ((first | refine wR ?_ | refine wD ?_); simp -dsimp) | refine aI ?_)
  refine WP.cond (b := false) (by simp) (fun h => by cases h) (fun _ => ?_)
  repeat (first | refine wS ?_ | refine wB ?_ | ((first | refine wR ?_ | refine wD ?_); simp -dsimp) | refine aI ?_)
  refine WP.cond (b := false) (by simp) (fun h => by cases h) (fun _ => ?_)
  repeat (first | refine wS ?_ | refine wB ?_ | ((first | refine wR ?_ | refine wD ?_); simp -dsimp) | refine aI ?_)
  refine WP.cond (b := false) (by simp) (fun h => by cases h) (fun _ => ?_)
  repeat (first | refine wS ?_ | refine wB ?_ | ((first | refine wR ?_ | refine wD ?_); simp -dsimp) | refine aI ?_)
  refine WP.cond (b := false) (by simp) (fun h => by cases h) (fun _ => ?_)
  repeat (first | refine wS ?_ | refine wB ?_ | ((first | refine wR ?_ | refine wD ?_); simp -dsimp) | refine aI ?_)
  refine WP.cond (b := false) (by simp) (fun h => by cases h) (fun _ => ?_)
  repeat (first | refine wS ?_ | refine wB ?_ | ((first | refine wR ?_ | refine wD ?_); simp -dsimp) | refine aI ?_)
  refine WP.cond (b := false) (by simp) (fun h => by cases h) (fun _ => ?_)
  repeat (first | refine wS ?_ | refine wB ?_ | ((first | refine wR ?_ | refine wD ?_); simp -dsimp) | refine aI ?_)
  refine WP.cond (b := false) (by simp) (fun h => by cases h) (fun _ => ?_)
  repeat (first | refine wS ?_ | refine wB ?_ | ((first | refine wR ?_ | refine wD ?_); simp -dsimp) | refine aI ?_)
  refine WP.cond (b := true) (by simp) (fun _ => ?_) (fun h => by cases h)
  repeat (first | refine wS ?_ | refine wB ?_ | ((first | refine wR ?_ | refine wD ?_); simp -dsimp) | refine aI ?_)
  refine WP.ret (finQ.retE ?_)
  simp -dsimp

set_option maxRecDepth 10000 in
set_option maxHeartbeats 4000000 in
theorem content_13 (f : Nat → Int) (hk : f 3 = 13) : Fn0 Tryz.prog 50 [fD f] (.v (.bool (inB (f 55) 0 31 && inB (f 56) 1 1048576))) := by
  refine Fun.of_wp (pn := noPn) Tryz.tab Tryz.func50 rfl fun β0 => ?_
  simp only [Tryz.f50]
  rw [fD]
  repeat (first | refine wS ?_ | refine wB ?_ | ((first | refine wR ?_ | refine wD ?_); simp -dsimp) | refine aI ?_)
  rw [hk]
  refine WP.cond (b := false) (by simp) (fun h => by cases h) (fun _ => ?_)
  repeat (first | refine wS ?_ | refine wB ?_ | ((first | refine wR ?_ | refine wD ?_); simp -dsimp) | refine aI ?_)
  refine WP.cond (b := false) (by simp) (fun h => by cases h) (fun _ => ?_)
  repeat (first | refine wS ?_ | refine wB ?_ | ((first | refine wR ?_ | refine wD ?_); simp -dsimp) | refine aI ?_)
  refine WP.cond (b := false) (by simp) (fun h => by cases h) (fun _ => ?_)
  repeat (first | refine wS ?_ | refine wB ?_ | ((first | refine wR ?_ | refine wD ?_); simp -dsimp) | refine aI ?_)
  refine WP.cond (b := false) (by simp) (fun h => by cases h) (fun _ => ?_)
  repeat (first | refine wS ?_ | refine wB ?_ | ((first | refine wR ?_ | refine wD ?_); simp -dsimp) | refine aI ?_)
  refine WP.cond (b := false) (by simp) (fun h => by cases h) (fun _ => ?_)
  repeat (first | refine wS ?_ | refine wB ?_ | ((first | refine wR ?_ | refine wD ?_); simp -dsimp) | refine aI ?_)
  refine WP.cond (b := false) (by simp) (fun h => by cases h) (fun _ => ?_)
  repeat (first | refine wS ?_ | refine wB ?_ | ((first | refine wR ?_ | refine wD ?_); simp -dsimp) | refine aI ?_)
  refine WP.cond (b := false) (by simp) (fun h => by cases h) (fun _ => ?_)
  repeat (first | refine wS ?_ | refine wB ?_ | ((first | refine wR ?_ | refine wD ?_); simp -dsimp) | refine aI ?_)
  refine WP.cond (b := false) (by simp) (fun h => by cases h) (fun _ => ?_)
  repeat (first | refine wS ?_ | refine wB ?_ | ((first | refine wR ?_ | refine wD ?_); simp -dsimp) | refine aI ?_)
  refine WP.cond (b := false) (by simp) (fun h => by cases h) (fun _ => ?_)
  repeat (first | refine wS ?_ | refine wB ?_ | ((first | refine wR ?_ | refine wD ?_); simp -dsimp) | refine aI ?_)
  refine WP.cond (b := false) (by simp) (fun h => by cases h) (fun _ => ?_)
  repeat (first | refine wS ?_ | refine wB ?_ | ((first | refine wR ?_ | refine wD ?_); simp -dsimp) | refine aI ?_)
  refine WP.cond (b := false) (by simp) (fun h => by cases h) (fun _ => ?_)
  repeat (first | refine wS ?_ | refine wB ?_ | ((first | refine wR ?_ | refine wD ?_); simp -dsimp) | refine aI ?_)
  refine WP.cond (b := false) (by simp) (fun h => by cases h) (fun _ => ?_)
  repeat (first | refine wS ?_ | refine wB ?_ | ((first | refine wR ?_ | refine wD ?_); simp -dsimp) | refine aI ?_)
  refine WP.cond (b := true) (by simp) (fun _ => ?_) (fun h => by cases h)
  repeat (first | refine wS ?_ | refine wB ?_ | ((first | refine wR ?_ | refine wD ?_); simp -dsimp) | refine aI ?_)
  refine vcStop.call0 Tryz.body47 (crew_ok (f 55)) rfl rfl (by simp) ?_
  simp -dsimp
  repeat refine aI ?_
  refine vcStopG.call0 Tryz.body48 (fun _ => number_ok (f 56)) rfl (fun _ => rfl) (fun _ => by simp) ?_
  simp -dsimp
  repeat refine aI ?_
  repeat (first | refine wS ?_ | refine wB ?_ | ((first | refine wR ?_ | refine wD ?_); simp -dsimp) | refine aI ?_)
  refine WP.ret (finQ.retE ?_)
  simp -dsimp

set_option maxRecDepth 10000 in
set_option maxHeartbeats 4000000 in
theorem content_no (f : Nat → Int) (hk : f 3 < 1 ∨ 13 < f 3) : Fn0 Tryz.prog 50 [fD f] (.v (.bool false)) := by
  refine Fun.of_wp (pn := noPn) Tryz.tab Tryz.func50 rfl fun β0 => ?_
  simp only [Tryz.f50]
  rw [fD]
  repeat (first | refine wS ?_ | refine wB ?_ | ((first | refine wR ?_ | refine wD ?_); simp -dsimp) | refine aI ?_)
  refine WP.cond (b := false) (by simp; omega) (fun h => by cases h) (fun _ => ?_)
  repeat (first | refine wS ?_ | refine wB ?_ | ((first | refine wR ?_ | refine wD ?_); simp -dsimp) | refine aI ?_)
  refine WP.cond (b := false) (by simp; omega) (fun h => by cases h) (fun _ => ?_)
  repeat (first | refine wS ?_ | refine wB ?_ | ((first | refine wR ?_ | refine wD ?_); simp -dsimp) | refine aI ?_)
  refine WP.cond (b := false) (by simp; omega) (fun h => by cases h) (fun _ => ?_)
  repeat (first | refine wS ?_ | refine wB ?_ | ((first | refine wR ?_ | refine wD ?_); simp -dsimp) | refine aI ?_)
  refine WP.cond (b := false) (by simp; omega) (fun h => by cases h) (fun _ => ?_)
  repeat (first | refine wS ?_ | refine wB ?_ | ((first | refine wR ?_ | refine wD ?_); simp -dsimp) | refine aI ?_)
  refine WP.cond (b := false) (by simp; omega) (fun h => by cases h) (fun _ => ?_)
  repeat (first | refine wS ?_ | refine wB ?_ | ((first | refine wR ?_ | refine wD ?_); simp -dsimp) | refine aI ?_)
  refine WP.cond (b := false) (by simp; omega) (fun h => by cases h) (fun _ => ?_)
  repeat (first | refine wS ?_ | refine wB ?_ | ((first | refine wR ?_ | refine wD ?_); simp -dsimp) | refine aI ?_)
  refine WP.cond (b := false) (by simp; omega) (fun h => by cases h) (fun _ => ?_)
  repeat (first | refine wS ?_ | refine wB ?_ | ((first | refine wR ?_ | refine wD ?_); simp -dsimp) | refine aI ?_)
  refine WP.cond (b := false) (by simp; omega) (fun h => by cases h) (fun _ => ?_)
  repeat (first | refine wS ?_ | refine wB ?_ | ((first | refine wR ?_ | refine wD ?_); simp -dsimp) | refine aI ?_)
  refine WP.cond (b := false) (by simp; omega) (fun h => by cases h) (fun _ => ?_)
  repeat (first | refine wS ?_ | refine wB ?_ | ((first | refine wR ?_ | refine wD ?_); simp -dsimp) | refine aI ?_)
  refine WP.cond (b := false) (by simp; omega) (fun h => by cases h) (fun _ => ?_)
  repeat (first | refine wS ?_ | refine wB ?_ | ((first | refine wR ?_ | refine wD ?_); simp -dsimp) | refine aI ?_)
  refine WP.cond (b := false) (by simp; omega) (fun h => by cases h) (fun _ => ?_)
  repeat (first | refine wS ?_ | refine wB ?_ | ((first | refine wR ?_ | refine wD ?_); simp -dsimp) | refine aI ?_)
  refine WP.cond (b := false) (by simp; omega) (fun h => by cases h) (fun _ => ?_)
  repeat (first | refine wS ?_ | refine wB ?_ | ((first | refine wR ?_ | refine wD ?_); simp -dsimp) | refine aI ?_)
  refine WP.cond (b := false) (by simp; omega) (fun h => by cases h) (fun _ => ?_)
  refine WP.skip ?_
  simp -dsimp
  repeat (first | refine wS ?_ | refine wB ?_ | ((first | refine wR ?_ | refine wD ?_); simp -dsimp) | refine aI ?_)
  refine WP.ret (finQ.retE ?_)
  simp -dsimp

theorem content_ok (f : Nat → Int) : Fn0 Tryz.prog 50 [fD f] (.v (.bool (conF f))) := by
  have h : (f 3 < 1 ∨ 13 < f 3) ∨ f 3 = 1 ∨ f 3 = 2 ∨ f 3 = 3 ∨ f 3 = 4 ∨ f 3 = 5 ∨ f 3 = 6 ∨ f 3 = 7 ∨ f 3 = 8 ∨ f 3 = 9 ∨ f 3 = 10 ∨ f 3 = 11 ∨ f 3 = 12 ∨ f 3 = 13 := by omega
  rcases h with h | h | h | h | h | h | h | h | h | h | h | h | h | h
  · have : conF f = false := by
      unfold conF
      rw [if_neg (by omega)]
      rw [if_neg (by omega)]
      rw [if_neg (by omega)]
      rw [if_neg (by omega)]
      rw [if_neg (by omega)]
      rw [if_neg (by omega)]
      rw [if_neg (by omega)]
      rw [if_neg (by omega)]
      rw [if_neg (by omega)]
      rw [if_neg (by omega)]
      rw [if_neg (by omega)]
      rw [if_neg (by omega)]
      rw [if_neg (by omega)]
    rw [this]; exact content_no f h
  · have := content_1 f h; simpa only [conF, h, Int.reduceEq, if_true, if_false] using this
  · have := content_2 f h; simpa only [conF, h, Int.reduceEq, if_true, if_false] using this
  · have := content_3 f h; simpa only [conF, h, Int.reduceEq, if_true, if_false] using this
  · have := content_4 f h; simpa only [conF, h, Int.reduceEq, if_true, if_false] using this
  · have := content_5 f h; simpa only [conF, h, Int.reduceEq, if_true, if_false] using this
  · have := content_6 f h; simpa only [conF, h, Int.reduceEq, if_true, if_false] using this
  · have := content_7 f h; simpa only [conF, h, Int.reduceEq, if_true, if_false] using this
  · have := content_8 f h; simpa only [conF, h, Int.reduceEq, if_true, if_false] using this
  · have := content_9 f h; simpa only [conF, h, Int.reduceEq, if_true, if_false] using this
  · have := content_10 f h; simpa only [conF, h, Int.reduceEq, if_true, if_false] using this
  · have := content_11 f h; simpa only [conF, h, Int.reduceEq, if_true, if_false] using this
  · have := content_12 f h; simpa only [conF, h, Int.reduceEq, if_true, if_false] using this
  · have := content_13 f h; simpa only [conF, h, Int.reduceEq, if_true, if_false] using this
end Go.Proofs.YtjjaabidbeoomaaGreatDoor

/-
  The reference's Check.
-/
set_option linter.unusedSimpArgs false
set_option linter.unusedVariables false
namespace Go.Proofs.YtjjaabidbeoomaaGreatDoor
open Go.Xe Go.RowKit

def partF (k : Int) : Nat × Nat :=
  if k = 1 then (4, 8) else if k = 2 then (12, 4) else if k = 3 then (16, 5) else if k = 4 then (21, 8) else if k = 5 then (29, 4) else if k = 6 then (33, 4) else if k = 7 then (37, 2)
  else if k = 8 then (39, 4) else if k = 9 then (43, 4) else if k = 10 then (47, 6) else if k = 11 then (53, 2) else if k = 13 then (55, 2) else (0, 0)
def baseF (f : Nat → Int) : Nat → Int := fup (fup (fup (fup f0 0 (f 0)) 1 (f 1)) 2 (f 2)) 3 (f 3)
/-- A fact without its content but that of its kind. -/
def onlyF (f : Nat → Int) : Nat → Int := fcp (baseF f) f (partF (f 3)).1 (partF (f 3)).2
theorem onlyF_ok {f : Nat → Int} (hf : fOk f) : fOk (onlyF f) := by
  have hb : fOk (baseF f) := by
    refine ⟨fup_in (fup_in (fup_in (fup_in (fun _ => isI0) (hf.1 0)) (hf.1 1)) (hf.1 2)) (hf.1 3), .inl rfl, fun i hi => ?_⟩
    have h0 : i ≠ 0 := by omega
    have h1 : i ≠ 1 := by omega
    have h2 : i ≠ 2 := by omega
    have h3 : i ≠ 3 := by omega
    simp [baseF, fup, f0, h0, h1, h2, h3]
  refine ⟨fun i => ?_, ?_, fun i hi => ?_⟩
  · unfold onlyF fcp; split; exact hf.1 i; exact hb.1 i
  · unfold onlyF fcp; split; exact hf.2.1; exact hb.2.1
  · unfold onlyF fcp; split; exact hf.2.2 i hi; exact hb.2.2 i hi
@[simp] theorem fcp_none (g f : Nat → Int) : fcp g f 0 0 = g := by funext i; simp only [fcp]; rw [if_neg (by omega)]

set_option maxRecDepth 10000 in
set_option maxHeartbeats 4000000 in
theorem only_1 (f : Nat → Int) (hk : f 3 = 1) : Fn0 Tryz.prog 51 [fD f] (fD (onlyF f)) := by
  refine Fun.of_wp (pn := noPn) Tryz.tab Tryz.func51 rfl fun β0 => ?_
  simp only [Tryz.f51]
  unfold fD
  repeat (first | refine wS ?_ | refine wB ?_ | ((first | refine wR ?_ | refine wD ?_); simp -dsimp [zero47]) | refine aI ?_)
  rw [hk]
  refine WP.cond (b := true) (by simp) (fun _ => ?_) (fun h => by cases h)
  repeat (first | refine wS ?_ | refine wB ?_ | ((first | refine wR ?_ | refine wD ?_); simp -dsimp) | refine aI ?_)
  refine WP.ret (finQ.retE ?_)
  simp -dsimp [onlyF, partF, hk, baseF]
  all_goals exact Leq.aggD _

set_option maxRecDepth 10000 in
set_option maxHeartbeats 4000000 in
theorem only_2 (f : Nat → Int) (hk : f 3 = 2) : Fn0 Tryz.prog 51 [fD f] (fD (onlyF f)) := by
  refine Fun.of_wp (pn := noPn) Tryz.tab Tryz.func51 rfl fun β0 => ?_
  simp only [Tryz.f51]
  unfold fD
  repeat (first | refine wS ?_ | refine wB ?_ | ((first | refine wR ?_ | refine wD ?_); simp -dsimp [zero47]) | refine aI ?_)
  rw [hk]
  refine WP.cond (b := false) (by simp) (fun h => by cases h) (fun _ => ?_)
  repeat (first | refine wS ?_ | refine wB ?_ | ((first | refine wR ?_ | refine wD ?_); simp -dsimp) | refine aI ?_)
  refine WP.cond (b := true) (by simp) (fun _ => ?_) (fun h => by cases h)
  repeat (first | refine wS ?_ | refine wB ?_ | ((first | refine wR ?_ | refine wD ?_); simp -dsimp) | refine aI ?_)
  refine WP.ret (finQ.retE ?_)
  simp -dsimp [onlyF, partF, hk, baseF]
  all_goals exact Leq.aggD _

set_option maxRecDepth 10000 in
set_option maxHeartbeats 4000000 in
theorem only_3 (f : Nat → Int) (hk : f 3 = 3) : Fn0 Tryz.prog 51 [fD f] (fD (onlyF f)) := by
  refine Fun.of_wp (pn := noPn) Tryz.tab Tryz.func51 rfl fun β0 => ?_
  simp only [Tryz.f51]
  unfold fD
  repeat (first | refine wS ?_ | refine wB ?_ | ((first | refine wR ?_ | refine wD ?_); simp -dsimp [zero47]) | refine aI ?_)
  rw [hk]
  refine WP.cond (b := false) (by simp) (fun h => by cases h) (fun _ => ?_)
  repeat (first | refine wS ?_ | refine wB ?_ | ((first | refine wR ?_ | refine wD ?_); simp -dsimp) | refine aI ?_)
  refine WP.cond (b := false) (by simp) (fun h => by cases h) (fun _ => ?_)
  repeat (first | refine wS ?_ | refine wB ?_ | ((first | refine wR ?_ | refine wD ?_); simp -dsimp) | refine aI ?_)
  refine WP.cond (b := true) (by simp) (fun _ => ?_) (fun h => by cases h)
  repeat (first | refine wS ?_ | refine wB ?_ | ((first | refine wR ?_ | refine wD ?_); simp -dsimp) | refine aI ?_)
  refine WP.ret (finQ.retE ?_)
  simp -dsimp [onlyF, partF, hk, baseF]
  all_goals exact Leq.aggD _

set_option maxRecDepth 10000 in
set_option maxHeartbeats 4000000 in
theorem only_4 (f : Nat → Int) (hk : f 3 = 4) : Fn0 Tryz.prog 51 [fD f] (fD (onlyF f)) := by
  refine Fun.of_wp (pn := noPn) Tryz.tab Tryz.func51 rfl fun β0 => ?_
  simp only [Tryz.f51]
  unfold fD
  repeat (first | refine wS ?_ | refine wB ?_ | ((first | refine wR ?_ | refine wD ?_); simp -dsimp [zero47]) | refine aI ?_)
  rw [hk]
  refine WP.cond (b := false) (by simp) (fun h => by cases h) (fun _ => ?_)
  repeat (first | refine wS ?_ | refine wB ?_ | ((first | refine wR ?_ | refine wD ?_); simp -dsimp) | refine aI ?_)
  refine WP.cond (b := false) (by simp) (fun h => by cases h) (fun _ => ?_)
  repeat (first | refine wS ?_ | refine wB ?_ | ((first | refine wR ?_ | refine wD ?_); simp -dsimp) | refine aI ?_)
  refine WP.cond (b := false) (by simp) (fun h => by cases h) (fun _ => ?_)
  repeat (first | refine wS ?_ | refine wB ?_ | ((first | refine wR ?_ | refine wD ?_); simp -dsimp) | refine aI ?_)
  refine WP.cond (b := true) (by simp) (fun _ => ?_) (fun h => by cases h)
  repeat (first | refine wS ?_ | refine wB ?_ | ((first | refine wR ?_ | refine wD ?_); simp -dsimp) | refine aI ?_)
  refine WP.ret (finQ.retE ?_)
  simp -dsimp [onlyF, partF, hk, baseF]
  all_goals exact Leq.aggD _

set_option maxRecDepth 10000 in
set_option maxHeartbeats 4000000 in
theorem only_5 (f : Nat → Int) (hk : f 3 = 5) : Fn0 Tryz.prog 51 [fD f] (fD (onlyF f)) := by
  refine Fun.of_wp (pn := noPn) Tryz.tab Tryz.func51 rfl fun β0 => ?_
  simp only [Tryz.f51]
  unfold fD
  repeat (first | refine wS ?_ | refine wB ?_ | ((first | refine wR ?_ | refine wD ?_); simp -dsimp [zero47]) | refine aI ?_)
  rw [hk]
  refine WP.cond (b := false) (by simp) (fun h => by cases h) (fun _ => ?_)
  repeat (first | refine wS ?_ | refine wB ?_ | ((first | refine wR ?_ | refine wD ?_); simp -dsimp) | refine aI ?_)
  refine WP.cond (b := false) (by simp) (fun h => by cases h) (fun _ => ?_)
  repeat (first | refine wS ?_ | refine wB ?_ | ((first | refine wR ?_ | refine wD ?_); simp -dsimp) | refine aI ?_)
  refine WP.cond (b := false) (by simp) (fun h => by cases h) (fun _ => ?_)
  repeat (first | refine wS ?_ | refine wB ?_ | ((first | refine wR ?_ | refine wD ?_); simp -dsimp) | refine aI ?_)
  refine WP.cond (b := false) (by simp) (fun h => by cases h) (fun _ => ?_)
  repeat (first | refine wS ?_ | refine wB ?_ | ((first | refine wR ?_ | refine wD ?_); simp -dsimp) | refine aI ?_)
  refine WP.cond (b := true) (by simp) (fun _ => ?_) (fun h => by cases h)
  repeat (first | refine wS ?_ | refine wB ?_ | ((first | refine wR ?_ | refine wD ?_); simp -dsimp) | refine aI ?_)
  refine WP.ret (finQ.retE ?_)
  simp -dsimp [onlyF, partF, hk, baseF]
  all_goals exact Leq.aggD _

set_option maxRecDepth 10000 in
set_option maxHeartbeats 4000000 in
theorem only_6 (f : Nat → Int) (hk : f 3 = 6) : Fn0 Tryz.prog 51 [fD f] (fD (onlyF f)) := by
  refine Fun.of_wp (pn := noPn) Tryz.tab Tryz.func51 rfl fun β0 => ?_
  simp only [Tryz.f51]
  unfold fD
  repeat (first | refine wS ?_ | refine wB ?_ | ((first | refine wR ?_ | refine wD ?_); simp -dsimp [zero47]) | refine aI ?_)
  rw [hk]
  refine WP.cond (b := false) (by simp) (fun h => by cases h) (fun _ => ?_)
  repeat (first | refine wS ?_ | refine wB ?_ | ((first | refine wR ?_ | refine wD ?_); simp -dsimp) | refine aI ?_)
  refine WP.cond (b := false) (by simp) (fun h => by cases h) (fun _ => ?_)
  repeat (first | refine wS ?_ | refine wB ?_ | ((first | refine wR ?_ | refine wD ?_); simp -dsimp) | refine aI ?_)
  refine WP.cond (b := false) (by simp) (fun h => by cases h) (fun _ => ?_)
  repeat (first | refine wS ?_ | refine wB ?_ | ((first | refine wR ?_ | refine wD ?_); simp -dsimp) | refine aI ?_)
  refine WP.cond (b := false) (by simp) (fun h => by cases h) (fun _ => ?_)
  repeat (first | refine wS ?_ | refine wB ?_ | ((first | refine wR ?_ | refine wD ?_); simp -dsimp) | refine aI ?_)
  refine WP.cond (b := false) (by simp) (fun h => by cases h) (fun _ => ?_)
  repeat (first | refine wS ?_ | refine wB ?_ | ((first | refine wR ?_ | refine wD ?_); simp -dsimp) | refine aI ?_)
  refine WP.cond (b := true) (by simp) (fun _ => ?_) (fun h => by cases h)
  repeat (first | refine wS ?_ | refine wB ?_ | ((first | refine wR ?_ | refine wD ?_); simp -dsimp) | refine aI ?_)
  refine WP.ret (finQ.retE ?_)
  simp -dsimp [onlyF, partF, hk, baseF]
  all_goals exact Leq.aggD _

set_option maxRecDepth 10000 in
set_option maxHeartbeats 4000000 in
theorem only_7 (f : Nat → Int) (hk : f 3 = 7) : Fn0 Tryz.prog 51 [fD f] (fD (onlyF f)) := by
  refine Fun.of_wp (pn := noPn) Tryz.tab Tryz.func51 rfl fun β0 => ?_
  simp only [Tryz.f51]
  unfold fD
  repeat (first | refine wS ?_ | refine wB ?_ | ((first | refine wR ?_ | refine wD ?_); simp -dsimp [zero47]) | refine aI ?_)
  rw [hk]
  refine WP.cond (b := false) (by simp) (fun h => by cases h) (fun _ => ?_)
  repeat (first | refine wS ?_ | refine wB ?_ | ((first | refine wR ?_ | refine wD ?_); simp -dsimp) | refine aI ?_)
  refine WP.cond (b := false) (by simp) (fun h => by cases h) (fun _ => ?_)
  repeat (first | refine wS ?_ | refine wB ?_ | ((first | refine wR ?_ | refine wD ?_); simp -dsimp) | refine aI ?_)
  refine WP.cond (b := false) (by simp) (fun h => by cases h) (fun _ => ?_)
  repeat (first | refine wS ?_ | refine wB ?_ | ((first | refine wR ?_ | refine wD ?_); simp -dsimp) | refine aI ?_)
  refine WP.cond (b := false) (by simp) (fun h => by cases h) (fun _ => ?_)
  repeat (first | refine wS ?_ | refine wB ?_ | ((first | refine wR ?_ | refine wD ?_); simp -dsimp) | refine aI ?_)
  refine WP.cond (b := false) (by simp) (fun h => by cases h) (fun _ => ?_)
  repeat (first | refine wS ?_ | refine wB ?_ | ((first | refine wR ?_ | refine wD ?_); simp -dsimp) | refine aI ?_)
  refine WP.cond (b := false) (by simp) (fun h => by cases h) (fun _ => ?_)
  repeat (first | refine wS ?_ | refine wB ?_ | ((first | refine wR ?_ | refine wD ?_); simp -dsimp) | refine aI ?_)
  refine WP.cond (b := true) (by simp) (fun _ => ?_) (fun h => by cases h)
  repeat (first | refine wS ?_ | refine wB ?_ | ((first | refine wR ?_ | refine wD ?_); simp -dsimp) | refine aI ?_)
  refine WP.ret (finQ.retE ?_)
  simp -dsimp [onlyF, partF, hk, baseF]
  all_goals exact Leq.aggD _

set_option maxRecDepth 10000 in
set_option maxHeartbeats 4000000 in
theorem only_8 (f : Nat → Int) (hk : f 3 = 8) : Fn0 Tryz.prog 51 [fD f] (fD (onlyF f)) := by
  refine Fun.of_wp (pn := noPn) Tryz.tab Tryz.func51 rfl fun β0 => ?_
  simp only [Tryz.f51]
  unfold fD
  repeat (first | refine wS ?_ | refine wB ?_ | ((first | refine wR ?_ | refine wD ?_); simp -dsimp [zero47]) | refine aI ?_)
  rw [hk]
  refine WP.cond (b := false) (by simp) (fun h => by cases h) (fun _ => ?_)
  repeat (first | refine wS ?_ | refine wB ?_ | ((first | refine wR ?_ | refine wD ?_); simp -dsimp) | refine aI ?_)
  refine WP.cond (b := false) (by simp) (fun h => by cases h) (fun _ => ?_)
  repeat (first | refine wS ?_ | refine wB ?_ | ((first | refine wR ?_ | refine wD ?_); simp -dsimp) | refine aI ?_)
  refine WP.cond (b := false) (by simp) (fun h => by cases h) (fun _ => ?_)
  repeat (first | refine wS ?_ | refine wB ?_ | ((first | refine wR ?_ | refine wD ?_); simp -dsimp) | refine aI ?_)
  refine WP.cond (b := false) (by simp) (fun h => by cases h) (fun _ => ?_)
  repeat (first | refine wS ?_ | refine wB ?_ | ((first | refine wR ?_ | refine wD ?_); simp -dsimp) | refine aI ?_)
  refine WP.cond (b := false) (by simp) (fun h => by cases h) (fun _ => ?_)
  repeat (first | refine wS ?_ | refine wB ?_ | ((first | refine wR ?_ | refine wD ?_); simp -dsimp) | refine aI ?_)
  refine WP.cond (b := false) (by simp) (fun h => by cases h) (fun _ => ?_)
  repeat (first | refine wS ?_ | refine wB ?_ | ((first | refine wR ?_ | refine wD ?_); simp -dsimp) | refine aI ?_)
  refine WP.cond (b := false) (by simp) (fun h => by cases h) (fun _ => ?_)
  repeat (first | refine wS ?_ | refine wB ?_ | ((first | refine wR ?_ | refine wD ?_); simp -dsimp) | refine aI ?_)
  refine WP.cond (b := true) (by simp) (fun _ => ?_) (fun h => by cases h)
  repeat (first | refine wS ?_ | refine wB ?_ | ((first | refine wR ?_ | refine wD ?_); simp -dsimp) | refine aI ?_)
  refine WP.ret (finQ.retE ?_)
  simp -dsimp [onlyF, partF, hk, baseF]
  all_goals exact Leq.aggD _

set_option maxRecDepth 10000 in
set_option maxHeartbeats 4000000 in
theorem only_9 (f : Nat → Int) (hk : f 3 = 9) : Fn0 Tryz.prog 51 [fD f] (fD (onlyF f)) := by
  refine Fun.of_wp (pn := noPn) Tryz.tab Tryz.func51 rfl fun β0 => ?_
  simp only [Tryz.f51]
  unfold fD
  repeat (first | refine wS ?_ | refine wB ?_ | ((first | refine wR ?_ | refine wD ?_); simp -dsimp [zero47]) | refine aI ?_)
  rw [hk]
  refine WP.cond (b := false) (by simp) (fun h => by cases h) (fun _ => ?_)
  repeat (first | refine wS ?_ | refine wB ?_ | ((first | refine wR ?_ | refine wD ?_); simp -dsimp) | refine aI ?_)
  refine WP.cond (b := false) (by simp) (fun h => by cases h) (fun _ => ?_)
  repeat (first | refine wS ?_ | refine wB ?_ | ((first | refine wR ?_ | refine wD ?_); simp -dsimp) | refine aI ?_)
  refine WP.cond (b := false) (by simp) (fun h => by cases h) (fun _ => ?_)
  repeat (first | refine wS ?_ | refine wB ?_ | ((first | refine wR ?_ | refine wD ?_); simp -dsimp) | refine aI ?_)
  refine WP.cond (b := false) (by simp) (fun h => by cases h) (fun _ => ?_)
  repeat (first | refine wS ?_ | refine wB ?_ | ((first | refine wR ?_ | refine wD ?_); simp -dsimp) | refine aI ?_)
  refine WP.cond (b := false) (by simp) (fun h => by cases h) (fun _ => ?_)
  repeat (first | refine wS ?_ | refine wB ?_ | ((first | refine wR ?_ | refine wD ?_); simp -dsimp) | refine aI ?_)
  refine WP.cond (b := false) (by simp) (fun h => by cases h) (fun _ => ?_)
  repeat (first | refine wS ?_ | refine wB ?_ | ((first | refine wR ?_ | refine wD ?_); simp -dsimp) | refine aI ?_)
  refine WP.cond (b := false) (by simp) (fun h => by cases h) (fun _ => ?_)
  repeat (first | refine wS ?_ | refine wB ?_ | ((first | refine wR ?_ | refine wD ?_); simp -dsimp) | refine aI ?_)
  refine WP.cond (b := false) (by simp) (fun h => by cases h) (fun _ => ?_)
  repeat (first | refine wS ?_ | refine wB ?_ | ((first | refine wR ?_ | refine wD ?_); simp -dsimp) | refine aI ?_)
  refine WP.cond (b := true) (by simp) (fun _ => ?_) (fun h => by cases h)
  repeat (first | refine wS ?_ | refine wB ?_ | ((first | refine wR ?_ | refine wD ?_); simp -dsimp) | refine aI ?_)
  refine WP.ret (finQ.retE ?_)
  simp -dsimp [onlyF, partF, hk, baseF]
  all_goals exact Leq.aggD _

set_option maxRecDepth 10000 in
set_option maxHeartbeats 4000000 in
theorem only_10 (f : Nat → Int) (hk : f 3 = 10) : Fn0 Tryz.prog 51 [fD f] (fD (onlyF f)) := by
  refine Fun.of_wp (pn := noPn) Tryz.tab Tryz.func51 rfl fun β0 => ?_
  simp only [Tryz.f51]
  unfold fD
  repeat (first | refine wS ?_ | refine wB ?_ | ((first | refine wR ?_ | refine wD ?_); simp -dsimp [zero47]) | refine aI ?_)
  rw [hk]
  refine WP.cond (b := false) (by simp) (fun h => by cases h) (fun _ => ?_)
  repeat (first | refine wS ?_ | refine wB ?_ | ((first | refine wR ?_ | refine wD ?_); simp -dsimp) | refine aI ?_)
  refine WP.cond (b := false) (by simp) (fun h => by cases h) (fun _ => ?_)
  repeat (first | refine wS ?_ | refine wB ?_ | ((first | refine wR ?_ | refine wD ?_); simp -dsimp) | refine aI ?_)
  refine WP.cond (b := false) (by simp) (fun h => by cases h) (fun _ => ?_)
  repeat (first | refine wS ?_ | refine wB ?_ | ((first | refine wR ?_ | refine wD ?_); simp -dsimp) | refine aI ?_)
  refine WP.cond (b := false) (by simp) (fun h => by cases h) (fun _ => ?_)
  repeat (first | refine wS ?_ | refine wB ?_ | ((first | refine wR ?_ | refine wD ?_); simp -dsimp) | refine aI ?_)
  refine WP.cond (b := false) (by simp) (fun h => by cases h) (fun _ => ?_)
  repeat (first | refine wS ?_ | refine wB ?_ | ((first | refine wR ?_ | refine wD ?_); simp -dsimp) | refine aI ?_)
  refine WP.cond (b := false) (by simp) (fun h => by cases h) (fun _ => ?_)
  repeat (first | refine wS ?_ | refine wB ?_ | ((first | refine wR ?_ | refine wD ?_); simp -dsimp) | refine aI ?_)
  refine WP.cond (b := false) (by simp) (fun h => by cases h) (fun _ => ?_)
  repeat (first | refine wS ?_ | refine wB ?_ | ((first | refine wR ?_ | refine wD ?_); simp -dsimp) | refine aI ?_)
  refine WP.cond (b := false) (by simp) (fun h => by cases h) (fun _ => ?_)
  repeat (first | refine wS ?_ | refine wB ?_ | ((first | refine wR ?_ | refine wD ?_); simp -dsimp) | refine aI ?_)
  refine WP.cond (b := false) (by simp) (fun h => by cases h) (fun _ => ?_)
  repeat (first | refine wS ?_ | refine wB ?_ | ((first | refine wR ?_ | refine wD ?_); simp -dsimp) | refine aI ?_)
  refine WP.cond (b := true) (by simp) (fun _ => ?_) (fun h => by cases h)
  repeat (first | refine wS ?_ | refine wB ?_ | ((first | refine wR ?_ | refine wD ?_); simp -dsimp) | refine aI ?_)
  refine WP.ret (finQ.retE ?_)
  simp -dsimp [onlyF, partF, hk, baseF]
  all_goals exact Leq.aggD _

set_option maxRecDepth 10000 in
set_option maxHeartbeats 4000000 in
theorem only_11 (f : Nat → Int) (hk : f 3 = 11) : Fn0 Tryz.prog 51 [fD f] (fD (onlyF f)) := by
  refine Fun.of_wp (pn := noPn) Tryz.tab Tryz.func51 rfl fun β0 => ?_
  simp only [Tryz.f51]
  unfold fD
  repeat (first | refine wS ?_ | refine wB ?_ | ((first | refine wR ?_ | refine wD ?_); simp -dsimp [zero47]) | refine aI ?_)
  rw [hk]
  refine WP.cond (b := false) (by simp) (fun h => by cases h) (fun _ => ?_)
  repeat (first | refine wS ?_ | refine wB ?_ | ((first | refine wR ?_ | refine wD ?_); simp -dsimp) | refine aI ?_)
  refine WP.cond (b := false) (by simp) (fun h => by cases h) (fun _ => ?_)
  repeat (first | refine wS ?_ | refine wB ?_ | ((first | refine wR ?_ | refine wD ?_); simp -dsimp) | refine aI ?_)
  refine WP.cond (b := false) (by simp) (fun h => by cases h) (fun _ => ?_)
  repeat (first | refine wS ?_ | refine wB ?_ | ((first | refine wR ?_ | refine wD ?_); simp -dsimp) | refine aI ?_)
  refine WP.cond (b := false) (by simp) (fun h => by cases h) (fun _ => ?_)
  repeat (first | refine wS ?_ | refine wB ?_ | ((first | refine wR ?_ | refine wD ?_); simp -dsimp) | refine aI ?_)
  refine WP.cond (b := false) (by simp) (fun h => by cases h) (fun _ => ?_)
  repeat (first | refine wS ?_ | refine wB ?_ | ((first | refine wR ?_ | refine wD ?_); simp -dsimp) | refine aI ?_)
  refine WP.cond (b := false) (by simp) (fun h => by cases h) (fun _ => ?_)
  repeat (first | refine wS ?_ | refine wB ?_ | ((first | refine wR ?_ | refine wD ?_); simp -dsimp) | refine aI ?_)
  refine WP.cond (b := false) (by simp) (fun h => by cases h) (fun _ => ?_)
  repeat (first | refine wS ?_ | refine wB ?_ | ((first | refine wR ?_ | refine wD ?_); simp -dsimp) | refine aI ?_)
  refine WP.cond (b := false) (by simp) (fun h => by cases h) (fun _ => ?_)
  repeat (first | refine wS ?_ | refine wB ?_ | ((first | refine wR ?_ | refine wD ?_); simp -dsimp) | refine aI ?_)
  refine WP.cond (b := false) (by simp) (fun h => by cases h) (fun _ => ?_)
  repeat (first | refine wS ?_ | refine wB ?_ | ((first | refine wR ?_ | refine wD ?_); simp -dsimp) | refine aI ?_)
  refine WP.cond (b := false) (by simp) (fun h => by cases h) (fun _ => ?_)
  repeat (first | refine wS ?_ | refine wB ?_ | ((first | refine wR ?_ | refine wD ?_); simp -dsimp) | refine aI ?_)
  refine WP.cond (b := true) (by simp) (fun _ => ?_) (fun h => by cases h)
  repeat (first | refine wS ?_ | refine wB ?_ | ((first | refine wR ?_ | refine wD ?_); simp -dsimp) | refine aI ?_)
  refine WP.ret (finQ.retE ?_)
  simp -dsimp [onlyF, partF, hk, baseF]
  all_goals exact Leq.aggD _

set_option maxRecDepth 10000 in
set_option maxHeartbeats 4000000 in
theorem only_13 (f : Nat → Int) (hk : f 3 = 13) : Fn0 Tryz.prog 51 [fD f] (fD (onlyF f)) := by
  refine Fun.of_wp (pn := noPn) Tryz.tab Tryz.func51 rfl fun β0 => ?_
  simp only [Tryz.f51]
  unfold fD
  repeat (first | refine wS ?_ | refine wB ?_ | ((first | refine wR ?_ | refine wD ?_); simp -dsimp [zero47]) | refine aI ?_)
  rw [hk]
  refine WP.cond (b := false) (by simp) (fun h => by cases h) (fun _ => ?_)
  repeat (first | refine wS ?_ | refine wB ?_ | ((first | refine wR ?_ | refine wD ?_); simp -dsimp) | refine aI ?_)
  refine WP.cond (b := false) (by simp) (fun h => by cases h) (fun _ => ?_)
  repeat (first | refine wS ?_ | refine wB ?_ | ((first | refine wR ?_ | refine wD ?_); simp -dsimp) | refine aI ?_)
  refine WP.cond (b := false) (by simp) (fun h => by cases h) (fun _ => ?_)
  repeat (first | refine wS ?_ | refine wB ?_ | ((first | refine wR ?_ | refine wD ?_); simp -dsimp) | refine aI ?_)
  refine WP.cond (b := false) (by simp) (fun h => by cases h) (fun _ => ?_)
  repeat (first | refine wS ?_ | refine wB ?_ | ((first | refine wR ?_ | refine wD ?_); simp -dsimp) | refine aI ?_)
  refine WP.cond (b := false) (by simp) (fun h => by cases h) (fun _ => ?_)
  repeat (first | refine wS ?_ | refine wB ?_ | ((first | refine wR ?_ | refine wD ?_); simp -dsimp) | refine aI ?_)
  refine WP.cond (b := false) (by simp) (fun h => by cases h) (fun _ => ?_)
  repeat (first | refine wS ?_ | refine wB ?_ | ((first | refine wR ?_ | refine wD ?_); simp -dsimp) | refine aI ?_)
  refine WP.cond (b := false) (by simp) (fun h => by cases h) (fun _ => ?_)
  repeat (first | refine wS ?_ | refine wB ?_ | ((first | refine wR ?_ | refine wD ?_); simp -dsimp) | refine aI ?_)
  refine WP.cond (b := false) (by simp) (fun h => by cases h) (fun _ => ?_)
  repeat (first | refine wS ?_ | refine wB ?_ | ((first | refine wR ?_ | refine wD ?_); simp -dsimp) | refine aI ?_)
  refine WP.cond (b := false) (by simp) (fun h => by cases h) (fun _ => ?_)
  repeat (first | refine wS ?_ | refine wB ?_ | ((first | refine wR ?_ | refine wD ?_); simp -dsimp) | refine aI ?_)
  refine WP.cond (b := false) (by simp) (fun h => by cases h) (fun _ => ?_)
  repeat (first | refine wS ?_ | refine wB ?_ | ((first | refine wR ?_ | refine wD ?_); simp -dsimp) | refine aI ?_)
  refine WP.cond (b := false) (by simp) (fun h => by cases h) (fun _ => ?_)
  repeat (first | refine wS ?_ | refine wB ?_ | ((first | refine wR ?_ | refine wD ?_); simp -dsimp) | refine aI ?_)
  refine WP.cond (b := true) (by simp) (fun _ => ?_) (fun h => by cases h)
  repeat (first | refine wS ?_ | refine wB ?_ | ((first | refine wR ?_ | refine wD ?_); simp -dsimp) | refine aI ?_)
  refine WP.ret (finQ.retE ?_)
  simp -dsimp [onlyF, partF, hk, baseF]
  all_goals exact Leq.aggD _

set_option maxRecDepth 10000 in
set_option maxHeartbeats 4000000 in
theorem only_no (f : Nat → Int) (hk : f 3 < 1 ∨ 13 < f 3 ∨ f 3 = 12) : Fn0 Tryz.prog 51 [fD f] (fD (onlyF f)) := by
  have hp : partF (f 3) = (0, 0) := by
    unfold partF
    rw [if_neg (by omega)]
    rw [if_neg (by omega)]
    rw [if_neg (by omega)]
    rw [if_neg (by omega)]
    rw [if_neg (by omega)]
    rw [if_neg (by omega)]
    rw [if_neg (by omega)]
    rw [if_neg (by omega)]
    rw [if_neg (by omega)]
    rw [if_neg (by omega)]
    rw [if_neg (by omega)]
    rw [if_neg (by omega)]
  refine Fun.of_wp (pn := noPn) Tryz.tab Tryz.func51 rfl fun β0 => ?_
  simp only [Tryz.f51]
  unfold fD
  repeat (first | refine wS ?_ | refine wB ?_ | ((first | refine wR ?_ | refine wD ?_); simp -dsimp [zero47]) | refine aI ?_)
  refine WP.cond (b := false) (by simp; omega) (fun h => by cases h) (fun _ => ?_)
  repeat (first | refine wS ?_ | refine wB ?_ | ((first | refine wR ?_ | refine wD ?_); simp -dsimp) | refine aI ?_)
  refine WP.cond (b := false) (by simp; omega) (fun h => by cases h) (fun _ => ?_)
  repeat (first | refine wS ?_ | refine wB ?_ | ((first | refine wR ?_ | refine wD ?_); simp -dsimp) | refine aI ?_)
  refine WP.cond (b := false) (by simp; omega) (fun h => by cases h) (fun _ => ?_)
  repeat (first | refine wS ?_ | refine wB ?_ | ((first | refine wR ?_ | refine wD ?_); simp -dsimp) | refine aI ?_)
  refine WP.cond (b := false) (by simp; omega) (fun h => by cases h) (fun _ => ?_)
  repeat (first | refine wS ?_ | refine wB ?_ | ((first | refine wR ?_ | refine wD ?_); simp -dsimp) | refine aI ?_)
  refine WP.cond (b := false) (by simp; omega) (fun h => by cases h) (fun _ => ?_)
  repeat (first | refine wS ?_ | refine wB ?_ | ((first | refine wR ?_ | refine wD ?_); simp -dsimp) | refine aI ?_)
  refine WP.cond (b := false) (by simp; omega) (fun h => by cases h) (fun _ => ?_)
  repeat (first | refine wS ?_ | refine wB ?_ | ((first | refine wR ?_ | refine wD ?_); simp -dsimp) | refine aI ?_)
  refine WP.cond (b := false) (by simp; omega) (fun h => by cases h) (fun _ => ?_)
  repeat (first | refine wS ?_ | refine wB ?_ | ((first | refine wR ?_ | refine wD ?_); simp -dsimp) | refine aI ?_)
  refine WP.cond (b := false) (by simp; omega) (fun h => by cases h) (fun _ => ?_)
  repeat (first | refine wS ?_ | refine wB ?_ | ((first | refine wR ?_ | refine wD ?_); simp -dsimp) | refine aI ?_)
  refine WP.cond (b := false) (by simp; omega) (fun h => by cases h) (fun _ => ?_)
  repeat (first | refine wS ?_ | refine wB ?_ | ((first | refine wR ?_ | refine wD ?_); simp -dsimp) | refine aI ?_)
  refine WP.cond (b := false) (by simp; omega) (fun h => by cases h) (fun _ => ?_)
  repeat (first | refine wS ?_ | refine wB ?_ | ((first | refine wR ?_ | refine wD ?_); simp -dsimp) | refine aI ?_)
  refine WP.cond (b := false) (by simp; omega) (fun h => by cases h) (fun _ => ?_)
  repeat (first | refine wS ?_ | refine wB ?_ | ((first | refine wR ?_ | refine wD ?_); simp -dsimp) | refine aI ?_)
  refine WP.cond (b := false) (by simp; omega) (fun h => by cases h) (fun _ => ?_)
  refine WP.skip ?_
  simp -dsimp
  repeat (first | refine wS ?_ | refine wB ?_ | ((first | refine wR ?_ | refine wD ?_); simp -dsimp) | refine aI ?_)
  refine WP.ret (finQ.retE ?_)
  simp -dsimp [onlyF, hp, baseF]
  all_goals exact Leq.aggD _

theorem only_ok (f : Nat → Int) : Fn0 Tryz.prog 51 [fD f] (fD (onlyF f)) := by
  have h : (f 3 < 1 ∨ 13 < f 3 ∨ f 3 = 12) ∨ f 3 = 1 ∨ f 3 = 2 ∨ f 3 = 3 ∨ f 3 = 4 ∨ f 3 = 5 ∨ f 3 = 6 ∨ f 3 = 7 ∨ f 3 = 8 ∨ f 3 = 9 ∨ f 3 = 10 ∨ f 3 = 11 ∨ f 3 = 13 := by omega
  rcases h with h | h | h | h | h | h | h | h | h | h | h | h | h
  · exact only_no f h
  · exact only_1 f h
  · exact only_2 f h
  · exact only_3 f h
  · exact only_4 f h
  · exact only_5 f h
  · exact only_6 f h
  · exact only_7 f h
  · exact only_8 f h
  · exact only_9 f h
  · exact only_10 f h
  · exact only_11 f h
  · exact only_13 f h

/-- What the reference's Check asks. -/
def chkF (f : Nat → Int) : Bool := inB (f 0) 0 31 && inB (f 1) 1 1048576 && inB (f 2) 0 1099511627776 && conF f && eqF f (onlyF f)
set_option maxRecDepth 10000 in
set_option maxHeartbeats 4000000 in
theorem refCheck_ok (f : Nat → Int) (hf : fOk f) : Fn0 Tryz.prog 33 [fD f] (.v (.int .i64 (if chkF f = true then 0 else 120))) := by
  have h28 := content_ok f
  have h29 := only_ok f
  have ho := onlyF_ok hf
  refine Fun.of_wp (pn := noPn) Tryz.tab Tryz.func33 rfl fun β0 => ?_
  simp only [Tryz.f33]
  rw [fD]
  repeat (first | refine wS ?_ | refine wB ?_ | ((first | refine wR ?_ | refine wD ?_); simp -dsimp) | refine aI ?_)
  refine vcStop.call0 Tryz.body47 (crew_ok (f 0)) rfl rfl (by simp) ?_
  simp -dsimp
  repeat refine aI ?_
  refine vcStopG.call0 Tryz.body48 (fun _ => number_ok (f 1)) rfl (fun _ => rfl) (fun _ => by simp) ?_
  simp -dsimp
  repeat refine aI ?_
  refine vcStopG.call0 Tryz.body49 (fun _ => in_ok (f 2) 0 1099511627776) rfl (fun _ => rfl) (fun _ => by simp) ?_
  simp -dsimp
  repeat refine aI ?_
  refine vcStopG.call0 Tryz.body50 (fun _ => h28) rfl (fun _ => rfl) (fun _ => by simp [fD]) ?_
  simp -dsimp
  repeat refine aI ?_
  refine vcStopG.call0 Tryz.body51 (fun _ => h29) rfl (fun _ => rfl) (fun _ => by simp [fD]) ?_
  simp -dsimp [fD]
  repeat refine aI ?_
  refine vcStopG.eqS Tryz.tab gokF noarrF rfl (.inr rfl) (m := 5) (by omega) Tryz.key47 (by decide) Tryz.gd47 st47 (cs := fcs f 0 57) (es := fcs (onlyF f) 0 57) (fun _ => by simp) (fun _ => by simp) (okF hf.1) (okF ho.1) (lits_iff hf ho) ?_
  simp -dsimp [eqRes]
  repeat (first | refine wS ?_ | refine wB ?_ | ((first | refine wR ?_ | refine wD ?_); simp -dsimp) | refine aI ?_)
  refine WP.cond (b := !chkF f) (by simp [chkF]) (fun hb => ?_) (fun hb => ?_)
  · have hb : chkF f = false := by simpa using hb
    repeat (first | refine wS ?_ | refine wB ?_ | ((first | refine wR ?_ | refine wD ?_); simp -dsimp) | refine aI ?_)
    refine WP.ret (finQ.retE ?_)
    simp -dsimp [hb]
  · have hb : chkF f = true := by simpa using hb
    refine WP.skip ?_
    simp -dsimp
    repeat (first | refine wS ?_ | refine wB ?_ | ((first | refine wR ?_ | refine wD ?_); simp -dsimp) | refine aI ?_)
    refine WP.ret (finQ.retE ?_)
    simp -dsimp [hb]
end Go.Proofs.YtjjaabidbeoomaaGreatDoor
