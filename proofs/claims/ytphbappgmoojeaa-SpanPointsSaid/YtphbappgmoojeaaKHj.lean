/-
  Spans: Drift.
-/
import Derived.Test.YtphbappgmoojeaaK4
import Derived.Test.YtphbappgmoojeaaKTab
set_option linter.unusedSectionVars false
set_option linter.unusedSimpArgs false
set_option linter.unusedVariables false
namespace Go.Proofs.Ytphbappgmoojeaa
open Go.Xe Go.RowKit

def driftR (t p : Int) : Int × Int := if t < -2199023255552 ∨ 2199023255552 < t ∨ p < 0 ∨ 100000 < p then (0, 1) else ((max t (-t) * p + 999999) / 1000000, 0)
@[simp] def drD (r : Int × Int) : D := .tup [.v (.int .i64 r.1), .v (.int .i64 r.2)]

theorem drift_rng {t p : Int} (hb : ¬ (t < -2199023255552 ∨ 2199023255552 < t ∨ p < 0 ∨ 100000 < p)) : 0 ≤ max t (-t) * p ∧ max t (-t) * p ≤ 219902325555200000 := by
  have h1 : 0 ≤ max t (-t) := by omega
  have h2 : max t (-t) ≤ 2199023255552 := by omega
  have h3 : 0 ≤ p := by omega
  have h4 : p ≤ 100000 := by omega
  refine ⟨Int.mul_nonneg h1 h3, ?_⟩
  have := Int.mul_le_mul h2 h4 h3 (by omega : (0 : Int) ≤ 2199023255552)
  omega
theorem drift_ok (t p : Int) : Fn0 Try.prog 18 [.v (.int .i64 t), .v (.int .i64 p)] (drD (driftR t p)) := by
  refine Fun.of_wp (pn := noPn) Try.tab Try.func18 rfl fun β0 => ?_
  simp only [Try.f18]
  repeat (first | refine WP.seq ?_ | refine WP.block ?_ | (refine WP.region Try.tab ?_; simp -dsimp) | (refine WP.draw Try.tab Try.mixed ?_; simp -dsimp) | refine And.intro (by first | rfl | omega | decide | (simp; done) | (simp; omega) | (intro _ h; exact fcs_side h; done) | (intros; simp_all; done)) ?_)
  refine WP.cond (b := decide (t < -2199023255552 ∨ 2199023255552 < t ∨ p < 0 ∨ 100000 < p)) (by simp [Bool.or_assoc]) (fun hb => ?_) (fun hb => ?_)
  · have hb := of_decide_eq_true hb
    repeat (first | refine WP.seq ?_ | refine WP.block ?_ | (refine WP.region Try.tab ?_; simp -dsimp) | (refine WP.draw Try.tab Try.mixed ?_; simp -dsimp) | refine And.intro (by first | rfl | omega | decide | (simp; done) | (simp; omega) | (intro _ h; exact fcs_side h; done) | (intros; simp_all; done)) ?_)
    refine WP.ret (finQ.retE ?_)
    simp -dsimp [driftR, hb]
  · have hb := of_decide_eq_false hb
    obtain ⟨h1, h2⟩ := drift_rng hb
    have e0 : IntKind.i64.wrap (-t) = -t := IntWalk.i64_in _ (by omega)
    have e1 : IntKind.i64.wrap (max t (-t) * p) = max t (-t) * p := IntWalk.i64_in _ (by omega)
    have e2 : IntKind.i64.wrap (max t (-t) * p + 1000000) = max t (-t) * p + 1000000 := IntWalk.i64_in _ (by omega)
    have e3 : IntKind.i64.wrap (max t (-t) * p + 1000000 - 1) = max t (-t) * p + 999999 := by rw [IntWalk.i64_in _ (by omega)]; omega
    have e4 : IntKind.i64.wrap ((max t (-t) * p + 999999).tdiv 1000000) = (max t (-t) * p + 999999) / 1000000 := by
      rw [Int.tdiv_eq_ediv_of_nonneg (by omega)]
      exact IntWalk.i64_in _ (by omega)
    refine WP.skip ?_
    simp -dsimp
    repeat (first | refine WP.seq ?_ | refine WP.block ?_ | (refine WP.region Try.tab ?_; simp -dsimp) | (refine WP.draw Try.tab Try.mixed ?_; simp -dsimp) | refine And.intro (by first | rfl | omega | decide | (simp; done) | (simp; omega) | (intro _ h; exact fcs_side h; done) | (intros; simp_all; done)) ?_)
    refine WP.ret (finQ.retE ?_)
    simp -dsimp [driftR, hb, e0, e1, e2, e3, e4]
theorem refDrift_ok (t p : Int) : Fn0 Try.prog 19 [.v (.int .i64 t), .v (.int .i64 p)] (drD (driftR t p)) := by
  refine Fun.of_wp (pn := noPn) Try.tab Try.func19 rfl fun β0 => ?_
  simp only [Try.f19]
  repeat (first | refine WP.seq ?_ | refine WP.block ?_ | (refine WP.region Try.tab ?_; simp -dsimp) | (refine WP.draw Try.tab Try.mixed ?_; simp -dsimp) | refine And.intro (by first | rfl | omega | decide | (simp; done) | (simp; omega) | (intro _ h; exact fcs_side h; done) | (intros; simp_all; done)) ?_)
  refine WP.cond (b := decide (t < -2199023255552 ∨ 2199023255552 < t ∨ p < 0 ∨ 100000 < p)) (by simp [Bool.or_assoc]) (fun hb => ?_) (fun hb => ?_)
  · have hb := of_decide_eq_true hb
    repeat (first | refine WP.seq ?_ | refine WP.block ?_ | (refine WP.region Try.tab ?_; simp -dsimp) | (refine WP.draw Try.tab Try.mixed ?_; simp -dsimp) | refine And.intro (by first | rfl | omega | decide | (simp; done) | (simp; omega) | (intro _ h; exact fcs_side h; done) | (intros; simp_all; done)) ?_)
    refine WP.ret (finQ.retE ?_)
    simp -dsimp [driftR, hb]
  have hb := of_decide_eq_false hb
  obtain ⟨h1, h2⟩ := drift_rng hb
  have key : ∀ m : Int, 0 ≤ m * p → m * p ≤ 219902325555200000 → IntKind.i64.wrap (m * p) = m * p ∧ IntKind.i64.wrap ((m * p).tdiv 1000000) = m * p / 1000000 ∧ IntKind.i64.wrap (m * p / 1000000 * 1000000) = m * p / 1000000 * 1000000 ∧ IntKind.i64.wrap (m * p / 1000000 + 1) = m * p / 1000000 + 1 := fun m h1 h2 =>
    ⟨IntWalk.i64_in _ (by omega), by rw [Int.tdiv_eq_ediv_of_nonneg h1]; exact IntWalk.i64_in _ (by omega), IntWalk.i64_in _ (by omega), IntWalk.i64_in _ (by omega)⟩
  refine WP.skip ?_
  simp -dsimp
  repeat (first | refine WP.seq ?_ | refine WP.block ?_ | (refine WP.region Try.tab ?_; simp -dsimp) | (refine WP.draw Try.tab Try.mixed ?_; simp -dsimp) | refine And.intro (by first | rfl | omega | decide | (simp; done) | (simp; omega) | (intro _ h; exact fcs_side h; done) | (intros; simp_all; done)) ?_)
  refine WP.cond (b := decide (t < 0)) (by simp) (fun h0 => ?_) (fun h0 => ?_)
  · have h0 := of_decide_eq_true h0
    have e0 : IntKind.i64.wrap (-t) = -t := IntWalk.i64_in _ (by omega)
    have em : max t (-t) = -t := by omega
    rw [em] at h1 h2
    obtain ⟨e1, e2, e3, e4⟩ := key (-t) h1 h2
    repeat (first | refine WP.seq ?_ | refine WP.block ?_ | (refine WP.region Try.tab ?_; simp -dsimp [e0, e1, e2]) | (refine WP.draw Try.tab Try.mixed ?_; simp -dsimp [e0, e1, e2]) | refine And.intro (by first | rfl | omega | decide | (simp; done) | (simp; omega) | (intro _ h; exact fcs_side h; done) | (intros; simp_all; done)) ?_)
    refine WP.cond (b := decide (-t * p / 1000000 * 1000000 < -t * p)) (by simp [e0, e1, e2, e3]) (fun h3 => ?_) (fun h3 => ?_)
    · have h3 := of_decide_eq_true h3
      have e5 : (-t * p + 999999) / 1000000 = -t * p / 1000000 + 1 := by omega
      repeat (first | refine WP.seq ?_ | refine WP.block ?_ | (refine WP.region Try.tab ?_; simp -dsimp [e0, e1, e2, e4]) | (refine WP.draw Try.tab Try.mixed ?_; simp -dsimp [e0, e1, e2, e4]) | refine And.intro (by first | rfl | omega | decide | (simp; done) | (simp; omega) | (intro _ h; exact fcs_side h; done) | (intros; simp_all; done)) ?_)
      refine WP.ret (finQ.retE ?_)
      simp -dsimp [driftR, hb, em, e0, e1, e2, e4, e5]
    · have h3 := of_decide_eq_false h3
      have e5 : (-t * p + 999999) / 1000000 = -t * p / 1000000 := by omega
      refine WP.skip ?_
      simp -dsimp
      repeat (first | refine WP.seq ?_ | refine WP.block ?_ | (refine WP.region Try.tab ?_; simp -dsimp [e0, e1, e2, e4]) | (refine WP.draw Try.tab Try.mixed ?_; simp -dsimp [e0, e1, e2, e4]) | refine And.intro (by first | rfl | omega | decide | (simp; done) | (simp; omega) | (intro _ h; exact fcs_side h; done) | (intros; simp_all; done)) ?_)
      refine WP.ret (finQ.retE ?_)
      simp -dsimp [driftR, hb, em, e0, e1, e2, e4, e5]
  · have h0 := of_decide_eq_false h0
    have em : max t (-t) = t := by omega
    rw [em] at h1 h2
    obtain ⟨e1, e2, e3, e4⟩ := key t h1 h2
    refine WP.skip ?_
    simp -dsimp
    repeat (first | refine WP.seq ?_ | refine WP.block ?_ | (refine WP.region Try.tab ?_; simp -dsimp [e1, e2]) | (refine WP.draw Try.tab Try.mixed ?_; simp -dsimp [e1, e2]) | refine And.intro (by first | rfl | omega | decide | (simp; done) | (simp; omega) | (intro _ h; exact fcs_side h; done) | (intros; simp_all; done)) ?_)
    refine WP.cond (b := decide (t * p / 1000000 * 1000000 < t * p)) (by simp [e1, e2, e3]) (fun h3 => ?_) (fun h3 => ?_)
    · have h3 := of_decide_eq_true h3
      have e5 : (t * p + 999999) / 1000000 = t * p / 1000000 + 1 := by omega
      repeat (first | refine WP.seq ?_ | refine WP.block ?_ | (refine WP.region Try.tab ?_; simp -dsimp [e1, e2, e4]) | (refine WP.draw Try.tab Try.mixed ?_; simp -dsimp [e1, e2, e4]) | refine And.intro (by first | rfl | omega | decide | (simp; done) | (simp; omega) | (intro _ h; exact fcs_side h; done) | (intros; simp_all; done)) ?_)
      refine WP.ret (finQ.retE ?_)
      simp -dsimp [driftR, hb, em, e1, e2, e4, e5]
    · have h3 := of_decide_eq_false h3
      have e5 : (t * p + 999999) / 1000000 = t * p / 1000000 := by omega
      refine WP.skip ?_
      simp -dsimp
      repeat (first | refine WP.seq ?_ | refine WP.block ?_ | (refine WP.region Try.tab ?_; simp -dsimp [e1, e2, e4]) | (refine WP.draw Try.tab Try.mixed ?_; simp -dsimp [e1, e2, e4]) | refine And.intro (by first | rfl | omega | decide | (simp; done) | (simp; omega) | (intro _ h; exact fcs_side h; done) | (intros; simp_all; done)) ?_)
      refine WP.ret (finQ.retE ?_)
      simp -dsimp [driftR, hb, em, e1, e2, e4, e5]
end Go.Proofs.Ytphbappgmoojeaa
