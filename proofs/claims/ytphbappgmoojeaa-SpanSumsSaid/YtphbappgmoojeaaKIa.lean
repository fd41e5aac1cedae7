/-
  The chapter's examples; the laws on Add and Shift, on Drift.
-/
import Derived.Test.YtphbappgmoojeaaKSc
import Derived.Test.YtphbappgmoojeaaKHj
import Derived.Test.YtphbappgmoojeaaK8
set_option linter.unusedSectionVars false
set_option linter.unusedSimpArgs false
set_option linter.unusedVariables false
namespace Go.Proofs.Ytphbappgmoojeaa
open Go.Xe Go.RowKit

theorem of_row (l : List Int) (hl : l.length ≤ 1000) {r : List Sp} (hr : prs l = r) : Fun Try.prog 22 [.row 1000] [(1000, .row 3 1 l.length ((iD l).map .d))] (.d (slS r)) [] fun _ => False := by
  subst hr
  exact Fun.ofRow 1000 (T := 3) (cs := iD l) (of_ok l hl) rfl rfl trivial
theorem isS_all {l : List Sp} (h : ∀ s ∈ l, okS s = true) : ∀ s ∈ l, isS s := fun s hs => (okS_isS (h s hs)).1
theorem sameB (a b : List Sp) (ha : ∀ s ∈ a, okS s = true) (hb : ∀ s ∈ b, okS s = true) : Fn0 Try.prog 17 [slS a, slS b] (.v (.bool (decide (a = b)))) := same_ok a b (isS_all ha) (isS_all hb)
theorem sameT {a b : List Sp} (h : a = b) (ha : ∀ s ∈ a, okS s = true) : Fn0 Try.prog 17 [slS a, slS b] (.v (.bool true)) := by
  subst h
  have := sameB a a ha ha
  rwa [decide_eq_true rfl] at this
theorem all_ok {l : List Sp} (h : l.all okS = true) : ∀ s ∈ l, okS s = true := fun s hs => List.all_eq_true.1 h s hs
set_option maxRecDepth 10000 in
set_option maxHeartbeats 4000000 in
/-- The chapter's examples hold. -/
theorem sane_ok : Fn0 Try.prog 11 [] (.v (.bool true)) := by
  have s1 := set_ok [(5, 6), (1, 2), (3, 3)]
  rw [show setR [(5, 6), (1, 2), (3, 3)] = ([(1, 3), (5, 6)], 0) by decide] at s1
  have s2 := add_ok [(0, 1), (10, 11)] [(0, 0), (5, 5)]
  rw [show addR [(0, 1), (10, 11)] [(0, 0), (5, 5)] = ([(0, 1), (5, 6), (10, 11), (15, 16)], 0) by decide] at s2
  have s3 := meet_ok [(1, 5)] [(4, 9)]
  rw [show meetR [(1, 5)] [(4, 9)] = ([(4, 5)], 0) by decide] at s3
  have s4 := shift_ok [(0, 1)] 70368744177664
  rw [show shiftR [(0, 1)] 70368744177664 = ([], 10) by decide] at s4
  have s5 := drift_ok 50000 20
  rw [show driftR 50000 20 = (1, 0) by decide] at s5
  have s6 := drift_ok (-50001) 20
  rw [show driftR (-50001) 20 = (2, 0) by decide] at s6
  have q1 := sameT (a := [(1, 3), (5, 6)]) rfl (all_ok rfl)
  have q2 := sameT (a := [(0, 1), (5, 6), (10, 11), (15, 16)]) rfl (all_ok rfl)
  have q3 := sameT (a := [(4, 5)]) rfl (all_ok rfl)
  have c1 := check_ok (3, 2)
  rw [show chkS (3, 2) = 10 by decide] at c1
  have i1 := in_ok [(3, 2)] 3
  rw [show ([(3, 2)] : List Sp).any (inS 3) = false by decide] at i1
  have i2 := in_ok [(1, 3), (5, 6)] 2
  rw [show ([(1, 3), (5, 6)] : List Sp).any (inS 2) = true by decide] at i2
  refine Fun.of_wp (pn := noPn) Try.tab Try.func11 rfl fun β0 => ?_
  simp only [Try.f11]
  repeat (first | refine WP.seq ?_ | refine WP.block ?_ | (refine WP.region Try.tab ?_; simp -dsimp) | (refine WP.draw Try.tab Try.mixed ?_; simp -dsimp) | refine And.intro (by first | rfl | omega | decide | (simp; done) | (simp; omega) | (intro _ h; exact fcs_side h; done) | (intros; simp_all; done)) ?_)
  refine vcStop.call Try.body22 (of_row [5, 6, 1, 2, 3, 3] (by simp) (r := [(5, 6), (1, 2), (3, 3)]) rfl) (rl [(1000, 14)]) rfl rfl (by simp [BoxLeq]) (CallOk.of (by simp [BoxLeq]) rfl (by first | rfl | (simp [BoxLeq]; done)) (by simp [BoxLeq]) (by simp [BoxLeq])) (fun _ h => h.elim) (fun ⟨_, h⟩ => h.elim) (fun ⟨_, h⟩ => h.elim) (by simp [BoxLeq]) ?_
  simp -dsimp
  repeat refine And.intro (by first | rfl | omega | decide | (simp; done) | (simp; omega) | (intro _ h; exact fcs_side h; done) | (intros; simp_all; done)) ?_
  refine vcStop.call0 Try.body23 s1 rfl rfl (by simp) ?_
  simp -dsimp
  repeat (first | refine WP.seq ?_ | refine WP.block ?_ | (refine WP.region Try.tab ?_; simp -dsimp) | (refine WP.draw Try.tab Try.mixed ?_; simp -dsimp) | refine And.intro (by first | rfl | omega | decide | (simp; done) | (simp; omega) | (intro _ h; exact fcs_side h; done) | (intros; simp_all; done)) ?_)
  refine vcStop.call Try.body22 (of_row [0, 1, 10, 11] (by simp) (r := [(0, 1), (10, 11)]) rfl) (rl [(1000, 20)]) rfl rfl (by simp [BoxLeq]) (CallOk.of (by simp [BoxLeq]) rfl (by first | rfl | (simp [BoxLeq]; done)) (by simp [BoxLeq]) (by simp [BoxLeq])) (fun _ h => h.elim) (fun ⟨_, h⟩ => h.elim) (fun ⟨_, h⟩ => h.elim) (by simp [BoxLeq]) ?_
  simp -dsimp
  repeat refine And.intro (by first | rfl | omega | decide | (simp; done) | (simp; omega) | (intro _ h; exact fcs_side h; done) | (intros; simp_all; done)) ?_
  refine vcStop.call Try.body22 (of_row [0, 0, 5, 5] (by simp) (r := [(0, 0), (5, 5)]) rfl) (rl [(1000, 22)]) rfl rfl (by simp [BoxLeq]) (CallOk.of (by simp [BoxLeq]) rfl (by first | rfl | (simp [BoxLeq]; done)) (by simp [BoxLeq]) (by simp [BoxLeq])) (fun _ h => h.elim) (fun ⟨_, h⟩ => h.elim) (fun ⟨_, h⟩ => h.elim) (by simp [BoxLeq]) ?_
  simp -dsimp
  repeat refine And.intro (by first | rfl | omega | decide | (simp; done) | (simp; omega) | (intro _ h; exact fcs_side h; done) | (intros; simp_all; done)) ?_
  refine vcStop.call0 Try.body13 s2 rfl rfl (by simp) ?_
  simp -dsimp
  repeat (first | refine WP.seq ?_ | refine WP.block ?_ | (refine WP.region Try.tab ?_; simp -dsimp) | (refine WP.draw Try.tab Try.mixed ?_; simp -dsimp) | refine And.intro (by first | rfl | omega | decide | (simp; done) | (simp; omega) | (intro _ h; exact fcs_side h; done) | (intros; simp_all; done)) ?_)
  refine vcStop.call Try.body22 (of_row [1, 5] (by simp) (r := [(1, 5)]) rfl) (rl [(1000, 28)]) rfl rfl (by simp [BoxLeq]) (CallOk.of (by simp [BoxLeq]) rfl (by first | rfl | (simp [BoxLeq]; done)) (by simp [BoxLeq]) (by simp [BoxLeq])) (fun _ h => h.elim) (fun ⟨_, h⟩ => h.elim) (fun ⟨_, h⟩ => h.elim) (by simp [BoxLeq]) ?_
  simp -dsimp
  repeat refine And.intro (by first | rfl | omega | decide | (simp; done) | (simp; omega) | (intro _ h; exact fcs_side h; done) | (intros; simp_all; done)) ?_
  refine vcStop.call Try.body22 (of_row [4, 9] (by simp) (r := [(4, 9)]) rfl) (rl [(1000, 30)]) rfl rfl (by simp [BoxLeq]) (CallOk.of (by simp [BoxLeq]) rfl (by first | rfl | (simp [BoxLeq]; done)) (by simp [BoxLeq]) (by simp [BoxLeq])) (fun _ h => h.elim) (fun ⟨_, h⟩ => h.elim) (fun ⟨_, h⟩ => h.elim) (by simp [BoxLeq]) ?_
  simp -dsimp
  repeat refine And.intro (by first | rfl | omega | decide | (simp; done) | (simp; omega) | (intro _ h; exact fcs_side h; done) | (intros; simp_all; done)) ?_
  refine vcStop.call0 Try.body27 s3 rfl rfl (by simp) ?_
  simp -dsimp
  repeat (first | refine WP.seq ?_ | refine WP.block ?_ | (refine WP.region Try.tab ?_; simp -dsimp) | (refine WP.draw Try.tab Try.mixed ?_; simp -dsimp) | refine And.intro (by first | rfl | omega | decide | (simp; done) | (simp; omega) | (intro _ h; exact fcs_side h; done) | (intros; simp_all; done)) ?_)
  refine vcStop.call Try.body22 (of_row [0, 1] (by simp) (r := [(0, 1)]) rfl) (rl [(1000, 36)]) rfl rfl (by simp [BoxLeq]) (CallOk.of (by simp [BoxLeq]) rfl (by first | rfl | (simp [BoxLeq]; done)) (by simp [BoxLeq]) (by simp [BoxLeq])) (fun _ h => h.elim) (fun ⟨_, h⟩ => h.elim) (fun ⟨_, h⟩ => h.elim) (by simp [BoxLeq]) ?_
  simp -dsimp
  repeat refine And.intro (by first | rfl | omega | decide | (simp; done) | (simp; omega) | (intro _ h; exact fcs_side h; done) | (intros; simp_all; done)) ?_
  refine vcStop.call0 Try.body15 s4 rfl rfl (by simp) ?_
  simp -dsimp
  repeat (first | refine WP.seq ?_ | refine WP.block ?_ | (refine WP.region Try.tab ?_; simp -dsimp) | (refine WP.draw Try.tab Try.mixed ?_; simp -dsimp) | refine And.intro (by first | rfl | omega | decide | (simp; done) | (simp; omega) | (intro _ h; exact fcs_side h; done) | (intros; simp_all; done)) ?_)
  refine vcStop.call0 Try.body18 s5 rfl rfl (by simp) ?_
  simp -dsimp
  repeat (first | refine WP.seq ?_ | refine WP.block ?_ | (refine WP.region Try.tab ?_; simp -dsimp) | (refine WP.draw Try.tab Try.mixed ?_; simp -dsimp) | refine And.intro (by first | rfl | omega | decide | (simp; done) | (simp; omega) | (intro _ h; exact fcs_side h; done) | (intros; simp_all; done)) ?_)
  refine vcStop.call0 Try.body18 s6 rfl rfl (by simp) ?_
  simp -dsimp
  repeat (first | refine WP.seq ?_ | refine WP.block ?_ | (refine WP.region Try.tab ?_; simp -dsimp) | (refine WP.draw Try.tab Try.mixed ?_; simp -dsimp) | refine And.intro (by first | rfl | omega | decide | (simp; done) | (simp; omega) | (intro _ h; exact fcs_side h; done) | (intros; simp_all; done)) ?_)
  refine WP.cond (b := false) (by simp) (fun h => by cases h) (fun _ => ?_)
  refine WP.skip ?_
  simp -dsimp
  repeat (first | refine WP.seq ?_ | refine WP.block ?_ | (refine WP.region Try.tab ?_; simp -dsimp) | (refine WP.draw Try.tab Try.mixed ?_; simp -dsimp) | refine And.intro (by first | rfl | omega | decide | (simp; done) | (simp; omega) | (intro _ h; exact fcs_side h; done) | (intros; simp_all; done)) ?_)
  refine vcStop.call Try.body22 (of_row [1, 3, 5, 6] (by simp) (r := [(1, 3), (5, 6)]) rfl) (rl [(1000, 80)]) rfl rfl (by simp [BoxLeq]) (CallOk.of (by simp [BoxLeq]) rfl (by first | rfl | (simp [BoxLeq]; done)) (by simp [BoxLeq]) (by simp [BoxLeq])) (fun _ h => h.elim) (fun ⟨_, h⟩ => h.elim) (fun ⟨_, h⟩ => h.elim) (by simp [BoxLeq]) ?_
  simp -dsimp
  repeat refine And.intro (by first | rfl | omega | decide | (simp; done) | (simp; omega) | (intro _ h; exact fcs_side h; done) | (intros; simp_all; done)) ?_
  refine vcStop.call0 Try.body17 q1 rfl rfl (by simp) ?_
  simp -dsimp
  repeat refine And.intro (by first | rfl | omega | decide | (simp; done) | (simp; omega) | (intro _ h; exact fcs_side h; done) | (intros; simp_all; done)) ?_
  refine vcStopG.buildData Try.tab (ds := iD [0, 1, 5, 6, 10, 11, 15, 16]) rfl rfl rfl rfl (by simp) (by decide) (by decide) (by simp) ?_
  simp -dsimp
  repeat refine And.intro (by first | rfl | omega | decide | (simp; done) | (simp; omega) | (intro _ h; exact fcs_side h; done) | (intros; simp_all; done)) ?_
  refine vcStopG.call0 Try.body22 (fun _ => of_ok [0, 1, 5, 6, 10, 11, 15, 16] (by simp)) rfl (fun _ => rfl) (fun _ => by simp) ?_
  simp -dsimp
  repeat refine And.intro (by first | rfl | omega | decide | (simp; done) | (simp; omega) | (intro _ h; exact fcs_side h; done) | (intros; simp_all; done)) ?_
  simp only [prs]
  refine vcStopG.call0 Try.body17 (fun _ => q2) rfl (fun _ => rfl) (fun _ => by simp) ?_
  simp -dsimp
  repeat refine And.intro (by first | rfl | omega | decide | (simp; done) | (simp; omega) | (intro _ h; exact fcs_side h; done) | (intros; simp_all; done)) ?_
  refine vcStopG.buildData Try.tab (ds := iD [4, 5]) rfl rfl rfl rfl (by simp) (by decide) (by decide) (by simp) ?_
  simp -dsimp
  repeat refine And.intro (by first | rfl | omega | decide | (simp; done) | (simp; omega) | (intro _ h; exact fcs_side h; done) | (intros; simp_all; done)) ?_
  refine vcStopG.call0 Try.body22 (fun _ => of_ok [4, 5] (by simp)) rfl (fun _ => rfl) (fun _ => by simp) ?_
  simp -dsimp
  repeat refine And.intro (by first | rfl | omega | decide | (simp; done) | (simp; omega) | (intro _ h; exact fcs_side h; done) | (intros; simp_all; done)) ?_
  simp only [prs]
  refine vcStopG.call0 Try.body17 (fun _ => q3) rfl (fun _ => rfl) (fun _ => by simp) ?_
  simp -dsimp
  repeat refine And.intro (by first | rfl | omega | decide | (simp; done) | (simp; omega) | (intro _ h; exact fcs_side h; done) | (intros; simp_all; done)) ?_
  refine vcStopG.call0 Try.body29 (fun _ => c1) rfl (fun _ => rfl) (fun _ => by simp) ?_
  simp -dsimp
  repeat refine And.intro (by first | rfl | omega | decide | (simp; done) | (simp; omega) | (intro _ h; exact fcs_side h; done) | (intros; simp_all; done)) ?_
  refine vcStopG.buildData Try.tab (ds := iD [3, 2]) rfl rfl rfl rfl (by simp) (by decide) (by decide) (by simp) ?_
  simp -dsimp
  repeat refine And.intro (by first | rfl | omega | decide | (simp; done) | (simp; omega) | (intro _ h; exact fcs_side h; done) | (intros; simp_all; done)) ?_
  refine vcStopG.call0 Try.body22 (fun _ => of_ok [3, 2] (by simp)) rfl (fun _ => rfl) (fun _ => by simp) ?_
  simp -dsimp
  repeat refine And.intro (by first | rfl | omega | decide | (simp; done) | (simp; omega) | (intro _ h; exact fcs_side h; done) | (intros; simp_all; done)) ?_
  simp only [prs]
  refine vcStopG.call0 Try.body20 (fun _ => i1) rfl (fun _ => rfl) (fun _ => by simp) ?_
  simp -dsimp
  repeat refine And.intro (by first | rfl | omega | decide | (simp; done) | (simp; omega) | (intro _ h; exact fcs_side h; done) | (intros; simp_all; done)) ?_
  refine vcStopG.call0 Try.body20 (fun _ => i2) rfl (fun _ => rfl) (fun _ => by simp) ?_
  simp -dsimp
  repeat refine And.intro (by first | rfl | omega | decide | (simp; done) | (simp; omega) | (intro _ h; exact fcs_side h; done) | (intros; simp_all; done)) ?_
  repeat (first | refine WP.seq ?_ | refine WP.block ?_ | (refine WP.region Try.tab ?_; simp -dsimp) | (refine WP.draw Try.tab Try.mixed ?_; simp -dsimp) | refine And.intro (by first | rfl | omega | decide | (simp; done) | (simp; omega) | (intro _ h; exact fcs_side h; done) | (intros; simp_all; done)) ?_)
  refine WP.ret (finQ.retE ?_)
  simp -dsimp
end Go.Proofs.Ytphbappgmoojeaa
