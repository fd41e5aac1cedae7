/-
  Spans: Few, Same, Drift, Set, the lists put together.
-/
import Derived.Test.YtphbappgmoojeaaKHg
set_option linter.unusedSectionVars false
set_option linter.unusedSimpArgs false
set_option linter.unusedVariables false
namespace Go.Proofs.Ytphbappgmoojeaa
open Go.Xe Go.RowKit

theorem few_ok (a b : List Sp) : Fn0 Try.prog 12 [slS a, slS b] (.v (.bool (decide (a.length ≤ 24) && decide (b.length ≤ 24)))) := by
  have e2 : decide ((b.length : Int) ≤ 24) = decide (b.length ≤ 24) := by rw [Bool.eq_iff_iff, decide_eq_true_eq, decide_eq_true_eq]; omega
  refine Fun.of_wp (pn := noPn) Try.tab Try.func12 rfl fun β0 => ?_
  simp only [Try.f12]
  repeat (first | refine WP.seq ?_ | refine WP.block ?_ | (refine WP.region Try.tab ?_; simp -dsimp) | (refine WP.draw Try.tab Try.mixed ?_; simp -dsimp) | refine And.intro (by first | rfl | omega | decide | (simp; done) | (simp; omega) | (intro _ h; exact fcs_side h; done) | (intros; simp_all; done)) ?_)
  cases h : decide ((a.length : Int) ≤ 24)
  · have e : decide (a.length ≤ 24) = false := by rw [decide_eq_false_iff_not] at h ⊢; omega
    simp -dsimp
    repeat (first | refine WP.seq ?_ | refine WP.block ?_ | (refine WP.region Try.tab ?_; simp -dsimp) | (refine WP.draw Try.tab Try.mixed ?_; simp -dsimp) | refine And.intro (by first | rfl | omega | decide | (simp; done) | (simp; omega) | (intro _ h; exact fcs_side h; done) | (intros; simp_all; done)) ?_)
    refine WP.ret (finQ.retE ?_)
    simp -dsimp [e]
  · have e : decide (a.length ≤ 24) = true := by rw [decide_eq_true_eq] at h ⊢; omega
    simp -dsimp
    repeat (first | refine WP.seq ?_ | refine WP.block ?_ | (refine WP.region Try.tab ?_; simp -dsimp) | (refine WP.draw Try.tab Try.mixed ?_; simp -dsimp) | refine And.intro (by first | rfl | omega | decide | (simp; done) | (simp; omega) | (intro _ h; exact fcs_side h; done) | (intros; simp_all; done)) ?_)
    refine WP.ret (finQ.retE ?_)
    simp -dsimp [e, e2]

set_option maxRecDepth 10000 in
theorem same_ok (a b : List Sp) (ha : ∀ s ∈ a, isS s) (hb : ∀ s ∈ b, isS s) : Fn0 Try.prog 17 [slS a, slS b] (.v (.bool (decide (a = b)))) := by
  refine Fun.of_wp (pn := noPn) Try.tab Try.func17 rfl fun β0 => ?_
  simp only [Try.f17]
  refine WP.len (.tmp 0) rfl fun hl => ?_
  have hm : maxLen = 9223372036854775807 := rfl
  rw [hm] at hl
  repeat (first | refine WP.seq ?_ | refine WP.block ?_ | (refine WP.region Try.tab ?_; simp -dsimp) | (refine WP.draw Try.tab Try.mixed ?_; simp -dsimp) | refine And.intro (by first | rfl | omega | decide | (simp; done) | (simp; omega) | (intro _ h; exact fcs_side h; done) | (intros; simp_all; done)) ?_)
  refine WP.cond (b := !decide (a.length = b.length)) (by simp; omega) (fun hn => ?_) (fun hn => ?_)
  · have hn : ¬ a.length = b.length := by simpa using hn
    have e : decide (a = b) = false := decide_eq_false fun h => hn (by rw [h])
    repeat (first | refine WP.seq ?_ | refine WP.block ?_ | (refine WP.region Try.tab ?_; simp -dsimp) | (refine WP.draw Try.tab Try.mixed ?_; simp -dsimp) | refine And.intro (by first | rfl | omega | decide | (simp; done) | (simp; omega) | (intro _ h; exact fcs_side h; done) | (intros; simp_all; done)) ?_)
    refine WP.ret (finQ.retE ?_)
    simp -dsimp [e]
  have hn : a.length = b.length := by simpa using hn
  refine WP.skip ?_
  simp -dsimp
  repeat (first | refine WP.seq ?_ | refine WP.block ?_ | (refine WP.region Try.tab ?_; simp -dsimp) | (refine WP.draw Try.tab Try.mixed ?_; simp -dsimp) | refine And.intro (by first | rfl | omega | decide | (simp; done) | (simp; omega) | (intro _ h; exact fcs_side h; done) | (intros; simp_all; done)) ?_)
  refine WP.loopWk (fun m S => ∃ a1 a2 b2, a = a1 ++ a2 ∧ b = a1 ++ b2 ∧ m = a2.length ∧ S = mkS 26 [(0, .d (slS a)), (1, .d (slS b)), (5, .d (.v (.int .i64 a1.length)))] []) a.length
    (S0 := mkS 26 [(0, .d (slS a)), (1, .d (slS b)), (5, .d (.v (.int .i64 0)))] []) (Wk.lessE [] (by simp) (by simp)) ⟨[], a, b, rfl, rfl, rfl, rfl⟩ ?_
  rintro _ _ ⟨a1, a2, b2, ha12, hb12, rfl, rfl⟩
  have hl2 : a2.length = b2.length := by rw [ha12, hb12] at hn; simpa using hn
  simp -dsimp
  repeat (first | refine WP.seq ?_ | refine WP.block ?_ | (refine WP.region Try.tab ?_; simp -dsimp) | (refine WP.draw Try.tab Try.mixed ?_; simp -dsimp) | refine And.intro (by first | rfl | omega | decide | (simp; done) | (simp; omega) | (intro _ h; exact fcs_side h; done) | (intros; simp_all; done)) ?_)
  cases a2 with
  | nil =>
    have : b2 = [] := List.eq_nil_of_length_eq_zero (by simpa using hl2.symm)
    subst this
    rw [← hb12] at ha12
    subst ha12
    have hla : a.length = a1.length := by rw [hb12]; simp
    refine WP.cond (b := false) (by simp [hla]) (fun h => by cases h) (fun _ => ?_)
    refine WP.exit ?_
    simp -dsimp
    repeat (first | refine WP.seq ?_ | refine WP.block ?_ | (refine WP.region Try.tab ?_; simp -dsimp) | (refine WP.draw Try.tab Try.mixed ?_; simp -dsimp) | refine And.intro (by first | rfl | omega | decide | (simp; done) | (simp; omega) | (intro _ h; exact fcs_side h; done) | (intros; simp_all; done)) ?_)
    refine WP.ret (finQ.retE ?_)
    simp -dsimp
  | cons x a2 =>
    cases b2 with
    | nil => simp at hl2
    | cons y b2 =>
      have hll : a.length = a1.length + (a2.length + 1) := by rw [ha12]; simp
      have e1 : IntKind.i64.wrap ((a1.length : Int) + 1) = (a1.length : Int) + 1 := IntWalk.i64_in _ (by omega)
      have h1 := spC_at a1 x a2
      rw [← ha12] at h1
      have h2 := spC_at a1 y b2
      rw [← hb12] at h2
      have ix := ha x (by rw [ha12]; simp)
      have iy := hb y (by rw [hb12]; simp)
      refine WP.cond (b := true) (by simp; omega) (fun _ => ?_) (fun h => by cases h)
      refine WP.skip ?_
      simp -dsimp
      refine WP.seq (WP.block ?_)
      repeat (first | refine WP.seq ?_ | refine WP.block ?_ | (refine WP.region Try.tab ?_; simp -dsimp [h1, h2]) | (refine WP.draw Try.tab Try.mixed ?_; simp -dsimp [h1, h2]) | refine And.intro (by first | rfl | omega | decide | (simp; done) | (simp; omega) | (intro _ h; exact fcs_side h; done) | (intros; simp_all; done)) ?_)
      refine vcStop.eqS Try.tab gokF noarrF rfl (.inr rfl) (m := 5) (by omega) Try.key37 (by decide) Try.gd37 st37 (cs := [.v (.int .i64 x.1), .v (.int .i64 x.2)]) (es := [.v (.int .i64 y.1), .v (.int .i64 y.2)]) (Leq.eqD (by simp [h1])) (Leq.eqD (by simp [h2])) (okSp ix) (okSp iy) (r := decide (x = y)) litsS ?_
      simp -dsimp [eqRes]
      repeat (first | refine WP.seq ?_ | refine WP.block ?_ | (refine WP.region Try.tab ?_; simp -dsimp) | (refine WP.draw Try.tab Try.mixed ?_; simp -dsimp) | refine And.intro (by first | rfl | omega | decide | (simp; done) | (simp; omega) | (intro _ h; exact fcs_side h; done) | (intros; simp_all; done)) ?_)
      refine WP.cond (b := !decide (x = y)) (by simp) (fun hb2 => ?_) (fun hb2 => ?_)
      · have hb2 : ¬ x = y := by simpa using hb2
        have e : decide (a = b) = false := decide_eq_false fun h => hb2 (by rw [ha12, hb12] at h; have := List.append_cancel_left h; simp at this; exact this.1)
        repeat (first | refine WP.seq ?_ | refine WP.block ?_ | (refine WP.region Try.tab ?_; simp -dsimp) | (refine WP.draw Try.tab Try.mixed ?_; simp -dsimp) | refine And.intro (by first | rfl | omega | decide | (simp; done) | (simp; omega) | (intro _ h; exact fcs_side h; done) | (intros; simp_all; done)) ?_)
        refine WP.ret (finQ.retE ?_)
        simp -dsimp [e]
      · have hb2 : x = y := by simpa using hb2
        subst hb2
        refine WP.skip ?_
        simp -dsimp
        repeat (first | refine WP.seq ?_ | refine WP.block ?_ | (refine WP.region Try.tab ?_; simp -dsimp) | (refine WP.draw Try.tab Try.mixed ?_; simp -dsimp) | refine And.intro (by first | rfl | omega | decide | (simp; done) | (simp; omega) | (intro _ h; exact fcs_side h; done) | (intros; simp_all; done)) ?_)
        refine loopW.next (mkS 26 [(0, .d (slS a)), (1, .d (slS b)), (5, .d (.v (.int .i64 (a1 ++ [x]).length)))] []) (Wk.lessE [] (by simp [e1]) (by simp)) a2.length (by simp) ⟨a1 ++ [x], a2, b2, by simp [ha12], by simp [hb12], rfl, rfl⟩

/-- Set. -/
def setR (l : List Sp) : List Sp × Int := if chkL l = 0 then (tidyR l, 0) else ([], chkL l)
theorem set_ok (l : List Sp) : Fn0 Try.prog 23 [slS l] (resD (setR l)) := by
  refine Fun.of_wp (pn := noPn) Try.tab Try.func23 rfl fun β0 => ?_
  simp only [Try.f23]
  repeat (first | refine WP.seq ?_ | refine WP.block ?_ | (refine WP.region Try.tab ?_; simp -dsimp) | (refine WP.draw Try.tab Try.mixed ?_; simp -dsimp) | refine And.intro (by first | rfl | omega | decide | (simp; done) | (simp; omega) | (intro _ h; exact fcs_side h; done) | (intros; simp_all; done)) ?_)
  refine vcStop.call Try.body32 (check1_ok l) (rl [(1000, 5)]) rfl rfl (by simp [BoxLeq]) (CallOk.of (by simp [BoxLeq]) rfl (by first | rfl | (simp [BoxLeq]; done)) (by simp [BoxLeq]) (by simp [BoxLeq])) (fun _ h => h.elim) (fun ⟨_, h⟩ => h.elim) (fun ⟨_, h⟩ => h.elim) (by simp [BoxLeq]) ?_
  simp -dsimp
  repeat (first | refine WP.seq ?_ | refine WP.block ?_ | (refine WP.region Try.tab ?_; simp -dsimp) | (refine WP.draw Try.tab Try.mixed ?_; simp -dsimp) | refine And.intro (by first | rfl | omega | decide | (simp; done) | (simp; omega) | (intro _ h; exact fcs_side h; done) | (intros; simp_all; done)) ?_)
  refine WP.cond (b := !decide (chkL l = 0)) (by simp) (fun hb => ?_) (fun hb => ?_)
  · have hb : ¬ chkL l = 0 := by simpa using hb
    repeat (first | refine WP.seq ?_ | refine WP.block ?_ | (refine WP.region Try.tab ?_; simp -dsimp) | (refine WP.draw Try.tab Try.mixed ?_; simp -dsimp) | refine And.intro (by first | rfl | omega | decide | (simp; done) | (simp; omega) | (intro _ h; exact fcs_side h; done) | (intros; simp_all; done)) ?_)
    refine WP.ret (finQ.retE ?_)
    simp -dsimp [setR, hb]
  · have hb : chkL l = 0 := by simpa using hb
    obtain ⟨h1, h2⟩ := chkL_zero.1 hb
    refine WP.skip ?_
    simp -dsimp
    repeat (first | refine WP.seq ?_ | refine WP.block ?_ | (refine WP.region Try.tab ?_; simp -dsimp) | (refine WP.draw Try.tab Try.mixed ?_; simp -dsimp) | refine And.intro (by first | rfl | omega | decide | (simp; done) | (simp; omega) | (intro _ h; exact fcs_side h; done) | (intros; simp_all; done)) ?_)
    refine vcStop.call0 Try.body33 (tidy_ok l (by omega) h2) rfl rfl (by simp) ?_
    simp -dsimp
    repeat (first | refine WP.seq ?_ | refine WP.block ?_ | (refine WP.region Try.tab ?_; simp -dsimp) | (refine WP.draw Try.tab Try.mixed ?_; simp -dsimp) | refine And.intro (by first | rfl | omega | decide | (simp; done) | (simp; omega) | (intro _ h; exact fcs_side h; done) | (intros; simp_all; done)) ?_)
    refine WP.ret (finQ.retE ?_)
    simp -dsimp [setR, hb]
theorem refSet_ok (l : List Sp) : Fn0 Try.prog 24 [slS l] (resD (setR l)) := by
  refine Fun.of_wp (pn := noPn) Try.tab Try.func24 rfl fun β0 => ?_
  simp only [Try.f24]
  repeat (first | refine WP.seq ?_ | refine WP.block ?_ | (refine WP.region Try.tab ?_; simp -dsimp) | (refine WP.draw Try.tab Try.mixed ?_; simp -dsimp) | refine And.intro (by first | rfl | omega | decide | (simp; done) | (simp; omega) | (intro _ h; exact fcs_side h; done) | (intros; simp_all; done)) ?_)
  refine vcStop.call0 Try.body40 (valid_ok l) rfl rfl (by simp) ?_
  simp -dsimp
  repeat (first | refine WP.seq ?_ | refine WP.block ?_ | (refine WP.region Try.tab ?_; simp -dsimp) | (refine WP.draw Try.tab Try.mixed ?_; simp -dsimp) | refine And.intro (by first | rfl | omega | decide | (simp; done) | (simp; omega) | (intro _ h; exact fcs_side h; done) | (intros; simp_all; done)) ?_)
  refine WP.cond (b := !decide (chkL l = 0)) (by simp) (fun hb => ?_) (fun hb => ?_)
  · have hb : ¬ chkL l = 0 := by simpa using hb
    repeat (first | refine WP.seq ?_ | refine WP.block ?_ | (refine WP.region Try.tab ?_; simp -dsimp) | (refine WP.draw Try.tab Try.mixed ?_; simp -dsimp) | refine And.intro (by first | rfl | omega | decide | (simp; done) | (simp; omega) | (intro _ h; exact fcs_side h; done) | (intros; simp_all; done)) ?_)
    refine WP.ret (finQ.retE ?_)
    simp -dsimp [setR, hb]
  · have hb : chkL l = 0 := by simpa using hb
    obtain ⟨h1, h2⟩ := chkL_zero.1 hb
    refine WP.skip ?_
    simp -dsimp
    repeat (first | refine WP.seq ?_ | refine WP.block ?_ | (refine WP.region Try.tab ?_; simp -dsimp) | (refine WP.draw Try.tab Try.mixed ?_; simp -dsimp) | refine And.intro (by first | rfl | omega | decide | (simp; done) | (simp; omega) | (intro _ h; exact fcs_side h; done) | (intros; simp_all; done)) ?_)
    refine vcStop.call0 Try.body37 (refTidy_ok l (by omega) h2) rfl rfl (by simp) ?_
    simp -dsimp
    repeat (first | refine WP.seq ?_ | refine WP.block ?_ | (refine WP.region Try.tab ?_; simp -dsimp) | (refine WP.draw Try.tab Try.mixed ?_; simp -dsimp) | refine And.intro (by first | rfl | omega | decide | (simp; done) | (simp; omega) | (intro _ h; exact fcs_side h; done) | (intros; simp_all; done)) ?_)
    refine WP.ret (finQ.retE ?_)
    simp -dsimp [setR, hb]
end Go.Proofs.Ytphbappgmoojeaa
