/-
  The laws on drifts, on shifts, on adding to a union.
-/
import Derived.Test.YtphbappgmoojeaaKIb
set_option linter.unusedSectionVars false
set_option linter.unusedSimpArgs false
set_option linter.unusedVariables false
namespace Go.Proofs.Ytphbappgmoojeaa
open Go.Xe Go.RowKit

theorem driftR_in {t p : Int} (h : ¬ (t < -2199023255552 ∨ 2199023255552 < t ∨ p < 0 ∨ 100000 < p)) : driftR t p = ((max t (-t) * p + 999999) / 1000000, 0) := by rw [driftR, if_neg h]
theorem drift_rng2 {t p : Int} (h1 : -1099511627776 ≤ t) (h2 : t ≤ 1099511627776) (h3 : 0 ≤ p) (h4 : p ≤ 100000) : 0 ≤ max t (-t) * p ∧ max t (-t) * p ≤ 109951162777600000 := by
  have h5 : 0 ≤ max t (-t) := by omega
  have h6 : max t (-t) ≤ 1099511627776 := by omega
  refine ⟨Int.mul_nonneg h5 h3, ?_⟩
  have := Int.mul_le_mul h6 h4 h3 (by omega : (0 : Int) ≤ 1099511627776)
  omega
set_option maxRecDepth 10000 in
set_option maxHeartbeats 4000000 in
theorem law_drifts (a b p : Int) : Fn0 Try.prog 7 [.v (.int .i64 a), .v (.int .i64 b), .v (.int .i64 p)] (.v (.bool true)) := by
  refine Fun.of_wp (pn := noPn) Try.tab Try.func7 rfl fun β0 => ?_
  simp only [Try.f7]
  repeat (first | refine WP.seq ?_ | refine WP.block ?_ | (refine WP.region Try.tab ?_; simp -dsimp) | (refine WP.draw Try.tab Try.mixed ?_; simp -dsimp) | refine And.intro (by first | rfl | omega | decide | (simp; done) | (simp; omega) | (intro _ h; exact fcs_side h; done) | (intros; simp_all; done)) ?_)
  refine vcStop.call0 Try.body11 sane_ok rfl rfl (by simp) ?_
  simp -dsimp
  repeat (first | refine WP.seq ?_ | refine WP.block ?_ | (refine WP.region Try.tab ?_; simp -dsimp) | (refine WP.draw Try.tab Try.mixed ?_; simp -dsimp) | refine And.intro (by first | rfl | omega | decide | (simp; done) | (simp; omega) | (intro _ h; exact fcs_side h; done) | (intros; simp_all; done)) ?_)
  refine WP.cond (b := false) (by simp) (fun h => by cases h) (fun _ => ?_)
  refine WP.skip ?_
  simp -dsimp
  repeat (first | refine WP.seq ?_ | refine WP.block ?_ | (refine WP.region Try.tab ?_; simp -dsimp) | (refine WP.draw Try.tab Try.mixed ?_; simp -dsimp) | refine And.intro (by first | rfl | omega | decide | (simp; done) | (simp; omega) | (intro _ h; exact fcs_side h; done) | (intros; simp_all; done)) ?_)
  refine WP.cond (b := decide (a < -1099511627776 ∨ 1099511627776 < a ∨ b < -1099511627776 ∨ 1099511627776 < b ∨ p < 0 ∨ 100000 < p)) (by simp [Bool.or_assoc]) (fun h => ?_) (fun h => ?_)
  · repeat (first | refine WP.seq ?_ | refine WP.block ?_ | (refine WP.region Try.tab ?_; simp -dsimp) | (refine WP.draw Try.tab Try.mixed ?_; simp -dsimp) | refine And.intro (by first | rfl | omega | decide | (simp; done) | (simp; omega) | (intro _ h; exact fcs_side h; done) | (intros; simp_all; done)) ?_)
    refine WP.ret (finQ.retE ?_)
    simp -dsimp
  have h := of_decide_eq_false h
  have d1 := drift_ok a p
  have d2 := drift_ok b p
  have d3 := drift_ok (a + b) p
  have d4 := drift_ok (-a) p
  rw [driftR_in (by omega)] at d1 d2 d3 d4
  have hm : max (-a) (- -a) = max a (-a) := by omega
  rw [hm] at d4
  have hC : max (a + b) (-(a + b)) * p ≤ max a (-a) * p + max b (-b) * p := by
    rw [← Int.add_mul]; exact Int.mul_le_mul_of_nonneg_right (by omega) (by omega)
  have w1 : IntKind.i64.wrap (a + b) = a + b := IntWalk.i64_in _ (by omega)
  have w2 : IntKind.i64.wrap (-a) = -a := IntWalk.i64_in _ (by omega)
  obtain ⟨r1, r2⟩ := drift_rng2 (t := a) (p := p) (by omega) (by omega) (by omega) (by omega)
  obtain ⟨r3, r4⟩ := drift_rng2 (t := b) (p := p) (by omega) (by omega) (by omega) (by omega)
  have w3 : IntKind.i64.wrap (max a (-a) * p) = max a (-a) * p := IntWalk.i64_in _ (by omega)
  have x1 : max a (-a) * p ≤ (max a (-a) * p + 999999) / 1000000 * 1000000 := by omega
  have x2 : (max a (-a) * p + 999999) / 1000000 * 1000000 - max a (-a) * p < 1000000 := by omega
  have x3 : 0 ≤ (max a (-a) * p + 999999) / 1000000 ∧ (max a (-a) * p + 999999) / 1000000 ≤ 1000000000000 := by omega
  have x4 : 0 ≤ (max b (-b) * p + 999999) / 1000000 ∧ (max b (-b) * p + 999999) / 1000000 ≤ 1000000000000 := by omega
  have x5 : (max (a + b) (-(a + b)) * p + 999999) / 1000000 ≤ (max a (-a) * p + 999999) / 1000000 + (max b (-b) * p + 999999) / 1000000 := by omega
  generalize (max (a + b) (-(a + b)) * p + 999999) / 1000000 = Z at d3 x5
  generalize (max b (-b) * p + 999999) / 1000000 = Y at d2 x4 x5
  generalize (max a (-a) * p + 999999) / 1000000 = X at d1 d4 x1 x2 x3 x5
  have w4 : IntKind.i64.wrap (X * 1000000) = X * 1000000 := IntWalk.i64_in _ (by omega)
  have w5 : IntKind.i64.wrap (X + Y) = X + Y := IntWalk.i64_in _ (by omega)
  have w6 : IntKind.i64.wrap (X * 1000000 - max a (-a) * p) = X * 1000000 - max a (-a) * p := IntWalk.i64_in _ (by omega)
  have c1 : ¬ X < 0 := by omega
  have c2 : ¬ 1099511627776 < X := by omega
  have c3 : ¬ Y < 0 := by omega
  refine WP.skip ?_
  simp -dsimp
  repeat (first | refine WP.seq ?_ | refine WP.block ?_ | (refine WP.region Try.tab ?_; simp -dsimp) | (refine WP.draw Try.tab Try.mixed ?_; simp -dsimp) | refine And.intro (by first | rfl | omega | decide | (simp; done) | (simp; omega) | (intro _ h; exact fcs_side h; done) | (intros; simp_all; done)) ?_)
  refine vcStop.call0 Try.body18 d1 rfl rfl (by simp) ?_
  simp -dsimp
  repeat (first | refine WP.seq ?_ | refine WP.block ?_ | (refine WP.region Try.tab ?_; simp -dsimp) | (refine WP.draw Try.tab Try.mixed ?_; simp -dsimp) | refine And.intro (by first | rfl | omega | decide | (simp; done) | (simp; omega) | (intro _ h; exact fcs_side h; done) | (intros; simp_all; done)) ?_)
  refine vcStop.call0 Try.body18 d2 rfl rfl (by simp) ?_
  simp -dsimp
  repeat (first | refine WP.seq ?_ | refine WP.block ?_ | (refine WP.region Try.tab ?_; simp -dsimp [w1]) | (refine WP.draw Try.tab Try.mixed ?_; simp -dsimp [w1]) | refine And.intro (by first | rfl | omega | decide | (simp; done) | (simp; omega) | (intro _ h; exact fcs_side h; done) | (intros; simp_all; done)) ?_)
  refine vcStop.call0 Try.body18 d3 rfl rfl (by simp [w1]) ?_
  simp -dsimp
  repeat (first | refine WP.seq ?_ | refine WP.block ?_ | (refine WP.region Try.tab ?_; simp -dsimp [w2]) | (refine WP.draw Try.tab Try.mixed ?_; simp -dsimp [w2]) | refine And.intro (by first | rfl | omega | decide | (simp; done) | (simp; omega) | (intro _ h; exact fcs_side h; done) | (intros; simp_all; done)) ?_)
  refine vcStop.call0 Try.body18 d4 rfl rfl (by simp [w2]) ?_
  simp -dsimp
  repeat (first | refine WP.seq ?_ | refine WP.block ?_ | (refine WP.region Try.tab ?_; simp -dsimp) | (refine WP.draw Try.tab Try.mixed ?_; simp -dsimp) | refine And.intro (by first | rfl | omega | decide | (simp; done) | (simp; omega) | (intro _ h; exact fcs_side h; done) | (intros; simp_all; done)) ?_)
  refine WP.cond (b := false) (by simp [c1, c2, c3]) (fun h => by cases h) (fun _ => ?_)
  refine WP.skip ?_
  simp -dsimp
  repeat (first | refine WP.seq ?_ | refine WP.block ?_ | (refine WP.region Try.tab ?_; simp -dsimp [w2, w3, w4, w5, w6]) | (refine WP.draw Try.tab Try.mixed ?_; simp -dsimp [w2, w3, w4, w5, w6]) | refine And.intro (by first | rfl | omega | decide | (simp; done) | (simp; omega) | (intro _ h; exact fcs_side h; done) | (intros; simp_all; done)) ?_)
  refine WP.ret (finQ.retE ?_)
  simp -dsimp [w2, w3, w4, w5, w6, x1, x2, x5]

set_option maxRecDepth 10000 in
set_option maxHeartbeats 4000000 in
theorem law_shifts (a : List Sp) (x : Int) : Fn0 Try.prog 6 [slS a, .v (.int .i64 x)] (.v (.bool true)) := by
  have hc : decide ((24 : Int) < a.length) = decide (24 < a.length) := by rw [Bool.eq_iff_iff, decide_eq_true_eq, decide_eq_true_eq]; omega
  refine Fun.of_wp (pn := noPn) Try.tab Try.func6 rfl fun β0 => ?_
  simp only [Try.f6]
  repeat (first | refine WP.seq ?_ | refine WP.block ?_ | (refine WP.region Try.tab ?_; simp -dsimp) | (refine WP.draw Try.tab Try.mixed ?_; simp -dsimp) | refine And.intro (by first | rfl | omega | decide | (simp; done) | (simp; omega) | (intro _ h; exact fcs_side h; done) | (intros; simp_all; done)) ?_)
  refine vcStop.call0 Try.body11 sane_ok rfl rfl (by simp) ?_
  simp -dsimp
  repeat (first | refine WP.seq ?_ | refine WP.block ?_ | (refine WP.region Try.tab ?_; simp -dsimp) | (refine WP.draw Try.tab Try.mixed ?_; simp -dsimp) | refine And.intro (by first | rfl | omega | decide | (simp; done) | (simp; omega) | (intro _ h; exact fcs_side h; done) | (intros; simp_all; done)) ?_)
  refine WP.cond (b := false) (by simp) (fun h => by cases h) (fun _ => ?_)
  refine WP.skip ?_
  simp -dsimp
  repeat (first | refine WP.seq ?_ | refine WP.block ?_ | (refine WP.region Try.tab ?_; simp -dsimp) | (refine WP.draw Try.tab Try.mixed ?_; simp -dsimp) | refine And.intro (by first | rfl | omega | decide | (simp; done) | (simp; omega) | (intro _ h; exact fcs_side h; done) | (intros; simp_all; done)) ?_)
  refine WP.cond (b := decide (24 < a.length ∨ x < -70368744177664 ∨ 70368744177664 < x)) (by simp [Bool.or_assoc, hc]) (fun h => ?_) (fun h => ?_)
  · repeat (first | refine WP.seq ?_ | refine WP.block ?_ | (refine WP.region Try.tab ?_; simp -dsimp) | (refine WP.draw Try.tab Try.mixed ?_; simp -dsimp) | refine And.intro (by first | rfl | omega | decide | (simp; done) | (simp; omega) | (intro _ h; exact fcs_side h; done) | (intros; simp_all; done)) ?_)
    refine WP.ret (finQ.retE ?_)
    simp -dsimp
  have h := of_decide_eq_false h
  have s1 := shift_ok a x
  have s2 := add_ok a [(x, x)]
  have s3 := set_ok a
  rw [shift_add (by omega) (by omega) (by omega)] at s2
  have hx := shiftR_all a x
  have hb := shift_back (a := a) (x := x) (by omega) (by omega) (by omega)
  have ha := (setR_ans a).all
  have w1 : IntKind.i64.wrap (-x) = -x := IntWalk.i64_in _ (by omega)
  generalize shiftR a x = r at s1 s2 hx hb
  obtain ⟨r1, r2⟩ := r
  simp only at hx hb
  have s4 := shift_ok r1 (-x)
  refine WP.skip ?_
  simp -dsimp
  repeat (first | refine WP.seq ?_ | refine WP.block ?_ | (refine WP.region Try.tab ?_; simp -dsimp) | (refine WP.draw Try.tab Try.mixed ?_; simp -dsimp) | refine And.intro (by first | rfl | omega | decide | (simp; done) | (simp; omega) | (intro _ h; exact fcs_side h; done) | (intros; simp_all; done)) ?_)
  refine vcStop.call0 Try.body15 s1 rfl rfl (by simp) ?_
  simp -dsimp
  repeat (first | refine WP.seq ?_ | refine WP.block ?_ | (refine WP.region Try.tab ?_; simp -dsimp) | (refine WP.draw Try.tab Try.mixed ?_; simp -dsimp) | refine And.intro (by first | rfl | omega | decide | (simp; done) | (simp; omega) | (intro _ h; exact fcs_side h; done) | (intros; simp_all; done)) ?_)
  refine vcStop.call Try.body22 (of_row [x, x] (by simp) (r := [(x, x)]) rfl) (rl [(1000, 36)]) rfl rfl (by simp [BoxLeq]) (CallOk.of (by simp [BoxLeq]) rfl (by first | rfl | (simp [BoxLeq]; done)) (by simp [BoxLeq]) (by simp [BoxLeq])) (fun _ h => h.elim) (fun ⟨_, h⟩ => h.elim) (fun ⟨_, h⟩ => h.elim) (by simp [BoxLeq]) ?_
  simp -dsimp
  repeat refine And.intro (by first | rfl | omega | decide | (simp; done) | (simp; omega) | (intro _ h; exact fcs_side h; done) | (intros; simp_all; done)) ?_
  refine vcStop.call0 Try.body13 s2 rfl rfl (by simp) ?_
  simp -dsimp
  repeat (first | refine WP.seq ?_ | refine WP.block ?_ | (refine WP.region Try.tab ?_; simp -dsimp) | (refine WP.draw Try.tab Try.mixed ?_; simp -dsimp) | refine And.intro (by first | rfl | omega | decide | (simp; done) | (simp; omega) | (intro _ h; exact fcs_side h; done) | (intros; simp_all; done)) ?_)
  refine vcStop.call0 Try.body23 s3 rfl rfl (by simp) ?_
  simp -dsimp
  repeat (first | refine WP.seq ?_ | refine WP.block ?_ | (refine WP.region Try.tab ?_; simp -dsimp) | (refine WP.draw Try.tab Try.mixed ?_; simp -dsimp) | refine And.intro (by first | rfl | omega | decide | (simp; done) | (simp; omega) | (intro _ h; exact fcs_side h; done) | (intros; simp_all; done)) ?_)
  refine WP.cond (b := !decide (r2 = 0)) (by simp) (fun he => ?_) (fun he => ?_)
  · have he : ¬ r2 = 0 := by simpa using he
    have hn := hx.2 he
    subst hn
    repeat (first | refine WP.seq ?_ | refine WP.block ?_ | (refine WP.region Try.tab ?_; simp -dsimp) | (refine WP.draw Try.tab Try.mixed ?_; simp -dsimp) | refine And.intro (by first | rfl | omega | decide | (simp; done) | (simp; omega) | (intro _ h; exact fcs_side h; done) | (intros; simp_all; done)) ?_)
    refine WP.ret (finQ.retE ?_)
    simp -dsimp [he]
  have he : r2 = 0 := by simpa using he
  obtain ⟨hb1, hb2⟩ := hb he
  rw [hb1] at s4
  generalize setR a = q at s3 s4 ha hb2
  obtain ⟨q1, q2⟩ := q
  simp only at hb2 ha
  subst hb2
  subst he
  refine WP.skip ?_
  simp -dsimp
  repeat (first | refine WP.seq ?_ | refine WP.block ?_ | (refine WP.region Try.tab ?_; simp -dsimp [w1]) | (refine WP.draw Try.tab Try.mixed ?_; simp -dsimp [w1]) | refine And.intro (by first | rfl | omega | decide | (simp; done) | (simp; omega) | (intro _ h; exact fcs_side h; done) | (intros; simp_all; done)) ?_)
  refine vcStop.call0 Try.body15 s4 rfl rfl (by simp [w1]) ?_
  simp -dsimp
  repeat (first | refine WP.seq ?_ | refine WP.block ?_ | (refine WP.region Try.tab ?_; simp -dsimp) | (refine WP.draw Try.tab Try.mixed ?_; simp -dsimp) | refine And.intro (by first | rfl | omega | decide | (simp; done) | (simp; omega) | (intro _ h; exact fcs_side h; done) | (intros; simp_all; done)) ?_)
  refine vcStopG.call0 Try.body17 (fun _ => sameT rfl hx.1) rfl (fun _ => rfl) (fun _ => by simp) ?_
  simp -dsimp
  repeat refine And.intro (by first | rfl | omega | decide | (simp; done) | (simp; omega) | (intro _ h; exact fcs_side h; done) | (intros; simp_all; done)) ?_
  refine vcStopG.call0 Try.body17 (fun _ => sameT rfl ha) rfl (fun _ => rfl) (fun _ => by simp) ?_
  simp -dsimp
  repeat refine And.intro (by first | rfl | omega | decide | (simp; done) | (simp; omega) | (intro _ h; exact fcs_side h; done) | (intros; simp_all; done)) ?_
  repeat (first | refine WP.seq ?_ | refine WP.block ?_ | (refine WP.region Try.tab ?_; simp -dsimp) | (refine WP.draw Try.tab Try.mixed ?_; simp -dsimp) | refine And.intro (by first | rfl | omega | decide | (simp; done) | (simp; omega) | (intro _ h; exact fcs_side h; done) | (intros; simp_all; done)) ?_)
  refine WP.ret (finQ.retE ?_)
  simp -dsimp

theorem sum_union (a b c u : List Sp) (h : ∀ t, memS t u ↔ memS t a ∨ memS t b) (t : Int) : sumM u c t ↔ sumM a c t ∨ sumM b c t := by
  constructor
  · rintro ⟨p, q, h1, h2, h3⟩
    rcases (h p).1 h1 with h1 | h1
    · exact .inl ⟨p, q, h1, h2, h3⟩
    · exact .inr ⟨p, q, h1, h2, h3⟩
  · rintro (⟨p, q, h1, h2, h3⟩ | ⟨p, q, h1, h2, h3⟩)
    · exact ⟨p, q, (h p).2 (.inl h1), h2, h3⟩
    · exact ⟨p, q, (h p).2 (.inr h1), h2, h3⟩
theorem dist_eq (a b c : List Sp) (h1 : (unionR a b).2 = 0) (h2 : (addR (unionR a b).1 c).2 = 0) (h3 : (addR a c).2 = 0) (h4 : (addR b c).2 = 0) (h5 : (unionR (addR a c).1 (addR b c).1).2 = 0) :
    (addR (unionR a b).1 c).1 = (unionR (addR a c).1 (addR b c).1).1 := by
  obtain ⟨_, _, m1⟩ := (unionR_ans a b).ok h1
  obtain ⟨_, _, m3⟩ := (addR_ans a c).ok h3
  obtain ⟨_, _, m4⟩ := (addR_ans b c).ok h4
  refine (addR_ans (unionR a b).1 c).eq (unionR_ans (addR a c).1 (addR b c).1) h2 h5 fun t => ?_
  rw [m3, m4]
  exact sum_union a b c _ m1 t
set_option maxRecDepth 10000 in
set_option maxHeartbeats 4000000 in
theorem law_dist (a b c : List Sp) : Fn0 Try.prog 10 [slS a, slS b, slS c] (.v (.bool true)) := by
  have hc : decide ((24 : Int) < c.length) = decide (24 < c.length) := by rw [Bool.eq_iff_iff, decide_eq_true_eq, decide_eq_true_eq]; omega
  have u1 := union_ok a b
  have y1 := add_ok a c
  have z1 := add_ok b c
  have x1 := add_ok (unionR a b).1 c
  have w1 := union_ok (addR a c).1 (addR b c).1
  have hd := dist_eq a b c
  have xa := (addR_ans (unionR a b).1 c).all
  generalize unionR (addR a c).1 (addR b c).1 = w at w1 hd
  generalize addR (unionR a b).1 c = x at x1 hd xa
  generalize unionR a b = u at u1 x1 hd
  generalize addR a c = y at y1 w1 hd
  generalize addR b c = z at z1 w1 hd
  obtain ⟨u, eu⟩ := u
  obtain ⟨x, ex⟩ := x
  obtain ⟨y, ey⟩ := y
  obtain ⟨z, ez⟩ := z
  obtain ⟨w, ew⟩ := w
  simp only at *
  refine Fun.of_wp (pn := noPn) Try.tab Try.func10 rfl fun β0 => ?_
  simp only [Try.f10]
  repeat (first | refine WP.seq ?_ | refine WP.block ?_ | (refine WP.region Try.tab ?_; simp -dsimp) | (refine WP.draw Try.tab Try.mixed ?_; simp -dsimp) | refine And.intro (by first | rfl | omega | decide | (simp; done) | (simp; omega) | (intro _ h; exact fcs_side h; done) | (intros; simp_all; done)) ?_)
  refine vcStop.call0 Try.body11 sane_ok rfl rfl (by simp) ?_
  simp -dsimp
  repeat (first | refine WP.seq ?_ | refine WP.block ?_ | (refine WP.region Try.tab ?_; simp -dsimp) | (refine WP.draw Try.tab Try.mixed ?_; simp -dsimp) | refine And.intro (by first | rfl | omega | decide | (simp; done) | (simp; omega) | (intro _ h; exact fcs_side h; done) | (intros; simp_all; done)) ?_)
  refine WP.cond (b := false) (by simp) (fun h => by cases h) (fun _ => ?_)
  refine WP.skip ?_
  simp -dsimp
  repeat (first | refine WP.seq ?_ | refine WP.block ?_ | (refine WP.region Try.tab ?_; simp -dsimp) | (refine WP.draw Try.tab Try.mixed ?_; simp -dsimp) | refine And.intro (by first | rfl | omega | decide | (simp; done) | (simp; omega) | (intro _ h; exact fcs_side h; done) | (intros; simp_all; done)) ?_)
  refine vcStop.call0 Try.body12 (few_ok a b) rfl rfl (by simp) ?_
  simp -dsimp
  repeat (first | refine WP.seq ?_ | refine WP.block ?_ | (refine WP.region Try.tab ?_; simp -dsimp) | (refine WP.draw Try.tab Try.mixed ?_; simp -dsimp) | refine And.intro (by first | rfl | omega | decide | (simp; done) | (simp; omega) | (intro _ h; exact fcs_side h; done) | (intros; simp_all; done)) ?_)
  refine WP.cond (b := !(decide (a.length ≤ 24) && decide (b.length ≤ 24)) || decide (24 < c.length)) (by simp [hc]) (fun h => ?_) (fun h => ?_)
  · repeat (first | refine WP.seq ?_ | refine WP.block ?_ | (refine WP.region Try.tab ?_; simp -dsimp) | (refine WP.draw Try.tab Try.mixed ?_; simp -dsimp) | refine And.intro (by first | rfl | omega | decide | (simp; done) | (simp; omega) | (intro _ h; exact fcs_side h; done) | (intros; simp_all; done)) ?_)
    refine WP.ret (finQ.retE ?_)
    simp -dsimp
  refine WP.skip ?_
  simp -dsimp
  repeat (first | refine WP.seq ?_ | refine WP.block ?_ | (refine WP.region Try.tab ?_; simp -dsimp) | (refine WP.draw Try.tab Try.mixed ?_; simp -dsimp) | refine And.intro (by first | rfl | omega | decide | (simp; done) | (simp; omega) | (intro _ h; exact fcs_side h; done) | (intros; simp_all; done)) ?_)
  refine vcStop.call0 Try.body25 u1 rfl rfl (by simp) ?_
  simp -dsimp
  repeat (first | refine WP.seq ?_ | refine WP.block ?_ | (refine WP.region Try.tab ?_; simp -dsimp) | (refine WP.draw Try.tab Try.mixed ?_; simp -dsimp) | refine And.intro (by first | rfl | omega | decide | (simp; done) | (simp; omega) | (intro _ h; exact fcs_side h; done) | (intros; simp_all; done)) ?_)
  refine vcStop.call0 Try.body13 x1 rfl rfl (by simp) ?_
  simp -dsimp
  repeat (first | refine WP.seq ?_ | refine WP.block ?_ | (refine WP.region Try.tab ?_; simp -dsimp) | (refine WP.draw Try.tab Try.mixed ?_; simp -dsimp) | refine And.intro (by first | rfl | omega | decide | (simp; done) | (simp; omega) | (intro _ h; exact fcs_side h; done) | (intros; simp_all; done)) ?_)
  refine vcStop.call0 Try.body13 y1 rfl rfl (by simp) ?_
  simp -dsimp
  repeat (first | refine WP.seq ?_ | refine WP.block ?_ | (refine WP.region Try.tab ?_; simp -dsimp) | (refine WP.draw Try.tab Try.mixed ?_; simp -dsimp) | refine And.intro (by first | rfl | omega | decide | (simp; done) | (simp; omega) | (intro _ h; exact fcs_side h; done) | (intros; simp_all; done)) ?_)
  refine vcStop.call0 Try.body13 z1 rfl rfl (by simp) ?_
  simp -dsimp
  repeat (first | refine WP.seq ?_ | refine WP.block ?_ | (refine WP.region Try.tab ?_; simp -dsimp) | (refine WP.draw Try.tab Try.mixed ?_; simp -dsimp) | refine And.intro (by first | rfl | omega | decide | (simp; done) | (simp; omega) | (intro _ h; exact fcs_side h; done) | (intros; simp_all; done)) ?_)
  refine vcStop.call0 Try.body25 w1 rfl rfl (by simp) ?_
  simp -dsimp
  repeat (first | refine WP.seq ?_ | refine WP.block ?_ | (refine WP.region Try.tab ?_; simp -dsimp) | (refine WP.draw Try.tab Try.mixed ?_; simp -dsimp) | refine And.intro (by first | rfl | omega | decide | (simp; done) | (simp; omega) | (intro _ h; exact fcs_side h; done) | (intros; simp_all; done)) ?_)
  refine WP.cond (b := !decide (eu = 0) || !decide (ex = 0) || !decide (ey = 0) || !decide (ez = 0) || !decide (ew = 0)) (by simp [Bool.or_assoc]) (fun h => ?_) (fun h => ?_)
  · repeat (first | refine WP.seq ?_ | refine WP.block ?_ | (refine WP.region Try.tab ?_; simp -dsimp) | (refine WP.draw Try.tab Try.mixed ?_; simp -dsimp) | refine And.intro (by first | rfl | omega | decide | (simp; done) | (simp; omega) | (intro _ h; exact fcs_side h; done) | (intros; simp_all; done)) ?_)
    refine WP.ret (finQ.retE ?_)
    simp -dsimp
  simp only [Bool.or_eq_false_iff, Bool.not_eq_false', decide_eq_true_eq] at h
  obtain ⟨⟨⟨⟨h1, h2⟩, h3⟩, h4⟩, h5⟩ := h
  have he := hd h1 h2 h3 h4 h5
  refine WP.skip ?_
  simp -dsimp
  repeat (first | refine WP.seq ?_ | refine WP.block ?_ | (refine WP.region Try.tab ?_; simp -dsimp) | (refine WP.draw Try.tab Try.mixed ?_; simp -dsimp) | refine And.intro (by first | rfl | omega | decide | (simp; done) | (simp; omega) | (intro _ h; exact fcs_side h; done) | (intros; simp_all; done)) ?_)
  refine vcStop.call0 Try.body17 (sameT he xa) rfl rfl (by simp) ?_
  simp -dsimp
  repeat (first | refine WP.seq ?_ | refine WP.block ?_ | (refine WP.region Try.tab ?_; simp -dsimp) | (refine WP.draw Try.tab Try.mixed ?_; simp -dsimp) | refine And.intro (by first | rfl | omega | decide | (simp; done) | (simp; omega) | (intro _ h; exact fcs_side h; done) | (intros; simp_all; done)) ?_)
  refine WP.ret (finQ.retE ?_)
  simp -dsimp

end Go.Proofs.Ytphbappgmoojeaa
