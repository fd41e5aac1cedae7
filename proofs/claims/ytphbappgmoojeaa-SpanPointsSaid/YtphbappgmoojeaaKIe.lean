/-
  The law on the times of sets, unions and meets.
-/
import Derived.Test.YtphbappgmoojeaaKSd
set_option linter.unusedSectionVars false
set_option linter.unusedSimpArgs false
set_option linter.unusedVariables false
namespace Go.Proofs.Ytphbappgmoojeaa
open Go.Xe Go.RowKit

set_option maxRecDepth 10000 in
set_option maxHeartbeats 4000000 in
theorem law_points (a b : List Sp) (t0 : Int) : Fn0 Try.prog 9 [slS a, slS b, .v (.int .i64 t0)] (.v (.bool true)) := by
  have r1 := set_ok a
  have r2 := union_ok a b
  have r3 := meet_ok a b
  have q1 := setR_ans a
  have q2 := unionR_ans a b
  have q3 := meetR_ans a b
  have hn1 := q1.no
  have hn2 := q2.no
  refine Fun.of_wp (pn := noPn) Try.tab Try.func9 rfl fun β0 => ?_
  simp only [Try.f9]
  repeat (first | refine WP.seq ?_ | refine WP.block ?_ | (refine WP.region Try.tab ?_; simp -dsimp) | (refine WP.draw Try.tab Try.mixed ?_; simp -dsimp) | refine And.intro (by first | rfl | omega | decide | (simp; done) | (simp; omega) | (intro _ h; exact fcs_side h; done) | (intros; simp_all; done) | (intros; simp_all; omega)) ?_)
  refine vcStop.call0 Try.body11 sane_ok rfl rfl (by simp) ?_
  simp -dsimp
  repeat (first | refine WP.seq ?_ | refine WP.block ?_ | (refine WP.region Try.tab ?_; simp -dsimp) | (refine WP.draw Try.tab Try.mixed ?_; simp -dsimp) | refine And.intro (by first | rfl | omega | decide | (simp; done) | (simp; omega) | (intro _ h; exact fcs_side h; done) | (intros; simp_all; done) | (intros; simp_all; omega)) ?_)
  refine WP.cond (b := false) (by simp) (fun h => by cases h) (fun _ => ?_)
  refine WP.skip ?_
  simp -dsimp
  repeat (first | refine WP.seq ?_ | refine WP.block ?_ | (refine WP.region Try.tab ?_; simp -dsimp) | (refine WP.draw Try.tab Try.mixed ?_; simp -dsimp) | refine And.intro (by first | rfl | omega | decide | (simp; done) | (simp; omega) | (intro _ h; exact fcs_side h; done) | (intros; simp_all; done) | (intros; simp_all; omega)) ?_)
  refine vcStop.call0 Try.body12 (few_ok a b) rfl rfl (by simp) ?_
  simp -dsimp
  repeat (first | refine WP.seq ?_ | refine WP.block ?_ | (refine WP.region Try.tab ?_; simp -dsimp) | (refine WP.draw Try.tab Try.mixed ?_; simp -dsimp) | refine And.intro (by first | rfl | omega | decide | (simp; done) | (simp; omega) | (intro _ h; exact fcs_side h; done) | (intros; simp_all; done) | (intros; simp_all; omega)) ?_)
  refine WP.cond (b := !(decide (a.length ≤ 24) && decide (b.length ≤ 24))) (by simp) (fun h => ?_) (fun h => ?_)
  · repeat (first | refine WP.seq ?_ | refine WP.block ?_ | (refine WP.region Try.tab ?_; simp -dsimp) | (refine WP.draw Try.tab Try.mixed ?_; simp -dsimp) | refine And.intro (by first | rfl | omega | decide | (simp; done) | (simp; omega) | (intro _ h; exact fcs_side h; done) | (intros; simp_all; done) | (intros; simp_all; omega)) ?_)
    refine WP.ret (finQ.retE ?_)
    simp -dsimp
  have hla : a.length ≤ 24 := by simp at h; omega
  have hlb : b.length ≤ 24 := by simp at h; omega
  refine WP.skip ?_
  simp -dsimp
  repeat (first | refine WP.seq ?_ | refine WP.block ?_ | (refine WP.region Try.tab ?_; simp -dsimp) | (refine WP.draw Try.tab Try.mixed ?_; simp -dsimp) | refine And.intro (by first | rfl | omega | decide | (simp; done) | (simp; omega) | (intro _ h; exact fcs_side h; done) | (intros; simp_all; done) | (intros; simp_all; omega)) ?_)
  have f2 := union_few (a := a) (b := b) (by omega) (by omega)
  have f3 := meet_few (a := a) (b := b) (by omega) (by omega)
  have hs : chkLs [a, b] = 0 → (setR a).2 = 0 := fun h => by rw [setR, if_pos (chk_first h)]
  have hu : (unionR a b).2 = chkLs [a, b] := by rw [f2]; split <;> simp_all
  have hm : (meetR a b).2 = chkLs [a, b] := by rw [f3]; split <;> simp_all
  have hn3 := q3.no
  generalize setR a = s at r1 q1 hn1 hs
  generalize unionR a b = u at r2 q2 hn2 hu f2
  generalize meetR a b = m at r3 q3 hn3 hm f3
  obtain ⟨s, es⟩ := s
  obtain ⟨u, eu⟩ := u
  obtain ⟨m, em⟩ := m
  simp only at hs hu hm hn1 hn2 hn3
  subst hu
  subst hm
  refine vcStop.call0 Try.body23 r1 rfl rfl (by simp) ?_
  simp -dsimp
  repeat (first | refine WP.seq ?_ | refine WP.block ?_ | (refine WP.region Try.tab ?_; simp -dsimp) | (refine WP.draw Try.tab Try.mixed ?_; simp -dsimp) | refine And.intro (by first | rfl | omega | decide | (simp; done) | (simp; omega) | (intro _ h; exact fcs_side h; done) | (intros; simp_all; done) | (intros; simp_all; omega)) ?_)
  refine vcStop.call0 Try.body25 r2 rfl rfl (by simp) ?_
  simp -dsimp
  repeat (first | refine WP.seq ?_ | refine WP.block ?_ | (refine WP.region Try.tab ?_; simp -dsimp) | (refine WP.draw Try.tab Try.mixed ?_; simp -dsimp) | refine And.intro (by first | rfl | omega | decide | (simp; done) | (simp; omega) | (intro _ h; exact fcs_side h; done) | (intros; simp_all; done) | (intros; simp_all; omega)) ?_)
  refine vcStop.call0 Try.body27 r3 rfl rfl (by simp) ?_
  simp -dsimp
  repeat (first | refine WP.seq ?_ | refine WP.block ?_ | (refine WP.region Try.tab ?_; simp -dsimp) | (refine WP.draw Try.tab Try.mixed ?_; simp -dsimp) | refine And.intro (by first | rfl | omega | decide | (simp; done) | (simp; omega) | (intro _ h; exact fcs_side h; done) | (intros; simp_all; done) | (intros; simp_all; omega)) ?_)
  cases hcc : decide (chkLs [a, b] = 0)
  · have hc : ¬ chkLs [a, b] = 0 := of_decide_eq_false hcc
    have hu := hn2 hc
    have hm := hn3 hc
    subst hu
    subst hm
    refine WP.cond (b := true) (by simp [hcc, hc]) (fun _ => ?_) (fun h => by cases h)
    cases hse : decide (es = 0)
    · have hse' : ¬ es = 0 := of_decide_eq_false hse
      have hs0 := hn1 hse'
      subst hs0
      repeat (first | refine WP.seq ?_ | refine WP.block ?_ | (refine WP.region Try.tab ?_; simp -dsimp [hse, hcc]) | (refine WP.draw Try.tab Try.mixed ?_; simp -dsimp [hse, hcc]) | refine And.intro (by first | rfl | omega | decide | (simp; done) | (simp; omega) | (intro _ h; exact fcs_side h; done) | (intros; simp_all; done) | (intros; simp_all; omega)) ?_)
      refine WP.ret (finQ.retE ?_)
      simp -dsimp [hse, hse', show IntKind.i64.wrap 0 = 0 by decide]
    · repeat (first | refine WP.seq ?_ | refine WP.block ?_ | (refine WP.region Try.tab ?_; simp -dsimp [hse, hcc]) | (refine WP.draw Try.tab Try.mixed ?_; simp -dsimp [hse, hcc]) | refine And.intro (by first | rfl | omega | decide | (simp; done) | (simp; omega) | (intro _ h; exact fcs_side h; done) | (intros; simp_all; done) | (intros; simp_all; omega)) ?_)
      refine WP.ret (finQ.retE ?_)
      simp -dsimp [hse, show IntKind.i64.wrap 0 = 0 by decide]
  have hc : chkLs [a, b] = 0 := of_decide_eq_true hcc
  have he := hs hc
  subst he
  obtain ⟨t1, l1, m1⟩ := q1.ok rfl
  obtain ⟨t2, l2, m2⟩ := q2.ok hc
  obtain ⟨t3, l3, m3⟩ := q3.ok hc
  have k1 := q1.all
  have k2 := q2.all
  have k3 := q3.all
  simp only at t1 t2 t3 l1 l2 l3 m1 m2 m3 k1 k2 k3
  refine WP.cond (b := false) (by simp [hcc, hc]) (fun h => by cases h) (fun _ => ?_)
  refine WP.skip ?_
  simp -dsimp
  repeat (first | refine WP.seq ?_ | refine WP.block ?_ | (refine WP.region Try.tab ?_; simp -dsimp) | (refine WP.draw Try.tab Try.mixed ?_; simp -dsimp) | refine And.intro (by first | rfl | omega | decide | (simp; done) | (simp; omega) | (intro _ h; exact fcs_side h; done) | (intros; simp_all; done) | (intros; simp_all; omega)) ?_)
  refine WP.loopWk (fun q S => ∃ ts l1 l2, a = l1 ++ l2 ∧ q = l2.length ∧ ts.length + 4 * l2.length ≤ 1000 ∧ S = mkS 198 [(0, .d (slS a)), (1, .d (slS b)), (7, .d (slS s)), (9, .d (slS u)), (11, .d (slS m)), (14, .d (.v (.int .i64 l1.length))), (13, .row 500)] [(500, .row 3 1 ts.length ((iD ts).map .d))]) a.length
    (S0 := mkS 198 [(0, .d (slS a)), (1, .d (slS b)), (7, .d (slS s)), (9, .d (slS u)), (11, .d (slS m)), (14, .d (.v (.int .i64 0))), (13, .row 500)] [(500, .row 3 1 1 [.d (.v (.int .i64 t0))])]) (Wk.go [] 73 500 (by decide) (by simp) (by simp) (by simp)) ⟨[t0], [], a, rfl, rfl, by simp; omega, rfl⟩ ?_
  rintro _ _ ⟨ts, l1, l2, hl12, rfl, htl, rfl⟩
  simp -dsimp
  repeat (first | refine WP.seq ?_ | refine WP.block ?_ | (refine WP.region Try.tab ?_; simp -dsimp) | (refine WP.draw Try.tab Try.mixed ?_; simp -dsimp) | refine And.intro (by first | rfl | omega | decide | (simp; done) | (simp; omega) | (intro _ h; exact fcs_side h; done) | (intros; simp_all; done) | (intros; simp_all; omega)) ?_)
  cases l2 with
  | cons x l2 =>
    have hll : a.length = l1.length + (l2.length + 1) := by rw [hl12]; simp
    simp only [List.length_cons] at htl
    have e1 : IntKind.i64.wrap ((l1.length : Int) + 1) = (l1.length : Int) + 1 := IntWalk.i64_in _ (by omega)
    have h1 := spC_at l1 x l2
    rw [← hl12] at h1
    obtain ⟨h1a, h1b⟩ := el2 h1
    refine WP.cond (b := true) (by simp; omega) (fun _ => ?_) (fun h => by cases h)
    refine WP.skip ?_
    simp -dsimp
    refine WP.seq (WP.block ?_)
    repeat (first | refine WP.seq ?_ | refine WP.block ?_ | (refine WP.region Try.tab ?_; simp -dsimp [h1, h1a, h1b]) | (refine WP.draw Try.tab Try.mixed ?_; simp -dsimp [h1, h1a, h1b]) | refine And.intro (by first | rfl | omega | decide | (simp; done) | (simp; omega) | (intro _ h; exact fcs_side h; done) | (intros; simp_all; done) | (intros; simp_all; omega)) ?_)
    refine loopW.next (mkS 198 [(0, .d (slS a)), (1, .d (slS b)), (7, .d (slS s)), (9, .d (slS u)), (11, .d (slS m)), (14, .d (.v (.int .i64 (l1 ++ [x]).length))), (13, .row 500)] [(500, .row 3 1 (ts ++ [x.1, x.2, IntKind.i64.wrap (x.1 - 1), IntKind.i64.wrap (x.2 + 1)]).length ((iD (ts ++ [x.1, x.2, IntKind.i64.wrap (x.1 - 1), IntKind.i64.wrap (x.2 + 1)])).map .d))])
      (Wk.go [103] 104 500 (by decide) (by simp) (by simp [e1]) (by simp [h1, h1a, h1b])) l2.length (by simp) ⟨ts ++ [x.1, x.2, IntKind.i64.wrap (x.1 - 1), IntKind.i64.wrap (x.2 + 1)], l1 ++ [x], l2, by simp [hl12], rfl, by simp; omega, rfl⟩
  | nil =>
  simp only [List.append_nil] at hl12
  subst hl12
  simp only [List.length_nil] at htl
  refine WP.cond (b := false) (by simp) (fun h => by cases h) (fun _ => ?_)
  refine WP.exit ?_
  simp -dsimp
  repeat (first | refine WP.seq ?_ | refine WP.block ?_ | (refine WP.region Try.tab ?_; simp -dsimp) | (refine WP.draw Try.tab Try.mixed ?_; simp -dsimp) | refine And.intro (by first | rfl | omega | decide | (simp; done) | (simp; omega) | (intro _ h; exact fcs_side h; done) | (intros; simp_all; done) | (intros; simp_all; omega)) ?_)
  refine WP.loopWk (fun q S => ∃ ts l1 l2, b = l1 ++ l2 ∧ q = l2.length ∧ ts.length + 4 * l2.length ≤ 2000 ∧ S = mkS 198 [(0, .d (slS a)), (1, .d (slS b)), (7, .d (slS s)), (9, .d (slS u)), (11, .d (slS m)), (15, .d (.v (.int .i64 l1.length))), (13, .row 500)] [(500, .row 3 1 ts.length ((iD ts).map .d))]) b.length
    (S0 := mkS 198 [(0, .d (slS a)), (1, .d (slS b)), (7, .d (slS s)), (9, .d (slS u)), (11, .d (slS m)), (15, .d (.v (.int .i64 0))), (13, .row 500)] [(500, .row 3 1 ts.length ((iD ts).map .d))]) (Wk.lessE [] (by simp) (by simp)) ⟨ts, [], b, rfl, rfl, by omega, rfl⟩ ?_
  rintro _ _ ⟨ts, l1, l2, hl12, rfl, htl, rfl⟩
  simp -dsimp
  repeat (first | refine WP.seq ?_ | refine WP.block ?_ | (refine WP.region Try.tab ?_; simp -dsimp) | (refine WP.draw Try.tab Try.mixed ?_; simp -dsimp) | refine And.intro (by first | rfl | omega | decide | (simp; done) | (simp; omega) | (intro _ h; exact fcs_side h; done) | (intros; simp_all; done) | (intros; simp_all; omega)) ?_)
  cases l2 with
  | cons x l2 =>
    have hll : b.length = l1.length + (l2.length + 1) := by rw [hl12]; simp
    simp only [List.length_cons] at htl
    have e1 : IntKind.i64.wrap ((l1.length : Int) + 1) = (l1.length : Int) + 1 := IntWalk.i64_in _ (by omega)
    have h1 := spC_at l1 x l2
    rw [← hl12] at h1
    obtain ⟨h1a, h1b⟩ := el2 h1
    refine WP.cond (b := true) (by simp; omega) (fun _ => ?_) (fun h => by cases h)
    refine WP.skip ?_
    simp -dsimp
    refine WP.seq (WP.block ?_)
    repeat (first | refine WP.seq ?_ | refine WP.block ?_ | (refine WP.region Try.tab ?_; simp -dsimp [h1, h1a, h1b]) | (refine WP.draw Try.tab Try.mixed ?_; simp -dsimp [h1, h1a, h1b]) | refine And.intro (by first | rfl | omega | decide | (simp; done) | (simp; omega) | (intro _ h; exact fcs_side h; done) | (intros; simp_all; done) | (intros; simp_all; omega)) ?_)
    refine loopW.next (mkS 198 [(0, .d (slS a)), (1, .d (slS b)), (7, .d (slS s)), (9, .d (slS u)), (11, .d (slS m)), (15, .d (.v (.int .i64 (l1 ++ [x]).length))), (13, .row 500)] [(500, .row 3 1 (ts ++ [x.1, x.2, IntKind.i64.wrap (x.1 - 1), IntKind.i64.wrap (x.2 + 1)]).length ((iD (ts ++ [x.1, x.2, IntKind.i64.wrap (x.1 - 1), IntKind.i64.wrap (x.2 + 1)])).map .d))])
      (Wk.go [134] 135 500 (by decide) (by simp) (by simp [e1]) (by simp [h1, h1a, h1b])) l2.length (by simp) ⟨ts ++ [x.1, x.2, IntKind.i64.wrap (x.1 - 1), IntKind.i64.wrap (x.2 + 1)], l1 ++ [x], l2, by simp [hl12], rfl, by simp; omega, rfl⟩
  | nil =>
  simp only [List.append_nil] at hl12
  subst hl12
  simp only [List.length_nil] at htl
  refine WP.cond (b := false) (by simp) (fun h => by cases h) (fun _ => ?_)
  refine WP.exit ?_
  simp -dsimp
  repeat (first | refine WP.seq ?_ | refine WP.block ?_ | (refine WP.region Try.tab ?_; simp -dsimp) | (refine WP.draw Try.tab Try.mixed ?_; simp -dsimp) | refine And.intro (by first | rfl | omega | decide | (simp; done) | (simp; omega) | (intro _ h; exact fcs_side h; done) | (intros; simp_all; done) | (intros; simp_all; omega)) ?_)
  refine WP.loopWk (fun q S => ∃ p1 p2, ts = p1 ++ p2 ∧ q = p2.length ∧ S = mkS 198 [(0, .d (slS a)), (1, .d (slS b)), (7, .d (slS s)), (9, .d (slS u)), (11, .d (slS m)), (13, .d (slI ts)), (16, .d (.v (.int .i64 p1.length)))] []) ts.length
    (S0 := mkS 198 [(0, .d (slS a)), (1, .d (slS b)), (7, .d (slS s)), (9, .d (slS u)), (11, .d (slS m)), (13, .d (slI ts)), (16, .d (.v (.int .i64 0)))] []) ((Wk.freeze (k := 500) (T := 3) (sz := 1) (n := ts.length) (ds := iD ts) (by simp)).trans (Wk.lessE [] (by simp) (by simp))) ⟨[], ts, rfl, rfl, rfl⟩ ?_
  rintro _ _ ⟨p1, p2, hp12, rfl, rfl⟩
  simp -dsimp
  repeat (first | refine WP.seq ?_ | refine WP.block ?_ | (refine WP.region Try.tab ?_; simp -dsimp) | (refine WP.draw Try.tab Try.mixed ?_; simp -dsimp) | refine And.intro (by first | rfl | omega | decide | (simp; done) | (simp; omega) | (intro _ h; exact fcs_side h; done) | (intros; simp_all; done) | (intros; simp_all; omega)) ?_)
  cases p2 with
  | nil =>
    simp only [List.append_nil] at hp12
    subst hp12
    refine WP.cond (b := false) (by simp) (fun h => by cases h) (fun _ => ?_)
    refine WP.exit ?_
    simp -dsimp
    repeat (first | refine WP.seq ?_ | refine WP.block ?_ | (refine WP.region Try.tab ?_; simp -dsimp) | (refine WP.draw Try.tab Try.mixed ?_; simp -dsimp) | refine And.intro (by first | rfl | omega | decide | (simp; done) | (simp; omega) | (intro _ h; exact fcs_side h; done) | (intros; simp_all; done) | (intros; simp_all; omega)) ?_)
    refine vcStop.call0 Try.body21 (lawTidy_ok s t1 k1 l1) rfl rfl (by simp) ?_
    simp -dsimp
    repeat refine And.intro (by first | rfl | omega | decide | (simp; done) | (simp; omega) | (intro _ h; exact fcs_side h; done) | (intros; simp_all; done) | (intros; simp_all; omega)) ?_
    refine vcStopG.call0 Try.body21 (fun _ => lawTidy_ok u t2 k2 l2) rfl (fun _ => rfl) (fun _ => by simp) ?_
    simp -dsimp
    repeat refine And.intro (by first | rfl | omega | decide | (simp; done) | (simp; omega) | (intro _ h; exact fcs_side h; done) | (intros; simp_all; done) | (intros; simp_all; omega)) ?_
    refine vcStopG.call0 Try.body21 (fun _ => lawTidy_ok m t3 k3 l3) rfl (fun _ => rfl) (fun _ => by simp) ?_
    simp -dsimp
    repeat refine And.intro (by first | rfl | omega | decide | (simp; done) | (simp; omega) | (intro _ h; exact fcs_side h; done) | (intros; simp_all; done) | (intros; simp_all; omega)) ?_
    repeat (first | refine WP.seq ?_ | refine WP.block ?_ | (refine WP.region Try.tab ?_; simp -dsimp) | (refine WP.draw Try.tab Try.mixed ?_; simp -dsimp) | refine And.intro (by first | rfl | omega | decide | (simp; done) | (simp; omega) | (intro _ h; exact fcs_side h; done) | (intros; simp_all; done) | (intros; simp_all; omega)) ?_)
    refine WP.ret (finQ.retE ?_)
    simp -dsimp
  | cons t p2 =>
    have hll : ts.length = p1.length + (p2.length + 1) := by rw [hp12]; simp
    have e1 : IntKind.i64.wrap ((p1.length : Int) + 1) = (p1.length : Int) + 1 := IntWalk.i64_in _ (by omega)
    have h1 := iD_at p1 t p2
    rw [← hp12] at h1
    have h1a : (iD ts)[p1.length]?.getD .any = .v (.int .i64 t) := by
      have h0 : ((iD ts).drop p1.length)[0]? = some (.v (.int .i64 t)) := by rw [h1]; rfl
      rw [List.getElem?_drop, Nat.add_zero] at h0
      rw [h0]; rfl
    have i1 := in_ok a t
    have i2 := in_ok b t
    have i3 := in_ok s t
    have i4 := in_ok u t
    have i5 := in_ok m t
    rw [any_eq (b := a.any (inS t)) ((m1 t).trans (any_mem a t).symm)] at i3
    rw [any_eq (b := a.any (inS t) || b.any (inS t)) ((m2 t).trans (by rw [Bool.or_eq_true, any_mem, any_mem]))] at i4
    rw [any_eq (b := a.any (inS t) && b.any (inS t)) ((m3 t).trans (by rw [Bool.and_eq_true, any_mem, any_mem]))] at i5
    generalize a.any (inS t) = pa at i1 i3 i4 i5
    generalize b.any (inS t) = pb at i2 i4 i5
    refine WP.cond (b := true) (by simp; omega) (fun _ => ?_) (fun h => by cases h)
    refine WP.skip ?_
    simp -dsimp
    refine WP.seq (WP.block ?_)
    repeat (first | refine WP.seq ?_ | refine WP.block ?_ | (refine WP.region Try.tab ?_; simp -dsimp [h1, h1a]) | (refine WP.draw Try.tab Try.mixed ?_; simp -dsimp [h1, h1a]) | refine And.intro (by first | rfl | omega | decide | (simp; done) | (simp; omega) | (intro _ h; exact fcs_side h; done) | (intros; simp_all; done) | (intros; simp_all; omega)) ?_)
    refine vcStop.call0 Try.body20 i1 rfl rfl (by simp [h1, h1a]) ?_
    simp -dsimp [h1, h1a]
    repeat refine And.intro (by first | rfl | omega | decide | (simp; done) | (simp; omega) | (intro _ h; exact fcs_side h; done) | (intros; simp_all; done) | (intros; simp_all; omega)) ?_
    refine vcStop.call0 Try.body20 i2 rfl rfl (by simp [h1, h1a]) ?_
    simp -dsimp [h1, h1a]
    repeat (first | refine WP.seq ?_ | refine WP.block ?_ | (refine WP.region Try.tab ?_; simp -dsimp [h1, h1a]) | (refine WP.draw Try.tab Try.mixed ?_; simp -dsimp [h1, h1a]) | refine And.intro (by first | rfl | omega | decide | (simp; done) | (simp; omega) | (intro _ h; exact fcs_side h; done) | (intros; simp_all; done) | (intros; simp_all; omega)) ?_)
    refine vcStop.call0 Try.body20 i3 rfl rfl (by simp [h1, h1a]) ?_
    simp -dsimp [h1, h1a]
    repeat refine And.intro (by first | rfl | omega | decide | (simp; done) | (simp; omega) | (intro _ h; exact fcs_side h; done) | (intros; simp_all; done) | (intros; simp_all; omega)) ?_
    refine vcStopG.call0 Try.body20 (fun _ => i4) rfl (fun _ => rfl) (fun _ => by simp [h1, h1a]) ?_
    simp -dsimp [h1, h1a]
    repeat refine And.intro (by first | rfl | omega | decide | (simp; done) | (simp; omega) | (intro _ h; exact fcs_side h; done) | (intros; simp_all; done) | (intros; simp_all; omega)) ?_
    cases pa <;> cases pb
    all_goals
      simp -dsimp [h1, h1a]
      repeat refine And.intro (by first | rfl | omega | decide | (simp; done) | (simp; omega) | (intro _ h; exact fcs_side h; done) | (intros; simp_all; done) | (intros; simp_all; omega)) ?_
      refine vcStopG.call0 Try.body20 (fun _ => i5) rfl (fun _ => rfl) (fun _ => by simp [h1, h1a]) ?_
      simp -dsimp [h1, h1a]
      repeat (first | refine WP.seq ?_ | refine WP.block ?_ | (refine WP.region Try.tab ?_; simp -dsimp) | (refine WP.draw Try.tab Try.mixed ?_; simp -dsimp) | refine And.intro (by first | rfl | omega | decide | (simp; done) | (simp; omega) | (intro _ h; exact fcs_side h; done) | (intros; simp_all; done) | (intros; simp_all; omega)) ?_)
      refine WP.cond (b := false) (by simp) (fun h => by cases h) (fun _ => ?_)
      refine WP.skip ?_
      simp -dsimp
      repeat (first | refine WP.seq ?_ | refine WP.block ?_ | (refine WP.region Try.tab ?_; simp -dsimp) | (refine WP.draw Try.tab Try.mixed ?_; simp -dsimp) | refine And.intro (by first | rfl | omega | decide | (simp; done) | (simp; omega) | (intro _ h; exact fcs_side h; done) | (intros; simp_all; done) | (intros; simp_all; omega)) ?_)
      refine loopW.next (mkS 198 [(0, .d (slS a)), (1, .d (slS b)), (7, .d (slS s)), (9, .d (slS u)), (11, .d (slS m)), (13, .d (slI ts)), (16, .d (.v (.int .i64 (p1 ++ [t]).length)))] []) (Wk.lessE [] (by simp [e1]) (by simp)) p2.length (by simp) ⟨p1 ++ [t], p2, by simp [hp12], rfl, rfl⟩
end Go.Proofs.Ytphbappgmoojeaa
