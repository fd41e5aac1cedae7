/-
  More of what Set, Union, Meet, Add answer; is a list tidy?
-/
import Derived.Test.YtphbappgmoojeaaKIc
set_option linter.unusedSectionVars false
set_option linter.unusedSimpArgs false
set_option linter.unusedVariables false
namespace Go.Proofs.Ytphbappgmoojeaa
open Go.Xe Go.RowKit

theorem any_mem (l : List Sp) (t : Int) : l.any (inS t) = true ↔ memS t l := by
  rw [List.any_eq_true]
  constructor
  · rintro ⟨s, hs, h⟩
    simp only [inS, Bool.and_eq_true, decide_eq_true_eq] at h
    exact ⟨s, hs, h⟩
  · rintro ⟨s, hs, h⟩
    exact ⟨s, hs, by simp only [inS, Bool.and_eq_true, decide_eq_true_eq]; exact h⟩
theorem any_eq {l : List Sp} {t : Int} {b : Bool} (h : memS t l ↔ b = true) : l.any (inS t) = b := by rw [Bool.eq_iff_iff, any_mem, h]
/-- Short lists: no limit is met. -/
theorem union_few {a b : List Sp} (ha : a.length ≤ 100) (hb : b.length ≤ 100) : unionR a b = if chkLs [a, b] = 0 then (tidyR (a ++ b), 0) else ([], chkLs [a, b]) := by
  have := tidyR_len (a ++ b)
  rw [List.length_append] at this
  rw [unionR, bothR]
  split
  · rw [limL, if_neg (by omega)]
  · rfl
theorem meet_few {a b : List Sp} (ha : a.length ≤ 100) (hb : b.length ≤ 100) : meetR a b = if chkLs [a, b] = 0 then (tidyR (cuts a b), 0) else ([], chkLs [a, b]) := by
  rw [meetR, bothR]
  split
  · rename_i h
    obtain ⟨⟨_, a2⟩, _, b2⟩ := chk2_zero h
    have hm := meet_same (ok_le a2) (ok_le b2)
    have h1 := meetL_len _ (tidyR a) (tidyR b) (Nat.le_refl _)
    have h2 := tidyR_len a
    have h3 := tidyR_len b
    rw [← hm, limL, if_neg (by omega)]
  · rfl
theorem chk_first {a b : List Sp} (h : chkLs [a, b] = 0) : chkL a = 0 := chkL_zero.2 (chk2_zero h).1

theorem el2 {L : List D} {n : Nat} {p q : D} (h : (L.drop n).take 2 = [p, q]) : L[n]?.getD .any = p ∧ L[n + 1]?.getD .any = q := by
  have h0 : ((L.drop n).take 2)[0]? = some p := by rw [h]; rfl
  have h1 : ((L.drop n).take 2)[1]? = some q := by rw [h]; rfl
  rw [List.getElem?_take_of_lt (by omega), List.getElem?_drop] at h0 h1
  rw [Nat.add_zero] at h0
  exact ⟨by rw [h0]; rfl, by rw [h1]; rfl⟩
set_option maxRecDepth 10000 in
set_option maxHeartbeats 4000000 in
theorem lawTidy_ok (l : List Sp) (ht : TidyL l) (hok : ∀ s ∈ l, okS s = true) (hl : l.length ≤ 4096) : Fn0 Try.prog 21 [slS l] (.v (.bool true)) := by
  refine Fun.of_wp (pn := noPn) Try.tab Try.func21 rfl fun β0 => ?_
  simp only [Try.f21]
  repeat (first | refine WP.seq ?_ | refine WP.block ?_ | (refine WP.region Try.tab ?_; simp -dsimp) | (refine WP.draw Try.tab Try.mixed ?_; simp -dsimp) | refine And.intro (by first | rfl | omega | decide | (simp; done) | (simp; omega) | (intro _ h; exact fcs_side h; done) | (intros; simp_all; done) | (intros; simp_all; omega)) ?_)
  refine WP.loopWk (fun m S => ∃ l1 l2, l = l1 ++ l2 ∧ m = l2.length ∧ S = mkS 38 [(0, .d (slS l)), (3, .d (.v (.int .i64 l1.length)))] []) l.length
    (S0 := mkS 38 [(0, .d (slS l)), (3, .d (.v (.int .i64 0)))] []) (Wk.lessE [] (by simp) (by simp)) ⟨[], l, rfl, rfl, rfl⟩ ?_
  rintro _ _ ⟨l1, l2, hl12, rfl, rfl⟩
  simp -dsimp
  repeat (first | refine WP.seq ?_ | refine WP.block ?_ | (refine WP.region Try.tab ?_; simp -dsimp) | (refine WP.draw Try.tab Try.mixed ?_; simp -dsimp) | refine And.intro (by first | rfl | omega | decide | (simp; done) | (simp; omega) | (intro _ h; exact fcs_side h; done) | (intros; simp_all; done) | (intros; simp_all; omega)) ?_)
  cases l2 with
  | nil =>
    simp only [List.append_nil] at hl12
    subst hl12
    refine WP.cond (b := false) (by simp) (fun h => by cases h) (fun _ => ?_)
    refine WP.exit ?_
    simp -dsimp
    repeat (first | refine WP.seq ?_ | refine WP.block ?_ | (refine WP.region Try.tab ?_; simp -dsimp) | (refine WP.draw Try.tab Try.mixed ?_; simp -dsimp) | refine And.intro (by first | rfl | omega | decide | (simp; done) | (simp; omega) | (intro _ h; exact fcs_side h; done) | (intros; simp_all; done) | (intros; simp_all; omega)) ?_)
    have e : decide ((l.length : Int) ≤ 4096) = true := by rw [decide_eq_true_eq]; omega
    refine WP.ret (finQ.retE ?_)
    simp -dsimp [e]
  | cons x l2 =>
    have hll : l.length = l1.length + (l2.length + 1) := by rw [hl12]; simp
    have hx : okS x = true := hok x (by rw [hl12]; simp)
    have hc := check_ok x
    rw [show chkS x = 0 by rw [chkS, if_pos hx]] at hc
    have e1 : IntKind.i64.wrap ((l1.length : Int) + 1) = (l1.length : Int) + 1 := IntWalk.i64_in _ (by omega)
    have h1 := spC_at l1 x l2
    rw [← hl12] at h1
    refine WP.cond (b := true) (by simp; omega) (fun _ => ?_) (fun h => by cases h)
    refine WP.skip ?_
    simp -dsimp
    refine WP.seq (WP.block ?_)
    rcases snocC l1 with rfl | ⟨o, c, rfl⟩
    · simp only [List.nil_append] at hl12
      subst hl12
      simp only [List.length_nil, Nat.zero_mul, List.drop_zero] at h1
      have e2 : IntKind.i64.wrap (-1) = -1 := by decide
      repeat (first | refine WP.seq ?_ | refine WP.block ?_ | (refine WP.region Try.tab ?_; simp -dsimp [h1]) | (refine WP.draw Try.tab Try.mixed ?_; simp -dsimp [h1]) | refine And.intro (by first | rfl | omega | decide | (simp; done) | (simp; omega) | (intro _ h; exact fcs_side h; done) | (intros; simp_all; done) | (intros; simp_all; omega)) ?_)
      refine vcStop.call0 Try.body29 hc rfl rfl (by simp [h1]) ?_
      simp -dsimp [e2]
      repeat (first | refine WP.seq ?_ | refine WP.block ?_ | (refine WP.region Try.tab ?_; simp -dsimp [e2, h1]) | (refine WP.draw Try.tab Try.mixed ?_; simp -dsimp [e2, h1]) | refine And.intro (by first | rfl | omega | decide | (simp; done) | (simp; omega) | (intro _ h; exact fcs_side h; done) | (intros; simp_all; done) | (intros; simp_all; omega)) ?_)
      refine WP.cond (b := false) (by simp) (fun h => by cases h) (fun _ => ?_)
      refine WP.skip ?_
      simp -dsimp
      repeat (first | refine WP.seq ?_ | refine WP.block ?_ | (refine WP.region Try.tab ?_; simp -dsimp) | (refine WP.draw Try.tab Try.mixed ?_; simp -dsimp) | refine And.intro (by first | rfl | omega | decide | (simp; done) | (simp; omega) | (intro _ h; exact fcs_side h; done) | (intros; simp_all; done) | (intros; simp_all; omega)) ?_)
      refine loopW.next (mkS 38 [(0, .d (slS (x :: l2))), (3, .d (.v (.int .i64 ([] ++ [x] : List Sp).length)))] []) (Wk.lessE [] (by simp [show IntKind.i64.wrap 1 = 1 by decide]) (by simp)) l2.length (by simp) ⟨[] ++ [x], l2, rfl, rfl, rfl⟩
    · have hcx : c.2 + 1 < x.1 := by
        have : TidyL (c :: x :: l2) := by
          have gen : ∀ o : List Sp, TidyL (o ++ (c :: x :: l2)) → TidyL (c :: x :: l2) := by
            intro o
            induction o with
            | nil => exact fun h => h
            | cons y o ih => exact fun h => ih (TidyL.tail h)
          exact gen o (by rw [hl12] at ht; simpa using ht)
        exact this.2.1
      have h2 := spC_at o c (x :: l2)
      have hl12' : l = o ++ c :: x :: l2 := by rw [hl12]; simp
      rw [← hl12'] at h2
      have hcs : okS c = true := hok c (by rw [hl12]; simp)
      obtain ⟨_, q1, q2, q3⟩ := okS_isS hcs
      have e3 : IntKind.i64.wrap (c.2 + 1) = c.2 + 1 := IntWalk.i64_in _ (by omega)
      have hol : (o ++ [c]).length = o.length + 1 := by simp
      have e4 : IntKind.i64.wrap ((o.length : Int) + 1 - 1) = (o.length : Int) := by rw [IntWalk.i64_in _ (by omega)]; omega
      have e6 : IntKind.i64.wrap (o.length : Int) = (o.length : Int) := IntWalk.i64_in _ (by omega)
      rw [hol] at h1
      have e5 : ¬ x.1 ≤ c.2 + 1 := by omega
      have e7 : IntKind.i64.wrap ((o.length : Int) + 1 + 1) = (o.length : Int) + 2 := by rw [IntWalk.i64_in _ (by omega)]; omega
      obtain ⟨h1a, h1b⟩ := el2 h1
      obtain ⟨h2a, h2b⟩ := el2 h2
      repeat (first | refine WP.seq ?_ | refine WP.block ?_ | (refine WP.region Try.tab ?_; simp -dsimp [h1]) | (refine WP.draw Try.tab Try.mixed ?_; simp -dsimp [h1]) | refine And.intro (by first | rfl | omega | decide | (simp; done) | (simp; omega) | (intro _ h; exact fcs_side h; done) | (intros; simp_all; done) | (intros; simp_all; omega)) ?_)
      refine vcStop.call0 Try.body29 hc rfl rfl (by simp [h1]) ?_
      simp -dsimp [h1, h2, e3, e4, e6, h1a, h1b, h2a, h2b]
      repeat (first | refine WP.seq ?_ | refine WP.block ?_ | (refine WP.region Try.tab ?_; simp -dsimp [h1, h2, e3, e4, e6, h1a, h1b, h2a, h2b]) | (refine WP.draw Try.tab Try.mixed ?_; simp -dsimp [h1, h2, e3, e4, e6, h1a, h1b, h2a, h2b]) | refine And.intro (by first | rfl | omega | decide | (simp; done) | (simp; omega) | (intro _ h; exact fcs_side h; done) | (intros; simp_all; done) | (intros; simp_all; omega)) ?_)
      refine WP.cond (b := false) (by simp [h1, h2, e3, e4, e5]) (fun h => by cases h) (fun _ => ?_)
      refine WP.skip ?_
      simp -dsimp
      repeat (first | refine WP.seq ?_ | refine WP.block ?_ | (refine WP.region Try.tab ?_; simp -dsimp) | (refine WP.draw Try.tab Try.mixed ?_; simp -dsimp) | refine And.intro (by first | rfl | omega | decide | (simp; done) | (simp; omega) | (intro _ h; exact fcs_side h; done) | (intros; simp_all; done) | (intros; simp_all; omega)) ?_)
      refine loopW.next (mkS 38 [(0, .d (slS l)), (3, .d (.v (.int .i64 (o ++ [c] ++ [x]).length)))] []) (Wk.lessE [] (by simp [e7]) (by simp)) l2.length (by simp) ⟨o ++ [c] ++ [x], l2, by simp [hl12], rfl, rfl⟩
end Go.Proofs.Ytphbappgmoojeaa
