/-
  Spans: Shift.
-/
import Derived.Test.YtphbappgmoojeaaKHl
set_option linter.unusedSectionVars false
set_option linter.unusedSimpArgs false
set_option linter.unusedVariables false
namespace Go.Proofs.Ytphbappgmoojeaa
open Go.Xe Go.RowKit

def shS (by_ : Int) (s : Sp) : Sp := (s.1 + by_, s.2 + by_)
def okBy (by_ : Int) : Bool := decide (-140737488355328 ≤ by_) && decide (by_ ≤ 140737488355328)
def shiftR (a : List Sp) (by_ : Int) : List Sp × Int :=
  if chkL a = 0 then (if a = [] then ([], 0) else if okBy by_ = true then (if (((tidyR a).map (shS by_)).all okS) = true then ((tidyR a).map (shS by_), 0) else ([], 10)) else ([], 10)) else ([], chkL a)
theorem withS_ne : ∀ (l : List Sp) (s : Sp), withS l s ≠ []
  | [], s => by simp [withS]
  | x :: l, s => by
    rw [withS]
    split
    · simp
    · split
      · simp
      · exact withS_ne l _
theorem tidyR_ne {a : List Sp} (h : a ≠ []) : tidyR a ≠ [] := by
  rcases snocC a with rfl | ⟨o, c, rfl⟩
  · exact absurd rfl h
  · rw [tidyR_snoc]; exact withS_ne _ _
theorem okBy_bool (x : Int) : (decide (x < -140737488355328) || decide (140737488355328 < x)) = !okBy x := by
  unfold okBy
  rw [Bool.eq_iff_iff]
  simp
theorem sh_wrap {s : Sp} {x : Int} (hs : okS s = true) (hx : okBy x = true) : IntKind.i64.wrap (s.1 + x) = s.1 + x ∧ IntKind.i64.wrap (s.2 + x) = s.2 + x := by
  simp only [okS, okBy, Bool.and_eq_true, decide_eq_true_eq] at *
  exact ⟨IntWalk.i64_in _ (by omega), IntWalk.i64_in _ (by omega)⟩
theorem chkS_bool2 (s : Sp) : decide (chkS s = 0) = okS s := by rw [chkS]; cases okS s <;> simp
set_option maxRecDepth 10000 in
set_option maxHeartbeats 4000000 in
theorem shift_ok (a : List Sp) (x : Int) : Fn0 Try.prog 15 [slS a, .v (.int .i64 x)] (resD (shiftR a x)) := by
  refine Fun.of_wp (pn := noPn) Try.tab Try.func15 rfl fun β0 => ?_
  simp only [Try.f15]
  refine WP.len (.tmp 0) rfl fun hl => ?_
  have hm : maxLen = 9223372036854775807 := rfl
  rw [hm] at hl
  repeat (first | refine WP.seq ?_ | refine WP.block ?_ | (refine WP.region Try.tab ?_; simp -dsimp) | (refine WP.draw Try.tab Try.mixed ?_; simp -dsimp) | refine And.intro (by first | rfl | omega | decide | (simp; done) | (simp; omega) | (intro _ h; exact fcs_side h; done) | (intros; simp_all; done)) ?_)
  refine vcStop.call Try.body32 (check1_ok a) (rl [(1000, 9)]) rfl rfl (by simp [BoxLeq]) (CallOk.of (by simp [BoxLeq]) rfl (by first | rfl | (simp [BoxLeq]; done)) (by simp [BoxLeq]) (by simp [BoxLeq])) (fun _ h => h.elim) (fun ⟨_, h⟩ => h.elim) (fun ⟨_, h⟩ => h.elim) (by simp [BoxLeq]) ?_
  simp -dsimp
  repeat (first | refine WP.seq ?_ | refine WP.block ?_ | (refine WP.region Try.tab ?_; simp -dsimp) | (refine WP.draw Try.tab Try.mixed ?_; simp -dsimp) | refine And.intro (by first | rfl | omega | decide | (simp; done) | (simp; omega) | (intro _ h; exact fcs_side h; done) | (intros; simp_all; done)) ?_)
  cases h0 : decide (chkL a = 0)
  · have hb : ¬ chkL a = 0 := of_decide_eq_false h0
    simp -dsimp [h0]
    repeat (first | refine WP.seq ?_ | refine WP.block ?_ | (refine WP.region Try.tab ?_; simp -dsimp) | (refine WP.draw Try.tab Try.mixed ?_; simp -dsimp) | refine And.intro (by first | rfl | omega | decide | (simp; done) | (simp; omega) | (intro _ h; exact fcs_side h; done) | (intros; simp_all; done)) ?_)
    refine WP.cond (b := true) (by simp) (fun _ => ?_) (fun h => by cases h)
    repeat (first | refine WP.seq ?_ | refine WP.block ?_ | (refine WP.region Try.tab ?_; simp -dsimp) | (refine WP.draw Try.tab Try.mixed ?_; simp -dsimp) | refine And.intro (by first | rfl | omega | decide | (simp; done) | (simp; omega) | (intro _ h; exact fcs_side h; done) | (intros; simp_all; done)) ?_)
    refine WP.ret (finQ.retE ?_)
    simp -dsimp [shiftR, hb]
  have hb : chkL a = 0 := of_decide_eq_true h0
  simp -dsimp [h0]
  repeat (first | refine WP.seq ?_ | refine WP.block ?_ | (refine WP.region Try.tab ?_; simp -dsimp) | (refine WP.draw Try.tab Try.mixed ?_; simp -dsimp) | refine And.intro (by first | rfl | omega | decide | (simp; done) | (simp; omega) | (intro _ h; exact fcs_side h; done) | (intros; simp_all; done)) ?_)
  refine WP.cond (b := decide (a = [])) (by cases a <;> simp) (fun hn => ?_) (fun hn => ?_)
  · have hn := of_decide_eq_true hn
    subst hn
    repeat (first | refine WP.seq ?_ | refine WP.block ?_ | (refine WP.region Try.tab ?_; simp -dsimp) | (refine WP.draw Try.tab Try.mixed ?_; simp -dsimp) | refine And.intro (by first | rfl | omega | decide | (simp; done) | (simp; omega) | (intro _ h; exact fcs_side h; done) | (intros; simp_all; done)) ?_)
    refine WP.ret (finQ.retE ?_)
    simp -dsimp [shiftR, hb]
  have hn := of_decide_eq_false hn
  refine WP.skip ?_
  simp -dsimp
  repeat (first | refine WP.seq ?_ | refine WP.block ?_ | (refine WP.region Try.tab ?_; simp -dsimp) | (refine WP.draw Try.tab Try.mixed ?_; simp -dsimp) | refine And.intro (by first | rfl | omega | decide | (simp; done) | (simp; omega) | (intro _ h; exact fcs_side h; done) | (intros; simp_all; done)) ?_)
  refine WP.cond (b := !okBy x) (by simp; rw [← okBy_bool]) (fun ho => ?_) (fun ho => ?_)
  · have ho : okBy x = false := by simpa using ho
    repeat (first | refine WP.seq ?_ | refine WP.block ?_ | (refine WP.region Try.tab ?_; simp -dsimp) | (refine WP.draw Try.tab Try.mixed ?_; simp -dsimp) | refine And.intro (by first | rfl | omega | decide | (simp; done) | (simp; omega) | (intro _ h; exact fcs_side h; done) | (intros; simp_all; done)) ?_)
    refine WP.ret (finQ.retE ?_)
    simp -dsimp [shiftR, hb, hn, ho]
  have ho : okBy x = true := by simpa using ho
  refine WP.skip ?_
  simp -dsimp
  repeat (first | refine WP.seq ?_ | refine WP.block ?_ | (refine WP.region Try.tab ?_; simp -dsimp) | (refine WP.draw Try.tab Try.mixed ?_; simp -dsimp) | refine And.intro (by first | rfl | omega | decide | (simp; done) | (simp; omega) | (intro _ h; exact fcs_side h; done) | (intros; simp_all; done)) ?_)
  obtain ⟨a1, a2⟩ := chkL_zero.1 hb
  have hT := tidyR_okS a2
  have hTl := tidyR_len a
  refine vcStop.call0 Try.body33 (tidy_ok a (by omega) a2) rfl rfl (by simp) ?_
  simp -dsimp
  repeat (first | refine WP.seq ?_ | refine WP.block ?_ | (refine WP.region Try.tab ?_; simp -dsimp) | (refine WP.draw Try.tab Try.mixed ?_; simp -dsimp) | refine And.intro (by first | rfl | omega | decide | (simp; done) | (simp; omega) | (intro _ h; exact fcs_side h; done) | (intros; simp_all; done)) ?_)
  generalize hy : tidyR a = y at hT hTl
  refine WP.loopWk (fun m S => ∃ l1 l2, y = l1 ++ l2 ∧ m = l2.length ∧ (l1.map (shS x)).all okS = true ∧ S = mkS 53 [(1, .d (.v (.int .i64 x))), (4, .row 500), (26, .d (slS y)), (27, .d (.v (.int .i64 y.length))), (28, .d (.v (.int .i64 l1.length)))] [(500, .row 37 2 l1.length ((spC (l1.map (shS x))).map .d))]) y.length
    (S0 := mkS 53 [(1, .d (.v (.int .i64 x))), (4, .row 500), (26, .d (slS y)), (27, .d (.v (.int .i64 y.length))), (28, .d (.v (.int .i64 0)))] [(500, .row 37 2 0 [])])
    ((Wk.nilSlot 4 500 37 2 (by simp) (by simp)).trans (Wk.lessE [] (by simp) (by simp))) ⟨[], y, rfl, rfl, rfl, rfl⟩ ?_
  rintro _ _ ⟨l1, l2, hl12, rfl, hall, rfl⟩
  simp -dsimp
  repeat (first | refine WP.seq ?_ | refine WP.block ?_ | (refine WP.region Try.tab ?_; simp -dsimp) | (refine WP.draw Try.tab Try.mixed ?_; simp -dsimp) | refine And.intro (by first | rfl | omega | decide | (simp; done) | (simp; omega) | (intro _ h; exact fcs_side h; done) | (intros; simp_all; done)) ?_)
  cases l2 with
  | nil =>
    simp only [List.append_nil] at hl12
    subst hl12
    refine WP.cond (b := false) (by simp) (fun h => by cases h) (fun _ => ?_)
    refine WP.exit ?_
    simp -dsimp
    repeat (first | refine WP.seq ?_ | refine WP.block ?_ | (refine WP.region Try.tab ?_; simp -dsimp) | (refine WP.draw Try.tab Try.mixed ?_; simp -dsimp) | refine And.intro (by first | rfl | omega | decide | (simp; done) | (simp; omega) | (intro _ h; exact fcs_side h; done) | (intros; simp_all; done)) ?_)
    refine WP.ret (finQ.retWE (Wk.freeze (k := 500) (T := 37) (sz := 2) (n := y.length) (ds := spC (y.map (shS x))) (by simp)) ?_)
    simp -dsimp [shiftR, hb, hn, ho, hy, hall]
  | cons s l2 =>
    have hll : y.length = l1.length + (l2.length + 1) := by rw [hl12]; simp
    have hs : okS s = true := hT s (by rw [hl12]; simp)
    obtain ⟨w1, w2⟩ := sh_wrap hs ho
    have e1 : IntKind.i64.wrap ((l1.length : Int) + 1) = (l1.length : Int) + 1 := IntWalk.i64_in _ (by omega)
    have h1 := spC_at l1 s l2
    rw [← hl12] at h1
    refine WP.cond (b := true) (by simp; omega) (fun _ => ?_) (fun h => by cases h)
    refine WP.skip ?_
    simp -dsimp
    refine WP.seq (WP.block ?_)
    repeat (first | refine WP.seq ?_ | refine WP.block ?_ | (refine WP.region Try.tab ?_; simp -dsimp [h1, w1, w2]) | (refine WP.draw Try.tab Try.mixed ?_; simp -dsimp [h1, w1, w2]) | refine And.intro (by first | rfl | omega | decide | (simp; done) | (simp; omega) | (intro _ h; exact fcs_side h; done) | (intros; simp_all; done)) ?_)
    refine vcStop.call0 Try.body29 (check_ok (shS x s)) rfl rfl (by simp [shS, w1, w2]) ?_
    simp -dsimp
    repeat (first | refine WP.seq ?_ | refine WP.block ?_ | (refine WP.region Try.tab ?_; simp -dsimp) | (refine WP.draw Try.tab Try.mixed ?_; simp -dsimp) | refine And.intro (by first | rfl | omega | decide | (simp; done) | (simp; omega) | (intro _ h; exact fcs_side h; done) | (intros; simp_all; done)) ?_)
    refine WP.cond (b := !okS (shS x s)) (by simp [chkS_bool2]) (fun hb2 => ?_) (fun hb2 => ?_)
    · have hb2 : okS (shS x s) = false := by simpa using hb2
      have he : ((y.map (shS x)).all okS) = false := by rw [hl12]; simp [hb2]
      repeat (first | refine WP.seq ?_ | refine WP.block ?_ | (refine WP.region Try.tab ?_; simp -dsimp) | (refine WP.draw Try.tab Try.mixed ?_; simp -dsimp) | refine And.intro (by first | rfl | omega | decide | (simp; done) | (simp; omega) | (intro _ h; exact fcs_side h; done) | (intros; simp_all; done)) ?_)
      refine WP.ret (finQ.retE ?_)
      simp -dsimp [shiftR, hb, hn, ho, hy, he, chkS, hb2]
    · have hb2 : okS (shS x s) = true := by simpa using hb2
      refine WP.skip ?_
      simp -dsimp
      repeat (first | refine WP.seq ?_ | refine WP.block ?_ | (refine WP.region Try.tab ?_; simp -dsimp [h1, w1, w2]) | (refine WP.draw Try.tab Try.mixed ?_; simp -dsimp [h1, w1, w2]) | refine And.intro (by first | rfl | omega | decide | (simp; done) | (simp; omega) | (intro _ h; exact fcs_side h; done) | (intros; simp_all; done)) ?_)
      refine loopW.next (mkS 53 [(1, .d (.v (.int .i64 x))), (4, .row 500), (26, .d (slS y)), (27, .d (.v (.int .i64 y.length))), (28, .d (.v (.int .i64 (l1 ++ [s]).length)))] [(500, .row 37 2 (l1 ++ [s]).length ((spC ((l1 ++ [s]).map (shS x))).map .d))])
        (Wk.go [7, 49] 50 500 (by decide) (by simp) (by simp [e1]) (by simp [shS, w1, w2])) l2.length (by simp) ⟨l1 ++ [s], l2, by simp [hl12], rfl, by rw [List.map_append, List.all_append, hall]; simp [hb2], rfl⟩
set_option maxRecDepth 10000 in
set_option maxHeartbeats 4000000 in
theorem refShift_ok (a : List Sp) (x : Int) : Fn0 Try.prog 16 [slS a, .v (.int .i64 x)] (resD (shiftR a x)) := by
  refine Fun.of_wp (pn := noPn) Try.tab Try.func16 rfl fun β0 => ?_
  simp only [Try.f16]
  repeat (first | refine WP.seq ?_ | refine WP.block ?_ | (refine WP.region Try.tab ?_; simp -dsimp) | (refine WP.draw Try.tab Try.mixed ?_; simp -dsimp) | refine And.intro (by first | rfl | omega | decide | (simp; done) | (simp; omega) | (intro _ h; exact fcs_side h; done) | (intros; simp_all; done)) ?_)
  refine vcStop.call0 Try.body40 (valid_ok a) rfl rfl (by simp) ?_
  simp -dsimp
  repeat (first | refine WP.seq ?_ | refine WP.block ?_ | (refine WP.region Try.tab ?_; simp -dsimp) | (refine WP.draw Try.tab Try.mixed ?_; simp -dsimp) | refine And.intro (by first | rfl | omega | decide | (simp; done) | (simp; omega) | (intro _ h; exact fcs_side h; done) | (intros; simp_all; done)) ?_)
  refine WP.cond (b := !decide (chkL a = 0)) (by simp) (fun hb => ?_) (fun hb => ?_)
  · have hb : ¬ chkL a = 0 := by simpa using hb
    repeat (first | refine WP.seq ?_ | refine WP.block ?_ | (refine WP.region Try.tab ?_; simp -dsimp) | (refine WP.draw Try.tab Try.mixed ?_; simp -dsimp) | refine And.intro (by first | rfl | omega | decide | (simp; done) | (simp; omega) | (intro _ h; exact fcs_side h; done) | (intros; simp_all; done)) ?_)
    refine WP.ret (finQ.retE ?_)
    simp -dsimp [shiftR, hb]
  have hb : chkL a = 0 := by simpa using hb
  refine WP.skip ?_
  simp -dsimp
  repeat (first | refine WP.seq ?_ | refine WP.block ?_ | (refine WP.region Try.tab ?_; simp -dsimp) | (refine WP.draw Try.tab Try.mixed ?_; simp -dsimp) | refine And.intro (by first | rfl | omega | decide | (simp; done) | (simp; omega) | (intro _ h; exact fcs_side h; done) | (intros; simp_all; done)) ?_)
  obtain ⟨a1, a2⟩ := chkL_zero.1 hb
  have hT := tidyR_okS a2
  have hTl := tidyR_len a
  have hne : tidyR a = [] ↔ a = [] := ⟨fun h => by
    rcases snocC a with h2 | ⟨o, c, h2⟩
    · exact h2
    · exact absurd h (tidyR_ne (by rw [h2]; simp)), fun h => by rw [h]; rfl⟩
  refine vcStop.call0 Try.body37 (refTidy_ok a (by omega) a2) rfl rfl (by simp) ?_
  simp -dsimp
  repeat (first | refine WP.seq ?_ | refine WP.block ?_ | (refine WP.region Try.tab ?_; simp -dsimp) | (refine WP.draw Try.tab Try.mixed ?_; simp -dsimp) | refine And.intro (by first | rfl | omega | decide | (simp; done) | (simp; omega) | (intro _ h; exact fcs_side h; done) | (intros; simp_all; done)) ?_)
  generalize hy : tidyR a = y at hT hTl hne
  refine WP.loopWk (fun m S => ∃ l1 l2, y = l1 ++ l2 ∧ m = l2.length ∧ (l1.map (shS x)).all okS = true ∧ (l1 ≠ [] → okBy x = true) ∧ S = mkS 54 [(1, .d (.v (.int .i64 x))), (7, .d (slS y)), (8, .row 500), (9, .d (.v (.int .i64 l1.length)))] [(500, .row 37 2 l1.length ((spC (l1.map (shS x))).map .d))]) y.length
    (S0 := mkS 54 [(1, .d (.v (.int .i64 x))), (7, .d (slS y)), (8, .row 500), (9, .d (.v (.int .i64 0)))] [(500, .row 37 2 0 [])])
    (Wk.go [] 18 500 (by decide) (by simp) (by simp) (by simp)) ⟨[], y, rfl, rfl, rfl, fun h => absurd rfl h, rfl⟩ ?_
  rintro _ _ ⟨l1, l2, hl12, rfl, hall, hby, rfl⟩
  simp -dsimp
  repeat (first | refine WP.seq ?_ | refine WP.block ?_ | (refine WP.region Try.tab ?_; simp -dsimp) | (refine WP.draw Try.tab Try.mixed ?_; simp -dsimp) | refine And.intro (by first | rfl | omega | decide | (simp; done) | (simp; omega) | (intro _ h; exact fcs_side h; done) | (intros; simp_all; done)) ?_)
  cases l2 with
  | nil =>
    simp only [List.append_nil] at hl12
    subst hl12
    refine WP.cond (b := false) (by simp) (fun h => by cases h) (fun _ => ?_)
    refine WP.exit ?_
    simp -dsimp
    repeat (first | refine WP.seq ?_ | refine WP.block ?_ | (refine WP.region Try.tab ?_; simp -dsimp) | (refine WP.draw Try.tab Try.mixed ?_; simp -dsimp) | refine And.intro (by first | rfl | omega | decide | (simp; done) | (simp; omega) | (intro _ h; exact fcs_side h; done) | (intros; simp_all; done)) ?_)
    refine WP.ret (finQ.retWE (Wk.freeze (k := 500) (T := 37) (sz := 2) (n := y.length) (ds := spC (y.map (shS x))) (by simp)) ?_)
    by_cases hn : a = []
    · have := hne.2 hn
      subst this
      subst hn
      simp -dsimp [shiftR, show chkL [] = 0 from rfl]
    · simp -dsimp [shiftR, hb, hn, hby (fun h => hn (hne.1 h)), hy, hall]
  | cons s l2 =>
    have hll : y.length = l1.length + (l2.length + 1) := by rw [hl12]; simp
    have hn : ¬ a = [] := fun h => by have := hne.2 h; rw [this] at hl12; simp at hl12
    have hs : okS s = true := hT s (by rw [hl12]; simp)
    have e1 : IntKind.i64.wrap ((l1.length : Int) + 1) = (l1.length : Int) + 1 := IntWalk.i64_in _ (by omega)
    have h1 := spC_at l1 s l2
    rw [← hl12] at h1
    refine WP.cond (b := true) (by simp; omega) (fun _ => ?_) (fun h => by cases h)
    refine WP.skip ?_
    simp -dsimp
    refine WP.seq (WP.block ?_)
    repeat (first | refine WP.seq ?_ | refine WP.block ?_ | (refine WP.region Try.tab ?_; simp -dsimp) | (refine WP.draw Try.tab Try.mixed ?_; simp -dsimp) | refine And.intro (by first | rfl | omega | decide | (simp; done) | (simp; omega) | (intro _ h; exact fcs_side h; done) | (intros; simp_all; done)) ?_)
    refine WP.cond (b := !okBy x) (by simp; rw [← okBy_bool, Bool.or_comm]) (fun ho => ?_) (fun ho => ?_)
    · have ho : okBy x = false := by simpa using ho
      repeat (first | refine WP.seq ?_ | refine WP.block ?_ | (refine WP.region Try.tab ?_; simp -dsimp) | (refine WP.draw Try.tab Try.mixed ?_; simp -dsimp) | refine And.intro (by first | rfl | omega | decide | (simp; done) | (simp; omega) | (intro _ h; exact fcs_side h; done) | (intros; simp_all; done)) ?_)
      refine WP.ret (finQ.retE ?_)
      simp -dsimp [shiftR, hb, hn, ho]
    have ho : okBy x = true := by simpa using ho
    obtain ⟨w1, w2⟩ := sh_wrap hs ho
    refine WP.skip ?_
    simp -dsimp
    repeat (first | refine WP.seq ?_ | refine WP.block ?_ | (refine WP.region Try.tab ?_; simp -dsimp [h1, w1, w2]) | (refine WP.draw Try.tab Try.mixed ?_; simp -dsimp [h1, w1, w2]) | refine And.intro (by first | rfl | omega | decide | (simp; done) | (simp; omega) | (intro _ h; exact fcs_side h; done) | (intros; simp_all; done)) ?_)
    refine vcStop.call0 Try.body30 (refCheck_ok (shS x s)) rfl rfl (by simp [shS, w1, w2]) ?_
    simp -dsimp
    repeat (first | refine WP.seq ?_ | refine WP.block ?_ | (refine WP.region Try.tab ?_; simp -dsimp) | (refine WP.draw Try.tab Try.mixed ?_; simp -dsimp) | refine And.intro (by first | rfl | omega | decide | (simp; done) | (simp; omega) | (intro _ h; exact fcs_side h; done) | (intros; simp_all; done)) ?_)
    refine WP.cond (b := !okS (shS x s)) (by simp [chkS_bool2]) (fun hb2 => ?_) (fun hb2 => ?_)
    · have hb2 : okS (shS x s) = false := by simpa using hb2
      have he : ((y.map (shS x)).all okS) = false := by rw [hl12]; simp [hb2]
      repeat (first | refine WP.seq ?_ | refine WP.block ?_ | (refine WP.region Try.tab ?_; simp -dsimp) | (refine WP.draw Try.tab Try.mixed ?_; simp -dsimp) | refine And.intro (by first | rfl | omega | decide | (simp; done) | (simp; omega) | (intro _ h; exact fcs_side h; done) | (intros; simp_all; done)) ?_)
      refine WP.ret (finQ.retE ?_)
      simp -dsimp [shiftR, hb, hn, ho, hy, he]
    · have hb2 : okS (shS x s) = true := by simpa using hb2
      refine WP.skip ?_
      simp -dsimp
      repeat (first | refine WP.seq ?_ | refine WP.block ?_ | (refine WP.region Try.tab ?_; simp -dsimp [h1, w1, w2]) | (refine WP.draw Try.tab Try.mixed ?_; simp -dsimp [h1, w1, w2]) | refine And.intro (by first | rfl | omega | decide | (simp; done) | (simp; omega) | (intro _ h; exact fcs_side h; done) | (intros; simp_all; done)) ?_)
      refine loopW.next (mkS 54 [(1, .d (.v (.int .i64 x))), (7, .d (slS y)), (8, .row 500), (9, .d (.v (.int .i64 (l1 ++ [s]).length)))] [(500, .row 37 2 (l1 ++ [s]).length ((spC ((l1 ++ [s]).map (shS x))).map .d))])
        (Wk.go [10, 51] 52 500 (by decide) (by simp) (by simp [e1]) (by simp [shS, w1, w2])) l2.length (by simp) ⟨l1 ++ [s], l2, by simp [hl12], rfl, by rw [List.map_append, List.all_append, hall]; simp [hb2], fun _ => ho, rfl⟩
end Go.Proofs.Ytphbappgmoojeaa
