/-
  Spans: what their checks and comparisons say.
-/
import Derived.Test.YtphbappgmoojeaaKHa
import Derived.Test.YtphbappgmoojeaaKSb
import Derived.Test.YtphbappgmoojeaaK4
set_option linter.unusedSectionVars false
set_option linter.unusedSimpArgs false
set_option linter.unusedVariables false
namespace Go.Proofs.Ytphbappgmoojeaa
open Go.Xe Go.RowKit

def iD : List Int → List D
  | [] => []
  | x :: l => .v (.int .i64 x) :: iD l
@[simp] theorem iD_nil : iD [] = [] := rfl
@[simp] theorem iD_cons (x : Int) (l : List Int) : iD (x :: l) = .v (.int .i64 x) :: iD l := rfl
@[simp] theorem iD_append : ∀ a b : List Int, iD (a ++ b) = iD a ++ iD b
  | [], _ => rfl
  | x :: a, b => by rw [List.cons_append, iD, iD, iD_append a b]; rfl
@[simp] theorem iD_length : ∀ a : List Int, (iD a).length = a.length
  | [] => rfl
  | x :: a => by rw [iD, List.length_cons, iD_length a, List.length_cons]
@[simp] def slI (l : List Int) : D := .sl 1 (iD l) l.length false
theorem iD_at (a : List Int) (x : Int) (b : List Int) : (iD (a ++ x :: b)).drop a.length = .v (.int .i64 x) :: iD b := by
  rw [iD_append, ← iD_length a, List.drop_left]; rfl
/-- Lists of spans, as data. -/
@[simp] def spD (s : Sp) : D := .agg [.v (.int .i64 s.1), .v (.int .i64 s.2)]
def spC : List Sp → List D
  | [] => []
  | s :: l => .v (.int .i64 s.1) :: .v (.int .i64 s.2) :: spC l
@[simp] theorem spC_nil : spC [] = [] := rfl
@[simp] theorem spC_cons (s : Sp) (l : List Sp) : spC (s :: l) = .v (.int .i64 s.1) :: .v (.int .i64 s.2) :: spC l := rfl
@[simp] theorem spC_append : ∀ a b : List Sp, spC (a ++ b) = spC a ++ spC b
  | [], _ => rfl
  | s :: a, b => by rw [List.cons_append, spC, spC, spC_append a b]; rfl
@[simp] theorem spC_length : ∀ a : List Sp, (spC a).length = a.length * 2
  | [] => rfl
  | s :: a => by rw [spC, List.length_cons, List.length_cons, spC_length a, List.length_cons]; omega
theorem spC_at (a : List Sp) (s : Sp) (b : List Sp) : ((spC (a ++ s :: b)).drop (a.length * 2)).take 2 = [.v (.int .i64 s.1), .v (.int .i64 s.2)] := by
  rw [spC_append, ← spC_length a, List.drop_left]; rfl
@[simp] def slS (l : List Sp) : D := .sl 2 (spC l) l.length false

def cmpI (x y : Int) : Int := if x < y then -1 else if y < x then 1 else 0
theorem isNaN_ok (x : Int) : Fn0 Try.prog 59 [.v (.int .i64 x)] (.v (.bool false)) := by
  refine Fun.of_wp (pn := noPn) Try.tab Try.func59 rfl fun β0 => ?_
  simp only [Try.f59]
  repeat (first | refine WP.seq ?_ | refine WP.block ?_ | (refine WP.region Try.tab ?_; simp -dsimp) | (refine WP.draw Try.tab Try.mixed ?_; simp -dsimp) | refine And.intro (by first | rfl | omega | decide | (simp; done) | (simp; omega) | (intro _ h; exact fcs_side h; done) | (intros; simp_all; done)) ?_)
  refine WP.ret (finQ.retE ?_)
  simp -dsimp
theorem compare_ok (x y : Int) : Fn0 Try.prog 49 [.v (.int .i64 x), .v (.int .i64 y)] (.v (.int .i64 (cmpI x y))) := by
  refine Fun.of_wp (pn := noPn) Try.tab Try.func49 rfl fun β0 => ?_
  simp only [Try.f49]
  repeat (first | refine WP.seq ?_ | refine WP.block ?_ | (refine WP.region Try.tab ?_; simp -dsimp) | (refine WP.draw Try.tab Try.mixed ?_; simp -dsimp) | refine And.intro (by first | rfl | omega | decide | (simp; done) | (simp; omega) | (intro _ h; exact fcs_side h; done) | (intros; simp_all; done)) ?_)
  refine vcStop.call0 Try.body59 (isNaN_ok x) rfl rfl (by simp) ?_
  simp -dsimp
  repeat (first | refine WP.seq ?_ | refine WP.block ?_ | (refine WP.region Try.tab ?_; simp -dsimp) | (refine WP.draw Try.tab Try.mixed ?_; simp -dsimp) | refine And.intro (by first | rfl | omega | decide | (simp; done) | (simp; omega) | (intro _ h; exact fcs_side h; done) | (intros; simp_all; done)) ?_)
  refine vcStop.call0 Try.body59 (isNaN_ok y) rfl rfl (by simp) ?_
  simp -dsimp
  repeat (first | refine WP.seq ?_ | refine WP.block ?_ | (refine WP.region Try.tab ?_; simp -dsimp) | (refine WP.draw Try.tab Try.mixed ?_; simp -dsimp) | refine And.intro (by first | rfl | omega | decide | (simp; done) | (simp; omega) | (intro _ h; exact fcs_side h; done) | (intros; simp_all; done)) ?_)
  refine WP.cond (b := false) (by simp) (fun h => by cases h) (fun _ => ?_)
  refine WP.skip ?_
  simp -dsimp
  repeat (first | refine WP.seq ?_ | refine WP.block ?_ | (refine WP.region Try.tab ?_; simp -dsimp) | (refine WP.draw Try.tab Try.mixed ?_; simp -dsimp) | refine And.intro (by first | rfl | omega | decide | (simp; done) | (simp; omega) | (intro _ h; exact fcs_side h; done) | (intros; simp_all; done)) ?_)
  refine WP.cond (b := false) (by simp) (fun h => by cases h) (fun _ => ?_)
  refine WP.skip ?_
  simp -dsimp
  repeat (first | refine WP.seq ?_ | refine WP.block ?_ | (refine WP.region Try.tab ?_; simp -dsimp) | (refine WP.draw Try.tab Try.mixed ?_; simp -dsimp) | refine And.intro (by first | rfl | omega | decide | (simp; done) | (simp; omega) | (intro _ h; exact fcs_side h; done) | (intros; simp_all; done)) ?_)
  refine WP.cond (b := decide (x < y)) (by simp) (fun hb => ?_) (fun hb => ?_)
  · have hb := of_decide_eq_true hb
    repeat (first | refine WP.seq ?_ | refine WP.block ?_ | (refine WP.region Try.tab ?_; simp -dsimp) | (refine WP.draw Try.tab Try.mixed ?_; simp -dsimp) | refine And.intro (by first | rfl | omega | decide | (simp; done) | (simp; omega) | (intro _ h; exact fcs_side h; done) | (intros; simp_all; done)) ?_)
    refine WP.ret (finQ.retE ?_)
    simp -dsimp [cmpI, hb]
  have h1 := of_decide_eq_false hb
  refine WP.skip ?_
  simp -dsimp
  repeat (first | refine WP.seq ?_ | refine WP.block ?_ | (refine WP.region Try.tab ?_; simp -dsimp) | (refine WP.draw Try.tab Try.mixed ?_; simp -dsimp) | refine And.intro (by first | rfl | omega | decide | (simp; done) | (simp; omega) | (intro _ h; exact fcs_side h; done) | (intros; simp_all; done)) ?_)
  refine WP.cond (b := decide (y < x)) (by simp) (fun hb => ?_) (fun hb => ?_)
  · have hb := of_decide_eq_true hb
    have e : cmpI x y = 1 := by rw [cmpI, if_neg h1, if_pos hb]
    repeat (first | refine WP.seq ?_ | refine WP.block ?_ | (refine WP.region Try.tab ?_; simp -dsimp) | (refine WP.draw Try.tab Try.mixed ?_; simp -dsimp) | refine And.intro (by first | rfl | omega | decide | (simp; done) | (simp; omega) | (intro _ h; exact fcs_side h; done) | (intros; simp_all; done)) ?_)
    refine WP.ret (finQ.retE ?_)
    simp -dsimp [e]
  have h2 := of_decide_eq_false hb
  have e : cmpI x y = 0 := by rw [cmpI, if_neg h1, if_neg h2]
  refine WP.skip ?_
  simp -dsimp
  repeat (first | refine WP.seq ?_ | refine WP.block ?_ | (refine WP.region Try.tab ?_; simp -dsimp) | (refine WP.draw Try.tab Try.mixed ?_; simp -dsimp) | refine And.intro (by first | rfl | omega | decide | (simp; done) | (simp; omega) | (intro _ h; exact fcs_side h; done) | (intros; simp_all; done)) ?_)
  refine WP.ret (finQ.retE ?_)
  simp -dsimp [e]

def orL : List Int → Int
  | [] => 0
  | x :: l => if x = 0 then orL l else x
set_option maxRecDepth 10000 in
theorem or_ok (l : List Int) (hl : l.length ≤ 1000) : Fn0 Try.prog 48 [slI l] (.v (.int .i64 (orL l))) := by
  refine Fun.of_wp (pn := noPn) Try.tab Try.func48 rfl fun β0 => ?_
  simp only [Try.f48]
  repeat (first | refine WP.seq ?_ | refine WP.block ?_ | (refine WP.region Try.tab ?_; simp -dsimp) | (refine WP.draw Try.tab Try.mixed ?_; simp -dsimp) | refine And.intro (by first | rfl | omega | decide | (simp; done) | (simp; omega) | (intro _ h; exact fcs_side h; done) | (intros; simp_all; done)) ?_)
  refine WP.loopWk (fun m S => ∃ l1 l2, l = l1 ++ l2 ∧ m = l2.length ∧ orL l = orL l2 ∧ S = mkS 18 [(3, .d (.v (.int .i64 0))), (6, .d (slI l)), (7, .d (.v (.int .i64 l.length))), (8, .d (.v (.int .i64 l1.length)))] []) l.length
    (S0 := mkS 18 [(3, .d (.v (.int .i64 0))), (6, .d (slI l)), (7, .d (.v (.int .i64 l.length))), (8, .d (.v (.int .i64 0)))] []) (Wk.lessE [] (by simp) (by simp)) ⟨[], l, rfl, rfl, rfl, rfl⟩ ?_
  rintro _ _ ⟨l1, l2, hl12, rfl, ho, rfl⟩
  simp -dsimp
  repeat (first | refine WP.seq ?_ | refine WP.block ?_ | (refine WP.region Try.tab ?_; simp -dsimp) | (refine WP.draw Try.tab Try.mixed ?_; simp -dsimp) | refine And.intro (by first | rfl | omega | decide | (simp; done) | (simp; omega) | (intro _ h; exact fcs_side h; done) | (intros; simp_all; done)) ?_)
  cases l2 with
  | nil =>
    simp only [List.append_nil] at hl12
    subst hl12
    refine WP.cond (b := false) (by simp) (fun h => by cases h) (fun _ => ?_)
    refine WP.exit ?_
    simp -dsimp
    repeat (first | refine WP.seq ?_ | refine WP.block ?_ | (refine WP.region Try.tab ?_; simp -dsimp) | (refine WP.draw Try.tab Try.mixed ?_; simp -dsimp) | refine And.intro (by first | rfl | omega | decide | (simp; done) | (simp; omega) | (intro _ h; exact fcs_side h; done) | (intros; simp_all; done)) ?_)
    refine WP.ret (finQ.retE ?_)
    simp -dsimp [ho, orL]
  | cons x l2 =>
    have hll : l.length = l1.length + (l2.length + 1) := by rw [hl12]; simp
    have e1 : IntKind.i64.wrap ((l1.length : Int) + 1) = (l1.length : Int) + 1 := IntWalk.i64_in _ (by omega)
    have h1 := iD_at l1 x l2
    rw [← hl12] at h1
    refine WP.cond (b := true) (by simp; omega) (fun _ => ?_) (fun h => by cases h)
    refine WP.skip ?_
    simp -dsimp
    refine WP.seq (WP.block ?_)
    repeat (first | refine WP.seq ?_ | refine WP.block ?_ | (refine WP.region Try.tab ?_; simp -dsimp [h1]) | (refine WP.draw Try.tab Try.mixed ?_; simp -dsimp [h1]) | refine And.intro (by first | rfl | omega | decide | (simp; done) | (simp; omega) | (intro _ h; exact fcs_side h; done) | (intros; simp_all; done)) ?_)
    refine WP.cond (b := !decide (x = 0)) (by simp) (fun hb => ?_) (fun hb => ?_)
    · have hb : ¬ x = 0 := by simpa using hb
      repeat (first | refine WP.seq ?_ | refine WP.block ?_ | (refine WP.region Try.tab ?_; simp -dsimp) | (refine WP.draw Try.tab Try.mixed ?_; simp -dsimp) | refine And.intro (by first | rfl | omega | decide | (simp; done) | (simp; omega) | (intro _ h; exact fcs_side h; done) | (intros; simp_all; done)) ?_)
      refine WP.ret (finQ.retE ?_)
      simp -dsimp [ho, orL, hb]
    · have hb : x = 0 := by simpa using hb
      refine WP.skip ?_
      simp -dsimp
      repeat (first | refine WP.seq ?_ | refine WP.block ?_ | (refine WP.region Try.tab ?_; simp -dsimp) | (refine WP.draw Try.tab Try.mixed ?_; simp -dsimp) | refine And.intro (by first | rfl | omega | decide | (simp; done) | (simp; omega) | (intro _ h; exact fcs_side h; done) | (intros; simp_all; done)) ?_)
      refine loopW.next (mkS 18 [(3, .d (.v (.int .i64 0))), (6, .d (slI l)), (7, .d (.v (.int .i64 l.length))), (8, .d (.v (.int .i64 (l1 ++ [x]).length)))] []) (Wk.lessE [] (by simp [e1]) (by simp)) l2.length (by simp) ⟨l1 ++ [x], l2, by simp [hl12], rfl, by rw [ho, orL, if_pos hb], rfl⟩
theorem or_row2 (a b : Int) : Fun Try.prog 48 [.row 1000] [(1000, .row 3 1 2 [.d (.v (.int .i64 a)), .d (.v (.int .i64 b))])] (.d (.v (.int .i64 (orL [a, b])))) [] fun _ => False :=
  Fun.ofRow 1000 (T := 3) (cs := iD [a, b]) (or_ok [a, b] (by simp)) rfl rfl trivial

/-- Is a span one? -/
def okS (s : Sp) : Bool := decide (-70368744177664 ≤ s.1) && decide (s.2 ≤ 70368744177664) && decide (s.1 ≤ s.2)
def chkS (s : Sp) : Int := if okS s = true then 0 else 10
theorem chkS_bool (s : Sp) : (decide (s.1 < -70368744177664) || decide (70368744177664 < s.2) || decide (s.2 < s.1)) = !okS s := by
  unfold okS
  rw [Bool.eq_iff_iff]
  simp
theorem chkS_b (s : Sp) (b : Bool) (h : okS s = !b) : chkS s = if b = true then 10 else 0 := by
  rw [chkS, h]; cases b <;> rfl
theorem check_ok (s : Sp) : Fn0 Try.prog 29 [spD s] (.v (.int .i64 (chkS s))) := by
  refine Fun.of_wp (pn := noPn) Try.tab Try.func29 rfl fun β0 => ?_
  simp only [Try.f29]
  repeat (first | refine WP.seq ?_ | refine WP.block ?_ | (refine WP.region Try.tab ?_; simp -dsimp) | (refine WP.draw Try.tab Try.mixed ?_; simp -dsimp) | refine And.intro (by first | rfl | omega | decide | (simp; done) | (simp; omega) | (intro _ h; exact fcs_side h; done) | (intros; simp_all; done)) ?_)
  refine WP.cond (b := !okS s) (by simp; rw [← chkS_bool]) (fun hb => ?_) (fun hb => ?_)
  · have hb : okS s = false := by simpa using hb
    repeat (first | refine WP.seq ?_ | refine WP.block ?_ | (refine WP.region Try.tab ?_; simp -dsimp) | (refine WP.draw Try.tab Try.mixed ?_; simp -dsimp) | refine And.intro (by first | rfl | omega | decide | (simp; done) | (simp; omega) | (intro _ h; exact fcs_side h; done) | (intros; simp_all; done)) ?_)
    refine WP.ret (finQ.retE ?_)
    simp -dsimp [chkS, hb]
  · have hb : okS s = true := by simpa using hb
    refine WP.skip ?_
    simp -dsimp
    repeat (first | refine WP.seq ?_ | refine WP.block ?_ | (refine WP.region Try.tab ?_; simp -dsimp) | (refine WP.draw Try.tab Try.mixed ?_; simp -dsimp) | refine And.intro (by first | rfl | omega | decide | (simp; done) | (simp; omega) | (intro _ h; exact fcs_side h; done) | (intros; simp_all; done)) ?_)
    refine WP.ret (finQ.retE ?_)
    simp -dsimp [chkS, hb]
theorem refCheck_ok (s : Sp) : Fn0 Try.prog 30 [spD s] (.v (.int .i64 (chkS s))) := by
  refine Fun.of_wp (pn := noPn) Try.tab Try.func30 rfl fun β0 => ?_
  simp only [Try.f30]
  repeat (first | refine WP.seq ?_ | refine WP.block ?_ | (refine WP.region Try.tab ?_; simp -dsimp) | (refine WP.draw Try.tab Try.mixed ?_; simp -dsimp) | refine And.intro (by first | rfl | omega | decide | (simp; done) | (simp; omega) | (intro _ h; exact fcs_side h; done) | (intros; simp_all; done)) ?_)
  refine WP.cond (b := !okS s) (by simp; rw [← chkS_bool]) (fun hb => ?_) (fun hb => ?_)
  · have hb : okS s = false := by simpa using hb
    repeat (first | refine WP.seq ?_ | refine WP.block ?_ | (refine WP.region Try.tab ?_; simp -dsimp) | (refine WP.draw Try.tab Try.mixed ?_; simp -dsimp) | refine And.intro (by first | rfl | omega | decide | (simp; done) | (simp; omega) | (intro _ h; exact fcs_side h; done) | (intros; simp_all; done)) ?_)
    refine WP.ret (finQ.retE ?_)
    simp -dsimp [chkS, hb]
  · have hb : okS s = true := by simpa using hb
    refine WP.skip ?_
    simp -dsimp
    repeat (first | refine WP.seq ?_ | refine WP.block ?_ | (refine WP.region Try.tab ?_; simp -dsimp) | (refine WP.draw Try.tab Try.mixed ?_; simp -dsimp) | refine And.intro (by first | rfl | omega | decide | (simp; done) | (simp; omega) | (intro _ h; exact fcs_side h; done) | (intros; simp_all; done)) ?_)
    refine WP.ret (finQ.retE ?_)
    simp -dsimp [chkS, hb]
/-- The order that the code sorts by. -/
def cmpS (a b : Sp) : Int := orL [cmpI a.1 b.1, cmpI a.2 b.2]
theorem cmpS_ok (a b : Sp) : Fn0 Try.prog 47 [spD a, spD b] (.v (.int .i64 (cmpS a b))) := by
  refine Fun.of_wp (pn := noPn) Try.tab Try.func47 rfl fun β0 => ?_
  simp only [Try.f47]
  repeat (first | refine WP.seq ?_ | refine WP.block ?_ | (refine WP.region Try.tab ?_; simp -dsimp) | (refine WP.draw Try.tab Try.mixed ?_; simp -dsimp) | refine And.intro (by first | rfl | omega | decide | (simp; done) | (simp; omega) | (intro _ h; exact fcs_side h; done) | (intros; simp_all; done)) ?_)
  refine vcStop.call0 Try.body49 (compare_ok a.1 b.1) rfl rfl (by simp) ?_
  simp -dsimp
  repeat refine And.intro (by first | rfl | omega | decide | (simp; done) | (simp; omega) | (intro _ h; exact fcs_side h; done) | (intros; simp_all; done)) ?_
  refine vcStop.call0 Try.body49 (compare_ok a.2 b.2) rfl rfl (by simp) ?_
  simp -dsimp
  repeat refine And.intro (by first | rfl | omega | decide | (simp; done) | (simp; omega) | (intro _ h; exact fcs_side h; done) | (intros; simp_all; done)) ?_
  refine vcStop.call Try.body48 (or_row2 (cmpI a.1 b.1) (cmpI a.2 b.2)) (rl [(1000, 15)]) rfl rfl (by simp [BoxLeq]) (CallOk.of (by simp [BoxLeq]) rfl (by first | rfl | (simp [BoxLeq]; done)) (by simp [BoxLeq]) (by simp [BoxLeq])) (fun _ h => h.elim) (fun ⟨_, h⟩ => h.elim) (fun ⟨_, h⟩ => h.elim) (by simp [BoxLeq]) ?_
  simp -dsimp
  repeat (first | refine WP.seq ?_ | refine WP.block ?_ | (refine WP.region Try.tab ?_; simp -dsimp) | (refine WP.draw Try.tab Try.mixed ?_; simp -dsimp) | refine And.intro (by first | rfl | omega | decide | (simp; done) | (simp; omega) | (intro _ h; exact fcs_side h; done) | (intros; simp_all; done)) ?_)
  refine WP.ret (finQ.retE ?_)
  simp -dsimp [cmpS]
theorem checkNot_ok (s : Sp) : Fn0 Try.prog 44 [spD s] (.v (.bool (!okS s))) := by
  refine Fun.of_wp (pn := noPn) Try.tab Try.func44 rfl fun β0 => ?_
  simp only [Try.f44]
  repeat (first | refine WP.seq ?_ | refine WP.block ?_ | (refine WP.region Try.tab ?_; simp -dsimp) | (refine WP.draw Try.tab Try.mixed ?_; simp -dsimp) | refine And.intro (by first | rfl | omega | decide | (simp; done) | (simp; omega) | (intro _ h; exact fcs_side h; done) | (intros; simp_all; done)) ?_)
  refine vcStop.call0 Try.body29 (check_ok s) rfl rfl (by simp) ?_
  simp -dsimp
  repeat (first | refine WP.seq ?_ | refine WP.block ?_ | (refine WP.region Try.tab ?_; simp -dsimp) | (refine WP.draw Try.tab Try.mixed ?_; simp -dsimp) | refine And.intro (by first | rfl | omega | decide | (simp; done) | (simp; omega) | (intro _ h; exact fcs_side h; done) | (intros; simp_all; done)) ?_)
  have e : decide (chkS s = 0) = okS s := by rw [chkS]; cases okS s <;> simp
  refine WP.ret (finQ.retE ?_)
  simp -dsimp [e]
end Go.Proofs.Ytphbappgmoojeaa
