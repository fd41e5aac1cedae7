/-
  Spans: the checks of lists; the reference's insertion.
-/
import Derived.Test.YtphbappgmoojeaaKHf
set_option linter.unusedSectionVars false
set_option linter.unusedSimpArgs false
set_option linter.unusedVariables false
namespace Go.Proofs.Ytphbappgmoojeaa
open Go.Xe Go.RowKit Go.Sort

/-- What is wrong with a list. -/
def chkL (l : List Sp) : Int := if 4096 < l.length then 2 else if (l.any fun s => !okS s) = true then 10 else 0
def chkLs : List (List Sp) → Int
  | [] => 0
  | l :: r => if chkL l = 0 then chkLs r else chkL l
def lsC : List (List Sp) → List D
  | [] => []
  | l :: r => slS l :: lsC r
@[simp] theorem lsC_nil : lsC [] = [] := rfl
@[simp] theorem lsC_cons (l : List Sp) (r : List (List Sp)) : lsC (l :: r) = slS l :: lsC r := rfl
theorem lsC_len : ∀ r : List (List Sp), (lsC r).length = r.length
  | [] => rfl
  | l :: r => by rw [lsC, List.length_cons, lsC_len r, List.length_cons]
theorem lsC_append : ∀ a b : List (List Sp), lsC (a ++ b) = lsC a ++ lsC b
  | [], _ => rfl
  | l :: a, b => by rw [List.cons_append, lsC, lsC, lsC_append a b]; rfl
theorem lsC_at (a : List (List Sp)) (l : List Sp) (b : List (List Sp)) : (lsC (a ++ l :: b)).drop a.length = slS l :: lsC b := by
  rw [lsC_append, ← lsC_len a, List.drop_left]; rfl
@[simp] def slL (ls : List (List Sp)) : D := .sl 1 (lsC ls) ls.length false
theorem chkL_zero {l : List Sp} : chkL l = 0 ↔ l.length ≤ 4096 ∧ ∀ s ∈ l, okS s = true := by
  unfold chkL
  split
  · constructor
    · intro h; cases h
    · rintro ⟨h, _⟩; omega
  · split
    · rename_i h1 h2
      constructor
      · intro h; cases h
      · rintro ⟨_, h⟩
        rw [List.any_eq_true] at h2
        obtain ⟨s, hs, h3⟩ := h2
        rw [h s hs] at h3; cases h3
    · rename_i h1 h2
      refine ⟨fun _ => ⟨by omega, fun s hs => ?_⟩, fun _ => rfl⟩
      cases ho : okS s with
      | true => rfl
      | false => exact absurd (List.any_eq_true.2 ⟨s, hs, by rw [ho]; rfl⟩) h2
set_option maxRecDepth 10000 in
theorem checkL_ok (ls : List (List Sp)) (hl : ls.length ≤ 1000) : Fn0 Try.prog 32 [slL ls] (.v (.int .i64 (chkLs ls))) := by
  refine Fun.of_wp (pn := noPn) Try.tab Try.func32 rfl fun β0 => ?_
  simp only [Try.f32]
  repeat (first | refine WP.seq ?_ | refine WP.block ?_ | (refine WP.region Try.tab ?_; simp -dsimp) | (refine WP.draw Try.tab Try.mixed ?_; simp -dsimp) | refine And.intro (by first | rfl | omega | decide | (simp; done) | (simp; omega) | (intro _ h; exact fcs_side h; done) | (intros; simp_all; done)) ?_)
  refine WP.loopWk (fun m S => ∃ l1 l2, ls = l1 ++ l2 ∧ m = l2.length ∧ chkLs ls = chkLs l2 ∧ S = mkS 17 [(5, .d (slL ls)), (6, .d (.v (.int .i64 ls.length))), (7, .d (.v (.int .i64 l1.length)))] []) ls.length
    (S0 := mkS 17 [(5, .d (slL ls)), (6, .d (.v (.int .i64 ls.length))), (7, .d (.v (.int .i64 0)))] []) (Wk.lessE [] (by simp) (by simp)) ⟨[], ls, rfl, rfl, rfl, rfl⟩ ?_
  rintro _ _ ⟨l1, l2, hl12, rfl, hi, rfl⟩
  simp -dsimp
  repeat (first | refine WP.seq ?_ | refine WP.block ?_ | (refine WP.region Try.tab ?_; simp -dsimp) | (refine WP.draw Try.tab Try.mixed ?_; simp -dsimp) | refine And.intro (by first | rfl | omega | decide | (simp; done) | (simp; omega) | (intro _ h; exact fcs_side h; done) | (intros; simp_all; done)) ?_)
  cases l2 with
  | nil =>
    simp only [List.append_nil] at hl12
    subst hl12
    refine WP.cond (b := false) (by simp) (fun h => by cases h) (fun _ => ?_)
    refine WP.exit ?_
    simp -dsimp
    repeat (first | refine WP.seq ?_ | refine WP.block ?_ | (refine WP.region Try.tab ?_; simp -dsimp) | (refine WP.draw Try.tab Try.mixed ?_; simp -dsimp) | refine And.intro (by first | rfl | omega | decide | (simp; done) | (simp; omega) | (intro _ h; exact fcs_side h; done) | (intros; simp_all; done)) ?_)
    refine WP.ret (finQ.retE ?_)
    simp -dsimp [hi, chkLs]
  | cons l l2 =>
    have hll : ls.length = l1.length + (l2.length + 1) := by rw [hl12]; simp
    have e1 : IntKind.i64.wrap ((l1.length : Int) + 1) = (l1.length : Int) + 1 := IntWalk.i64_in _ (by omega)
    have h1 := lsC_at l1 l l2
    rw [← hl12] at h1
    refine WP.cond (b := true) (by simp; omega) (fun _ => ?_) (fun h => by cases h)
    refine WP.skip ?_
    simp -dsimp
    refine WP.seq (WP.block ?_)
    repeat (first | refine WP.seq ?_ | refine WP.block ?_ | (refine WP.region Try.tab ?_; simp -dsimp [h1]) | (refine WP.draw Try.tab Try.mixed ?_; simp -dsimp [h1]) | refine And.intro (by first | rfl | omega | decide | (simp; done) | (simp; omega) | (intro _ h; exact fcs_side h; done) | (intros; simp_all; done)) ?_)
    refine WP.cond (b := decide (4096 < l.length)) (by simp; omega) (fun hb => ?_) (fun hb => ?_)
    · have hb := of_decide_eq_true hb
      have e : chkL l = 2 := by rw [chkL, if_pos hb]
      repeat (first | refine WP.seq ?_ | refine WP.block ?_ | (refine WP.region Try.tab ?_; simp -dsimp) | (refine WP.draw Try.tab Try.mixed ?_; simp -dsimp) | refine And.intro (by first | rfl | omega | decide | (simp; done) | (simp; omega) | (intro _ h; exact fcs_side h; done) | (intros; simp_all; done)) ?_)
      refine WP.ret (finQ.retE ?_)
      simp -dsimp [hi, chkLs, e]
    have hb := of_decide_eq_false hb
    refine WP.skip ?_
    simp -dsimp
    repeat (first | refine WP.seq ?_ | refine WP.block ?_ | (refine WP.region Try.tab ?_; simp -dsimp) | (refine WP.draw Try.tab Try.mixed ?_; simp -dsimp) | refine And.intro (by first | rfl | omega | decide | (simp; done) | (simp; omega) | (intro _ h; exact fcs_side h; done) | (intros; simp_all; done)) ?_)
    refine vcStop.call0 Try.body41 (contains_ok l) rfl rfl (by simp) ?_
    simp -dsimp
    repeat (first | refine WP.seq ?_ | refine WP.block ?_ | (refine WP.region Try.tab ?_; simp -dsimp) | (refine WP.draw Try.tab Try.mixed ?_; simp -dsimp) | refine And.intro (by first | rfl | omega | decide | (simp; done) | (simp; omega) | (intro _ h; exact fcs_side h; done) | (intros; simp_all; done)) ?_)
    refine WP.cond (b := l.any fun s => !okS s) (by simp) (fun hb2 => ?_) (fun hb2 => ?_)
    · have e : chkL l = 10 := by rw [chkL, if_neg hb, if_pos hb2]
      repeat (first | refine WP.seq ?_ | refine WP.block ?_ | (refine WP.region Try.tab ?_; simp -dsimp) | (refine WP.draw Try.tab Try.mixed ?_; simp -dsimp) | refine And.intro (by first | rfl | omega | decide | (simp; done) | (simp; omega) | (intro _ h; exact fcs_side h; done) | (intros; simp_all; done)) ?_)
      refine WP.ret (finQ.retE ?_)
      simp -dsimp [hi, chkLs, e]
    · have e : chkL l = 0 := by rw [chkL, if_neg hb, if_neg (by rw [hb2]; exact Bool.false_ne_true)]
      refine WP.skip ?_
      simp -dsimp
      repeat (first | refine WP.seq ?_ | refine WP.block ?_ | (refine WP.region Try.tab ?_; simp -dsimp) | (refine WP.draw Try.tab Try.mixed ?_; simp -dsimp) | refine And.intro (by first | rfl | omega | decide | (simp; done) | (simp; omega) | (intro _ h; exact fcs_side h; done) | (intros; simp_all; done)) ?_)
      refine loopW.next (mkS 17 [(5, .d (slL ls)), (6, .d (.v (.int .i64 ls.length))), (7, .d (.v (.int .i64 (l1 ++ [l]).length)))] []) (Wk.lessE [] (by simp [e1]) (by simp)) l2.length (by simp) ⟨l1 ++ [l], l2, by simp [hl12], rfl, by rw [hi, chkLs, if_pos e], rfl⟩
theorem check1_ok (a : List Sp) : Fun Try.prog 32 [.row 1000] [(1000, .row 22 1 1 [.d (slS a)])] (.d (.v (.int .i64 (chkL a)))) [] fun _ => False := by
  have h := Fun.ofRow 1000 (T := 22) (cs := [slS a]) (args' := [.row 1000]) (bi' := [(1000, .row 22 1 1 [.d (slS a)])]) (checkL_ok [a] (by simp)) rfl rfl trivial
  have e : chkLs [a] = chkL a := by rw [chkLs, chkLs]; split <;> simp_all
  rwa [e] at h
theorem check2_ok (a b : List Sp) : Fun Try.prog 32 [.row 1000] [(1000, .row 22 1 2 [.d (slS a), .d (slS b)])] (.d (.v (.int .i64 (chkLs [a, b])))) [] fun _ => False :=
  Fun.ofRow 1000 (T := 22) (cs := [slS a, slS b]) (checkL_ok [a, b] (by simp)) rfl rfl trivial

/-- A list, or that it is too long. -/
def limL (l : List Sp) : List Sp × Int := if 4096 < l.length then ([], 2) else (l, 0)
@[simp] def resD (p : List Sp × Int) : D := .tup [slS p.1, .v (.int .i64 p.2)]
theorem limited_ok (l : List Sp) : Fn0 Try.prog 35 [slS l] (resD (limL l)) := by
  refine Fun.of_wp (pn := noPn) Try.tab Try.func35 rfl fun β0 => ?_
  simp only [Try.f35]
  repeat (first | refine WP.seq ?_ | refine WP.block ?_ | (refine WP.region Try.tab ?_; simp -dsimp) | (refine WP.draw Try.tab Try.mixed ?_; simp -dsimp) | refine And.intro (by first | rfl | omega | decide | (simp; done) | (simp; omega) | (intro _ h; exact fcs_side h; done) | (intros; simp_all; done)) ?_)
  refine WP.cond (b := decide (4096 < l.length)) (by simp; omega) (fun hb => ?_) (fun hb => ?_)
  · have hb := of_decide_eq_true hb
    repeat (first | refine WP.seq ?_ | refine WP.block ?_ | (refine WP.region Try.tab ?_; simp -dsimp) | (refine WP.draw Try.tab Try.mixed ?_; simp -dsimp) | refine And.intro (by first | rfl | omega | decide | (simp; done) | (simp; omega) | (intro _ h; exact fcs_side h; done) | (intros; simp_all; done)) ?_)
    refine WP.ret (finQ.retE ?_)
    simp -dsimp [limL, hb]
  · have hb := of_decide_eq_false hb
    refine WP.skip ?_
    simp -dsimp
    repeat (first | refine WP.seq ?_ | refine WP.block ?_ | (refine WP.region Try.tab ?_; simp -dsimp) | (refine WP.draw Try.tab Try.mixed ?_; simp -dsimp) | refine And.intro (by first | rfl | omega | decide | (simp; done) | (simp; omega) | (intro _ h; exact fcs_side h; done) | (intros; simp_all; done)) ?_)
    refine WP.ret (finQ.retE ?_)
    simp -dsimp [limL, hb]
theorem refLimited_ok (l : List Sp) : Fn0 Try.prog 39 [slS l] (resD (limL l)) := by
  refine Fun.of_wp (pn := noPn) Try.tab Try.func39 rfl fun β0 => ?_
  simp only [Try.f39]
  repeat (first | refine WP.seq ?_ | refine WP.block ?_ | (refine WP.region Try.tab ?_; simp -dsimp) | (refine WP.draw Try.tab Try.mixed ?_; simp -dsimp) | refine And.intro (by first | rfl | omega | decide | (simp; done) | (simp; omega) | (intro _ h; exact fcs_side h; done) | (intros; simp_all; done)) ?_)
  refine WP.cond (b := decide (4096 < l.length)) (by simp; omega) (fun hb => ?_) (fun hb => ?_)
  · have hb := of_decide_eq_true hb
    repeat (first | refine WP.seq ?_ | refine WP.block ?_ | (refine WP.region Try.tab ?_; simp -dsimp) | (refine WP.draw Try.tab Try.mixed ?_; simp -dsimp) | refine And.intro (by first | rfl | omega | decide | (simp; done) | (simp; omega) | (intro _ h; exact fcs_side h; done) | (intros; simp_all; done)) ?_)
    refine WP.ret (finQ.retE ?_)
    simp -dsimp [limL, hb]
  · have hb := of_decide_eq_false hb
    refine WP.skip ?_
    simp -dsimp
    repeat (first | refine WP.seq ?_ | refine WP.block ?_ | (refine WP.region Try.tab ?_; simp -dsimp) | (refine WP.draw Try.tab Try.mixed ?_; simp -dsimp) | refine And.intro (by first | rfl | omega | decide | (simp; done) | (simp; omega) | (intro _ h; exact fcs_side h; done) | (intros; simp_all; done)) ?_)
    refine WP.ret (finQ.retE ?_)
    simp -dsimp [limL, hb]
set_option maxRecDepth 10000 in
theorem valid_ok (l : List Sp) : Fn0 Try.prog 40 [slS l] (.v (.int .i64 (chkL l))) := by
  refine Fun.of_wp (pn := noPn) Try.tab Try.func40 rfl fun β0 => ?_
  simp only [Try.f40]
  refine WP.len (.tmp 0) rfl fun hl => ?_
  have hm : maxLen = 9223372036854775807 := rfl
  rw [hm] at hl
  repeat (first | refine WP.seq ?_ | refine WP.block ?_ | (refine WP.region Try.tab ?_; simp -dsimp) | (refine WP.draw Try.tab Try.mixed ?_; simp -dsimp) | refine And.intro (by first | rfl | omega | decide | (simp; done) | (simp; omega) | (intro _ h; exact fcs_side h; done) | (intros; simp_all; done)) ?_)
  refine WP.cond (b := decide (4096 < l.length)) (by first | (simp; done) | (simp; omega)) (fun hb => ?_) (fun hb => ?_)
  · have hb := of_decide_eq_true hb
    repeat (first | refine WP.seq ?_ | refine WP.block ?_ | (refine WP.region Try.tab ?_; simp -dsimp) | (refine WP.draw Try.tab Try.mixed ?_; simp -dsimp) | refine And.intro (by first | rfl | omega | decide | (simp; done) | (simp; omega) | (intro _ h; exact fcs_side h; done) | (intros; simp_all; done)) ?_)
    refine WP.ret (finQ.retE ?_)
    simp -dsimp [chkL, hb]
  have hb := of_decide_eq_false hb
  refine WP.skip ?_
  simp -dsimp
  repeat (first | refine WP.seq ?_ | refine WP.block ?_ | (refine WP.region Try.tab ?_; simp -dsimp) | (refine WP.draw Try.tab Try.mixed ?_; simp -dsimp) | refine And.intro (by first | rfl | omega | decide | (simp; done) | (simp; omega) | (intro _ h; exact fcs_side h; done) | (intros; simp_all; done)) ?_)
  refine WP.loopWk (fun m S => ∃ l1 l2, l = l1 ++ l2 ∧ m = l2.length ∧ (l.any fun s => !okS s) = (l2.any fun s => !okS s) ∧ S = mkS 19 [(0, .d (slS l)), (3, .d (.v (.int .i64 l1.length)))] []) l.length
    (S0 := mkS 19 [(0, .d (slS l)), (3, .d (.v (.int .i64 0)))] []) (Wk.lessE [] (by simp) (by simp)) ⟨[], l, rfl, rfl, rfl, rfl⟩ ?_
  rintro _ _ ⟨l1, l2, hl12, rfl, hi, rfl⟩
  simp -dsimp
  repeat (first | refine WP.seq ?_ | refine WP.block ?_ | (refine WP.region Try.tab ?_; simp -dsimp) | (refine WP.draw Try.tab Try.mixed ?_; simp -dsimp) | refine And.intro (by first | rfl | omega | decide | (simp; done) | (simp; omega) | (intro _ h; exact fcs_side h; done) | (intros; simp_all; done)) ?_)
  cases l2 with
  | nil =>
    simp only [List.append_nil] at hl12
    subst hl12
    have e : chkL l = 0 := by rw [chkL, if_neg hb, if_neg (by rw [hi]; simp)]
    refine WP.cond (b := false) (by simp) (fun h => by cases h) (fun _ => ?_)
    refine WP.exit ?_
    simp -dsimp
    repeat (first | refine WP.seq ?_ | refine WP.block ?_ | (refine WP.region Try.tab ?_; simp -dsimp) | (refine WP.draw Try.tab Try.mixed ?_; simp -dsimp) | refine And.intro (by first | rfl | omega | decide | (simp; done) | (simp; omega) | (intro _ h; exact fcs_side h; done) | (intros; simp_all; done)) ?_)
    refine WP.ret (finQ.retE ?_)
    simp -dsimp [e]
  | cons x l2 =>
    have hll : l.length = l1.length + (l2.length + 1) := by rw [hl12]; simp
    have e1 : IntKind.i64.wrap ((l1.length : Int) + 1) = (l1.length : Int) + 1 := IntWalk.i64_in _ (by omega)
    have h1 := spC_at l1 x l2
    rw [← hl12] at h1
    refine WP.cond (b := true) (by simp; omega) (fun _ => ?_) (fun h => by cases h)
    refine WP.skip ?_
    simp -dsimp
    refine WP.seq (WP.block ?_)
    repeat (first | refine WP.seq ?_ | refine WP.block ?_ | (refine WP.region Try.tab ?_; simp -dsimp [h1]) | (refine WP.draw Try.tab Try.mixed ?_; simp -dsimp [h1]) | refine And.intro (by first | rfl | omega | decide | (simp; done) | (simp; omega) | (intro _ h; exact fcs_side h; done) | (intros; simp_all; done)) ?_)
    refine vcStop.call0 Try.body30 (refCheck_ok x) rfl rfl (by simp) ?_
    simp -dsimp
    repeat (first | refine WP.seq ?_ | refine WP.block ?_ | (refine WP.region Try.tab ?_; simp -dsimp) | (refine WP.draw Try.tab Try.mixed ?_; simp -dsimp) | refine And.intro (by first | rfl | omega | decide | (simp; done) | (simp; omega) | (intro _ h; exact fcs_side h; done) | (intros; simp_all; done)) ?_)
    refine WP.cond (b := !okS x) (by cases h : okS x <;> simp [chkS, h]) (fun hb2 => ?_) (fun hb2 => ?_)
    · have e : chkL l = 10 := by rw [chkL, if_neg hb, if_pos (by rw [hi, List.any_cons, hb2]; rfl)]
      repeat (first | refine WP.seq ?_ | refine WP.block ?_ | (refine WP.region Try.tab ?_; simp -dsimp) | (refine WP.draw Try.tab Try.mixed ?_; simp -dsimp) | refine And.intro (by first | rfl | omega | decide | (simp; done) | (simp; omega) | (intro _ h; exact fcs_side h; done) | (intros; simp_all; done)) ?_)
      refine WP.ret (finQ.retE ?_)
      simp -dsimp [e]
    · refine WP.skip ?_
      simp -dsimp
      repeat (first | refine WP.seq ?_ | refine WP.block ?_ | (refine WP.region Try.tab ?_; simp -dsimp) | (refine WP.draw Try.tab Try.mixed ?_; simp -dsimp) | refine And.intro (by first | rfl | omega | decide | (simp; done) | (simp; omega) | (intro _ h; exact fcs_side h; done) | (intros; simp_all; done)) ?_)
      refine loopW.next (mkS 19 [(0, .d (slS l)), (3, .d (.v (.int .i64 (l1 ++ [x]).length)))] []) (Wk.lessE [] (by simp [e1]) (by simp)) l2.length (by simp) ⟨l1 ++ [x], l2, by simp [hl12], rfl, by rw [hi, List.any_cons, hb2, Bool.false_or], rfl⟩
theorem both2_ok (a b : List Sp) : Fn0 Try.prog 36 [slS a, slS b] (.v (.int .i64 (chkLs [a, b]))) := by
  refine Fun.of_wp (pn := noPn) Try.tab Try.func36 rfl fun β0 => ?_
  simp only [Try.f36]
  repeat (first | refine WP.seq ?_ | refine WP.block ?_ | (refine WP.region Try.tab ?_; simp -dsimp) | (refine WP.draw Try.tab Try.mixed ?_; simp -dsimp) | refine And.intro (by first | rfl | omega | decide | (simp; done) | (simp; omega) | (intro _ h; exact fcs_side h; done) | (intros; simp_all; done)) ?_)
  refine vcStop.call0 Try.body40 (valid_ok a) rfl rfl (by simp) ?_
  simp -dsimp
  repeat (first | refine WP.seq ?_ | refine WP.block ?_ | (refine WP.region Try.tab ?_; simp -dsimp) | (refine WP.draw Try.tab Try.mixed ?_; simp -dsimp) | refine And.intro (by first | rfl | omega | decide | (simp; done) | (simp; omega) | (intro _ h; exact fcs_side h; done) | (intros; simp_all; done)) ?_)
  refine WP.cond (b := decide (chkL a = 0)) (by simp) (fun hb => ?_) (fun hb => ?_)
  · have hb := of_decide_eq_true hb
    repeat (first | refine WP.seq ?_ | refine WP.block ?_ | (refine WP.region Try.tab ?_; simp -dsimp) | (refine WP.draw Try.tab Try.mixed ?_; simp -dsimp) | refine And.intro (by first | rfl | omega | decide | (simp; done) | (simp; omega) | (intro _ h; exact fcs_side h; done) | (intros; simp_all; done)) ?_)
    refine vcStop.call0 Try.body40 (valid_ok b) rfl rfl (by simp) ?_
    simp -dsimp
    repeat (first | refine WP.seq ?_ | refine WP.block ?_ | (refine WP.region Try.tab ?_; simp -dsimp) | (refine WP.draw Try.tab Try.mixed ?_; simp -dsimp) | refine And.intro (by first | rfl | omega | decide | (simp; done) | (simp; omega) | (intro _ h; exact fcs_side h; done) | (intros; simp_all; done)) ?_)
    have e : chkLs [a, b] = chkL b := by rw [chkLs, if_pos hb, chkLs, chkLs]; split <;> simp_all
    refine WP.ret (finQ.retE ?_)
    simp -dsimp [e]
  · have hb := of_decide_eq_false hb
    refine WP.skip ?_
    simp -dsimp
    repeat (first | refine WP.seq ?_ | refine WP.block ?_ | (refine WP.region Try.tab ?_; simp -dsimp) | (refine WP.draw Try.tab Try.mixed ?_; simp -dsimp) | refine And.intro (by first | rfl | omega | decide | (simp; done) | (simp; omega) | (intro _ h; exact fcs_side h; done) | (intros; simp_all; done)) ?_)
    refine WP.ret (finQ.retE ?_)
    simp -dsimp [chkLs, hb]
set_option maxRecDepth 10000 in
theorem refIn_ok (l : List Sp) (t : Int) : Fn0 Try.prog 31 [slS l, .v (.int .i64 t)] (.v (.bool (l.any (inS t)))) := by
  refine Fun.of_wp (pn := noPn) Try.tab Try.func31 rfl fun β0 => ?_
  simp only [Try.f31]
  refine WP.len (.tmp 0) rfl fun hl => ?_
  have hm : maxLen = 9223372036854775807 := rfl
  rw [hm] at hl
  repeat (first | refine WP.seq ?_ | refine WP.block ?_ | (refine WP.region Try.tab ?_; simp -dsimp) | (refine WP.draw Try.tab Try.mixed ?_; simp -dsimp) | refine And.intro (by first | rfl | omega | decide | (simp; done) | (simp; omega) | (intro _ h; exact fcs_side h; done) | (intros; simp_all; done)) ?_)
  refine WP.loopWk (fun m S => ∃ l1 l2, l = l1 ++ l2 ∧ m = l2.length ∧ l.any (inS t) = l2.any (inS t) ∧ S = mkS 28 [(0, .d (slS l)), (1, .d (.v (.int .i64 t))), (5, .d (.v (.int .i64 l1.length)))] []) l.length
    (S0 := mkS 28 [(0, .d (slS l)), (1, .d (.v (.int .i64 t))), (5, .d (.v (.int .i64 0)))] []) (Wk.lessE [] (by simp) (by simp)) ⟨[], l, rfl, rfl, rfl, rfl⟩ ?_
  rintro _ _ ⟨l1, l2, hl12, rfl, hi, rfl⟩
  simp -dsimp
  repeat (first | refine WP.seq ?_ | refine WP.block ?_ | (refine WP.region Try.tab ?_; simp -dsimp) | (refine WP.draw Try.tab Try.mixed ?_; simp -dsimp) | refine And.intro (by first | rfl | omega | decide | (simp; done) | (simp; omega) | (intro _ h; exact fcs_side h; done) | (intros; simp_all; done)) ?_)
  cases l2 with
  | nil =>
    simp only [List.append_nil] at hl12
    subst hl12
    refine WP.cond (b := false) (by simp) (fun h => by cases h) (fun _ => ?_)
    refine WP.exit ?_
    simp -dsimp
    repeat (first | refine WP.seq ?_ | refine WP.block ?_ | (refine WP.region Try.tab ?_; simp -dsimp) | (refine WP.draw Try.tab Try.mixed ?_; simp -dsimp) | refine And.intro (by first | rfl | omega | decide | (simp; done) | (simp; omega) | (intro _ h; exact fcs_side h; done) | (intros; simp_all; done)) ?_)
    refine WP.ret (finQ.retE ?_)
    simp -dsimp [hi]
  | cons x l2 =>
    have hll : l.length = l1.length + (l2.length + 1) := by rw [hl12]; simp
    have e1 : IntKind.i64.wrap ((l1.length : Int) + 1) = (l1.length : Int) + 1 := IntWalk.i64_in _ (by omega)
    have h1 := spC_at l1 x l2
    rw [← hl12] at h1
    refine WP.cond (b := true) (by simp; omega) (fun _ => ?_) (fun h => by cases h)
    refine WP.skip ?_
    simp -dsimp
    refine WP.seq (WP.block ?_)
    cases hc : decide (x.1 ≤ t)
    · repeat (first | refine WP.seq ?_ | refine WP.block ?_ | (refine WP.region Try.tab ?_; simp -dsimp [h1, hc]) | (refine WP.draw Try.tab Try.mixed ?_; simp -dsimp [h1, hc]) | refine And.intro (by first | rfl | omega | decide | (simp; done) | (simp; omega) | (intro _ h; exact fcs_side h; done) | (intros; simp_all; done)) ?_)
      refine WP.cond (b := false) (by simp) (fun h => by cases h) (fun _ => ?_)
      refine WP.skip ?_
      simp -dsimp
      repeat (first | refine WP.seq ?_ | refine WP.block ?_ | (refine WP.region Try.tab ?_; simp -dsimp) | (refine WP.draw Try.tab Try.mixed ?_; simp -dsimp) | refine And.intro (by first | rfl | omega | decide | (simp; done) | (simp; omega) | (intro _ h; exact fcs_side h; done) | (intros; simp_all; done)) ?_)
      have hx : inS t x = false := by rw [inS, hc]; rfl
      refine loopW.next (mkS 28 [(0, .d (slS l)), (1, .d (.v (.int .i64 t))), (5, .d (.v (.int .i64 (l1 ++ [x]).length)))] []) (Wk.lessE [] (by simp [e1]) (by simp)) l2.length (by simp) ⟨l1 ++ [x], l2, by simp [hl12], rfl, by rw [hi, List.any_cons, hx, Bool.false_or], rfl⟩
    · repeat (first | refine WP.seq ?_ | refine WP.block ?_ | (refine WP.region Try.tab ?_; simp -dsimp [h1, hc]) | (refine WP.draw Try.tab Try.mixed ?_; simp -dsimp [h1, hc]) | refine And.intro (by first | rfl | omega | decide | (simp; done) | (simp; omega) | (intro _ h; exact fcs_side h; done) | (intros; simp_all; done)) ?_)
      refine WP.cond (b := inS t x) (by simp [inS, hc]) (fun hb => ?_) (fun hb => ?_)
      · repeat (first | refine WP.seq ?_ | refine WP.block ?_ | (refine WP.region Try.tab ?_; simp -dsimp) | (refine WP.draw Try.tab Try.mixed ?_; simp -dsimp) | refine And.intro (by first | rfl | omega | decide | (simp; done) | (simp; omega) | (intro _ h; exact fcs_side h; done) | (intros; simp_all; done)) ?_)
        refine WP.ret (finQ.retE ?_)
        simp -dsimp [hi, hb]
      · refine WP.skip ?_
        simp -dsimp
        repeat (first | refine WP.seq ?_ | refine WP.block ?_ | (refine WP.region Try.tab ?_; simp -dsimp) | (refine WP.draw Try.tab Try.mixed ?_; simp -dsimp) | refine And.intro (by first | rfl | omega | decide | (simp; done) | (simp; omega) | (intro _ h; exact fcs_side h; done) | (intros; simp_all; done)) ?_)
        refine loopW.next (mkS 28 [(0, .d (slS l)), (1, .d (.v (.int .i64 t))), (5, .d (.v (.int .i64 (l1 ++ [x]).length)))] []) (Wk.lessE [] (by simp [e1]) (by simp)) l2.length (by simp) ⟨l1 ++ [x], l2, by simp [hl12], rfl, by rw [hi, List.any_cons, hb, Bool.false_or], rfl⟩

theorem okS_merge {a b : Sp} (h1 : okS a = true) (h2 : okS b = true) : okS (min a.1 b.1, max a.2 b.2) = true := by
  simp only [okS, Bool.and_eq_true, decide_eq_true_eq] at *
  omega
/-- The state of the insertion's loop. -/
def sW (l l1 o : List Sp) (s : Sp) (d : Bool) : St :=
  mkS 79 [(0, .d (slS l)), (3, .ptr 3 0), (5, .row 500), (6, .d (.v (.bool d))), (7, .d (.v (.int .i64 l1.length)))] [(3, .cells 37 [.d (.v (.int .i64 s.1)), .d (.v (.int .i64 s.2))]), (500, .row 37 2 o.length ((spC o).map .d))]
set_option maxRecDepth 10000 in
set_option maxHeartbeats 4000000 in
theorem with_ok (l : List Sp) (s0 : Sp) (hl : l.length ≤ 1000000) (ht : TidyL l) (hok : ∀ s ∈ l, okS s = true) (hs0 : okS s0 = true) : Fn0 Try.prog 38 [slS l, spD s0] (slS (withS l s0)) := by
  refine Fun.of_wp (pn := noPn) Try.tab Try.func38 rfl fun β0 => ?_
  simp only [Try.f38]
  repeat (first | refine WP.seq ?_ | refine WP.block ?_ | (refine WP.region Try.tab ?_; simp -dsimp) | (refine WP.draw Try.tab Try.mixed ?_; simp -dsimp) | refine And.intro (by first | rfl | omega | decide | (simp; done) | (simp; omega) | (intro _ h; exact fcs_side h; done) | (intros; simp_all; done)) ?_)
  refine WP.loopWk (fun m S => ∃ l1 l2 o s d, l = l1 ++ l2 ∧ m = l2.length ∧ o.length ≤ l1.length + (if d = true then 1 else 0) ∧ okS s = true ∧ TidyL l2 ∧
      (d = false → withS l s0 = o ++ withS l2 s) ∧ (d = true → withS l s0 = o ++ l2 ∧ ∀ x ∈ l2, s.2 + 1 < x.1) ∧ S = sW l l1 o s d) l.length
    (S0 := sW l [] [] s0 false) (Wk.go [] 8 500 (by decide) (by simp [sW]) (by simp [sW]) (by simp [sW])) ⟨[], l, [], s0, false, rfl, rfl, Nat.zero_le _, hs0, ht, fun _ => rfl, fun h => (by cases h), rfl⟩ ?_
  rintro _ _ ⟨l1, l2, o, s, d, hl12, rfl, hol, hs, ht2, hw0, hw1, rfl⟩
  obtain ⟨is, hs1, hs2, hs3⟩ := okS_isS hs
  have hol' : o.length ≤ l1.length + 1 := by cases d <;> simp at hol <;> omega
  have hll' : l1.length ≤ 1000000 := by rw [hl12, List.length_append] at hl; omega
  simp -dsimp [sW]
  repeat (first | refine WP.seq ?_ | refine WP.block ?_ | (refine WP.region Try.tab ?_; simp -dsimp) | (refine WP.draw Try.tab Try.mixed ?_; simp -dsimp) | refine And.intro (by first | rfl | omega | decide | (simp; done) | (simp; omega) | (intro _ h; exact fcs_side h; done) | (intros; simp_all; done)) ?_)
  cases l2 with
  | nil =>
    simp only [List.append_nil] at hl12
    subst hl12
    refine WP.cond (b := false) (by simp) (fun h => by cases h) (fun _ => ?_)
    refine WP.exit ?_
    simp -dsimp
    repeat (first | refine WP.seq ?_ | refine WP.block ?_ | (refine WP.region Try.tab ?_; simp -dsimp) | (refine WP.draw Try.tab Try.mixed ?_; simp -dsimp) | refine And.intro (by first | rfl | omega | decide | (simp; done) | (simp; omega) | (intro _ h; exact fcs_side h; done) | (intros; simp_all; done)) ?_)
    cases d with
    | false =>
      have hw := hw0 rfl
      rw [withS] at hw
      rw [hw]
      refine WP.cond (b := true) (by simp) (fun _ => ?_) (fun h => by cases h)
      repeat (first | refine WP.seq ?_ | refine WP.block ?_ | (refine WP.region Try.tab ?_; simp -dsimp) | (refine WP.draw Try.tab Try.mixed ?_; simp -dsimp) | refine And.intro (by first | rfl | omega | decide | (simp; done) | (simp; omega) | (intro _ h; exact fcs_side h; done) | (intros; simp_all; done)) ?_)
      refine WP.ret (finQ.retWE (Wk.freeze (k := 77) (T := 37) (sz := 2) (n := (o ++ [s]).length) (ds := spC (o ++ [s])) (by simp)) ?_)
      simp -dsimp
    | true =>
      have hw := (hw1 rfl).1
      rw [List.append_nil] at hw
      rw [hw]
      refine WP.cond (b := false) (by simp) (fun h => by cases h) (fun _ => ?_)
      refine WP.skip ?_
      simp -dsimp
      repeat (first | refine WP.seq ?_ | refine WP.block ?_ | (refine WP.region Try.tab ?_; simp -dsimp) | (refine WP.draw Try.tab Try.mixed ?_; simp -dsimp) | refine And.intro (by first | rfl | omega | decide | (simp; done) | (simp; omega) | (intro _ h; exact fcs_side h; done) | (intros; simp_all; done)) ?_)
      refine WP.ret (finQ.retWE (Wk.freeze (k := 500) (T := 37) (sz := 2) (n := o.length) (ds := spC o) (by simp)) ?_)
      simp -dsimp
  | cons x l2 =>
    have hll : l.length = l1.length + (l2.length + 1) := by rw [hl12]; simp
    have hx : okS x = true := hok x (by rw [hl12]; simp)
    obtain ⟨ix, hx1, hx2, hx3⟩ := okS_isS hx
    have e1 : IntKind.i64.wrap ((l1.length : Int) + 1) = (l1.length : Int) + 1 := IntWalk.i64_in _ (by omega)
    have e2 : IntKind.i64.wrap (x.2 + 1) = x.2 + 1 := IntWalk.i64_in _ (by omega)
    have e3 : IntKind.i64.wrap (s.2 + 1) = s.2 + 1 := IntWalk.i64_in _ (by omega)
    have h1 := spC_at l1 x l2
    rw [← hl12] at h1
    refine WP.cond (b := true) (by simp; omega) (fun _ => ?_) (fun h => by cases h)
    refine WP.skip ?_
    simp -dsimp
    refine WP.seq (WP.block ?_)
    repeat (first | refine WP.seq ?_ | refine WP.block ?_ | (refine WP.region Try.tab ?_; simp -dsimp [h1, e2]) | (refine WP.draw Try.tab Try.mixed ?_; simp -dsimp [h1, e2]) | refine And.intro (by first | rfl | omega | decide | (simp; done) | (simp; omega) | (intro _ h; exact fcs_side h; done) | (intros; simp_all; done)) ?_)
    refine WP.cond (b := decide (x.2 + 1 < s.1)) (by simp) (fun hb => ?_) (fun hb => ?_)
    · have hb := of_decide_eq_true hb
      have hd : d = false := by
        cases d with
        | false => rfl
        | true => have := (hw1 rfl).2 x (by simp); omega
      subst hd
      have hw := hw0 rfl
      rw [withS, if_pos hb] at hw
      repeat (first | refine WP.seq ?_ | refine WP.block ?_ | (refine WP.region Try.tab ?_; simp -dsimp [h1]) | (refine WP.draw Try.tab Try.mixed ?_; simp -dsimp [h1]) | refine And.intro (by first | rfl | omega | decide | (simp; done) | (simp; omega) | (intro _ h; exact fcs_side h; done) | (intros; simp_all; done)) ?_)
      refine loopW.next (sW l (l1 ++ [x]) (o ++ [x]) s false) (Wk.go [47] 48 500 (by decide) (by simp [sW]) (by simp [sW, e1]) (by simp [sW])) l2.length (by simp)
        ⟨l1 ++ [x], l2, o ++ [x], s, false, by simp [hl12], rfl, by simpa using hol, hs, ht2.tail, fun _ => by rw [hw]; simp, fun h => (by cases h), rfl⟩
    have hb := of_decide_eq_false hb
    repeat (first | refine WP.seq ?_ | refine WP.block ?_ | (refine WP.region Try.tab ?_; simp -dsimp [h1, e3]) | (refine WP.draw Try.tab Try.mixed ?_; simp -dsimp [h1, e3]) | refine And.intro (by first | rfl | omega | decide | (simp; done) | (simp; omega) | (intro _ h; exact fcs_side h; done) | (intros; simp_all; done)) ?_)
    refine WP.cond (b := decide (s.2 + 1 < x.1)) (by simp) (fun hb2 => ?_) (fun hb2 => ?_)
    · have hb2 := of_decide_eq_true hb2
      have hlat : ∀ y ∈ l2, s.2 + 1 < y.1 := fun y hy => by have := ht2.later y hy; omega
      repeat (first | refine WP.seq ?_ | refine WP.block ?_ | (refine WP.region Try.tab ?_; simp -dsimp) | (refine WP.draw Try.tab Try.mixed ?_; simp -dsimp) | refine And.intro (by first | rfl | omega | decide | (simp; done) | (simp; omega) | (intro _ h; exact fcs_side h; done) | (intros; simp_all; done)) ?_)
      cases d with
      | false =>
        have hw := hw0 rfl
        rw [withS, if_neg hb, if_pos hb2] at hw
        have hol2 : o.length ≤ l1.length := by simpa using hol
        refine WP.cond (b := true) (by simp) (fun _ => ?_) (fun h => by cases h)
        repeat (first | refine WP.seq ?_ | refine WP.block ?_ | (refine WP.region Try.tab ?_; simp -dsimp [h1]) | (refine WP.draw Try.tab Try.mixed ?_; simp -dsimp [h1]) | refine And.intro (by first | rfl | omega | decide | (simp; done) | (simp; omega) | (intro _ h; exact fcs_side h; done) | (intros; simp_all; done)) ?_)
        refine loopW.next (sW l (l1 ++ [x]) (o ++ [s, x]) s true) (Wk.go [63, 70] 71 500 (by decide) (by simp [sW]) (by simp [sW, e1]) (by simp [sW])) l2.length (by simp)
          ⟨l1 ++ [x], l2, o ++ [s, x], s, true, by simp [hl12], rfl, by simp; omega, hs, ht2.tail, fun h => (by cases h), fun _ => ⟨by rw [hw]; simp, hlat⟩, rfl⟩
      | true =>
        have hw := (hw1 rfl).1
        refine WP.cond (b := false) (by simp) (fun h => by cases h) (fun _ => ?_)
        refine WP.skip ?_
        simp -dsimp
        repeat (first | refine WP.seq ?_ | refine WP.block ?_ | (refine WP.region Try.tab ?_; simp -dsimp [h1]) | (refine WP.draw Try.tab Try.mixed ?_; simp -dsimp [h1]) | refine And.intro (by first | rfl | omega | decide | (simp; done) | (simp; omega) | (intro _ h; exact fcs_side h; done) | (intros; simp_all; done)) ?_)
        refine loopW.next (sW l (l1 ++ [x]) (o ++ [x]) s true) (Wk.go [70] 71 500 (by decide) (by simp [sW]) (by simp [sW, e1]) (by simp [sW])) l2.length (by simp)
          ⟨l1 ++ [x], l2, o ++ [x], s, true, by simp [hl12], rfl, by simp; omega, hs, ht2.tail, fun h => (by cases h), fun _ => ⟨by rw [hw]; simp, hlat⟩, rfl⟩
    · have hb2 := of_decide_eq_false hb2
      have hd : d = false := by
        cases d with
        | false => rfl
        | true => have := (hw1 rfl).2 x (by simp); omega
      subst hd
      have hw := hw0 rfl
      rw [withS, if_neg hb, if_neg hb2] at hw
      repeat (first | refine WP.seq ?_ | refine WP.block ?_ | (refine WP.region Try.tab ?_; simp -dsimp [h1]) | (refine WP.draw Try.tab Try.mixed ?_; simp -dsimp [h1]) | refine And.intro (by first | rfl | omega | decide | (simp; done) | (simp; omega) | (intro _ h; exact fcs_side h; done) | (intros; simp_all; done)) ?_)
      refine loopW.next (sW l (l1 ++ [x]) o (min s.1 x.1, max s.2 x.2) false) (Wk.lessE [] (by simp [sW, e1]) (by simp [sW])) l2.length (by simp)
        ⟨l1 ++ [x], l2, o, (min s.1 x.1, max s.2 x.2), false, by simp [hl12], rfl, by simp at hol ⊢; omega, okS_merge hs hx, ht2.tail, fun _ => hw, fun h => (by cases h), rfl⟩
theorem withS_okS : ∀ {l : List Sp} {s : Sp}, (∀ x ∈ l, okS x = true) → okS s = true → ∀ x ∈ withS l s, okS x = true
  | [], s, _, hs, x, hx => by simp [withS] at hx; subst hx; exact hs
  | y :: r, s, hl, hs, x, hx => by
    have hy := hl y (by simp)
    have hr : ∀ x ∈ r, okS x = true := fun x h => hl x (by simp [h])
    rw [withS] at hx
    split at hx
    · rcases List.mem_cons.1 hx with rfl | h
      · exact hy
      · exact withS_okS hr hs x h
    · split at hx
      · simp only [List.mem_cons] at hx
        rcases hx with rfl | rfl | h
        · exact hs
        · exact hy
        · exact hr x h
      · exact withS_okS hr (okS_merge hs hy) x hx
theorem withS_len : ∀ (l : List Sp) (s : Sp), (withS l s).length ≤ l.length + 1
  | [], s => by simp [withS]
  | y :: r, s => by
    rw [withS]
    split
    · have := withS_len r s; simp; omega
    · split
      · simp
      · have := withS_len r (min s.1 y.1, max s.2 y.2); simp; omega
set_option maxRecDepth 10000 in
theorem refTidy_ok (l : List Sp) (hl : l.length ≤ 100000) (hok : ∀ s ∈ l, okS s = true) : Fn0 Try.prog 37 [slS l] (slS (tidyR l)) := by
  refine Fun.of_wp (pn := noPn) Try.tab Try.func37 rfl fun β0 => ?_
  simp only [Try.f37]
  repeat (first | refine WP.seq ?_ | refine WP.block ?_ | (refine WP.region Try.tab ?_; simp -dsimp) | (refine WP.draw Try.tab Try.mixed ?_; simp -dsimp) | refine And.intro (by first | rfl | omega | decide | (simp; done) | (simp; omega) | (intro _ h; exact fcs_side h; done) | (intros; simp_all; done)) ?_)
  refine WP.loopWk (fun m S => ∃ l1 l2 o, l = l1 ++ l2 ∧ m = l2.length ∧ o.length ≤ l1.length ∧ TidyL o ∧ (∀ s ∈ o, okS s = true) ∧ tidyR l = l2.foldl withS o ∧ S = mkS 19 [(0, .d (slS l)), (3, .d (slS o)), (4, .d (.v (.int .i64 l1.length)))] []) l.length
    (S0 := mkS 19 [(0, .d (slS l)), (3, .d (slS [])), (4, .d (.v (.int .i64 0)))] []) ((Wk.freeze (k := 5) (T := 37) (sz := 2) (n := 0) (ds := []) (by simp)).trans (Wk.lessE [] (by simp) (by simp))) ⟨[], l, [], rfl, rfl, Nat.le_refl _, trivial, by simp, rfl, rfl⟩ ?_
  rintro _ _ ⟨l1, l2, o, hl12, rfl, hol, hto, hoo, hi, rfl⟩
  simp -dsimp
  repeat (first | refine WP.seq ?_ | refine WP.block ?_ | (refine WP.region Try.tab ?_; simp -dsimp) | (refine WP.draw Try.tab Try.mixed ?_; simp -dsimp) | refine And.intro (by first | rfl | omega | decide | (simp; done) | (simp; omega) | (intro _ h; exact fcs_side h; done) | (intros; simp_all; done)) ?_)
  cases l2 with
  | nil =>
    simp only [List.append_nil] at hl12
    subst hl12
    refine WP.cond (b := false) (by simp) (fun h => by cases h) (fun _ => ?_)
    refine WP.exit ?_
    simp -dsimp
    repeat (first | refine WP.seq ?_ | refine WP.block ?_ | (refine WP.region Try.tab ?_; simp -dsimp) | (refine WP.draw Try.tab Try.mixed ?_; simp -dsimp) | refine And.intro (by first | rfl | omega | decide | (simp; done) | (simp; omega) | (intro _ h; exact fcs_side h; done) | (intros; simp_all; done)) ?_)
    refine WP.ret (finQ.retE ?_)
    simp -dsimp [hi]
  | cons x l2 =>
    have hll : l.length = l1.length + (l2.length + 1) := by rw [hl12]; simp
    have hx : okS x = true := hok x (by rw [hl12]; simp)
    have e1 : IntKind.i64.wrap ((l1.length : Int) + 1) = (l1.length : Int) + 1 := IntWalk.i64_in _ (by omega)
    have h1 := spC_at l1 x l2
    rw [← hl12] at h1
    refine WP.cond (b := true) (by simp; omega) (fun _ => ?_) (fun h => by cases h)
    refine WP.skip ?_
    simp -dsimp
    refine WP.seq (WP.block ?_)
    repeat (first | refine WP.seq ?_ | refine WP.block ?_ | (refine WP.region Try.tab ?_; simp -dsimp [h1]) | (refine WP.draw Try.tab Try.mixed ?_; simp -dsimp [h1]) | refine And.intro (by first | rfl | omega | decide | (simp; done) | (simp; omega) | (intro _ h; exact fcs_side h; done) | (intros; simp_all; done)) ?_)
    refine vcStop.call0 Try.body38 (with_ok o x (by omega) hto hoo hx) rfl rfl (by simp) ?_
    simp -dsimp
    repeat (first | refine WP.seq ?_ | refine WP.block ?_ | (refine WP.region Try.tab ?_; simp -dsimp) | (refine WP.draw Try.tab Try.mixed ?_; simp -dsimp) | refine And.intro (by first | rfl | omega | decide | (simp; done) | (simp; omega) | (intro _ h; exact fcs_side h; done) | (intros; simp_all; done)) ?_)
    refine loopW.next (mkS 19 [(0, .d (slS l)), (3, .d (slS (withS o x))), (4, .d (.v (.int .i64 (l1 ++ [x]).length)))] []) (Wk.lessE [] (by simp [e1]) (by simp)) l2.length (by simp)
      ⟨l1 ++ [x], l2, withS o x, by simp [hl12], rfl, by have := withS_len o x; simp; omega, withS_tidy hto (okS_isS hx).2.2.1, withS_okS hoo hx, hi, rfl⟩
end Go.Proofs.Ytphbappgmoojeaa
