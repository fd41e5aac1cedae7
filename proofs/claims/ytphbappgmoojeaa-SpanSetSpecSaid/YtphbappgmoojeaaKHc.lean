/-
  Spans: the closures, membership, the checks of lists.
-/
import Derived.Test.YtphbappgmoojeaaKHb
import Derived.Test.YtphbappgmoojeaaK8
set_option linter.unusedSectionVars false
set_option linter.unusedSimpArgs false
set_option linter.unusedVariables false
namespace Go.Proofs.Ytphbappgmoojeaa
open Go.Xe Go.RowKit

/-! ### equality of spans -/
theorem Try.key37 : Try.prog.keyTypeAt 5 37 = true := by kernel_rfl
theorem Try.gd37 : Try.prog.eqGuardType Try.prog.depth 37 = false := by kernel_rfl
def FL : List TypeId := [3, 37]
theorem gokF : gOk Try.τ FL = true := by decide
theorem noarrF : FL.all (fun t => noArr (Try.τ t)) = true := by decide
theorem st37 : (match Try.prog.underlying 37 with | some (.struct _) | some (.array _ _) => true | _ => false) = true := by kernel_rfl
def isZ (x : Int) : Prop := -9223372036854775808 ≤ x ∧ x ≤ 9223372036854775807
def isS (s : Sp) : Prop := isZ s.1 ∧ isZ s.2
theorem okSp {s : Sp} (h : isS s) : OkD Try.τ 2 37 [.v (.int .i64 s.1), .v (.int .i64 s.2)] := by
  have h1 : ∀ x : Int, isZ x → OkD Try.τ 1 3 [.v (.int .i64 x)] := fun x hx => ⟨x, rfl, hx.1, hx.2⟩
  refine ⟨[[.v (.int .i64 s.1)], [.v (.int .i64 s.2)]], rfl, rfl, ?_⟩
  intro i x f hx hf
  match i, hx, hf with
  | 0, hx, hf => cases hx; cases hf; exact h1 _ h.1
  | 1, hx, hf => cases hx; cases hf; exact h1 _ h.2
  | n + 2, hx, _ => simp at hx
theorem litsS {a b : Sp} : decide (a = b) = true ↔ litsD [.v (.int .i64 a.1), .v (.int .i64 a.2)] = litsD [.v (.int .i64 b.1), .v (.int .i64 b.2)] := by
  simp only [decide_eq_true_eq, litsD, List.flatMap_cons, List.flatMap_nil, litD, List.append_nil, List.cons_append, List.nil_append, List.cons.injEq, Lit.int.injEq, and_true, true_and]
  exact ⟨fun h => by subst h; exact ⟨rfl, rfl⟩, fun h => Prod.ext h.1 h.2⟩
theorem okS_isS {s : Sp} (h : okS s = true) : isS s ∧ -70368744177664 ≤ s.1 ∧ s.1 ≤ s.2 ∧ s.2 ≤ 70368744177664 := by
  simp only [okS, Bool.and_eq_true, decide_eq_true_eq] at h
  exact ⟨⟨⟨by omega, by omega⟩, ⟨by omega, by omega⟩⟩, by omega, by omega, by omega⟩

def touchB (a b : Sp) : Bool := decide (a = b) || decide (b.1 ≤ a.2 + 1)
theorem touch_ok (a b : Sp) (ha : okS a = true) (hb : okS b = true) : Fn0 Try.prog 50 [spD a, spD b] (.v (.bool (touchB a b))) := by
  obtain ⟨ia, ha1, ha2, ha3⟩ := okS_isS ha
  obtain ⟨ib, hb1, hb2, hb3⟩ := okS_isS hb
  have e1 : IntKind.i64.wrap (a.2 + 1) = a.2 + 1 := IntWalk.i64_in _ (by omega)
  refine Fun.of_wp (pn := noPn) Try.tab Try.func50 rfl fun β0 => ?_
  simp only [Try.f50]
  repeat (first | refine WP.seq ?_ | refine WP.block ?_ | (refine WP.region Try.tab ?_; simp -dsimp) | (refine WP.draw Try.tab Try.mixed ?_; simp -dsimp) | refine And.intro (by first | rfl | omega | decide | (simp; done) | (simp; omega) | (intro _ h; exact fcs_side h; done) | (intros; simp_all; done)) ?_)
  refine vcStop.eqS Try.tab gokF noarrF rfl (.inl rfl) (m := 5) (by omega) Try.key37 (by decide) Try.gd37 st37 (cs := [.v (.int .i64 a.1), .v (.int .i64 a.2)]) (es := [.v (.int .i64 b.1), .v (.int .i64 b.2)]) (Leq.eqD (by simp)) (Leq.eqD (by simp)) (okSp ia) (okSp ib) (r := decide (a = b)) litsS ?_
  simp -dsimp [eqRes]
  repeat (first | refine WP.seq ?_ | refine WP.block ?_ | (refine WP.region Try.tab ?_; simp -dsimp) | (refine WP.draw Try.tab Try.mixed ?_; simp -dsimp) | refine And.intro (by first | rfl | omega | decide | (simp; done) | (simp; omega) | (intro _ h; exact fcs_side h; done) | (intros; simp_all; done)) ?_)
  cases h : decide (a = b)
  · simp -dsimp
    repeat (first | refine WP.seq ?_ | refine WP.block ?_ | (refine WP.region Try.tab ?_; simp -dsimp) | (refine WP.draw Try.tab Try.mixed ?_; simp -dsimp) | refine And.intro (by first | rfl | omega | decide | (simp; done) | (simp; omega) | (intro _ h; exact fcs_side h; done) | (intros; simp_all; done)) ?_)
    refine WP.ret (finQ.retE ?_)
    simp -dsimp [touchB, h, e1]
  · simp -dsimp
    repeat (first | refine WP.seq ?_ | refine WP.block ?_ | (refine WP.region Try.tab ?_; simp -dsimp) | (refine WP.draw Try.tab Try.mixed ?_; simp -dsimp) | refine And.intro (by first | rfl | omega | decide | (simp; done) | (simp; omega) | (intro _ h; exact fcs_side h; done) | (intros; simp_all; done)) ?_)
    refine WP.ret (finQ.retE ?_)
    simp -dsimp [touchB, h]
theorem both_ok (a b : Sp) : Fn0 Try.prog 52 [spD a, spD b] (spD (a.1, max a.2 b.2)) := by
  refine Fun.of_wp (pn := noPn) Try.tab Try.func52 rfl fun β0 => ?_
  simp only [Try.f52]
  repeat (first | refine WP.seq ?_ | refine WP.block ?_ | (refine WP.region Try.tab ?_; simp -dsimp) | (refine WP.draw Try.tab Try.mixed ?_; simp -dsimp) | refine And.intro (by first | rfl | omega | decide | (simp; done) | (simp; omega) | (intro _ h; exact fcs_side h; done) | (intros; simp_all; done)) ?_)
  refine WP.ret (finQ.retE ?_)
  simp -dsimp
def inS (t : Int) (s : Sp) : Bool := decide (s.1 ≤ t) && decide (t ≤ s.2)
theorem in1_ok (t : Int) (s : Sp) : Fun Try.prog 42 [.d (spD s), .ptr 1000 0] [(1000, .cells 3 [.d (.v (.int .i64 t))])] (.d (.v (.bool (inS t s)))) [(1000, .cells 3 [.d (.v (.int .i64 t))])] fun _ => False := by
  refine Fun.of_wp (pn := noPn) Try.tab Try.func42 rfl fun β0 => ?_
  simp only [Try.f42]
  repeat (first | refine WP.seq ?_ | refine WP.block ?_ | (refine WP.region Try.tab ?_; simp -dsimp) | (refine WP.draw Try.tab Try.mixed ?_; simp -dsimp) | refine And.intro (by first | rfl | omega | decide | (simp; done) | (simp; omega) | (intro _ h; exact fcs_side h; done) | (intros; simp_all; done)) ?_)
  cases h : decide (s.1 ≤ t)
  · simp -dsimp
    repeat (first | refine WP.seq ?_ | refine WP.block ?_ | (refine WP.region Try.tab ?_; simp -dsimp) | (refine WP.draw Try.tab Try.mixed ?_; simp -dsimp) | refine And.intro (by first | rfl | omega | decide | (simp; done) | (simp; omega) | (intro _ h; exact fcs_side h; done) | (intros; simp_all; done)) ?_)
    refine WP.ret (finQ.retE ?_)
    simp -dsimp [inS, h]
  · simp -dsimp
    repeat (first | refine WP.seq ?_ | refine WP.block ?_ | (refine WP.region Try.tab ?_; simp -dsimp) | (refine WP.draw Try.tab Try.mixed ?_; simp -dsimp) | refine And.intro (by first | rfl | omega | decide | (simp; done) | (simp; omega) | (intro _ h; exact fcs_side h; done) | (intros; simp_all; done)) ?_)
    refine WP.ret (finQ.retE ?_)
    simp -dsimp [inS, h]

/-! ### the first element of which a function holds -/
def idxF (p : Sp → Bool) : List Sp → Int → Int
  | [], _ => -1
  | x :: l, n => if p x then n else idxF p l (n + 1)
theorem idxF_any (p : Sp → Bool) : ∀ (l : List Sp) (n : Int), 0 ≤ n → decide (0 ≤ idxF p l n) = l.any p
  | [], _, _ => rfl
  | x :: l, n, h => by
    rw [idxF, List.any_cons]
    cases p x with
    | true => simp [h]
    | false => simp [idxF_any p l (n + 1) (by omega)]
theorem idxF_rng (p : Sp → Bool) : ∀ (l : List Sp) (n : Int), 0 ≤ n → -1 ≤ idxF p l n
  | [], _, _ => by simp [idxF]
  | x :: l, n, h => by
    rw [idxF]
    split
    · omega
    · exact idxF_rng p l (n + 1) (by omega)
set_option maxRecDepth 10000 in
theorem index_ok (l : List Sp) : Fn0 Try.prog 54 [slS l, .v (.func (.func 44) #[] #[])] (.v (.int .i64 (idxF (fun s => !okS s) l 0))) := by
  refine Fun.of_wp (pn := noPn) Try.tab Try.func54 rfl fun β0 => ?_
  simp only [Try.f54]
  refine WP.len (.tmp 0) rfl fun hl => ?_
  have hm : maxLen = 9223372036854775807 := rfl
  rw [hm] at hl
  repeat (first | refine WP.seq ?_ | refine WP.block ?_ | (refine WP.region Try.tab ?_; simp -dsimp) | (refine WP.draw Try.tab Try.mixed ?_; simp -dsimp) | refine And.intro (by first | rfl | omega | decide | (simp; done) | (simp; omega) | (intro _ h; exact fcs_side h; done) | (intros; simp_all; done)) ?_)
  refine WP.loopWk (fun m S => ∃ l1 l2, l = l1 ++ l2 ∧ m = l2.length ∧ idxF (fun s => !okS s) l 0 = idxF (fun s => !okS s) l2 l1.length ∧ S = mkS 19 [(0, .d (slS l)), (1, .d (.v (.func (.func 44) #[] #[]))), (6, .d (slS l)), (7, .d (.v (.int .i64 l.length))), (8, .d (.v (.int .i64 l1.length)))] []) l.length
    (S0 := mkS 19 [(0, .d (slS l)), (1, .d (.v (.func (.func 44) #[] #[]))), (6, .d (slS l)), (7, .d (.v (.int .i64 l.length))), (8, .d (.v (.int .i64 0)))] []) (Wk.lessE [] (by simp) (by simp)) ⟨[], l, rfl, rfl, rfl, rfl⟩ ?_
  rintro _ _ ⟨l1, l2, hl12, rfl, hi, rfl⟩
  simp -dsimp
  repeat (first | refine WP.seq ?_ | refine WP.block ?_ | (refine WP.region Try.tab ?_; simp -dsimp) | (refine WP.draw Try.tab Try.mixed ?_; simp -dsimp) | refine And.intro (by first | rfl | omega | decide | (simp; done) | (simp; omega) | (intro _ h; exact fcs_side h; done) | (intros; simp_all; done)) ?_)
  cases l2 with
  | nil =>
    simp only [List.append_nil] at hl12
    subst hl12
    refine WP.cond (b := false) (by simp) (fun h => by cases h) (fun _ => ?_)
    refine WP.exit ?_
    simp -dsimp
    repeat (first | refine WP.seq ?_ | refine WP.block ?_ | (refine WP.region Try.tab ?_; simp -dsimp) | (refine WP.draw Try.tab Try.mixed ?_; simp -dsimp) | refine And.intro (by first | rfl | omega | decide | (simp; done) | (simp; omega) | (intro _ h; exact fcs_side h; done) | (intros; simp_all; done)) ?_)
    refine WP.ret (finQ.retE ?_)
    simp -dsimp [hi, idxF]
  | cons x l2 =>
    have hll : l.length = l1.length + (l2.length + 1) := by rw [hl12]; simp
    have e1 : IntKind.i64.wrap ((l1.length : Int) + 1) = (l1.length : Int) + 1 := IntWalk.i64_in _ (by omega)
    have h1 := spC_at l1 x l2
    rw [← hl12] at h1
    refine WP.cond (b := true) (by simp; omega) (fun _ => ?_) (fun h => by cases h)
    refine WP.skip ?_
    simp -dsimp
    refine WP.seq (WP.block ?_)
    repeat (first | refine WP.seq ?_ | refine WP.block ?_ | (refine WP.region Try.tab ?_; simp -dsimp [h1]) | (refine WP.draw Try.tab Try.mixed ?_; simp -dsimp [h1]) | refine And.intro (by first | rfl | omega | decide | (simp; done) | (simp; omega) | (intro _ h; exact fcs_side h; done) | (intros; simp_all; done)) ?_)
    refine vcStop.call0 Try.body44 (checkNot_ok x) rfl rfl (by simp) ?_
    simp -dsimp
    repeat (first | refine WP.seq ?_ | refine WP.block ?_ | (refine WP.region Try.tab ?_; simp -dsimp) | (refine WP.draw Try.tab Try.mixed ?_; simp -dsimp) | refine And.intro (by first | rfl | omega | decide | (simp; done) | (simp; omega) | (intro _ h; exact fcs_side h; done) | (intros; simp_all; done)) ?_)
    refine WP.cond (b := !okS x) (by simp) (fun hb => ?_) (fun hb => ?_)
    · repeat (first | refine WP.seq ?_ | refine WP.block ?_ | (refine WP.region Try.tab ?_; simp -dsimp) | (refine WP.draw Try.tab Try.mixed ?_; simp -dsimp) | refine And.intro (by first | rfl | omega | decide | (simp; done) | (simp; omega) | (intro _ h; exact fcs_side h; done) | (intros; simp_all; done)) ?_)
      refine WP.ret (finQ.retE ?_)
      simp -dsimp [hi, idxF, hb]
    · refine WP.skip ?_
      simp -dsimp
      repeat (first | refine WP.seq ?_ | refine WP.block ?_ | (refine WP.region Try.tab ?_; simp -dsimp) | (refine WP.draw Try.tab Try.mixed ?_; simp -dsimp) | refine And.intro (by first | rfl | omega | decide | (simp; done) | (simp; omega) | (intro _ h; exact fcs_side h; done) | (intros; simp_all; done)) ?_)
      refine loopW.next (mkS 19 [(0, .d (slS l)), (1, .d (.v (.func (.func 44) #[] #[]))), (6, .d (slS l)), (7, .d (.v (.int .i64 l.length))), (8, .d (.v (.int .i64 (l1 ++ [x]).length)))] []) (Wk.lessE [] (by simp [e1]) (by simp)) l2.length (by simp) ⟨l1 ++ [x], l2, by simp [hl12], rfl, by rw [hi, idxF, if_neg (by rw [hb]; simp)]; simp, rfl⟩
theorem contains_ok (l : List Sp) : Fn0 Try.prog 41 [slS l, .v (.func (.func 44) #[] #[])] (.v (.bool (l.any fun s => !okS s))) := by
  have h := idxF_any (fun s => !okS s) l 0 (by omega)
  refine Fun.of_wp (pn := noPn) Try.tab Try.func41 rfl fun β0 => ?_
  simp only [Try.f41]
  repeat (first | refine WP.seq ?_ | refine WP.block ?_ | (refine WP.region Try.tab ?_; simp -dsimp) | (refine WP.draw Try.tab Try.mixed ?_; simp -dsimp) | refine And.intro (by first | rfl | omega | decide | (simp; done) | (simp; omega) | (intro _ h; exact fcs_side h; done) | (intros; simp_all; done)) ?_)
  refine vcStop.call0 Try.body54 (index_ok l) rfl rfl (by simp) ?_
  simp -dsimp
  repeat (first | refine WP.seq ?_ | refine WP.block ?_ | (refine WP.region Try.tab ?_; simp -dsimp) | (refine WP.draw Try.tab Try.mixed ?_; simp -dsimp) | refine And.intro (by first | rfl | omega | decide | (simp; done) | (simp; omega) | (intro _ h; exact fcs_side h; done) | (intros; simp_all; done)) ?_)
  refine WP.ret (finQ.retE ?_)
  simp -dsimp [h]
set_option maxRecDepth 10000 in
theorem indexIn_ok (l : List Sp) (t : Int) : Fun Try.prog 54 [.d (slS l), .fn (.func 42) [] [.ptr 1000 0]] [(1000, .cells 3 [.d (.v (.int .i64 t))])] (.d (.v (.int .i64 (idxF (inS t) l 0)))) [(1000, .cells 3 [.d (.v (.int .i64 t))])] fun _ => False := by
  refine Fun.of_wp (pn := noPn) Try.tab Try.func54 rfl fun β0 => ?_
  simp only [Try.f54]
  refine WP.len (.tmp 0) rfl fun hl => ?_
  have hm : maxLen = 9223372036854775807 := rfl
  rw [hm] at hl
  repeat (first | refine WP.seq ?_ | refine WP.block ?_ | (refine WP.region Try.tab ?_; simp -dsimp) | (refine WP.draw Try.tab Try.mixed ?_; simp -dsimp) | refine And.intro (by first | rfl | omega | decide | (simp; done) | (simp; omega) | (intro _ h; exact fcs_side h; done) | (intros; simp_all; done)) ?_)
  refine WP.loopWk (fun m S => ∃ l1 l2, l = l1 ++ l2 ∧ m = l2.length ∧ idxF (inS t) l 0 = idxF (inS t) l2 l1.length ∧ S = mkS 19 [(0, .d (slS l)), (1, .fn (.func 42) [] [.ptr 1000 0]), (6, .d (slS l)), (7, .d (.v (.int .i64 l.length))), (8, .d (.v (.int .i64 l1.length)))] [(1000, .cells 3 [.d (.v (.int .i64 t))])]) l.length
    (S0 := mkS 19 [(0, .d (slS l)), (1, .fn (.func 42) [] [.ptr 1000 0]), (6, .d (slS l)), (7, .d (.v (.int .i64 l.length))), (8, .d (.v (.int .i64 0)))] [(1000, .cells 3 [.d (.v (.int .i64 t))])]) (Wk.lessE [] (by simp) (by simp)) ⟨[], l, rfl, rfl, rfl, rfl⟩ ?_
  rintro _ _ ⟨l1, l2, hl12, rfl, hi, rfl⟩
  simp -dsimp
  repeat (first | refine WP.seq ?_ | refine WP.block ?_ | (refine WP.region Try.tab ?_; simp -dsimp) | (refine WP.draw Try.tab Try.mixed ?_; simp -dsimp) | refine And.intro (by first | rfl | omega | decide | (simp; done) | (simp; omega) | (intro _ h; exact fcs_side h; done) | (intros; simp_all; done)) ?_)
  cases l2 with
  | nil =>
    simp only [List.append_nil] at hl12
    subst hl12
    refine WP.cond (b := false) (by simp) (fun h => by cases h) (fun _ => ?_)
    refine WP.exit ?_
    simp -dsimp
    repeat (first | refine WP.seq ?_ | refine WP.block ?_ | (refine WP.region Try.tab ?_; simp -dsimp) | (refine WP.draw Try.tab Try.mixed ?_; simp -dsimp) | refine And.intro (by first | rfl | omega | decide | (simp; done) | (simp; omega) | (intro _ h; exact fcs_side h; done) | (intros; simp_all; done)) ?_)
    refine WP.ret (finQ.retE ?_)
    simp -dsimp [hi, idxF]
  | cons x l2 =>
    have hll : l.length = l1.length + (l2.length + 1) := by rw [hl12]; simp
    have e1 : IntKind.i64.wrap ((l1.length : Int) + 1) = (l1.length : Int) + 1 := IntWalk.i64_in _ (by omega)
    have h1 := spC_at l1 x l2
    rw [← hl12] at h1
    refine WP.cond (b := true) (by simp; omega) (fun _ => ?_) (fun h => by cases h)
    refine WP.skip ?_
    simp -dsimp
    refine WP.seq (WP.block ?_)
    repeat (first | refine WP.seq ?_ | refine WP.block ?_ | (refine WP.region Try.tab ?_; simp -dsimp [h1]) | (refine WP.draw Try.tab Try.mixed ?_; simp -dsimp [h1]) | refine And.intro (by first | rfl | omega | decide | (simp; done) | (simp; omega) | (intro _ h; exact fcs_side h; done) | (intros; simp_all; done)) ?_)
    refine vcStop.call Try.body42 (in1_ok t x) (rl [(1000, 1000)]) rfl rfl (by simp [BoxLeq]) (CallOk.of (by simp [BoxLeq]) rfl (by first | rfl | (simp [BoxLeq]; done)) (by simp [BoxLeq]) (by simp [BoxLeq])) (fun _ h => h.elim) (fun ⟨_, h⟩ => h.elim) (fun ⟨_, h⟩ => h.elim) (by simp [BoxLeq]) ?_
    simp -dsimp
    repeat (first | refine WP.seq ?_ | refine WP.block ?_ | (refine WP.region Try.tab ?_; simp -dsimp) | (refine WP.draw Try.tab Try.mixed ?_; simp -dsimp) | refine And.intro (by first | rfl | omega | decide | (simp; done) | (simp; omega) | (intro _ h; exact fcs_side h; done) | (intros; simp_all; done)) ?_)
    refine WP.cond (b := inS t x) (by simp) (fun hb => ?_) (fun hb => ?_)
    · repeat (first | refine WP.seq ?_ | refine WP.block ?_ | (refine WP.region Try.tab ?_; simp -dsimp) | (refine WP.draw Try.tab Try.mixed ?_; simp -dsimp) | refine And.intro (by first | rfl | omega | decide | (simp; done) | (simp; omega) | (intro _ h; exact fcs_side h; done) | (intros; simp_all; done)) ?_)
      refine WP.ret (finQ.retE ?_)
      simp -dsimp [hi, idxF, hb]
    · refine WP.skip ?_
      simp -dsimp
      repeat (first | refine WP.seq ?_ | refine WP.block ?_ | (refine WP.region Try.tab ?_; simp -dsimp) | (refine WP.draw Try.tab Try.mixed ?_; simp -dsimp) | refine And.intro (by first | rfl | omega | decide | (simp; done) | (simp; omega) | (intro _ h; exact fcs_side h; done) | (intros; simp_all; done)) ?_)
      refine loopW.next (mkS 19 [(0, .d (slS l)), (1, .fn (.func 42) [] [.ptr 1000 0]), (6, .d (slS l)), (7, .d (.v (.int .i64 l.length))), (8, .d (.v (.int .i64 (l1 ++ [x]).length)))] [(1000, .cells 3 [.d (.v (.int .i64 t))])]) (Wk.lessE [] (by simp [e1]) (by simp)) l2.length (by simp) ⟨l1 ++ [x], l2, by simp [hl12], rfl, by rw [hi, idxF, if_neg (by rw [hb]; simp)]; simp, rfl⟩
theorem containsIn_ok (l : List Sp) (t : Int) : Fun Try.prog 41 [.d (slS l), .fn (.func 42) [] [.ptr 1000 0]] [(1000, .cells 3 [.d (.v (.int .i64 t))])] (.d (.v (.bool (l.any (inS t))))) [(1000, .cells 3 [.d (.v (.int .i64 t))])] fun _ => False := by
  have h := idxF_any (inS t) l 0 (by omega)
  refine Fun.of_wp (pn := noPn) Try.tab Try.func41 rfl fun β0 => ?_
  simp only [Try.f41]
  repeat (first | refine WP.seq ?_ | refine WP.block ?_ | (refine WP.region Try.tab ?_; simp -dsimp) | (refine WP.draw Try.tab Try.mixed ?_; simp -dsimp) | refine And.intro (by first | rfl | omega | decide | (simp; done) | (simp; omega) | (intro _ h; exact fcs_side h; done) | (intros; simp_all; done)) ?_)
  refine vcStop.call Try.body54 (indexIn_ok l t) (rl [(1000, 1000)]) rfl rfl (by simp [BoxLeq]) (CallOk.of (by simp [BoxLeq]) rfl (by first | rfl | (simp [BoxLeq]; done)) (by simp [BoxLeq]) (by simp [BoxLeq])) (fun _ h => h.elim) (fun ⟨_, h⟩ => h.elim) (fun ⟨_, h⟩ => h.elim) (by simp [BoxLeq]) ?_
  simp -dsimp
  repeat (first | refine WP.seq ?_ | refine WP.block ?_ | (refine WP.region Try.tab ?_; simp -dsimp) | (refine WP.draw Try.tab Try.mixed ?_; simp -dsimp) | refine And.intro (by first | rfl | omega | decide | (simp; done) | (simp; omega) | (intro _ h; exact fcs_side h; done) | (intros; simp_all; done)) ?_)
  refine WP.ret (finQ.retE ?_)
  simp -dsimp [h]
theorem in_ok (l : List Sp) (t : Int) : Fn0 Try.prog 20 [slS l, .v (.int .i64 t)] (.v (.bool (l.any (inS t)))) := by
  refine Fun.of_wp (pn := noPn) Try.tab Try.func20 rfl fun β0 => ?_
  simp only [Try.f20]
  repeat (first | refine WP.seq ?_ | refine WP.block ?_ | (refine WP.region Try.tab ?_; simp -dsimp) | (refine WP.draw Try.tab Try.mixed ?_; simp -dsimp) | refine And.intro (by first | rfl | omega | decide | (simp; done) | (simp; omega) | (intro _ h; exact fcs_side h; done) | (intros; simp_all; done)) ?_)
  refine vcStop.call Try.body41 (containsIn_ok l t) (rl [(1000, 3)]) rfl rfl (by simp [BoxLeq]) (CallOk.of (by simp [BoxLeq]) rfl (by first | rfl | (simp [BoxLeq]; done)) (by simp [BoxLeq]) (by simp [BoxLeq])) (fun _ h => h.elim) (fun ⟨_, h⟩ => h.elim) (fun ⟨_, h⟩ => h.elim) (by simp [BoxLeq]) ?_
  simp -dsimp
  repeat (first | refine WP.seq ?_ | refine WP.block ?_ | (refine WP.region Try.tab ?_; simp -dsimp) | (refine WP.draw Try.tab Try.mixed ?_; simp -dsimp) | refine And.intro (by first | rfl | omega | decide | (simp; done) | (simp; omega) | (intro _ h; exact fcs_side h; done) | (intros; simp_all; done)) ?_)
  refine WP.ret (finQ.retE ?_)
  simp -dsimp
end Go.Proofs.Ytphbappgmoojeaa
