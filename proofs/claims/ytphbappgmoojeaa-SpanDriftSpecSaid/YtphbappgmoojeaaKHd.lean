/-
  Spans: the values of a list one after the other, collected, sorted, joined.
-/
import Derived.Test.YtphbappgmoojeaaKHc
set_option linter.unusedSectionVars false
set_option linter.unusedSimpArgs false
set_option linter.unusedVariables false
namespace Go.Proofs.Ytphbappgmoojeaa
open Go.Xe Go.RowKit

set_option maxRecDepth 10000 in
theorem values_it (l : List Sp) : IterOk Try.prog 58 [.ptr 1000 0] [(1000, .cells 22 [.d (slS l)])] (fun i => [spD (l.getD i (0, 0))]) (fun _ => true) l.length := by
  intro lp B hB
  simp only [List.cons_append, List.nil_append]
  refine Fun.of_wp (pn := noPn) Try.tab Try.func58 rfl fun β0 => ?_
  simp only [Try.f58]
  repeat (first | refine WP.seq ?_ | refine WP.block ?_ | (refine WP.region Try.tab ?_; simp -dsimp) | (refine WP.draw Try.tab Try.mixed ?_; simp -dsimp) | refine And.intro (by first | rfl | omega | decide | (simp; done) | (simp; omega) | (intro _ h; exact fcs_side h; done) | (intros; simp_all; done)) ?_)
  refine WP.len (.tmp 5) rfl fun hl => ?_
  have hm : maxLen = 9223372036854775807 := rfl
  rw [hm] at hl
  refine WP.loopWk (fun m S => ∃ l1 l2, l = l1 ++ l2 ∧ m = l2.length ∧ S = mkS 16 [(0, .d (.v (.func (.yield lp) #[] #[]))), (5, .d (slS l)), (6, .d (.v (.int .i64 l.length))), (7, .d (.v (.int .i64 l1.length)))] [(1000, .cells 22 [.d (slS l)]), (500, .opq (B l1.length))]) l.length
    (S0 := mkS 16 [(0, .d (.v (.func (.yield lp) #[] #[]))), (5, .d (slS l)), (6, .d (.v (.int .i64 l.length))), (7, .d (.v (.int .i64 0)))] [(1000, .cells 22 [.d (slS l)]), (500, .opq (B 0))]) (Wk.go [] 1999 500 (by decide) (by simp) (by simp) (by simp)) ⟨[], l, rfl, rfl, rfl⟩ ?_
  rintro _ _ ⟨l1, l2, hl12, rfl, rfl⟩
  simp -dsimp
  repeat (first | refine WP.seq ?_ | refine WP.block ?_ | (refine WP.region Try.tab ?_; simp -dsimp) | (refine WP.draw Try.tab Try.mixed ?_; simp -dsimp) | refine And.intro (by first | rfl | omega | decide | (simp; done) | (simp; omega) | (intro _ h; exact fcs_side h; done) | (intros; simp_all; done)) ?_)
  cases l2 with
  | nil =>
    simp only [List.append_nil] at hl12
    subst hl12
    refine WP.cond (b := false) (by simp) (fun h => by cases h) (fun _ => ?_)
    refine WP.exit ?_
    simp -dsimp
    refine finQ.normalWE (S' := mkS 16 [] [(1000, .cells 22 [.d (slS l)]), (0, .opq (B l.length))]) (Wk.go [] 500 0 (by decide) (by simp) (by simp) (by simp)) ?_
    simp -dsimp
  | cons x l2 =>
    have hll : l.length = l1.length + (l2.length + 1) := by rw [hl12]; simp
    have e1 : IntKind.i64.wrap ((l1.length : Int) + 1) = (l1.length : Int) + 1 := IntWalk.i64_in _ (by omega)
    have h1 := spC_at l1 x l2
    rw [← hl12] at h1
    have hx : l.getD l1.length (0, 0) = x := by rw [hl12]; simp
    have hy := hB l1.length (by omega)
    simp only [hx] at hy
    refine WP.cond (b := true) (by simp; omega) (fun _ => ?_) (fun h => by cases h)
    refine WP.skip ?_
    simp -dsimp
    refine WP.seq (WP.block ?_)
    repeat (first | refine WP.seq ?_ | refine WP.block ?_ | (refine WP.region Try.tab ?_; simp -dsimp [h1]) | (refine WP.draw Try.tab Try.mixed ?_; simp -dsimp [h1]) | refine And.intro (by first | rfl | omega | decide | (simp; done) | (simp; omega) | (intro _ h; exact fcs_side h; done) | (intros; simp_all; done)) ?_)
    refine vcStop.yield hy 500 501 rfl rfl (by simp) rfl (by decide) (by simp) ?_
    simp -dsimp
    repeat (first | refine WP.seq ?_ | refine WP.block ?_ | (refine WP.region Try.tab ?_; simp -dsimp) | (refine WP.draw Try.tab Try.mixed ?_; simp -dsimp) | refine And.intro (by first | rfl | omega | decide | (simp; done) | (simp; omega) | (intro _ h; exact fcs_side h; done) | (intros; simp_all; done)) ?_)
    refine WP.cond (b := false) (by simp) (fun h => by cases h) (fun _ => ?_)
    refine WP.skip ?_
    simp -dsimp
    repeat (first | refine WP.seq ?_ | refine WP.block ?_ | (refine WP.region Try.tab ?_; simp -dsimp) | (refine WP.draw Try.tab Try.mixed ?_; simp -dsimp) | refine And.intro (by first | rfl | omega | decide | (simp; done) | (simp; omega) | (intro _ h; exact fcs_side h; done) | (intros; simp_all; done)) ?_)
    refine loopW.next (mkS 16 [(0, .d (.v (.func (.yield lp) #[] #[]))), (5, .d (slS l)), (6, .d (.v (.int .i64 l.length))), (7, .d (.v (.int .i64 (l1 ++ [x]).length)))] [(1000, .cells 22 [.d (slS l)]), (500, .opq (B (l1 ++ [x]).length))])
      (Wk.go [] 501 500 (by decide) (by simp) (by simp [e1]) (by simp)) l2.length (by simp) ⟨l1 ++ [x], l2, by simp [hl12], rfl, rfl⟩

def bsA (l : List Sp) : Nat → Bxs
  | 0 => [(1100, .cells 22 [.d (.v (.slice none 0 0))])]
  | i + 1 => [(1100, .cells 22 [.row 505]), (505, .row 37 2 (i + 1) ((spC (l.take (i + 1))).map .d))]
@[simp] theorem bsA_zero (l : List Sp) : bsA l 0 = [(1100, .cells 22 [.d (.v (.slice none 0 0))])] := rfl
@[simp] theorem bsA_succ (l : List Sp) (i : Nat) : bsA l (i + 1) = [(1100, .cells 22 [.row 505]), (505, .row 37 2 (i + 1) ((spC (l.take (i + 1))).map .d))] := rfl
theorem bsA_singles (l : List Sp) (i : Nat) : singles (bsA l i) := by
  intro k b h
  cases i <;> simp only [bsA_zero, bsA_succ, getB] at h <;> (repeat' split at h) <;> cases h <;> rfl
set_option maxRecDepth 10000 in
set_option maxHeartbeats 4000000 in
theorem appendSeq_ok (l : List Sp) (hl : l.length ≤ 1000000) : Fun Try.prog 60 [.d (.v (.slice none 0 0)), .fn (.func 58) [] [.ptr 1000 0]] [(1000, .cells 22 [.d (slS l)])] (.row 0) [(1000, .cells 22 [.d (slS l)]), (0, .row 37 2 l.length ((spC l).map .d))] fun _ => False := by
  refine Fun.of_wpR Try.tab Try.func60 rfl fun β0 => ?_
  simp only [Try.f60]
  repeat (first | refine WP.seq ?_ | refine WP.block ?_ | (refine WP.region Try.tab ?_; simp -dsimp) | (refine WP.draw Try.tab Try.mixed ?_; simp -dsimp) | refine And.intro (by first | rfl | omega | decide | (simp; done) | (simp; omega) | (intro _ h; exact fcs_side h; done) | (intros; simp_all; done)) ?_)
  cases l with
  | nil =>
    refine WP.rangeFuncE Try.body58 (values_it []) (jump := fun _ => none) (bsA []) (mkS 13 [(2, .ptr 1100 0)] []).sl 990 (rl [(1000, 1000), (1100, 2), (505, 600), (990, 601)]) rfl rfl rfl (by simp) (by simp) (by simp) (fun i _ => bsA_singles [] i)
      (by simp) (by simp) (by simp) (by simp) (by decide) (by simp) (fun _ _ => rfl) (fun _ _ => rfl) ?_ (fun G => CallOk.of (by simp) rfl (by simp) (by simp) (by simp)) (fun G => by simp) ?_
    · intro i hi
      exact absurd hi (Nat.not_lt_zero i)
    · intro G
      simp -dsimp
      repeat (first | refine WP.seq ?_ | refine WP.block ?_ | (refine WP.region Try.tab ?_; simp -dsimp) | (refine WP.draw Try.tab Try.mixed ?_; simp -dsimp) | refine And.intro (by first | rfl | omega | decide | (simp; done) | (simp; omega) | (intro _ h; exact fcs_side h; done) | (intros; simp_all; done)) ?_)
      refine WP.ret (finQR.retW (S' := mkS 13 [(4, .row 0)] [(1000, .cells 22 [.d (slS [])]), (601, .obj G (.deferred (some []))), (0, .row 37 2 0 [])] [G]) ((Wk.nilSlot 4 0 37 2 (by simp) (by simp)).trans (Wk.lessE [2] (by simp) (by simp))) ?_ G 601 rfl rfl rfl)
      simp -dsimp
  | cons x r =>
    refine WP.rangeFuncE Try.body58 (values_it (x :: r)) (jump := fun _ => none) (bsA (x :: r)) (mkS 13 [(2, .ptr 1100 0)] []).sl 990 (rl [(1000, 1000), (1100, 2), (505, 600), (990, 601)]) rfl rfl rfl (by simp) (by simp) (by simp) (fun i _ => bsA_singles (x :: r) i)
      (by simp) (by simp) (by simp) (by simp) (by decide) (by simp) (fun _ _ => rfl) (fun _ _ => rfl) ?_ (fun G => CallOk.of (by simp) rfl (by simp) (by simp) (by simp)) (fun G => by simp) ?_
    · intro i hi lp β1
      cases i with
      | zero =>
        simp -dsimp
        repeat (first | refine WP.seq ?_ | refine WP.block ?_ | (refine WP.region Try.tab ?_; simp -dsimp) | (refine WP.draw Try.tab Try.mixed ?_; simp -dsimp) | refine And.intro (by first | rfl | omega | decide | (simp; done) | (simp; omega) | (intro _ h; exact fcs_side h; done) | (intros; simp_all; done)) ?_)
        exact ⟨mkS 13 [] [(1100, .cells 22 [.row 505]), (505, .row 37 2 1 ((spC [x]).map .d))], Wk.go [] 11 505 (by decide) (by simp) (by simp) (by simp), subB_ok (by simp)⟩
      | succ i =>
        have hi' : i < r.length := by simpa using hi
        have hl' : r.length + 1 ≤ 1000000 := by simpa using hl
        simp -dsimp
        repeat (first | refine WP.seq ?_ | refine WP.block ?_ | (refine WP.region Try.tab ?_; simp -dsimp) | (refine WP.draw Try.tab Try.mixed ?_; simp -dsimp) | refine And.intro (by first | rfl | omega | decide | (simp; done) | (simp; omega) | (intro _ h; exact fcs_side h; done) | (intros; simp_all; done)) ?_)
        have ht : r.take (i + 1) = r.take i ++ [r[i]?.getD (0, 0)] := by
          rw [List.take_add_one, List.getElem?_eq_getElem hi']; rfl
        exact ⟨mkS 13 [] [(1100, .cells 22 [.row 505]), (505, .row 37 2 (i + 1 + 1) ((spC ((x :: r).take (i + 1 + 1))).map .d))], Wk.go [] 11 505 (by decide) (by simp) (by simp) (by simp [ht]), subB_ok (by simp)⟩
    · intro G
      simp -dsimp
      repeat (first | refine WP.seq ?_ | refine WP.block ?_ | (refine WP.region Try.tab ?_; simp -dsimp) | (refine WP.draw Try.tab Try.mixed ?_; simp -dsimp) | refine And.intro (by first | rfl | omega | decide | (simp; done) | (simp; omega) | (intro _ h; exact fcs_side h; done) | (intros; simp_all; done)) ?_)
      refine WP.ret (finQR.retW (S' := mkS 13 [(4, .row 0)] [(1000, .cells 22 [.d (slS (x :: r))]), (601, .obj G (.deferred (some []))), (0, .row 37 2 (x :: r).length ((spC (x :: r)).map .d))] [G]) (Wk.go [2] 600 0 (by decide) (by simp) (by simp) (by simp)) ?_ G 601 rfl rfl rfl)
      simp -dsimp
end Go.Proofs.Ytphbappgmoojeaa
