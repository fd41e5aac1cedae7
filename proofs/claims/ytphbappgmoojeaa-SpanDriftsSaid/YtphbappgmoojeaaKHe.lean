/-
  Spans: collected, sorted.
-/
import Derived.Test.YtphbappgmoojeaaKHd
import Derived.Test.YtphbappgmoojeaaKHa
import Derived.Test.YtphbappgmoojeaaK8
set_option linter.unusedSectionVars false
set_option linter.unusedSimpArgs false
set_option linter.unusedVariables false
namespace Go.Proofs.Ytphbappgmoojeaa
open Go.Xe Go.RowKit Go.Sort

theorem collect_ok (l : List Sp) (hl : l.length ≤ 1000000) : Fun Try.prog 56 [.fn (.func 58) [] [.ptr 1000 0]] [(1000, .cells 22 [.d (slS l)])] (.row 0) [(1000, .cells 22 [.d (slS l)]), (0, .row 37 2 l.length ((spC l).map .d))] fun _ => False := by
  refine Fun.of_wp (pn := noPn) Try.tab Try.func56 rfl fun β0 => ?_
  simp only [Try.f56]
  repeat (first | refine WP.seq ?_ | refine WP.block ?_ | (refine WP.region Try.tab ?_; simp -dsimp) | (refine WP.draw Try.tab Try.mixed ?_; simp -dsimp) | refine And.intro (by first | rfl | omega | decide | (simp; done) | (simp; omega) | (intro _ h; exact fcs_side h; done) | (intros; simp_all; done)) ?_)
  refine vcStop.call Try.body60 (appendSeq_ok l hl) (rl [(1000, 1000), (0, 600)]) rfl rfl (by simp [BoxLeq]) (CallOk.of (by simp [BoxLeq]) rfl (by first | rfl | (simp [BoxLeq]; done)) (by simp [BoxLeq]) (by simp [BoxLeq])) (fun _ h => h.elim) (fun ⟨_, h⟩ => h.elim) (fun ⟨_, h⟩ => h.elim) (by simp [BoxLeq]) ?_
  simp -dsimp
  repeat (first | refine WP.seq ?_ | refine WP.block ?_ | (refine WP.region Try.tab ?_; simp -dsimp) | (refine WP.draw Try.tab Try.mixed ?_; simp -dsimp) | refine And.intro (by first | rfl | omega | decide | (simp; done) | (simp; omega) | (intro _ h; exact fcs_side h; done) | (intros; simp_all; done)) ?_)
  refine WP.ret (finQ.retWE (S' := mkS 5 [(2, .row 0)] [(1000, .cells 22 [.d (slS l)]), (0, .row 37 2 l.length ((spC l).map .d))]) (Wk.go [] 600 0 (by decide) (by simp) (by simp) (by simp)) ?_)
  simp -dsimp
theorem values_ok (l : List Sp) : Fun Try.prog 46 [.d (slS l)] [] (.fn (.func 58) [] [.ptr 0 0]) [(0, .cells 22 [.d (slS l)])] fun _ => False := by
  refine Fun.of_wp (pn := noPn) Try.tab Try.func46 rfl fun β0 => ?_
  simp only [Try.f46]
  repeat (first | refine WP.seq ?_ | refine WP.block ?_ | (refine WP.region Try.tab ?_; simp -dsimp) | (refine WP.draw Try.tab Try.mixed ?_; simp -dsimp) | refine And.intro (by first | rfl | omega | decide | (simp; done) | (simp; omega) | (intro _ h; exact fcs_side h; done) | (intros; simp_all; done)) ?_)
  refine WP.ret (finQ.retWE (S' := mkS 4 [(2, .fn (.func 58) [] [.ptr 0 0])] [(0, .cells 22 [.d (slS l)])]) (Wk.go [] 1 0 (by decide) (by simp) (by simp) (by simp)) ?_)
  simp -dsimp

/-! ### the order -/
theorem cmpI_cases (x y : Int) : cmpI x y = -1 ∧ x < y ∨ cmpI x y = 0 ∧ x = y ∨ cmpI x y = 1 ∧ y < x := by
  rcases Int.lt_trichotomy x y with h | h | h
  · exact .inl ⟨by rw [cmpI, if_pos h], h⟩
  · exact .inr (.inl ⟨by rw [cmpI, if_neg (by omega), if_neg (by omega)], h⟩)
  · exact .inr (.inr ⟨by rw [cmpI, if_neg (by omega), if_pos h], h⟩)
theorem cmpS_lt (a b : Sp) : Go.Proofs.ltOf cmpS a b = (decide (a.1 < b.1) || decide (a.1 = b.1) && decide (a.2 < b.2)) := by
  rw [Go.Proofs.ltOf, cmpS, orL, orL, orL, Bool.eq_iff_iff]
  simp only [Bool.or_eq_true, Bool.and_eq_true, decide_eq_true_eq]
  rcases cmpI_cases a.1 b.1 with ⟨e, h⟩ | ⟨e, h⟩ | ⟨e, h⟩ <;> rcases cmpI_cases a.2 b.2 with ⟨e2, h2⟩ | ⟨e2, h2⟩ | ⟨e2, h2⟩ <;> simp [e, e2] <;> omega
theorem cmpS_swo : SWO (Go.Proofs.ltOf cmpS) := by
  constructor
  · intro x; rw [cmpS_lt]; simp
  · intro x y z h1 h2
    rw [cmpS_lt] at *
    simp only [Bool.or_eq_true, Bool.and_eq_true, decide_eq_true_eq] at *
    omega
  · intro x y z h1 h2
    rw [cmpS_lt] at *
    simp only [Bool.or_eq_false_iff, Bool.and_eq_false_iff, decide_eq_false_iff_not] at *
    omega
def encS (s : Sp) : List Value := [.int .i64 s.1, .int .i64 s.2]
theorem rowV_S : ∀ l : List Sp, rowV encS l = (spC l).map .d
  | [] => rfl
  | s :: l => by
    have := rowV_S l
    simp only [rowV] at this
    simp [rowV, encS, this]
/-- The list that the sort makes. -/
def srtS (l : List Sp) : List Sp := srtL cmpS l
theorem srtS_perm (l : List Sp) : (srtS l).Perm l := (srtL_ok cmpS_swo l).1
theorem srtS_len (l : List Sp) : (srtS l).length = l.length := srtL_len cmpS cmpS_swo l
theorem srtS_sorted (l : List Sp) : SortedS (srtS l) := (srtL_ok cmpS_swo l).2.imp fun {a b} h => by
  rw [cmpS_lt] at h
  simp only [Bool.or_eq_false_iff, decide_eq_false_iff_not] at h
  omega
theorem sort_ok (l : List Sp) (hl : l.length ≤ 1000000) : Fun Try.prog 57 [.row 1000, .d (.v (.func (.func 47) #[] #[]))] [(1000, .row 37 2 l.length ((spC l).map .d))] (.d .any) [(1000, .row 37 2 l.length ((spC (srtS l)).map .d))] fun _ => False := by
  have := Fun.sortFunc spanSort_lay 2 Try.isAgg37 Try.sizeOf37 encS (fun _ => rfl) (by simp [encS, Value.oneCell']) cmpS cmpS_swo (g := 47) (run_enterFn Try.body47) (fun x y => cmpS_ok x y) l (by omega)
  rw [rowV_S, rowV_S] at this
  exact this
theorem sorted_ok (l : List Sp) (hl : l.length ≤ 1000000) : Fun Try.prog 45 [.fn (.func 58) [] [.ptr 1000 0], .d (.v (.func (.func 47) #[] #[]))] [(1000, .cells 22 [.d (slS l)])] (.row 0) [(0, .row 37 2 l.length ((spC (srtS l)).map .d))] fun _ => False := by
  refine Fun.of_wp (pn := noPn) Try.tab Try.func45 rfl fun β0 => ?_
  simp only [Try.f45]
  repeat (first | refine WP.seq ?_ | refine WP.block ?_ | (refine WP.region Try.tab ?_; simp -dsimp) | (refine WP.draw Try.tab Try.mixed ?_; simp -dsimp) | refine And.intro (by first | rfl | omega | decide | (simp; done) | (simp; omega) | (intro _ h; exact fcs_side h; done) | (intros; simp_all; done)) ?_)
  refine vcStop.call Try.body56 (collect_ok l hl) (rl [(1000, 1000), (0, 600)]) rfl rfl (by simp [BoxLeq]) (CallOk.of (by simp [BoxLeq]) rfl (by first | rfl | (simp [BoxLeq]; done)) (by simp [BoxLeq]) (by simp [BoxLeq])) (fun _ h => h.elim) (fun ⟨_, h⟩ => h.elim) (fun ⟨_, h⟩ => h.elim) (by simp [BoxLeq]) ?_
  simp -dsimp
  repeat (first | refine WP.seq ?_ | refine WP.block ?_ | (refine WP.region Try.tab ?_; simp -dsimp) | (refine WP.draw Try.tab Try.mixed ?_; simp -dsimp) | refine And.intro (by first | rfl | omega | decide | (simp; done) | (simp; omega) | (intro _ h; exact fcs_side h; done) | (intros; simp_all; done)) ?_)
  refine vcStop.call Try.body57 (sort_ok l hl) (rl [(1000, 600)]) rfl rfl (by simp [BoxLeq]) (CallOk.of (by simp [BoxLeq]) rfl (by first | rfl | (simp [BoxLeq]; done)) (by simp [BoxLeq]) (by simp [BoxLeq])) (fun _ h => h.elim) (fun ⟨_, h⟩ => h.elim) (fun ⟨_, h⟩ => h.elim) (by simp [BoxLeq]) ?_
  simp -dsimp
  repeat (first | refine WP.seq ?_ | refine WP.block ?_ | (refine WP.region Try.tab ?_; simp -dsimp) | (refine WP.draw Try.tab Try.mixed ?_; simp -dsimp) | refine And.intro (by first | rfl | omega | decide | (simp; done) | (simp; omega) | (intro _ h; exact fcs_side h; done) | (intros; simp_all; done)) ?_)
  refine WP.ret (finQ.retWE (S' := mkS 12 [(4, .row 0)] [(0, .row 37 2 l.length ((spC (srtS l)).map .d))]) (Wk.go [1000] 600 0 (by decide) (by simp) (by simp) (by simp)) ?_)
  simp -dsimp
end Go.Proofs.Ytphbappgmoojeaa
