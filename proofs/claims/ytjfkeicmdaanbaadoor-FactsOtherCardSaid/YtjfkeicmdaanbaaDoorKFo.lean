/-
  The next number of a list.
-/
import Derived.Test.YtjfkeicmdaanbaaDoorKFm
set_option linter.unusedSectionVars false
set_option linter.unusedSimpArgs false
set_option linter.unusedVariables false
namespace Go.Proofs.YtjfkeicmdaanbaaDoor
open Go.Xe Go.RowKit

@[simp] def vB (k n : Int) (s : ByteArray) (l : List V) : Box := .cells 61 [.d (.v (.int .i64 k)), .d (.v (.int .i64 n)), .d (.v (.string s)), .d (slV l)]
theorem next_e (k n : Int) (s : ByteArray) (l : List V) : Fun Tryd.prog 36 [.ptr 1000 0, .ptr 1001 0] [(1000, sB l.length), (1001, vB k n s l)] (.d (.v (.int .i64 0))) [(1000, sB l.length), (1001, vB k n s l)] fun _ => False := by
  refine Fun.of_wp (pn := noPn) Tryd.tab Tryd.func36 rfl fun β0 => ?_
  simp only [Tryd.f36]
  repeat (first | refine WP.seq ?_ | refine WP.block ?_ | (refine WP.region Tryd.tab ?_; simp -dsimp) | (refine WP.draw Tryd.tab Tryd.mixed ?_; simp -dsimp) | refine And.intro (by first | rfl | omega | decide | (simp; done) | (simp; omega) | (intro _ h; exact fcs_side h; done) | (intros; simp_all; done)) ?_)
  refine WP.cond (b := true) (by simp) (fun _ => ?_) (fun h => by cases h)
  repeat (first | refine WP.seq ?_ | refine WP.block ?_ | (refine WP.region Tryd.tab ?_; simp -dsimp) | (refine WP.draw Tryd.tab Tryd.mixed ?_; simp -dsimp) | refine And.intro (by first | rfl | omega | decide | (simp; done) | (simp; omega) | (intro _ h; exact fcs_side h; done) | (intros; simp_all; done)) ?_)
  refine WP.ret (finQ.retE ?_)
  simp -dsimp
def V.num : V → Int
  | .mk _ n _ _ => n
theorem V.cells_take (a : List V) (v : V) (b : List V) : ((V.cellsL (a ++ v :: b)).drop (a.length * 4)).take 4 = v.cells := V.cells_at a v b
theorem next_c (k n : Int) (s : ByteArray) (l1 : List V) (v : V) (l2 : List V) (hl : l1.length ≤ 1000000000000) :
    Fun Tryd.prog 36 [.ptr 1000 0, .ptr 1001 0] [(1000, sB l1.length), (1001, vB k n s (l1 ++ v :: l2))] (.d (.v (.int .i64 v.num))) [(1000, sB (l1.length + 1 : Nat)), (1001, vB k n s (l1 ++ v :: l2))] fun _ => False := by
  obtain ⟨l, hl'⟩ : ∃ l, l1 ++ v :: l2 = l := ⟨_, rfl⟩
  have hv := V.cells_at l1 v l2
  rw [hl'] at hv ⊢
  have hlen : l.length = l1.length + (l2.length + 1) := by rw [← hl']; simp
  obtain ⟨k', n', s', l'⟩ := v
  rw [V.cells] at hv
  have e1 : IntKind.i64.wrap ((l1.length : Int) + 1) = (l1.length : Int) + 1 := IntWalk.i64_in _ (by omega)
  have e2 : IntKind.i64.wrap ((l1.length : Int) + 1 - 1) = (l1.length : Int) := by rw [IntWalk.i64_in _ (by omega)]; omega
  have e3 : IntKind.i64.wrap (l1.length : Int) = (l1.length : Int) := IntWalk.i64_in _ (by omega)
  refine Fun.of_wp (pn := noPn) Tryd.tab Tryd.func36 rfl fun β0 => ?_
  simp only [Tryd.f36]
  repeat (first | refine WP.seq ?_ | refine WP.block ?_ | (refine WP.region Tryd.tab ?_; simp -dsimp) | (refine WP.draw Tryd.tab Tryd.mixed ?_; simp -dsimp) | refine And.intro (by first | rfl | omega | decide | (simp; done) | (simp; omega) | (intro _ h; exact fcs_side h; done) | (intros; simp_all; done)) ?_)
  refine WP.cond (b := false) (by simp; omega) (fun h => by cases h) (fun _ => ?_)
  refine WP.skip ?_
  simp -dsimp
  repeat (first | refine WP.seq ?_ | refine WP.block ?_ | (refine WP.region Tryd.tab ?_; simp -dsimp [e1, e2, e3, hv]) | (refine WP.draw Tryd.tab Tryd.mixed ?_; simp -dsimp [e1, e2, e3, hv]) | refine And.intro (by first | rfl | omega | decide | (simp; done) | (simp; omega) | (intro _ h; exact fcs_side h; done) | (intros; simp_all; done)) ?_)
  refine WP.ret (finQ.retE ?_)
  simp -dsimp [V.num]
end Go.Proofs.YtjfkeicmdaanbaaDoor
