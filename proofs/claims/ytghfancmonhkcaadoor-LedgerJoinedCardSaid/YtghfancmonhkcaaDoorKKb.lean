/-
  Ledgers: a list of facts in order, each once.
-/
import Derived.Test.YtghfancmonhkcaaDoorKKa
import Derived.Test.YtghfancmonhkcaaDoorK8
import Derived.Test.YtghfancmonhkcaaDoorKEngZi
set_option linter.unusedSectionVars false
set_option linter.unusedSimpArgs false
set_option linter.unusedVariables false
namespace Go.Proofs.YtghfancmonhkcaaDoor
open Go.Xe Go.RowKit

abbrev cmpD : D := .v (.func (.func 7) #[] #[])
@[simp] theorem Leq_fD (f : F) : Leq (.agg ((fcs f 0 57).map .d)) (.d (fD f)) ↔ True := ⟨fun _ => trivial, fun _ => Leq.aggD _⟩
theorem eqCmp_ok (f g : F) (hf : fOk f) (hg : fOk g) : Fun Tryd.prog 46 [.d (fD f), .d (fD g), .ptr 1000 0] [(1000, .cells 28 [.d cmpD])] (.d (.v (.bool (decide (cmpF f g = 0))))) [(1000, .cells 28 [.d cmpD])] fun _ => False := by
  refine Fun.of_wp (pn := noPn) Tryd.tab Tryd.func46 rfl fun β0 => ?_
  simp only [Tryd.f46]
  simp only [fD]
  repeat (first | refine WP.seq ?_ | refine WP.block ?_ | (refine WP.region Tryd.tab ?_; simp -dsimp) | (refine WP.draw Tryd.tab Tryd.mixed ?_; simp -dsimp) | refine And.intro (by first | rfl | omega | decide | (simp; done) | (simp; omega) | (intro _ h; exact fcs_side h; done) | (intros; simp_all; done) | (intros; simp_all; omega)) ?_)
  refine vcStop.call0 Tryd.body7 (factsCompare_ok f g hf hg) rfl rfl (by simp [fD]) ?_
  simp -dsimp
  repeat (first | refine WP.seq ?_ | refine WP.block ?_ | (refine WP.region Tryd.tab ?_; simp -dsimp) | (refine WP.draw Tryd.tab Tryd.mixed ?_; simp -dsimp) | refine And.intro (by first | rfl | omega | decide | (simp; done) | (simp; omega) | (intro _ h; exact fcs_side h; done) | (intros; simp_all; done) | (intros; simp_all; omega)) ?_)
  refine WP.ret (finQ.retE ?_)
  simp -dsimp
@[simp] theorem fsC_any (k : Nat) (l : List F) : AV.hasL k ((fsC l).map .d) = false := by
  induction fsC l with
  | nil => rfl
  | cons c cs ih => rw [List.map_cons, AV.hasL, ih]; rfl
theorem clone_row (l : List F) (h0 : 0 < l.length) (hl : l.length ≤ 14) : Fun Tryd.prog 43 [.row 1000] [(1000, .row 54 57 l.length ((fsC l).map .d))] (.row 0) [(1000, .row 54 57 l.length ((fsC l).map .d)), (0, .row 54 57 l.length ((fsC l).map .d))] fun _ => False := by
  refine Fun.of_wp (pn := noPn) Tryd.tab Tryd.func43 rfl fun β0 => ?_
  simp only [Tryd.f43]
  repeat (first | refine WP.seq ?_ | refine WP.block ?_ | (refine WP.region Tryd.tab ?_; simp -dsimp) | (refine WP.draw Tryd.tab Tryd.mixed ?_; simp -dsimp) | refine And.intro (by first | rfl | omega | decide | (simp; done) | (simp; omega) | (intro _ h; exact fcs_side h; done) | (intros; simp_all; done) | (intros; simp_all; omega)) ?_)
  refine vcStop.eqNilRow Tryd.tab rfl rfl rfl rfl rfl h0 ?_
  simp -dsimp
  repeat (first | refine WP.seq ?_ | refine WP.block ?_ | (refine WP.region Tryd.tab ?_; simp -dsimp) | (refine WP.draw Tryd.tab Tryd.mixed ?_; simp -dsimp) | refine And.intro (by first | rfl | omega | decide | (simp; done) | (simp; omega) | (intro _ h; exact fcs_side h; done) | (intros; simp_all; done) | (intros; simp_all; omega)) ?_)
  refine WP.cond (b := false) (by simp) (fun h => by cases h) (fun _ => ?_)
  refine WP.skip ?_
  simp -dsimp
  repeat (first | refine WP.seq ?_ | refine WP.block ?_ | (refine WP.region Tryd.tab ?_; simp -dsimp) | (refine WP.draw Tryd.tab Tryd.mixed ?_; simp -dsimp) | refine And.intro (by first | rfl | omega | decide | (simp; done) | (simp; omega) | (intro _ h; exact fcs_side h; done) | (intros; simp_all; done) | (intros; simp_all; omega)) ?_)
  refine And.intro ⟨fsC_len l, by omega⟩ ?_
  refine WP.ret (finQ.retWE (S' := mkS 8 [(2, .row 0)] [(1000, .row 54 57 l.length ((fsC l).map .d)), (0, .row 54 57 l.length ((fsC l).map .d))]) (Wk.go [] 7 0 (by decide) (by simp) (by simp) (by simp)) ?_)
  simp -dsimp
theorem clone_nil : Fn0 Tryd.prog 43 [.v (.slice none 0 0)] (.v (.slice none 0 0)) := by
  refine Fun.of_wp (pn := noPn) Tryd.tab Tryd.func43 rfl fun β0 => ?_
  simp only [Tryd.f43]
  repeat (first | refine WP.seq ?_ | refine WP.block ?_ | (refine WP.region Tryd.tab ?_; simp -dsimp) | (refine WP.draw Tryd.tab Tryd.mixed ?_; simp -dsimp) | refine And.intro (by first | rfl | omega | decide | (simp; done) | (simp; omega) | (intro _ h; exact fcs_side h; done) | (intros; simp_all; done) | (intros; simp_all; omega)) ?_)
  refine vcStop.eqNilNil Tryd.tab rfl rfl rfl rfl ?_
  simp -dsimp
  repeat (first | refine WP.seq ?_ | refine WP.block ?_ | (refine WP.region Tryd.tab ?_; simp -dsimp) | (refine WP.draw Tryd.tab Tryd.mixed ?_; simp -dsimp) | refine And.intro (by first | rfl | omega | decide | (simp; done) | (simp; omega) | (intro _ h; exact fcs_side h; done) | (intros; simp_all; done) | (intros; simp_all; omega)) ?_)
  refine WP.cond (b := true) (by simp) (fun _ => ?_) (fun h => by cases h)
  repeat (first | refine WP.seq ?_ | refine WP.block ?_ | (refine WP.region Tryd.tab ?_; simp -dsimp) | (refine WP.draw Tryd.tab Tryd.mixed ?_; simp -dsimp) | refine And.intro (by first | rfl | omega | decide | (simp; done) | (simp; omega) | (intro _ h; exact fcs_side h; done) | (intros; simp_all; done) | (intros; simp_all; omega)) ?_)
  refine WP.ret (finQ.retE ?_)
  simp -dsimp
theorem stable_ok (l : List Fk) (hl : l.length ≤ 14) : Fun Tryd.prog 57 [.row 1000, .d (.v (.int .i64 l.length)), .d cmpD] [(1000, .row 54 57 l.length ((fsC (l.map (·.1))).map .d))] (.tup []) [(1000, .row 54 57 l.length ((fsC ((sortK l).map (·.1))).map .d))] fun _ => False := by
  refine Fun.of_wp (pn := noPn) Tryd.tab Tryd.func57 rfl fun β0 => ?_
  simp only [Tryd.f57]
  repeat (first | refine WP.seq ?_ | refine WP.block ?_ | (refine WP.region Tryd.tab ?_; simp -dsimp) | (refine WP.draw Tryd.tab Tryd.mixed ?_; simp -dsimp) | refine And.intro (by first | rfl | omega | decide | (simp; done) | (simp; omega) | (intro _ h; exact fcs_side h; done) | (intros; simp_all; done) | (intros; simp_all; omega)) ?_)
  refine WP.loopWk (fun m S => S = mkS 63 [(0, .row 1000), (1, .d (.v (.int .i64 l.length))), (2, .d cmpD), (6, .d (.v (.int .i64 20))), (7, .d (.v (.int .i64 0))), (8, .d (.v (.int .i64 20)))] [(1000, .row 54 57 l.length ((fsC (l.map (·.1))).map .d))]) 1
    (S0 := mkS 63 [(0, .row 1000), (1, .d (.v (.int .i64 l.length))), (2, .d cmpD), (6, .d (.v (.int .i64 20))), (7, .d (.v (.int .i64 0))), (8, .d (.v (.int .i64 20)))] [(1000, .row 54 57 l.length ((fsC (l.map (·.1))).map .d))]) (Wk.lessE [] (by simp) (by simp)) rfl ?_
  rintro _ _ rfl
  simp -dsimp
  repeat (first | refine WP.seq ?_ | refine WP.block ?_ | (refine WP.region Tryd.tab ?_; simp -dsimp) | (refine WP.draw Tryd.tab Tryd.mixed ?_; simp -dsimp) | refine And.intro (by first | rfl | omega | decide | (simp; done) | (simp; omega) | (intro _ h; exact fcs_side h; done) | (intros; simp_all; done) | (intros; simp_all; omega)) ?_)
  refine WP.cond (b := false) (by simp; omega) (fun h => by cases h) (fun _ => ?_)
  refine WP.exit ?_
  simp -dsimp
  repeat (first | refine WP.seq ?_ | refine WP.block ?_ | (refine WP.region Tryd.tab ?_; simp -dsimp) | (refine WP.draw Tryd.tab Tryd.mixed ?_; simp -dsimp) | refine And.intro (by first | rfl | omega | decide | (simp; done) | (simp; omega) | (intro _ h; exact fcs_side h; done) | (intros; simp_all; done) | (intros; simp_all; omega)) ?_)
  refine vcStop.call Tryd.body72 (insert_ok l (by omega)) (rl []) rfl rfl (by simp [BoxLeq]) (CallOk.of (by simp [BoxLeq]) rfl (by first | rfl | (simp [BoxLeq]; done)) (by simp [BoxLeq]) (by simp [BoxLeq])) (fun _ h => h.elim) (fun ⟨_, h⟩ => h.elim) (fun ⟨_, h⟩ => h.elim) (by simp [BoxLeq]) ?_
  simp -dsimp
  repeat (first | refine WP.seq ?_ | refine WP.block ?_ | (refine WP.region Tryd.tab ?_; simp -dsimp) | (refine WP.draw Tryd.tab Tryd.mixed ?_; simp -dsimp) | refine And.intro (by first | rfl | omega | decide | (simp; done) | (simp; omega) | (intro _ h; exact fcs_side h; done) | (intros; simp_all; done) | (intros; simp_all; omega)) ?_)
  refine WP.loopWk (fun m S => S = mkS 63 [(0, .row 1000), (1, .d (.v (.int .i64 l.length))), (2, .d cmpD), (6, .d (.v (.int .i64 20)))] [(1000, .row 54 57 l.length ((fsC ((sortK l).map (·.1))).map .d))]) 1
    (S0 := mkS 63 [(0, .row 1000), (1, .d (.v (.int .i64 l.length))), (2, .d cmpD), (6, .d (.v (.int .i64 20)))] [(1000, .row 54 57 l.length ((fsC ((sortK l).map (·.1))).map .d))]) (Wk.lessE [] (by simp) (by simp)) rfl ?_
  rintro _ _ rfl
  simp -dsimp
  repeat (first | refine WP.seq ?_ | refine WP.block ?_ | (refine WP.region Tryd.tab ?_; simp -dsimp) | (refine WP.draw Tryd.tab Tryd.mixed ?_; simp -dsimp) | refine And.intro (by first | rfl | omega | decide | (simp; done) | (simp; omega) | (intro _ h; exact fcs_side h; done) | (intros; simp_all; done) | (intros; simp_all; omega)) ?_)
  refine WP.cond (b := false) (by simp; omega) (fun h => by cases h) (fun _ => ?_)
  refine WP.exit ?_
  simp -dsimp
  refine finQ.normalWE (S' := mkS 63 [] [(1000, .row 54 57 l.length ((fsC ((sortK l).map (·.1))).map .d))]) (Wk.lessE [] (by simp) (by simp)) ?_
  simp -dsimp
theorem sortStable_ok (l : List Fk) (hl : l.length ≤ 14) : Fun Tryd.prog 44 [.row 1000, .d cmpD] [(1000, .row 54 57 l.length ((fsC (l.map (·.1))).map .d))] (.tup []) [(1000, .row 54 57 l.length ((fsC ((sortK l).map (·.1))).map .d))] fun _ => False := by
  refine Fun.of_wp (pn := noPn) Tryd.tab Tryd.func44 rfl fun β0 => ?_
  simp only [Tryd.f44]
  repeat (first | refine WP.seq ?_ | refine WP.block ?_ | (refine WP.region Tryd.tab ?_; simp -dsimp) | (refine WP.draw Tryd.tab Tryd.mixed ?_; simp -dsimp) | refine And.intro (by first | rfl | omega | decide | (simp; done) | (simp; omega) | (intro _ h; exact fcs_side h; done) | (intros; simp_all; done) | (intros; simp_all; omega)) ?_)
  refine vcStop.call Tryd.body57 (stable_ok l hl) (rl []) rfl rfl (by simp [BoxLeq]) (CallOk.of (by simp [BoxLeq]) rfl (by first | rfl | (simp [BoxLeq]; done)) (by simp [BoxLeq]) (by simp [BoxLeq])) (fun _ h => h.elim) (fun ⟨_, h⟩ => h.elim) (fun ⟨_, h⟩ => h.elim) (by simp [BoxLeq]) ?_
  simp -dsimp
  refine finQ.normalWE (S' := mkS 9 [] [(1000, .row 54 57 l.length ((fsC ((sortK l).map (·.1))).map .d))]) (Wk.lessE [] (by simp) (by simp)) ?_
  simp -dsimp
end Go.Proofs.YtghfancmonhkcaaDoor
