/-
  What belongs to a kind, in the code: head, open.
-/
import Derived.Test.YtaplgjnlfleklaaDoorKFa
set_option maxRecDepth 10000
set_option linter.unusedSectionVars false
set_option linter.unusedSimpArgs false
set_option linter.unusedVariables false
namespace Go.Proofs.YtaplgjnlfleklaaDoor
open Go.Xe Go.RowKit

theorem head_ok (f : Nat → Int) : Fun Tryd.prog 44 [.ptr 1000 0] [(1000, fB f)] (.row 0) [(1000, fB f), (0, .row 134 3 4 (entA 1000 1000 headE))] fun _ => False := by
  refine Fun.of_wp (pn := noPn) Tryd.tab Tryd.func44 rfl fun β0 => ?_
  simp only [Tryd.f44]
  repeat (first | apply wG | (apply wR; simp -dsimp) | refine aI ?_)
  refine WP.weak (Wk.retag 23 0 (by decide) (by simp)) ?_
  simp -dsimp
  refine WP.ret (finQ.retE ?_)
  simp -dsimp [headE, entA, locA]
@[simp] def sB (s : Int) : Box := .cells 3 [.d (.v (.int .i64 s))]

theorem open_1 (f : Nat → Int) (s : Int) (hk : f 3 = 1) {E : List Ent} (hE : ents (f 3) (f 49) = some E) :
    Fun Tryd.prog 42 [.ptr 1000 0, .ptr 1001 0] [(1000, fB f), (1001, sB s)] (.tup [.agg [.row 0, .d (.v (.func (.func 65) #[] #[]))], .d (.v (.bool true))]) [(1000, fB f), (1001, sB s), (0, .row 134 3 E.length (entA 1000 1001 E))] fun _ => False := by
  rw [hk] at hE
  simp [ents] at hE
  subst hE
  refine Fun.of_wp (pn := noPn) Tryd.tab Tryd.func42 rfl fun β0 => ?_
  simp only [Tryd.f42]
  repeat (first | apply wG | (apply wR; simp -dsimp) | refine aI ?_)
  rw [hk]
  refine cT (by simp) ?_
  repeat (first | apply wG | (apply wR; simp -dsimp) | refine aI ?_)
  refine WP.weak (Wk.retag 68 0 (by decide) (by simp)) ?_
  simp -dsimp
  refine WP.ret (finQ.retE ?_)
  simp -dsimp [entA, locA]

theorem open_2 (f : Nat → Int) (s : Int) (hk : f 3 = 2) {E : List Ent} (hE : ents (f 3) (f 49) = some E) :
    Fun Tryd.prog 42 [.ptr 1000 0, .ptr 1001 0] [(1000, fB f), (1001, sB s)] (.tup [.agg [.row 0, .d (.v (.func (.func 65) #[] #[]))], .d (.v (.bool true))]) [(1000, fB f), (1001, sB s), (0, .row 134 3 E.length (entA 1000 1001 E))] fun _ => False := by
  rw [hk] at hE
  simp [ents] at hE
  subst hE
  refine Fun.of_wp (pn := noPn) Tryd.tab Tryd.func42 rfl fun β0 => ?_
  simp only [Tryd.f42]
  repeat (first | apply wG | (apply wR; simp -dsimp) | refine aI ?_)
  rw [hk]
  refine cF (by simp) ?_
  repeat (first | apply wG | (apply wR; simp -dsimp) | refine aI ?_)
  refine cT (by simp) ?_
  repeat (first | apply wG | (apply wR; simp -dsimp) | refine aI ?_)
  refine WP.weak (Wk.retag 95 0 (by decide) (by simp)) ?_
  simp -dsimp
  refine WP.ret (finQ.retE ?_)
  simp -dsimp [entA, locA]

theorem open_3 (f : Nat → Int) (s : Int) (hk : f 3 = 3) {E : List Ent} (hE : ents (f 3) (f 49) = some E) :
    Fun Tryd.prog 42 [.ptr 1000 0, .ptr 1001 0] [(1000, fB f), (1001, sB s)] (.tup [.agg [.row 0, .d (.v (.func (.func 65) #[] #[]))], .d (.v (.bool true))]) [(1000, fB f), (1001, sB s), (0, .row 134 3 E.length (entA 1000 1001 E))] fun _ => False := by
  rw [hk] at hE
  simp [ents] at hE
  subst hE
  refine Fun.of_wp (pn := noPn) Tryd.tab Tryd.func42 rfl fun β0 => ?_
  simp only [Tryd.f42]
  repeat (first | apply wG | (apply wR; simp -dsimp) | refine aI ?_)
  rw [hk]
  refine cF (by simp) ?_
  repeat (first | apply wG | (apply wR; simp -dsimp) | refine aI ?_)
  refine cF (by simp) ?_
  repeat (first | apply wG | (apply wR; simp -dsimp) | refine aI ?_)
  refine cT (by simp) ?_
  repeat (first | apply wG | (apply wR; simp -dsimp) | refine aI ?_)
  refine WP.weak (Wk.retag 127 0 (by decide) (by simp)) ?_
  simp -dsimp
  refine WP.ret (finQ.retE ?_)
  simp -dsimp [entA, locA]

theorem open_8 (f : Nat → Int) (s : Int) (hk : f 3 = 8) {E : List Ent} (hE : ents (f 3) (f 49) = some E) :
    Fun Tryd.prog 42 [.ptr 1000 0, .ptr 1001 0] [(1000, fB f), (1001, sB s)] (.tup [.agg [.row 0, .d (.v (.func (.func 65) #[] #[]))], .d (.v (.bool true))]) [(1000, fB f), (1001, sB s), (0, .row 134 3 E.length (entA 1000 1001 E))] fun _ => False := by
  rw [hk] at hE
  simp [ents] at hE
  subst hE
  refine Fun.of_wp (pn := noPn) Tryd.tab Tryd.func42 rfl fun β0 => ?_
  simp only [Tryd.f42]
  repeat (first | apply wG | (apply wR; simp -dsimp) | refine aI ?_)
  rw [hk]
  refine cF (by simp) ?_
  repeat (first | apply wG | (apply wR; simp -dsimp) | refine aI ?_)
  refine cF (by simp) ?_
  repeat (first | apply wG | (apply wR; simp -dsimp) | refine aI ?_)
  refine cF (by simp) ?_
  repeat (first | apply wG | (apply wR; simp -dsimp) | refine aI ?_)
  refine cF (by simp) ?_
  repeat (first | apply wG | (apply wR; simp -dsimp) | refine aI ?_)
  refine cF (by simp) ?_
  repeat (first | apply wG | (apply wR; simp -dsimp) | refine aI ?_)
  refine cF (by simp) ?_
  repeat (first | apply wG | (apply wR; simp -dsimp) | refine aI ?_)
  refine cF (by simp) ?_
  repeat (first | apply wG | (apply wR; simp -dsimp) | refine aI ?_)
  refine cT (by simp) ?_
  repeat (first | apply wG | (apply wR; simp -dsimp) | refine aI ?_)
  refine WP.weak (Wk.retag 276 0 (by decide) (by simp)) ?_
  simp -dsimp
  refine WP.ret (finQ.retE ?_)
  simp -dsimp [entA, locA]

theorem open_9 (f : Nat → Int) (s : Int) (hk : f 3 = 9) {E : List Ent} (hE : ents (f 3) (f 49) = some E) :
    Fun Tryd.prog 42 [.ptr 1000 0, .ptr 1001 0] [(1000, fB f), (1001, sB s)] (.tup [.agg [.row 0, .d (.v (.func (.func 65) #[] #[]))], .d (.v (.bool true))]) [(1000, fB f), (1001, sB s), (0, .row 134 3 E.length (entA 1000 1001 E))] fun _ => False := by
  rw [hk] at hE
  simp [ents] at hE
  subst hE
  refine Fun.of_wp (pn := noPn) Tryd.tab Tryd.func42 rfl fun β0 => ?_
  simp only [Tryd.f42]
  repeat (first | apply wG | (apply wR; simp -dsimp) | refine aI ?_)
  rw [hk]
  refine cF (by simp) ?_
  repeat (first | apply wG | (apply wR; simp -dsimp) | refine aI ?_)
  refine cF (by simp) ?_
  repeat (first | apply wG | (apply wR; simp -dsimp) | refine aI ?_)
  refine cF (by simp) ?_
  repeat (first | apply wG | (apply wR; simp -dsimp) | refine aI ?_)
  refine cF (by simp) ?_
  repeat (first | apply wG | (apply wR; simp -dsimp) | refine aI ?_)
  refine cF (by simp) ?_
  repeat (first | apply wG | (apply wR; simp -dsimp) | refine aI ?_)
  refine cF (by simp) ?_
  repeat (first | apply wG | (apply wR; simp -dsimp) | refine aI ?_)
  refine cF (by simp) ?_
  repeat (first | apply wG | (apply wR; simp -dsimp) | refine aI ?_)
  refine cF (by simp) ?_
  repeat (first | apply wG | (apply wR; simp -dsimp) | refine aI ?_)
  refine cT (by simp) ?_
  repeat (first | apply wG | (apply wR; simp -dsimp) | refine aI ?_)
  refine WP.weak (Wk.retag 303 0 (by decide) (by simp)) ?_
  simp -dsimp
  refine WP.ret (finQ.retE ?_)
  simp -dsimp [entA, locA]

theorem open_11 (f : Nat → Int) (s : Int) (hk : f 3 = 11) {E : List Ent} (hE : ents (f 3) (f 49) = some E) :
    Fun Tryd.prog 42 [.ptr 1000 0, .ptr 1001 0] [(1000, fB f), (1001, sB s)] (.tup [.agg [.row 0, .d (.v (.func (.func 65) #[] #[]))], .d (.v (.bool true))]) [(1000, fB f), (1001, sB s), (0, .row 134 3 E.length (entA 1000 1001 E))] fun _ => False := by
  rw [hk] at hE
  simp [ents] at hE
  subst hE
  refine Fun.of_wp (pn := noPn) Tryd.tab Tryd.func42 rfl fun β0 => ?_
  simp only [Tryd.f42]
  repeat (first | apply wG | (apply wR; simp -dsimp) | refine aI ?_)
  rw [hk]
  refine cF (by simp) ?_
  repeat (first | apply wG | (apply wR; simp -dsimp) | refine aI ?_)
  refine cF (by simp) ?_
  repeat (first | apply wG | (apply wR; simp -dsimp) | refine aI ?_)
  refine cF (by simp) ?_
  repeat (first | apply wG | (apply wR; simp -dsimp) | refine aI ?_)
  refine cF (by simp) ?_
  repeat (first | apply wG | (apply wR; simp -dsimp) | refine aI ?_)
  refine cF (by simp) ?_
  repeat (first | apply wG | (apply wR; simp -dsimp) | refine aI ?_)
  refine cF (by simp) ?_
  repeat (first | apply wG | (apply wR; simp -dsimp) | refine aI ?_)
  refine cF (by simp) ?_
  repeat (first | apply wG | (apply wR; simp -dsimp) | refine aI ?_)
  refine cF (by simp) ?_
  repeat (first | apply wG | (apply wR; simp -dsimp) | refine aI ?_)
  refine cF (by simp) ?_
  repeat (first | apply wG | (apply wR; simp -dsimp) | refine aI ?_)
  refine cF (by simp) ?_
  repeat (first | apply wG | (apply wR; simp -dsimp) | refine aI ?_)
  refine cT (by simp) ?_
  repeat (first | apply wG | (apply wR; simp -dsimp) | refine aI ?_)
  refine WP.weak (Wk.retag 371 0 (by decide) (by simp)) ?_
  simp -dsimp
  refine WP.ret (finQ.retE ?_)
  simp -dsimp [entA, locA]

theorem open_13 (f : Nat → Int) (s : Int) (hk : f 3 = 13) {E : List Ent} (hE : ents (f 3) (f 49) = some E) :
    Fun Tryd.prog 42 [.ptr 1000 0, .ptr 1001 0] [(1000, fB f), (1001, sB s)] (.tup [.agg [.row 0, .d (.v (.func (.func 65) #[] #[]))], .d (.v (.bool true))]) [(1000, fB f), (1001, sB s), (0, .row 134 3 E.length (entA 1000 1001 E))] fun _ => False := by
  rw [hk] at hE
  simp [ents] at hE
  subst hE
  refine Fun.of_wp (pn := noPn) Tryd.tab Tryd.func42 rfl fun β0 => ?_
  simp only [Tryd.f42]
  repeat (first | apply wG | (apply wR; simp -dsimp) | refine aI ?_)
  rw [hk]
  refine cF (by simp) ?_
  repeat (first | apply wG | (apply wR; simp -dsimp) | refine aI ?_)
  refine cF (by simp) ?_
  repeat (first | apply wG | (apply wR; simp -dsimp) | refine aI ?_)
  refine cF (by simp) ?_
  repeat (first | apply wG | (apply wR; simp -dsimp) | refine aI ?_)
  refine cF (by simp) ?_
  repeat (first | apply wG | (apply wR; simp -dsimp) | refine aI ?_)
  refine cF (by simp) ?_
  repeat (first | apply wG | (apply wR; simp -dsimp) | refine aI ?_)
  refine cF (by simp) ?_
  repeat (first | apply wG | (apply wR; simp -dsimp) | refine aI ?_)
  refine cF (by simp) ?_
  repeat (first | apply wG | (apply wR; simp -dsimp) | refine aI ?_)
  refine cF (by simp) ?_
  repeat (first | apply wG | (apply wR; simp -dsimp) | refine aI ?_)
  refine cF (by simp) ?_
  repeat (first | apply wG | (apply wR; simp -dsimp) | refine aI ?_)
  refine cF (by simp) ?_
  repeat (first | apply wG | (apply wR; simp -dsimp) | refine aI ?_)
  refine cF (by simp) ?_
  repeat (first | apply wG | (apply wR; simp -dsimp) | refine aI ?_)
  refine cF (by simp) ?_
  repeat (first | apply wG | (apply wR; simp -dsimp) | refine aI ?_)
  refine cT (by simp) ?_
  repeat (first | apply wG | (apply wR; simp -dsimp) | refine aI ?_)
  refine WP.weak (Wk.retag 390 0 (by decide) (by simp)) ?_
  simp -dsimp
  refine WP.ret (finQ.retE ?_)
  simp -dsimp [entA, locA]

end Go.Proofs.YtaplgjnlfleklaaDoor
