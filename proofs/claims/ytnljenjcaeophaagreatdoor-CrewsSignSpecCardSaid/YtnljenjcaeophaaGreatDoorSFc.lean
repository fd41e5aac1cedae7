/-
  What belongs to a kind, in the code: open, where the row has a condition of its own; rulings; short races; no kind.
-/
import Derived.Test.YtnljenjcaeophaaGreatDoorSFA
set_option maxRecDepth 10000
set_option linter.unusedVariables false
set_option linter.unusedSimpArgs false
set_option linter.unusedSectionVars false
namespace Go.Proofs.YtnljenjcaeophaaGreatDoor
open Go.Xe Go.RowKit
theorem open_4 (f : Nat → Int) (s : Int) (hk : f 3 = 4) {E : List Ent} (hE : ents (f 3) (f 49) = some E) :
  Fun Tryz.prog 166 [.ptr 1000 0, .ptr 1001 0] [(1000, fB f), (1001, sB s)] (.tup [.agg [.row 0, .fn (.func 212) [] [.ptr 1 0]], .d (.v (.bool true))]) [(1000, fB f), (1001, sB s), (0, .row 234 3 E.length (entA 1000 1001 E)), (1, .cells 268 [.ptr 1000 21])] fun _ => False := by
 rw [hk] at hE
 simp [ents] at hE
 subst hE
 refine Fun.of_wp (pn := noPn) Tryz.tab Tryz.func166 rfl fun β0 => ?_
 simp only [Tryz.f166]
 repeat(first|apply wG|(apply wR;simp -dsimp)|refine aI ?_)
 rw [hk]
 refine cF (by simp) ?_
 repeat(first|apply wG|(apply wR;simp -dsimp)|refine aI ?_)
 refine cF (by simp) ?_
 repeat(first|apply wG|(apply wR;simp -dsimp)|refine aI ?_)
 refine cF (by simp) ?_
 repeat(first|apply wG|(apply wR;simp -dsimp)|refine aI ?_)
 refine cT (by simp) ?_
 repeat(first|apply wG|(apply wR;simp -dsimp)|refine aI ?_)
 refine WP.weak ((Wk.retag 174 0 (by decide) (by simp)).trans (Wk.retag 9 1 (by decide) (by simp))) ?_
 simp -dsimp
 refine WP.ret (finQ.retE ?_)
 simp -dsimp [entA, locA]
theorem open_5 (f : Nat → Int) (s : Int) (hk : f 3 = 5) {E : List Ent} (hE : ents (f 3) (f 49) = some E) :
  Fun Tryz.prog 166 [.ptr 1000 0, .ptr 1001 0] [(1000, fB f), (1001, sB s)] (.tup [.agg [.row 0, .fn (.func 213) [] [.ptr 1 0]], .d (.v (.bool true))]) [(1000, fB f), (1001, sB s), (0, .row 234 3 E.length (entA 1000 1001 E)), (1, .cells 269 [.ptr 1000 29])] fun _ => False := by
 rw [hk] at hE
 simp [ents] at hE
 subst hE
 refine Fun.of_wp (pn := noPn) Tryz.tab Tryz.func166 rfl fun β0 => ?_
 simp only [Tryz.f166]
 repeat(first|apply wG|(apply wR;simp -dsimp)|refine aI ?_)
 rw [hk]
 refine cF (by simp) ?_
 repeat(first|apply wG|(apply wR;simp -dsimp)|refine aI ?_)
 refine cF (by simp) ?_
 repeat(first|apply wG|(apply wR;simp -dsimp)|refine aI ?_)
 refine cF (by simp) ?_
 repeat(first|apply wG|(apply wR;simp -dsimp)|refine aI ?_)
 refine cF (by simp) ?_
 repeat(first|apply wG|(apply wR;simp -dsimp)|refine aI ?_)
 refine cT (by simp) ?_
 repeat(first|apply wG|(apply wR;simp -dsimp)|refine aI ?_)
 refine WP.weak ((Wk.retag 202 0 (by decide) (by simp)).trans (Wk.retag 10 1 (by decide) (by simp))) ?_
 simp -dsimp
 refine WP.ret (finQ.retE ?_)
 simp -dsimp [entA, locA]
theorem open_6 (f : Nat → Int) (s : Int) (hk : f 3 = 6) {E : List Ent} (hE : ents (f 3) (f 49) = some E) :
  Fun Tryz.prog 166 [.ptr 1000 0, .ptr 1001 0] [(1000, fB f), (1001, sB s)] (.tup [.agg [.row 0, .fn (.func 214) [] [.ptr 1 0]], .d (.v (.bool true))]) [(1000, fB f), (1001, sB s), (0, .row 234 3 E.length (entA 1000 1001 E)), (1, .cells 270 [.ptr 1000 33])] fun _ => False := by
 rw [hk] at hE
 simp [ents] at hE
 subst hE
 refine Fun.of_wp (pn := noPn) Tryz.tab Tryz.func166 rfl fun β0 => ?_
 simp only [Tryz.f166]
 repeat(first|apply wG|(apply wR;simp -dsimp)|refine aI ?_)
 rw [hk]
 refine cF (by simp) ?_
 repeat(first|apply wG|(apply wR;simp -dsimp)|refine aI ?_)
 refine cF (by simp) ?_
 repeat(first|apply wG|(apply wR;simp -dsimp)|refine aI ?_)
 refine cF (by simp) ?_
 repeat(first|apply wG|(apply wR;simp -dsimp)|refine aI ?_)
 refine cF (by simp) ?_
 repeat(first|apply wG|(apply wR;simp -dsimp)|refine aI ?_)
 refine cF (by simp) ?_
 repeat(first|apply wG|(apply wR;simp -dsimp)|refine aI ?_)
 refine cT (by simp) ?_
 repeat(first|apply wG|(apply wR;simp -dsimp)|refine aI ?_)
 refine WP.weak ((Wk.retag 230 0 (by decide) (by simp)).trans (Wk.retag 11 1 (by decide) (by simp))) ?_
 simp -dsimp
 refine WP.ret (finQ.retE ?_)
 simp -dsimp [entA, locA]
theorem open_7 (f : Nat → Int) (s : Int) (hk : f 3 = 7) {E : List Ent} (hE : ents (f 3) (f 49) = some E) :
  Fun Tryz.prog 166 [.ptr 1000 0, .ptr 1001 0] [(1000, fB f), (1001, sB s)] (.tup [.agg [.row 0, .fn (.func 215) [] [.ptr 1 0]], .d (.v (.bool true))]) [(1000, fB f), (1001, sB s), (0, .row 234 3 E.length (entA 1000 1001 E)), (1, .cells 271 [.ptr 1000 37])] fun _ => False := by
 rw [hk] at hE
 simp [ents] at hE
 subst hE
 refine Fun.of_wp (pn := noPn) Tryz.tab Tryz.func166 rfl fun β0 => ?_
 simp only [Tryz.f166]
 repeat(first|apply wG|(apply wR;simp -dsimp)|refine aI ?_)
 rw [hk]
 refine cF (by simp) ?_
 repeat(first|apply wG|(apply wR;simp -dsimp)|refine aI ?_)
 refine cF (by simp) ?_
 repeat(first|apply wG|(apply wR;simp -dsimp)|refine aI ?_)
 refine cF (by simp) ?_
 repeat(first|apply wG|(apply wR;simp -dsimp)|refine aI ?_)
 refine cF (by simp) ?_
 repeat(first|apply wG|(apply wR;simp -dsimp)|refine aI ?_)
 refine cF (by simp) ?_
 repeat(first|apply wG|(apply wR;simp -dsimp)|refine aI ?_)
 refine cF (by simp) ?_
 repeat(first|apply wG|(apply wR;simp -dsimp)|refine aI ?_)
 refine cT (by simp) ?_
 repeat(first|apply wG|(apply wR;simp -dsimp)|refine aI ?_)
 refine WP.weak ((Wk.retag 248 0 (by decide) (by simp)).trans (Wk.retag 12 1 (by decide) (by simp))) ?_
 simp -dsimp
 refine WP.ret (finQ.retE ?_)
 simp -dsimp [entA, locA]
theorem open_12 (f : Nat → Int) (s : Int) (hk : f 3 = 12) {E : List Ent} (hE : ents (f 3) (f 49) = some E) :
  Fun Tryz.prog 166 [.ptr 1000 0, .ptr 1001 0] [(1000, fB f), (1001, sB s)] (.tup [.agg [.row 0, .d (.v (.func (.func 211) #[] #[]))], .d (.v (.bool true))]) [(1000, fB f), (1001, sB s), (0, .row 234 3 E.length (entA 1000 1001 E))] fun _ => False := by
 rw [hk] at hE
 simp [ents] at hE
 subst hE
 refine Fun.of_wp (pn := noPn) Tryz.tab Tryz.func166 rfl fun β0 => ?_
 simp only [Tryz.f166]
 repeat(first|apply wG|(apply wR;simp -dsimp)|refine aI ?_)
 rw [hk]
 refine cF (by simp) ?_
 repeat(first|apply wG|(apply wR;simp -dsimp)|refine aI ?_)
 refine cF (by simp) ?_
 repeat(first|apply wG|(apply wR;simp -dsimp)|refine aI ?_)
 refine cF (by simp) ?_
 repeat(first|apply wG|(apply wR;simp -dsimp)|refine aI ?_)
 refine cF (by simp) ?_
 repeat(first|apply wG|(apply wR;simp -dsimp)|refine aI ?_)
 refine cF (by simp) ?_
 repeat(first|apply wG|(apply wR;simp -dsimp)|refine aI ?_)
 refine cF (by simp) ?_
 repeat(first|apply wG|(apply wR;simp -dsimp)|refine aI ?_)
 refine cF (by simp) ?_
 repeat(first|apply wG|(apply wR;simp -dsimp)|refine aI ?_)
 refine cF (by simp) ?_
 repeat(first|apply wG|(apply wR;simp -dsimp)|refine aI ?_)
 refine cF (by simp) ?_
 repeat(first|apply wG|(apply wR;simp -dsimp)|refine aI ?_)
 refine cF (by simp) ?_
 repeat(first|apply wG|(apply wR;simp -dsimp)|refine aI ?_)
 refine cF (by simp) ?_
 repeat(first|apply wG|(apply wR;simp -dsimp)|refine aI ?_)
 refine cT (by simp) ?_
 repeat(first|apply wG|(apply wR;simp -dsimp)|refine aI ?_)
 refine WP.weak (Wk.nilCell 4 0 0 234 3 (by simp; exact ⟨rfl, rfl⟩) rfl (by simp)) ?_
 simp -dsimp
 refine WP.ret (finQ.retE ?_)
 simp -dsimp [entA, locA]
theorem open_no (f : Nat → Int) (s : Int) (hE : ents (f 3) (f 49) = none) :
  Fun Tryz.prog 166 [.ptr 1000 0, .ptr 1001 0] [(1000, fB f), (1001, sB s)] (.tup [.agg [.d (.v (.slice none 0 0)), .d (.v .nilFunc)], .d (.v (.bool false))]) [(1000, fB f), (1001, sB s)] fun _ => False := by
 have hn : f 3 < 1 ∨ 13 < f 3 := by
  rcases Int.lt_or_le (f 3) 1 with h | h
  ·exact .inl h
  ·rcases Int.lt_or_le 13 (f 3) with h2 | h2
   ·exact .inr h2
   ·have : f 3 = 1 ∨ f 3 = 2 ∨ f 3 = 3 ∨ f 3 = 4 ∨ f 3 = 5 ∨ f 3 = 6 ∨ f 3 = 7 ∨ f 3 = 8 ∨ f 3 = 9 ∨ f 3 = 10 ∨ f 3 = 11 ∨ f 3 = 12 ∨ f 3 = 13 := by omega
    rcases this with h | h | h | h | h | h | h | h | h | h | h | h | h <;> rw [h] at hE <;> simp [ents] at hE
 refine Fun.of_wp (pn := noPn) Tryz.tab Tryz.func166 rfl fun β0 => ?_
 simp only [Tryz.f166]
 repeat(first|apply wG|(apply wR;simp -dsimp)|refine aI ?_)
 refine cF (by simp; omega) ?_
 repeat(first|apply wG|(apply wR;simp -dsimp)|refine aI ?_)
 refine cF (by simp; omega) ?_
 repeat(first|apply wG|(apply wR;simp -dsimp)|refine aI ?_)
 refine cF (by simp; omega) ?_
 repeat(first|apply wG|(apply wR;simp -dsimp)|refine aI ?_)
 refine cF (by simp; omega) ?_
 repeat(first|apply wG|(apply wR;simp -dsimp)|refine aI ?_)
 refine cF (by simp; omega) ?_
 repeat(first|apply wG|(apply wR;simp -dsimp)|refine aI ?_)
 refine cF (by simp; omega) ?_
 repeat(first|apply wG|(apply wR;simp -dsimp)|refine aI ?_)
 refine cF (by simp; omega) ?_
 repeat(first|apply wG|(apply wR;simp -dsimp)|refine aI ?_)
 refine cF (by simp; omega) ?_
 repeat(first|apply wG|(apply wR;simp -dsimp)|refine aI ?_)
 refine cF (by simp; omega) ?_
 repeat(first|apply wG|(apply wR;simp -dsimp)|refine aI ?_)
 refine cF (by simp; omega) ?_
 repeat(first|apply wG|(apply wR;simp -dsimp)|refine aI ?_)
 refine cF (by simp; omega) ?_
 repeat(first|apply wG|(apply wR;simp -dsimp)|refine aI ?_)
 refine cF (by simp; omega) ?_
 repeat(first|apply wG|(apply wR;simp -dsimp)|refine aI ?_)
 refine cF (by simp; omega) ?_
 refine WP.skip ?_
 simp -dsimp
 repeat(first|apply wG|(apply wR;simp -dsimp)|refine aI ?_)
 refine WP.ret (finQ.retE ?_)
 simp -dsimp
set_option maxHeartbeats 4000000 in
theorem open_10 (f : Nat → Int) (s : Int) (hk : f 3 = 10) {E : List Ent} (hE : ents (f 3) (f 49) = some E) :
  Fun Tryz.prog 166 [.ptr 1000 0, .ptr 1001 0] [(1000, fB f), (1001, sB s)] (.tup [.agg [.row 0, .d (.v (.func (.func 211) #[] #[]))], .d (.v (.bool true))]) [(1000, fB f), (1001, sB s), (0, .row 234 3 E.length (entA 1000 1001 E))] fun _ => False := by
 rw [hk] at hE
 simp [ents] at hE
 subst hE
 refine Fun.of_wp (pn := noPn) Tryz.tab Tryz.func166 rfl fun β0 => ?_
 simp only [Tryz.f166]
 repeat(first|apply wG|(apply wR;simp -dsimp)|refine aI ?_)
 rw [hk]
 refine cF (by simp) ?_
 repeat(first|apply wG|(apply wR;simp -dsimp)|refine aI ?_)
 refine cF (by simp) ?_
 repeat(first|apply wG|(apply wR;simp -dsimp)|refine aI ?_)
 refine cF (by simp) ?_
 repeat(first|apply wG|(apply wR;simp -dsimp)|refine aI ?_)
 refine cF (by simp) ?_
 repeat(first|apply wG|(apply wR;simp -dsimp)|refine aI ?_)
 refine cF (by simp) ?_
 repeat(first|apply wG|(apply wR;simp -dsimp)|refine aI ?_)
 refine cF (by simp) ?_
 repeat(first|apply wG|(apply wR;simp -dsimp)|refine aI ?_)
 refine cF (by simp) ?_
 repeat(first|apply wG|(apply wR;simp -dsimp)|refine aI ?_)
 refine cF (by simp) ?_
 repeat(first|apply wG|(apply wR;simp -dsimp)|refine aI ?_)
 refine cF (by simp) ?_
 repeat(first|apply wG|(apply wR;simp -dsimp)|refine aI ?_)
 refine cT (by simp) ?_
 repeat(first|apply wG|(apply wR;simp -dsimp)|refine aI ?_)
 have hr : f 49 = 1 ∨ f 49 = 2 ∨ f 49 = 3 ∨ f 49 = 4 ∨ (f 49 ≠ 1 ∧ f 49 ≠ 2 ∧ f 49 ≠ 3 ∧ f 49 ≠ 4) := by omega
 rcases hr with hr | hr | hr | hr | ⟨hr1, hr2, hr3, hr4⟩
 ·rw [hr]
  refine cT (by simp) ?_
  refine WP.skip ?_
  simp -dsimp
  repeat(first|apply wG|(apply wR;simp -dsimp)|refine aI ?_)
  refine cT (by simp) ?_
  repeat(first|apply wG|(apply wR;simp -dsimp)|refine aI ?_)
  refine WP.weak (Wk.retag 358 0 (by decide) (by simp)) ?_
  simp -dsimp
  refine WP.ret (finQ.retE ?_)
  simp -dsimp [entA, locA, entsR, hr]
 ·rw [hr]
  refine cF (by simp) ?_
  repeat(first|apply wG|(apply wR;simp -dsimp)|refine aI ?_)
  refine cT (by simp) ?_
  repeat(first|apply wG|(apply wR;simp -dsimp)|refine aI ?_)
  refine WP.weak (Wk.retag 358 0 (by decide) (by simp)) ?_
  simp -dsimp
  refine WP.ret (finQ.retE ?_)
  simp -dsimp [entA, locA, entsR, hr]
 ·rw [hr]
  refine cF (by simp) ?_
  repeat(first|apply wG|(apply wR;simp -dsimp)|refine aI ?_)
  refine cF (by simp) ?_
  repeat(first|apply wG|(apply wR;simp -dsimp)|refine aI ?_)
  refine cT (by simp) ?_
  repeat(first|apply wG|(apply wR;simp -dsimp)|refine aI ?_)
  refine WP.weak (Wk.retag 358 0 (by decide) (by simp)) ?_
  simp -dsimp
  refine WP.ret (finQ.retE ?_)
  simp -dsimp [entA, locA, entsR, hr]
 ·rw [hr]
  refine cF (by simp) ?_
  repeat(first|apply wG|(apply wR;simp -dsimp)|refine aI ?_)
  refine cF (by simp) ?_
  repeat(first|apply wG|(apply wR;simp -dsimp)|refine aI ?_)
  refine cF (by simp) ?_
  repeat(first|apply wG|(apply wR;simp -dsimp)|refine aI ?_)
  refine cT (by simp) ?_
  repeat(first|apply wG|(apply wR;simp -dsimp)|refine aI ?_)
  refine WP.weak (Wk.retag 358 0 (by decide) (by simp)) ?_
  simp -dsimp
  refine WP.ret (finQ.retE ?_)
  simp -dsimp [entA, locA, entsR, hr]
 ·refine cF (by simp [*]) ?_
  repeat(first|apply wG|(apply wR;simp -dsimp)|refine aI ?_)
  refine cF (by simp [*]) ?_
  repeat(first|apply wG|(apply wR;simp -dsimp)|refine aI ?_)
  refine cF (by simp [*]) ?_
  repeat(first|apply wG|(apply wR;simp -dsimp)|refine aI ?_)
  refine cF (by simp [*]) ?_
  refine WP.skip ?_
  simp -dsimp
  repeat(first|apply wG|(apply wR;simp -dsimp)|refine aI ?_)
  refine WP.weak (Wk.retag 358 0 (by decide) (by simp)) ?_
  simp -dsimp
  refine WP.ret (finQ.retE ?_)
  simp -dsimp [entA, locA, entsR, hr1, hr2, hr3, hr4]
end Go.Proofs.YtnljenjcaeophaaGreatDoor
