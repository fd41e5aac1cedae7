/-
  What else must hold of a fact; open as its callers see it; the copies.
-/
import Derived.Test.YtnljenjcaeophaaGreatDoorSFc
import Derived.Test.YtnljenjcaeophaaGreatDoorS4
set_option linter.unusedVariables false
set_option linter.unusedSimpArgs false
set_option linter.unusedSectionVars false
namespace Go.Proofs.YtnljenjcaeophaaGreatDoor
open Go.Xe Go.RowKit
section
variable (kf ks : Nat)
@[simp] theorem ent_ren (ρ : Nat → Nat) : ∀ E : List Ent, renL ρ (entA kf ks E) = entA (ρ kf) (ρ ks) E
 | [] => rfl
 | (o, lo, hi) :: r => by
  rw [entA, renL, renL, renL, ent_ren ρ r, entA]
  cases o <;> rfl
@[simp] theorem ent_has (k : Nat) (h1 : kf ≠ k) (h2 : ks ≠ k) : ∀ E : List Ent, AV.hasL k (entA kf ks E) = false
 | [] => rfl
 | (o, lo, hi) :: r => by
  rw [entA, AV.hasL, AV.hasL, AV.hasL, ent_has k h1 h2 r]
  cases o <;> simp [locA, AV.has, h1, h2]
@[simp] theorem ent_tags (bo : Bxs) (h1 : (getB bo kf).isSome = true) (h2 : (getB bo ks).isSome = true) : ∀ E : List Ent, tagsIn bo (AV.tagsL (entA kf ks E)) = true
 | [] => rfl
 | (o, lo, hi) :: r => by
  have := ent_tags bo h1 h2 r
  rw [entA]
  cases o <;> simp [locA, AV.tagsL, AV.tags, tagsIn, h1, h2, this]
@[simp] theorem ent_frz (k sz n : Nat) (ds : List D) (h1 : kf ≠ k) (h2 : ks ≠ k) : ∀ E : List Ent, frzL k sz n ds (entA kf ks E) = entA kf ks E
 | [] => rfl
 | (o, lo, hi) :: r => by
  rw [entA, frzL, frzL, frzL, ent_frz k sz n ds h1 h2 r]
  cases o <;> simp [locA, frz, h1, h2]
@[simp] theorem ent_append : ∀ A B : List Ent, entA kf ks (A ++ B) = entA kf ks A ++ entA kf ks B
 | [], B => rfl
 | (o, lo, hi) :: r, B => by rw [List.cons_append, entA, entA, ent_append r B]; rfl
@[simp] theorem ent_one : ∀ E : List Ent, (∀ c ∈ entA kf ks E, oneA c = true) ↔ True
 | [] => by simp [entA]
 | (o, lo, hi) :: r => by
  have := ent_one r
  rw [entA]
  cases o <;> simp [locA, oneA, oneD, Value.oneCell'] <;> exact of_eq_true (eq_true (by simpa using this))
@[simp] theorem ent_length (E : List Ent) : (entA kf ks E).length = E.length * 3 := entA_length kf ks E
end
@[simp] theorem head_ks (kf ks : Nat) (h : ks ≠ kf) : entA kf ks headE = entA kf kf headE := rfl
@[simp] theorem headE_len : headE.length = 4 := rfl
theorem always_ok : Fn0 Tryz.prog 211 [] (.v (.bool true)) := by
 refine Fun.of_wp (pn := noPn) Tryz.tab Tryz.func211 rfl fun β0 => ?_
 simp only [Tryz.f211]
 repeat(first|apply wG|(apply wR;simp -dsimp)|refine aI ?_)
 refine WP.ret (finQ.retE ?_)
 simp -dsimp
theorem fine_4 (f : Nat → Int) : Fun Tryz.prog 212 [.ptr 1000 0] [(1000, .cells 268 [.ptr 1001 21]), (1001, fB f)] (.d (.v (.bool (decide (f 27 ≤ f 28))))) [(1000, .cells 268 [.ptr 1001 21]), (1001, fB f)] fun _ => False := by
 refine Fun.of_wp (pn := noPn) Tryz.tab Tryz.func212 rfl fun β0 => ?_
 simp only [Tryz.f212]
 repeat(first|apply wG|(apply wR;simp -dsimp)|refine aI ?_)
 refine WP.ret (finQ.retE ?_)
 simp -dsimp
theorem fine_5 (f : Nat → Int) : Fun Tryz.prog 213 [.ptr 1000 0] [(1000, .cells 269 [.ptr 1001 29]), (1001, fB f)] (.d (.v (.bool (decide (f 31 ≤ f 32))))) [(1000, .cells 269 [.ptr 1001 29]), (1001, fB f)] fun _ => False := by
 refine Fun.of_wp (pn := noPn) Tryz.tab Tryz.func213 rfl fun β0 => ?_
 simp only [Tryz.f213]
 repeat(first|apply wG|(apply wR;simp -dsimp)|refine aI ?_)
 refine WP.ret (finQ.retE ?_)
 simp -dsimp
theorem fine_6 (f : Nat → Int) : Fun Tryz.prog 214 [.ptr 1000 0] [(1000, .cells 270 [.ptr 1001 33]), (1001, fB f)] (.d (.v (.bool (decide (f 35 ≤ f 36))))) [(1000, .cells 270 [.ptr 1001 33]), (1001, fB f)] fun _ => False := by
 refine Fun.of_wp (pn := noPn) Tryz.tab Tryz.func214 rfl fun β0 => ?_
 simp only [Tryz.f214]
 repeat(first|apply wG|(apply wR;simp -dsimp)|refine aI ?_)
 refine WP.ret (finQ.retE ?_)
 simp -dsimp
theorem fine_7 (f : Nat → Int) : Fun Tryz.prog 215 [.ptr 1000 0] [(1000, .cells 271 [.ptr 1001 37]), (1001, fB f)] (.d (.v (.bool (decide (f 37 < f 38))))) [(1000, .cells 271 [.ptr 1001 37]), (1001, fB f)] fun _ => False := by
 refine Fun.of_wp (pn := noPn) Tryz.tab Tryz.func215 rfl fun β0 => ?_
 simp only [Tryz.f215]
 repeat(first|apply wG|(apply wR;simp -dsimp)|refine aI ?_)
 refine WP.ret (finQ.retE ?_)
 simp -dsimp
theorem kind_of {k r : Int} {E : List Ent} (h : ents k r = some E) : k = 1 ∨ k = 2 ∨ k = 3 ∨ k = 4 ∨ k = 5 ∨ k = 6 ∨ k = 7 ∨ k = 8 ∨ k = 9 ∨ k = 10 ∨ k = 11 ∨ k = 12 ∨ k = 13 := by
 by_cases hk : k = 1 ∨ k = 2 ∨ k = 3 ∨ k = 4 ∨ k = 5 ∨ k = 6 ∨ k = 7 ∨ k = 8 ∨ k = 9 ∨ k = 10 ∨ k = 11 ∨ k = 12 ∨ k = 13
 ·exact hk
 ·simp only [not_or] at hk
  simp [ents, hk] at h
def clos (k : Int) : Option (Nat × Nat × Nat) := if k = 4 then some (268, 212, 21) else if k = 5 then some (269, 213, 29) else if k = 6 then some (270, 214, 33) else if k = 7 then some (271, 215, 37) else none
abbrev openP (f : Nat → Int) (s : Int) (E : List Ent) : Prop :=
 Fun Tryz.prog 166 [.ptr 1000 0, .ptr 1001 0] [(1000, fB f), (1001, sB s)] (.tup [.agg [.row 0, .d (.v (.func (.func 211) #[] #[]))], .d (.v (.bool true))]) [(1000, fB f), (1001, sB s), (0, .row 234 3 E.length (entA 1000 1001 E))] fun _ => False
abbrev openC (f : Nat → Int) (s : Int) (E : List Ent) (T g off : Nat) : Prop :=
 Fun Tryz.prog 166 [.ptr 1000 0, .ptr 1001 0] [(1000, fB f), (1001, sB s)] (.tup [.agg [.row 0, .fn (.func g) [] [.ptr 1 0]], .d (.v (.bool true))]) [(1000, fB f), (1001, sB s), (0, .row 234 3 E.length (entA 1000 1001 E)), (1, .cells T [.ptr 1000 off])] fun _ => False
theorem open_P (f : Nat → Int) (s : Int) {E : List Ent} (hE : ents (f 3) (f 49) = some E) (hc : clos (f 3) = none) : openP f s E := by
 rcases kind_of hE with h | h | h | h | h | h | h | h | h | h | h | h | h
 ·exact open_1 f s h hE
 ·exact open_2 f s h hE
 ·exact open_3 f s h hE
 ·rw [h] at hc; cases hc
 ·rw [h] at hc; cases hc
 ·rw [h] at hc; cases hc
 ·rw [h] at hc; cases hc
 ·exact open_8 f s h hE
 ·exact open_9 f s h hE
 ·exact open_10 f s h hE
 ·exact open_11 f s h hE
 ·exact open_12 f s h hE
 ·exact open_13 f s h hE
theorem open_C (f : Nat → Int) (s : Int) {E : List Ent} (hE : ents (f 3) (f 49) = some E) {T g off : Nat} (hc : clos (f 3) = some (T, g, off)) : openC f s E T g off := by
 have hk : f 3 = 4 ∨ f 3 = 5 ∨ f 3 = 6 ∨ f 3 = 7 := by
  unfold clos at hc
  by_cases h : f 3 = 4 ∨ f 3 = 5 ∨ f 3 = 6 ∨ f 3 = 7
  ·exact h
  ·simp only [not_or] at h
   simp [h] at hc
 rcases hk with h | h | h | h <;> rw [h] at hc <;> simp [clos] at hc <;> obtain ⟨rfl, rfl, rfl⟩ := hc
 ·exact open_4 f s h hE
 ·exact open_5 f s h hE
 ·exact open_6 f s h hE
 ·exact open_7 f s h hE
theorem ents_len {k r : Int} {E : List Ent} (h : ents k r = some E) : E.length ≤ 8 := by
 rcases kind_of h with h' | h' | h' | h' | h' | h' | h' | h' | h' | h' | h' | h' | h' <;> subst h' <;> simp [ents] at h <;> subst h <;> (try (simp; done))
 unfold entsR
 split <;> simp
abbrev putC (f g : Nat → Int) (s : Int) (E : List Ent) : Prop :=
  Fun Tryz.prog 167 [.ptr 1000 0, .ptr 1001 0, .ptr 1002 0] [(1000, fB g), (1001, sB s), (1002, fB f)] (.row 0) [(1000, fB (fup g 3 (f 3))), (1001, sB s), (1002, fB f), (0, .row 234 3 (4 + E.length) (entA 1000 1001 (headE ++ E)))] fun _ => False
theorem put_P (f g : Nat → Int) (s : Int) {E : List Ent} (hlen : E.length ≤ 8) (h38 : openP (fup g 3 (f 3)) s E) : putC f g s E := by
 refine Fun.of_wp (pn := noPn) Tryz.tab Tryz.func167 rfl fun β0 => ?_
 simp only [Tryz.f167]
 repeat(first|apply wG|(apply wR;simp -dsimp)|refine aI ?_)
 refine vcStop.call Tryz.body166 (h38) (rl [(0, 700)]) rfl rfl (by simp [BoxLeq]) (CallOk.of (by simp [BoxLeq]) rfl (by first | rfl | (simp [BoxLeq]; done)) (by simp [BoxLeq]) (by simp [BoxLeq])) (fun _ h => h.elim) (fun ⟨_, h⟩ => h.elim) (fun ⟨_, h⟩ => h.elim) (by simp [BoxLeq]) ?_
 simp -dsimp
 repeat(first|apply wG|(apply wR;simp -dsimp)|refine aI ?_)
 refine vcStop.call Tryz.body168 (head_ok (fup g 3 (f 3))) (rl [(0, 20)]) rfl rfl (by simp [BoxLeq]) (CallOk.of (by simp [BoxLeq]) rfl (by first | rfl | (simp [BoxLeq]; done)) (by simp [BoxLeq]) (by simp [BoxLeq])) (fun _ h => h.elim) (fun ⟨_, h⟩ => h.elim) (fun ⟨_, h⟩ => h.elim) (by simp [BoxLeq]) ?_
 simp -dsimp
 repeat(first|apply wG|(apply wR;simp -dsimp)|refine aI ?_)
 refine WP.weak (Wk.retag 23 0 (by decide) (by simp)) ?_
 simp -dsimp
 refine WP.ret (finQ.retE ?_)
 simp -dsimp
theorem put_C (f g : Nat → Int) (s : Int) {E : List Ent} (hlen : E.length ≤ 8) {T q off : Nat} (h38 : openC (fup g 3 (f 3)) s E T q off) : putC f g s E := by
 refine Fun.of_wp (pn := noPn) Tryz.tab Tryz.func167 rfl fun β0 => ?_
 simp only [Tryz.f167]
 repeat(first|apply wG|(apply wR;simp -dsimp)|refine aI ?_)
 refine vcStop.call Tryz.body166 (h38) (rl [(0, 700), (1, 701)]) rfl rfl (by simp [BoxLeq]) (CallOk.of (by simp [BoxLeq]) rfl (by first | rfl | (simp [BoxLeq]; done)) (by simp [BoxLeq]) (by simp [BoxLeq])) (fun _ h => h.elim) (fun ⟨_, h⟩ => h.elim) (fun ⟨_, h⟩ => h.elim) (by simp [BoxLeq]) ?_
 simp -dsimp
 repeat(first|apply wG|(apply wR;simp -dsimp)|refine aI ?_)
 refine vcStop.call Tryz.body168 (head_ok (fup g 3 (f 3))) (rl [(0, 20)]) rfl rfl (by simp [BoxLeq]) (CallOk.of (by simp [BoxLeq]) rfl (by first | rfl | (simp [BoxLeq]; done)) (by simp [BoxLeq]) (by simp [BoxLeq])) (fun _ h => h.elim) (fun ⟨_, h⟩ => h.elim) (fun ⟨_, h⟩ => h.elim) (by simp [BoxLeq]) ?_
 simp -dsimp
 repeat(first|apply wG|(apply wR;simp -dsimp)|refine aI ?_)
 refine WP.weak (Wk.retag 23 0 (by decide) (by simp)) ?_
 simp -dsimp
 refine WP.ret (finQ.retE ?_)
 simp -dsimp
theorem put_ok (f g : Nat → Int) (s : Int) {E : List Ent} (hE : ents (f 3) (g 49) = some E) : putC f g s E := by
 have hE' : ents (fup g 3 (f 3) 3) (fup g 3 (f 3) 49) = some E := by simpa [fup] using hE
 cases hc : clos (fup g 3 (f 3) 3) with
 | none => exact put_P f g s (ents_len hE) (open_P _ s hE' hc)
 | some p => obtain ⟨T, q, off⟩ := p; exact put_C f g s (ents_len hE) (open_C _ s hE' hc)
end Go.Proofs.YtnljenjcaeophaaGreatDoor
