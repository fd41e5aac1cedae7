/-
  Joined texts.
-/
import Derived.Test.YtnljenjcaeophaaGreatDoorMM
set_option linter.unusedVariables false
set_option linter.unusedSimpArgs false
set_option linter.unusedSectionVars false
namespace Go.Proofs.YtnljenjcaeophaaGreatDoor
open Go.Xe Go.RowKit
theorem cmp_irr (f : F) : ¬ cmpF f f < 0 := fun h => by
 have := cmp_fact.anti f f
 omega
theorem frk_pair {l : List Sg} (hl : ∀ s ∈ l, fOk s.1) {q : Sg × Sg} (hq : q ∈ frkL l) :
  (q.1 ∈ l ∧ q.2 ∈ l) ∧ (vS2 q.1 = true ∧ vS2 q.2 = true) ∧ refS q.1 = refS q.2 ∧ cmpF q.1.1 q.2.1 < 0 := by
 obtain ⟨r, _, h⟩ := List.mem_filterMap.1 hq
 obtain ⟨h1, h2, h3, h4, h5⟩ := two_ok hl h
 refine ⟨⟨fstO_in h1, fstO_in h2⟩, ⟨?_, ?_⟩, h3.trans h4.symm, h5⟩
 ·obtain ⟨_, _, _, h, _⟩ := h1; exact h
 ·obtain ⟨_, _, _, h, _⟩ := h2; exact h
theorem asc_filterMap {α : Type} (f : R2 → Option α) (g : α → R2) : ∀ {l : List R2}, AscR2 l → (∀ r a, f r = some a → g a = r) → AscR2 ((l.filterMap f).map g)
 | [], _, _ => List.Pairwise.nil
 | r :: l, h, hg => by
  obtain ⟨h1, h2⟩ := List.pairwise_cons.1 h
  have ih := asc_filterMap f g h2 hg
  rw [List.filterMap_cons]
  cases e : f r with
  | none => exact ih
  | some a =>
   rw [List.map_cons]
   refine List.pairwise_cons.2 ⟨fun x hx => ?_, ih⟩
   rw [hg r a e]
   obtain ⟨b, hb, rfl⟩ := List.mem_map.1 hx
   obtain ⟨s, hs, hs2⟩ := List.mem_filterMap.1 hb
   rw [hg s b hs2]
   exact h1 s hs
theorem frk_asc {l : List Sg} (hl : ∀ s ∈ l, fOk s.1) : AscR2 ((frkL l).map fun q => refS q.1) :=
 asc_filterMap (fun r => two (shlf r l)) (fun q => refS q.1) (sortR_asc _) fun r q h => by
  obtain ⟨a, b⟩ := q
  exact (two_ok hl h).2.2.1
theorem frk_found {l : List Sg} (hl : ∀ s ∈ l, fOk s.1) {s t : Sg} (hs : s ∈ l) (ht : t ∈ l) (vs : vS2 s = true) (vt : vS2 t = true) (hr : refS s = refS t) (hne : s.1 ≠ t.1) :
  ∃ q ∈ frkL l, refS q.1 = refS s ∧ cmpF q.1.1 s.1 ≤ 0 ∧ cmpF q.1.1 t.1 ≤ 0 := by
 obtain ⟨p1, m1⟩ := shlf_ok (refS s) l hl
 have key : ∀ u ∈ l, vS2 u = true → refS u = refS s → ∃ v ∈ shlf (refS s) l, v.1 = u.1 := fun u hu vu ru => by
  obtain ⟨v, hv, e⟩ := fstO_ex hu vu
  exact ⟨v, (m1 v).2 ⟨hv, by rw [refS, e]; exact ru⟩, e⟩
 obtain ⟨a, ha, ea⟩ := key s hs vs rfl
 obtain ⟨b, hb, eb⟩ := key t ht vt hr.symm
 cases e : shlf (refS s) l with
 | nil => rw [e] at ha; cases ha
 | cons x u =>
  cases u with
  | nil =>
   rw [e, List.mem_singleton] at ha hb
   subst ha hb
   exact absurd (ea.symm.trans eb) hne
  | cons y u =>
   have hin : (x, y) ∈ frkL l := by
    refine List.mem_filterMap.2 ⟨refS s, ?_, by rw [e]; rfl⟩
    rw [sortR_in, plsL]
    exact List.mem_map.2 ⟨s, List.mem_filter.2 ⟨hs, vs⟩, rfl⟩
   rw [e] at p1 ha hb
   have hxr : refS x = refS s := ((m1 x).1 (by rw [e]; simp)).2
   have hmin : ∀ v ∈ x :: y :: u, cmpF x.1 v.1 ≤ 0 := fun v hv => by
    rcases List.mem_cons.1 hv with rfl | hv
    ·have := cmp_irr v.1
     have := cmp_fact.anti v.1 v.1
     omega
    ·exact Int.le_of_lt ((List.pairwise_cons.1 p1).1 v hv)
   exact ⟨(x, y), hin, hxr, by rw [← ea]; exact hmin a ha, by rw [← eb]; exact hmin b hb⟩
end Go.Proofs.YtnljenjcaeophaaGreatDoor
