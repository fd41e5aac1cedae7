/-
  Crews, in plain lists: the facts of the forks do not hang on the order.
-/
import Derived.Test.YtaplgjnlfleklaaDoorKM
set_option linter.unusedSectionVars false
set_option linter.unusedSimpArgs false
set_option linter.unusedVariables false
namespace Go.Proofs.YtaplgjnlfleklaaDoor
open Go.Xe Go.RowKit

theorem cmp_irr (f : F) : ¬ cmpF f f < 0 := fun h => by
  have := cmp_fact.anti f f
  omega
theorem cmp_asy {f g : F} (h : cmpF f g < 0) : ¬ cmpF g f < 0 := fun k => by
  have := cmp_fact.anti f g
  omega
abbrev AscF (l : List F) : Prop := l.Pairwise fun a b => cmpF a b < 0
theorem pwF_eq : ∀ {A B : List F}, AscF A → AscF B → (∀ x, x ∈ A ↔ x ∈ B) → A = B
  | [], [], _, _, _ => rfl
  | [], b :: B, _, _, h => absurd ((h b).2 (by simp)) (by simp)
  | a :: A, [], _, _, h => absurd ((h a).1 (by simp)) (by simp)
  | a :: A, b :: B, ha, hb, h => by
    obtain ⟨ha1, ha2⟩ := List.pairwise_cons.1 ha
    obtain ⟨hb1, hb2⟩ := List.pairwise_cons.1 hb
    have e : a = b := by
      rcases List.mem_cons.1 ((h a).1 (by simp)) with e | h1
      · exact e
      · rcases List.mem_cons.1 ((h b).2 (by simp)) with e | h2
        · exact e.symm
        · exact absurd (ha1 b h2) (cmp_asy (hb1 a h1))
    subst e
    rw [pwF_eq ha2 hb2 fun x => ?_]
    constructor
    · intro hx
      rcases List.mem_cons.1 ((h x).1 (by simp [hx])) with e | h1
      · subst e; exact absurd (ha1 x hx) (cmp_irr _)
      · exact h1
    · intro hx
      rcases List.mem_cons.1 ((h x).2 (by simp [hx])) with e | h1
      · subst e; exact absurd (hb1 x hx) (cmp_irr _)
      · exact h1
def fs2 (q : Sg × Sg) : F × F := (q.1.1, q.2.1)
def twoF (x : List F) : Option (F × F) := match x with
  | a :: b :: _ => some (a, b)
  | _ => none
theorem two_fs : ∀ x : List Sg, (two x).map fs2 = twoF (x.map (·.1))
  | [] => rfl
  | [_] => rfl
  | _ :: _ :: _ => rfl
theorem shlf_facts {a R : List Sg} (ha : ∀ s ∈ a, fOk s.1) (h : ∀ q, q ∈ R ↔ q ∈ a) (r : R2) : (shlf r R).map (·.1) = (shlf r a).map (·.1) := by
  have hR : ∀ s ∈ R, fOk s.1 := fun s hs => ha s ((h s).1 hs)
  obtain ⟨p1, m1⟩ := shlf_ok r R hR
  obtain ⟨p2, m2⟩ := shlf_ok r a ha
  have key : ∀ {l : List Sg}, (∀ s, s ∈ shlf r l ↔ fstO l s ∧ refS s = r) → ∀ f, f ∈ (shlf r l).map (·.1) ↔ ∃ s ∈ l, s.1 = f ∧ vS2 s = true ∧ refS s = r := fun {l} m f => by
    rw [List.mem_map]
    constructor
    · rintro ⟨s, hs, rfl⟩
      obtain ⟨k1, k2⟩ := (m s).1 hs
      have k3 := fstO_in k1
      obtain ⟨_, _, _, k4, _⟩ := k1
      exact ⟨s, k3, rfl, k4, k2⟩
    · rintro ⟨s, hs, rfl, hv, hr⟩
      obtain ⟨t, ht, e⟩ := fstO_ex hs hv
      exact ⟨t, (m t).2 ⟨ht, by rw [refS, e]; exact hr⟩, e⟩
  refine pwF_eq (List.pairwise_map.2 p1) (List.pairwise_map.2 p2) fun f => ?_
  rw [key m1, key m2]
  exact ⟨fun ⟨s, k, e⟩ => ⟨s, (h s).1 k, e⟩, fun ⟨s, k, e⟩ => ⟨s, (h s).2 k, e⟩⟩
theorem frk_facts {a R : List Sg} (ha : ∀ s ∈ a, fOk s.1) (h : ∀ q, q ∈ R ↔ q ∈ a) : (frkL R).map fs2 = (frkL a).map fs2 := by
  have e : sortR (plsL R) = sortR (plsL a) := by
    refine pwR_eq (sortR_asc _) (sortR_asc _) fun x => ?_
    rw [sortR_in, sortR_in, plsL, plsL]
    simp only [List.mem_map, List.mem_filter]
    exact ⟨fun ⟨s, ⟨k, e⟩, e'⟩ => ⟨s, ⟨(h s).1 k, e⟩, e'⟩, fun ⟨s, ⟨k, e⟩, e'⟩ => ⟨s, ⟨(h s).2 k, e⟩, e'⟩⟩
  rw [frkL, frkL, e, List.map_filterMap, List.map_filterMap]
  congr 1
  funext r
  rw [two_fs, two_fs, shlf_facts ha h]
end Go.Proofs.YtaplgjnlfleklaaDoor
