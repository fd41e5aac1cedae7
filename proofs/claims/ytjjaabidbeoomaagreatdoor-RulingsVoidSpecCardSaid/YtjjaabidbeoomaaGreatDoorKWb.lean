/-
  Rulings: which one prevails, and what an appeal does, in plain lists.
-/
import Derived.Test.YtjjaabidbeoomaaGreatDoorKQz
set_option linter.unusedSectionVars false
set_option linter.unusedSimpArgs false
set_option linter.unusedVariables false
namespace Go.Proofs.YtjjaabidbeoomaaGreatDoor
open Go.Xe Go.RowKit

theorem susB_eq (c : List F) (n : Int) : susB (fileOf c n) = (c.any (isApp n) && (decide (0 < (c.filter (isRul n 1)).length) && decide ((c.filter (isRul n 2)).length = 0))) := rfl
/-! ### what an appeal does -/
theorem pw_eq {α : Type} {R : α → α → Prop} (asy : ∀ a b, R a b → ¬ R b a) : ∀ {A B : List α}, A.Pairwise R → B.Pairwise R → (∀ x, x ∈ A ↔ x ∈ B) → A = B
  | [], [], _, _, _ => rfl
  | [], b :: B, _, _, h => absurd ((h b).2 (by simp)) (by simp)
  | a :: A, [], _, _, h => absurd ((h a).1 (by simp)) (by simp)
  | a :: A, b :: B, ha, hb, h => by
    obtain ⟨ha1, ha2⟩ := List.pairwise_cons.1 ha
    obtain ⟨hb1, hb2⟩ := List.pairwise_cons.1 hb
    have e : a = b := by
      rcases List.mem_cons.1 ((h a).1 (by simp)) with e | h1
      · exact e
      · rcases List.mem_cons.1 ((h b).2 (by simp)) with e | h2
        · exact e.symm
        · exact absurd (ha1 b h2) (asy _ _ (hb1 a h1))
    subst e
    rw [pw_eq asy ha2 hb2 fun x => ?_]
    constructor
    · intro hx
      rcases List.mem_cons.1 ((h x).1 (by simp [hx])) with e | h1
      · subst e; exact absurd (ha1 x hx) fun hr => asy _ _ hr hr
      · exact h1
    · intro hx
      rcases List.mem_cons.1 ((h x).2 (by simp [hx])) with e | h1
      · subst e; exact absurd (hb1 x hx) fun hr => asy _ _ hr hr
      · exact h1
abbrev AscC (l : List F) : Prop := l.Pairwise fun a b => a 47 < b 47
theorem fm_asc {g : Int → Option F} (h : ∀ m f, g m = some f → f 47 = m) : ∀ {l : List Int}, AscI l → AscC (l.filterMap g)
  | [], _ => List.Pairwise.nil
  | n :: l, ha => by
    obtain ⟨h1, h2⟩ := List.pairwise_cons.1 ha
    have ih := fm_asc h h2
    rw [List.filterMap_cons]
    cases hg : g n with
    | none => exact ih
    | some f =>
      refine List.pairwise_cons.2 ⟨fun x hx => ?_, ih⟩
      obtain ⟨m, hm, hx⟩ := List.mem_filterMap.1 hx
      rw [h n f hg, h m x hx]
      exact h1 m hm
theorem allO_asc (c : List F) : AscC (allO c) := fm_asc (fun _ _ h => force_case h) (casesL_ok c).asc
theorem allO_iff (c : List F) (f : F) : f ∈ allO c ↔ forceO (fileOf c (f 47)) = some f := by
  constructor
  · intro h
    obtain ⟨n, _, hn⟩ := List.mem_filterMap.1 h
    have e := force_case hn
    subst e
    exact hn
  · intro h
    refine List.mem_filterMap.2 ⟨f 47, ((casesL_ok c).mem _).2 ⟨f, force_mem h, ?_⟩, h⟩
    unfold forceO at h
    split at h
    · cases h
    · split at h
      · rename_i x hx
        cases h
        exact rul_case (List.mem_filter.1 (List.mem_of_head? hx)).2
      · exact rul_case (List.mem_filter.1 (List.mem_of_head? h)).2
section
variable {l : List F} {f : F} (hv : ∀ x ∈ l, fOk x) (hf : vOk f) (h3 : f 3 = 11)
include hv hf h3
end
end Go.Proofs.YtjjaabidbeoomaaGreatDoor
