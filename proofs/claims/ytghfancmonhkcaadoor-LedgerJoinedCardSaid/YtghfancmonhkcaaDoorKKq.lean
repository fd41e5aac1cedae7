/-
  Ledgers: what is recorded by a time, and what is in force, in plain lists.
-/
import Derived.Test.YtghfancmonhkcaaDoorKKp
set_option linter.unusedSectionVars false
set_option linter.unusedSimpArgs false
set_option linter.unusedVariables false
namespace Go.Proofs.YtghfancmonhkcaaDoor
open Go.Xe Go.RowKit

def refF (f : F) : Int × Int := (f 0, f 1)
/-- The facts that are recorded by a time: of each reference the first. -/
def recS (t : Int) : List F → List (Int × Int) → List F
  | [], _ => []
  | f :: l, met => if t < f 2 ∨ refF f ∈ met then recS t l met else f :: recS t l (met ++ [refF f])
/-- What they void. -/
def voidB (f : F) : Bool := decide (f 3 = 13) && decide (f 0 ≤ f 55)
def voidsL (r : List F) : List (Int × Int) := (r.filter voidB).map fun f => (f 55, f 56)
def viewL (t : Int) (all : List F) : List F := (recS t all []).filter fun f => !decide (f 3 = 13) && !decide (refF f ∈ voidsL (recS t all []))

theorem recS_sub (t : Int) : ∀ (l : List F) (met : List (Int × Int)), (recS t l met).Sublist l
  | [], _ => List.Sublist.slnil
  | f :: l, met => by
    rw [recS]
    split
    · exact (recS_sub t l met).cons f
    · exact (recS_sub t l _).cons_cons f
theorem cmp_at {f g : F} (h : cmpF f g < 0) : f 2 ≤ g 2 := by
  unfold cmpF headC orL at h
  by_cases h2 : cmpI (f 2) (g 2) = 0
  · unfold cmpI at h2
    split at h2 <;> (try split at h2) <;> omega
  · rw [if_neg (by simp [h2])] at h
    simp only [h2, if_false, ne_eq, not_false_eq_true, if_true] at h
    unfold cmpI at h
    split at h <;> (try split at h) <;> first | omega | (simp at h)
theorem recS_iff {t : Int} : ∀ {l : List F} {met : List (Int × Int)}, l.Pairwise (fun a b => cmpF a b < 0) → ∀ f, f ∈ recS t l met ↔ f ∈ l ∧ f 2 ≤ t ∧ refF f ∉ met ∧ ∀ g ∈ l, refF g = refF f → ¬ cmpF g f < 0
  | [], _, _, f => by simp [recS]
  | x :: l, met, hp, f => by
    have hp2 := (List.pairwise_cons.1 hp).2
    have hp1 := (List.pairwise_cons.1 hp).1
    have irr : ∀ a : F, ¬ cmpF a a < 0 := fun a h => by have := cmp_fact.anti a a; omega
    have asy : ∀ {a b : F}, cmpF a b < 0 → ¬ cmpF b a < 0 := fun {a b} h h' => by have := cmp_fact.anti a b; omega
    rw [recS]
    split
    · rename_i hx
      rw [recS_iff hp2]
      constructor
      · rintro ⟨h1, h2, h3, h4⟩
        refine ⟨List.mem_cons_of_mem _ h1, h2, h3, fun g hg he hl => ?_⟩
        rcases List.mem_cons.1 hg with rfl | hg
        · rcases hx with hx | hx
          · have := cmp_at hl; omega
          · rw [he] at hx; exact h3 hx
        · exact h4 g hg he hl
      · rintro ⟨h1, h2, h3, h4⟩
        rcases List.mem_cons.1 h1 with rfl | h1
        · rcases hx with hx | hx
          · omega
          · exact absurd hx h3
        · exact ⟨h1, h2, h3, fun g hg => h4 g (List.mem_cons_of_mem _ hg)⟩
    · rename_i hx
      have hx1 : x 2 ≤ t := by
        rcases Int.lt_or_le t (x 2) with h | h
        · exact absurd (.inl h) hx
        · exact h
      have hx2 : refF x ∉ met := fun h => hx (.inr h)
      rw [List.mem_cons, recS_iff hp2]
      constructor
      · rintro (rfl | ⟨h1, h2, h3, h4⟩)
        · refine ⟨by simp, hx1, hx2, fun g hg he hl => ?_⟩
          rcases List.mem_cons.1 hg with rfl | hg
          · exact irr _ hl
          · exact asy (hp1 g hg) hl
        · refine ⟨List.mem_cons_of_mem _ h1, h2, fun h => h3 (by simp [h]), fun g hg he hl => ?_⟩
          rcases List.mem_cons.1 hg with rfl | hg
          · exact h3 (by simp [he])
          · exact h4 g hg he hl
      · rintro ⟨h1, h2, h3, h4⟩
        rcases List.mem_cons.1 h1 with rfl | h1
        · exact .inl rfl
        · refine .inr ⟨h1, h2, fun h => ?_, fun g hg => h4 g (List.mem_cons_of_mem _ hg)⟩
          rcases List.mem_append.1 h with h | h
          · exact h3 h
          · have he : refF f = refF x := by simpa using h
            exact h4 x (by simp) he.symm (hp1 f h1)
theorem voids_iff {r : List F} {p : Int × Int} : p ∈ voidsL r ↔ ∃ g ∈ r, g 3 = 13 ∧ g 0 ≤ g 55 ∧ (g 55, g 56) = p := by
  simp only [voidsL, List.mem_map, List.mem_filter, voidB, Bool.and_eq_true, decide_eq_true_eq]
  constructor
  · rintro ⟨g, ⟨h1, h2, h3⟩, h4⟩; exact ⟨g, h1, h2, h3, h4⟩
  · rintro ⟨g, h1, h2, h3, h4⟩; exact ⟨g, ⟨h1, h2, h3⟩, h4⟩
theorem view_sub (t : Int) (l : List F) : (viewL t l).Sublist l := List.filter_sublist.trans (recS_sub t l [])
/-- What is in force. -/
theorem view_iff {t : Int} {l : List F} (hp : l.Pairwise fun a b => cmpF a b < 0) (f : F) : f ∈ viewL t l ↔
    (f ∈ l ∧ f 2 ≤ t ∧ ∀ g ∈ l, refF g = refF f → ¬ cmpF g f < 0) ∧ f 3 ≠ 13 ∧ ∀ g ∈ l, g 2 ≤ t → (∀ h ∈ l, refF h = refF g → ¬ cmpF h g < 0) → ¬ (g 3 = 13 ∧ g 0 ≤ f 0 ∧ (g 55, g 56) = refF f) := by
  unfold viewL
  rw [List.mem_filter, recS_iff hp]
  simp only [List.not_mem_nil, not_false_eq_true, true_and, Bool.and_eq_true, Bool.not_eq_true', decide_eq_false_iff_not]
  refine and_congr Iff.rfl (and_congr Iff.rfl ?_)
  rw [voids_iff]
  constructor
  · rintro h g hg h1 h2 ⟨h3, h4, h5⟩
    refine h ⟨g, (recS_iff hp g).2 ⟨hg, h1, by simp, h2⟩, h3, ?_, h5⟩
    have : g 55 = f 0 := congrArg Prod.fst h5
    omega
  · rintro h ⟨g, hg, h3, h4, h5⟩
    obtain ⟨hg1, hg2, _, hg3⟩ := (recS_iff hp g).1 hg
    refine h g hg1 hg2 hg3 ⟨h3, ?_, h5⟩
    have : g 55 = f 0 := congrArg Prod.fst h5
    omega
end Go.Proofs.YtghfancmonhkcaaDoor
