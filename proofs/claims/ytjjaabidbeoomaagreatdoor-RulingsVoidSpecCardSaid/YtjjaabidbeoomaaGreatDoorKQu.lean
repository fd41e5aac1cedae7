/-
  Rulings: without the void ones, in plain lists.
-/
import Derived.Test.YtjjaabidbeoomaaGreatDoorKQr
set_option linter.unusedSectionVars false
set_option linter.unusedSimpArgs false
set_option linter.unusedVariables false
namespace Go.Proofs.YtjjaabidbeoomaaGreatDoor
open Go.Xe Go.RowKit

theorem rul_eq {n i : Int} {f : F} (h : isRul n i f = true) : f 3 = 10 ∧ f 47 = n ∧ f 48 = i := by
  simp only [isRul, Bool.and_eq_true, decide_eq_true_eq] at h
  exact ⟨h.1, h.2.1, h.2.2⟩
theorem voidL_mem {c : List F} (hv : ∀ f ∈ c, vOk f) (f : F) : f ∈ voidL c ↔ ∃ n i, (i = 1 ∨ i = 2) ∧ n ∈ casesL c ∧ f ∈ (c.filter (isRul n i)).tail := by
  obtain ⟨_, h2, _⟩ := setF_canon (l := extN c (casesL c)) fun f hf => hv f (extN_in hf)
  rw [voidL, h2, extN, List.mem_flatMap]
  constructor
  · rintro ⟨n, hn, h⟩
    rcases List.mem_append.1 h with h | h
    · exact ⟨n, 1, .inl rfl, hn, h⟩
    · exact ⟨n, 2, .inr rfl, hn, h⟩
  · rintro ⟨n, i, rfl | rfl, hn, h⟩
    · exact ⟨n, hn, List.mem_append.2 (.inl h)⟩
    · exact ⟨n, hn, List.mem_append.2 (.inr h)⟩
section
variable {c : List F} {p : F → Bool} (hv : ∀ f ∈ c, vOk f) (ha : Asc c) (hp : ∀ f ∈ c, p f = true ↔ f ∉ voidL c)
include hv ha hp
end
end Go.Proofs.YtjjaabidbeoomaaGreatDoor
