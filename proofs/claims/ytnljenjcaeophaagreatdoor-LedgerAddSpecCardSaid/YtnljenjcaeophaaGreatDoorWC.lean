/-
  Joined texts.
-/
import Derived.Test.YtnljenjcaeophaaGreatDoorWB
import Derived.Test.YtnljenjcaeophaaGreatDoorWW
set_option linter.unusedVariables false
set_option linter.unusedSimpArgs false
set_option linter.unusedSectionVars false
namespace Go.Proofs.YtnljenjcaeophaaGreatDoor
open Go.Xe Go.RowKit
def zy_ (s : Sg) : R2 := ca_ s.1
def insS (s : Sg) : List Sg → List Sg
 | [] => [s]
 | t :: l => if aE_ t.1 s.1 < 0 then t :: insS s l else if aE_ t.1 s.1 = 0 then t :: l else s :: t :: l
def m1_ (s : Sg) : Prop := fOk s.1 ∧ (numF s.1).2 = true
theorem lU_ {s t : Sg} (hs : m1_ s) (ht : m1_ t) : aE_ s.1 t.1 = 0 ↔ s.1 = t.1 := o1_ hs.1 ht.1 hs.2 ht.2
abbrev wE_ (l : List Sg) : Prop := l.Pairwise fun a b => aE_ a.1 b.1 < 0
theorem bL_ {a b c : F} (h : aE_ a b < 0) (k : aE_ b c < 0) : aE_ a c < 0 := by
 have h1 := cmp_fact.trans a b c (by omega) (by omega)
 have h2 : aE_ a c ≠ 0 := fun e => by
  have h3 := cmp_fact.same a c b e
  have h4 := cmp_fact.anti b c
  omega
 omega
theorem rw_ {s : Sg} (hs : m1_ s) : ∀ {l : List Sg}, (∀ t ∈ l, m1_ t) → wE_ l → wE_ (insS s l) ∧ (∀ t, t ∈ insS s l ↔ t ∈ l ∨ (t = s ∧ ∀ u ∈ l, u.1 ≠ s.1))
 | [], _, _ => ⟨by simp [insS], fun t => by simp [insS]⟩
 | a :: l, hv, ha => by
  obtain ⟨h1, h2⟩ := List.pairwise_cons.1 ha
  obtain ⟨i1, i2⟩ := rw_ hs (fun t ht => hv t (by simp [ht])) h2
  have hza := lU_ (hv a (by simp)) hs
  rw [insS]
  by_cases hlt : aE_ a.1 s.1 < 0
  ·rw [if_pos hlt]
   have hne : a.1 ≠ s.1 := fun e => by have := hza.2 e; omega
   refine ⟨List.pairwise_cons.2 ⟨fun x hx => ?_, i1⟩, fun t => ?_⟩
   ·rcases (i2 x).1 hx with hx | ⟨rfl, _⟩
    ·exact h1 x hx
    ·exact hlt
   ·rw [List.mem_cons, i2, List.mem_cons]
    constructor
    ·rintro (rfl | h | ⟨rfl, h⟩)
     ·exact .inl (.inl rfl)
     ·exact .inl (.inr h)
     ·exact .inr ⟨rfl, fun u hu => by
       rcases List.mem_cons.1 hu with rfl | hu
       ·exact hne
       ·exact h u hu⟩
    ·rintro ((rfl | h) | ⟨rfl, h⟩)
     ·exact .inl rfl
     ·exact .inr (.inl h)
     ·exact .inr (.inr ⟨rfl, fun u hu => h u (by simp [hu])⟩)
  ·rw [if_neg hlt]
   by_cases hz : aE_ a.1 s.1 = 0
   ·rw [if_pos hz]
    have e := hza.1 hz
    refine ⟨ha, fun t => ⟨.inl, ?_⟩⟩
    rintro (h | ⟨rfl, h⟩)
    ·exact h
    ·exact absurd e (h a (by simp))
   ·rw [if_neg hz]
    have hgt : aE_ s.1 a.1 < 0 := by have := cmp_fact.anti a.1 s.1; omega
    refine ⟨List.pairwise_cons.2 ⟨fun x hx => ?_, ha⟩, fun t => ?_⟩
    ·rcases List.mem_cons.1 hx with rfl | hx
     ·exact hgt
     ·exact bL_ hgt (h1 x hx)
    ·rw [List.mem_cons]
     constructor
     ·rintro (rfl | h)
      ·refine .inr ⟨rfl, fun u hu e => ?_⟩
       rcases List.mem_cons.1 hu with rfl | hu
       ·exact hz (hza.2 e)
       ·have h3 := h1 u hu
        rw [e] at h3
        omega
      ·exact .inl h
     ·rintro (h | ⟨rfl, _⟩)
      ·exact .inr h
      ·exact .inl rfl
section
variable {a b : List Sg} (ha : ∀ s ∈ a, fOk s.1) (hb : ∀ s ∈ b, fOk s.1)
include ha hb
end
def pickA : Option R2 → List Sg → List (Sg × Sg)
 | _, [] => []
 | _, [_] => []
 | p, a :: b :: l => (if zy_ a = zy_ b ∧ p ≠ some (zy_ a) then [(a, b)] else []) ++ pickA (some (zy_ a)) (b :: l)
end Go.Proofs.YtnljenjcaeophaaGreatDoor
