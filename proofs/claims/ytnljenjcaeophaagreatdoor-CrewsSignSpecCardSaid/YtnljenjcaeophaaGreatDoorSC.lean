/-
  Joined texts.
-/
import Derived.Test.YtnljenjcaeophaaGreatDoorSB
import Derived.Test.YtnljenjcaeophaaGreatDoorSW
set_option linter.unusedVariables false
set_option linter.unusedSimpArgs false
set_option linter.unusedSectionVars false
namespace Go.Proofs.YtnljenjcaeophaaGreatDoor
open Go.Xe Go.RowKit
def vS2 (s : Sg) : Bool := (numF s.1).2
def refS (s : Sg) : R2 := refF s.1
def insS (s : Sg) : List Sg → List Sg
 | [] => [s]
 | t :: l => if cmpF t.1 s.1 < 0 then t :: insS s l else if cmpF t.1 s.1 = 0 then t :: l else s :: t :: l
def putS (r : R2) (acc : List Sg) (s : Sg) : List Sg := if vS2 s = true ∧ refS s = r then insS s acc else acc
def shlf (r : R2) (l : List Sg) : List Sg := l.foldl (putS r) []
theorem shlf_snoc (r : R2) (l : List Sg) (s : Sg) : shlf r (l ++ [s]) = putS r (shlf r l) s := by rw [shlf, List.foldl_append]; rfl
def svOk (s : Sg) : Prop := fOk s.1 ∧ (numF s.1).2 = true
theorem cmp_zeroS {s t : Sg} (hs : svOk s) (ht : svOk t) : cmpF s.1 t.1 = 0 ↔ s.1 = t.1 := cmp_zero hs.1 ht.1 hs.2 ht.2
abbrev AscS (l : List Sg) : Prop := l.Pairwise fun a b => cmpF a.1 b.1 < 0
theorem cmp_lt_trans {a b c : F} (h : cmpF a b < 0) (k : cmpF b c < 0) : cmpF a c < 0 := by
 have h1 := cmp_fact.trans a b c (by omega) (by omega)
 have h2 : cmpF a c ≠ 0 := fun e => by
  have h3 := cmp_fact.same a c b e
  have h4 := cmp_fact.anti b c
  omega
 omega
theorem insS_ok {s : Sg} (hs : svOk s) : ∀ {l : List Sg}, (∀ t ∈ l, svOk t) → AscS l → AscS (insS s l) ∧ (∀ t, t ∈ insS s l ↔ t ∈ l ∨ (t = s ∧ ∀ u ∈ l, u.1 ≠ s.1))
 | [], _, _ => ⟨by simp [insS], fun t => by simp [insS]⟩
 | a :: l, hv, ha => by
  obtain ⟨h1, h2⟩ := List.pairwise_cons.1 ha
  obtain ⟨i1, i2⟩ := insS_ok hs (fun t ht => hv t (by simp [ht])) h2
  have hza := cmp_zeroS (hv a (by simp)) hs
  rw [insS]
  by_cases hlt : cmpF a.1 s.1 < 0
  ·rw [if_pos hlt]
   have hne : a.1 ≠ s.1 := fun e => by have := hza.2 e; omega
   refine ⟨List.pairwise_cons.2 ⟨fun x hx => ?_, i1⟩, fun t => ?_⟩
   ·rcases (i2 x).1 hx with hx | ⟨rfl, _⟩
    ·exact h1 x hx
    ·exact hlt
   ·rw [List.mem_cons, i2, List.mem_cons]
    constructor
    ·rintro (rfl | h | ⟨rfl, h⟩)
     ·exact .inl (.inl rfl)
     ·exact .inl (.inr h)
     ·exact .inr ⟨rfl, fun u hu => by
       rcases List.mem_cons.1 hu with rfl | hu
       ·exact hne
       ·exact h u hu⟩
    ·rintro ((rfl | h) | ⟨rfl, h⟩)
     ·exact .inl rfl
     ·exact .inr (.inl h)
     ·exact .inr (.inr ⟨rfl, fun u hu => h u (by simp [hu])⟩)
  ·rw [if_neg hlt]
   by_cases hz : cmpF a.1 s.1 = 0
   ·rw [if_pos hz]
    have e := hza.1 hz
    refine ⟨ha, fun t => ⟨.inl, ?_⟩⟩
    rintro (h | ⟨rfl, h⟩)
    ·exact h
    ·exact absurd e (h a (by simp))
   ·rw [if_neg hz]
    have hgt : cmpF s.1 a.1 < 0 := by have := cmp_fact.anti a.1 s.1; omega
    refine ⟨List.pairwise_cons.2 ⟨fun x hx => ?_, ha⟩, fun t => ?_⟩
    ·rcases List.mem_cons.1 hx with rfl | hx
     ·exact hgt
     ·exact cmp_lt_trans hgt (h1 x hx)
    ·rw [List.mem_cons]
     constructor
     ·rintro (rfl | h)
      ·refine .inr ⟨rfl, fun u hu e => ?_⟩
       rcases List.mem_cons.1 hu with rfl | hu
       ·exact hz (hza.2 e)
       ·have h3 := h1 u hu
        rw [e] at h3
        omega
      ·exact .inl h
     ·rintro (h | ⟨rfl, _⟩)
      ·exact .inr h
      ·exact .inl rfl
def fstO (l : List Sg) (s : Sg) : Prop := ∃ a b, l = a ++ s :: b ∧ vS2 s = true ∧ ∀ t ∈ a, t.1 ≠ s.1
theorem fstO_snoc {l : List Sg} {x s : Sg} : fstO (l ++ [x]) s ↔ fstO l s ∨ (s = x ∧ vS2 x = true ∧ ∀ t ∈ l, t.1 ≠ x.1) := by
 constructor
 ·rintro ⟨a, b, h1, h2, h3⟩
  rcases List.eq_nil_or_concat b with rfl | ⟨b, y, rfl⟩
  ·have h4 := List.append_inj' h1 rfl
   obtain ⟨rfl, h5⟩ := h4
   cases h5
   exact .inr ⟨rfl, h2, h3⟩
  ·refine .inl ⟨a, b, ?_, h2, h3⟩
   have h4 : l ++ [x] = (a ++ s :: b) ++ [y] := by rw [h1]; simp
   exact (List.append_inj' h4 rfl).1
 ·rintro (⟨a, b, rfl, h2, h3⟩ | ⟨rfl, h2, h3⟩)
  ·exact ⟨a, b ++ [x], by simp, h2, h3⟩
  ·exact ⟨l, [], rfl, h2, h3⟩
theorem fstO_in {l : List Sg} {s : Sg} (h : fstO l s) : s ∈ l := by
 obtain ⟨a, b, rfl, _⟩ := h; simp
theorem fstO_ex : ∀ {l : List Sg} {s : Sg}, s ∈ l → vS2 s = true → ∃ t, fstO l t ∧ t.1 = s.1
 | x :: l, s, h, hv => by
  by_cases e : x.1 = s.1
  ·exact ⟨x, ⟨[], l, rfl, by rw [vS2, e]; exact hv, by simp⟩, e⟩
  ·rcases List.mem_cons.1 h with rfl | h
   ·exact absurd rfl e
   ·obtain ⟨t, ⟨a, b, rfl, h2, h3⟩, h4⟩ := fstO_ex h hv
    exact ⟨t, ⟨x :: a, b, rfl, h2, fun u hu => by
     rcases List.mem_cons.1 hu with rfl | hu
     ·rw [h4]; exact e
     ·exact h3 u hu⟩, h4⟩
theorem shlf_ok (r : R2) : ∀ (l : List Sg), (∀ s ∈ l, fOk s.1) → AscS (shlf r l) ∧ ∀ s, s ∈ shlf r l ↔ fstO l s ∧ refS s = r := by
 intro l
 induction hn : l.length generalizing l with
 | zero =>
  have : l = [] := List.eq_nil_of_length_eq_zero hn
  subst this
  intro _
  refine ⟨List.Pairwise.nil, fun s => ?_⟩
  simp only [shlf, List.foldl_nil, List.not_mem_nil, false_iff]
  rintro ⟨h, _⟩
  have := fstO_in h
  cases this
 | succ n ih =>
  intro hv
  rcases List.eq_nil_or_concat l with rfl | ⟨l, x, rfl⟩
  ·cases hn
  ·simp only [List.concat_eq_append] at hn hv ⊢
   obtain ⟨i1, i2⟩ := ih l (by simpa using hn) fun s hs => hv s (by simp [hs])
   have hsv : ∀ t ∈ shlf r l, svOk t := fun t ht => by
    obtain ⟨h1, _⟩ := (i2 t).1 ht
    have h2 := fstO_in h1
    obtain ⟨_, _, _, h3, _⟩ := h1
    exact ⟨hv t (by simp [h2]), h3⟩
   rw [shlf_snoc, putS]
   by_cases hp : vS2 x = true ∧ refS x = r
   ·rw [if_pos hp]
    obtain ⟨k1, k2⟩ := insS_ok (s := x) ⟨hv x (by simp), hp.1⟩ hsv i1
    refine ⟨k1, fun s => ?_⟩
    rw [k2, i2, fstO_snoc]
    constructor
    ·rintro (⟨h1, h2⟩ | ⟨rfl, h1⟩)
     ·exact ⟨.inl h1, h2⟩
     ·refine ⟨.inr ⟨rfl, hp.1, fun t ht e => ?_⟩, hp.2⟩
      obtain ⟨u, hu, hu2⟩ := fstO_ex ht (show vS2 t = true by rw [vS2, e]; exact hp.1)
      exact h1 u ((i2 u).2 ⟨hu, by rw [refS, hu2, e]; exact hp.2⟩) (by rw [hu2, e])
    ·rintro ⟨h1 | ⟨rfl, h1, h3⟩, h2⟩
     ·exact .inl ⟨h1, h2⟩
     ·exact .inr ⟨rfl, fun u hu => h3 u (fstO_in ((i2 u).1 hu).1)⟩
   ·rw [if_neg hp]
    refine ⟨i1, fun s => ?_⟩
    rw [i2, fstO_snoc]
    constructor
    ·rintro ⟨h1, h2⟩; exact ⟨.inl h1, h2⟩
    ·rintro ⟨h1 | ⟨rfl, h1, _⟩, h2⟩
     ·exact ⟨h1, h2⟩
     ·exact absurd ⟨h1, h2⟩ hp
def plsL (l : List Sg) : List R2 := (l.filter vS2).map refS
def two (x : List Sg) : Option (Sg × Sg) := match x with
 | a :: b :: _ => some (a, b)
 | _ => none
def frkL (l : List Sg) : List (Sg × Sg) := (sortR (plsL l)).filterMap fun r => two (shlf r l)
theorem two_ok {r : R2} {l : List Sg} (hv : ∀ s ∈ l, fOk s.1) {a b : Sg} (h : two (shlf r l) = some (a, b)) : fstO l a ∧ fstO l b ∧ refS a = r ∧ refS b = r ∧ cmpF a.1 b.1 < 0 := by
 obtain ⟨h1, h2⟩ := shlf_ok r l hv
 cases hx : shlf r l with
 | nil => rw [hx] at h; cases h
 | cons x t =>
  cases t with
  | nil => rw [hx] at h; cases h
  | cons y t =>
   rw [hx] at h h1
   cases h
   have ha := (h2 a).1 (by rw [hx]; simp)
   have hb := (h2 b).1 (by rw [hx]; simp)
   exact ⟨ha.1, hb.1, ha.2, hb.2, (List.pairwise_cons.1 h1).1 b (by simp)⟩
section
variable {a b : List Sg} (ha : ∀ s ∈ a, fOk s.1) (hb : ∀ s ∈ b, fOk s.1)
include ha hb
end
def pickA : Option R2 → List Sg → List (Sg × Sg)
 | _, [] => []
 | _, [_] => []
 | p, a :: b :: l => (if refS a = refS b ∧ p ≠ some (refS a) then [(a, b)] else []) ++ pickA (some (refS a)) (b :: l)
end Go.Proofs.YtnljenjcaeophaaGreatDoor
