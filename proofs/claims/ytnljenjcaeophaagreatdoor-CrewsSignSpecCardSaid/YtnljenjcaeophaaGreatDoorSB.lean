/-
  Joined texts.
-/
import Derived.Test.YtnljenjcaeophaaGreatDoorSH
set_option linter.unusedVariables false
set_option linter.unusedSimpArgs false
set_option linter.unusedSectionVars false
namespace Go.Proofs.YtnljenjcaeophaaGreatDoor
open Go.Xe Go.RowKit
abbrev F := Nat → Int
def fsC (l : List F) : List D := l.flatMap fun f => fcs f 0 57
@[simp] theorem fsC_nil : fsC [] = [] := rfl
theorem fcs_len57 (f : F) : (fcs f 0 57).length = 57 := by simp [fcs]
theorem setL_eq : ∀ (xs cs : List AV) (off : Nat), off + xs.length ≤ cs.length → setL cs off xs = cs.take off ++ xs ++ cs.drop (off + xs.length)
 | [], cs, off, _ => by simp [setL]
 | x :: xs, cs, off, h => by
  simp only [List.length_cons] at h
  rw [setL, setL_eq xs (cs.set off x) (off + 1) (by simp; omega)]
  have ho : off < cs.length := by omega
  rw [List.set_eq_take_append_cons_drop, if_pos ho]
  have hl : (cs.take off).length = off := by simp; omega
  have e1 : (cs.take off ++ x :: cs.drop (off + 1)).take (off + 1) = cs.take off ++ [x] := by
   rw [List.take_append, hl, List.take_of_length_le (by omega), show off + 1 - off = 1 by omega]; rfl
  have e2 : (cs.take off ++ x :: cs.drop (off + 1)).drop (off + 1 + xs.length) = cs.drop (off + (xs.length + 1)) := by
   rw [List.drop_append, hl, List.drop_of_length_le (by omega), List.nil_append, show off + 1 + xs.length - off = xs.length + 1 by omega, List.drop_succ_cons, List.drop_drop]
   congr 1; omega
  rw [e1, e2]
  simp
/-! ### each once: what is not as the one ahead of it -/
def refF (f : F) : Int × Int := (f 0, f 1)
abbrev R2 := Int × Int
def ltR (a b : R2) : Prop := a.1 < b.1 ∨ (a.1 = b.1 ∧ a.2 < b.2)
instance (a b : R2) : Decidable (ltR a b) := inferInstanceAs (Decidable (_ ∨ _))
theorem ltR_asy {a b : R2} (h : ltR a b) : ¬ ltR b a := by unfold ltR at *; omega
theorem ltR_irr (a : R2) : ¬ ltR a a := by unfold ltR; omega
theorem ltR_tri (a b : R2) : ltR a b ∨ a = b ∨ ltR b a := by
 by_cases h1 : a.1 = b.1
 ·by_cases h2 : a.2 = b.2
  ·exact .inr (.inl (Prod.ext h1 h2))
  ·unfold ltR; omega
 ·unfold ltR; omega
theorem ltR_trans {a b c : R2} (h : ltR a b) (k : ltR b c) : ltR a c := by unfold ltR at *; omega
abbrev AscR2 (l : List R2) : Prop := l.Pairwise ltR
theorem pwR_eq : ∀ {A B : List R2}, AscR2 A → AscR2 B → (∀ x, x ∈ A ↔ x ∈ B) → A = B
 | [], [], _, _, _ => rfl
 | [], b :: B, _, _, h => absurd ((h b).2 (by simp)) (by simp)
 | a :: A, [], _, _, h => absurd ((h a).1 (by simp)) (by simp)
 | a :: A, b :: B, ha, hb, h => by
  obtain ⟨ha1, ha2⟩ := List.pairwise_cons.1 ha
  obtain ⟨hb1, hb2⟩ := List.pairwise_cons.1 hb
  have e : a = b := by
   rcases List.mem_cons.1 ((h a).1 (by simp)) with e | h1
   ·exact e
   ·rcases List.mem_cons.1 ((h b).2 (by simp)) with e | h2
    ·exact e.symm
    ·exact absurd (ha1 b h2) (ltR_asy (hb1 a h1))
  subst e
  rw [pwR_eq ha2 hb2 fun x => ?_]
  constructor
  ·intro hx
   rcases List.mem_cons.1 ((h x).1 (by simp [hx])) with e | h1
   ·subst e; exact absurd (ha1 x hx) (ltR_irr _)
   ·exact h1
  ·intro hx
   rcases List.mem_cons.1 ((h x).2 (by simp [hx])) with e | h1
   ·subst e; exact absurd (hb1 x hx) (ltR_irr _)
   ·exact h1
def insR (r : R2) : List R2 → List R2
 | [] => [r]
 | s :: l => if ltR s r then s :: insR r l else if s = r then s :: l else r :: s :: l
theorem insR_in (r : R2) : ∀ (l : List R2) (x : R2), x ∈ insR r l ↔ x = r ∨ x ∈ l
 | [], x => by simp [insR]
 | s :: l, x => by
  rw [insR]
  split
  ·simp only [List.mem_cons, insR_in r l x]
   constructor
   ·rintro (h | h | h)
    ·exact .inr (.inl h)
    ·exact .inl h
    ·exact .inr (.inr h)
   ·rintro (h | h | h)
    ·exact .inr (.inl h)
    ·exact .inl h
    ·exact .inr (.inr h)
  ·split
   ·rename_i h; subst h; simp
   ·simp
theorem insR_asc (r : R2) : ∀ {l : List R2}, AscR2 l → AscR2 (insR r l)
 | [], _ => by simp [insR]
 | s :: l, h => by
  obtain ⟨h1, h2⟩ := List.pairwise_cons.1 h
  rw [insR]
  split
  ·rename_i hs
   refine List.pairwise_cons.2 ⟨fun x hx => ?_, insR_asc r h2⟩
   rcases (insR_in r l x).1 hx with rfl | hx
   ·exact hs
   ·exact h1 x hx
  ·split
   ·exact h
   ·rename_i hs hne
    have hlt : ltR r s := by
     rcases ltR_tri s r with h | h | h
     ·exact absurd h hs
     ·exact absurd h hne
     ·exact h
    refine List.pairwise_cons.2 ⟨fun x hx => ?_, h⟩
    rcases List.mem_cons.1 hx with rfl | hx
    ·exact hlt
    ·exact ltR_trans hlt (h1 x hx)
theorem insR_len (r : R2) : ∀ l : List R2, (insR r l).length ≤ l.length + 1
 | [] => by simp [insR]
 | s :: l => by
  have := insR_len r l
  rw [insR]
  split
  ·simp; omega
  ·split <;> simp
def sortR (l : List R2) : List R2 := l.foldl (fun a r => insR r a) []
theorem sortR_ok : ∀ (l a : List R2), AscR2 a → AscR2 (l.foldl (fun a r => insR r a) a) ∧ ∀ x, x ∈ l.foldl (fun a r => insR r a) a ↔ x ∈ a ∨ x ∈ l
 | [], a, h => ⟨h, fun x => by simp⟩
 | r :: l, a, h => by
  obtain ⟨h1, h2⟩ := sortR_ok l (insR r a) (insR_asc r h)
  refine ⟨h1, fun x => ?_⟩
  rw [List.foldl_cons, h2, insR_in, List.mem_cons]
  constructor
  ·rintro ((h | h) | h)
   ·exact .inr (.inl h)
   ·exact .inl h
   ·exact .inr (.inr h)
  ·rintro (h | h | h)
   ·exact .inl (.inr h)
   ·exact .inl (.inl h)
   ·exact .inr h
theorem sortR_asc (l : List R2) : AscR2 (sortR l) := (sortR_ok l [] List.Pairwise.nil).1
theorem sortR_in (l : List R2) (x : R2) : x ∈ sortR l ↔ x ∈ l := by
 have := (sortR_ok l [] List.Pairwise.nil).2 x
 simpa [sortR] using this
theorem sortR_of {l s : List R2} (h : AscR2 s) (hm : ∀ x, x ∈ s ↔ x ∈ l) : s = sortR l := pwR_eq h (sortR_asc l) fun x => by rw [hm, sortR_in]
theorem sortR_len : ∀ (l a : List R2), (l.foldl (fun a r => insR r a) a).length ≤ a.length + l.length
 | [], a => by simp
 | r :: l, a => by
  have h1 := sortR_len l (insR r a)
  have h2 := insR_len r a
  rw [List.foldl_cons, List.length_cons]; omega
/-! ### what is altered -/
/-! ### what is missing -/
end Go.Proofs.YtnljenjcaeophaaGreatDoor
