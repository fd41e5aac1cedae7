/-
  What the code and the reference reckon with lists of spans: the same.
-/
import Derived.Test.YtphbappgmoojeaaKSa
set_option linter.unusedSectionVars false
set_option linter.unusedSimpArgs false
set_option linter.unusedVariables false
namespace Go.Proofs.Ytphbappgmoojeaa

theorem memS_perm {a b : List Sp} (h : a.Perm b) (t : Int) : memS t a ↔ memS t b := by
  constructor
  · rintro ⟨s, hs, h1⟩; exact ⟨s, h.mem_iff.1 hs, h1⟩
  · rintro ⟨s, hs, h1⟩; exact ⟨s, h.mem_iff.2 hs, h1⟩
theorem memS_same {a b : List Sp} (h : ∀ s, s ∈ a ↔ s ∈ b) (t : Int) : memS t a ↔ memS t b := by
  constructor
  · rintro ⟨s, hs, h1⟩; exact ⟨s, (h s).1 hs, h1⟩
  · rintro ⟨s, hs, h1⟩; exact ⟨s, (h s).2 hs, h1⟩
/-- A sorted list, joined: the tidy list. -/
theorem tidy_same {l l' : List Sp} (hs : SortedS l') (hp : l'.Perm l) (h : ∀ s ∈ l, s.1 ≤ s.2) : joinL l' = tidyR l := by
  have h' : ∀ s ∈ l', s.1 ≤ s.2 := fun s hs => h s (hp.mem_iff.1 hs)
  obtain ⟨a1, a2⟩ := joinL_ok hs h'
  obtain ⟨b1, b2⟩ := tidyR_ok h
  exact tidy_eq a1 b1 fun t => by rw [a2, b2, memS_perm hp]
theorem tidyR_ends {l l' : List Sp} (hs : SortedS l') (hp : l'.Perm l) (h : ∀ s ∈ l, s.1 ≤ s.2) : ∀ u ∈ tidyR l, (∃ s ∈ l, s.1 = u.1) ∧ ∃ s ∈ l, s.2 = u.2 := by
  rw [← tidy_same hs hp h]
  intro u hu
  obtain ⟨⟨s, hs1, e1⟩, ⟨v, hv, e2⟩⟩ := joinL_ends u hu
  exact ⟨⟨s, hp.mem_iff.1 hs1, e1⟩, ⟨v, hp.mem_iff.1 hv, e2⟩⟩
theorem tidyR_set {a b : List Sp} (ha : ∀ s ∈ a, s.1 ≤ s.2) (hb : ∀ s ∈ b, s.1 ≤ s.2) (h : ∀ t, memS t a ↔ memS t b) : tidyR a = tidyR b := by
  obtain ⟨a1, a2⟩ := tidyR_ok ha
  obtain ⟨b1, b2⟩ := tidyR_ok hb
  exact tidy_eq a1 b1 fun t => by rw [a2, b2, h]
theorem tidyR_id {a : List Sp} (h : TidyL a) (ha : ∀ s ∈ a, s.1 ≤ s.2) : tidyR a = a := by
  obtain ⟨a1, a2⟩ := tidyR_ok ha
  exact tidy_eq a1 h a2
theorem TidyL.all {l : List Sp} (h : TidyL l) : ∀ s ∈ l, s.1 ≤ s.2 := by
  induction l with
  | nil => simp
  | cons z l ih =>
    intro u hu
    rw [List.mem_cons] at hu
    rcases hu with rfl | hu
    · exact h.head
    · exact ih h.tail u hu
/-! ### the meet -/
def cuts (a b : List Sp) : List Sp := a.flatMap fun x => b.flatMap fun y => cut x y
theorem cut_ok (x y : Sp) : ∀ s ∈ cut x y, s.1 ≤ s.2 := by
  unfold cut
  split
  · intro s hs; simp at hs; subst hs; assumption
  · simp
theorem cuts_ok (a b : List Sp) : ∀ s ∈ cuts a b, s.1 ≤ s.2 := by
  intro s hs
  simp only [cuts, List.mem_flatMap] at hs
  obtain ⟨x, _, y, _, h⟩ := hs
  exact cut_ok x y s h
theorem memS_flatMap {α : Type} (t : Int) (l : List α) (f : α → List Sp) : memS t (l.flatMap f) ↔ ∃ x ∈ l, memS t (f x) := by
  constructor
  · rintro ⟨s, hs, h⟩
    rw [List.mem_flatMap] at hs
    obtain ⟨x, hx, h1⟩ := hs
    exact ⟨x, hx, s, h1, h⟩
  · rintro ⟨x, hx, s, h1, h⟩
    exact ⟨s, List.mem_flatMap.2 ⟨x, hx, h1⟩, h⟩
theorem cuts_mem (a b : List Sp) (t : Int) : memS t (cuts a b) ↔ memS t a ∧ memS t b := by
  rw [cuts, memS_flatMap]
  constructor
  · rintro ⟨x, hx, h⟩
    rw [memS_flatMap] at h
    obtain ⟨y, hy, h⟩ := h
    rw [cut_mem] at h
    exact ⟨⟨x, hx, h.1⟩, ⟨y, hy, h.2⟩⟩
  · rintro ⟨⟨x, hx, h1⟩, ⟨y, hy, h2⟩⟩
    exact ⟨x, hx, (memS_flatMap _ _ _).2 ⟨y, hy, (cut_mem _ _ _).2 ⟨h1, h2⟩⟩⟩
theorem meet_same {a b : List Sp} (ha : ∀ s ∈ a, s.1 ≤ s.2) (hb : ∀ s ∈ b, s.1 ≤ s.2) : meetL (tidyR a) (tidyR b) = tidyR (cuts a b) := by
  obtain ⟨a1, a2⟩ := tidyR_ok ha
  obtain ⟨b1, b2⟩ := tidyR_ok hb
  obtain ⟨m1, m2⟩ := meetL_ok _ (tidyR a) (tidyR b) (Nat.le_refl _) a1 b1
  obtain ⟨c1, c2⟩ := tidyR_ok (cuts_ok a b)
  exact tidy_eq m1 c1 fun t => by rw [m2, c2, a2, b2, cuts_mem]
theorem meetL_len : ∀ (n : Nat) (a b : List Sp), a.length + b.length ≤ n → (meetL a b).length ≤ a.length + b.length
  | 0, a, b, hn => by
    have ha : a = [] := List.eq_nil_of_length_eq_zero (by omega)
    subst ha
    rw [meetL]
    · simp
    · intro _ _ _ _ h; cases h
  | n + 1, [], b, hn => by
    rw [meetL]
    · simp
    · intro _ _ _ _ h; cases h
  | n + 1, x :: a, [], hn => by
    rw [meetL]
    · simp
    · intro _ _ _ _ _ h; cases h
  | n + 1, x :: a, y :: b, hn => by
    simp only [List.length_cons] at hn
    have hc : (cut x y).length ≤ 1 := by unfold cut; split <;> simp
    rw [meetL]
    split
    · have := meetL_len n a (y :: b) (by simp; omega)
      simp at this ⊢
      omega
    · have := meetL_len n (x :: a) b (by simp; omega)
      simp at this ⊢
      omega
/-! ### sums -/
def sumsL (a b : List Sp) : List Sp := a.flatMap fun x => b.map fun y => (x.1 + y.1, x.2 + y.2)
theorem sumsL_ok {a b : List Sp} (ha : ∀ s ∈ a, s.1 ≤ s.2) (hb : ∀ s ∈ b, s.1 ≤ s.2) : ∀ s ∈ sumsL a b, s.1 ≤ s.2 := by
  intro s hs
  simp only [sumsL, List.mem_flatMap, List.mem_map] at hs
  obtain ⟨x, hx, y, hy, rfl⟩ := hs
  have := ha x hx
  have := hb y hy
  simp only
  omega
theorem sumsL_mem {a b : List Sp} (ha : ∀ s ∈ a, s.1 ≤ s.2) (hb : ∀ s ∈ b, s.1 ≤ s.2) (t : Int) : memS t (sumsL a b) ↔ ∃ u v, memS u a ∧ memS v b ∧ t = u + v := by
  constructor
  · rintro ⟨s, hs, h1, h2⟩
    simp only [sumsL, List.mem_flatMap, List.mem_map] at hs
    obtain ⟨x, hx, y, hy, rfl⟩ := hs
    simp only at h1 h2
    have := ha x hx
    have := hb y hy
    by_cases h : t ≤ x.2 + y.1
    · exact ⟨t - y.1, y.1, ⟨x, hx, by omega, by omega⟩, ⟨y, hy, by omega, by omega⟩, by omega⟩
    · exact ⟨x.2, t - x.2, ⟨x, hx, by omega, by omega⟩, ⟨y, hy, by omega, by omega⟩, by omega⟩
  · rintro ⟨u, v, ⟨x, hx, h1⟩, ⟨y, hy, h2⟩, rfl⟩
    exact ⟨(x.1 + y.1, x.2 + y.2), by simp only [sumsL, List.mem_flatMap, List.mem_map]; exact ⟨x, hx, y, hy, rfl⟩, by simp only; omega, by simp only; omega⟩
def addL (a b : List Sp) : List Sp := tidyR (sumsL (tidyR a) (tidyR b))
theorem addL_ok {a b : List Sp} (ha : ∀ s ∈ a, s.1 ≤ s.2) (hb : ∀ s ∈ b, s.1 ≤ s.2) : TidyL (addL a b) ∧ ∀ t, memS t (addL a b) ↔ ∃ u v, memS u a ∧ memS v b ∧ t = u + v := by
  obtain ⟨a1, a2⟩ := tidyR_ok ha
  obtain ⟨b1, b2⟩ := tidyR_ok hb
  obtain ⟨c1, c2⟩ := tidyR_ok (sumsL_ok a1.all b1.all)
  refine ⟨c1, fun t => ?_⟩
  rw [addL, c2, sumsL_mem a1.all b1.all]
  simp only [a2, b2]
end Go.Proofs.Ytphbappgmoojeaa
