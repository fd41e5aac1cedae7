/-
  Sets of times as tidy lists of spans.
-/
import GoSem.Core.World
set_option linter.unusedSectionVars false
set_option linter.unusedSimpArgs false
set_option linter.unusedVariables false
namespace Go.Proofs.Ytphbappgmoojeaa

abbrev Sp := Int × Int
def memS (t : Int) (l : List Sp) : Prop := ∃ s ∈ l, s.1 ≤ t ∧ t ≤ s.2
def TidyL : List Sp → Prop
  | [] => True
  | [s] => s.1 ≤ s.2
  | s :: u :: r => s.1 ≤ s.2 ∧ s.2 + 1 < u.1 ∧ TidyL (u :: r)
theorem TidyL.tail {s : Sp} {r : List Sp} (h : TidyL (s :: r)) : TidyL r := by
  cases r with
  | nil => trivial
  | cons u r => exact h.2.2
theorem TidyL.head {s : Sp} {r : List Sp} (h : TidyL (s :: r)) : s.1 ≤ s.2 := by
  cases r with
  | nil => exact h
  | cons u r => exact h.1
theorem TidyL.later : ∀ {r : List Sp} {s : Sp}, TidyL (s :: r) → ∀ u ∈ r, s.2 + 1 < u.1
  | [], _, _, _, hu => by simp at hu
  | v :: r, s, h, u, hu => by
    rw [List.mem_cons] at hu
    rcases hu with rfl | hu
    · exact h.2.1
    · have h1 := TidyL.later h.2.2 u hu
      have h2 := h.2.1
      have h3 := h.2.2.head
      omega
theorem TidyL.mk {s : Sp} {r : List Sp} (h0 : s.1 ≤ s.2) (h1 : TidyL r) (h2 : ∀ u ∈ r, s.2 + 1 < u.1) : TidyL (s :: r) := by
  cases r with
  | nil => exact h0
  | cons u r => exact ⟨h0, h2 u (by simp), h1⟩
theorem memS_nil (t : Int) : ¬ memS t [] := fun ⟨_, h, _⟩ => by simp at h
theorem memS_cons (t : Int) (s : Sp) (r : List Sp) : memS t (s :: r) ↔ (s.1 ≤ t ∧ t ≤ s.2) ∨ memS t r := by
  constructor
  · rintro ⟨u, hu, h⟩
    rw [List.mem_cons] at hu
    rcases hu with rfl | hu
    · exact .inl h
    · exact .inr ⟨u, hu, h⟩
  · rintro (h | ⟨u, hu, h⟩)
    · exact ⟨s, by simp, h⟩
    · exact ⟨u, by simp [hu], h⟩
theorem memS_append (t : Int) (a b : List Sp) : memS t (a ++ b) ↔ memS t a ∨ memS t b := by
  constructor
  · rintro ⟨u, hu, h⟩
    rw [List.mem_append] at hu
    rcases hu with hu | hu
    · exact .inl ⟨u, hu, h⟩
    · exact .inr ⟨u, hu, h⟩
  · rintro (⟨u, hu, h⟩ | ⟨u, hu, h⟩)
    · exact ⟨u, by simp [hu], h⟩
    · exact ⟨u, by simp [hu], h⟩
theorem TidyL.mem_later {s : Sp} {r : List Sp} (h : TidyL (s :: r)) {t : Int} (ht : memS t r) : s.2 + 1 < t := by
  obtain ⟨u, hu, h1, _⟩ := ht
  have := h.later u hu
  omega
/-- Two tidy lists with the same times are the same list. -/
theorem tidy_eq : ∀ {a b : List Sp}, TidyL a → TidyL b → (∀ t, memS t a ↔ memS t b) → a = b
  | [], [], _, _, _ => rfl
  | [], u :: b, _, hb, h => absurd ((h u.1).2 ⟨u, by simp, Int.le_refl _, hb.head⟩) (memS_nil _)
  | s :: a, [], ha, _, h => absurd ((h s.1).1 ⟨s, by simp, Int.le_refl _, ha.head⟩) (memS_nil _)
  | s :: a, u :: b, ha, hb, h => by
    have hs := ha.head
    have hu := hb.head
    have low : ∀ {x : Sp} {r : List Sp}, TidyL (x :: r) → ∀ t, memS t (x :: r) → x.1 ≤ t := fun hx t ht => by
      rw [memS_cons] at ht
      rcases ht with ht | ht
      · exact ht.1
      · have := hx.mem_later ht; have := hx.head; omega
    have e1 : s.1 = u.1 := by
      have h1 := low hb s.1 ((h s.1).1 ⟨s, by simp, Int.le_refl _, hs⟩)
      have h2 := low ha u.1 ((h u.1).2 ⟨u, by simp, Int.le_refl _, hu⟩)
      omega
    have top : ∀ {x y : Sp} {p q : List Sp}, TidyL (x :: p) → TidyL (y :: q) → x.1 = y.1 → (∀ t, memS t (y :: q) → memS t (x :: p)) → y.2 ≤ x.2 := fun {x y p q} hx hy e hm => by
      rcases Int.lt_or_le x.2 y.2 with hlt | hle
      · exfalso
        have hx0 := hx.head
        have := hm (x.2 + 1) ((memS_cons _ _ _).2 (.inl ⟨by omega, by omega⟩))
        rw [memS_cons] at this
        rcases this with h1 | h1
        · omega
        · have := hx.mem_later h1; omega
      · exact hle
    have e2 : s.2 = u.2 := by
      have h1 := top ha hb e1 fun t ht => (h t).2 ht
      have h2 := top hb ha e1.symm fun t ht => (h t).1 ht
      omega
    have e : s = u := Prod.ext e1 e2
    subst e
    have ht : a = b := tidy_eq ha.tail hb.tail fun t => by
      constructor
      · intro m
        have h1 := ha.mem_later m
        have := (h t).1 ((memS_cons _ _ _).2 (.inr m))
        rw [memS_cons] at this
        rcases this with h2 | h2
        · omega
        · exact h2
      · intro m
        have h1 := hb.mem_later m
        have := (h t).2 ((memS_cons _ _ _).2 (.inr m))
        rw [memS_cons] at this
        rcases this with h2 | h2
        · omega
        · exact h2
    rw [ht]

/-! ### the reference's insertion -/
def withS : List Sp → Sp → List Sp
  | [], s => [s]
  | x :: r, s => if x.2 + 1 < s.1 then x :: withS r s else if s.2 + 1 < x.1 then s :: x :: r else withS r (min s.1 x.1, max s.2 x.2)
theorem withS_low : ∀ {l : List Sp} {s : Sp} {b : Int}, (∀ u ∈ l, b < u.1) → b < s.1 → ∀ u ∈ withS l s, b < u.1
  | [], s, b, _, hs, u, hu => by simp [withS] at hu; subst hu; exact hs
  | x :: r, s, b, hl, hs, u, hu => by
    rw [withS] at hu
    have hx := hl x (by simp)
    split at hu
    · rw [List.mem_cons] at hu
      rcases hu with rfl | hu
      · exact hx
      · exact withS_low (fun v hv => hl v (by simp [hv])) hs u hu
    · split at hu
      · simp only [List.mem_cons] at hu
        rcases hu with rfl | rfl | hu
        · exact hs
        · exact hx
        · exact hl u (by simp [hu])
      · exact withS_low (fun v hv => hl v (by simp [hv])) (by simp only; omega) u hu
theorem withS_tidy : ∀ {l : List Sp} {s : Sp}, TidyL l → s.1 ≤ s.2 → TidyL (withS l s)
  | [], s, _, hs => hs
  | x :: r, s, hl, hs => by
    rw [withS]
    split
    · rename_i h1
      exact TidyL.mk hl.head (withS_tidy hl.tail hs) (withS_low (fun u hu => hl.later u hu) h1)
    · split
      · rename_i h2
        exact ⟨hs, h2, hl⟩
      · have := hl.head
        exact withS_tidy hl.tail (by simp only; omega)
theorem withS_mem : ∀ {l : List Sp} {s : Sp}, TidyL l → s.1 ≤ s.2 → ∀ t, memS t (withS l s) ↔ memS t l ∨ (s.1 ≤ t ∧ t ≤ s.2)
  | [], s, _, hs, t => by rw [withS, memS_cons]; exact or_comm
  | x :: r, s, hl, hs, t => by
    have hx := hl.head
    rw [withS]
    split
    · rw [memS_cons, withS_mem hl.tail hs t, memS_cons]
      exact or_assoc.symm
    · split
      · rw [memS_cons]
        exact or_comm
      · rw [withS_mem hl.tail (by simp only; omega) t, memS_cons]
        simp only
        constructor
        · rintro (h | h)
          · exact .inl (.inr h)
          · by_cases h1 : x.1 ≤ t ∧ t ≤ x.2
            · exact .inl (.inl h1)
            · exact .inr (by omega)
        · rintro ((h | h) | h)
          · exact .inr (by omega)
          · exact .inl h
          · exact .inr (by omega)
def tidyR (l : List Sp) : List Sp := l.foldl withS []
theorem foldl_with : ∀ {l o : List Sp}, TidyL o → (∀ s ∈ l, s.1 ≤ s.2) → TidyL (l.foldl withS o) ∧ ∀ t, memS t (l.foldl withS o) ↔ memS t o ∨ memS t l
  | [], o, ho, _ => ⟨ho, fun t => ⟨.inl, fun h => h.elim id fun h => absurd h (memS_nil _)⟩⟩
  | s :: l, o, ho, h => by
    have hs := h s (by simp)
    obtain ⟨h1, h2⟩ := foldl_with (l := l) (withS_tidy ho hs) fun u hu => h u (by simp [hu])
    refine ⟨h1, fun t => ?_⟩
    rw [List.foldl_cons, h2, withS_mem ho hs, memS_cons, or_assoc]
theorem tidyR_ok {l : List Sp} (h : ∀ s ∈ l, s.1 ≤ s.2) : TidyL (tidyR l) ∧ ∀ t, memS t (tidyR l) ↔ memS t l := by
  obtain ⟨h1, h2⟩ := foldl_with (o := []) trivial h
  exact ⟨h1, fun t => by rw [tidyR, h2]; exact ⟨fun h => h.elim (fun h => absurd h (memS_nil _)) id, .inr⟩⟩

/-! ### joining a sorted list -/
def joinC (c : Sp) : List Sp → List Sp
  | [] => [c]
  | x :: r => if c = x ∨ x.1 ≤ c.2 + 1 then joinC (c.1, max c.2 x.2) r else c :: joinC x r
def joinL : List Sp → List Sp
  | [] => []
  | x :: r => joinC x r
abbrev SortedS (l : List Sp) : Prop := l.Pairwise fun a b => a.1 ≤ b.1
theorem sorted_up {c : Sp} {x : Sp} {r : List Sp} {h : Int} (hs : SortedS (c :: x :: r)) : SortedS ((c.1, h) :: r) := by
  obtain ⟨h1, h2⟩ := List.pairwise_cons.1 hs
  have h2 := List.pairwise_cons.1 h2
  exact List.pairwise_cons.2 ⟨fun u hu => h1 u (by simp [hu]), h2.2⟩
theorem joinC_low : ∀ {r : List Sp} {c : Sp} {b : Int}, SortedS (c :: r) → b < c.1 → ∀ u ∈ joinC c r, b < u.1
  | [], c, b, _, hc, u, hu => by simp [joinC] at hu; subst hu; exact hc
  | x :: r, c, b, hs, hc, u, hu => by
    rw [joinC] at hu
    split at hu
    · exact joinC_low (c := (c.1, max c.2 x.2)) (sorted_up hs) hc u hu
    · have hs := List.pairwise_cons.1 hs
      rw [List.mem_cons] at hu
      rcases hu with rfl | hu
      · exact hc
      · have := hs.1 x (by simp)
        exact joinC_low hs.2 (by omega) u hu
theorem joinC_ok : ∀ {r : List Sp} {c : Sp}, SortedS (c :: r) → c.1 ≤ c.2 → (∀ s ∈ r, s.1 ≤ s.2) → TidyL (joinC c r) ∧ ∀ t, memS t (joinC c r) ↔ memS t (c :: r)
  | [], c, _, hc, _ => ⟨hc, fun _ => Iff.rfl⟩
  | x :: r, c, hs, hc, hr => by
    have hx := hr x (by simp)
    have hcx : c.1 ≤ x.1 := (List.pairwise_cons.1 hs).1 x (by simp)
    rw [joinC]
    split
    · rename_i h1
      obtain ⟨h2, h3⟩ := joinC_ok (c := (c.1, max c.2 x.2)) (sorted_up hs) (by simp only; omega) fun s h => hr s (by simp [h])
      refine ⟨h2, fun t => ?_⟩
      rw [h3, memS_cons, memS_cons, memS_cons]
      simp only
      have h4 : x.1 ≤ c.2 + 1 := by
        rcases h1 with rfl | h1
        · omega
        · exact h1
      constructor
      · rintro (h | h)
        · by_cases h5 : c.1 ≤ t ∧ t ≤ c.2
          · exact .inl h5
          · exact .inr (.inl (by omega))
        · exact .inr (.inr h)
      · rintro (h | h | h)
        · exact .inl (by omega)
        · exact .inl (by omega)
        · exact .inr h
    · rename_i h1
      have h1' : ¬ x.1 ≤ c.2 + 1 := fun h => h1 (.inr h)
      have hs2 := (List.pairwise_cons.1 hs).2
      obtain ⟨h2, h3⟩ := joinC_ok hs2 hx fun s h => hr s (by simp [h])
      refine ⟨TidyL.mk hc h2 (joinC_low hs2 (by omega)), fun t => ?_⟩
      rw [memS_cons, h3, memS_cons t c]
theorem joinL_ok {l : List Sp} (hs : SortedS l) (h : ∀ s ∈ l, s.1 ≤ s.2) : TidyL (joinL l) ∧ ∀ t, memS t (joinL l) ↔ memS t l := by
  cases l with
  | nil => exact ⟨trivial, fun _ => Iff.rfl⟩
  | cons x r => exact joinC_ok hs (h x (by simp)) fun s hs => h s (by simp [hs])
/-- The ends of what is joined are ends of what was there. -/
theorem joinC_ends : ∀ {r : List Sp} {c : Sp}, ∀ u ∈ joinC c r, (∃ s ∈ c :: r, s.1 = u.1) ∧ ∃ s ∈ c :: r, s.2 = u.2
  | [], c, u, hu => by simp [joinC] at hu; subst hu; exact ⟨⟨_, by simp, rfl⟩, ⟨_, by simp, rfl⟩⟩
  | x :: r, c, u, hu => by
    rw [joinC] at hu
    split at hu
    · obtain ⟨⟨s, hs, e1⟩, ⟨v, hv, e2⟩⟩ := joinC_ends u hu
      rw [List.mem_cons] at hs hv
      refine ⟨?_, ?_⟩
      · rcases hs with rfl | hs
        · exact ⟨c, by simp, e1⟩
        · exact ⟨s, by simp [hs], e1⟩
      · rcases hv with rfl | hv
        · rcases Int.le_total c.2 x.2 with hle | hle
          · exact ⟨x, by simp, by simp only at e2; omega⟩
          · exact ⟨c, by simp, by simp only at e2; omega⟩
        · exact ⟨v, by simp [hv], e2⟩
    · rw [List.mem_cons] at hu
      rcases hu with rfl | hu
      · exact ⟨⟨u, by simp, rfl⟩, ⟨u, by simp, rfl⟩⟩
      · obtain ⟨⟨s, hs, e1⟩, ⟨v, hv, e2⟩⟩ := joinC_ends u hu
        exact ⟨⟨s, List.mem_cons_of_mem _ hs, e1⟩, ⟨v, List.mem_cons_of_mem _ hv, e2⟩⟩
theorem joinL_ends {l : List Sp} : ∀ u ∈ joinL l, (∃ s ∈ l, s.1 = u.1) ∧ ∃ s ∈ l, s.2 = u.2 := by
  cases l with
  | nil => intro u hu; simp [joinL] at hu
  | cons x r => exact joinC_ends

/-! ### the meet -/
def cut (x y : Sp) : List Sp := if max x.1 y.1 ≤ min x.2 y.2 then [(max x.1 y.1, min x.2 y.2)] else []
def meetL : List Sp → List Sp → List Sp
  | x :: a, y :: b => cut x y ++ (if x.2 < y.2 then meetL a (y :: b) else meetL (x :: a) b)
  | _, _ => []
termination_by a b => a.length + b.length
theorem cut_mem (x y : Sp) (t : Int) : memS t (cut x y) ↔ (x.1 ≤ t ∧ t ≤ x.2) ∧ (y.1 ≤ t ∧ t ≤ y.2) := by
  unfold cut
  split
  · rw [memS_cons]
    simp only
    constructor
    · rintro (h | h)
      · omega
      · exact absurd h (memS_nil _)
    · intro h; exact .inl (by omega)
  · constructor
    · intro h; exact absurd h (memS_nil _)
    · intro h; omega
theorem meetL_ok : ∀ (n : Nat) (a b : List Sp), a.length + b.length ≤ n → TidyL a → TidyL b → TidyL (meetL a b) ∧ (∀ t, memS t (meetL a b) ↔ memS t a ∧ memS t b)
  | 0, a, b, hn, _, _ => by
    have ha : a = [] := List.eq_nil_of_length_eq_zero (by omega)
    subst ha
    rw [meetL]
    · exact ⟨trivial, fun t => ⟨fun h => absurd h (memS_nil _), fun h => absurd h.1 (memS_nil _)⟩⟩
    · intro _ _ _ _ h; cases h
  | n + 1, [], b, hn, _, _ => by
    rw [meetL]
    · exact ⟨trivial, fun t => ⟨fun h => absurd h (memS_nil _), fun h => absurd h.1 (memS_nil _)⟩⟩
    · intro _ _ _ _ h; cases h
  | n + 1, x :: a, [], hn, _, _ => by
    rw [meetL]
    · exact ⟨trivial, fun t => ⟨fun h => absurd h (memS_nil _), fun h => absurd h.2 (memS_nil _)⟩⟩
    · intro _ _ _ _ _ h; cases h
  | n + 1, x :: a, y :: b, hn, ha, hb => by
    simp only [List.length_cons] at hn
    have hx := ha.head
    have hy := hb.head
    rw [meetL]
    split
    · rename_i hlt
      obtain ⟨h1, h2⟩ := meetL_ok n a (y :: b) (by simp; omega) ha.tail hb
      constructor
      · have hlow : ∀ u ∈ meetL a (y :: b), x.2 + 1 < u.1 := fun u hu => by
          have hul : u.1 ≤ u.2 := by
            have : ∀ {l : List Sp}, TidyL l → ∀ u ∈ l, u.1 ≤ u.2 := fun {l} hl => by
              induction l with
              | nil => simp
              | cons z l ih => intro u hu; rw [List.mem_cons] at hu; rcases hu with rfl | hu; exact hl.head; exact ih hl.tail u hu
            exact this h1 u hu
          exact ha.mem_later ((h2 u.1).1 ⟨u, hu, Int.le_refl _, hul⟩).1
        unfold cut
        split
        · refine TidyL.mk (by assumption) h1 fun u hu => ?_
          have := hlow u hu
          simp only
          omega
        · exact h1
      · intro t
        rw [memS_append, cut_mem, h2, memS_cons, memS_cons]
        constructor
        · rintro (h | ⟨h3, h4⟩)
          · exact ⟨.inl h.1, .inl h.2⟩
          · exact ⟨.inr h3, h4⟩
        · rintro ⟨h3 | h3, h4⟩
          · rcases h4 with h4 | h4
            · exact .inl ⟨h3, h4⟩
            · have := hb.mem_later h4
              omega
          · exact .inr ⟨h3, h4⟩
    · rename_i hge
      obtain ⟨h1, h2⟩ := meetL_ok n (x :: a) b (by simp; omega) ha hb.tail
      constructor
      · have hlow : ∀ u ∈ meetL (x :: a) b, y.2 + 1 < u.1 := fun u hu => by
          have hul : u.1 ≤ u.2 := by
            have : ∀ {l : List Sp}, TidyL l → ∀ u ∈ l, u.1 ≤ u.2 := fun {l} hl => by
              induction l with
              | nil => simp
              | cons z l ih => intro u hu; rw [List.mem_cons] at hu; rcases hu with rfl | hu; exact hl.head; exact ih hl.tail u hu
            exact this h1 u hu
          exact hb.mem_later ((h2 u.1).1 ⟨u, hu, Int.le_refl _, hul⟩).2
        unfold cut
        split
        · refine TidyL.mk (by assumption) h1 fun u hu => ?_
          have := hlow u hu
          simp only
          omega
        · exact h1
      · intro t
        rw [memS_append, cut_mem, h2, memS_cons, memS_cons]
        constructor
        · rintro (h | ⟨h3, h4⟩)
          · exact ⟨.inl h.1, .inl h.2⟩
          · exact ⟨h3, .inr h4⟩
        · rintro ⟨h3, h4 | h4⟩
          · rcases h3 with h3 | h3
            · exact .inl ⟨h3, h4⟩
            · have := ha.mem_later h3
              omega
          · exact .inr ⟨h3, h4⟩
end Go.Proofs.Ytphbappgmoojeaa
