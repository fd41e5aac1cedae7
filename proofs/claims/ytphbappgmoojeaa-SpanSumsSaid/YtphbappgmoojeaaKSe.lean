/-
  Add: the order of the lists, their repetition; where the ends of its spans come from.
-/
import Derived.Test.YtphbappgmoojeaaKSd
set_option linter.unusedSectionVars false
set_option linter.unusedSimpArgs false
set_option linter.unusedVariables false
namespace Go.Proofs.Ytphbappgmoojeaa
open Go.Xe Go.RowKit

theorem chk_swap {a b : List Sp} (h : chkLs [a, b] = 0) : chkLs [b, a] = 0 := by
  have h1 := chkL_zero.2 (chk2_zero h).1
  have h2 := chkL_zero.2 (chk2_zero h).2
  rw [chkLs, if_pos h2, chkLs, if_pos h1, chkLs]
theorem sums_swap {x y : List Sp} (s : Sp) : s ∈ sumsL x y ↔ s ∈ sumsL y x := by
  simp only [sumsL, List.mem_flatMap, List.mem_map]
  constructor
  · rintro ⟨p, hp, q, hq, rfl⟩; exact ⟨q, hq, p, hp, Prod.ext (Int.add_comm _ _) (Int.add_comm _ _)⟩
  · rintro ⟨p, hp, q, hq, rfl⟩; exact ⟨q, hq, p, hp, Prod.ext (Int.add_comm _ _) (Int.add_comm _ _)⟩
theorem all_same {l l' : List Sp} (h : ∀ s, s ∈ l ↔ s ∈ l') : l.all okS = l'.all okS := by
  rw [Bool.eq_iff_iff, List.all_eq_true, List.all_eq_true]
  exact ⟨fun k s hs => k s ((h s).2 hs), fun k s hs => k s ((h s).1 hs)⟩
theorem tidy_of_same {l l' : List Sp} (h : ∀ s, s ∈ l ↔ s ∈ l') (hl : ∀ s ∈ l, s.1 ≤ s.2) : tidyR l = tidyR l' := tidyR_set hl (fun s hs => hl s ((h s).2 hs)) fun t => memS_same h t
theorem addC_swap (x y : List Sp) : addC x y = addC y x := by
  have h : ∀ s, s ∈ sumsL x y ↔ s ∈ sumsL y x := fun s => sums_swap s
  rw [addC, addC, Nat.mul_comm y.length x.length, all_same h]
  split
  · rfl
  · split
    · rename_i h2
      rw [tidy_of_same h]
      rw [← all_same h] at h2
      exact fun s hs => (okS_isS (List.all_eq_true.1 h2 s hs)).2.2.1
    · rfl
theorem add_swap (a b : List Sp) : (addR a b).1 = (addR b a).1 ∧ ((addR a b).2 = 0 ↔ (addR b a).2 = 0) := by
  rw [addR, addR, bothR, bothR, addC_swap (tidyR b)]
  by_cases h : chkLs [a, b] = 0
  · rw [if_pos h, if_pos (chk_swap h)]
    exact ⟨rfl, Iff.rfl⟩
  · have h' : ¬ chkLs [b, a] = 0 := fun e => h (chk_swap e)
    rw [if_neg h, if_neg h']
    exact ⟨rfl, fun e => absurd e h, fun e => absurd e h'⟩
theorem add_same {a a' b : List Sp} (h : ∀ s, s ∈ a ↔ s ∈ a') (hl : a'.length ≤ 4096) (h0 : (addR a b).2 = 0) : addR a' b = addR a b := by
  have hc : chkLs [a, b] = 0 := by
    by_cases hc : chkLs [a, b] = 0
    · exact hc
    · rw [addR, bothR, if_neg hc] at h0; exact h0
  obtain ⟨⟨_, a2⟩, b1, b2⟩ := chk2_zero hc
  have ha' : chkL a' = 0 := chkL_zero.2 ⟨hl, fun s hs => a2 s ((h s).2 hs)⟩
  have hb' : chkL b = 0 := chkL_zero.2 ⟨b1, b2⟩
  have hc' : chkLs [a', b] = 0 := by rw [chkLs, if_pos ha', chkLs, if_pos hb', chkLs]
  rw [addR, addR, bothR, bothR, if_pos hc, if_pos hc', tidy_of_same h (ok_le a2)]
theorem tidyR_from {l : List Sp} (h : ∀ s ∈ l, okS s = true) : ∀ u ∈ tidyR l, (∃ s ∈ l, s.1 = u.1) ∧ ∃ s ∈ l, s.2 = u.2 := tidyR_ends (srtS_sorted l) (srtS_perm l) (ok_le h)
theorem add_ends {a b : List Sp} (h0 : (addR a b).2 = 0) : ∀ u ∈ (addR a b).1, (∃ s ∈ a, ∃ t ∈ b, s.1 + t.1 = u.1) ∧ ∃ s ∈ a, ∃ t ∈ b, s.2 + t.2 = u.2 := by
  intro u hu
  have hc : chkLs [a, b] = 0 := by
    by_cases hc : chkLs [a, b] = 0
    · exact hc
    · rw [addR, bothR, if_neg hc] at h0; exact h0
  obtain ⟨⟨_, a2⟩, b1, b2⟩ := chk2_zero hc
  rw [addR, bothR, if_pos hc, addC] at h0 hu
  split at hu
  · simp at hu
  · split at hu
    · rename_i hall
      have hu' : u ∈ tidyR (sumsL (tidyR a) (tidyR b)) := by
        rw [limL] at hu
        split at hu
        · simp at hu
        · exact hu
      obtain ⟨⟨s, hs, e1⟩, ⟨t, ht, e2⟩⟩ := tidyR_from (fun s hs => List.all_eq_true.1 hall s hs) u hu'
      simp only [sumsL, List.mem_flatMap, List.mem_map] at hs ht
      obtain ⟨p, hp, q, hq, rfl⟩ := hs
      obtain ⟨p', hp', q', hq', rfl⟩ := ht
      obtain ⟨⟨p1, hp1, f1⟩, _⟩ := tidyR_from a2 p hp
      obtain ⟨⟨q1, hq1, f2⟩, _⟩ := tidyR_from b2 q hq
      obtain ⟨_, ⟨p2, hp2, f3⟩⟩ := tidyR_from a2 p' hp'
      obtain ⟨_, ⟨q2, hq2, f4⟩⟩ := tidyR_from b2 q' hq'
      simp only at e1 e2
      exact ⟨⟨p1, hp1, q1, hq1, by omega⟩, ⟨p2, hp2, q2, hq2, by omega⟩⟩
    · simp at hu
theorem add_nil (b : List Sp) : (addR [] b).1 = [] := by
  rw [addR, bothR]
  split
  · rw [show tidyR [] = [] from rfl, addC, if_neg (by simp)]; rfl
  · rfl
theorem add_args {a b : List Sp} (h0 : (addR a b).2 = 0) : (∀ s ∈ a, okS s = true) ∧ ∀ s ∈ b, okS s = true := by
  have hc : chkLs [a, b] = 0 := by
    by_cases hc : chkLs [a, b] = 0
    · exact hc
    · rw [addR, bothR, if_neg hc] at h0; exact h0
  exact ⟨(chk2_zero hc).1.2, (chk2_zero hc).2.2⟩
theorem mem_rng {l : List Sp} (h : ∀ s ∈ l, okS s = true) {t : Int} (hm : memS t l) : -70368744177664 ≤ t ∧ t ≤ 70368744177664 := by
  obtain ⟨s, hs, h1, h2⟩ := hm
  have := okS_isS (h s hs)
  omega
/-- A list turned, one element once more. -/
theorem turned_mem (a : List Sp) {k : Nat} (hk : k < a.length) (s : Sp) : s ∈ a ↔ s ∈ a.drop k ++ a.take k ++ [a[k]] := by
  constructor
  · intro h
    have := List.take_append_drop k a
    rw [← this, List.mem_append] at h
    simp only [List.mem_append]
    rcases h with h | h
    · exact .inl (.inr h)
    · exact .inl (.inl h)
  · intro h
    simp only [List.mem_append, List.mem_singleton] at h
    rcases h with (h | h) | h
    · exact List.mem_of_mem_drop h
    · exact List.mem_of_mem_take h
    · rw [h]; exact List.getElem_mem hk
end Go.Proofs.Ytphbappgmoojeaa
