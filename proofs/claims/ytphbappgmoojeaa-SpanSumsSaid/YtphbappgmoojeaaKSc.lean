/-
  What Set, Union, Meet, Add, Shift answer, in plain words.
-/
import Derived.Test.YtphbappgmoojeaaKHq
set_option linter.unusedSectionVars false
set_option linter.unusedSimpArgs false
set_option linter.unusedVariables false
namespace Go.Proofs.Ytphbappgmoojeaa
open Go.Xe Go.RowKit

/-- An answer: a tidy list with such times; or nothing. -/
structure Ans (r : List Sp × Int) (M : Int → Prop) : Prop where
  ok : r.2 = 0 → TidyL r.1 ∧ r.1.length ≤ 4096 ∧ ∀ t, memS t r.1 ↔ M t
  no : r.2 ≠ 0 → r.1 = []
  all : ∀ s ∈ r.1, okS s = true
theorem ok_le {l : List Sp} (h : ∀ s ∈ l, okS s = true) : ∀ s ∈ l, s.1 ≤ s.2 := fun s hs => (okS_isS (h s hs)).2.2.1
theorem err_ans {e : Int} {M : Int → Prop} (h : e ≠ 0) : Ans ([], e) M := ⟨fun h' => absurd h' h, fun _ => rfl, by simp⟩
theorem limL_ans {l : List Sp} {M : Int → Prop} (ht : TidyL l) (hok : ∀ s ∈ l, okS s = true) (hm : ∀ t, memS t l ↔ M t) : Ans (limL l) M := by
  unfold limL
  split
  · exact err_ans (by decide)
  · exact ⟨fun _ => ⟨ht, by simp only; omega, hm⟩, fun h => absurd rfl h, hok⟩
theorem setR_ans (a : List Sp) : Ans (setR a) (fun t => memS t a) := by
  unfold setR
  split
  · rename_i h
    obtain ⟨h1, h2⟩ := chkL_zero.1 h
    obtain ⟨t1, t2⟩ := tidyR_ok (ok_le h2)
    have := tidyR_len a
    exact ⟨fun _ => ⟨t1, by simp only; omega, t2⟩, fun h => absurd rfl h, tidyR_okS h2⟩
  · rename_i h; exact err_ans h
theorem app_okS {a b : List Sp} (ha : ∀ s ∈ a, okS s = true) (hb : ∀ s ∈ b, okS s = true) : ∀ s ∈ a ++ b, okS s = true := fun s h => by
  rcases List.mem_append.1 h with h | h
  · exact ha s h
  · exact hb s h
theorem unionR_ans (a b : List Sp) : Ans (unionR a b) (fun t => memS t a ∨ memS t b) := by
  unfold unionR bothR
  split
  · rename_i h
    obtain ⟨⟨_, a2⟩, _, b2⟩ := chk2_zero h
    have h2 := app_okS a2 b2
    obtain ⟨t1, t2⟩ := tidyR_ok (ok_le h2)
    exact limL_ans t1 (tidyR_okS h2) fun t => by rw [t2, memS_append]
  · rename_i h; exact err_ans h
theorem meetR_ans (a b : List Sp) : Ans (meetR a b) (fun t => memS t a ∧ memS t b) := by
  unfold meetR bothR
  split
  · rename_i h
    obtain ⟨⟨_, a2⟩, _, b2⟩ := chk2_zero h
    have h2 := cuts_okS a2 b2
    obtain ⟨t1, t2⟩ := tidyR_ok (ok_le h2)
    exact limL_ans t1 (tidyR_okS h2) fun t => by rw [t2, cuts_mem]
  · rename_i h; exact err_ans h
def sumM (a b : List Sp) (t : Int) : Prop := ∃ u v, memS u a ∧ memS v b ∧ t = u + v
theorem addC_ans {x y : List Sp} (hx : ∀ s ∈ x, okS s = true) (hy : ∀ s ∈ y, okS s = true) : Ans (addC x y) (sumM x y) := by
  unfold addC
  split
  · exact err_ans (by decide)
  · split
    · rename_i h
      have h2 : ∀ s ∈ sumsL x y, okS s = true := fun s hs => List.all_eq_true.1 h s hs
      obtain ⟨t1, t2⟩ := tidyR_ok (ok_le h2)
      exact limL_ans t1 (tidyR_okS h2) fun t => by rw [t2, sumsL_mem (ok_le hx) (ok_le hy)]; rfl
    · exact err_ans (by decide)
theorem Ans.mono {r : List Sp × Int} {M M' : Int → Prop} (h : Ans r M) (hm : ∀ t, M t ↔ M' t) : Ans r M' := ⟨fun e => ⟨(h.ok e).1, (h.ok e).2.1, fun t => ((h.ok e).2.2 t).trans (hm t)⟩, h.no, h.all⟩
theorem addR_ans (a b : List Sp) : Ans (addR a b) (sumM a b) := by
  unfold addR bothR
  split
  · rename_i h
    obtain ⟨⟨_, a2⟩, _, b2⟩ := chk2_zero h
    refine (addC_ans (tidyR_okS a2) (tidyR_okS b2)).mono fun t => ?_
    have e1 := (tidyR_ok (ok_le a2)).2
    have e2 := (tidyR_ok (ok_le b2)).2
    simp only [sumM, e1, e2]
  · rename_i h; exact err_ans h
theorem shiftR_all (a : List Sp) (x : Int) : (∀ s ∈ (shiftR a x).1, okS s = true) ∧ ((shiftR a x).2 ≠ 0 → (shiftR a x).1 = []) := by
  unfold shiftR
  split
  · split
    · exact ⟨by simp, fun h => absurd rfl h⟩
    · split
      · split
        · rename_i h; exact ⟨fun s hs => List.all_eq_true.1 h s hs, fun h => absurd rfl h⟩
        · exact ⟨by simp, fun _ => rfl⟩
      · exact ⟨by simp, fun _ => rfl⟩
  · exact ⟨by simp, fun _ => rfl⟩
/-- Two answers with the same times. -/
theorem Ans.eq {r r' : List Sp × Int} {M M' : Int → Prop} (h : Ans r M) (h' : Ans r' M') (e : r.2 = 0) (e' : r'.2 = 0) (hm : ∀ t, M t ↔ M' t) : r.1 = r'.1 := by
  obtain ⟨t1, _, m1⟩ := h.ok e
  obtain ⟨t2, _, m2⟩ := h'.ok e'
  exact tidy_eq t1 t2 fun t => by rw [m1, m2, hm]

/-! ### shifts -/
theorem shift_tidy {x : Int} : ∀ {l : List Sp}, TidyL l → TidyL (l.map (shS x))
  | [], _ => trivial
  | [s], h => by
    have : s.1 ≤ s.2 := h
    show s.1 + x ≤ s.2 + x
    omega
  | s :: u :: r, h => by
    obtain ⟨h1, h2, h3⟩ := h
    refine ⟨?_, ?_, shift_tidy h3⟩
    · show s.1 + x ≤ s.2 + x; omega
    · show s.2 + x + 1 < u.1 + x; omega
theorem okS_pt {x : Int} (h1 : -70368744177664 ≤ x) (h2 : x ≤ 70368744177664) : okS (x, x) = true ∧ okBy x = true ∧ okBy (-x) = true := by
  simp only [okS, okBy, Bool.and_eq_true, decide_eq_true_eq]
  omega
theorem chk_pt {a : List Sp} {x : Int} (h : okS (x, x) = true) : chkLs [a, [(x, x)]] = chkL a := by
  have h1 : chkL [(x, x)] = 0 := by simp [chkL, h]
  rw [chkLs, chkLs, chkLs, if_pos h1]
  split <;> simp_all
theorem sums_pt (l : List Sp) (x : Int) : sumsL l [(x, x)] = l.map (shS x) := by
  induction l with
  | nil => rfl
  | cons s l ih => rw [List.map_cons, ← ih]; rfl
theorem shift_add {a : List Sp} {x : Int} (ha : a.length ≤ 24) (h1 : -70368744177664 ≤ x) (h2 : x ≤ 70368744177664) : addR a [(x, x)] = shiftR a x := by
  obtain ⟨o1, o2, _⟩ := okS_pt h1 h2
  rw [addR, bothR, chk_pt o1, shiftR]
  split
  · rename_i h
    obtain ⟨_, h3⟩ := chkL_zero.1 h
    have ht := tidyR_tidy h3
    have hl := tidyR_len a
    have hp : tidyR [(x, x)] = [(x, x)] := rfl
    rw [hp, addC, sums_pt, if_neg (by simp; omega)]
    have e : tidyR ((tidyR a).map (shS x)) = (tidyR a).map (shS x) := tidyR_id (shift_tidy ht) (shift_tidy ht).all
    split
    · rename_i hall
      split
      · rename_i hn; subst hn; rfl
      · rw [e, limL, if_neg (by simp; omega)]
    · rename_i hall
      split
      · rename_i hn; subst hn; exact absurd rfl hall
      · rfl
  · rfl
theorem shift_back {a : List Sp} {x : Int} (ha : a.length ≤ 24) (h1 : -70368744177664 ≤ x) (h2 : x ≤ 70368744177664) (he : (shiftR a x).2 = 0) : shiftR (shiftR a x).1 (-x) = setR a ∧ (setR a).2 = 0 := by
  obtain ⟨o1, o2, o3⟩ := okS_pt h1 h2
  have hc : chkL a = 0 := by
    by_cases hc : chkL a = 0
    · exact hc
    · rw [shiftR, if_neg hc] at he; exact he
  obtain ⟨_, h3⟩ := chkL_zero.1 hc
  have ht := tidyR_tidy h3
  have hl := tidyR_len a
  have hs : setR a = (tidyR a, 0) := by rw [setR, if_pos hc]
  rw [hs]
  refine ⟨?_, rfl⟩
  have hx : shiftR a x = if a = [] then ([], 0) else if (((tidyR a).map (shS x)).all okS) = true then ((tidyR a).map (shS x), 0) else ([], 10) := by rw [shiftR, if_pos hc, if_pos o2]
  rw [hx] at he ⊢
  by_cases hn : a = []
  · subst hn; rfl
  · rw [if_neg hn] at he ⊢
    split at he
    · rename_i hall
      rw [if_pos hall]
      have e : tidyR ((tidyR a).map (shS x)) = (tidyR a).map (shS x) := tidyR_id (shift_tidy ht) (shift_tidy ht).all
      have hck : chkL ((tidyR a).map (shS x)) = 0 := chkL_zero.2 ⟨by simp; omega, fun s hs => List.all_eq_true.1 hall s hs⟩
      have hb : ((tidyR a).map (shS x)).map (shS (-x)) = tidyR a := by
        rw [List.map_map]
        have : shS (-x) ∘ shS x = id := by funext s; exact Prod.ext (show s.1 + x + -x = s.1 by omega) (show s.2 + x + -x = s.2 by omega)
        rw [this, List.map_id]
      simp only
      rw [shiftR, if_pos hck, if_pos o3, e, hb, if_neg (by simpa using tidyR_ne hn), if_pos (List.all_eq_true.2 fun s hs => tidyR_okS h3 s hs)]
    · cases he
end Go.Proofs.Ytphbappgmoojeaa
