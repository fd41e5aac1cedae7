/-
  Rulings: without one case, in plain lists.
-/
import Derived.Test.YtjjaabidbeoomaaDoorKQu
set_option linter.unusedSectionVars false
set_option linter.unusedSimpArgs false
set_option linter.unusedVariables false
namespace Go.Proofs.YtjjaabidbeoomaaDoor
open Go.Xe Go.RowKit

/-- What speaks of case n. -/
def abt (n : Int) (f : F) : Bool := (decide (f 3 = 10) && decide (f 47 = n)) || (decide (f 3 = 11) && decide (f 53 = n)) || (decide (f 3 = 8) && decide (f 39 = n))
def notP (n : Int) (f : F) : Bool := !abt n f
theorem abt_case {n : Int} {f : F} (h : caseF f = some n) : abt n f = true := by
  unfold caseF at h
  split at h
  · rename_i h3; cases h; simp [abt, h3]
  · split at h
    · rename_i h3; cases h; simp [abt, h3]
    · split at h
      · rename_i h3; cases h; simp [abt, h3.1]
      · cases h
theorem abt_other {n m : Int} {f : F} (h : caseF f = some m) (hm : m ≠ n) : abt n f = false := by
  unfold caseF at h
  split at h
  · rename_i h3; cases h; simp [abt, h3, hm]
  · split at h
    · rename_i h3; cases h; simp [abt, h3, hm]
    · split at h
      · rename_i h3; cases h; simp [abt, h3.1, hm]
      · cases h
theorem ap_filter {c : List F} {n m : Int} {q : F → Bool} (hq : ∀ f, q f = true → caseF f = some m) (hm : m ≠ n) : (c.filter (notP n)).filter q = c.filter q := by
  rw [List.filter_filter]
  refine List.filter_congr fun f _ => ?_
  cases h : q f with
  | false => rfl
  | true => rw [notP, abt_other (hq f h) hm]; rfl
theorem ap_none {c : List F} {n : Int} {q : F → Bool} (hq : ∀ f, q f = true → caseF f = some n) : (c.filter (notP n)).filter q = [] := by
  rw [List.filter_filter]
  refine List.filter_eq_nil_iff.2 fun f _ h => ?_
  rw [Bool.and_eq_true] at h
  rw [notP, abt_case (hq f h.1)] at h
  cases h.2
theorem any_filter' {c : List F} {q : F → Bool} : c.any q = decide (0 < (c.filter q).length) := by
  induction c with
  | nil => rfl
  | cons f c ih => cases h : q f <;> simp [h, ih]
theorem ap_force {c : List F} {n m : Int} (hm : m ≠ n) : forceO (fileOf (c.filter (notP n)) m) = forceO (fileOf c m) := by
  rw [forceO_frc, forceO_frc, any_filter', any_filter', ap_filter (fun _ => app_case) hm, ap_filter (fun _ => rul_case) hm, ap_filter (fun _ => rul_case) hm]
theorem ap_force0 {c : List F} {n : Int} : forceO (fileOf (c.filter (notP n)) n) = none := by
  rw [forceO_frc, any_filter', ap_none (fun _ => app_case), ap_none (fun _ => rul_case), ap_none (fun _ => rul_case)]
  rfl
theorem ap_sus0 {c : List F} {n : Int} : susB (fileOf (c.filter (notP n)) n) = false := by
  simp only [susB, fileOf, any_filter', ap_none (c := c) (n := n) (fun _ => app_case)]
  rfl
theorem ap_cases {c : List F} {n : Int} : casesL (c.filter (notP n)) = (casesL c).filter fun m => !decide (m = n) := by
  refine (casesL_ok _).unique ⟨(casesL_ok c).asc.sublist List.filter_sublist, fun m => ?_⟩
  rw [List.mem_filter, (casesL_ok c).mem, Bool.not_eq_true', decide_eq_false_iff_not]
  constructor
  · rintro ⟨⟨f, hf, h⟩, hm⟩
    exact ⟨f, List.mem_filter.2 ⟨hf, by rw [notP, abt_other h hm]; rfl⟩, h⟩
  · rintro ⟨f, hf, h⟩
    obtain ⟨h1, h2⟩ := List.mem_filter.1 hf
    refine ⟨⟨f, h1, h⟩, fun e => ?_⟩
    subst e
    rw [notP, abt_case h] at h2
    cases h2
theorem fm_apart {g g' : Int → Option F} {n : Int} {k : F → Int} (h1 : ∀ m, m ≠ n → g' m = g m) (h2 : ∀ m f, g m = some f → k f = m) : ∀ l : List Int,
    (l.filter fun m => !decide (m = n)).filterMap g' = (l.filterMap g).filter fun f => !decide (k f = n)
  | [] => rfl
  | m :: l => by
    have ih := fm_apart h1 h2 l
    by_cases hm : m = n
    · subst hm
      rw [List.filter_cons, if_neg (by simp), List.filterMap_cons, ih]
      cases hg : g m with
      | none => rfl
      | some f => simp [h2 m f hg]
    · rw [List.filter_cons, if_pos (by simp [hm]), List.filterMap_cons, List.filterMap_cons, h1 m hm, ih]
      cases hg : g m with
      | none => rfl
      | some f => simp [h2 m f hg, hm]
theorem force_case {c : List F} {m : Int} {f : F} (h : forceO (fileOf c m) = some f) : f 47 = m := by
  unfold forceO at h
  split at h
  · cases h
  · split at h
    · rename_i g hg
      cases h
      exact (rul_eq (List.mem_filter.1 (List.mem_of_head? hg)).2).2.1
    · exact (rul_eq (List.mem_filter.1 (List.mem_of_head? h)).2).2.1
theorem ap_all {c : List F} {n : Int} : allO (c.filter (notP n)) = (allO c).filter fun f => !decide (f 47 = n) := by
  rw [allO, ap_cases]
  exact fm_apart (k := fun f => f 47) (fun m hm => ap_force hm) (fun m f h => force_case h) _
theorem ap_reps {c : List F} {n : Int} : repO (c.filter (notP n)) = (repO c).filter fun f => !decide (f 39 = n) := by
  rw [repO, ap_cases]
  refine fm_apart (k := fun f => f 39) (fun m hm => ?_) (fun m f h => ?_) _
  · simp only [fileOf, ap_filter (fun _ => rep_case) hm]
  · have := (List.mem_filter.1 (List.mem_of_head? h)).2
    simp only [isRep, Bool.and_eq_true, decide_eq_true_eq] at this
    exact this.2
end Go.Proofs.YtjjaabidbeoomaaDoor
