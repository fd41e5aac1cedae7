/-
  The plain law of facts, two: valid in the code, valid in the reference.
-/
import Derived.Test.YtjfkeicmdaanbaaDoorKPb
set_option linter.unusedSectionVars false
set_option linter.unusedSimpArgs false
set_option linter.unusedVariables false
namespace Go.Proofs.YtjfkeicmdaanbaaDoor
open Go.Xe Go.RowKit

theorem inE_iff (f : Nat → Int) (s : Int) (e : Ent) : inE f s e = true ↔ e.2.1 ≤ valE f s e ∧ valE f s e ≤ e.2.2 := by
  rw [inE, Bool.and_eq_true, decide_eq_true_eq, decide_eq_true_eq]

set_option maxRecDepth 10000 in
theorem num_1 {f : Nat → Int} (hf : fOk f) (hk : f 3 = 1) {E : List Ent} (hE : ents (f 3) (f 49) = some E) : (numF f).2 = chkF f ∧ (chkF f = true → (numF f).1 = refN f) := by
  have hE0 := hE
  rw [hk] at hE0
  simp [ents] at hE0
  subst hE0
  refine num_of hf hE (by rw [hk]; decide) ?_ (by simp [valE, headE, refN, hk])
  rw [Bool.eq_iff_iff]
  simp [fine, conF, inE_iff, valE, headE, hk]
  all_goals omega

set_option maxRecDepth 10000 in
theorem num_2 {f : Nat → Int} (hf : fOk f) (hk : f 3 = 2) {E : List Ent} (hE : ents (f 3) (f 49) = some E) : (numF f).2 = chkF f ∧ (chkF f = true → (numF f).1 = refN f) := by
  have hE0 := hE
  rw [hk] at hE0
  simp [ents] at hE0
  subst hE0
  refine num_of hf hE (by rw [hk]; decide) ?_ (by simp [valE, headE, refN, hk])
  rw [Bool.eq_iff_iff]
  simp [fine, conF, inE_iff, valE, headE, hk]
  all_goals omega

set_option maxRecDepth 10000 in
theorem num_3 {f : Nat → Int} (hf : fOk f) (hk : f 3 = 3) {E : List Ent} (hE : ents (f 3) (f 49) = some E) : (numF f).2 = chkF f ∧ (chkF f = true → (numF f).1 = refN f) := by
  have hE0 := hE
  rw [hk] at hE0
  simp [ents] at hE0
  subst hE0
  refine num_of hf hE (by rw [hk]; decide) ?_ (by simp [valE, headE, refN, hk])
  rw [Bool.eq_iff_iff]
  simp [fine, conF, inE_iff, valE, headE, hk]
  all_goals omega

set_option maxRecDepth 10000 in
theorem num_4 {f : Nat → Int} (hf : fOk f) (hk : f 3 = 4) {E : List Ent} (hE : ents (f 3) (f 49) = some E) : (numF f).2 = chkF f ∧ (chkF f = true → (numF f).1 = refN f) := by
  have hE0 := hE
  rw [hk] at hE0
  simp [ents] at hE0
  subst hE0
  refine num_of hf hE (by rw [hk]; decide) ?_ (by simp [valE, headE, refN, hk])
  rw [Bool.eq_iff_iff]
  simp [fine, conF, inE_iff, valE, headE, hk]
  all_goals omega

set_option maxRecDepth 10000 in
theorem num_5 {f : Nat → Int} (hf : fOk f) (hk : f 3 = 5) {E : List Ent} (hE : ents (f 3) (f 49) = some E) : (numF f).2 = chkF f ∧ (chkF f = true → (numF f).1 = refN f) := by
  have hE0 := hE
  rw [hk] at hE0
  simp [ents] at hE0
  subst hE0
  refine num_of hf hE (by rw [hk]; decide) ?_ (by simp [valE, headE, refN, hk])
  rw [Bool.eq_iff_iff]
  simp [fine, conF, inE_iff, valE, headE, hk]
  all_goals omega

set_option maxRecDepth 10000 in
theorem num_6 {f : Nat → Int} (hf : fOk f) (hk : f 3 = 6) {E : List Ent} (hE : ents (f 3) (f 49) = some E) : (numF f).2 = chkF f ∧ (chkF f = true → (numF f).1 = refN f) := by
  have hE0 := hE
  rw [hk] at hE0
  simp [ents] at hE0
  subst hE0
  refine num_of hf hE (by rw [hk]; decide) ?_ (by simp [valE, headE, refN, hk])
  rw [Bool.eq_iff_iff]
  simp [fine, conF, inE_iff, valE, headE, hk]
  all_goals omega

set_option maxRecDepth 10000 in
theorem num_7 {f : Nat → Int} (hf : fOk f) (hk : f 3 = 7) {E : List Ent} (hE : ents (f 3) (f 49) = some E) : (numF f).2 = chkF f ∧ (chkF f = true → (numF f).1 = refN f) := by
  have hE0 := hE
  rw [hk] at hE0
  simp [ents] at hE0
  subst hE0
  refine num_of hf hE (by rw [hk]; decide) ?_ (by simp [valE, headE, refN, hk])
  rw [Bool.eq_iff_iff]
  simp [fine, conF, inE_iff, valE, headE, hk]
  all_goals omega

set_option maxRecDepth 10000 in
theorem num_8 {f : Nat → Int} (hf : fOk f) (hk : f 3 = 8) {E : List Ent} (hE : ents (f 3) (f 49) = some E) : (numF f).2 = chkF f ∧ (chkF f = true → (numF f).1 = refN f) := by
  have hE0 := hE
  rw [hk] at hE0
  simp [ents] at hE0
  subst hE0
  refine num_of hf hE (by rw [hk]; decide) ?_ (by simp [valE, headE, refN, hk])
  rw [Bool.eq_iff_iff]
  simp [fine, conF, inE_iff, valE, headE, hk]
  all_goals omega

set_option maxRecDepth 10000 in
theorem num_9 {f : Nat → Int} (hf : fOk f) (hk : f 3 = 9) {E : List Ent} (hE : ents (f 3) (f 49) = some E) : (numF f).2 = chkF f ∧ (chkF f = true → (numF f).1 = refN f) := by
  have hE0 := hE
  rw [hk] at hE0
  simp [ents] at hE0
  subst hE0
  refine num_of hf hE (by rw [hk]; decide) ?_ (by simp [valE, headE, refN, hk])
  rw [Bool.eq_iff_iff]
  simp [fine, conF, inE_iff, valE, headE, hk]
  all_goals omega

set_option maxRecDepth 10000 in
theorem num_11 {f : Nat → Int} (hf : fOk f) (hk : f 3 = 11) {E : List Ent} (hE : ents (f 3) (f 49) = some E) : (numF f).2 = chkF f ∧ (chkF f = true → (numF f).1 = refN f) := by
  have hE0 := hE
  rw [hk] at hE0
  simp [ents] at hE0
  subst hE0
  refine num_of hf hE (by rw [hk]; decide) ?_ (by simp [valE, headE, refN, hk, susp])
  rw [Bool.eq_iff_iff]
  have hs : 0 ≤ susp f ∧ susp f ≤ 1 := by unfold susp; split <;> omega
  simp [fine, conF, inE_iff, valE, headE, hk, hs]
  all_goals omega

set_option maxRecDepth 10000 in
theorem num_12 {f : Nat → Int} (hf : fOk f) (hk : f 3 = 12) {E : List Ent} (hE : ents (f 3) (f 49) = some E) : (numF f).2 = chkF f ∧ (chkF f = true → (numF f).1 = refN f) := by
  have hE0 := hE
  rw [hk] at hE0
  simp [ents] at hE0
  subst hE0
  refine num_of hf hE (by rw [hk]; decide) ?_ (by simp [valE, headE, refN, hk])
  rw [Bool.eq_iff_iff]
  simp [fine, conF, inE_iff, valE, headE, hk]
  all_goals omega

set_option maxRecDepth 10000 in
theorem num_13 {f : Nat → Int} (hf : fOk f) (hk : f 3 = 13) {E : List Ent} (hE : ents (f 3) (f 49) = some E) : (numF f).2 = chkF f ∧ (chkF f = true → (numF f).1 = refN f) := by
  have hE0 := hE
  rw [hk] at hE0
  simp [ents] at hE0
  subst hE0
  refine num_of hf hE (by rw [hk]; decide) ?_ (by simp [valE, headE, refN, hk])
  rw [Bool.eq_iff_iff]
  simp [fine, conF, inE_iff, valE, headE, hk]
  all_goals omega

set_option maxRecDepth 10000 in
theorem num_10 {f : Nat → Int} (hf : fOk f) (hk : f 3 = 10) {E : List Ent} (hE : ents (f 3) (f 49) = some E) : (numF f).2 = chkF f ∧ (chkF f = true → (numF f).1 = refN f) := by
  have hE0 := hE
  rw [hk] at hE0
  simp [ents] at hE0
  have hr : f 49 = 1 ∨ f 49 = 2 ∨ f 49 = 3 ∨ f 49 = 4 ∨ f 49 = 5 ∨ (f 49 ≠ 1 ∧ f 49 ≠ 2 ∧ f 49 ≠ 3 ∧ f 49 ≠ 4 ∧ f 49 ≠ 5) := by omega
  rcases hr with hr | hr | hr | hr | hr | hr
  · have e : E = [(some 47, 1, 1048576), (some 48, 1, 2), (some 49, 1, 5), (some 50, 0, 0), (some 51, 0, 0), (some 52, 0, 0)] := by rw [← hE0]; simp [entsR, hr]
    subst e
    refine num_of hf hE (by rw [hk]; decide) ?_ (by simp [valE, headE, refN, hk])
    rw [Bool.eq_iff_iff]
    simp [fine, conF, rulF, rulB, inE_iff, valE, headE, hk, hr]
    all_goals omega
  · have e : E = [(some 47, 1, 1048576), (some 48, 1, 2), (some 49, 1, 5), (some 50, 0, 0), (some 51, 0, 0), (some 52, 0, 0)] := by rw [← hE0]; simp [entsR, hr]
    subst e
    refine num_of hf hE (by rw [hk]; decide) ?_ (by simp [valE, headE, refN, hk])
    rw [Bool.eq_iff_iff]
    simp [fine, conF, rulF, rulB, inE_iff, valE, headE, hk, hr]
    all_goals omega
  · have e : E = [(some 47, 1, 1048576), (some 48, 1, 2), (some 49, 1, 5), (some 50, 1, 9999), (some 51, 0, 255), (some 52, 1, 1099511627776)] := by rw [← hE0]; simp [entsR, hr]
    subst e
    refine num_of hf hE (by rw [hk]; decide) ?_ (by simp [valE, headE, refN, hk])
    rw [Bool.eq_iff_iff]
    simp [fine, conF, rulF, rulB, inE_iff, valE, headE, hk, hr]
    all_goals omega
  · have e : E = [(some 47, 1, 1048576), (some 48, 1, 2), (some 49, 1, 5), (some 50, 1, 9999), (some 51, 0, 255), (some 52, 1, 64)] := by rw [← hE0]; simp [entsR, hr]
    subst e
    refine num_of hf hE (by rw [hk]; decide) ?_ (by simp [valE, headE, refN, hk])
    rw [Bool.eq_iff_iff]
    simp [fine, conF, rulF, rulB, inE_iff, valE, headE, hk, hr]
    all_goals omega
  · have e : E = [(some 47, 1, 1048576), (some 48, 1, 2), (some 49, 1, 5), (some 50, 1, 9999), (some 51, 0, 255), (some 52, 0, 0)] := by rw [← hE0]; simp [entsR, hr]
    subst e
    refine num_of hf hE (by rw [hk]; decide) ?_ (by simp [valE, headE, refN, hk])
    rw [Bool.eq_iff_iff]
    simp [fine, conF, rulF, rulB, inE_iff, valE, headE, hk, hr]
    all_goals omega
  · have e : E = [(some 47, 1, 1048576), (some 48, 1, 2), (some 49, 1, 5), (some 50, 1, 9999), (some 51, 0, 255), (some 52, 0, 0)] := by rw [← hE0]; simp [entsR, hr.1, hr.2.1, hr.2.2.1, hr.2.2.2.1, hr.2.2.2.2]
    subst e
    refine num_of hf hE (by rw [hk]; decide) ?_ (by simp [valE, headE, refN, hk])
    rw [Bool.eq_iff_iff]
    simp [fine, conF, rulF, rulB, inE_iff, valE, headE, hk, hr.1, hr.2.1, hr.2.2.1, hr.2.2.2.1, hr.2.2.2.2]
    all_goals omega

/-- The code's numbers are there exactly where the reference's Check says so, and are the reference's. -/
theorem num_chk {f : Nat → Int} (hf : fOk f) : (numF f).2 = chkF f ∧ (chkF f = true → (numF f).1 = refN f) := by
  cases hE : ents (f 3) (f 49) with
  | none =>
    have hk : ¬ (f 3 = 1 ∨ f 3 = 2 ∨ f 3 = 3 ∨ f 3 = 4 ∨ f 3 = 5 ∨ f 3 = 6 ∨ f 3 = 7 ∨ f 3 = 8 ∨ f 3 = 9 ∨ f 3 = 10 ∨ f 3 = 11 ∨ f 3 = 12 ∨ f 3 = 13) := by
      rintro (h | h | h | h | h | h | h | h | h | h | h | h | h) <;> rw [h] at hE <;> simp [ents] at hE
    simp only [not_or] at hk
    have hc : conF f = false := by simp [conF, hk]
    have hq : chkF f = false := by simp [chkF, hc]
    rw [hq]
    refine ⟨?_, fun h => by cases h⟩
    unfold numF
    rw [hE]
  | some E =>
    rcases kind_of hE with h | h | h | h | h | h | h | h | h | h | h | h | h
    · exact num_1 hf h hE
    · exact num_2 hf h hE
    · exact num_3 hf h hE
    · exact num_4 hf h hE
    · exact num_5 hf h hE
    · exact num_6 hf h hE
    · exact num_7 hf h hE
    · exact num_8 hf h hE
    · exact num_9 hf h hE
    · exact num_10 hf h hE
    · exact num_11 hf h hE
    · exact num_12 hf h hE
    · exact num_13 hf h hE
/-- Both encode alike. -/
theorem enc_ref {f : Nat → Int} (hf : fOk f) : encR f = refR f := by
  obtain ⟨h1, h2⟩ := num_chk hf
  unfold encR refR encF
  rw [h1]
  split
  · rename_i h
    rw [h2 h]
  · rfl
end Go.Proofs.YtjfkeicmdaanbaaDoor
