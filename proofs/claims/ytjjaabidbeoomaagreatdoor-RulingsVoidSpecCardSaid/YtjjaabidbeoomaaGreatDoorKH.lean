/-
  Joined texts.
-/
import Derived.Test.YtjjaabidbeoomaaGreatDoorKFm
import Derived.Test.YtjjaabidbeoomaaGreatDoorKFn
set_option linter.unusedVariables false
set_option linter.unusedSimpArgs false
set_option linter.unusedSectionVars false
/-
  The plain law of facts, one: what is valid.
-/
set_option linter.unusedSimpArgs false
set_option linter.unusedVariables false
namespace Go.Proofs.YtjjaabidbeoomaaGreatDoor
open Go.Xe Go.RowKit

def hasE (A : List Ent) (i : Nat) : Bool := A.any fun e => decide (e.1 = some i)
theorem wrL_at (f : Nat → Int) : ∀ (A : List Ent) (g : Nat → Int) (i : Nat), wrL f g A i = if hasE A i = true then f i else g i
  | [], g, i => by simp [wrL, hasE]
  | (some o, lo, hi) :: A, g, i => by
    rw [wrL, wrL_at f A]
    have : hasE ((some o, lo, hi) :: A) i = (decide (o = i) || hasE A i) := by simp [hasE]
    rw [this]
    by_cases h1 : hasE A i = true
    · simp [h1]
    · simp only [h1, Bool.or_false, decide_eq_true_eq]
      simp only [wrE, fup]
      by_cases h2 : o = i
      · subst h2; simp
      · rw [if_neg h2, if_neg (by simp), if_neg (Ne.symm h2)]
  | (none, lo, hi) :: A, g, i => by
    rw [wrL, wrL_at f A]
    have : hasE ((none, lo, hi) :: A) i = hasE A i := by simp [hasE]
    rw [this]
    rfl
theorem flL_at (s : Int) : ∀ (A : List Ent) (x : Int), flL s x A = if (A.any fun e => e.1.isNone) = true then s else x
  | [], x => by simp [flL]
  | (some o, lo, hi) :: A, x => by
    have e : (List.any ((some o, lo, hi) :: A) fun e => e.1.isNone) = A.any fun e => e.1.isNone := rfl
    rw [flL, flL_at s A, e]
    rfl
  | (none, lo, hi) :: A, x => by rw [flL, flL_at s A]; simp [flE]
theorem hasE_lt : ∀ {A : List Ent} {i : Nat}, A.all entOk = true → hasE A i = true → i < 57
  | [], i, _, h => by simp [hasE] at h
  | (o, lo, hi) :: A, i, hA, h => by
    rw [List.all_cons, Bool.and_eq_true] at hA
    simp only [hasE, List.any_cons, Bool.or_eq_true, decide_eq_true_eq] at h
    rcases h with h | h
    · subst h
      have := hA.1
      simp only [entOk, Bool.and_eq_true, decide_eq_true_eq] at this
      exact this.1
    · exact hasE_lt hA.2 h
def inP (p : Nat × Nat) (i : Nat) : Bool := decide (p.1 ≤ i) && decide (i < p.1 + p.2)
def okPart (A : List Ent) (p : Nat × Nat) (k : Int) : Bool :=
  ((List.range 57).all fun i => decide (i = 54) || (hasE A i == (decide (i < 4) || inP p i))) && decide (p.1 + p.2 ≤ 57) && ((A.any fun e => e.1.isNone) == inP p 54) && (inP p 49 == decide (k = 10))
theorem rest_only {f : Nat → Int} (hf : fOk f) {A : List Ent} (hA : A.all entOk = true) (hp : okPart A (partF (f 3)) (f 3) = true) : rest1 f (wrL f (rest0 f) A) (flL (susp f) 0 A) = onlyF f := by
  unfold onlyF
  generalize partF (f 3) = p at *
  unfold okPart at hp
  simp only [Bool.and_eq_true, List.all_eq_true, decide_eq_true_eq, beq_iff_eq] at hp
  obtain ⟨⟨⟨h1, h2⟩, h3⟩, h4⟩ := hp
  funext i
  have hin : (p.1 ≤ i ∧ i < p.1 + p.2) ↔ inP p i = true := by simp [inP]
  by_cases e54 : i = 54
  · subst e54
    have hb : baseF f 54 = 0 := rfl
    simp only [rest1, fup, fcp, if_true, flL_at, h3, hin]
    cases inP p 54 with
    | false => simp [hb]
    | true =>
      simp only [if_true, susp]
      rcases hf.2.1 with h | h <;> rw [h] <;> rfl
  · have hG := wrL_at f A (rest0 f) i
    have hr : rest1 f (wrL f (rest0 f) A) (flL (susp f) 0 A) i = if f 3 = 10 then wrL f (rest0 f) A i else if i = 49 then 0 else wrL f (rest0 f) A i := by
      simp only [rest1]
      rw [fup, if_neg e54]
      split
      · rfl
      · rw [fup]
    rw [hr, hG]
    by_cases h57 : i < 57
    · have hi := h1 i (by simpa using h57)
      simp only [e54, decide_false, Bool.false_or, beq_iff_eq] at hi
      rw [hi]
      simp only [fcp, hin]
      by_cases e49 : i = 49
      · subst e49
        have hb : baseF f 49 = 0 := rfl
        rw [h4, hb]
        by_cases hk : f 3 = 10
        · simp [hk]
        · simp [hk]
      · have hr0 : rest0 f i = if i = 3 then f 3 else 0 := by simp only [rest0, fup, f0, e49, if_false]
        rw [hr0]
        simp only [e49, if_false]
        have hb : baseF f i = if i < 4 then f i else 0 := by
          simp only [baseF, fup, f0]
          by_cases h : i < 4
          · have : i = 0 ∨ i = 1 ∨ i = 2 ∨ i = 3 := by omega
            rcases this with rfl | rfl | rfl | rfl <;> simp
          · rw [if_neg h, if_neg (by omega), if_neg (by omega), if_neg (by omega), if_neg (by omega)]
        rw [hb]
        cases hq : inP p i with
        | true => simp
        | false =>
          by_cases h : i < 4
          · simp [h]
          · have : i ≠ 3 := by omega
            simp [h, this]
    · have h5 : hasE A i = false := by
        cases hh : hasE A i with
        | false => rfl
        | true => exact absurd (hasE_lt hA hh) h57
      rw [h5]
      have h6 : ¬ (p.1 ≤ i ∧ i < p.1 + p.2) := by omega
      have a0 : i ≠ 0 := by omega
      have a1 : i ≠ 1 := by omega
      have a2 : i ≠ 2 := by omega
      have a3 : i ≠ 3 := by omega
      have a49 : i ≠ 49 := by omega
      simp [fcp, h6, baseF, rest0, fup, f0, a0, a1, a2, a3, a49]
theorem eqF_comm (f g : Nat → Int) : eqF f g = eqF g f := by
  unfold eqF
  congr 1
  funext i
  rw [Bool.eq_iff_iff]
  simp only [decide_eq_true_eq]
  exact eq_comm
theorem num_of {f : Nat → Int} (hf : fOk f) {E : List Ent} (hE : ents (f 3) (f 49) = some E) (hp : okPart (headE ++ E) (partF (f 3)) (f 3) = true)
    (hc : (fine f && (headE ++ E).all (inE f (susp f))) = (inB (f 0) 0 31 && inB (f 1) 1 1048576 && inB (f 2) 0 1099511627776 && conF f)) (hl : (headE ++ E).map (valE f (susp f)) = refN f) :
    (numF f).2 = chkF f ∧ (chkF f = true → (numF f).1 = refN f) := by
  have hA : (headE ++ E).all entOk = true := by rw [List.all_append, head_entOk, ents_entOk hE]; rfl
  have hr := rest_only hf hA hp
  unfold numF
  rw [hE]
  simp only
  rw [hr, hl, hc]
  unfold chkF
  rw [eqF_comm f (onlyF f)]
  cases (inB (f 0) 0 31 && inB (f 1) 1 1048576 && inB (f 2) 0 1099511627776 && conF f) <;> simp
end Go.Proofs.YtjjaabidbeoomaaGreatDoor

/-
  The plain law of facts, two: valid in the code, valid in the reference.
-/
set_option linter.unusedSimpArgs false
set_option linter.unusedVariables false
namespace Go.Proofs.YtjjaabidbeoomaaGreatDoor
open Go.Xe Go.RowKit

theorem inE_iff (f : Nat → Int) (s : Int) (e : Ent) : inE f s e = true ↔ e.2.1 ≤ valE f s e ∧ valE f s e ≤ e.2.2 := by
  rw [inE, Bool.and_eq_true, decide_eq_true_eq, decide_eq_true_eq]

set_option maxRecDepth 10000 in
theorem num_1 {f : Nat → Int} (hf : fOk f) (hk : f 3 = 1) {E : List Ent} (hE : ents (f 3) (f 49) = some E) : (numF f).2 = chkF f ∧ (chkF f = true → (numF f).1 = refN f) := by
  have hE0 := hE
  rw [hk] at hE0
  simp [ents] at hE0
  subst hE0
  refine num_of hf hE (by rw [hk]; decide) ?_ (by simp [valE, headE, refN, hk])
  rw [Bool.eq_iff_iff]
  simp [fine, conF, inE_iff, valE, headE, hk]
  all_goals omega

set_option maxRecDepth 10000 in
theorem num_2 {f : Nat → Int} (hf : fOk f) (hk : f 3 = 2) {E : List Ent} (hE : ents (f 3) (f 49) = some E) : (numF f).2 = chkF f ∧ (chkF f = true → (numF f).1 = refN f) := by
  have hE0 := hE
  rw [hk] at hE0
  simp [ents] at hE0
  subst hE0
  refine num_of hf hE (by rw [hk]; decide) ?_ (by simp [valE, headE, refN, hk])
  rw [Bool.eq_iff_iff]
  simp [fine, conF, inE_iff, valE, headE, hk]
  all_goals omega

set_option maxRecDepth 10000 in
theorem num_3 {f : Nat → Int} (hf : fOk f) (hk : f 3 = 3) {E : List Ent} (hE : ents (f 3) (f 49) = some E) : (numF f).2 = chkF f ∧ (chkF f = true → (numF f).1 = refN f) := by
  have hE0 := hE
  rw [hk] at hE0
  simp [ents] at hE0
  subst hE0
  refine num_of hf hE (by rw [hk]; decide) ?_ (by simp [valE, headE, refN, hk])
  rw [Bool.eq_iff_iff]
  simp [fine, conF, inE_iff, valE, headE, hk]
  all_goals omega

set_option maxRecDepth 10000 in
theorem num_4 {f : Nat → Int} (hf : fOk f) (hk : f 3 = 4) {E : List Ent} (hE : ents (f 3) (f 49) = some E) : (numF f).2 = chkF f ∧ (chkF f = true → (numF f).1 = refN f) := by
  have hE0 := hE
  rw [hk] at hE0
  simp [ents] at hE0
  subst hE0
  refine num_of hf hE (by rw [hk]; decide) ?_ (by simp [valE, headE, refN, hk])
  rw [Bool.eq_iff_iff]
  simp [fine, conF, inE_iff, valE, headE, hk]
  all_goals omega

set_option maxRecDepth 10000 in
theorem num_5 {f : Nat → Int} (hf : fOk f) (hk : f 3 = 5) {E : List Ent} (hE : ents (f 3) (f 49) = some E) : (numF f).2 = chkF f ∧ (chkF f = true → (numF f).1 = refN f) := by
  have hE0 := hE
  rw [hk] at hE0
  simp [ents] at hE0
  subst hE0
  refine num_of hf hE (by rw [hk]; decide) ?_ (by simp [valE, headE, refN, hk])
  rw [Bool.eq_iff_iff]
  simp [fine, conF, inE_iff, valE, headE, hk]
  all_goals omega

set_option maxRecDepth 10000 in
theorem num_6 {f : Nat → Int} (hf : fOk f) (hk : f 3 = 6) {E : List Ent} (hE : ents (f 3) (f 49) = some E) : (numF f).2 = chkF f ∧ (chkF f = true → (numF f).1 = refN f) := by
  have hE0 := hE
  rw [hk] at hE0
  simp [ents] at hE0
  subst hE0
  refine num_of hf hE (by rw [hk]; decide) ?_ (by simp [valE, headE, refN, hk])
  rw [Bool.eq_iff_iff]
  simp [fine, conF, inE_iff, valE, headE, hk]
  all_goals omega

set_option maxRecDepth 10000 in
theorem num_7 {f : Nat → Int} (hf : fOk f) (hk : f 3 = 7) {E : List Ent} (hE : ents (f 3) (f 49) = some E) : (numF f).2 = chkF f ∧ (chkF f = true → (numF f).1 = refN f) := by
  have hE0 := hE
  rw [hk] at hE0
  simp [ents] at hE0
  subst hE0
  refine num_of hf hE (by rw [hk]; decide) ?_ (by simp [valE, headE, refN, hk])
  rw [Bool.eq_iff_iff]
  simp [fine, conF, inE_iff, valE, headE, hk]
  all_goals omega

set_option maxRecDepth 10000 in
theorem num_8 {f : Nat → Int} (hf : fOk f) (hk : f 3 = 8) {E : List Ent} (hE : ents (f 3) (f 49) = some E) : (numF f).2 = chkF f ∧ (chkF f = true → (numF f).1 = refN f) := by
  have hE0 := hE
  rw [hk] at hE0
  simp [ents] at hE0
  subst hE0
  refine num_of hf hE (by rw [hk]; decide) ?_ (by simp [valE, headE, refN, hk])
  rw [Bool.eq_iff_iff]
  simp [fine, conF, inE_iff, valE, headE, hk]
  all_goals omega

set_option maxRecDepth 10000 in
theorem num_9 {f : Nat → Int} (hf : fOk f) (hk : f 3 = 9) {E : List Ent} (hE : ents (f 3) (f 49) = some E) : (numF f).2 = chkF f ∧ (chkF f = true → (numF f).1 = refN f) := by
  have hE0 := hE
  rw [hk] at hE0
  simp [ents] at hE0
  subst hE0
  refine num_of hf hE (by rw [hk]; decide) ?_ (by simp [valE, headE, refN, hk])
  rw [Bool.eq_iff_iff]
  simp [fine, conF, inE_iff, valE, headE, hk]
  all_goals omega

set_option maxRecDepth 10000 in
theorem num_11 {f : Nat → Int} (hf : fOk f) (hk : f 3 = 11) {E : List Ent} (hE : ents (f 3) (f 49) = some E) : (numF f).2 = chkF f ∧ (chkF f = true → (numF f).1 = refN f) := by
  have hE0 := hE
  rw [hk] at hE0
  simp [ents] at hE0
  subst hE0
  refine num_of hf hE (by rw [hk]; decide) ?_ (by simp [valE, headE, refN, hk, susp])
  rw [Bool.eq_iff_iff]
  have hs : 0 ≤ susp f ∧ susp f ≤ 1 := by unfold susp; split <;> omega
  simp [fine, conF, inE_iff, valE, headE, hk, hs]
  all_goals omega

set_option maxRecDepth 10000 in
theorem num_12 {f : Nat → Int} (hf : fOk f) (hk : f 3 = 12) {E : List Ent} (hE : ents (f 3) (f 49) = some E) : (numF f).2 = chkF f ∧ (chkF f = true → (numF f).1 = refN f) := by
  have hE0 := hE
  rw [hk] at hE0
  simp [ents] at hE0
  subst hE0
  refine num_of hf hE (by rw [hk]; decide) ?_ (by simp [valE, headE, refN, hk])
  rw [Bool.eq_iff_iff]
  simp [fine, conF, inE_iff, valE, headE, hk]
  all_goals omega

set_option maxRecDepth 10000 in
theorem num_13 {f : Nat → Int} (hf : fOk f) (hk : f 3 = 13) {E : List Ent} (hE : ents (f 3) (f 49) = some E) : (numF f).2 = chkF f ∧ (chkF f = true → (numF f).1 = refN f) := by
  have hE0 := hE
  rw [hk] at hE0
  simp [ents] at hE0
  subst hE0
  refine num_of hf hE (by rw [hk]; decide) ?_ (by simp [valE, headE, refN, hk])
  rw [Bool.eq_iff_iff]
  simp [fine, conF, inE_iff, valE, headE, hk]
  all_goals omega

set_option maxRecDepth 10000 in
theorem num_10 {f : Nat → Int} (hf : fOk f) (hk : f 3 = 10) {E : List Ent} (hE : ents (f 3) (f 49) = some E) : (numF f).2 = chkF f ∧ (chkF f = true → (numF f).1 = refN f) := by
  have hE0 := hE
  rw [hk] at hE0
  simp [ents] at hE0
  have hr : f 49 = 1 ∨ f 49 = 2 ∨ f 49 = 3 ∨ f 49 = 4 ∨ f 49 = 5 ∨ (f 49 ≠ 1 ∧ f 49 ≠ 2 ∧ f 49 ≠ 3 ∧ f 49 ≠ 4 ∧ f 49 ≠ 5) := by omega
  rcases hr with hr | hr | hr | hr | hr | hr
  · have e : E = [(some 47, 1, 1048576), (some 48, 1, 2), (some 49, 1, 5), (some 50, 0, 0), (some 51, 0, 0), (some 52, 0, 0)] := by rw [← hE0]; simp [entsR, hr]
    subst e
    refine num_of hf hE (by rw [hk]; decide) ?_ (by simp [valE, headE, refN, hk])
    rw [Bool.eq_iff_iff]
    simp [fine, conF, rulF, rulB, inE_iff, valE, headE, hk, hr]
    all_goals omega
  · have e : E = [(some 47, 1, 1048576), (some 48, 1, 2), (some 49, 1, 5), (some 50, 0, 0), (some 51, 0, 0), (some 52, 0, 0)] := by rw [← hE0]; simp [entsR, hr]
    subst e
    refine num_of hf hE (by rw [hk]; decide) ?_ (by simp [valE, headE, refN, hk])
    rw [Bool.eq_iff_iff]
    simp [fine, conF, rulF, rulB, inE_iff, valE, headE, hk, hr]
    all_goals omega
  · have e : E = [(some 47, 1, 1048576), (some 48, 1, 2), (some 49, 1, 5), (some 50, 1, 9999), (some 51, 0, 255), (some 52, 1, 1099511627776)] := by rw [← hE0]; simp [entsR, hr]
    subst e
    refine num_of hf hE (by rw [hk]; decide) ?_ (by simp [valE, headE, refN, hk])
    rw [Bool.eq_iff_iff]
    simp [fine, conF, rulF, rulB, inE_iff, valE, headE, hk, hr]
    all_goals omega
  · have e : E = [(some 47, 1, 1048576), (some 48, 1, 2), (some 49, 1, 5), (some 50, 1, 9999), (some 51, 0, 255), (some 52, 1, 64)] := by rw [← hE0]; simp [entsR, hr]
    subst e
    refine num_of hf hE (by rw [hk]; decide) ?_ (by simp [valE, headE, refN, hk])
    rw [Bool.eq_iff_iff]
    simp [fine, conF, rulF, rulB, inE_iff, valE, headE, hk, hr]
    all_goals omega
  · have e : E = [(some 47, 1, 1048576), (some 48, 1, 2), (some 49, 1, 5), (some 50, 1, 9999), (some 51, 0, 255), (some 52, 0, 0)] := by rw [← hE0]; simp [entsR, hr]
    subst e
    refine num_of hf hE (by rw [hk]; decide) ?_ (by simp [valE, headE, refN, hk])
    rw [Bool.eq_iff_iff]
    simp [fine, conF, rulF, rulB, inE_iff, valE, headE, hk, hr]
    all_goals omega
  · have e : E = [(some 47, 1, 1048576), (some 48, 1, 2), (some 49, 1, 5), (some 50, 1, 9999), (some 51, 0, 255), (some 52, 0, 0)] := by rw [← hE0]; simp [entsR, hr.1, hr.2.1, hr.2.2.1, hr.2.2.2.1, hr.2.2.2.2]
    subst e
    refine num_of hf hE (by rw [hk]; decide) ?_ (by simp [valE, headE, refN, hk])
    rw [Bool.eq_iff_iff]
    simp [fine, conF, rulF, rulB, inE_iff, valE, headE, hk, hr.1, hr.2.1, hr.2.2.1, hr.2.2.2.1, hr.2.2.2.2]
    all_goals omega

/-- The code's numbers are there exactly where the reference's Check says so, and are the reference's. -/
theorem num_chk {f : Nat → Int} (hf : fOk f) : (numF f).2 = chkF f ∧ (chkF f = true → (numF f).1 = refN f) := by
  cases hE : ents (f 3) (f 49) with
  | none =>
    have hk : ¬ (f 3 = 1 ∨ f 3 = 2 ∨ f 3 = 3 ∨ f 3 = 4 ∨ f 3 = 5 ∨ f 3 = 6 ∨ f 3 = 7 ∨ f 3 = 8 ∨ f 3 = 9 ∨ f 3 = 10 ∨ f 3 = 11 ∨ f 3 = 12 ∨ f 3 = 13) := by
      rintro (h | h | h | h | h | h | h | h | h | h | h | h | h) <;> rw [h] at hE <;> simp [ents] at hE
    simp only [not_or] at hk
    have hc : conF f = false := by simp [conF, hk]
    have hq : chkF f = false := by simp [chkF, hc]
    rw [hq]
    refine ⟨?_, fun h => by cases h⟩
    unfold numF
    rw [hE]
  | some E =>
    rcases kind_of hE with h | h | h | h | h | h | h | h | h | h | h | h | h
    · exact num_1 hf h hE
    · exact num_2 hf h hE
    · exact num_3 hf h hE
    · exact num_4 hf h hE
    · exact num_5 hf h hE
    · exact num_6 hf h hE
    · exact num_7 hf h hE
    · exact num_8 hf h hE
    · exact num_9 hf h hE
    · exact num_10 hf h hE
    · exact num_11 hf h hE
    · exact num_12 hf h hE
    · exact num_13 hf h hE
/-- Both encode alike. -/
theorem enc_ref {f : Nat → Int} (hf : fOk f) : encR f = refR f := by
  obtain ⟨h1, h2⟩ := num_chk hf
  unfold encR refR encF
  rw [h1]
  split
  · rename_i h
    rw [h2 h]
  · rfl
end Go.Proofs.YtjjaabidbeoomaaGreatDoor

/-
  The reference's order of facts.
-/
set_option linter.unusedSimpArgs false
set_option linter.unusedVariables false
namespace Go.Proofs.YtjjaabidbeoomaaGreatDoor
open Go.Xe Go.RowKit

theorem cb_less : ∀ a b : List UInt8, Op.bytesLess a b = decide (Lib.compareBytes a b = -1)
  | [], [] => by simp [Op.bytesLess, Lib.compareBytes]
  | [], _ :: _ => by simp [Op.bytesLess, Lib.compareBytes]
  | _ :: _, [] => by simp [Op.bytesLess, Lib.compareBytes]
  | x :: a, y :: b => by
    rw [Op.bytesLess, Lib.compareBytes, cb_less a b]
    by_cases h1 : x < y
    · simp [h1]
    · by_cases h2 : y < x
      · have : x ≠ y := fun e => by subst e; exact h1 h2
        simp [h1, h2, this]
      · have : x = y := UInt8.le_antisymm (UInt8.not_lt.1 h2) (UInt8.not_lt.1 h1)
        simp [h1, h2, this]
theorem cb_eq : ∀ a b : List UInt8, Lib.compareBytes a b = 0 ↔ a = b
  | [], [] => by simp [Lib.compareBytes]
  | [], _ :: _ => by simp [Lib.compareBytes]
  | _ :: _, [] => by simp [Lib.compareBytes]
  | x :: a, y :: b => by
    rw [Lib.compareBytes]
    by_cases h1 : x < y
    · have : x ≠ y := fun e => by subst e; exact absurd h1 (UInt8.lt_irrefl _)
      simp [h1, this]
    · by_cases h2 : y < x
      · have : x ≠ y := fun e => by subst e; exact h1 h2
        simp [h1, h2, this]
      · have : x = y := UInt8.le_antisymm (UInt8.not_lt.1 h2) (UInt8.not_lt.1 h1)
        simp [h1, h2, this, cb_eq a b]
theorem cb_val : ∀ a b : List UInt8, Lib.compareBytes a b = -1 ∨ Lib.compareBytes a b = 0 ∨ Lib.compareBytes a b = 1
  | [], [] => by simp [Lib.compareBytes]
  | [], _ :: _ => by simp [Lib.compareBytes]
  | _ :: _, [] => by simp [Lib.compareBytes]
  | x :: a, y :: b => by
    rw [Lib.compareBytes]
    split
    · simp
    · split
      · simp
      · exact cb_val a b
/-- What the reference's Compare says: as the code's, with its own encodings. -/
def refCmp (f g : Nat → Int) : Int := if headC f g = 0 then Lib.compareBytes (refR f).1 (refR g).1 else headC f g
def sC (f g : Nat → Int) (i : Nat) : St := mkS 68 [(2, .ptr 2 0), (3, .ptr 3 0), (5, .row 18), (6, .row 25), (7, .d (.v (.int .i64 i)))]
  [(2, fB f), (3, fB g), (18, .row 3 1 3 [.d (.v (.int .i64 (f 2))), .d (.v (.int .i64 (f 0))), .d (.v (.int .i64 (f 1)))]), (25, .row 3 1 3 [.d (.v (.int .i64 (g 2))), .d (.v (.int .i64 (g 0))), .d (.v (.int .i64 (g 1)))])]
def preC (f g : Nat → Int) (i : Nat) : Prop := (1 ≤ i → f 2 = g 2) ∧ (2 ≤ i → f 0 = g 0) ∧ (3 ≤ i → f 1 = g 1)
set_option maxRecDepth 10000 in
set_option maxHeartbeats 4000000 in
theorem refCompare_ok (f g : Nat → Int) (hf : fOk f) (hg : fOk g) : Fn0 Tryz.prog 34 [fD f, fD g] (.v (.int .i64 (refCmp f g))) := by
  have ef := refEncode_ok f hf
  have eg := refEncode_ok g hg
  refine Fun.of_wp (pn := noPn) Tryz.tab Tryz.func34 rfl fun β0 => ?_
  simp only [Tryz.f34]
  simp only [fD]
  repeat (first | refine wS ?_ | refine wB ?_ | ((first | refine wR ?_ | refine wD ?_); simp -dsimp) | refine aI ?_)
  refine WP.loopWk (fun m S => ∃ i : Nat, i + m = 3 ∧ preC f g i ∧ S = sC f g i) 3 (S0 := sC f g 0) (Wk.lessE [] (by simp [sC]) (by simp [sC])) ⟨0, rfl, ⟨by omega, by omega, by omega⟩, rfl⟩ ?_
  rintro m _ ⟨i, hi, hp, rfl⟩
  have hi' : i = 0 ∨ i = 1 ∨ i = 2 ∨ i = 3 := by omega
  rcases hi' with rfl | rfl | rfl | rfl
  · simp -dsimp [sC]
    repeat (first | refine wS ?_ | refine wB ?_ | ((first | refine wR ?_ | refine wD ?_); simp -dsimp) | refine aI ?_)
    refine WP.cond (b := true) (by simp) (fun _ => ?_) (fun h => by cases h)
    refine WP.skip ?_
    simp -dsimp
    refine WP.seq (WP.block ?_)
    repeat (first | refine wS ?_ | refine wB ?_ | ((first | refine wR ?_ | refine wD ?_); simp -dsimp) | refine aI ?_)
    refine WP.cond (b := decide (f 2 < g 2)) (by simp) (fun hb => ?_) (fun hb => ?_)
    · have hb := of_decide_eq_true hb
      have e : headC f g = -1 := by simp [headC, orL, cmpI, hb]
      have e2 : refCmp f g = -1 := by rw [refCmp, e]; rfl
      repeat (first | refine wS ?_ | refine wB ?_ | ((first | refine wR ?_ | refine wD ?_); simp -dsimp) | refine aI ?_)
      refine WP.ret (finQ.retE ?_)
      simp -dsimp [e2]
    have h1 := of_decide_eq_false hb
    refine WP.skip ?_
    simp -dsimp
    repeat (first | refine wS ?_ | refine wB ?_ | ((first | refine wR ?_ | refine wD ?_); simp -dsimp) | refine aI ?_)
    refine WP.cond (b := decide (g 2 < f 2)) (by simp) (fun hb => ?_) (fun hb => ?_)
    · have hb := of_decide_eq_true hb
      have e : headC f g = 1 := by simp [headC, orL, cmpI, hb, h1]
      have e2 : refCmp f g = 1 := by rw [refCmp, e]; rfl
      repeat (first | refine wS ?_ | refine wB ?_ | ((first | refine wR ?_ | refine wD ?_); simp -dsimp) | refine aI ?_)
      refine WP.ret (finQ.retE ?_)
      simp -dsimp [e2]
    have h2 := of_decide_eq_false hb
    refine WP.skip ?_
    simp -dsimp
    repeat (first | refine wS ?_ | refine wB ?_ | ((first | refine wR ?_ | refine wD ?_); simp -dsimp) | refine aI ?_)
    refine loopW.next (sC f g 1) (Wk.lessE [] (by simp [sC, show IntKind.i64.wrap 1 = 1 from rfl]) (by simp [sC])) 2 (by omega) ⟨1, by omega, ⟨fun _ => by first | exact hp.1 (by omega) | omega, fun _ => by first | exact hp.2.1 (by omega) | omega, fun _ => by omega⟩, rfl⟩
  · simp -dsimp [sC]
    repeat (first | refine wS ?_ | refine wB ?_ | ((first | refine wR ?_ | refine wD ?_); simp -dsimp) | refine aI ?_)
    refine WP.cond (b := true) (by simp) (fun _ => ?_) (fun h => by cases h)
    refine WP.skip ?_
    simp -dsimp
    refine WP.seq (WP.block ?_)
    repeat (first | refine wS ?_ | refine wB ?_ | ((first | refine wR ?_ | refine wD ?_); simp -dsimp) | refine aI ?_)
    refine WP.cond (b := decide (f 0 < g 0)) (by simp) (fun hb => ?_) (fun hb => ?_)
    · have hb := of_decide_eq_true hb
      have e : headC f g = -1 := by simp [headC, orL, cmpI, hb, hp.1 (by omega)]
      have e2 : refCmp f g = -1 := by rw [refCmp, e]; rfl
      repeat (first | refine wS ?_ | refine wB ?_ | ((first | refine wR ?_ | refine wD ?_); simp -dsimp) | refine aI ?_)
      refine WP.ret (finQ.retE ?_)
      simp -dsimp [e2]
    have h1 := of_decide_eq_false hb
    refine WP.skip ?_
    simp -dsimp
    repeat (first | refine wS ?_ | refine wB ?_ | ((first | refine wR ?_ | refine wD ?_); simp -dsimp) | refine aI ?_)
    refine WP.cond (b := decide (g 0 < f 0)) (by simp) (fun hb => ?_) (fun hb => ?_)
    · have hb := of_decide_eq_true hb
      have e : headC f g = 1 := by simp [headC, orL, cmpI, hb, h1, hp.1 (by omega)]
      have e2 : refCmp f g = 1 := by rw [refCmp, e]; rfl
      repeat (first | refine wS ?_ | refine wB ?_ | ((first | refine wR ?_ | refine wD ?_); simp -dsimp) | refine aI ?_)
      refine WP.ret (finQ.retE ?_)
      simp -dsimp [e2]
    have h2 := of_decide_eq_false hb
    refine WP.skip ?_
    simp -dsimp
    repeat (first | refine wS ?_ | refine wB ?_ | ((first | refine wR ?_ | refine wD ?_); simp -dsimp) | refine aI ?_)
    refine loopW.next (sC f g 2) (Wk.lessE [] (by simp [sC, show IntKind.i64.wrap 2 = 2 from rfl]) (by simp [sC])) 1 (by omega) ⟨2, by omega, ⟨fun _ => by first | exact hp.1 (by omega) | omega, fun _ => by first | exact hp.2.1 (by omega) | omega, fun _ => by omega⟩, rfl⟩
  · simp -dsimp [sC]
    repeat (first | refine wS ?_ | refine wB ?_ | ((first | refine wR ?_ | refine wD ?_); simp -dsimp) | refine aI ?_)
    refine WP.cond (b := true) (by simp) (fun _ => ?_) (fun h => by cases h)
    refine WP.skip ?_
    simp -dsimp
    refine WP.seq (WP.block ?_)
    repeat (first | refine wS ?_ | refine wB ?_ | ((first | refine wR ?_ | refine wD ?_); simp -dsimp) | refine aI ?_)
    refine WP.cond (b := decide (f 1 < g 1)) (by simp) (fun hb => ?_) (fun hb => ?_)
    · have hb := of_decide_eq_true hb
      have e : headC f g = -1 := by simp [headC, orL, cmpI, hb, hp.1 (by omega), hp.2.1 (by omega)]
      have e2 : refCmp f g = -1 := by rw [refCmp, e]; rfl
      repeat (first | refine wS ?_ | refine wB ?_ | ((first | refine wR ?_ | refine wD ?_); simp -dsimp) | refine aI ?_)
      refine WP.ret (finQ.retE ?_)
      simp -dsimp [e2]
    have h1 := of_decide_eq_false hb
    refine WP.skip ?_
    simp -dsimp
    repeat (first | refine wS ?_ | refine wB ?_ | ((first | refine wR ?_ | refine wD ?_); simp -dsimp) | refine aI ?_)
    refine WP.cond (b := decide (g 1 < f 1)) (by simp) (fun hb => ?_) (fun hb => ?_)
    · have hb := of_decide_eq_true hb
      have e : headC f g = 1 := by simp [headC, orL, cmpI, hb, h1, hp.1 (by omega), hp.2.1 (by omega)]
      have e2 : refCmp f g = 1 := by rw [refCmp, e]; rfl
      repeat (first | refine wS ?_ | refine wB ?_ | ((first | refine wR ?_ | refine wD ?_); simp -dsimp) | refine aI ?_)
      refine WP.ret (finQ.retE ?_)
      simp -dsimp [e2]
    have h2 := of_decide_eq_false hb
    refine WP.skip ?_
    simp -dsimp
    repeat (first | refine wS ?_ | refine wB ?_ | ((first | refine wR ?_ | refine wD ?_); simp -dsimp) | refine aI ?_)
    refine loopW.next (sC f g 3) (Wk.lessE [] (by simp [sC, show IntKind.i64.wrap 3 = 3 from rfl]) (by simp [sC])) 0 (by omega) ⟨3, by omega, ⟨fun _ => by first | exact hp.1 (by omega) | omega, fun _ => by first | exact hp.2.1 (by omega) | omega, fun _ => by omega⟩, rfl⟩
  · have hz : headC f g = 0 := by simp [headC, orL, cmpI, hp.1 (by omega), hp.2.1 (by omega), hp.2.2 (by omega)]
    have er : refCmp f g = Lib.compareBytes (refR f).1 (refR g).1 := if_pos hz
    simp -dsimp [sC]
    repeat (first | refine wS ?_ | refine wB ?_ | ((first | refine wR ?_ | refine wD ?_); simp -dsimp) | refine aI ?_)
    refine WP.cond (b := false) (by simp) (fun h => by cases h) (fun _ => ?_)
    refine WP.exit ?_
    simp -dsimp
    repeat (first | refine wS ?_ | refine wB ?_ | ((first | refine wR ?_ | refine wD ?_); simp -dsimp) | refine aI ?_)
    refine vcStop.call0 Tryz.body52 ef rfl rfl (by simp [fD]) ?_
    simp -dsimp
    repeat (first | refine wS ?_ | refine wB ?_ | ((first | refine wR ?_ | refine wD ?_); simp -dsimp) | refine aI ?_)
    refine vcStop.call0 Tryz.body52 eg rfl rfl (by simp [fD]) ?_
    simp -dsimp
    rw [er]
    generalize (refR f).1 = a
    generalize (refR g).1 = b
    have v := cb_val a b
    have q := cb_eq a b
    have l := cb_less a b
    repeat (first | refine wS ?_ | refine wB ?_ | ((first | refine wR ?_ | refine wD ?_); simp -dsimp [l]) | refine aI ?_)
    refine WP.cond (b := decide (Lib.compareBytes a b = -1)) (by simp [l]) (fun hb => ?_) (fun hb => ?_)
    · have hb := of_decide_eq_true hb
      repeat (first | refine wS ?_ | refine wB ?_ | ((first | refine wR ?_ | refine wD ?_); simp -dsimp) | refine aI ?_)
      refine WP.ret (finQ.retE ?_)
      simp -dsimp [hb]
    have h1 := of_decide_eq_false hb
    refine WP.skip ?_
    simp -dsimp
    repeat (first | refine wS ?_ | refine wB ?_ | ((first | refine wR ?_ | refine wD ?_); simp -dsimp [l]) | refine aI ?_)
    refine WP.cond (b := decide (Lib.compareBytes a b = 1)) (by
      by_cases e : a = b
      · have := q.2 e
        subst e
        simp [l, this]
      · have h0 : Lib.compareBytes a b ≠ 0 := fun h => e (q.1 h)
        have : Lib.compareBytes a b = 1 := by omega
        simp [l, e, this]) (fun hb => ?_) (fun hb => ?_)
    · have hb := of_decide_eq_true hb
      repeat (first | refine wS ?_ | refine wB ?_ | ((first | refine wR ?_ | refine wD ?_); simp -dsimp) | refine aI ?_)
      refine WP.ret (finQ.retE ?_)
      simp -dsimp [hb]
    have h2 := of_decide_eq_false hb
    have h3 : Lib.compareBytes a b = 0 := by omega
    refine WP.skip ?_
    simp -dsimp
    repeat (first | refine wS ?_ | refine wB ?_ | ((first | refine wR ?_ | refine wD ?_); simp -dsimp) | refine aI ?_)
    refine WP.ret (finQ.retE ?_)
    simp -dsimp [h3]
end Go.Proofs.YtjjaabidbeoomaaGreatDoor
