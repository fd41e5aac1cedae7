/-
  The fact that a list of numbers says.
-/
import Derived.Test.YtjjaabidbeoomaaGreatDoorKFq
import Derived.Test.YtjjaabidbeoomaaGreatDoorKH
set_option linter.unusedSectionVars false
set_option linter.unusedSimpArgs false
set_option linter.unusedVariables false
namespace Go.Proofs.YtjjaabidbeoomaaGreatDoor
open Go.Xe Go.RowKit

def nthI (l : List Int) (i : Nat) : Int := (l[i]?).getD 0
/-- Numbers are read into the entries' cells, from a place on. -/
def rdE (l : List Int) : List Ent → Nat → (Nat → Int) × Int → (Nat → Int) × Int
  | [], _, p => p
  | (some o, _, _) :: r, j, p => rdE l r (j + 1) (fup p.1 o (nthI l j), p.2)
  | (none, _, _) :: r, j, p => rdE l r (j + 1) (p.1, nthI l j)
def headG (l : List Int) : Nat → Int := (rdE l headE 0 (f0, 0)).1
def candE (l : List Int) : List Ent := (ents (headG l 3) 0).getD []
/-- The fact as Decode reads it. -/
def candG (l : List Int) : Nat → Int := fup (rdE l (candE l) 4 (headG l, 0)).1 54 (if (rdE l (candE l) 4 (headG l, 0)).2 = 1 then 1 else 0)

theorem rdE_fst (l : List Int) : ∀ (A B : List Ent), A.map (·.1) = B.map (·.1) → ∀ (j : Nat) (p : (Nat → Int) × Int), rdE l A j p = rdE l B j p
  | [], [], _, _, _ => rfl
  | [], _ :: _, h, _, _ => by simp at h
  | _ :: _, [], h, _, _ => by simp at h
  | (some o, a, b) :: A, (o', a', b') :: B, h, j, p => by
    simp only [List.map_cons, List.cons.injEq] at h
    obtain ⟨rfl, h⟩ := h
    rw [rdE, rdE, rdE_fst l A B h]
  | (none, a, b) :: A, (o', a', b') :: B, h, j, p => by
    simp only [List.map_cons, List.cons.injEq] at h
    obtain ⟨rfl, h⟩ := h
    rw [rdE, rdE, rdE_fst l A B h]
theorem entsR_fst (r : Int) : (entsR r).map (·.1) = [some 47, some 48, some 49, some 50, some 51, some 52] := by
  unfold entsR
  by_cases h1 : r = 1 ∨ r = 2 <;> by_cases h3 : r = 3 <;> by_cases h4 : r = 4 <;> simp [h1, h3, h4]
theorem ents_fst {k r : Int} {E : List Ent} (h : ents k r = some E) : ∃ E0, ents k 0 = some E0 ∧ E0.map (·.1) = E.map (·.1) := by
  by_cases hk : k = 10
  · subst hk
    simp [ents] at h
    subst h
    exact ⟨entsR 0, by simp [ents], by rw [entsR_fst, entsR_fst]⟩
  · refine ⟨E, ?_, rfl⟩
    unfold ents at h ⊢
    rw [if_neg hk] at h ⊢
    exact h
theorem nthI_at (P : List Int) (x : Int) (R : List Int) : nthI (P ++ x :: R) P.length = x := by
  rw [nthI, List.getElem?_append_right (Nat.le_refl _), Nat.sub_self]; rfl
theorem rdE_num (f : Nat → Int) (s : Int) (R : List Int) : ∀ (E : List Ent) (P : List Int) (p : (Nat → Int) × Int), rdE (P ++ E.map (valE f s) ++ R) E P.length p = (wrL f p.1 E, flL s p.2 E)
  | [], P, p => rfl
  | (some o, a, b) :: E, P, p => by
    have ih := rdE_num f s R E (P ++ [valE f s (some o, a, b)]) (fup p.1 o (f o), p.2)
    have hn : nthI (P ++ (valE f s (some o, a, b) :: E.map (valE f s)) ++ R) P.length = f o := by rw [List.append_assoc, List.cons_append, nthI_at]; rfl
    rw [List.map_cons, rdE, hn, wrL, flL]
    simp only [List.length_append, List.length_cons, List.length_nil, List.append_assoc, List.cons_append, List.nil_append] at ih ⊢
    exact ih
  | (none, a, b) :: E, P, p => by
    have ih := rdE_num f s R E (P ++ [valE f s (none, a, b)]) (p.1, s)
    have hn : nthI (P ++ (valE f s (none, a, b) :: E.map (valE f s)) ++ R) P.length = s := by rw [List.append_assoc, List.cons_append, nthI_at]; rfl
    rw [List.map_cons, rdE, hn, wrL, flL]
    simp only [List.length_append, List.length_cons, List.length_nil, List.append_assoc, List.cons_append, List.nil_append] at ih ⊢
    exact ih
theorem cand_num {f : Nat → Int} (h : (numF f).2 = true) (hf : fOk f) : candG (numF f).1 = f := by
  unfold numF at h ⊢
  cases hE : ents (f 3) (f 49) with
  | none => rw [hE] at h; simp at h
  | some E =>
    rw [hE] at h
    simp only at h ⊢
    split at h
    case isFalse => simp at h
    case isTrue hc =>
      rw [if_pos hc]
      simp only at h ⊢
      have hA : (headE ++ E).all entOk = true := by rw [List.all_append, head_entOk, ents_entOk hE]; rfl
      have hr := rest1_ok hf hA (flL (susp f) 0 (headE ++ E))
      have he := (eqF_iff hr hf).1 h
      have h1 := rdE_num f (susp f) (E.map (valE f (susp f))) headE [] (f0, 0)
      have h2 := rdE_num f (susp f) [] E (headE.map (valE f (susp f))) (wrL f f0 headE, 0)
      simp only [List.nil_append, List.length_nil, List.append_nil, ← List.map_append, List.length_map, show headE.length = 4 from rfl] at h1 h2
      have hg : headG ((headE ++ E).map (valE f (susp f))) = wrL f f0 headE := by rw [headG, h1]
      obtain ⟨E0, hE0, hfst⟩ := ents_fst hE
      have h3 : headG ((headE ++ E).map (valE f (susp f))) 3 = f 3 := by rw [hg]; simp [headE, wrL, wrE, fup]
      have hcE : candE ((headE ++ E).map (valE f (susp f))) = E0 := by rw [candE, h3, hE0]; rfl
      have h4 := rdE_fst ((headE ++ E).map (valE f (susp f))) E0 E hfst 4 (wrL f f0 headE, 0)
      rw [h2] at h4
      have hfl : flL (susp f) 0 E = flL (susp f) 0 (headE ++ E) := by rw [flL_append]; rfl
      have hcand : candG ((headE ++ E).map (valE f (susp f))) = fup (wrL f f0 (headE ++ E)) 54 (if flL (susp f) 0 (headE ++ E) = 1 then 1 else 0) := by
        rw [candG, hcE, hg, h4, wrL_append, hfl]
      rw [hcand]
      funext i
      have hi := congrFun he i
      by_cases h54 : i = 54
      · subst h54
        rw [← hi]
        simp [rest1, fup]
      · have e1 : fup (wrL f f0 (headE ++ E)) 54 (if flL (susp f) 0 (headE ++ E) = 1 then 1 else 0) i = wrL f f0 (headE ++ E) i := if_neg h54
        rw [e1, wrL_at]
        split
        · rfl
        · rename_i hno
          rw [← hi]
          rw [rest1, fup, if_neg h54]
          have h3' : i ≠ 3 := by rintro rfl; exact hno (by simp [hasE, headE])
          split
          · rename_i hk
            have h49 : i ≠ 49 := by
              rintro rfl
              apply hno
              rw [hk] at hE
              simp [ents] at hE
              subst hE
              simp [hasE, entsR]
            rw [wrL_at, if_neg hno]
            simp [rest0, fup, f0, h3', h49]
          · rw [fup]
            split
            · rfl
            · rename_i h49
              rw [wrL_at, if_neg hno]
              simp [rest0, fup, f0, h3', h49]
end Go.Proofs.YtjjaabidbeoomaaGreatDoor
