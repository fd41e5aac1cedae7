/-
  Joined texts.
-/
import Derived.Test.YtpamincphlfhlaaGreatDoorKW
import Derived.Test.YtpamincphlfhlaaGreatDoorKB
import Derived.Test.YtpamincphlfhlaaGreatDoorKUn
import Derived.Test.YtpamincphlfhlaaGreatDoorKZ
set_option linter.unusedVariables false
set_option linter.unusedSimpArgs false
set_option linter.unusedSectionVars false
/-
  Ledgers: what the valid facts of a ledger are.
-/
set_option linter.unusedSimpArgs false
set_option linter.unusedVariables false
namespace Go.Proofs.YtpamincphlfhlaaGreatDoor
open Go.Xe Go.RowKit

theorem vF_in {l : List Sg} {f : F} : f ∈ vF l ↔ (∃ p ∈ l, p.1 = f) ∧ (numF f).2 = true := by
  simp only [vF, List.mem_filter, List.mem_map]
theorem valL_facts {l : List Sg} (hv : ∀ p ∈ l, sgOk p) : (∀ f, f ∈ valL l ↔ f ∈ vF l) ∧ (valL l).Pairwise (fun a b => cmpF a b < 0) ∧ (valL l).length ≤ l.length ∧ ∀ f ∈ valL l, vOk f := by
  have hvo : ∀ f ∈ vF l, vOk f := fun f hf => by
    obtain ⟨⟨p, hp, rfl⟩, h⟩ := vF_in.1 hf
    exact ⟨(hv p hp).1, h⟩
  have hk := kOf_val fun f hf => (hvo f hf).1
  obtain ⟨hp, hs⟩ := insL_ok swo_cmp ((vF l).map kOf)
  have hL : ((sortK ((vF l).map kOf)).map (·.1)).Perm (vF l) := by
    have := hp.map (·.1)
    rw [hk] at this
    exact this
  have hs2 : ((sortK ((vF l).map kOf)).map (·.1)).Pairwise fun a b => cmpF a b ≤ 0 := by
    rw [List.pairwise_map]
    refine hs.imp fun {a b} h => ?_
    rw [ltK, decide_eq_false_iff_not] at h
    have := cmp_fact.anti a.1 b.1
    omega
  have hvL : ∀ f ∈ (sortK ((vF l).map kOf)).map (·.1), vOk f := fun f hf => hvo f (hL.mem_iff.1 hf)
  have hmem : ∀ f, f ∈ valL l ↔ f ∈ vF l := fun f => (cmpt_mem hvL hs2 f).trans hL.mem_iff
  refine ⟨hmem, cmpt_asc hvL hs2, ?_, fun f hf => hvo f ((hmem f).1 hf)⟩
  have h1 : (valL l).length ≤ ((sortK ((vF l).map kOf)).map (·.1)).length := cN_len _ _
  rw [hL.length_eq] at h1
  exact Nat.le_trans h1 (vF_len l)
end Go.Proofs.YtpamincphlfhlaaGreatDoor

/-
  Evidence: the plain law of Complete.
-/
set_option linter.unusedSimpArgs false
set_option linter.unusedVariables false
namespace Go.Proofs.YtpamincphlfhlaaGreatDoor
open Go.Xe Go.RowKit

theorem numF_head {f : F} (h : (numF f).2 = true) : headE.all (inE f (susp f)) = true := by
  unfold numF at h
  split at h
  · cases h
  · split at h
    · rename_i hc
      rw [Bool.and_eq_true, List.all_append, Bool.and_eq_true] at hc
      exact hc.2.1
    · cases h
theorem num_head {f : F} (h : (numF f).2 = true) : 0 ≤ f 0 ∧ f 0 ≤ 31 ∧ 1 ≤ f 1 := by
  have := numF_head h
  simp [headE, inE, valE] at this
  obtain ⟨_, ⟨h1, h2⟩, ⟨h3, _⟩, _⟩ := this
  exact ⟨of_decide_eq_true h1, of_decide_eq_true h2, of_decide_eq_true h3⟩
theorem vF_head {l : List Sg} {f : F} (h : f ∈ vF l) : 0 ≤ f 0 ∧ f 0 ≤ 31 ∧ 1 ≤ f 1 := by
  obtain ⟨s, _, rfl, hs⟩ := vF_iff.1 h
  exact num_head hs
theorem cpl_no {b : List Sg} (hb : ∀ p ∈ b, sgOk p) (c : Int) {r : R2} (h1 : 1 ≤ r.2) (hr : r ∉ (vF b).map refF) : ¬ (r.1 = c ∧ r.2 ≤ (cplV (valL b) c : Int)) := by
  rintro ⟨rfl, h2⟩
  obtain ⟨hs, _⟩ := cpl_spec (rfs (valL b) (valL b).length) r.1
  have h3 := hs (r.2 - 1).toNat (by
    have : (cplV (valL b) r.1 : Int) = (cplL (rfs (valL b) (valL b).length) r.1 : Int) := rfl
    omega)
  rw [show (((r.2 - 1).toNat : Nat) : Int) + 1 = r.2 by omega, rfs_all] at h3
  obtain ⟨g, hg, e⟩ := h3
  exact hr (List.mem_map.2 ⟨g, ((valL_facts hb).1 g).1 hg, e⟩)
theorem cmpl_alt {a b : List Sg} (ha : ∀ p ∈ a, sgOk p) (hb : ∀ p ∈ b, sgOk p) (c : Int) {r : R2} (h : r ∈ altL (vF a) (vF b)) (hn : fndO a b r = none) : ¬ (r.1 = c ∧ r.2 ≤ (cplV (valL b) c : Int)) := by
  have hfa : ∀ s ∈ a, fOk s.1 := fun s hs => (ha s hs).1
  have hfb : ∀ s ∈ b, fOk s.1 := fun s hs => (hb s hs).1
  refine cpl_no hb c ?_ (alt_nofork hfa hfb h hn)
  obtain ⟨f, hf, _, rfl⟩ := (altL_iff (vF_fOk hfa) (vF_fOk hfb) r).1 h
  exact (vF_head hf).2.2
theorem cmpl_gap {b : List Sg} (hb : ∀ p ∈ b, sgOk p) (c : Int) {cs : List Int} {r : R2} (h : r ∈ gapS (vF b) cs) : ¬ (r.1 = c ∧ r.2 ≤ (cplV (valL b) c : Int)) := by
  obtain ⟨_, h1, _, h2⟩ := (gapS_in _ _ _).1 h
  exact cpl_no hb c h1 h2
end Go.Proofs.YtpamincphlfhlaaGreatDoor
