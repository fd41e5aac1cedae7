/-
  Ledgers: what the valid facts of a ledger are.
-/
import Derived.Test.YtghfancmonhkcaaDoorKE
import Derived.Test.YtghfancmonhkcaaDoorKKq
set_option linter.unusedSectionVars false
set_option linter.unusedSimpArgs false
set_option linter.unusedVariables false
namespace Go.Proofs.YtghfancmonhkcaaDoor
open Go.Xe Go.RowKit

theorem vF_in {l : List Sg} {f : F} : f ∈ vF l ↔ (∃ p ∈ l, p.1 = f) ∧ (numF f).2 = true := by
  simp only [vF, List.mem_filter, List.mem_map]
theorem valL_facts {l : List Sg} (hv : ∀ p ∈ l, sgOk p) : (∀ f, f ∈ valL l ↔ f ∈ vF l) ∧ (valL l).Pairwise (fun a b => cmpF a b < 0) ∧ (valL l).length ≤ l.length ∧ ∀ f ∈ valL l, vOk f := by
  have hvo : ∀ f ∈ vF l, vOk f := fun f hf => by
    obtain ⟨⟨p, hp, rfl⟩, h⟩ := vF_in.1 hf
    exact ⟨(hv p hp).1, h⟩
  have hk := kOf_val fun f hf => (hvo f hf).1
  obtain ⟨hp, hs⟩ := insL_ok swo_cmp ((vF l).map kOf)
  have hL : ((sortK ((vF l).map kOf)).map (·.1)).Perm (vF l) := by
    have := hp.map (·.1)
    rw [hk] at this
    exact this
  have hs2 : ((sortK ((vF l).map kOf)).map (·.1)).Pairwise fun a b => cmpF a b ≤ 0 := by
    rw [List.pairwise_map]
    refine hs.imp fun {a b} h => ?_
    rw [ltK, decide_eq_false_iff_not] at h
    have := cmp_fact.anti a.1 b.1
    omega
  have hvL : ∀ f ∈ (sortK ((vF l).map kOf)).map (·.1), vOk f := fun f hf => hvo f (hL.mem_iff.1 hf)
  have hmem : ∀ f, f ∈ valL l ↔ f ∈ vF l := fun f => (cmpt_mem hvL hs2 f).trans hL.mem_iff
  refine ⟨hmem, cmpt_asc hvL hs2, ?_, fun f hf => hvo f ((hmem f).1 hf)⟩
  have h1 : (valL l).length ≤ ((sortK ((vF l).map kOf)).map (·.1)).length := cN_len _ _
  rw [hL.length_eq] at h1
  exact Nat.le_trans h1 (vF_len l)
/-- The facts in force: those of the ledger that are valid, filed by then, no VoidF, the first with their reference, not voided. -/
def firstB (l : List Sg) (t : Int) (f : F) : Prop := f 2 ≤ t ∧ (numF f).2 = true ∧ ∀ p ∈ l, refF p.1 = refF f → (numF p.1).2 = true → ¬ cmpF p.1 f < 0
theorem force_iff {l : List Sg} (hv : ∀ p ∈ l, sgOk p) (t : Int) (f : F) : f ∈ viewL t (valL l) ↔
    (∃ p ∈ l, p.1 = f) ∧ firstB l t f ∧ f 3 ≠ 13 ∧ ∀ p ∈ l, ¬ (p.1 3 = 13 ∧ firstB l t p.1 ∧ p.1 0 ≤ f 0 ∧ (p.1 55, p.1 56) = refF f) := by
  obtain ⟨h1, h2, _, _⟩ := valL_facts hv
  rw [view_iff h2]
  constructor
  · rintro ⟨⟨ha, hb, hc⟩, hd, he⟩
    obtain ⟨hx, hn⟩ := vF_in.1 ((h1 f).1 ha)
    refine ⟨hx, ⟨hb, hn, fun p hp hr hq => hc p.1 ((h1 _).2 (vF_in.2 ⟨⟨p, hp, rfl⟩, hq⟩)) hr⟩, hd, fun p hp => ?_⟩
    rintro ⟨g1, ⟨g2, g3, g4⟩, g5, g6⟩
    refine he p.1 ((h1 _).2 (vF_in.2 ⟨⟨p, hp, rfl⟩, g3⟩)) g2 (fun h hh hr => ?_) ⟨g1, g5, g6⟩
    obtain ⟨⟨q, hq, rfl⟩, hqn⟩ := vF_in.1 ((h1 h).1 hh)
    exact g4 q hq hr hqn
  · rintro ⟨hx, ⟨hb, hn, hc⟩, hd, he⟩
    refine ⟨⟨(h1 f).2 (vF_in.2 ⟨hx, hn⟩), hb, fun g hg hr => ?_⟩, hd, fun g hg g2 g4 => ?_⟩
    · obtain ⟨⟨q, hq, rfl⟩, hqn⟩ := vF_in.1 ((h1 g).1 hg)
      exact hc q hq hr hqn
    · rintro ⟨g1, g5, g6⟩
      obtain ⟨⟨q, hq, rfl⟩, hqn⟩ := vF_in.1 ((h1 g).1 hg)
      exact he q hq ⟨g1, ⟨g2, hqn, fun p hp hr hpn => g4 p.1 ((h1 _).2 (vF_in.2 ⟨⟨p, hp, rfl⟩, hpn⟩)) hr⟩, g5, g6⟩
theorem view_asc {l : List Sg} (hv : ∀ p ∈ l, sgOk p) (t : Int) : (viewL t (valL l)).Pairwise fun a b => cmpF a b < 0 := (valL_facts hv).2.1.sublist (view_sub t _)
end Go.Proofs.YtghfancmonhkcaaDoor
