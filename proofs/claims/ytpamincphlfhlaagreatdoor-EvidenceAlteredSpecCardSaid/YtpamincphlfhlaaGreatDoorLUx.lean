/-
  Evidence: EvidenceAlteredSpec, walked.
-/
import Derived.Test.YtpamincphlfhlaaGreatDoorLUv
import Derived.Test.YtpamincphlfhlaaGreatDoorLUw
import Derived.Test.YtpamincphlfhlaaGreatDoorLUn
set_option linter.unusedSectionVars false
set_option linter.unusedSimpArgs false
set_option linter.unusedVariables false
namespace Go.Proofs.YtpamincphlfhlaaGreatDoor
open Go.Xe Go.RowKit

theorem few_factsA {l : List Sg} (h : fewB l = true) : l.length ≤ 10 ∧ ∀ p ∈ l, p.1 1 ≤ 200 := by
  simp only [fewB, Bool.and_eq_true, List.all_eq_true, decide_eq_true_eq] at h
  exact ⟨h.2.1, fun p hp => by have := h.1 p hp; simpa [noB] using this⟩
set_option maxRecDepth 10000 in
set_option maxHeartbeats 4000000 in
theorem law_altered (a b : List Sg) (ha : ∀ p ∈ a, sgOk p) (hb : ∀ p ∈ b, sgOk p) (hfa : ∀ p ∈ a, sgF p) (hfb : ∀ p ∈ b, sgF p) (hna : a.length ≤ 1000000000000) (hnb : b.length ≤ 1000000000000) :
    Fn0 Tryz.prog 5 [lgD a false, lgD b false] (.v (.bool true)) := by
  refine Fun.of_wp (pn := noPn) Tryz.tab Tryz.func5 rfl fun β0 => ?_
  simp only [Tryz.f5]
  repeat (first | apply wS | apply wB | ((first | apply wR | apply wD); simp -dsimp) | refine aI ?_)
  refine vcStop.call0 Tryz.body11 sane_ok rfl rfl (by simp) ?_
  simp -dsimp
  repeat (first | apply wS | apply wB | ((first | apply wR | apply wD); simp -dsimp) | refine aI ?_)
  refine cF (by simp) ?_
  refine WP.skip ?_
  simp -dsimp
  repeat (first | apply wS | apply wB | ((first | apply wR | apply wD); simp -dsimp) | refine aI ?_)
  refine vcStop.call0L Tryz.body13 (few_ok a false ha hfa hna) rfl rfl (And.intro (Leq.aggD [sgD a false]) trivial) ?_
  simp -dsimp
  repeat (first | apply wS | apply wB | ((first | apply wR | apply wD); simp -dsimp) | refine aI ?_)
  refine vcStopG.call0L Tryz.body13 (fun _ => few_ok b false hb hfb hnb) rfl (fun _ => rfl) (fun hg => And.intro (by simp [hg] <;> exact Leq.aggD [sgD b false]) trivial) ?_
  simp -dsimp
  repeat (first | apply wS | apply wB | ((first | apply wR | apply wD); simp -dsimp) | refine aI ?_)
  by_cases hfw : fewB a = true ∧ fewB b = true
  · obtain ⟨hwa, hwb⟩ := hfw
    obtain ⟨hla, hnoa⟩ := few_factsA hwa
    obtain ⟨hlb, hnob⟩ := few_factsA hwb
    refine cF (by simp [hwa, hwb]) ?_
    refine WP.skip ?_
    simp -dsimp
    repeat (first | apply wS | apply wB | ((first | apply wR | apply wD); simp -dsimp) | refine aI ?_)
    have hA := vF_fOk fun p hp => (ha p hp).1
    have hB := vF_fOk fun p hp => (hb p hp).1
    have c1 := altered_ok a b false false (by omega) (by omega) ha hb
    have c2 := refAltered_ok a b (by omega) (by omega) ha hb
    have c3 := gaps_ok a false (by omega) ha hnoa
    have c4 := refGaps_ok a (by omega) ha hnoa
    have c5 := gaps_ok b false (by omega) hb hnob
    have c6 := refGaps_ok b (by omega) hb hnob
    have na : ∀ f ∈ vF a, f 1 ≤ 200 := fun f hf => by
      obtain ⟨p, hp, rfl, _⟩ := vF_iff.1 hf
      exact hnoa p hp
    have nb : ∀ f ∈ vF b, f 1 ≤ 200 := fun f hf => by
      obtain ⟨p, hp, rfl, _⟩ := vF_iff.1 hf
      exact hnob p hp
    have m1 := altL_len (vF a) (vF b)
    have n1 := vF_len a
    have i1 : ∀ r ∈ altL (vF a) (vF b), isI r.1 ∧ isI r.2 := fun r hr => alt_isI hA hB hr
    have i2 : ∀ r ∈ gapS (vF a) (isA (crN (vF a) (vF a).length)), isI r.1 ∧ isI r.2 := fun r hr => gap_isI hA na hr
    have i3 : ∀ r ∈ gapS (vF b) (isA (crN (vF b) (vF b).length)), isI r.1 ∧ isI r.2 := fun r hr => gap_isI hB nb hr
    rw [gapS_crs] at c3 c5 i2 i3
    have g1 := gapS_len (vF a) na (crs 32)
    have g2 := gapS_len (vF b) nb (crs 32)
    have g3 : (crs 32).length = 32 := by simp [crs]
    rw [g3] at g1 g2
    have s1 := sameR_ok _ _ i1 i1 (by omega)
    have s2 := sameR_ok _ _ i2 i2 (by omega)
    have s3 := sameR_ok _ _ i3 i3 (by omega)
    generalize altL (vF a) (vF b) = x1 at c1 c2 s1
    generalize gapS (vF a) (crs 32) = x2 at c3 c4 s2
    generalize gapS (vF b) (crs 32) = x3 at c5 c6 s3
    simp only [decide_true] at s1 s2 s3
    refine vcStop.call0L Tryz.body15 c1 rfl rfl (And.intro (Leq.aggD [sgD a false]) (And.intro (Leq.aggD [sgD b false]) trivial)) ?_
    simp -dsimp
    repeat (first | apply wS | apply wB | ((first | apply wR | apply wD); simp -dsimp) | refine aI ?_)
    refine vcStop.call0L Tryz.body21 c2 rfl rfl (And.intro (Leq.aggD [sgD a false]) (And.intro (Leq.aggD [sgD b false]) trivial)) ?_
    simp -dsimp
    repeat (first | apply wS | apply wB | ((first | apply wR | apply wD); simp -dsimp) | refine aI ?_)
    refine vcStop.call0L Tryz.body20 s1 rfl rfl (And.intro (.refl _) (And.intro (.refl _) trivial)) ?_
    simp -dsimp
    repeat (first | apply wS | apply wB | ((first | apply wR | apply wD); simp -dsimp) | refine aI ?_)
    refine vcStopG.call0L Tryz.body19 (fun _ => c3) rfl (fun _ => rfl) (fun _ => And.intro (by simp <;> exact Leq.aggD [sgD a false]) trivial) ?_
    simp -dsimp
    repeat (first | apply wS | apply wB | ((first | apply wR | apply wD); simp -dsimp) | refine aI ?_)
    refine vcStopG.call0L Tryz.body22 (fun _ => c4) rfl (fun _ => rfl) (fun _ => And.intro (by simp <;> exact Leq.aggD [sgD a false]) trivial) ?_
    simp -dsimp
    repeat (first | apply wS | apply wB | ((first | apply wR | apply wD); simp -dsimp) | refine aI ?_)
    refine vcStopG.call0L Tryz.body20 (fun _ => s2) rfl (fun _ => rfl) (fun _ => And.intro (by simp) (And.intro (by simp) trivial)) ?_
    simp -dsimp
    repeat (first | apply wS | apply wB | ((first | apply wR | apply wD); simp -dsimp) | refine aI ?_)
    refine vcStopG.call0L Tryz.body19 (fun _ => c5) rfl (fun _ => rfl) (fun _ => And.intro (by simp <;> exact Leq.aggD [sgD b false]) trivial) ?_
    simp -dsimp
    repeat (first | apply wS | apply wB | ((first | apply wR | apply wD); simp -dsimp) | refine aI ?_)
    refine vcStopG.call0L Tryz.body22 (fun _ => c6) rfl (fun _ => rfl) (fun _ => And.intro (by simp <;> exact Leq.aggD [sgD b false]) trivial) ?_
    simp -dsimp
    repeat (first | apply wS | apply wB | ((first | apply wR | apply wD); simp -dsimp) | refine aI ?_)
    refine vcStopG.call0L Tryz.body20 (fun _ => s3) rfl (fun _ => rfl) (fun _ => And.intro (by simp) (And.intro (by simp) trivial)) ?_
    simp -dsimp
    repeat (first | apply wS | apply wB | ((first | apply wR | apply wD); simp -dsimp) | refine aI ?_)
    refine WP.ret (finQ.retE ?_)
    simp -dsimp
  · refine cT (by cases h1 : fewB a <;> cases h2 : fewB b <;> simp_all) ?_
    repeat (first | apply wS | apply wB | ((first | apply wR | apply wD); simp -dsimp) | refine aI ?_)
    refine WP.ret (finQ.retE ?_)
    simp -dsimp
end Go.Proofs.YtpamincphlfhlaaGreatDoor
