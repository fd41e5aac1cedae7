/-
  Evidence: EvidenceComplete, walked.
-/
import Derived.Test.YtpamincphlfhlaaGreatDoorKS
set_option linter.unusedSectionVars false
set_option linter.unusedSimpArgs false
set_option linter.unusedVariables false
namespace Go.Proofs.YtpamincphlfhlaaGreatDoor
open Go.Xe Go.RowKit

theorem few_facts {l : List Sg} (h : fewB l = true) : l.length ≤ 10 ∧ ∀ p ∈ l, p.1 1 ≤ 200 := by
  simp only [fewB, Bool.and_eq_true, List.all_eq_true, decide_eq_true_eq] at h
  exact ⟨h.2.1, fun p hp => by have := h.1 p hp; simpa [noB] using this⟩
abbrev cpB (a b : List Sg) : Bxs := [(3, .cells 25 [.d (sgD a false)]), (4, .cells 25 [.d (sgD b false)])]
abbrev crD (crew : Int) : List D := [.v (.int .i64 crew), .v (.int .i64 0), .v (.int .i64 1), .v (.int .i64 2)]
abbrev cpS0 (a b : List Sg) (crew : Int) (i : Nat) : St := mkS 85 [(3, .ptr 3 0), (4, .ptr 4 0), (27, .row 27), (28, .d (.v (.int .i64 4))), (29, .d (.v (.int .i64 i)))] (cpB a b ++ [(27, .row 3 1 4 ((crD crew).map .d))])
theorem cr_at {crew : Int} (hc : isI crew) : ∀ i : Nat, i < 4 → ∃ c, atL ((crD crew).map AV.d) i = .d (.v (.int .i64 c)) ∧ isI c
  | 0, _ => ⟨crew, rfl, hc⟩
  | 1, _ => ⟨0, rfl, by unfold isI; omega⟩
  | 2, _ => ⟨1, rfl, by unfold isI; omega⟩
  | 3, _ => ⟨2, rfl, by unfold isI; omega⟩
  | n + 4, h => absurd h (by omega)
abbrev cpS1 (a b : List Sg) (crew : Int) (i : Nat) (c n : Int) (al : List R2) (j : Nat) : St := mkS 85 [(3, .ptr 3 0), (4, .ptr 4 0), (8, .d (.v (.int .i64 c))), (9, .d (.v (.int .i64 n))), (27, .row 27), (28, .d (.v (.int .i64 4))), (29, .d (.v (.int .i64 i))), (38, .d (slR al)), (39, .d (.v (.int .i64 al.length))), (40, .d (.v (.int .i64 j)))] (cpB a b ++ [(27, .row 3 1 4 ((crD crew).map .d))])
abbrev cpS2 (a b : List Sg) (crew : Int) (i : Nat) (c n : Int) (gs : List R2) (j : Nat) : St := mkS 85 [(3, .ptr 3 0), (4, .ptr 4 0), (8, .d (.v (.int .i64 c))), (9, .d (.v (.int .i64 n))), (27, .row 27), (28, .d (.v (.int .i64 4))), (29, .d (.v (.int .i64 i))), (67, .d (slR gs)), (68, .d (.v (.int .i64 gs.length))), (69, .d (.v (.int .i64 j)))] (cpB a b ++ [(27, .row 3 1 4 ((crD crew).map .d))])
set_option maxRecDepth 10000 in
set_option maxHeartbeats 4000000 in
theorem law_complete (a b : List Sg) (crew : Int) (ha : ∀ p ∈ a, sgOk p) (hb : ∀ p ∈ b, sgOk p) (hfa : ∀ p ∈ a, sgF p) (hfb : ∀ p ∈ b, sgF p) (hna : a.length ≤ 1000000000000) (hnb : b.length ≤ 1000000000000) (hc : isI crew) :
    Fn0 Tryz.prog 4 [lgD a false, lgD b false, .v (.int .i64 crew)] (.v (.bool true)) := by
  refine Fun.of_wp (pn := noPn) Tryz.tab Tryz.func4 rfl fun β0 => ?_
  simp only [Tryz.f4]
  repeat (first | apply wS | apply wB | ((first | apply wR | apply wD); simp -dsimp) | refine aI ?_)
  refine vcStop.call0 Tryz.body11 sane_ok rfl rfl (by simp) ?_
  simp -dsimp
  repeat (first | apply wS | apply wB | ((first | apply wR | apply wD); simp -dsimp) | refine aI ?_)
  refine cF (by simp) ?_
  refine WP.skip ?_
  simp -dsimp
  repeat (first | apply wS | apply wB | ((first | apply wR | apply wD); simp -dsimp) | refine aI ?_)
  refine vcStop.call0L Tryz.body13 (few_ok a false ha hfa hna) rfl rfl (And.intro (Leq.aggD [sgD a false]) trivial) ?_
  simp -dsimp
  repeat (first | apply wS | apply wB | ((first | apply wR | apply wD); simp -dsimp) | refine aI ?_)
  refine vcStopG.call0L Tryz.body13 (fun _ => few_ok b false hb hfb hnb) rfl (fun _ => rfl) (fun hg => And.intro (by simp [hg] <;> exact Leq.aggD [sgD b false]) trivial) ?_
  simp -dsimp
  repeat (first | apply wS | apply wB | ((first | apply wR | apply wD); simp -dsimp) | refine aI ?_)
  by_cases hfw : fewB a = true ∧ fewB b = true
  · obtain ⟨hwa, hwb⟩ := hfw
    obtain ⟨hla, hnoa⟩ := few_facts hwa
    obtain ⟨hlb, hnob⟩ := few_facts hwb
    refine cF (by simp [hwa, hwb]) ?_
    refine WP.skip ?_
    simp -dsimp
    repeat (first | apply wS | apply wB | ((first | apply wR | apply wD); simp -dsimp) | refine aI ?_)
    have hvl := valL_facts hb
    have hcpl := fun c (hc : isI c) => complete_ok b false c hc (by omega) hb (by have := hvl.2.2.1; omega) (fun f hf => (hvl.2.2.2 f hf).1)
    have hal := altered_ok a b false false (by omega) (by omega) ha hb
    have hgp := gaps_ok b false (by omega) hb hnob
    have hA := vF_fOk fun p hp => (ha p hp).1
    have hB := vF_fOk fun p hp => (hb p hp).1
    have hn200 : ∀ f ∈ vF b, f 1 ≤ 200 := fun f hf => by
      obtain ⟨p, hp, rfl, _⟩ := vF_iff.1 hf
      exact hnob p hp
    have hgl := gapS_len (vF b) hn200 (isA (crN (vF b) (vF b).length))
    have hcl : (isA (crN (vF b) (vF b).length)).length ≤ 12 := by
      have h1 := (crN_ok (vF b) (vF b).length (Nat.le_refl _)).2.1
      have h2 := vF_len b
      rw [isA_len]; omega
    have hall := altL_len (vF a) (vF b)
    have hva := vF_len a
    have haI : ∀ r ∈ altL (vF a) (vF b), isI r.1 ∧ isI r.2 := fun r hr => alt_isI hA hB hr
    have hno1 : ∀ c, ∀ r ∈ altL (vF a) (vF b), fndO a b r = none → ¬ (r.1 = c ∧ r.2 ≤ (cplV (valL b) c : Int)) := fun c r hr hn => cmpl_alt ha hb c hr hn
    have hno2 : ∀ c, ∀ r ∈ gapS (vF b) (isA (crN (vF b) (vF b).length)), ¬ (r.1 = c ∧ r.2 ≤ (cplV (valL b) c : Int)) := fun c r hr => cmpl_gap hb c hr
    generalize gapS (vF b) (isA (crN (vF b) (vF b).length)) = gs at hgl hgp hno2
    generalize altL (vF a) (vF b) = al at hal hall haI hno1
    refine WP.loopWk (fun m S => ∃ i : Nat, m = 4 - i ∧ i ≤ 4 ∧ S = cpS0 a b crew i) 4 (S0 := cpS0 a b crew 0) (Wk.lessE [] (by simp) (by simp)) ⟨0, rfl, by omega, rfl⟩ ?_
    rintro m _ ⟨i, rfl, hi, rfl⟩
    simp -dsimp
    repeat (first | apply wS | apply wB | ((first | apply wR | apply wD); simp -dsimp) | refine aI ?_)
    by_cases hi4 : i < 4
    · obtain ⟨c, hat, hcI⟩ := cr_at hc i hi4
      have hcp := hcpl c hcI
      have hn1 := hno1 c
      have hn2 := hno2 c
      have e1 : IntKind.i64.wrap ((i : Int) + 1) = ((i + 1 : Nat) : Int) := by rw [IntWalk.i64_in _ (by omega)]; omega
      generalize (cplV (valL b) c : Int) = n at hcp hn1 hn2
      have hat2 := hat
      simp only [List.map_cons, List.map_nil] at hat2
      refine cT (by simp; omega) ?_
      refine WP.skip ?_
      simp -dsimp
      repeat (first | apply wS | apply wB | ((first | apply wR | apply wD); simp -dsimp [hat2]) | refine aI ?_)
      refine vcStop.call0L Tryz.body17 hcp rfl rfl (And.intro (Leq.aggD [sgD b false]) (And.intro (.refl _) trivial)) ?_
      simp -dsimp
      repeat (first | apply wS | apply wB | ((first | apply wR | apply wD); simp -dsimp) | refine aI ?_)
      refine vcStop.call0L Tryz.body15 hal rfl rfl (And.intro (Leq.aggD [sgD a false]) (And.intro (Leq.aggD [sgD b false]) trivial)) ?_
      simp -dsimp
      repeat (first | apply wS | apply wB | ((first | apply wR | apply wD); simp -dsimp) | refine aI ?_)
      refine WP.loopWk (fun m S => ∃ j : Nat, m = al.length - j ∧ j ≤ al.length ∧ S = cpS1 a b crew i c n al j) al.length (S0 := cpS1 a b crew i c n al 0) (Wk.lessE [] (by simp) (by simp)) ⟨0, rfl, by omega, rfl⟩ ?_
      rintro m _ ⟨j, rfl, hj, rfl⟩
      simp -dsimp
      repeat (first | apply wS | apply wB | ((first | apply wR | apply wD); simp -dsimp) | refine aI ?_)
      by_cases hjl : j < al.length
      · have hatj := rfC_at (x := al) (i := j) hjl
        have hr1 := hn1 al[j] (List.getElem_mem hjl)
        obtain ⟨r1, r2⟩ := haI al[j] (List.getElem_mem hjl)
        generalize al[j] = r at hatj hr1 r1 r2
        have lr := rfC_len al
        have ej : IntKind.i64.wrap ((j : Int) + 1) = ((j + 1 : Nat) : Int) := by rw [IntWalk.i64_in _ (by omega)]; omega
        obtain ⟨hq1, hq2⟩ := fndR_ok ha hb r
        have fl := fkc_len hq1 hq2
        have fo := fkc_one hq1 hq2
        have hfi := find_ok a b false false r ha hb (by omega) r1 r2
        refine cT (by simp; omega) ?_
        refine WP.skip ?_
        simp -dsimp
        repeat (first | apply wS | apply wB | ((first | apply wR | apply wD); simp -dsimp [hatj]) | refine aI ?_)
        refine vcStop.call0L Tryz.body18 hfi rfl rfl (And.intro (Leq.aggD [sgD a false]) (And.intro (Leq.aggD [sgD b false]) (And.intro (Leq.aggD [.v (.int .i64 r.1), .v (.int .i64 r.2)]) trivial))) ?_
        simp -dsimp [fl]
        repeat (first | apply wS | apply wB | ((first | apply wR | apply wD); simp -dsimp [fl]) | refine aI ?_)
        generalize fndO a b r = o at hr1
        refine WP.cond (b := false) (by
          cases o with
          | some q => simp
          | none =>
            have h := hr1 rfl
            by_cases e : r.1 = c <;> simp [e] at h ⊢
            omega) (fun h => by cases h) (fun _ => ?_)
        refine WP.skip ?_
        simp -dsimp
        repeat (first | apply wS | apply wB | ((first | apply wR | apply wD); simp -dsimp) | refine aI ?_)
        refine loopW.next (cpS1 a b crew i c n al (j + 1)) (Wk.lessE [11, 12] (by simp [ej]) (by simp)) (al.length - (j + 1)) (by omega) ⟨j + 1, rfl, by omega, rfl⟩
      · refine cF (by simp; omega) ?_
        refine WP.exit ?_
        simp -dsimp
        repeat (first | apply wS | apply wB | ((first | apply wR | apply wD); simp -dsimp) | refine aI ?_)
        refine vcStop.call0L Tryz.body19 hgp rfl rfl (And.intro (Leq.aggD [sgD b false]) trivial) ?_
        simp -dsimp
        repeat (first | apply wS | apply wB | ((first | apply wR | apply wD); simp -dsimp) | refine aI ?_)
        refine WP.loopWk (fun m S => ∃ j : Nat, m = gs.length - j ∧ j ≤ gs.length ∧ S = cpS2 a b crew i c n gs j) gs.length (S0 := cpS2 a b crew i c n gs 0) (Wk.lessE [] (by simp) (by simp)) ⟨0, rfl, by omega, rfl⟩ ?_
        rintro m _ ⟨k, rfl, hk, rfl⟩
        simp -dsimp
        repeat (first | apply wS | apply wB | ((first | apply wR | apply wD); simp -dsimp) | refine aI ?_)
        by_cases hkl : k < gs.length
        · have hatj := rfC_at (x := gs) (i := k) hkl
          have hr2 := hn2 gs[k] (List.getElem_mem hkl)
          generalize gs[k] = r at hatj hr2
          have lr := rfC_len gs
          have ej : IntKind.i64.wrap ((k : Int) + 1) = ((k + 1 : Nat) : Int) := by rw [IntWalk.i64_in _ (by omega)]; omega
          refine cT (by simp; omega) ?_
          refine WP.skip ?_
          simp -dsimp
          repeat (first | apply wS | apply wB | ((first | apply wR | apply wD); simp -dsimp [hatj]) | refine aI ?_)
          refine WP.cond (b := false) (by
            by_cases e : r.1 = c <;> simp [e] at hr2 ⊢
            omega) (fun h => by cases h) (fun _ => ?_)
          refine WP.skip ?_
          simp -dsimp
          repeat (first | apply wS | apply wB | ((first | apply wR | apply wD); simp -dsimp) | refine aI ?_)
          refine loopW.next (cpS2 a b crew i c n gs (k + 1)) (Wk.lessE [15] (by simp [ej]) (by simp)) (gs.length - (k + 1)) (by omega) ⟨k + 1, rfl, by omega, rfl⟩
        · refine cF (by simp; omega) ?_
          refine WP.exit ?_
          simp -dsimp
          repeat (first | apply wS | apply wB | ((first | apply wR | apply wD); simp -dsimp) | refine aI ?_)
          refine loopW.next (cpS0 a b crew (i + 1)) (Wk.lessE [] (by simp [e1]) (by simp)) (4 - (i + 1)) (by omega) ⟨i + 1, rfl, by omega, rfl⟩
    · refine cF (by simp; omega) ?_
      refine WP.exit ?_
      simp -dsimp
      repeat (first | apply wS | apply wB | ((first | apply wR | apply wD); simp -dsimp) | refine aI ?_)
      refine WP.ret (finQ.retE ?_)
      simp -dsimp
  · refine cT (by cases h1 : fewB a <;> cases h2 : fewB b <;> simp_all) ?_
    repeat (first | apply wS | apply wB | ((first | apply wR | apply wD); simp -dsimp) | refine aI ?_)
    refine WP.ret (finQ.retE ?_)
    simp -dsimp
end Go.Proofs.YtpamincphlfhlaaGreatDoor
