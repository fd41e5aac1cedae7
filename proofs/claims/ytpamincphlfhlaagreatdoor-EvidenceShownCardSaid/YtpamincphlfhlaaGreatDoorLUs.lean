/-
  Evidence: EvidenceShown, walked.
-/
import Derived.Test.YtpamincphlfhlaaGreatDoorLUn
import Derived.Test.YtpamincphlfhlaaGreatDoorLS
import Derived.Test.YtpamincphlfhlaaGreatDoorLUk
import Derived.Test.YtpamincphlfhlaaGreatDoorLUr
set_option linter.unusedSectionVars false
set_option linter.unusedSimpArgs false
set_option linter.unusedVariables false
namespace Go.Proofs.YtpamincphlfhlaaGreatDoor
open Go.Xe Go.RowKit

theorem few_factsS {l : List Sg} (h : fewB l = true) : l.length ≤ 10 ∧ ∀ p ∈ l, p.1 1 ≤ 200 := by
  simp only [fewB, Bool.and_eq_true, List.all_eq_true, decide_eq_true_eq] at h
  exact ⟨h.2.1, fun p hp => by have := h.1 p hp; simpa [noB] using this⟩
/-- The fact isn't of the crew, or its number is less. -/
def noE (r : R2) (x : F) : Bool := decide (x 0 ≠ r.1) || decide (x 1 < r.2)
abbrev shB (a b : List Sg) : Bxs := [(2, .cells 25 [.d (sgD a false)]), (3, .cells 25 [.d (sgD b false)])]
abbrev shS0 (a b : List Sg) (gs al : List R2) (i : Nat) : St := mkS 107 [(2, .ptr 2 0), (3, .ptr 3 0), (5, .d (slR gs)), (30, .d (slR al)), (31, .d (.v (.int .i64 al.length))), (32, .d (.v (.int .i64 i)))] (shB a b)
abbrev shS1 (a b : List Sg) (gs al : List R2) (i : Nat) (r : R2) (c : Bool) (j : Nat) : St := mkS 107 [(2, .ptr 2 0), (3, .ptr 3 0), (5, .d (slR gs)), (7, .ptr 7 0), (10, .d (.v (.bool c))), (11, .d (.v (.bool true))), (30, .d (slR al)), (31, .d (.v (.int .i64 al.length))), (32, .d (.v (.int .i64 i))), (67, .d (slR gs)), (68, .d (.v (.int .i64 gs.length))), (69, .d (.v (.int .i64 j)))] (shB a b ++ [(7, .cells 39 [.d (.v (.int .i64 r.1)), .d (.v (.int .i64 r.2))])])
abbrev shS2 (a b : List Sg) (gs al : List R2) (i : Nat) (r : R2) (c e : Bool) (B : List F) (j : Nat) : St := mkS 107 [(2, .ptr 2 0), (3, .ptr 3 0), (5, .d (slR gs)), (7, .ptr 7 0), (10, .d (.v (.bool c))), (11, .d (.v (.bool e))), (30, .d (slR al)), (31, .d (.v (.int .i64 al.length))), (32, .d (.v (.int .i64 i))), (81, .d (slF B)), (82, .d (.v (.int .i64 B.length))), (83, .d (.v (.int .i64 j)))] (shB a b ++ [(7, .cells 39 [.d (.v (.int .i64 r.1)), .d (.v (.int .i64 r.2))])])
set_option maxRecDepth 10000 in
set_option maxHeartbeats 4000000 in
theorem law_shown (a b : List Sg) (ha : ∀ p ∈ a, sgOk p) (hb : ∀ p ∈ b, sgOk p) (hfa : ∀ p ∈ a, sgF p) (hfb : ∀ p ∈ b, sgF p) (hna : a.length ≤ 1000000000000) (hnb : b.length ≤ 1000000000000) :
    Fn0 Tryz.prog 8 [lgD a false, lgD b false] (.v (.bool true)) := by
  refine Fun.of_wp (pn := noPn) Tryz.tab Tryz.func8 rfl fun β0 => ?_
  simp only [Tryz.f8]
  repeat (first | apply wS | apply wB | ((first | apply wR | apply wD); simp -dsimp) | refine aI ?_)
  refine vcStop.call0 Tryz.body11 sane_ok rfl rfl (by simp) ?_
  simp -dsimp
  repeat (first | apply wS | apply wB | ((first | apply wR | apply wD); simp -dsimp) | refine aI ?_)
  refine cF (by simp) ?_
  refine WP.skip ?_
  simp -dsimp
  repeat (first | apply wS | apply wB | ((first | apply wR | apply wD); simp -dsimp) | refine aI ?_)
  refine vcStop.call0L Tryz.body13 (few_ok a false ha hfa hna) rfl rfl (And.intro (Leq.aggD [sgD a false]) trivial) ?_
  simp -dsimp
  repeat (first | apply wS | apply wB | ((first | apply wR | apply wD); simp -dsimp) | refine aI ?_)
  refine vcStopG.call0L Tryz.body13 (fun _ => few_ok b false hb hfb hnb) rfl (fun _ => rfl) (fun hg => And.intro (by simp [hg] <;> exact Leq.aggD [sgD b false]) trivial) ?_
  simp -dsimp
  repeat (first | apply wS | apply wB | ((first | apply wR | apply wD); simp -dsimp) | refine aI ?_)
  by_cases hfw : fewB a = true ∧ fewB b = true
  · obtain ⟨hwa, hwb⟩ := hfw
    obtain ⟨hla, hnoa⟩ := few_factsS hwa
    obtain ⟨hlb, hnob⟩ := few_factsS hwb
    refine cF (by simp [hwa, hwb]) ?_
    refine WP.skip ?_
    simp -dsimp
    repeat (first | apply wS | apply wB | ((first | apply wR | apply wD); simp -dsimp) | refine aI ?_)
    have hal := altered_ok a b false false (by omega) (by omega) ha hb
    have hgp := gaps_ok b false (by omega) hb hnob
    have hfc := facts_ok b false (by omega) hb
    have hA := vF_fOk fun p hp => (ha p hp).1
    have hB := vF_fOk fun p hp => (hb p hp).1
    have hn200 : ∀ f ∈ vF b, f 1 ≤ 200 := fun f hf => by
      obtain ⟨p, hp, rfl, _⟩ := vF_iff.1 hf
      exact hnob p hp
    have hgl := gapS_len (vF b) hn200 (isA (crN (vF b) (vF b).length))
    have hcl : (isA (crN (vF b) (vF b).length)).length ≤ 12 := by
      have h1 := (crN_ok (vF b) (vF b).length (Nat.le_refl _)).2.1
      have h2 := vF_len b
      rw [isA_len]; omega
    have hgI : ∀ r ∈ gapS (vF b) (isA (crN (vF b) (vF b).length)), isI r.1 ∧ isI r.2 := fun r hr => gap_isI hB hn200 hr
    have hall := altL_len (vF a) (vF b)
    have hva := vF_len a
    have hvb := vF_len b
    have haI : ∀ r ∈ altL (vF a) (vF b), isI r.1 ∧ isI r.2 := fun r hr => alt_isI hA hB hr
    have hsg : ∀ r ∈ altL (vF a) (vF b), fndO a b r = none → decide (r ∈ gapS (vF b) (isA (crN (vF b) (vF b).length))) = !((vF b).all (noE r)) := fun r hr hn =>
      shown_gap (fun s hs => (ha s hs).1) (fun s hs => (hb s hs).1) hr hn (fun f hf => (vF_head hf).2.2) (fun f hf => by
        rw [isA_in, (crN_ok _ _ (Nat.le_refl _)).2.2, List.take_length]
        exact ⟨f, hf, rfl⟩)
    generalize gapS (vF b) (isA (crN (vF b) (vF b).length)) = gs at hgl hgp hgI hsg
    generalize altL (vF a) (vF b) = al at hal hall haI hsg
    generalize vF b = B at hfc hB hvb hsg
    refine vcStop.call0L Tryz.body19 hgp rfl rfl (And.intro (Leq.aggD [sgD b false]) trivial) ?_
    simp -dsimp
    repeat (first | apply wS | apply wB | ((first | apply wR | apply wD); simp -dsimp) | refine aI ?_)
    refine vcStop.call0L Tryz.body15 hal rfl rfl (And.intro (Leq.aggD [sgD a false]) (And.intro (Leq.aggD [sgD b false]) trivial)) ?_
    simp -dsimp
    repeat (first | apply wS | apply wB | ((first | apply wR | apply wD); simp -dsimp) | refine aI ?_)
    refine WP.loopWk (fun m S => ∃ i : Nat, m = al.length - i ∧ i ≤ al.length ∧ S = shS0 a b gs al i) al.length (S0 := shS0 a b gs al 0) (Wk.lessE [] (by simp) (by simp)) ⟨0, rfl, by omega, rfl⟩ ?_
    rintro m _ ⟨i, rfl, hi, rfl⟩
    simp -dsimp
    repeat (first | apply wS | apply wB | ((first | apply wR | apply wD); simp -dsimp) | refine aI ?_)
    by_cases hil : i < al.length
    · have hatj := rfC_at (x := al) (i := i) hil
      have hsr := hsg al[i] (List.getElem_mem hil)
      obtain ⟨r1, r2⟩ := haI al[i] (List.getElem_mem hil)
      generalize al[i] = r at hatj hsr r1 r2
      have lr := rfC_len al
      have e1 : IntKind.i64.wrap ((i : Int) + 1) = ((i + 1 : Nat) : Int) := by rw [IntWalk.i64_in _ (by omega)]; omega
      obtain ⟨hq1, hq2⟩ := fndR_ok ha hb r
      have fl := fkc_len hq1 hq2
      have fo := fkc_one hq1 hq2
      have hfi := find_ok a b false false r ha hb (by omega) r1 r2
      refine cT (by simp; omega) ?_
      refine WP.skip ?_
      simp -dsimp
      repeat (first | apply wS | apply wB | ((first | apply wR | apply wD); simp -dsimp [hatj]) | refine aI ?_)
      refine vcStop.call0L Tryz.body18 hfi rfl rfl (And.intro (Leq.aggD [sgD a false]) (And.intro (Leq.aggD [sgD b false]) (And.intro (Leq.aggD [.v (.int .i64 r.1), .v (.int .i64 r.2)]) trivial))) ?_
      simp -dsimp [fl]
      repeat (first | apply wS | apply wB | ((first | apply wR | apply wD); simp -dsimp [fl]) | refine aI ?_)
      cases ho : fndO a b r with
      | some q =>
        have hfr : fndR a b r = q := by rw [fndR, ho]; rfl
        rw [hfr] at hq1 hq2 fl fo
        rw [hfr]
        obtain ⟨t1, t2, t3, t4, t5⟩ := two_ok (fun s hs => by
          rcases List.mem_append.1 hs with h | h
          · exact (ha s h).1
          · exact (hb s h).1) (a := q.1) (b := q.2) ho
        refine cT (by simp) ?_
        have la := sgc_len hq1
        have lb := sgc_len hq2
        have h57a : List.take 57 ((fkc q).map AV.d) = (fcs q.1.1 0 57).map .d := by
          rw [fkc, List.map_append, List.take_append_of_le_length (by rw [List.length_map]; omega), sgc_57]
        have h57b : List.take 57 (List.drop 61 ((fkc q).map AV.d)) = (fcs q.2.1 0 57).map .d := by
          rw [fkc, List.map_append, List.drop_left' (by rw [List.length_map]; omega), sgc_57]
        have k1 := refOf2_ok q.1.1
        have k2 := refOf2_ok q.2.1
        rw [show q.1.1 0 = r.1 from congrArg Prod.fst t3, show q.1.1 1 = r.2 from congrArg Prod.snd t3] at k1
        rw [show q.2.1 0 = r.1 from congrArg Prod.fst t4, show q.2.1 1 = r.2 from congrArg Prod.snd t4] at k2
        simp -dsimp
        repeat (first | apply wS | apply wB | ((first | apply wR | apply wD); simp -dsimp [fl, h57a, h57b]) | refine aI ?_)
        refine vcStop.call0L Tryz.body23 k1 rfl rfl (And.intro (Leq.aggD _) trivial) ?_
        simp -dsimp
        repeat (first | apply wS | apply wB | ((first | apply wR | apply wD); simp -dsimp [fl, h57a, h57b]) | refine aI ?_)
        refine vcStop.eqS Tryz.tab gokF noarrF rfl (.inr rfl) (m := 5) (by omega) Tryz.key52 (by decide) Tryz.gd39r st39r (cs := [.v (.int .i64 r.1), .v (.int .i64 r.2)]) (es := [.v (.int .i64 r.1), .v (.int .i64 r.2)]) (.refl _) (by simp) (ref_okD r1 r2) (ref_okD r1 r2) (ref_lits r r) ?_
        simp -dsimp [eqRes]
        repeat (first | apply wS | apply wB | ((first | apply wR | apply wD); simp -dsimp [fl, h57a, h57b]) | refine aI ?_)
        have hfe : eqF q.1.1 q.2.1 = false := by
          cases h : eqF q.1.1 q.2.1 with
          | false => rfl
          | true =>
            rw [(eqF_iff hq1.1 hq2.1).1 h] at t5
            have := cmp_fact.anti q.2.1 q.2.1
            omega
        refine vcStopG.call0L Tryz.body23 (fun _ => k2) rfl (fun _ => rfl) (fun _ => And.intro (by simp [h57b] <;> exact Leq.aggD _) trivial) ?_
        simp -dsimp
        repeat (first | apply wS | apply wB | ((first | apply wR | apply wD); simp -dsimp [fl, h57a, h57b]) | refine aI ?_)
        refine vcStopG.eqS Tryz.tab gokF noarrF rfl (.inr rfl) (m := 5) (by omega) Tryz.key52 (by decide) Tryz.gd39r st39r (cs := [.v (.int .i64 r.1), .v (.int .i64 r.2)]) (es := [.v (.int .i64 r.1), .v (.int .i64 r.2)]) (fun _ => by simp) (fun _ => by simp) (ref_okD r1 r2) (ref_okD r1 r2) (ref_lits r r) ?_
        simp -dsimp [eqRes]
        repeat (first | apply wS | apply wB | ((first | apply wR | apply wD); simp -dsimp [fl, h57a, h57b]) | refine aI ?_)
        refine vcStopG.eqS Tryz.tab gokF noarrF rfl (.inl rfl) (m := 5) (by omega) Tryz.key47 (by decide) Tryz.gd47 st47 (cs := fcs q.1.1 0 57) (es := fcs q.2.1 0 57) (fun _ => by simp [h57a]) (fun _ => by simp [h57b]) (okF hq1.1.1) (okF hq2.1.1) (lits_iff hq1.1 hq2.1) ?_
        simp -dsimp [eqRes, hfe]
        repeat (first | apply wS | apply wB | ((first | apply wR | apply wD); simp -dsimp [fl, h57a, h57b]) | refine aI ?_)
        refine cF (by simp [eqRes, hfe]) ?_
        refine WP.skip ?_
        simp -dsimp
        refine WP.exit ?_
        simp -dsimp
        repeat (first | apply wS | apply wB | ((first | apply wR | apply wD); simp -dsimp) | refine aI ?_)
        refine loopW.next (shS0 a b gs al (i + 1)) (Wk.lessE [7, 8] (by simp [e1]) (by simp)) (al.length - (i + 1)) (by omega) ⟨i + 1, rfl, by omega, rfl⟩
      | none =>
        have hs := hsr ho
        refine cF (by simp) ?_
        refine WP.skip ?_
        simp -dsimp
        repeat (first | apply wS | apply wB | ((first | apply wR | apply wD); simp -dsimp) | refine aI ?_)
        refine WP.loopWk (fun m S => ∃ j : Nat, m = gs.length - j ∧ j ≤ gs.length ∧ S = shS1 a b gs al i r (decide (r ∈ gs.take j)) j) gs.length (S0 := shS1 a b gs al i r (decide (r ∈ gs.take 0)) 0) (Wk.lessE [8] (by simp) (by simp)) ⟨0, rfl, by omega, rfl⟩ ?_
        rintro m _ ⟨j, rfl, hj, rfl⟩
        simp -dsimp
        repeat (first | apply wS | apply wB | ((first | apply wR | apply wD); simp -dsimp) | refine aI ?_)
        by_cases hjl : j < gs.length
        · have hatg := rfC_at (x := gs) (i := j) hjl
          obtain ⟨g1, g2⟩ := hgI gs[j] (List.getElem_mem hjl)
          have lg := rfC_len gs
          have ej : IntKind.i64.wrap ((j : Int) + 1) = ((j + 1 : Nat) : Int) := by rw [IntWalk.i64_in _ (by omega)]; omega
          have htk : decide (r ∈ gs.take (j + 1)) = (decide (r ∈ gs.take j) || decide (gs[j] = r)) := by
            rw [List.take_succ_eq_append_getElem hjl, Bool.eq_iff_iff]
            simp only [List.mem_append, List.mem_singleton, Bool.or_eq_true, decide_eq_true_eq]
            exact ⟨fun h => h.imp id Eq.symm, fun h => h.imp id Eq.symm⟩
          generalize gs[j] = g at hatg g1 g2 htk
          generalize decide (r ∈ gs.take j) = c at htk
          refine cT (by simp; omega) ?_
          refine WP.skip ?_
          simp -dsimp
          repeat (first | apply wS | apply wB | ((first | apply wR | apply wD); simp -dsimp [hatg]) | refine aI ?_)
          refine vcStopG.eqS Tryz.tab gokF noarrF rfl (.inl rfl) (m := 5) (by omega) Tryz.key52 (by decide) Tryz.gd39r st39r (cs := [.v (.int .i64 g.1), .v (.int .i64 g.2)]) (es := [.v (.int .i64 r.1), .v (.int .i64 r.2)]) (fun h => by simp at h; simp [h]) (fun h => by simp at h; simp [h]) (ref_okD g1 g2) (ref_okD r1 r2) (ref_lits g r) ?_
          simp -dsimp [eqRes]
          repeat (first | apply wS | apply wB | ((first | apply wR | apply wD); simp -dsimp) | refine aI ?_)
          refine loopW.next (shS1 a b gs al i r (decide (r ∈ gs.take (j + 1))) (j + 1)) (Wk.lessE [13] (by simp [ej, htk]) (by simp)) (gs.length - (j + 1)) (by omega) ⟨j + 1, rfl, by omega, rfl⟩
        · have hge : gs.take j = gs := List.take_of_length_le (by omega)
          rw [hge]
          refine cF (by simp; omega) ?_
          refine WP.exit ?_
          simp -dsimp
          repeat (first | apply wS | apply wB | ((first | apply wR | apply wD); simp -dsimp) | refine aI ?_)
          refine vcStop.call0L Tryz.body27 hfc rfl rfl (And.intro (Leq.aggD [sgD b false]) trivial) ?_
          simp -dsimp
          repeat (first | apply wS | apply wB | ((first | apply wR | apply wD); simp -dsimp) | refine aI ?_)
          refine WP.loopWk (fun m S => ∃ j : Nat, m = B.length - j ∧ j ≤ B.length ∧ S = shS2 a b gs al i r (decide (r ∈ gs)) ((B.take j).all (noE r)) B j) B.length (S0 := shS2 a b gs al i r (decide (r ∈ gs)) ((B.take 0).all (noE r)) B 0) (Wk.lessE [] (by simp) (by simp)) ⟨0, rfl, by omega, rfl⟩ ?_
          rintro m _ ⟨k, rfl, hk, rfl⟩
          simp -dsimp
          repeat (first | apply wS | apply wB | ((first | apply wR | apply wD); simp -dsimp) | refine aI ?_)
          by_cases hkl : k < B.length
          · have hatk := fsC_at hkl
            have lB := fsC_len B
            have ek : IntKind.i64.wrap ((k : Int) + 1) = ((k + 1 : Nat) : Int) := by rw [IntWalk.i64_in _ (by omega)]; omega
            have htk : ((B.take (k + 1)).all (noE r)) = (((B.take k).all (noE r)) && noE r (fat B k)) := by
              rw [List.take_succ_eq_append_getElem hkl, List.all_append, show B[k] = fat B k by simp [fat, hkl]]
              simp
            generalize fat B k = x at hatk htk
            have hx : noE r x = (!decide (x 0 = r.1) || decide (x 1 < r.2)) := by simp [noE]
            rw [hx] at htk
            generalize ((B.take k).all (noE r)) = e at htk
            refine cT (by simp; omega) ?_
            refine WP.skip ?_
            simp -dsimp
            repeat (first | apply wS | apply wB | ((first | apply wR | apply wD); simp -dsimp [hatk]) | refine aI ?_)
            refine loopW.next (shS2 a b gs al i r (decide (r ∈ gs)) ((B.take (k + 1)).all (noE r)) B (k + 1)) (Wk.lessE [15] (by simp [ek, htk]) (by simp)) (B.length - (k + 1)) (by omega) ⟨k + 1, rfl, by omega, rfl⟩
          · have hge2 : B.take k = B := List.take_of_length_le (by omega)
            rw [hge2, hs]
            generalize (B.all (noE r)) = e
            refine cF (by simp; omega) ?_
            refine WP.exit ?_
            simp -dsimp
            repeat (first | apply wS | apply wB | ((first | apply wR | apply wD); simp -dsimp) | refine aI ?_)
            refine cF (by cases e <;> simp) ?_
            refine WP.skip ?_
            simp -dsimp
            repeat (first | apply wS | apply wB | ((first | apply wR | apply wD); simp -dsimp) | refine aI ?_)
            refine loopW.next (shS0 a b gs al (i + 1)) (Wk.lessE [7] (by simp [e1]) (by simp)) (al.length - (i + 1)) (by omega) ⟨i + 1, rfl, by omega, rfl⟩
    · refine cF (by simp; omega) ?_
      refine WP.exit ?_
      simp -dsimp
      repeat (first | apply wS | apply wB | ((first | apply wR | apply wD); simp -dsimp) | refine aI ?_)
      refine WP.ret (finQ.retE ?_)
      simp -dsimp
  · refine cT (by cases h1 : fewB a <;> cases h2 : fewB b <;> simp_all) ?_
    repeat (first | apply wS | apply wB | ((first | apply wR | apply wD); simp -dsimp) | refine aI ?_)
    refine WP.ret (finQ.retE ?_)
    simp -dsimp
end Go.Proofs.YtpamincphlfhlaaGreatDoor
