/-
  Crews: CrewsForks, walked.
-/
import Derived.Test.YtnljenjcaeophaaGreatDoorMXc
import Derived.Test.YtnljenjcaeophaaGreatDoorMXd
import Derived.Test.YtnljenjcaeophaaGreatDoorMXe
set_option linter.unusedVariables false
set_option linter.unusedSimpArgs false
set_option linter.unusedSectionVars false
namespace Go.Proofs.YtnljenjcaeophaaGreatDoor
open Go.Xe Go.RowKit
set_option maxRecDepth 10000 in
set_option maxHeartbeats 16000000 in
theorem law_forks (l : List Sg) (hl : ∀ p ∈ l, sgOk p) (hu : ∀ p ∈ l, sgU p) (hn : l.length ≤ 1000000000000) : Fn0 Tryz.prog 8 [sgD l false] (.v (.bool true)) := by
 refine Fun.of_wp (pn := noPn) Tryz.tab Tryz.func8 rfl fun β0 => ?_
 simp only [Tryz.f8]
 repeat(first|apply wG|(apply wR;simp -dsimp)|refine aI ?_)
 refine vcStop.call0 Tryz.body26 sane13_ok rfl rfl (by simp) ?_
 simp -dsimp
 repeat(first|apply wG|(apply wR;simp -dsimp)|refine aI ?_)
 refine cF (by simp) ?_
 refine WP.skip ?_
 simp -dsimp
 repeat(first|apply wG|(apply wR;simp -dsimp)|refine aI ?_)
 refine vcStop.call0L Tryz.body32 (few13T_ok l false 10 hl (fun p hp => sgU_F (hu p hp)) hn) rfl rfl (And.intro (.refl _) (And.intro (.refl _) trivial)) ?_
 simp -dsimp
 repeat(first|apply wG|(apply wR;simp -dsimp)|refine aI ?_)
 by_cases hfw : l.length ≤ 10 ∧ l.all shrtT = true
 ·obtain ⟨hla, has⟩ := hfw
  have hT : ∀ p ∈ l, sgT p := fun p hp => sgU_T (hu p hp) (List.all_eq_true.1 has p hp)
  refine cF (by simp [hla, has]) ?_
  refine WP.skip ?_
  simp -dsimp
  repeat(first|apply wG|(apply wR;simp -dsimp)|refine aI ?_)
  refine vcStop.call0L Tryz.body37 (forks_ok l false hl (by omega)) rfl rfl (And.intro (.refl _) trivial) ?_
  have hfo : ∀ s ∈ l, fOk s.1 := fun s hs => (hl s hs).1
  have hP : ∀ q ∈ frkL l, (q.1 ∈ l ∧ q.2 ∈ l) ∧ (vS2 q.1 = true ∧ vS2 q.2 = true) ∧ refS q.1 = refS q.2 ∧ cmpF q.1.1 q.2.1 < 0 := fun q hq => frk_pair hfo hq
  have hA := frk_asc hfo
  have hF : ∀ s ∈ l, ∀ t ∈ l, frkB s.1 t.1 = true → ∃ q ∈ frkL l, frP s t q := fun s hs t ht h => by
   obtain ⟨⟨v1, v2⟩, hr, hne⟩ := frkB_iff (hfo s hs) (hfo t ht) h
   obtain ⟨q, hq, h1, h2, h3⟩ := frk_found hfo hs ht v1 v2 hr hne
   simp only [refS, refF, Prod.mk.injEq] at h1
   exact ⟨q, hq, h1.1, h1.2, h2, h3⟩
  have lw := frkw_len (a := l)
  generalize frkL l = w at hP hA hF lw
  have ow : ∀ q ∈ w, sgOk q.1 ∧ sgOk q.2 := fun q hq => ⟨hl _ (hP q hq).1.1, hl _ (hP q hq).1.2⟩
  have lC := fkC_len ow
  have lS := sgC_len hl
  simp -dsimp
  repeat(first|apply wG|(apply wR;simp -dsimp)|refine aI ?_)
  refine WP.loopWk (fun m S => ∃ i : Nat, m = w.length - i ∧ i ≤ w.length ∧ S = cfO l w i) w.length (S0 := cfO l w 0) (Wk.lessE [] (by simp) (by simp)) ⟨0, rfl, by omega, rfl⟩ ?_
  rintro m _ ⟨i, rfl, hi, rfl⟩
  simp -dsimp
  repeat(first|apply wG|(apply wR;simp -dsimp)|refine aI ?_)
  by_cases hil : i < w.length
  ·have x1 := fkC_at ow hil
   have o1 := ow w[i] (List.getElem_mem _)
   obtain ⟨⟨hm1, hm2⟩, ⟨v1, v2⟩, hr12, hcm⟩ := hP w[i] (List.getElem_mem _)
   have hasc : 0 < i → ltR (refS (w[i - 1]'(by omega)).1) (refS w[i].1) := fun h0 => by
    have h := List.pairwise_iff_getElem.1 hA (i - 1) i (by rw [List.length_map]; omega) (by rw [List.length_map]; omega) (by omega)
    rw [List.getElem_map, List.getElem_map] at h
    exact h
   have e1 : IntKind.i64.wrap ((i : Int) + 1) = ((i + 1 : Nat) : Int) := by rw [IntWalk.i64_in _ (by omega)]; omega
   have f1 := o1.1.1
   have f2 := o1.2.1
   have hfk := frkB_pair v1 v2 f1 f2 hr12 hcm
   have u1 := forked13_ok w[i].1.1 w[i].2.1 f1 f2
   rw [hfk] at u1
   have u2 := factsCompare_ok w[i].1.1 w[i].2.1 f1 f2
   generalize hq : w[i] = q at *
   have lf := fkc_len o1.1 o1.2
   have fo := fkc_one o1.1 o1.2
   have lt : List.take 122 (fkc q) = fkc q := List.take_of_length_le (by omega)
   have c1 : List.take 61 ((fkc q).map AV.d) = (sgc q.1).map .d := by
    rw [fkc, List.map_append, List.take_left' (by rw [List.length_map, sgc_len o1.1])]
   have c2 : List.take 61 (List.drop 61 ((fkc q).map AV.d)) = (sgc q.2).map .d := by
    rw [fkc, List.map_append, List.drop_left' (by rw [List.length_map, sgc_len o1.1]), List.take_of_length_le (by rw [List.length_map, sgc_len o1.2]; omega)]
   have z1 : List.take 57 ((fkc q).map AV.d) = (fcs q.1.1 0 57).map .d := by
    rw [fkc, List.map_append, List.take_append_of_le_length (by rw [List.length_map, sgc_len o1.1]; decide), sgc_57]
   have z2 : List.take 57 (List.drop 61 ((fkc q).map AV.d)) = (fcs q.2.1 0 57).map .d := by
    rw [fkc, List.map_append, List.drop_left' (by rw [List.length_map, sgc_len o1.1]), sgc_57]
   refine cT (by simp; omega) ?_
   refine WP.skip ?_
   simp -dsimp
   repeat(first|apply wG|(apply wR;simp -dsimp [x1, lf, lt])|refine aI ?_)
   refine WP.loopWk (fun m S => ∃ (l1 l2 : List Sg) (a b : Bool), l = l1 ++ l2 ∧ m = l2.length ∧ (q.1 ∈ l1 → a = true) ∧ (q.2 ∈ l1 → b = true) ∧ S = cfI l w i q l1.length a b) l.length (S0 := cfI l w i q 0 false false) (Wk.lessE [] (by simp) (by simp)) ⟨[], l, false, false, rfl, rfl, (fun h => by cases h), (fun h => by cases h), rfl⟩ ?_
   rintro _ _ ⟨l1, l2, a, b, hl12, rfl, ha, hb, rfl⟩
   simp -dsimp
   repeat(first|apply wG|(apply wR;simp -dsimp)|refine aI ?_)
   cases l2 with
   | cons p l2 =>
    have hll : l.length = l1.length + (l2.length + 1) := by rw [hl12]; simp
    have hlt : l1.length < l.length := by omega
    have hpl : p ∈ l := by rw [hl12]; simp
    have hp := hl p hpl
    have hat := sgc_at hlt hl
    have hpe : l[l1.length] = p := by simp [hl12]
    rw [hpe] at hat
    have lp := sgc_len hp
    have tp := sgc_tm hp
    have tt := sgc_t hp
    have e2 : IntKind.i64.wrap ((l1.length : Int) + 1) = (l1.length : Int) + 1 := IntWalk.i64_in _ (by omega)
    obtain ⟨r1, k1, hr1⟩ := sameSgU_ok p q.1 hp o1.1 (hT p hpl) (hT _ hm1)
    obtain ⟨r2, k2, hr2⟩ := sameSgU_ok p q.2 hp o1.2 (hT p hpl) (hT _ hm2)
    have na : q.1 ∈ l1 ++ [p] → (a || r1) = true := fun h => by
     rcases List.mem_append.1 h with h | h
     ·rw [ha h]; rfl
     ·rw [hr1 (List.mem_singleton.1 h).symm]; simp
    have nb : q.2 ∈ l1 ++ [p] → (b || r2) = true := fun h => by
     rcases List.mem_append.1 h with h | h
     ·rw [hb h]; rfl
     ·rw [hr2 (List.mem_singleton.1 h).symm]; simp
    refine cT (by simp; omega) ?_
    refine WP.skip ?_
    simp -dsimp
    cases a with
    | true =>
     repeat(first|apply wG|(apply wR;simp -dsimp [hat, lp, tp, c1, c2, lf])|refine aI ?_)
     refine vcStopG.skip (.d (.v (.bool false))) ?_
     cases b with
     | true =>
      simp -dsimp
      repeat(first|apply wG|(apply wR;simp -dsimp [hat, lp, tp, c1, c2, lf])|refine aI ?_)
      refine vcStopG.skip (.d (.v (.bool false))) ?_
      simp -dsimp
      repeat(first|apply wG|(apply wR;simp -dsimp)|refine aI ?_)
      refine loopW.next (cfI l w i q (l1 ++ [p]).length true true) (Wk.lessE [] (by simp [e2]) (by simp)) l2.length (by simp) ⟨l1 ++ [p], l2, true, true, by simp [hl12], rfl, fun _ => rfl, fun _ => rfl, rfl⟩
     | false =>
      simp -dsimp
      repeat(first|apply wG|(apply wR;simp -dsimp [hat, lp, tp, c1, c2, lf])|refine aI ?_)
      refine vcStopG.call0L Tryz.body31 (fun _ => k2) rfl (fun _ => rfl) (fun _ => And.intro (by simp [sgV, hat, tt, tp, lp]; try exact Leq.aggD _) (And.intro (by simp [sgV, c2]; try exact Leq.aggD _) trivial)) ?_
      simp -dsimp
      repeat(first|apply wG|(apply wR;simp -dsimp)|refine aI ?_)
      refine loopW.next (cfI l w i q (l1 ++ [p]).length true r2) (Wk.lessE [] (by simp [e2]) (by simp)) l2.length (by simp) ⟨l1 ++ [p], l2, true, r2, by simp [hl12], rfl, fun _ => rfl, (fun h => by simpa using nb h), rfl⟩
    | false =>
     repeat(first|apply wG|(apply wR;simp -dsimp [hat, lp, tp, c1, c2, lf])|refine aI ?_)
     refine vcStopG.call0L Tryz.body31 (fun _ => k1) rfl (fun _ => rfl) (fun _ => And.intro (by simp [sgV, hat, tt, tp, lp]; try exact Leq.aggD _) (And.intro (by simp [sgV, c1]; try exact Leq.aggD _) trivial)) ?_
     cases b with
     | true =>
      simp -dsimp
      repeat(first|apply wG|(apply wR;simp -dsimp [hat, lp, tp, c1, c2, lf])|refine aI ?_)
      refine vcStopG.skip (.d (.v (.bool false))) ?_
      simp -dsimp
      repeat(first|apply wG|(apply wR;simp -dsimp)|refine aI ?_)
      refine loopW.next (cfI l w i q (l1 ++ [p]).length r1 true) (Wk.lessE [] (by simp [e2]) (by simp)) l2.length (by simp) ⟨l1 ++ [p], l2, r1, true, by simp [hl12], rfl, (fun h => by simpa using na h), fun _ => rfl, rfl⟩
     | false =>
      simp -dsimp
      repeat(first|apply wG|(apply wR;simp -dsimp [hat, lp, tp, c1, c2, lf])|refine aI ?_)
      refine vcStopG.call0L Tryz.body31 (fun _ => k2) rfl (fun _ => rfl) (fun _ => And.intro (by simp [sgV, hat, tt, tp, lp]; try exact Leq.aggD _) (And.intro (by simp [sgV, c2]; try exact Leq.aggD _) trivial)) ?_
      simp -dsimp
      repeat(first|apply wG|(apply wR;simp -dsimp)|refine aI ?_)
      refine loopW.next (cfI l w i q (l1 ++ [p]).length r1 r2) (Wk.lessE [] (by simp [e2]) (by simp)) l2.length (by simp) ⟨l1 ++ [p], l2, r1, r2, by simp [hl12], rfl, (fun h => by simpa using na h), (fun h => by simpa using nb h), rfl⟩
   | nil =>
    simp only [List.append_nil] at hl12
    subst hl12
    obtain rfl := ha hm1
    obtain rfl := hb hm2
    have hd : decide (0 ≤ cmpF q.1.1 q.2.1) = false := by rw [decide_eq_false_iff_not]; omega
    refine cF (by simp) ?_
    refine WP.exit ?_
    simp -dsimp
    repeat(first|apply wG|(apply wR;simp -dsimp [z1, z2, lf])|refine aI ?_)
    refine vcStopG.call0L Tryz.body38 (fun _ => u1) rfl (fun _ => rfl) (fun _ => And.intro (by simp [fD, z1]; try exact Leq.aggD _) (And.intro (by simp [fD, z2]; try exact Leq.aggD _) trivial)) ?_
    simp -dsimp
    repeat(first|apply wG|(apply wR;simp -dsimp [z1, z2, lf])|refine aI ?_)
    refine vcStopG.call0L Tryz.body39 (fun _ => u2) rfl (fun _ => rfl) (fun _ => And.intro (by simp [fD, z1]; try exact Leq.aggD _) (And.intro (by simp [fD, z2]; try exact Leq.aggD _) trivial)) ?_
    simp -dsimp
    repeat(first|apply wG|(apply wR;simp -dsimp)|refine aI ?_)
    refine cF (by simp [hd]; try omega) ?_
    refine WP.skip ?_
    simp -dsimp
    rcases Nat.eq_zero_or_pos i with rfl | h0
    ·refine WP.weak (S' := cfI l w 0 q l.length true true) (Wk.lessE [] (by simp) (by simp)) ?_
     refine p17_zero ow hil hq fun S' hw => ?_
     refine WP.weak hw ?_
     simp -dsimp
     repeat(first|apply wG|(apply wR;simp -dsimp)|refine aI ?_)
     refine loopW.next (cfO l w (0 + 1)) (Wk.lessE [5, 6, 7, 8] (by simp [show IntKind.i64.wrap 1 = 1 by decide]) (by simp)) (w.length - (0 + 1)) (by omega) ⟨0 + 1, rfl, by omega, rfl⟩
    ·refine WP.weak (S' := cfI l w i q l.length true true) (Wk.lessE [] (by simp) (by simp)) ?_
     refine p17_pos h0 ow hil hq rfl (by omega) (hasc h0) fun S' hw => ?_
     refine WP.weak hw ?_
     simp -dsimp
     repeat(first|apply wG|(apply wR;simp -dsimp)|refine aI ?_)
     refine loopW.next (cfO l w (i + 1)) (Wk.lessE [5, 6, 7, 8] (by simp [e1]) (by simp)) (w.length - (i + 1)) (by omega) ⟨i + 1, rfl, by omega, rfl⟩
  ·refine cF (by simp; omega) ?_
   refine WP.exit ?_
   simp -dsimp
   repeat(first|apply wG|(apply wR;simp -dsimp)|refine aI ?_)
   refine WP.loopWk (fun m S => ∃ i : Nat, m = l.length - i ∧ i ≤ l.length ∧ S = cfL l w i) l.length (S0 := cfL l w 0) (Wk.lessE [4] (by simp) (by simp)) ⟨0, rfl, by omega, rfl⟩ ?_
   rintro m _ ⟨i, rfl, hi2, rfl⟩
   simp -dsimp
   repeat(first|apply wG|(apply wR;simp -dsimp)|refine aI ?_)
   by_cases hil2 : i < l.length
   ·have hs := sgc_at hil2 hl
    have hsl := List.getElem_mem hil2
    have hFs := hF l[i] hsl
    have os := hl l[i] hsl
    generalize hs0 : l[i] = s at hs hsl hFs os
    have ls := sgc_len os
    have s57 := sgc_57D s
    have s57m := sgc_57 s
    have i1 : IntKind.i64.wrap ((i : Int) + 1) = ((i + 1 : Nat) : Int) := by rw [IntWalk.i64_in _ (by omega)]; omega
    refine cT (by simp; omega) ?_
    refine WP.skip ?_
    simp -dsimp
    repeat(first|apply wG|(apply wR;simp -dsimp)|refine aI ?_)
    refine WP.loopWk (fun m S => ∃ k : Nat, m = i - k ∧ k ≤ i ∧ S = cfK l w i k) i (S0 := cfK l w i 0) (Wk.lessE [] (by simp) (by simp)) ⟨0, rfl, by omega, rfl⟩ ?_
    rintro m _ ⟨k, rfl, hk, rfl⟩
    simp -dsimp
    repeat(first|apply wG|(apply wR;simp -dsimp)|refine aI ?_)
    by_cases hki : k < i
    ·have hkl : k < l.length := by omega
     have ht := sgc_at hkl hl
     have htl := List.getElem_mem hkl
     have hFt := hFs l[k] htl
     have ot := hl l[k] htl
     generalize ht0 : l[k] = t at ht htl hFt ot
     have lt := sgc_len ot
     have t57 := sgc_57D t
     have t57m := sgc_57 t
     have k1 : IntKind.i64.wrap ((k : Int) + 1) = ((k + 1 : Nat) : Int) := by rw [IntWalk.i64_in _ (by omega)]; omega
     have u := forked13_ok s.1 t.1 os.1 ot.1
     refine cT (by simp; omega) ?_
     refine WP.skip ?_
     simp -dsimp
     repeat(first|apply wG|(apply wR;simp -dsimp [hs, ht, ls, lt, s57, t57])|refine aI ?_)
     refine vcStop.call0L Tryz.body38 u rfl rfl (And.intro (by simp [fD, s57]; try exact Leq.aggD _) (And.intro (by simp [fD, t57]; try exact Leq.aggD _) trivial)) ?_
     simp -dsimp
     repeat(first|apply wG|(apply wR;simp -dsimp)|refine aI ?_)
     cases hfb : frkB s.1 t.1 with
     | false =>
      refine cT (by simp [hfb]) ?_
      refine WP.exit ?_
      simp -dsimp
      repeat(first|apply wG|(apply wR;simp -dsimp)|refine aI ?_)
      refine loopW.next (cfK l w i (k + 1)) (Wk.lessE [] (by simp [k1]) (by simp)) (i - (k + 1)) (by omega) ⟨k + 1, rfl, by omega, rfl⟩
     | true =>
      obtain ⟨q0, hq0, hfp⟩ := hFt hfb
      refine cF (by simp [hfb]) ?_
      refine WP.skip ?_
      simp -dsimp
      repeat(first|apply wG|(apply wR;simp -dsimp)|refine aI ?_)
      refine WP.loopWk (fun m S => ∃ (w1 w2 : List (Sg × Sg)) (fd : Bool), w = w1 ++ w2 ∧ m = w2.length ∧ (q0 ∈ w1 → fd = true) ∧ S = cfM l w i k fd w1.length) w.length (S0 := cfM l w i k false 0) (Wk.lessE [] (by simp) (by simp)) ⟨[], w, false, rfl, rfl, (fun h => by cases h), rfl⟩ ?_
      rintro _ _ ⟨w1, w2, fd, hw12, rfl, hfd, rfl⟩
      simp -dsimp
      repeat(first|apply wG|(apply wR;simp -dsimp)|refine aI ?_)
      cases w2 with
      | nil =>
       simp only [List.append_nil] at hw12
       subst hw12
       obtain rfl := hfd hq0
       refine cF (by simp) ?_
       refine WP.exit ?_
       simp -dsimp
       repeat(first|apply wG|(apply wR;simp -dsimp)|refine aI ?_)
       refine cF (by simp) ?_
       refine WP.skip ?_
       simp -dsimp
       repeat(first|apply wG|(apply wR;simp -dsimp)|refine aI ?_)
       refine loopW.next (cfK l w i (k + 1)) (Wk.lessE [11, 12] (by simp [k1]) (by simp)) (i - (k + 1)) (by omega) ⟨k + 1, rfl, by omega, rfl⟩
      | cons q w2 =>
       have hwl : w.length = w1.length + (w2.length + 1) := by rw [hw12]; simp
       have hwt : w1.length < w.length := by omega
       have xq := fkC_at ow hwt
       have hqe : w[w1.length] = q := by simp [hw12]
       rw [hqe] at xq
       have oq := ow q (by rw [hw12]; simp)
       have lq := fkc_len oq.1 oq.2
       have q57 : List.take 57 (fkc q) = fcs q.1.1 0 57 := by
        rw [fkc, List.take_append_of_le_length (by rw [sgc_len oq.1]; decide), sgc_57D]
       have m1 : IntKind.i64.wrap ((w1.length : Int) + 1) = (w1.length : Int) + 1 := IntWalk.i64_in _ (by omega)
       have hnew : ∀ b : Bool, (frP s t q → b = true) → (q0 ∈ w1 ++ [q] → (fd || b) = true) := fun b hb h => by
        rcases List.mem_append.1 h with h | h
        ·rw [hfd h]; rfl
        ·rw [hb (by rw [← List.mem_singleton.1 h]; exact hfp)]; simp
       refine cT (by simp; omega) ?_
       refine WP.skip ?_
       simp -dsimp
       repeat(first|apply wG|(apply wR;simp -dsimp [xq, lq, q57])|refine aI ?_)
       cases fd with
       | true =>
        refine WP.weak (S' := cfN l w i k true w1.length q) (Wk.lessE [] (by simp) (by simp)) ?_
        refine p31_yes hl hil2 hkl hs0 ht0 oq.1.1 fun S' hw => ?_
        refine WP.weak hw ?_
        simp -dsimp
        repeat(first|apply wG|(apply wR;simp -dsimp)|refine aI ?_)
        refine loopW.next (cfM l w i k true (w1 ++ [q]).length) (Wk.lessE [13] (by simp [m1]) (by simp)) w2.length (by simp) ⟨w1 ++ [q], w2, true, by simp [hw12], rfl, fun _ => rfl, rfl⟩
       | false =>
        refine WP.weak (S' := cfN l w i k false w1.length q) (Wk.lessE [] (by simp) (by simp)) ?_
        by_cases e0 : q.1.1 0 = s.1 0
        ·by_cases e1 : q.1.1 1 = s.1 1
         ·by_cases c1 : cmpF q.1.1 s.1 ≤ 0
          ·refine p31_all hl hil2 hkl hs0 ht0 oq.1.1 e0 e1 c1 fun S' hw => ?_
           refine WP.weak hw ?_
           simp -dsimp
           repeat(first|apply wG|(apply wR;simp -dsimp)|refine aI ?_)
           refine loopW.next (cfM l w i k (decide (cmpF q.1.1 t.1 ≤ 0)) (w1 ++ [q]).length) (Wk.lessE [13] (by simp [m1]) (by simp)) w2.length (by simp) ⟨w1 ++ [q], w2, _, by simp [hw12], rfl, (fun h => by simpa using hnew (decide (cmpF q.1.1 t.1 ≤ 0)) (fun h => decide_eq_true h.2.2.2) h), rfl⟩
          ·refine p31_no2 hl hil2 hkl hs0 ht0 oq.1.1 e0 e1 c1 fun S' hw => ?_
           refine WP.weak hw ?_
           simp -dsimp
           repeat(first|apply wG|(apply wR;simp -dsimp)|refine aI ?_)
           refine loopW.next (cfM l w i k false (w1 ++ [q]).length) (Wk.lessE [13] (by simp [m1]) (by simp)) w2.length (by simp) ⟨w1 ++ [q], w2, false, by simp [hw12], rfl, (fun h => by simpa using hnew false (fun h => absurd h.2.2.1 c1) h), rfl⟩
         ·refine p31_no1 hl hil2 hkl hs0 ht0 oq.1.1 e0 e1 fun S' hw => ?_
          refine WP.weak hw ?_
          simp -dsimp
          repeat(first|apply wG|(apply wR;simp -dsimp)|refine aI ?_)
          refine loopW.next (cfM l w i k false (w1 ++ [q]).length) (Wk.lessE [13] (by simp [m1]) (by simp)) w2.length (by simp) ⟨w1 ++ [q], w2, false, by simp [hw12], rfl, (fun h => by simpa using hnew false (fun h => absurd h.2.1 e1) h), rfl⟩
        ·refine p31_no0 hl hil2 hkl hs0 ht0 oq.1.1 e0 fun S' hw => ?_
         refine WP.weak hw ?_
         simp -dsimp
         repeat(first|apply wG|(apply wR;simp -dsimp)|refine aI ?_)
         refine loopW.next (cfM l w i k false (w1 ++ [q]).length) (Wk.lessE [13] (by simp [m1]) (by simp)) w2.length (by simp) ⟨w1 ++ [q], w2, false, by simp [hw12], rfl, (fun h => by simpa using hnew false (fun h => absurd h.1 e0) h), rfl⟩
    ·refine cF (by simp; omega) ?_
     refine WP.exit ?_
     simp -dsimp
     repeat(first|apply wG|(apply wR;simp -dsimp)|refine aI ?_)
     refine loopW.next (cfL l w (i + 1)) (Wk.lessE [10] (by simp [i1]) (by simp)) (l.length - (i + 1)) (by omega) ⟨i + 1, rfl, by omega, rfl⟩
   ·refine cF (by simp; omega) ?_
    refine WP.exit ?_
    simp -dsimp
    repeat(first|apply wG|(apply wR;simp -dsimp)|refine aI ?_)
    refine WP.ret (finQ.retE ?_)
    simp -dsimp
 ·refine WP.cond (b := true) (by
   cases h2 : l.all shrtT
   ·simp
   ·have : ¬ l.length ≤ 10 := fun h1 => hfw ⟨h1, h2⟩
    simp; omega) (fun _ => ?_) (fun h => by cases h)
  repeat(first|apply wG|(apply wR;simp -dsimp)|refine aI ?_)
  refine WP.ret (finQ.retE ?_)
  simp -dsimp
end Go.Proofs.YtnljenjcaeophaaGreatDoor
