/-
  Evidence: EvidenceFindSpec, walked.
-/
import Derived.Test.YtadfkiigjnbdgaaGreatDoorKVe
import Derived.Test.YtadfkiigjnbdgaaGreatDoorKVh
set_option linter.unusedSectionVars false
set_option linter.unusedSimpArgs false
set_option linter.unusedVariables false
namespace Go.Proofs.YtadfkiigjnbdgaaGreatDoor
open Go.Xe Go.RowKit

theorem few_factsF {l : List Sg} (h : fewB l = true) : l.length ≤ 10 ∧ (∀ p ∈ l, p.1 1 ≤ 200) ∧ ∀ p ∈ l, shrtB p = true := by
  simp only [fewB, Bool.and_eq_true, List.all_eq_true, decide_eq_true_eq] at h
  exact ⟨h.2.1, fun p hp => by have := h.1 p hp; simpa [noB] using this, h.2.2⟩
theorem fnd_self {a b : List Sg} (ha : ∀ p ∈ a, sgOk p) (hb : ∀ p ∈ b, sgOk p) (hfa : ∀ p ∈ a, sgG p) (hfb : ∀ p ∈ b, sgG p) (hsa : ∀ p ∈ a, shrtB p = true) (hsb : ∀ p ∈ b, shrtB p = true) (r : R2) :
    Fn0 Tryz.prog 39 [.agg (fndR a b r).1.2, .agg (fndR a b r).1.2] (.v (.bool true)) ∧ Fn0 Tryz.prog 39 [.agg (fndR a b r).2.2, .agg (fndR a b r).2.2] (.v (.bool true)) := by
  rw [fndR]
  cases h : fndO a b r with
  | none => exact ⟨sameZs_ok, sameZs_ok⟩
  | some q =>
    have key : ∀ p ∈ a ++ b, Fn0 Tryz.prog 39 [.agg p.2, .agg p.2] (.v (.bool true)) := fun p hp => by
      rcases List.mem_append.1 hp with h | h
      · exact sameSig_ok p (hfa p h) (hsa p h)
      · exact sameSig_ok p (hfb p h) (hsb p h)
    obtain ⟨h1, h2, _⟩ := two_ok (fun s hs => by
      rcases List.mem_append.1 hs with h | h
      · exact (ha s h).1
      · exact (hb s h).1) (a := q.1) (b := q.2) h
    exact ⟨key _ (fstO_in h1), key _ (fstO_in h2)⟩
abbrev fiB (a b : List Sg) (r : R2) : Bxs := [(3, .cells 24 [.d (sgD a false)]), (4, .cells 24 [.d (sgD b false)]), (5, .cells 26 [.d (.v (.int .i64 r.1)), .d (.v (.int .i64 r.2))])]
abbrev fiS (a b : List Sg) (r : R2) (Z : List R2) (i : Nat) : St := mkS 74 [(3, .ptr 3 0), (4, .ptr 4 0), (5, .ptr 5 0), (7, .row 503), (29, .d (sgD a false)), (30, .d (.v (.int .i64 a.length))), (31, .d (.v (.int .i64 i)))] (fiB a b r ++ [(503, rfB Z)])
abbrev fjS (a b : List Sg) (r : R2) (Z : List R2) (j : Nat) : St := mkS 74 [(3, .ptr 3 0), (4, .ptr 4 0), (5, .ptr 5 0), (42, .d (slR Z)), (43, .d (.v (.int .i64 Z.length))), (44, .d (.v (.int .i64 j)))] (fiB a b r)
set_option maxRecDepth 10000 in
set_option maxHeartbeats 4000000 in
theorem law_find (a b : List Sg) (r0 : R2) (ha : ∀ p ∈ a, sgOk p) (hb : ∀ p ∈ b, sgOk p) (hfa : ∀ p ∈ a, sgG p) (hfb : ∀ p ∈ b, sgG p) (hna : a.length ≤ 1000000000000) (hnb : b.length ≤ 1000000000000) (hr1 : isI r0.1) (hr2 : isI r0.2) :
    Fn0 Tryz.prog 3 [lgD a false, lgD b false, rfD r0] (.v (.bool true)) := by
  refine Fun.of_wp (pn := noPn) Tryz.tab Tryz.func3 rfl fun β0 => ?_
  simp only [Tryz.f3]
  repeat (first | apply wG | (apply wR; simp -dsimp) | refine aI ?_)
  refine vcStop.call0 Tryz.body4 sane_ok rfl rfl (by simp) ?_
  simp -dsimp
  repeat (first | apply wG | (apply wR; simp -dsimp) | refine aI ?_)
  refine cF (by simp) ?_
  refine WP.skip ?_
  simp -dsimp
  repeat (first | apply wG | (apply wR; simp -dsimp) | refine aI ?_)
  refine vcStop.call0L Tryz.body5 (few_ok a false ha (fun p hp => sgG_F (hfa p hp)) hna) rfl rfl (And.intro (Leq.aggD [sgD a false]) trivial) ?_
  simp -dsimp
  repeat (first | apply wG | (apply wR; simp -dsimp) | refine aI ?_)
  refine vcStopG.call0L Tryz.body5 (fun _ => few_ok b false hb (fun p hp => sgG_F (hfb p hp)) hnb) rfl (fun _ => rfl) (fun hg => And.intro (by simp [hg] <;> exact Leq.aggD [sgD b false]) trivial) ?_
  simp -dsimp
  repeat (first | apply wG | (apply wR; simp -dsimp) | refine aI ?_)
  by_cases hfw : fewB a = true ∧ fewB b = true
  · obtain ⟨hwa, hwb⟩ := hfw
    obtain ⟨hla, hnoa, hsa⟩ := few_factsF hwa
    obtain ⟨hlb, hnob, hsb⟩ := few_factsF hwb
    have hsl := sgC_len ha
    refine cF (by simp [hwa, hwb]) ?_
    refine WP.skip ?_
    simp -dsimp
    repeat (first | apply wG | (apply wR; simp -dsimp) | refine aI ?_)
    refine WP.loopWk (fun m S => ∃ l1 l2, a = l1 ++ l2 ∧ m = l2.length ∧ S = fiS a b r0 (r0 :: l1.map refS) l1.length) a.length (S0 := fiS a b r0 [r0] 0) (Wk.go [] 27 503 (by decide) (by simp) (by simp) (by simp [rfC])) ⟨[], a, rfl, rfl, rfl⟩ ?_
    rintro _ _ ⟨l1, l2, hl12, rfl, rfl⟩
    simp -dsimp
    repeat (first | apply wG | (apply wR; simp -dsimp) | refine aI ?_)
    cases l2 with
    | cons p l2 =>
      have hll : a.length = l1.length + (l2.length + 1) := by rw [hl12]; simp
      have hp := ha p (by rw [hl12]; simp)
      have lp := sgc_len hp
      have hi : l1.length < a.length := by omega
      have h1 := sgc_at hi ha
      have hre : a[l1.length] = p := by simp [hl12]
      rw [hre] at h1
      have tp := sgc_t hp
      have p57 := sgc_57 p
      have e1 : IntKind.i64.wrap ((l1.length : Int) + 1) = ((l1 ++ [p]).length : Nat) := by rw [IntWalk.i64_in _ (by omega)]; simp
      have hof := refOf2_ok p.1
      refine cT (by simp; omega) ?_
      refine WP.skip ?_
      simp -dsimp
      repeat (first | apply wG | (apply wR; simp -dsimp [h1, tp, lp]) | refine aI ?_)
      refine And.intro (sgc_oneD hp) ?_
      repeat (first | apply wG | (apply wR; simp -dsimp [p57]) | refine aI ?_)
      refine vcStop.call0L Tryz.body6 hof rfl rfl (And.intro (by simp [fD, p57]) trivial) ?_
      simp -dsimp
      repeat (first | apply wG | (apply wR; simp -dsimp) | refine aI ?_)
      have hcat : (rfC (r0 :: l1.map refS)).map AV.d ++ [.d (.v (.int .i64 (p.1 0))), .d (.v (.int .i64 (p.1 1)))] = (rfC (r0 :: (l1.map refS ++ [refS p]))).map .d := by simp [rfC, refS, refF]
      refine loopW.next (fiS a b r0 (r0 :: (l1 ++ [p]).map refS) (l1 ++ [p]).length) (Wk.go [9, 39, 503] 40 503 (by decide) (by simp) (by simp [e1]) (by simp [← hcat])) l2.length (by simp) ⟨l1 ++ [p], l2, by simp [hl12], rfl, rfl⟩
    | nil =>
      simp only [List.append_nil] at hl12
      subst hl12
      refine cF (by simp) ?_
      refine WP.exit ?_
      simp -dsimp
      repeat (first | apply wG | (apply wR; simp -dsimp) | refine aI ?_)
      have hZI : ∀ r ∈ r0 :: a.map refS, isI r.1 ∧ isI r.2 := fun r hr => by
        rcases List.mem_cons.1 hr with rfl | hr
        · exact ⟨hr1, hr2⟩
        · obtain ⟨p, hp, rfl⟩ := List.mem_map.1 hr
          exact ⟨(ha p hp).1.1 0, (ha p hp).1.1 1⟩
      have hZl : (r0 :: a.map refS).length = a.length + 1 := by simp
      have hZi : ((a.length : Int) + 1) = ((r0 :: a.map refS).length : Nat) := by rw [hZl]; omega
      rw [hZi]
      generalize r0 :: a.map refS = Z at hZI hZl
      refine WP.loopWk (fun m S => ∃ j : Nat, m = Z.length - j ∧ j ≤ Z.length ∧ S = fjS a b r0 Z j) Z.length (S0 := fjS a b r0 Z 0) ((Wk.lessE [] (S' := mkS 74 [(3, .ptr 3 0), (4, .ptr 4 0), (5, .ptr 5 0), (42, .row 503), (43, .d (.v (.int .i64 Z.length))), (44, .d (.v (.int .i64 0)))] (fiB a b r0 ++ [(503, rfB Z)])) (by simp) (by simp)).trans ((Wk.freeze (k := 503) (T := 26) (sz := 2) (n := Z.length) (ds := rfC Z) (by simp)).trans (Wk.lessE [] (by simp) (by simp)))) ⟨0, rfl, by omega, rfl⟩ ?_
      rintro _ _ ⟨j, rfl, hj, rfl⟩
      simp -dsimp
      repeat (first | apply wG | (apply wR; simp -dsimp) | refine aI ?_)
      by_cases hjl : j < Z.length
      · have hatj := rfC_at (x := Z) (i := j) hjl
        obtain ⟨z1, z2⟩ := hZI Z[j] (List.getElem_mem hjl)
        generalize Z[j] = r at hatj z1 z2
        have lz := rfC_len Z
        have ej : IntKind.i64.wrap ((j : Int) + 1) = ((j + 1 : Nat) : Int) := by rw [IntWalk.i64_in _ (by omega)]; omega
        obtain ⟨hq1, hq2⟩ := fndR_ok ha hb r
        have fl := fkc_len hq1 hq2
        have fo := fkc_one hq1 hq2
        have c1 := find_ok a b false false r ha hb (by omega) z1 z2
        have c2 := refFind_ok a b r ha hb (by omega) z1 z2
        have c3 := sameFk_ok (fndR a b r) hq1 hq2 (fnd_self ha hb hfa hfb hsa hsb r).1 (fnd_self ha hb hfa hfb hsa hsb r).2
        generalize fndR a b r = q at fl fo c1 c2 c3 hq1 hq2
        generalize (fndO a b r).isSome = o at c1 c2
        have e0 : fkC [q] = fkc q := by simp [fkC]
        have t0 : List.take 122 (fkc q) = fkc q := List.take_of_length_le (by omega)
        refine cT (by simp; omega) ?_
        refine WP.skip ?_
        simp -dsimp
        repeat (first | apply wG | (apply wR; simp -dsimp [hatj]) | refine aI ?_)
        refine vcStop.call0L Tryz.body7 c1 rfl rfl (And.intro (Leq.aggD [sgD a false]) (And.intro (Leq.aggD [sgD b false]) (And.intro (Leq.aggD [.v (.int .i64 r.1), .v (.int .i64 r.2)]) trivial))) ?_
        simp -dsimp [fl]
        repeat (first | apply wG | (apply wR; simp -dsimp [fl]) | refine aI ?_)
        refine vcStop.call0L Tryz.body8 c2 rfl rfl (And.intro (Leq.aggD [sgD a false]) (And.intro (Leq.aggD [sgD b false]) (And.intro (Leq.aggD [.v (.int .i64 r.1), .v (.int .i64 r.2)]) trivial))) ?_
        simp -dsimp [fl]
        repeat (first | apply wG | (apply wR; simp -dsimp [fl]) | refine aI ?_)
        have tm : List.take 122 ((fkc q).map AV.d) = (fkc q).map .d := by rw [← List.map_take, t0]
        have hset : ∀ cs : List AV, cs.length = 122 → setL cs 0 ((fkc q).map AV.d) = (fkc q).map .d := fun cs hc => by
          rw [setL_eq _ _ _ (by rw [List.length_map]; omega), List.take_zero, List.nil_append, List.length_map, List.drop_of_length_le (by omega), List.append_nil]
        have honeC : ∀ c ∈ List.take 122 ((fkc q).map AV.d), oneA c = true := fun c hc => by
          obtain ⟨d, hd, rfl⟩ := List.mem_map.1 (List.mem_of_mem_take hc)
          exact fo d hd
        refine vcStopG.buildData Tryz.tab (ds := fkc q) rfl rfl rfl rfl (by simp [tm, hset]) (by decide) (by decide) (by simp [fl]; exact honeC) ?_
        simp -dsimp
        repeat (first | apply wG | (apply wR; simp -dsimp [fl]) | refine aI ?_)
        refine vcStopG.buildData Tryz.tab (ds := fkc q) rfl rfl rfl rfl (by simp [tm, hset]) (by decide) (by decide) (by simp [fl]; exact honeC) ?_
        simp -dsimp
        repeat (first | apply wG | (apply wR; simp -dsimp [fl]) | refine aI ?_)
        refine vcStopG.call0L Tryz.body9 (fun _ => c3) rfl (fun _ => rfl) (fun _ => And.intro (by simp [slK, e0]) (And.intro (by simp [slK, e0]) trivial)) ?_
        simp -dsimp
        repeat (first | apply wG | (apply wR; simp -dsimp) | refine aI ?_)
        refine cF (by simp) ?_
        refine WP.skip ?_
        simp -dsimp
        repeat (first | apply wG | (apply wR; simp -dsimp) | refine aI ?_)
        refine loopW.next (fjS a b r0 Z (j + 1)) (Wk.lessE [11, 12, 14] (by simp [ej]) (by simp)) (Z.length - (j + 1)) (by omega) ⟨j + 1, rfl, by omega, rfl⟩
      · refine cF (by simp; omega) ?_
        refine WP.exit ?_
        simp -dsimp
        repeat (first | apply wG | (apply wR; simp -dsimp) | refine aI ?_)
        refine WP.ret (finQ.retE ?_)
        simp -dsimp
  · refine cT (by cases h1 : fewB a <;> cases h2 : fewB b <;> simp_all) ?_
    repeat (first | apply wG | (apply wR; simp -dsimp) | refine aI ?_)
    refine WP.ret (finQ.retE ?_)
    simp -dsimp
end Go.Proofs.YtadfkiigjnbdgaaGreatDoor
