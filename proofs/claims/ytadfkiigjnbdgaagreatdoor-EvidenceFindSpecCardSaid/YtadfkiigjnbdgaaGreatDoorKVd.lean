/-
  Forks: the reference's Forks.
-/
import Derived.Test.YtadfkiigjnbdgaaGreatDoorKVc
import Derived.Test.YtadfkiigjnbdgaaGreatDoorKM
set_option linter.unusedSectionVars false
set_option linter.unusedSimpArgs false
set_option linter.unusedVariables false
namespace Go.Proofs.YtadfkiigjnbdgaaGreatDoor
open Go.Xe Go.RowKit

def prvR (S : List Sg) : Option R2 := S.getLast?.map refS
theorem prvR_snoc (S : List Sg) (x : Sg) : prvR (S ++ [x]) = some (refS x) := by simp [prvR]
theorem fkd_bef {x y : Sg} (hx : fOk x.1) (hy : fOk y.1) (h : befB x y = true) : fkdB x.1 y.1 = decide (refS x = refS y) := by
  have he : eqF x.1 y.1 = false := by
    cases he : eqF x.1 y.1 with
    | false => rfl
    | true =>
      have e := (eqF_iff hx hy).1 he
      have h2 : befB y x = true := by
        rw [befB_iff] at h ⊢
        rw [refS, refS, e] at h
        rw [refS, refS, e]
        exact h
      exact absurd h2 (bef_asy h)
  rw [fkdB, he, Bool.not_false, Bool.and_true]
  rfl
abbrev fkS (l : List Sg) (b : Bool) (S : List Sg) (K : List (Sg × Sg)) (i : Nat) : St := mkS 61 [(0, .d (sgD l b)), (3, .d (sgD S false)), (4, .row 503), (5, .d (.v (.int .i64 i)))] [(503, .row 61 122 K.length ((fkC K).map .d))]
set_option maxRecDepth 10000 in
set_option maxHeartbeats 4000000 in
theorem forks13_ok (l : List Sg) (b : Bool) (hl : ∀ p ∈ l, sgOk p) (hn : l.length ≤ 1000) : Fn0 Tryz.prog 22 [sgD l b] (slK (frkL l)) := by
  have hso := sorted13_ok l b hl hn
  obtain ⟨hasc, hmem⟩ := srtB_ok l fun s hs => (hl s hs).1
  have hSk : ∀ s ∈ srtB l, sgOk s := fun s hs => hl s (fstO_in ((hmem s).1 hs))
  have hSn := Nat.le_trans (srtB_len l) hn
  rw [← frk_ref l fun s hs => (hl s hs).1]
  generalize srtB l = S at hso hasc hSk hSn
  refine Fun.of_wp (pn := noPn) Tryz.tab Tryz.func22 rfl fun β0 => ?_
  simp only [Tryz.f22]
  repeat (first | apply wG | (apply wR; simp -dsimp) | refine aI ?_)
  refine vcStop.call0L Tryz.body36 hso rfl rfl (And.intro (.refl _) trivial) ?_
  simp -dsimp
  repeat (first | apply wG | (apply wR; simp -dsimp) | refine aI ?_)
  refine WP.loopWk (fun m Z => ∃ S1 R K, S = S1 ++ R ∧ m = R.length ∧ K ++ pickA (prvR S1) R = pickA none S ∧ K.length ≤ S1.length ∧ Z = fkS l b S K S1.length) S.length (S0 := fkS l b S [] 0) (Wk.go [] 8 503 (by decide) (by simp) (by simp) (by simp [fkC])) ⟨[], S, [], rfl, rfl, rfl, Nat.le_refl _, rfl⟩ ?_
  rintro _ _ ⟨S1, R, K, hS, rfl, hK, hKl, rfl⟩
  have hSl : S.length = S1.length + R.length := by rw [hS]; simp
  simp -dsimp
  repeat (first | apply wG | (apply wR; simp -dsimp) | refine aI ?_)
  have e0 : IntKind.i64.wrap ((S1.length : Int) + 1) = ((S1.length + 1 : Nat) : Int) := by rw [IntWalk.i64_in _ (by omega)]; omega
  have hdone : R.length ≤ 1 → K = pickA none S := fun h => by
    rw [← hK]
    match R, h with
    | [], _ => cases prvR S1 <;> simp [pickA]
    | [x], _ => cases prvR S1 <;> simp [pickA]
  by_cases hR2 : R.length ≤ 1
  · have hKe := hdone hR2
    refine cF (by simp [e0]; omega) ?_
    refine WP.exit ?_
    simp -dsimp
    repeat (first | apply wG | (apply wR; simp -dsimp) | refine aI ?_)
    rw [← hKe]
    refine WP.ret (finQ.retWE (S' := mkS 61 [(2, .d (slK K))] []) (Wk.trans (Wk.lessE [] (S' := mkS 61 [(2, .row 503)] [(503, .row 61 122 K.length ((fkC K).map .d))]) (by simp) (by simp)) (Wk.trans (Wk.freeze (k := 503) (T := 61) (sz := 122) (n := K.length) (ds := fkC K) (by simp)) (Wk.lessE [] (by simp) (by simp)))) ?_)
    simp -dsimp
  · refine cT (by simp [e0]; omega) ?_
    refine WP.skip ?_
    match R, hR2, hS, hK, hSl with
    | [], h, _, _, _ => exact absurd (Nat.zero_le _) h
    | [x], h, _, _, _ => exact absurd (Nat.le_refl _) h
    | x :: y :: R, _, hS, hK, hSl =>
      have hi1 : S1.length < S.length := by simp at hSl; omega
      have hi2 : S1.length + 1 < S.length := by simp at hSl; omega
      have h1 := sgc_at hi1 hSk
      have h2 := sgc_at hi2 hSk
      have hx1 : S[S1.length] = x := by simp [hS]
      have hx2 : S[S1.length + 1] = y := by simp [hS]
      have hx := hSk S[S1.length] (List.getElem_mem hi1)
      have hy := hSk S[S1.length + 1] (List.getElem_mem hi2)
      rw [hx1] at h1 hx
      rw [hx2] at h2 hy
      have hbe : befB x y = true := by
        have h3 := hasc
        rw [hS] at h3
        have h4 := (List.pairwise_append.1 h3).2.1
        exact (List.pairwise_cons.1 h4).1 y (by simp)
      have hfk := forked_ok x.1 y.1 hx.1 hy.1
      rw [fkd_bef hx.1 hy.1 hbe] at hfk
      have hSC := sgC_len hSk
      have lx := sgc_len hx
      have ly := sgc_len hy
      have x57 := sgc_57 x
      have x57D := sgc_57D x
      have y57 := sgc_57 y
      have y57D := sgc_57D y
      have hnx : prvR (S1 ++ [x]) = some (refS x) := prvR_snoc S1 x
      have hstep : pickA (prvR S1) (x :: y :: R) = (if refS x = refS y ∧ prvR S1 ≠ some (refS x) then [(x, y)] else []) ++ pickA (some (refS x)) (y :: R) := by
        cases prvR S1 <;> rw [pickA]
      have hS2 : S = (S1 ++ [x]) ++ (y :: R) := by rw [hS]; simp
      have hlx : (S1 ++ [x]).length = S1.length + 1 := by simp
      have hset2 : ∀ cs : List AV, cs.length = 122 → setL (setL cs 0 ((sgc x).map AV.d)) 61 ((sgc y).map AV.d) = (sgc x).map .d ++ (sgc y).map .d := fun cs hc => setL_two (by rw [List.length_map, lx]) (by rw [List.length_map, ly]) hc
      have hset3 : ∀ cs : List AV, cs.length = 122 → setL cs 0 ((sgc x).map AV.d ++ (sgc y).map AV.d) = (sgc x).map .d ++ (sgc y).map .d := fun cs hc => by
        rw [setL_eq _ _ _ (by rw [List.length_append, List.length_map, List.length_map]; omega), List.take_zero, List.nil_append, List.drop_of_length_le (by rw [List.length_append, List.length_map, List.length_map]; omega), List.append_nil]
      have hw1 : IntKind.i64.wrap 1 = 1 := by decide
      have honeC : ∀ c : AV, ((∃ a, a ∈ sgc x ∧ AV.d a = c) ∨ ∃ a, a ∈ sgc y ∧ AV.d a = c) → oneA c = true := by
        rintro c (⟨a, ha, rfl⟩ | ⟨a, ha, rfl⟩)
        · exact sgc_oneD hx a ha
        · exact sgc_oneD hy a ha
      simp -dsimp
      repeat (first | apply wG | (apply wR; simp -dsimp [e0, h1, h2, x57, x57D, y57, y57D]) | refine aI ?_)
      by_cases hd : refS x = refS y
      · rw [decide_eq_true hd] at hfk
        refine vcStop.call0 Tryz.body37 hfk rfl rfl (by simp [fD]) ?_
        rcases List.eq_nil_or_concat S1 with h0 | ⟨S0, z, hz⟩
        · subst h0
          rw [if_pos ⟨hd, by simp [prvR]⟩] at hstep
          simp only [List.length_nil, Nat.zero_mul, Nat.zero_add, Nat.one_mul, List.drop_zero] at h1 h2
          have tx := sgc_t hx
          have ty := sgc_t hy
          simp -dsimp
          repeat (first | apply wG | (apply wR; simp -dsimp) | refine aI ?_)
          refine vcStopG.call0 Tryz.body37 (fun _ => hfk) rfl (fun _ => rfl) (fun h => by simp at h) ?_
          simp -dsimp
          repeat (first | apply wG | (apply wR; simp -dsimp) | refine aI ?_)
          refine cT (by simp) ?_
          repeat (first | apply wG | (apply wR; simp -dsimp [h1, h2, tx, ty, hw1, hset2, hset3, setL_length]) | refine aI ?_)
          refine And.intro ⟨⟨lx, sgc_oneD hx⟩, ly, sgc_oneD hy⟩ ?_
          refine And.intro ⟨by omega, honeC⟩ ?_
          repeat (first | apply wG | (apply wR; simp -dsimp [hw1, e0]) | refine aI ?_)
          refine loopW.next (fkS l b S (K ++ [(x, y)]) ([] ++ [x]).length) (Wk.go [58, 503] 59 503 (by decide) (by simp) (by simp [e0, hw1]) (by simp [fkC, fkc])) (y :: R).length (by simp) ⟨[] ++ [x], y :: R, K ++ [(x, y)], hS2, rfl, by rw [hnx, List.append_assoc, ← hstep]; exact hK, by rw [List.length_append, List.length_append]; exact Nat.add_le_add_right hKl 1, rfl⟩
        · rw [List.concat_eq_append] at hz
          have hl0 : S1.length = S0.length + 1 := by rw [hz]; simp
          have hn0 : ¬ ((S1.length : Int) = 0) := by omega
          have e3 : IntKind.i64.wrap ((S1.length : Int) - 1) = ((S1.length - 1 : Nat) : Int) := by rw [IntWalk.i64_in _ (by omega)]; omega
          have hi3 : S1.length - 1 < S.length := by omega
          have h3 := sgc_at hi3 hSk
          have hx3 : S[S1.length - 1] = z := by simp [hS, hz]
          have hzk := hSk S[S1.length - 1] (List.getElem_mem hi3)
          rw [hx3] at h3 hzk
          have lz := sgc_len hzk
          have z57 := sgc_57 z
          have z57D := sgc_57D z
          have hbz : befB z x = true := by
            have h3 := hasc
            rw [hS] at h3
            exact (List.pairwise_append.1 h3).2.2 z (by rw [hz]; simp) x (by simp)
          have hfz := forked_ok z.1 x.1 hzk.1 hx.1
          rw [fkd_bef hzk.1 hx.1 hbz] at hfz
          have hpz : prvR S1 = some (refS z) := by rw [hz, prvR_snoc]
          have hne : ¬ S1 = [] := fun h => by rw [h] at hl0; cases hl0
          have tx := sgc_t hx
          have ty := sgc_t hy
          simp -dsimp [hne]
          repeat (first | apply wG | (apply wR; simp -dsimp [hne, e3, h1, h3, x57, x57D, z57, z57D]) | refine aI ?_)
          refine vcStopG.call0 Tryz.body37 (fun _ => hfz) rfl (fun _ => rfl) (fun _ => by simp [fD, hne, e3, h3, h1, z57D, x57D]) ?_
          simp -dsimp [hne]
          repeat (first | apply wG | (apply wR; simp -dsimp [hne]) | refine aI ?_)
          by_cases hzx : refS z = refS x
          · rw [if_neg fun h => h.2 (by rw [hpz, hzx]), List.nil_append] at hstep
            refine cF (by simp [hzx]) ?_
            refine WP.skip ?_
            simp -dsimp
            repeat (first | apply wG | (apply wR; simp -dsimp) | refine aI ?_)
            refine loopW.next (fkS l b S K (S1 ++ [x]).length) (Wk.lessE [] (by simp [e0]) (by simp)) (y :: R).length (by simp) ⟨S1 ++ [x], y :: R, K, hS2, rfl, by rw [hnx, ← hstep]; exact hK, by omega, rfl⟩
          · rw [if_pos ⟨hd, fun h => hzx (by rw [hpz] at h; exact Option.some.inj h)⟩] at hstep
            refine cT (by simp [hzx]) ?_
            repeat (first | apply wG | (apply wR; simp -dsimp [h1, h2, e0, tx, ty, hset2, hset3, setL_length]) | refine aI ?_)
            refine And.intro ⟨⟨lx, sgc_oneD hx⟩, ly, sgc_oneD hy⟩ ?_
            refine And.intro ⟨by omega, honeC⟩ ?_
            repeat (first | apply wG | (apply wR; simp -dsimp [hw1, e0]) | refine aI ?_)
            refine loopW.next (fkS l b S (K ++ [(x, y)]) (S1 ++ [x]).length) (Wk.go [58, 503] 59 503 (by decide) (by simp) (by simp [e0, hw1]) (by simp [fkC, fkc])) (y :: R).length (by simp) ⟨S1 ++ [x], y :: R, K ++ [(x, y)], hS2, rfl, by rw [hnx, List.append_assoc, ← hstep]; exact hK, by rw [List.length_append, List.length_append]; exact Nat.add_le_add_right hKl 1, rfl⟩
      · rw [decide_eq_false hd] at hfk
        rw [if_neg fun h => hd h.1, List.nil_append] at hstep
        refine vcStop.call0 Tryz.body37 hfk rfl rfl (by simp [fD]) ?_
        simp -dsimp
        repeat (first | apply wG | (apply wR; simp -dsimp) | refine aI ?_)
        refine vcStopG.call0 Tryz.body37 (fun _ => hfk) rfl (fun _ => rfl) (fun h => by simp at h) ?_
        simp -dsimp
        repeat (first | apply wG | (apply wR; simp -dsimp) | refine aI ?_)
        refine cF (by simp) ?_
        refine WP.skip ?_
        simp -dsimp
        repeat (first | apply wG | (apply wR; simp -dsimp) | refine aI ?_)
        refine loopW.next (fkS l b S K (S1 ++ [x]).length) (Wk.lessE [] (by simp [e0]) (by simp)) (y :: R).length (by simp) ⟨S1 ++ [x], y :: R, K, hS2, rfl, by rw [hnx, ← hstep]; exact hK, by omega, rfl⟩
end Go.Proofs.YtadfkiigjnbdgaaGreatDoor
