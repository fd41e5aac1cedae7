/-
  Crews: CrewsNumbers, walked.
-/
import Derived.Test.YtaplgjnlfleklaaDoorKMe
import Derived.Test.YtaplgjnlfleklaaDoorKAD
set_option linter.unusedSectionVars false
set_option linter.unusedSimpArgs false
set_option linter.unusedVariables false
namespace Go.Proofs.YtaplgjnlfleklaaDoor
open Go.Xe Go.RowKit

theorem sgc_set1 (p : Sg) (o : Nat) (x : Int) (h : o < 54) : ((sgc p).map AV.d).set o (.d (.v (.int .i64 x))) = (sgc (fup p.1 o x, p.2)).map .d := by
  rw [sgc, List.map_append, List.set_append, if_pos (by rw [List.length_map, fcs_len57]; omega), fcsA_set _ _ _ (by omega) (by omega), sgc, List.map_append]
theorem fup_ok {f : Nat → Int} (hf : fOk f) (o : Nat) (x : Int) (ho : o < 54) (hx : isI x) : fOk (fup f o x) := by
  refine ⟨fup_in hf.1 hx, ?_, fun i hi => ?_⟩
  · have h : fup f o x 54 = f 54 := by unfold fup; rw [if_neg (by omega)]
    rw [h]; exact hf.2.1
  · unfold fup
    rw [if_neg (by omega)]
    exact hf.2.2 i hi
theorem vfy_other {l : List Crw} {f : Nat → Int} {k : Int} {op cl pa : List Dg} {x : Int} (h : vfyE l f k op cl pa = 0) (hx : x ≠ f 1) : vfyE l (fup f 1 x) k op cl pa ≠ 0 := by
  have hk : k = f 1 - 1 := by
    unfold vfyE at h
    split at h
    · split at h
      · split at h
        · cases h
        · split at h
          · rename_i h1; exact h1.1
          · cases h
      · cases h
    · cases h
  intro h2
  have hk2 : k = fup f 1 x 1 - 1 := by
    unfold vfyE at h2
    split at h2
    · split at h2
      · split at h2
        · cases h2
        · split at h2
          · rename_i h1; exact h1.1
          · cases h2
      · cases h2
    · cases h2
  have e : fup f 1 x 1 = x := by simp [fup]
  omega
theorem vfy_none {l : List Crw} {f : Nat → Int} {k : Int} {op cl pa : List Dg} : vfyE l (fup f 0 l.length) k op cl pa ≠ 0 := by
  have e : fup f 0 (l.length : Int) 0 = l.length := by simp [fup]
  unfold vfyE
  split
  · split
    · rw [e, if_pos (Int.le_refl _)]; decide
    · decide
  · decide
theorem vfy_yes {l : List Crw} {f : Nat → Int} {k : Int} {op cl pa : List Dg} (h : vfyE l f k op cl pa = 0) :
    (0 ≤ f 0 ∧ f 0 < l.length) ∧ 1 ≤ f 1 ∧ f 1 ≤ 1048576 ∧ k = f 1 - 1 ∧ f 1 ≤ (l.getD (f 0).toNat (z32, 0)).2 := by
  unfold vfyE at h
  split at h
  · split at h
    · rename_i hv
      obtain ⟨⟨h1, h2⟩, h3, h4⟩ := num_hd hv
      split at h
      · cases h
      · rename_i h5
        split at h
        · rename_i h6
          refine ⟨⟨h1, by omega⟩, h3, h4, h6.1, ?_⟩
          have h7 := h6.2
          unfold sealB at h7
          split at h7
          · cases h7
          · rename_i h8
            have h9 : ¬ (l.getD (f 0).toNat (z32, 0)).2 ≤ k := fun h => h8 (.inr (.inr (.inr (.inl h))))
            have := h6.1
            omega
        · cases h
    · cases h
  · cases h
set_option maxRecDepth 10000 in
set_option maxHeartbeats 4000000 in
theorem law_numbers (l : List Crw) (hl : ∀ c ∈ l, crOk c) (hn : l.length ≤ 10000000000000) (p : Sg) (hp : sgOk p) (hu : sgU p) (o : Int) (ho : isI o) : Fn0 Tryd.prog 4 [crwD l, sgV p, .v (.int .i64 o)] (.v (.bool true)) := by
  have lp := sgc_len hp
  have tp := sgc_tm hp
  have dp := sgc_oneD hp
  have h1 : ∀ q ∈ [p], sgOk q := fun q hq => by rw [List.mem_singleton.1 hq]; exact hp
  have hfe := few13T_ok [p] false 1 h1 (fun q hq => by rw [List.mem_singleton.1 hq]; exact sgU_F hu) (by simp)
  refine Fun.of_wp (pn := noPn) Tryd.tab Tryd.func4 rfl fun β0 => ?_
  simp only [Tryd.f4]
  repeat (first | apply wG | (apply wR; simp -dsimp [crwD, sgV, lp]) | refine aI ?_)
  refine vcStop.call0 Tryd.body6 sane13_ok rfl rfl (by simp) ?_
  simp -dsimp
  repeat (first | apply wG | (apply wR; simp -dsimp) | refine aI ?_)
  refine cF (by simp) ?_
  refine WP.skip ?_
  simp -dsimp
  by_cases h60 : 60 < l.length
  · have hd : decide ((60 : Int) < (l.length : Int)) = true := by rw [decide_eq_true_iff]; omega
    repeat (first | apply wG | (apply wR; simp -dsimp [hd]) | refine aI ?_)
    refine vcStopG.skip (.d (.v (.bool false))) ?_
    simp -dsimp
    repeat (first | apply wG | (apply wR; simp -dsimp) | refine aI ?_)
    refine vcStopG.skip (.d (.v (.bool false))) ?_
    simp -dsimp
    repeat (first | apply wG | (apply wR; simp -dsimp) | refine aI ?_)
    refine vcStopG.skip (.d (.v (.int .i64 0))) ?_
    simp -dsimp
    repeat (first | apply wG | (apply wR; simp -dsimp) | refine aI ?_)
    refine cT (by simp) ?_
    repeat (first | apply wG | (apply wR; simp -dsimp) | refine aI ?_)
    refine WP.ret (finQ.retE ?_)
    simp -dsimp
  · have hd : decide ((60 : Int) < (l.length : Int)) = false := by rw [decide_eq_false_iff_not]; omega
    rw [show (decide ([p].length ≤ 1) && [p].all shrtT) = shrtT p by simp] at hfe
    cases hs : shrtT p with
    | false =>
      rw [hs] at hfe
      repeat (first | apply wG | (apply wR; simp -dsimp [hd]) | refine aI ?_)
      refine vcStopG.buildData Tryd.tab (ds := sgc p) rfl rfl rfl rfl (by simp [lp, tp]) (by decide) (by decide) (by simp [lp, tp]; exact dp) ?_
      simp -dsimp
      repeat (first | apply wG | (apply wR; simp -dsimp) | refine aI ?_)
      refine vcStopG.call0L Tryd.body13 (fun _ => hfe) rfl (fun _ => rfl) (fun _ => And.intro (by simp [sgC]; try exact Leq.refl _) (And.intro (.refl _) trivial)) ?_
      simp -dsimp
      repeat (first | apply wG | (apply wR; simp -dsimp) | refine aI ?_)
      refine vcStopG.skip (.d (.v (.int .i64 0))) ?_
      simp -dsimp
      repeat (first | apply wG | (apply wR; simp -dsimp) | refine aI ?_)
      refine cT (by simp) ?_
      repeat (first | apply wG | (apply wR; simp -dsimp) | refine aI ?_)
      refine WP.ret (finQ.retE ?_)
      simp -dsimp
    | true =>
      rw [hs] at hfe
      have hT := sgU_T hu hs
      have hv := crwVerifyS_ok l hl (by omega) p hp.1 hT
      repeat (first | apply wG | (apply wR; simp -dsimp [hd]) | refine aI ?_)
      refine vcStopG.buildData Tryd.tab (ds := sgc p) rfl rfl rfl rfl (by simp [lp, tp]) (by decide) (by decide) (by simp [lp, tp]; exact dp) ?_
      simp -dsimp
      repeat (first | apply wG | (apply wR; simp -dsimp) | refine aI ?_)
      refine vcStopG.call0L Tryd.body13 (fun _ => hfe) rfl (fun _ => rfl) (fun _ => And.intro (by simp [sgC]; try exact Leq.refl _) (And.intro (.refl _) trivial)) ?_
      simp -dsimp
      repeat (first | apply wG | (apply wR; simp -dsimp) | refine aI ?_)
      refine vcStopG.call0L Tryd.body12 (fun _ => hv) rfl (fun _ => rfl) (fun _ => And.intro (.refl _) (And.intro (by simp [lp]; try rw [tp]; exact Leq.aggD _) trivial)) ?_
      simp -dsimp
      repeat (first | apply wG | (apply wR; simp -dsimp) | refine aI ?_)
      by_cases h0 : vfyS l p = 0
      · refine cF (by simp [h0]) ?_
        refine WP.skip ?_
        obtain ⟨k, op, cl, pa, e, hg⟩ := hT
        rw [vfyS_eq e hg] at h0
        obtain ⟨⟨hc0, hcl⟩, hn0, hn1, hk, hkm⟩ := vfy_yes h0
        have q8 := crwVerifyS_ok l hl (by omega) (fup p.1 1 o, p.2) (fup_ok hp.1 1 o (by omega) ho) ⟨k, op, cl, pa, e, hg⟩
        have q9 := crwVerifyS_ok l hl (by omega) (fup p.1 0 l.length, p.2) (fup_ok hp.1 0 l.length (by omega) (by unfold isI; omega)) ⟨k, op, cl, pa, e, hg⟩
        have e8 : o ≠ p.1 1 → vfyS l (fup p.1 1 o, p.2) ≠ 0 := fun h => by
          rw [vfyS_eq (p := (fup p.1 1 o, p.2)) e hg]
          exact vfy_other h0 h
        have e9 : vfyS l (fup p.1 0 l.length, p.2) ≠ 0 := by
          rw [vfyS_eq (p := (fup p.1 0 l.length, p.2)) e hg]
          exact vfy_none
        generalize vfyS l (fup p.1 1 o, p.2) = r8 at q8 e8
        generalize vfyS l (fup p.1 0 l.length, p.2) = r9 at q9 e9
        have a0 : atL ((sgc p).map AV.d) 0 = .d (.v (.int .i64 (p.1 0))) := rfl
        have a1 : atL ((sgc p).map AV.d) 1 = .d (.v (.int .i64 (p.1 1))) := rfl
        have a57 : atL ((sgc p).map AV.d) 57 = .d (.v (.int .i64 k)) := by rw [sgc, e]; rfl
        obtain ⟨i, hi⟩ : ∃ i : Nat, p.1 0 = i := ⟨(p.1 0).toNat, by omega⟩
        rw [hi, Int.toNat_natCast] at hkm
        have hil : i < l.length := by omega
        obtain ⟨hcat, hco⟩ := crC_get hl i hil
        have hcX := crX_len hco
        have hcc := crC_len hl
        have hcm := crX_atL hco
        have ht33 : List.take 33 (crX (l.getD i (z32, 0))) = crX (l.getD i (z32, 0)) := List.take_of_length_le (by omega)
        generalize l.getD i (z32, 0) = c at *
        have hce : (crX c)[32]'(by omega) = .v (.int .i64 c.2) := by
          have h := crX_m hco
          rw [List.getElem?_eq_getElem (by omega)] at h
          exact Option.some.inj h
        have d2 : decide (l.length ≤ i) = false := by rw [decide_eq_false_iff_not]; omega
        have d3 : decide (p.1 1 < 1) = false := by rw [decide_eq_false_iff_not]; omega
        have d4 : decide (c.2 < p.1 1) = false := by rw [decide_eq_false_iff_not]; omega
        have w1 : IntKind.i64.wrap (p.1 1 - 1) = k := by rw [IntWalk.i64_in _ (by omega)]; omega
        have s1 := sgc_set1 p 1 o (by omega)
        have s0 := sgc_set1 p 0 l.length (by omega)
        have d1 : decide ((i : Int) < 0) = false := by rw [decide_eq_false_iff_not]; omega
        have d3' : decide (p.1 (0 + 1) < 1) = false := d3
        simp -dsimp
        repeat (first | apply wG | (apply wR; simp -dsimp [a0, a1, a57, hi, d1, d2, d3, d3', d4, hcat, hcX, hil, hcc, ht33, hcm, hce, w1]) | refine aI ?_)
        refine cF (by simp) ?_
        refine WP.skip ?_
        simp -dsimp
        have o8 : sgOk (fup p.1 1 o, p.2) := ⟨fup_ok hp.1 1 o (by omega) ho, hp.2⟩
        have o9 : sgOk (fup p.1 0 l.length, p.2) := ⟨fup_ok hp.1 0 l.length (by omega) (by unfold isI; omega), hp.2⟩
        have l8 := sgc_len o8
        have t8 := sgc_tm o8
        have l9 := sgc_len o9
        have t9 := sgc_tm o9
        have d7 : decide (r9 = 0) = false := decide_eq_false e9
        by_cases hoe : o = p.1 1
        · have d5 : decide (o = p.1 (0 + 1)) = true := decide_eq_true hoe
          repeat (first | apply wG | (apply wR; simp -dsimp [setL_whole, lp, tp, a1, s1, s0, d5]) | refine aI ?_)
          refine vcStopG.skip (.d (.v (.int .i64 0))) ?_
          simp -dsimp
          repeat (first | apply wG | (apply wR; simp -dsimp [l8, l9]) | refine aI ?_)
          refine vcStopG.call0L Tryd.body12 (fun _ => q9) rfl (fun _ => rfl) (fun _ => And.intro (.refl _) (And.intro (by simp [l9]; try rw [t9]; exact Leq.aggD _) trivial)) ?_
          simp -dsimp
          repeat (first | apply wG | (apply wR; simp -dsimp) | refine aI ?_)
          refine WP.ret (finQ.retE ?_)
          simp -dsimp [d7]
        · have d5 : decide (o = p.1 (0 + 1)) = false := decide_eq_false hoe
          have d6 : decide (r8 = 0) = false := decide_eq_false (e8 hoe)
          repeat (first | apply wG | (apply wR; simp -dsimp [setL_whole, lp, tp, a1, s1, s0, d5, l8]) | refine aI ?_)
          refine vcStopG.call0L Tryd.body12 (fun _ => q8) rfl (fun _ => rfl) (fun _ => And.intro (.refl _) (And.intro (by simp [l8]; try rw [t8]; exact Leq.aggD _) trivial)) ?_
          simp -dsimp [d6]
          repeat (first | apply wG | (apply wR; simp -dsimp [l9, d6]) | refine aI ?_)
          refine vcStopG.call0L Tryd.body12 (fun _ => q9) rfl (fun _ => rfl) (fun _ => And.intro (.refl _) (And.intro (by simp [l9]; try rw [t9]; exact Leq.aggD _) trivial)) ?_
          simp -dsimp
          repeat (first | apply wG | (apply wR; simp -dsimp) | refine aI ?_)
          refine WP.ret (finQ.retE ?_)
          simp -dsimp [d7]
      · refine cT (by simp [h0]) ?_
        repeat (first | apply wG | (apply wR; simp -dsimp) | refine aI ?_)
        refine WP.ret (finQ.retE ?_)
        simp -dsimp
end Go.Proofs.YtaplgjnlfleklaaDoor
