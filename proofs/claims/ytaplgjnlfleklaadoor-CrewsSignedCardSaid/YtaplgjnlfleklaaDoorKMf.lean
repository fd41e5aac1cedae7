/-
  Crews: CrewsSigned, walked.
-/
import Derived.Test.YtaplgjnlfleklaaDoorKMe
set_option linter.unusedSectionVars false
set_option linter.unusedSimpArgs false
set_option linter.unusedVariables false
namespace Go.Proofs.YtaplgjnlfleklaaDoor
open Go.Xe Go.RowKit

def reC (i : Nat) : List Crw := List.replicate i (z32, 1)
theorem reC_succ (i : Nat) : reC (i + 1) = reC i ++ [(z32, 1)] := by rw [reC, reC, List.replicate_succ']
theorem reC_ok (i : Nat) : ∀ c ∈ reC i, crOk c := fun c hc => by
  rw [(List.mem_replicate.1 hc).2]
  exact ⟨rfl, by unfold isI; decide⟩
abbrev lsS (seed : List UInt8) (M : Nat) (u : Int) (r : Dg) (w : Sg) (i : Nat) : St :=
  mkS 96 [(2, .ptr 2 0), (3, .ptr 3 0), (5, .ptr 5 0), (7, .ptr 7 0), (9, .row 500), (10, .d (.v (.int .i64 i)))]
    [(2, .cells 24 [.d (.sl 1 (bys seed) seed.length false), .d (.v (.int .i64 M)), .d (.v (.int .i64 u))]), (3, .cells 50 ((fcs w.1 0 57).map .d)), (5, .cells 54 ((bys r).map .d)), (7, .cells 62 ((sgc w).map .d)), (500, .row 68 33 i ((crC (reC i)).map .d))]
set_option maxRecDepth 10000 in
set_option maxHeartbeats 4000000 in
theorem law_signed (seed : List UInt8) (m u : Int) (f : Nat → Int) (hf : fOk f) : Fn0 Tryd.prog 3 [keyD seed m u, fD f] (.v (.bool true)) := by
  have hl57 := fcs_len57 f
  have hfe := few4_ok seed m u
  refine Fun.of_wp (pn := noPn) Tryd.tab Tryd.func3 rfl fun β0 => ?_
  simp only [Tryd.f3]
  repeat (first | apply wG | (apply wR; simp -dsimp [keyD, slB, fD]) | refine aI ?_)
  refine vcStop.call0 Tryd.body6 sane13_ok rfl rfl (by simp) ?_
  simp -dsimp
  repeat (first | apply wG | (apply wR; simp -dsimp) | refine aI ?_)
  refine cF (by simp) ?_
  refine WP.skip ?_
  simp -dsimp
  repeat (first | apply wG | (apply wR; simp -dsimp) | refine aI ?_)
  refine vcStop.call0L Tryd.body7 hfe rfl rfl (And.intro (by simp [keyD, slB]; try exact Leq.aggD [.sl 1 (bys seed) seed.length false, .v (.int .i64 m), .v (.int .i64 u)]) (And.intro (Leq.nil 1) trivial)) ?_
  simp -dsimp
  repeat (first | apply wG | (apply wR; simp -dsimp) | refine aI ?_)
  by_cases hfw : few4 seed m = true
  · refine cF (by simp [hfw]) ?_
    refine WP.skip ?_
    obtain ⟨hm2, hs⟩ : m ≤ 2 ∧ seed.length ≤ 100 := by simpa [few4] using hfw
    have h8 := public8_ok seed (by omega) m u
    have h9 := crwSign_ok seed (by omega) m u f hf
    obtain ⟨r, e, hr⟩ : ∃ r e, pblR seed m u = (r, e) := ⟨_, _, rfl⟩
    obtain ⟨z, e2, hz⟩ : ∃ z e2, sgnR seed m u f = (z, e2) := ⟨_, _, rfl⟩
    have hrl : r.length = 32 := by
      have h : r = (pblR seed m u).1 := by rw [hr]
      rw [h, pblR]
      split
      · exact treeB_len _
      · rfl
    rw [hr] at h8
    rw [hz] at h9
    simp -dsimp
    repeat (first | apply wG | (apply wR; simp -dsimp) | refine aI ?_)
    refine vcStop.call0L Tryd.body8 h8 rfl rfl (And.intro (by simp [keyD, slB]; try exact Leq.aggD [.sl 1 (bys seed) seed.length false, .v (.int .i64 m), .v (.int .i64 u)]) trivial) ?_
    simp -dsimp [dD, setL_whole, bys_len, hrl]
    refine And.intro (fun a h => bysD_one h) ?_
    repeat (first | apply wG | (apply wR; simp -dsimp [setL_whole, bys_len, hrl]) | refine aI ?_)
    refine vcStop.call0L Tryd.body9 h9 rfl rfl (And.intro (by simp [keyD, slB]; try exact Leq.aggD [.sl 1 (bys seed) seed.length false, .v (.int .i64 m), .v (.int .i64 u)]) (And.intro (by simp [fD]; try exact Leq.aggD _) trivial)) ?_
    by_cases hall : (numF f).2 = true ∧ keyV seed m u = true ∧ f 1 - 1 < m
    · obtain ⟨hv, hk, hn⟩ := hall
      obtain ⟨⟨hc0, hc1⟩, hn0, _⟩ := num_hd hv
      obtain ⟨M, rfl⟩ : ∃ M : Nat, m = M := ⟨m.toNat, by simp only [keyV, decide_eq_true_eq] at hk; omega⟩
      have hr2 : r = treeB (pubsB seed M) ∧ e = 0 := by
        rw [pblR, if_pos hk] at hr
        cases hr
        exact ⟨rfl, rfl⟩
      obtain ⟨hr2, rfl⟩ := hr2
      let p : Sg := (f, sgnC seed M (f 1 - 1).toNat (msgB f))
      have hz2 : z = sgc p ∧ e2 = 0 := by
        rw [sgnR, if_pos hv, if_pos ⟨hk, hn⟩] at hz
        cases hz
        exact ⟨rfl, rfl⟩
      obtain ⟨rfl, rfl⟩ := hz2
      have hpT : sgT p := ⟨_, _, _, _, rfl, sig_sgn seed M _ _ (by omega) (by omega)⟩
      have hpO : sgOk p := sgT_ok hf hpT
      have hpv : ∀ l : List Crw, crB l = true → f 0 < l.length → l.getD (f 0).toNat (z32, 0) = (r, (M : Int)) → vfyS l p = 0 := fun l h1 h2 h3 => by
        rw [vfyS_eq rfl (sig_sgn seed M _ _ (by omega) (by omega))]
        exact vfy_sgn seed M u f hv hk hn l h1 h2 (by rw [h3, hr2])
      have hp1 : p.1 = f := rfl
      have h10 := check_ok f hf
      rw [if_pos hv] at h10
      have lp := sgc_len hpO
      have tp := sgc_tm hpO
      have dp := sgc_oneD hpO
      generalize p = w at *
      subst hp1
      clear hr2 hz hr
      simp -dsimp [setL_whole, lp]
      repeat (first | apply wG | (apply wR; simp -dsimp [setL_whole, lp]) | refine aI ?_)
      refine cF (by simp) ?_
      refine WP.skip ?_
      simp -dsimp
      repeat (first | apply wG | (apply wR; simp -dsimp) | refine aI ?_)
      refine vcStop.call0L Tryd.body10 h10 rfl rfl (And.intro (by simp [fD]; try exact Leq.aggD _) trivial) ?_
      simp -dsimp
      repeat (first | apply wG | (apply wR; simp -dsimp) | refine aI ?_)
      refine cF (by simp; omega) ?_
      refine WP.skip ?_
      simp -dsimp
      refine WP.seq ?_
      refine WP.region Tryd.tab ?_
      simp -dsimp
      repeat refine aI ?_
      repeat (first | apply wG | (apply wR; simp -dsimp) | refine aI ?_)
      obtain ⟨C, hC⟩ : ∃ C : Nat, w.1 0 = C := ⟨(w.1 0).toNat, by omega⟩
      refine WP.loopWk (fun q S => ∃ i : Nat, q = C + 1 - i ∧ i ≤ C + 1 ∧ S = lsS seed M u r w i) (C + 1) (S0 := lsS seed M u r w 0) (Wk.go [] 67 500 (by decide) (by simp) (by simp) (by simp [reC, crC])) ⟨0, rfl, by omega, rfl⟩ ?_
      rintro _ _ ⟨i, rfl, hi, rfl⟩
      simp -dsimp
      repeat (first | apply wG | (apply wR; simp -dsimp [hC]) | refine aI ?_)
      by_cases hlt : i ≤ C
      · refine cT (by simp; omega) ?_
        refine WP.skip ?_
        have e1 : IntKind.i64.wrap ((i : Int) + 1) = ((i + 1 : Nat) : Int) := by rw [IntWalk.i64_in _ (by omega)]; omega
        have e3 : (crC (reC (i + 1))).map AV.d = (crC (reC i)).map .d ++ [AV.d (.v (.int .u8 0)), AV.d (.v (.int .u8 0)), AV.d (.v (.int .u8 0)), AV.d (.v (.int .u8 0)), AV.d (.v (.int .u8 0)), AV.d (.v (.int .u8 0)), AV.d (.v (.int .u8 0)), AV.d (.v (.int .u8 0)), AV.d (.v (.int .u8 0)), AV.d (.v (.int .u8 0)), AV.d (.v (.int .u8 0)), AV.d (.v (.int .u8 0)), AV.d (.v (.int .u8 0)), AV.d (.v (.int .u8 0)), AV.d (.v (.int .u8 0)), AV.d (.v (.int .u8 0)), AV.d (.v (.int .u8 0)), AV.d (.v (.int .u8 0)), AV.d (.v (.int .u8 0)), AV.d (.v (.int .u8 0)), AV.d (.v (.int .u8 0)), AV.d (.v (.int .u8 0)), AV.d (.v (.int .u8 0)), AV.d (.v (.int .u8 0)), AV.d (.v (.int .u8 0)), AV.d (.v (.int .u8 0)), AV.d (.v (.int .u8 0)), AV.d (.v (.int .u8 0)), AV.d (.v (.int .u8 0)), AV.d (.v (.int .u8 0)), AV.d (.v (.int .u8 0)), AV.d (.v (.int .u8 0)), AV.d (.v (.int .i64 1))] := by
          rw [reC_succ, crC_append, List.map_append]
          rfl
        simp -dsimp
        repeat (first | apply wG | (apply wR; simp -dsimp) | refine aI ?_)
        refine loopW.next (lsS seed M u r w (i + 1)) (Wk.go [76] 77 500 (by decide) (by simp) (by simp [e1]) (by simp [e3])) (C + 1 - (i + 1)) (by omega) ⟨i + 1, rfl, by omega, rfl⟩
      · refine cF (by simp; omega) ?_
        refine WP.exit ?_
        obtain rfl : i = C + 1 := by omega
        have tr := bysA_take r hrl
        have eCr : (bys r).map AV.d ++ [AV.d (.v (.int .i64 M))] = (crX (r, M)).map .d := by simp [crX]
        have oRM : crOk (r, (M : Int)) := ⟨hrl, by unfold isI; simp only [keyV, decide_eq_true_eq] at hk; omega⟩
        have lCr := crX_len oRM
        have lre := crC_len (reC_ok C)
        have lrC : (reC C).length = C := List.length_replicate ..
        have eS : setL ((crC (reC (C + 1))).map AV.d) (C * 33) ((crX (r, M)).map .d) = (crC (reC C ++ [(r, (M : Int))])).map .d := by
          have h1 : (crX (z32, 1)).length = 33 := rfl
          rw [reC_succ, crC_append, crC_append, setL_mid _ _ _ (by simp [crC, lre, lrC, lCr, h1]), List.map_append, List.map_append, List.take_left' (by rw [List.length_map, lre, lrC]), List.drop_of_length_le (by simp [crC, lre, lrC, lCr, h1]), List.append_nil]
          simp [crC]
        simp -dsimp
        refine WP.seq ?_
        refine WP.region Tryd.tab ?_
        simp -dsimp [hC, tr, set33, setL_whole, bys_len, hrl, eCr, lCr, setL_length, eS]
        repeat refine aI ?_
        refine And.intro (fun a h => bysD_one h) (And.intro (by omega) (And.intro ⟨by rw [crC_len (reC_ok _), reC, List.length_replicate]; omega, fun a h => ?_⟩ ?_))
        · rcases List.mem_append.1 h with h | h
          · exact bysD_one h
          · rw [List.mem_singleton.1 h]
        refine WP.weak (Wk.freeze (k := 500) (T := 68) (sz := 33) (n := C + 1) (ds := crC (reC C ++ [(r, (M : Int))])) (by simp)) ?_
        have oL : ∀ c ∈ reC C ++ [(r, (M : Int))], crOk c := fun c hc => by
          rcases List.mem_append.1 hc with h | h
          · exact reC_ok C c h
          · rw [List.mem_singleton.1 h]; exact oRM
        have lL : (reC C ++ [(r, (M : Int))]).length = C + 1 := by rw [List.length_append, lrC]; rfl
        have bL : crB (reC C ++ [(r, (M : Int))]) = true := by
          rw [crB, lL, List.any_append]
          have h1 : (reC C).any badC = false := by
            rw [List.any_eq_false]
            intro c hc
            rw [(List.mem_replicate.1 hc).2]
            decide
          have h2 : badC (r, (M : Int)) = false := by
            simp only [keyV, decide_eq_true_eq] at hk
            simp [badC]
            omega
          rw [h1]
          simp [h2]
          omega
        have w1 := crwVerifyS_ok (reC C ++ [(r, (M : Int))]) oL (by omega) w hf hpT
        rw [hpv _ bL (by rw [lL]; omega) (by rw [hC, Int.toNat_natCast, List.getD_eq_getElem?_getD, List.getElem?_append_right (by omega), lrC]; simp)] at w1
        have u1 := same_ok w.1 w.1 hf hf
        rw [(eqF_iff hf hf).2 rfl] at u1
        simp only [crwD, lL] at w1
        have b7 := sgc_57 w
        simp -dsimp
        repeat (first | apply wG | (apply wR; simp -dsimp [b7]) | refine aI ?_)
        refine vcStop.call0L Tryd.body11 u1 rfl rfl (And.intro (by simp [fD, b7]; try exact Leq.aggD _) (And.intro (by simp [fD]; try exact Leq.aggD _) trivial)) ?_
        simp -dsimp
        repeat (first | apply wG | (apply wR; simp -dsimp) | refine aI ?_)
        refine vcStopG.call0L Tryd.body12 (fun _ => w1) rfl (fun _ => rfl) (fun _ => And.intro (by simp; try exact Leq.refl _) (And.intro (by simp [lp]; try rw [tp]; exact Leq.aggD _) trivial)) ?_
        simp -dsimp
        repeat (first | apply wG | (apply wR; simp -dsimp) | refine aI ?_)
        refine WP.ret (finQ.retE ?_)
        simp -dsimp
    · obtain ⟨hz2, he2⟩ : z = fcs f0 0 57 ++ zsC ∧ e2 ≠ 0 := by
        unfold sgnR at hz
        split at hz
        · rw [if_neg fun h => hall ⟨by assumption, h⟩] at hz
          cases hz
          exact ⟨rfl, by decide⟩
        · cases hz
          exact ⟨rfl, by decide⟩
      subst hz2
      obtain ⟨Z, hZ, lZ, dZ, aZ⟩ : ∃ Z, fcs f0 0 57 ++ zsC = Z ∧ Z.length = 61 ∧ (∀ d ∈ Z, oneD d = true) ∧ atL (Z.map AV.d) 58 = .d (.v (.slice none 0 0)) := ⟨_, rfl, rfl, by decide, rfl⟩
      rw [hZ]
      simp -dsimp [setL_whole, lZ]
      repeat (first | apply wG | (apply wR; simp -dsimp [setL_whole, lZ]) | refine aI ?_)
      refine cT (by simp [he2]) ?_
      repeat (first | apply wG | (apply wR; simp -dsimp [he2, aZ, lZ]) | refine aI ?_)
      refine WP.ret (finQ.retE ?_)
      simp -dsimp [he2, aZ, lZ]
  · refine cT (by simp [hfw]) ?_
    repeat (first | apply wG | (apply wR; simp -dsimp) | refine aI ?_)
    refine WP.ret (finQ.retE ?_)
    simp -dsimp
end Go.Proofs.YtaplgjnlfleklaaDoor
