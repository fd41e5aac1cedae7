/-
  Crews: CrewsTurned, walked.
-/
import Derived.Test.YtaplgjnlfleklaaDoorKMe
import Derived.Test.YtaplgjnlfleklaaDoorKMg
set_option linter.unusedSectionVars false
set_option linter.unusedSimpArgs false
set_option linter.unusedVariables false
namespace Go.Proofs.YtaplgjnlfleklaaDoor
open Go.Xe Go.RowKit

theorem fkC_len {w : List (Sg × Sg)} (h : ∀ q ∈ w, sgOk q.1 ∧ sgOk q.2) : (fkC w).length = w.length * 122 := by
  induction w with
  | nil => rfl
  | cons q w ih =>
    have h1 := fkc_len (h q (by simp)).1 (h q (by simp)).2
    have h2 := ih fun x hx => h x (by simp [hx])
    have h3 : fkC (q :: w) = fkc q ++ fkC w := by simp [fkC]
    rw [h3, List.length_append, h1, h2, List.length_cons]; omega
theorem fkC_at {w : List (Sg × Sg)} (h : ∀ q ∈ w, sgOk q.1 ∧ sgOk q.2) {i : Nat} (hi : i < w.length) : List.take 122 (List.drop (i * 122) (fkC w)) = fkc w[i] := by
  have e : w = w.take i ++ w[i] :: w.drop (i + 1) := by
    rw [← List.drop_eq_getElem_cons hi, List.take_append_drop]
  have h1 : fkC w = fkC (w.take i) ++ (fkc w[i] ++ fkC (w.drop (i + 1))) := by
    refine (congrArg fkC e).trans ?_
    simp only [fkC, List.flatMap_append, List.flatMap_cons]
  have h2 : (fkC (w.take i)).length = i * 122 := by
    rw [fkC_len fun q hq => h q (List.mem_of_mem_take hq), List.length_take, Nat.min_eq_left (by omega)]
  have h3 := fkc_len (h w[i] (List.getElem_mem _)).1 (h w[i] (List.getElem_mem _)).2
  rw [h1, List.drop_left' h2, List.take_left' h3]
abbrev tuT (l : List Sg) (w1 w2 : List (Sg × Sg)) (i : Nat) : St := mkS 84 [(0, .d (sgD l false)), (4, .d (.v (.bool false))), (6, .d (slK w1)), (7, .d (slK w2)), (8, .d (.v (.int .i64 (i : Int))))] []
set_option maxRecDepth 10000 in
set_option maxHeartbeats 4000000 in
theorem law_turned (a : List Sg) (turn : Int) (ha : ∀ p ∈ a, sgOk p) (hfa : ∀ p ∈ a, sgFT p) (hna : a.length ≤ 1000000000000) (ht0 : 0 ≤ turn) (ht1 : turn < 18446744073709551616) :
    Fn0 Tryd.prog 5 [sgD a false, .v (.int .u64 turn)] (.v (.bool true)) := by
  refine Fun.of_wp (pn := noPn) Tryd.tab Tryd.func5 rfl fun β0 => ?_
  simp only [Tryd.f5]
  repeat (first | apply wG | (apply wR; simp -dsimp) | refine aI ?_)
  refine vcStop.call0 Tryd.body6 sane13_ok rfl rfl (by simp) ?_
  simp -dsimp
  repeat (first | apply wG | (apply wR; simp -dsimp) | refine aI ?_)
  refine cF (by simp) ?_
  refine WP.skip ?_
  simp -dsimp
  repeat (first | apply wG | (apply wR; simp -dsimp) | refine aI ?_)
  refine vcStop.call0L Tryd.body13 (few13T_ok a false 10 ha hfa hna) rfl rfl (And.intro (.refl _) (And.intro (.refl _) trivial)) ?_
  simp -dsimp
  repeat (first | apply wG | (apply wR; simp -dsimp) | refine aI ?_)
  by_cases hfw : (a.length ≤ 10 ∧ a.all shrtT = true) ∧ a ≠ []
  · obtain ⟨⟨hla, has⟩, hne⟩ := hfw
    have hpos : 0 < a.length := List.length_pos_iff.2 hne
    refine cF (by simp [hla, has, hne]) ?_
    refine WP.skip ?_
    simp -dsimp
    have hu : IntKind.u64.wrap (a.length : Int) = (a.length : Int) := by rw [IntKind.wrap_u64]; omega
    obtain ⟨k, hk, hke⟩ : ∃ k, k < a.length ∧ IntKind.i64.wrap (turn.tmod (a.length : Int)) = (k : Int) := by
      have h1 : turn.tmod (a.length : Int) = turn % (a.length : Int) := Int.tmod_eq_emod_of_nonneg ht0
      have h2 := Int.emod_lt_of_pos turn (b := (a.length : Int)) (by omega)
      have h3 := Int.emod_nonneg turn (b := (a.length : Int)) (by omega)
      refine ⟨(turn % (a.length : Int)).toNat, by omega, ?_⟩
      rw [h1, IntWalk.i64_in _ (by omega)]; omega
    have hsa := sgC_len ha
    obtain ⟨l1, p, l2, ea, rfl⟩ : ∃ l1 p l2, a = l1 ++ p :: l2 ∧ l1.length = k := ⟨a.take k, a[k], a.drop (k + 1), by rw [← List.drop_eq_getElem_cons hk, List.take_append_drop], by rw [List.length_take]; omega⟩
    have hp : sgOk p := ha p (by rw [ea]; simp)
    have lp := sgc_len hp
    have h1 : ∀ q ∈ l1, sgOk q := fun q hq => ha q (by rw [ea]; simp [hq])
    have h2 : ∀ q ∈ p :: l2, sgOk q := fun q hq => ha q (by rw [ea]; simp [List.mem_cons.1 hq])
    have ls1 := sgC_len h1
    have ls2 := sgC_len h2
    have eC : sgC a = sgC l1 ++ sgC (p :: l2) := by rw [ea, sgC_append]
    have lA : a.length = l1.length + (l2.length + 1) := by rw [ea]; simp
    have hdr : List.take ((a.length - l1.length) * 61) (List.drop (l1.length * 61) ((sgC a).map AV.d)) = (sgC (p :: l2)).map .d := by
      rw [eC, List.map_append, List.drop_left' (by rw [List.length_map, ls1]), List.take_of_length_le (by rw [List.length_map, ls2, List.length_cons]; omega)]
    have htk : List.take (l1.length * 61) ((sgC a).map AV.d) = (sgC l1).map .d := by
      rw [eC, List.map_append, List.take_left' (by rw [List.length_map, ls1])]
    have hpc : List.take 61 (List.drop (l1.length * 61) (sgC a)) = sgc p := by
      rw [eC, List.drop_left' ls1, show sgC (p :: l2) = sgc p ++ sgC l2 from rfl, List.take_left' lp]
    have hpm : List.take 61 (List.drop (l1.length * 61) ((sgC a).map AV.d)) = (sgc p).map .d := by
      rw [← List.map_drop, ← List.map_take, hpc]
    have ht : List.take 61 (sgc p) = sgc p := List.take_of_length_le (by omega)
    have htm : List.take 61 ((sgc p).map AV.d) = (sgc p).map .d := by rw [← List.map_take, ht]
    have hset : ∀ cs : List AV, cs.length = 61 → setL cs 0 ((sgc p).map AV.d) = (sgc p).map .d := fun cs hc => by
      rw [setL_eq _ _ _ (by rw [List.length_map]; omega), List.take_zero, List.nil_append, List.length_map, List.drop_of_length_le (by omega), List.append_nil]
    repeat (first | apply wG | (apply wR; simp -dsimp [hu, hke]) | refine aI ?_)
    refine vcStop.call0L Tryd.body14 (forks_ok a false ha (by omega)) rfl rfl (And.intro (.refl _) trivial) ?_
    simp -dsimp
    repeat (first | apply wG | (apply wR; simp -dsimp [hke, hdr, htk, hpc, hpm, ht, htm, hset]) | refine aI ?_)
    refine And.intro ⟨lp, sgc_oneD hp⟩ ?_
    repeat (first | apply wG | (apply wR; simp -dsimp) | refine aI ?_)
    have hcat : List.map AV.d (sgC (p :: l2)) ++ (List.map AV.d (sgC l1) ++ List.map AV.d (sgc p)) = (sgC (p :: l2 ++ (l1 ++ [p]))).map .d := by
      rw [sgC_append, sgC_append, List.map_append, List.map_append, show sgC [p] = sgc p from by simp [sgC, sgc]]
    have hlen : a.length - l1.length + l1.length + 1 = (p :: l2 ++ (l1 ++ [p])).length := by simp; omega
    rw [hcat, hlen]
    have hR : ∀ q, q ∈ p :: l2 ++ (l1 ++ [p]) ↔ q ∈ a := fun q => by
      rw [ea]; simp only [List.mem_append, List.mem_cons, List.not_mem_nil, or_false]
      constructor
      · rintro ((h | h) | h | h) <;> simp [h]
      · rintro (h | h | h) <;> simp [h]
    have lR : (p :: l2 ++ (l1 ++ [p])).length ≤ 11 := by rw [← hlen]; omega
    generalize p :: l2 ++ (l1 ++ [p]) = R at hR lR
    have hRk : ∀ q ∈ R, sgOk q := fun q hq => ha q ((hR q).1 hq)
    refine vcStop.call Tryd.body14 (forksR13 R hRk (by omega)) (rl [(1000, 41)]) rfl rfl (by simp [BoxLeq]) (CallOk.of (by simp [BoxLeq]) rfl (by first | rfl | (simp [BoxLeq]; done)) (by simp [BoxLeq]) (by simp [BoxLeq])) (fun _ h => h.elim) (fun ⟨_, h⟩ => h.elim) (fun ⟨_, h⟩ => h.elim) (by simp [BoxLeq]) ?_
    have hfk := frk_facts (fun s hs => (ha s hs).1) hR
    have ow1 : ∀ q ∈ frkL a, sgOk q.1 ∧ sgOk q.2 := fun q hq => frk_in ha hq
    have ow2 : ∀ q ∈ frkL R, sgOk q.1 ∧ sgOk q.2 := fun q hq => frk_in hRk hq
    have lw1 : (frkL a).length ≤ 900 := by
      refine Nat.le_trans (List.length_filterMap_le _ _) ?_
      have h1 := sortR_len (plsL a) []
      have h2 : (plsL a).length ≤ a.length := by rw [plsL, List.length_map]; exact List.length_filter_le _ _
      rw [sortR]
      simp only [List.length_nil, Nat.zero_add] at h1
      omega
    generalize frkL a = w1 at hfk ow1 lw1
    generalize frkL R = w2 at hfk ow2
    have hle : w2.length = w1.length := by simpa using congrArg List.length hfk
    simp -dsimp
    repeat (first | apply wG | (apply wR; simp -dsimp [hle]) | refine aI ?_)
    refine cF (by simp [hle]) ?_
    refine WP.skip ?_
    simp -dsimp
    repeat (first | apply wG | (apply wR; simp -dsimp) | refine aI ?_)
    refine WP.loopWk (fun q S => ∃ i, i + q = w1.length ∧ S = tuT a w1 w2 i) w1.length (S0 := tuT a w1 w2 0) (Wk.lessE [] (by simp) (by simp)) ⟨0, by simp, rfl⟩ ?_
    rintro q _ ⟨i, hi, rfl⟩
    simp -dsimp
    repeat (first | apply wG | (apply wR; simp -dsimp) | refine aI ?_)
    by_cases hlt : i < w1.length
    · refine cT (by simp; omega) ?_
      refine WP.skip ?_
      have hlt2 : i < w2.length := by omega
      have x1 := fkC_at ow1 hlt
      have x2 := fkC_at ow2 hlt2
      have o1 := ow1 w1[i] (List.getElem_mem _)
      have o2 := ow2 w2[i] (List.getElem_mem _)
      have hfi : fs2 w2[i] = fs2 w1[i] := by
        have h := congrArg (fun x => x[i]?) hfk
        simp only [List.getElem?_map, List.getElem?_eq_getElem hlt, List.getElem?_eq_getElem hlt2, Option.map_some, Option.some.injEq] at h
        exact h
      have hfa : w2[i].1.1 = w1[i].1.1 := congrArg (fun x : F × F => x.1) hfi
      have hfb : w2[i].2.1 = w1[i].2.1 := congrArg (fun x : F × F => x.2) hfi
      have u1 := same_ok w1[i].1.1 w2[i].1.1 o1.1.1 o2.1.1
      have u2 := same_ok w1[i].2.1 w2[i].2.1 o1.2.1 o2.2.1
      rw [(eqF_iff o1.1.1 o2.1.1).2 hfa.symm] at u1
      rw [(eqF_iff o1.2.1 o2.2.1).2 hfb.symm] at u2
      generalize w1[i] = p1 at x1 o1 u1 u2
      generalize w2[i] = p2 at x2 o2 u1 u2
      have lf1 := fkc_len o1.1 o1.2
      have lf2 := fkc_len o2.1 o2.2
      have z1 : List.take 57 (fkc p1) = fcs p1.1.1 0 57 := by
        rw [fkc, List.take_append_of_le_length (by rw [sgc_len o1.1]; decide), sgc_57D]
      have z2 : List.take 57 (List.drop 61 (fkc p1)) = fcs p1.2.1 0 57 := by
        rw [fkc, List.drop_left' (sgc_len o1.1), sgc_57D]
      have z3 : List.take 57 (fkc p2) = fcs p2.1.1 0 57 := by
        rw [fkc, List.take_append_of_le_length (by rw [sgc_len o2.1]; decide), sgc_57D]
      have z4 : List.take 57 (List.drop 61 (fkc p2)) = fcs p2.2.1 0 57 := by
        rw [fkc, List.drop_left' (sgc_len o2.1), sgc_57D]
      have e1 : IntKind.i64.wrap ((i : Int) + 1) = (i : Int) + 1 := IntWalk.i64_in _ (by omega)
      simp -dsimp
      repeat (first | apply wG | (apply wR; simp -dsimp [x1, x2, lf1, lf2, z1, z2, z3, z4]) | refine aI ?_)
      refine vcStop.call0L Tryd.body11 u1 rfl rfl (And.intro (by simp [fD]) (And.intro (by simp [fD]) trivial)) ?_
      simp -dsimp
      have y1 : 57 ≤ min 122 ((fkC w1).length - i * 122) - 61 := by rw [fkC_len ow1]; omega
      have y2 : 57 ≤ min 122 ((fkC w2).length - i * 122) - 61 := by rw [fkC_len ow2]; omega
      repeat (first | apply wG | (apply wR; simp -dsimp [x1, x2, lf1, lf2, z1, z2, z3, z4]) | refine aI ?_)
      refine vcStopG.call0L Tryd.body11 (fun _ => u2) rfl (fun _ => rfl) (fun _ => And.intro (by simp [fD, x1, z2]) (And.intro (by simp [fD, x2, z4]) trivial)) ?_
      simp -dsimp
      repeat (first | apply wG | (apply wR; simp -dsimp) | refine aI ?_)
      refine cF (by simp) ?_
      refine WP.skip ?_
      simp -dsimp
      repeat (first | apply wG | (apply wR; simp -dsimp) | refine aI ?_)
      refine loopW.next (tuT a w1 w2 (i + 1)) (Wk.lessE [] (by simp [e1]) (by simp)) (q - 1) (by omega) ⟨i + 1, by omega, rfl⟩
    · refine cF (by simp; omega) ?_
      refine WP.exit ?_
      simp -dsimp
      repeat (first | apply wG | (apply wR; simp -dsimp) | refine aI ?_)
      refine WP.ret (finQ.retE ?_)
      simp -dsimp
  · refine cT (by cases h1 : a.all shrtT <;> by_cases h2 : a.length ≤ 10 <;> simp_all) ?_
    repeat (first | apply wG | (apply wR; simp -dsimp) | refine aI ?_)
    refine WP.ret (finQ.retE ?_)
    simp -dsimp
end Go.Proofs.YtaplgjnlfleklaaDoor
