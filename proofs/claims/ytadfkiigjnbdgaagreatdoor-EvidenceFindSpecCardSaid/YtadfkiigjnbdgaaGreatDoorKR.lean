/-
  Joined texts.
-/
import Derived.Test.YtadfkiigjnbdgaaGreatDoorKUk
set_option linter.unusedVariables false
set_option linter.unusedSimpArgs false
set_option linter.unusedSectionVars false
/-
  Evidence: the chapter's examples, in plain lists.
-/
set_option linter.unusedSimpArgs false
set_option linter.unusedVariables false
namespace Go.Proofs.YtadfkiigjnbdgaaGreatDoor
open Go.Xe Go.RowKit

def rA1 : Sg := (shF 2 1 5, zs)
def rA2 : Sg := (shF 2 4 6, zs)
def rB1 : Sg := (shF 2 1 7, zs)
theorem rA1_ok : sgOk rA1 := shS_ok (by unfold isI; omega) (by unfold isI; omega) (by unfold isI; omega)
theorem rA2_ok : sgOk rA2 := shS_ok (by unfold isI; omega) (by unfold isI; omega) (by unfold isI; omega)
theorem rB1_ok : sgOk rB1 := shS_ok (by unfold isI; omega) (by unfold isI; omega) (by unfold isI; omega)
def xA : List Sg := [rA1, rA2]
def xB : List Sg := [rB1, rA2]
theorem xA_ok : ∀ p ∈ xA, sgOk p := fun p hp => by
  simp only [xA, List.mem_cons, List.not_mem_nil, or_false] at hp
  rcases hp with rfl | rfl
  · exact rA1_ok
  · exact rA2_ok
theorem xB_ok : ∀ p ∈ xB, sgOk p := fun p hp => by
  simp only [xB, List.mem_cons, List.not_mem_nil, or_false] at hp
  rcases hp with rfl | rfl
  · exact rB1_ok
  · exact rA2_ok
theorem xA_no : ∀ p ∈ xA, p.1 1 ≤ 200 := fun p hp => by
  simp only [xA, List.mem_cons, List.not_mem_nil, or_false] at hp
  rcases hp with rfl | rfl <;> decide
theorem sn_find : (fndO xA xB (2, 1)).isSome = true := by kernel_rfl
theorem sn_findA : (fndR xA xB (2, 1)).1.1 2 = 5 := by kernel_rfl
theorem sn_findB : (fndR xA xB (2, 1)).2.1 2 = 7 := by kernel_rfl
theorem sn_none : (fndO xA [] (2, 1)).isSome = false := by kernel_rfl
theorem sn_gaps : gapS (vF xA) (isA (crN (vF xA) (vF xA).length)) = [(2, 2), (2, 3)] := by kernel_rfl
theorem sn_alt0 : altL (vF xA) (vF xA) = [] := by kernel_rfl
theorem sn_alt1 : altL (vF xA) (vF xB) = [(2, 1)] := by kernel_rfl
theorem sn_gaps0 : gapS (vF []) (isA (crN (vF []) (vF []).length)) = [] := by kernel_rfl
theorem sn_chk0 : chkV 0 0 [] [] = 0 := by kernel_rfl
theorem sn_one : oneE rA1.1 = 130 := by kernel_rfl
theorem sn_chk1 : chkV (oneE rA1.1) (oneE rA1.1) xA xA = 130 := by rw [chkV, if_pos (by rw [sn_one]; decide), sn_one]
end Go.Proofs.YtadfkiigjnbdgaaGreatDoor

/-
  Evidence: the chapter's examples, walked.
-/
set_option linter.unusedSimpArgs false
set_option linter.unusedVariables false
namespace Go.Proofs.YtadfkiigjnbdgaaGreatDoor
open Go.Xe Go.RowKit

theorem fkc_atA (q : Sg × Sg) : atL ((fkc q).map AV.d) 2 = .d (.v (.int .i64 (q.1.1 2))) := rfl
theorem fkc_atB {q : Sg × Sg} (h : sgOk q.1) : atL ((fkc q).map AV.d) 63 = .d (.v (.int .i64 (q.2.1 2))) := by
  rw [← atL_eq, fkc, List.map_append, List.getElem?_append_right (by rw [List.length_map, sgc_len h]; omega), List.length_map, sgc_len h]
  rfl
theorem same_row (x y : List R2) (hx : ∀ r ∈ x, isI r.1 ∧ isI r.2) (hy : ∀ r ∈ y, isI r.1 ∧ isI r.2) (hn : x.length ≤ 100000) : Fun Tryz.prog 12 [.d (slR x), .row 1000] [(1000, rfB y)] (.d (.v (.bool (decide (x = y))))) [] fun _ => False :=
  Fun.ofRow 1000 (T := 26) (cs := rfC y) (args' := [.d (slR x), .row 1000]) (bi' := [(1000, rfB y)]) (sameR_ok x y hx hy hn) rfl rfl trivial
set_option maxRecDepth 10000 in
set_option maxHeartbeats 4000000 in
theorem sane_ok : Fn0 Tryz.prog 4 [] (.v (.bool true)) := by
  have a1 := sgc_len rA1_ok
  have a2 := sgc_len rA2_ok
  have b1 := sgc_len rB1_ok
  have o1 := sgc_oneD rA1_ok
  have o2 := sgc_oneD rA2_ok
  have o3 := sgc_oneD rB1_ok
  have hof1 : Fun Tryz.prog 10 [.row 1000] [(1000, .row 58 61 2 ((sgC xA).map .d))] (.d (lgD xA false)) [] fun _ => False := of_row xA
  have hof2 : Fun Tryz.prog 10 [.row 1000] [(1000, .row 58 61 2 ((sgC xB).map .d))] (.d (lgD xB false)) [] fun _ => False := of_row xB
  have hf1 := find_ok xA xB false false (2, 1) xA_ok xB_ok (by decide) (by unfold isI; omega) (by unfold isI; omega)
  have hf2 := find_ok xA [] false false (2, 1) xA_ok (by simp) (by decide) (by unfold isI; omega) (by unfold isI; omega)
  have eA : sgC xA = sgc rA1 ++ sgc rA2 := by simp [sgC, xA, sgc]
  have eB : sgC xB = sgc rB1 ++ sgc rA2 := by simp [sgC, xB, sgc]
  have lA : xA.length = 2 := rfl
  have lB : xB.length = 2 := rfl
  have h12 : ∀ cs : List AV, cs.length = 122 → setL (setL cs 0 ((sgc rA1).map .d)) 61 ((sgc rA2).map .d) = (sgC xA).map .d := fun cs hc => by
    rw [setL_two (by rw [List.length_map, a1]) (by rw [List.length_map, a2]) hc, eA, List.map_append]
  have h13 : ∀ cs : List AV, cs.length = 122 → setL (setL cs 0 ((sgc rB1).map .d)) 61 ((sgc rA2).map .d) = (sgC xB).map .d := fun cs hc => by
    rw [setL_two (by rw [List.length_map, b1]) (by rw [List.length_map, a2]) hc, eB, List.map_append]
  have hg1 : Fn0 Tryz.prog 13 [lgD xA false] (slR [(2, 2), (2, 3)]) := by
    have := gaps_ok xA false (by decide) xA_ok xA_no
    rwa [sn_gaps] at this
  have hg0 : Fn0 Tryz.prog 13 [lgD [] false] (slR []) := by
    have := gaps_ok [] false (by decide) (by simp) (by simp)
    rwa [sn_gaps0] at this
  have ha0 : Fn0 Tryz.prog 14 [lgD xA false, lgD xA false] (slR []) := by
    have := altered_ok xA xA false false (by decide) (by decide) xA_ok xA_ok
    rwa [sn_alt0] at this
  have ha1 : Fn0 Tryz.prog 14 [lgD xA false, lgD xB false] (slR [(2, 1)]) := by
    have := altered_ok xA xB false false (by decide) (by decide) xA_ok xB_ok
    rwa [sn_alt1] at this
  have hs1 := same_row [(2, 2), (2, 3)] [(2, 2), (2, 3)] (by simp [isI]) (by simp [isI]) (by decide)
  have hs2 := sameR_ok [(2, 1)] [(2, 1)] (by simp [isI]) (by simp [isI]) (by decide)
  have hk0 : Fn0 Tryz.prog 15 [nilD, lgD [] false, lgD [] false] (.v (.int .i64 0)) := by
    have := evCheck_ok nilD [] [] false false 0 0 (chkN0_ok false) (chkN0_ok false) (by decide) (by decide) (by simp) (by simp) (by simp)
    rwa [sn_chk0] at this
  have hk1 : Fn0 Tryz.prog 15 [nilD, lgD xA false, lgD xA false] (.v (.int .i64 130)) := by
    have hc : Fn0 Tryz.prog 29 [nilD, lgD xA false] (.v (.int .i64 (oneE rA1.1))) := chkN1_ok rA1 [rA2] false xA_ok (by decide) (by decide)
    have := evCheck_ok nilD xA xA false false _ _ hc hc (by decide) (by decide) xA_ok xA_ok xA_no
    rwa [sn_chk1] at this
  refine Fun.of_wp (pn := noPn) Tryz.tab Tryz.func4 rfl fun β0 => ?_
  simp only [Tryz.f4]
  repeat (first | apply wG | (apply wR; simp -dsimp) | refine aI ?_)
  refine vcStop.call0 Tryz.body11 (record_ok 2 1 5) rfl rfl (by simp) ?_
  simp -dsimp
  refine vcStop.call0 Tryz.body11 (record_ok 2 4 6) rfl rfl (by simp) ?_
  rw [show sgV (shF 2 1 5, zs) = .agg (sgc rA1) from rfl, show sgV (shF 2 4 6, zs) = .agg (sgc rA2) from rfl]
  simp -dsimp [a1, a2, h12]
  refine And.intro ⟨o1, by rw [setL_length]; simp, o2⟩ ?_
  refine vcStop.call Tryz.body10 (hof1) (rl [(1000, 11)]) rfl rfl (by simp [BoxLeq]) (CallOk.of (by simp [BoxLeq]) rfl (by first | rfl | (simp [BoxLeq]; done)) (by simp [BoxLeq]) (by simp [BoxLeq])) (fun _ h => h.elim) (fun ⟨_, h⟩ => h.elim) (fun ⟨_, h⟩ => h.elim) (by simp [BoxLeq]) ?_
  simp -dsimp
  repeat (first | apply wG | (apply wR; simp -dsimp) | refine aI ?_)
  refine vcStop.call0 Tryz.body11 (record_ok 2 1 7) rfl rfl (by simp) ?_
  simp -dsimp
  refine vcStop.call0 Tryz.body11 (record_ok 2 4 6) rfl rfl (by simp) ?_
  rw [show sgV (shF 2 1 7, zs) = .agg (sgc rB1) from rfl, show sgV (shF 2 4 6, zs) = .agg (sgc rA2) from rfl]
  simp -dsimp [b1, a2, h13]
  refine And.intro ⟨o3, by rw [setL_length]; simp, o2⟩ ?_
  refine vcStop.call Tryz.body10 (hof2) (rl [(1000, 15)]) rfl rfl (by simp [BoxLeq]) (CallOk.of (by simp [BoxLeq]) rfl (by first | rfl | (simp [BoxLeq]; done)) (by simp [BoxLeq]) (by simp [BoxLeq])) (fun _ h => h.elim) (fun ⟨_, h⟩ => h.elim) (fun ⟨_, h⟩ => h.elim) (by simp [BoxLeq]) ?_
  simp -dsimp
  repeat (first | apply wG | (apply wR; simp -dsimp) | refine aI ?_)
  refine vcStop.call0L Tryz.body7 hf1 rfl rfl (And.intro (Leq.aggD [sgD xA false]) (And.intro (Leq.aggD [sgD xB false]) (And.intro (Leq.aggD [.v (.int .i64 2), .v (.int .i64 1)]) trivial))) ?_
  obtain ⟨q1, q2⟩ := fndR_ok xA_ok xB_ok (2, 1)
  obtain ⟨u1, u2⟩ := fndR_ok (b := []) xA_ok (by simp) (2, 1)
  have q3 := sn_findA
  have q4 := sn_findB
  generalize fndR xA xB (2, 1) = q at q1 q2 q3 q4
  generalize fndR xA [] (2, 1) = u at u1 u2 hf2
  have fl := fkc_len q1 q2
  have fo := fkc_one q1 q2
  have gl := fkc_len u1 u2
  have go := fkc_one u1 u2
  have v1 := fkc_atA q
  have v2 := fkc_atB (q := q) q1
  rw [q3] at v1
  rw [q4] at v2
  rw [sn_find]
  rw [sn_none] at hf2
  simp -dsimp [fl]
  repeat (first | apply wG | (apply wR; simp -dsimp [fl]) | refine aI ?_)
  refine vcStop.call0L Tryz.body7 hf2 rfl rfl (And.intro (Leq.aggD [sgD xA false]) (And.intro (by simp [sgC]) (And.intro (Leq.aggD [.v (.int .i64 2), .v (.int .i64 1)]) trivial))) ?_
  simp -dsimp [gl]
  repeat (first | apply wG | (apply wR; simp -dsimp [gl]) | refine aI ?_)
  refine vcStop.call0L Tryz.body13 hg1 rfl rfl (And.intro (Leq.aggD [sgD xA false]) trivial) ?_
  simp -dsimp
  refine vcStop.call Tryz.body12 (hs1) (rl [(1000, 36)]) rfl rfl (by simp [rfC, BoxLeq]) (CallOk.of (by simp [rfC, BoxLeq]) rfl (by first | rfl | (simp [rfC, BoxLeq]; done)) (by simp [rfC, BoxLeq]) (by simp [rfC, BoxLeq])) (fun _ h => h.elim) (fun ⟨_, h⟩ => h.elim) (fun ⟨_, h⟩ => h.elim) (by simp [rfC, BoxLeq]) ?_
  simp -dsimp
  repeat (first | apply wG | (apply wR; simp -dsimp) | refine aI ?_)
  refine vcStopG.call0L Tryz.body14 (fun _ => ha0) rfl (fun _ => rfl) (fun _ => And.intro (Leq.aggD [sgD xA false]) (And.intro (Leq.aggD [sgD xA false]) trivial)) ?_
  simp -dsimp
  repeat (first | apply wG | (apply wR; simp -dsimp) | refine aI ?_)
  refine vcStopG.call0L Tryz.body14 (fun _ => ha1) rfl (fun _ => rfl) (fun _ => And.intro (Leq.aggD [sgD xA false]) (And.intro (Leq.aggD [sgD xB false]) trivial)) ?_
  simp -dsimp
  refine vcStopG.buildData Tryz.tab (ds := rfC [(2, 1)]) rfl rfl rfl rfl (LeqL.refl _) (by decide) (by decide) (by simp) ?_
  simp -dsimp
  refine vcStopG.call0L Tryz.body12 (fun _ => hs2) rfl (fun _ => rfl) (fun _ => And.intro (.refl _) (And.intro (.refl _) trivial)) ?_
  simp -dsimp
  repeat (first | apply wG | (apply wR; simp -dsimp) | refine aI ?_)
  refine vcStopG.call0L Tryz.body13 (fun _ => hg0) rfl (fun _ => rfl) (fun _ => And.intro (by simp [sgC]) trivial) ?_
  simp -dsimp
  repeat (first | apply wG | (apply wR; simp -dsimp [v1, v2]) | refine aI ?_)
  refine vcStopG.call0L Tryz.body15 (fun _ => hk0) rfl (fun _ => rfl) (fun _ => And.intro (.refl _) (And.intro (by simp [sgC]) (And.intro (by simp [sgC]) trivial))) ?_
  simp -dsimp
  repeat (first | apply wG | (apply wR; simp -dsimp) | refine aI ?_)
  refine vcStopG.call0L Tryz.body15 (fun _ => hk1) rfl (fun _ => rfl) (fun _ => And.intro (.refl _) (And.intro (Leq.aggD [sgD xA false]) (And.intro (Leq.aggD [sgD xA false]) trivial))) ?_
  simp -dsimp
  repeat (first | apply wG | (apply wR; simp -dsimp) | refine aI ?_)
  refine WP.ret (finQ.retE ?_)
  simp -dsimp
end Go.Proofs.YtadfkiigjnbdgaaGreatDoor
