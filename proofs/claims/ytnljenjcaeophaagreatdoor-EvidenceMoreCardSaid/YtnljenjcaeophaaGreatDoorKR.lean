/-
  Joined texts.
-/
import Derived.Test.YtnljenjcaeophaaGreatDoorKUk
set_option maxRecDepth 10000
set_option linter.unusedVariables false
set_option linter.unusedSimpArgs false
set_option linter.unusedSectionVars false
namespace Go.Proofs.YtnljenjcaeophaaGreatDoor
open Go.Xe Go.RowKit
def rA1 : Sg := (shF 2 1 5, zs)
def rA2 : Sg := (shF 2 4 6, zs)
def rB1 : Sg := (shF 2 1 7, zs)
theorem rA1_ok : sgOk rA1 := shS_ok (by unfold isI; omega) (by unfold isI; omega) (by unfold isI; omega)
theorem rA2_ok : sgOk rA2 := shS_ok (by unfold isI; omega) (by unfold isI; omega) (by unfold isI; omega)
theorem rB1_ok : sgOk rB1 := shS_ok (by unfold isI; omega) (by unfold isI; omega) (by unfold isI; omega)
def xA : List Sg := [rA1, rA2]
def xB : List Sg := [rB1, rA2]
theorem xA_ok : ∀ p ∈ xA, sgOk p := fun p hp => by
 simp only [xA, List.mem_cons, List.not_mem_nil, or_false] at hp
 rcases hp with rfl | rfl
 ·exact rA1_ok
 ·exact rA2_ok
theorem xB_ok : ∀ p ∈ xB, sgOk p := fun p hp => by
 simp only [xB, List.mem_cons, List.not_mem_nil, or_false] at hp
 rcases hp with rfl | rfl
 ·exact rB1_ok
 ·exact rA2_ok
theorem xA_no : ∀ p ∈ xA, p.1 1 ≤ 200 := fun p hp => by
 simp only [xA, List.mem_cons, List.not_mem_nil, or_false] at hp
 rcases hp with rfl | rfl <;> decide
theorem sn_find : (fndO xA xB (2, 1)).isSome = true := by kernel_rfl
theorem sn_findA : (fndR xA xB (2, 1)).1.1 2 = 5 := by kernel_rfl
theorem sn_findB : (fndR xA xB (2, 1)).2.1 2 = 7 := by kernel_rfl
theorem sn_none : (fndO xA [] (2, 1)).isSome = false := by kernel_rfl
theorem sn_gaps : gapS (vF xA) (isA (crN (vF xA) (vF xA).length)) = [(2, 2), (2, 3)] := by kernel_rfl
theorem sn_alt0 : altL (vF xA) (vF xA) = [] := by kernel_rfl
theorem sn_alt1 : altL (vF xA) (vF xB) = [(2, 1)] := by kernel_rfl
theorem sn_gaps0 : gapS (vF []) (isA (crN (vF []) (vF []).length)) = [] := by kernel_rfl
theorem sn_chk0 : chkV 0 0 [] [] = 0 := by kernel_rfl
theorem sn_one : oneE rA1.1 = 130 := by kernel_rfl
theorem sn_chk1 : chkV (oneE rA1.1) (oneE rA1.1) xA xA = 130 := by rw [chkV, if_pos (by rw [sn_one]; decide), sn_one]
theorem fkc_atA (q : Sg × Sg) : atL ((fkc q).map AV.d) 2 = .d (.v (.int .i64 (q.1.1 2))) := rfl
theorem fkc_atB {q : Sg × Sg} (h : sgOk q.1) : atL ((fkc q).map AV.d) 63 = .d (.v (.int .i64 (q.2.1 2))) := by
 rw [← atL_eq, fkc, List.map_append, List.getElem?_append_right (by rw [List.length_map, sgc_len h]; omega), List.length_map, sgc_len h]
 rfl
theorem same_row (x y : List R2) (hx : ∀ r ∈ x, isI r.1 ∧ isI r.2) (hy : ∀ r ∈ y, isI r.1 ∧ isI r.2) (hn : x.length ≤ 100000) : Fun Tryz.prog 45 [.d (slR x), .row 1000] [(1000, rfB y)] (.d (.v (.bool (decide (x = y))))) [] fun _ => False :=
 Fun.ofRow 1000 (T := 63) (cs := rfC y) (args' := [.d (slR x), .row 1000]) (bi' := [(1000, rfB y)]) (sameR_ok x y hx hy hn) rfl rfl trivial
set_option maxHeartbeats 4000000 in
theorem sane_ok : Fn0 Tryz.prog 11 [] (.v (.bool true)) := by
 have a1 := sgc_len rA1_ok
 have a2 := sgc_len rA2_ok
 have b1 := sgc_len rB1_ok
 have o1 := sgc_oneD rA1_ok
 have o2 := sgc_oneD rA2_ok
 have o3 := sgc_oneD rB1_ok
 have hof1 : Fun Tryz.prog 43 [.row 1000] [(1000, .row 70 61 2 ((sgC xA).map .d))] (.d (lgD xA false)) [] fun _ => False := of_row xA
 have hof2 : Fun Tryz.prog 43 [.row 1000] [(1000, .row 70 61 2 ((sgC xB).map .d))] (.d (lgD xB false)) [] fun _ => False := of_row xB
 have hf1 := find_ok xA xB false false (2, 1) xA_ok xB_ok (by decide) (by unfold isI; omega) (by unfold isI; omega)
 have hf2 := find_ok xA [] false false (2, 1) xA_ok (by simp) (by decide) (by unfold isI; omega) (by unfold isI; omega)
 have eA : sgC xA = sgc rA1 ++ sgc rA2 := by simp [sgC, xA, sgc]
 have eB : sgC xB = sgc rB1 ++ sgc rA2 := by simp [sgC, xB, sgc]
 have lA : xA.length = 2 := rfl
 have lB : xB.length = 2 := rfl
 have h12 : ∀ cs : List AV, cs.length = 122 → setL (setL cs 0 ((sgc rA1).map .d)) 61 ((sgc rA2).map .d) = (sgC xA).map .d := fun cs hc => by
  rw [setL_two (by rw [List.length_map, a1]) (by rw [List.length_map, a2]) hc, eA, List.map_append]
 have h13 : ∀ cs : List AV, cs.length = 122 → setL (setL cs 0 ((sgc rB1).map .d)) 61 ((sgc rA2).map .d) = (sgC xB).map .d := fun cs hc => by
  rw [setL_two (by rw [List.length_map, b1]) (by rw [List.length_map, a2]) hc, eB, List.map_append]
 have hg1 : Fn0 Tryz.prog 46 [lgD xA false] (slR [(2, 2), (2, 3)]) := by
  have := gaps_ok xA false (by decide) xA_ok xA_no
  rwa [sn_gaps] at this
 have hg0 : Fn0 Tryz.prog 46 [lgD [] false] (slR []) := by
  have := gaps_ok [] false (by decide) (by simp) (by simp)
  rwa [sn_gaps0] at this
 have ha0 : Fn0 Tryz.prog 15 [lgD xA false, lgD xA false] (slR []) := by
  have := altered_ok xA xA false false (by decide) (by decide) xA_ok xA_ok
  rwa [sn_alt0] at this
 have ha1 : Fn0 Tryz.prog 15 [lgD xA false, lgD xB false] (slR [(2, 1)]) := by
  have := altered_ok xA xB false false (by decide) (by decide) xA_ok xB_ok
  rwa [sn_alt1] at this
 have hs1 := same_row [(2, 2), (2, 3)] [(2, 2), (2, 3)] (by simp [isI]) (by simp [isI]) (by decide)
 have hs2 := sameR_ok [(2, 1)] [(2, 1)] (by simp [isI]) (by simp [isI]) (by decide)
 have hk0 : Fn0 Tryz.prog 16 [nilD, lgD [] false, lgD [] false] (.v (.int .i64 0)) := by
  have := evCheck_ok nilD [] [] false false 0 0 (chkN0_ok false) (chkN0_ok false) (by decide) (by decide) (by simp) (by simp) (by simp)
  rwa [sn_chk0] at this
 have hk1 : Fn0 Tryz.prog 16 [nilD, lgD xA false, lgD xA false] (.v (.int .i64 130)) := by
  have hc : Fn0 Tryz.prog 21 [nilD, lgD xA false] (.v (.int .i64 (oneE rA1.1))) := chkN1_ok rA1 [rA2] false xA_ok (by decide) (by decide)
  have := evCheck_ok nilD xA xA false false _ _ hc hc (by decide) (by decide) xA_ok xA_ok xA_no
  rwa [sn_chk1] at this
 refine Fun.of_wp (pn := noPn) Tryz.tab Tryz.func11 rfl fun β0 => ?_
 simp only [Tryz.f11]
 repeat(first|apply wG|(apply wR;simp -dsimp)|refine aI ?_)
 refine vcStop.call0 Tryz.body44 (record_ok 2 1 5) rfl rfl (by simp) ?_
 simp -dsimp
 refine vcStop.call0 Tryz.body44 (record_ok 2 4 6) rfl rfl (by simp) ?_
 rw [show sgV (shF 2 1 5, zs) = .agg (sgc rA1) from rfl, show sgV (shF 2 4 6, zs) = .agg (sgc rA2) from rfl]
 simp -dsimp [a1, a2, h12]
 refine And.intro ⟨o1, by rw [setL_length]; simp, o2⟩ ?_
 refine vcStop.call Tryz.body43 (hof1) (rl [(1000, 11)]) rfl rfl (by simp [BoxLeq]) (CallOk.of (by simp [BoxLeq]) rfl (by first | rfl | (simp [BoxLeq]; done)) (by simp [BoxLeq]) (by simp [BoxLeq])) (fun _ h => h.elim) (fun ⟨_, h⟩ => h.elim) (fun ⟨_, h⟩ => h.elim) (by simp [BoxLeq]) ?_
 simp -dsimp
 repeat(first|apply wG|(apply wR;simp -dsimp)|refine aI ?_)
 refine vcStop.call0 Tryz.body44 (record_ok 2 1 7) rfl rfl (by simp) ?_
 simp -dsimp
 refine vcStop.call0 Tryz.body44 (record_ok 2 4 6) rfl rfl (by simp) ?_
 rw [show sgV (shF 2 1 7, zs) = .agg (sgc rB1) from rfl, show sgV (shF 2 4 6, zs) = .agg (sgc rA2) from rfl]
 simp -dsimp [b1, a2, h13]
 refine And.intro ⟨o3, by rw [setL_length]; simp, o2⟩ ?_
 refine vcStop.call Tryz.body43 (hof2) (rl [(1000, 15)]) rfl rfl (by simp [BoxLeq]) (CallOk.of (by simp [BoxLeq]) rfl (by first | rfl | (simp [BoxLeq]; done)) (by simp [BoxLeq]) (by simp [BoxLeq])) (fun _ h => h.elim) (fun ⟨_, h⟩ => h.elim) (fun ⟨_, h⟩ => h.elim) (by simp [BoxLeq]) ?_
 simp -dsimp
 repeat(first|apply wG|(apply wR;simp -dsimp)|refine aI ?_)
 refine vcStop.call0L Tryz.body41 hf1 rfl rfl (And.intro (Leq.aggD [sgD xA false]) (And.intro (Leq.aggD [sgD xB false]) (And.intro (Leq.aggD [.v (.int .i64 2), .v (.int .i64 1)]) trivial))) ?_
 obtain ⟨q1, q2⟩ := fndR_ok xA_ok xB_ok (2, 1)
 obtain ⟨u1, u2⟩ := fndR_ok (b := []) xA_ok (by simp) (2, 1)
 have q3 := sn_findA
 have q4 := sn_findB
 generalize fndR xA xB (2, 1) = q at q1 q2 q3 q4
 generalize fndR xA [] (2, 1) = u at u1 u2 hf2
 have fl := fkc_len q1 q2
 have fo := fkc_one q1 q2
 have gl := fkc_len u1 u2
 have go := fkc_one u1 u2
 have v1 := fkc_atA q
 have v2 := fkc_atB (q := q) q1
 rw [q3] at v1
 rw [q4] at v2
 rw [sn_find]
 rw [sn_none] at hf2
 simp -dsimp [fl]
 repeat(first|apply wG|(apply wR;simp -dsimp [fl])|refine aI ?_)
 refine vcStop.call0L Tryz.body41 hf2 rfl rfl (And.intro (Leq.aggD [sgD xA false]) (And.intro (by simp [sgC]) (And.intro (Leq.aggD [.v (.int .i64 2), .v (.int .i64 1)]) trivial))) ?_
 simp -dsimp [gl]
 repeat(first|apply wG|(apply wR;simp -dsimp [gl])|refine aI ?_)
 refine vcStop.call0L Tryz.body46 hg1 rfl rfl (And.intro (Leq.aggD [sgD xA false]) trivial) ?_
 simp -dsimp
 refine vcStop.call Tryz.body45 (hs1) (rl [(1000, 36)]) rfl rfl (by simp [rfC, BoxLeq]) (CallOk.of (by simp [rfC, BoxLeq]) rfl (by first | rfl | (simp [rfC, BoxLeq]; done)) (by simp [rfC, BoxLeq]) (by simp [rfC, BoxLeq])) (fun _ h => h.elim) (fun ⟨_, h⟩ => h.elim) (fun ⟨_, h⟩ => h.elim) (by simp [rfC, BoxLeq]) ?_
 simp -dsimp
 repeat(first|apply wG|(apply wR;simp -dsimp)|refine aI ?_)
 refine vcStopG.call0L Tryz.body15 (fun _ => ha0) rfl (fun _ => rfl) (fun _ => And.intro (Leq.aggD [sgD xA false]) (And.intro (Leq.aggD [sgD xA false]) trivial)) ?_
 simp -dsimp
 repeat(first|apply wG|(apply wR;simp -dsimp)|refine aI ?_)
 refine vcStopG.call0L Tryz.body15 (fun _ => ha1) rfl (fun _ => rfl) (fun _ => And.intro (Leq.aggD [sgD xA false]) (And.intro (Leq.aggD [sgD xB false]) trivial)) ?_
 simp -dsimp
 refine vcStopG.buildData Tryz.tab (ds := rfC [(2, 1)]) rfl rfl rfl rfl (LeqL.refl _) (by decide) (by decide) (by simp) ?_
 simp -dsimp
 refine vcStopG.call0L Tryz.body45 (fun _ => hs2) rfl (fun _ => rfl) (fun _ => And.intro (.refl _) (And.intro (.refl _) trivial)) ?_
 simp -dsimp
 repeat(first|apply wG|(apply wR;simp -dsimp)|refine aI ?_)
 refine vcStopG.call0L Tryz.body46 (fun _ => hg0) rfl (fun _ => rfl) (fun _ => And.intro (by simp [sgC]) trivial) ?_
 simp -dsimp
 repeat(first|apply wG|(apply wR;simp -dsimp [v1, v2])|refine aI ?_)
 refine vcStopG.call0L Tryz.body16 (fun _ => hk0) rfl (fun _ => rfl) (fun _ => And.intro (.refl _) (And.intro (by simp [sgC]) (And.intro (by simp [sgC]) trivial))) ?_
 simp -dsimp
 repeat(first|apply wG|(apply wR;simp -dsimp)|refine aI ?_)
 refine vcStopG.call0L Tryz.body16 (fun _ => hk1) rfl (fun _ => rfl) (fun _ => And.intro (.refl _) (And.intro (Leq.aggD [sgD xA false]) (And.intro (Leq.aggD [sgD xA false]) trivial))) ?_
 simp -dsimp
 repeat(first|apply wG|(apply wR;simp -dsimp)|refine aI ?_)
 refine WP.ret (finQ.retE ?_)
 simp -dsimp
def sgF (p : Sg) : Prop := ∃ (k : Int) (s1 n1 s2 n2 s3 n3 : Nat) (c1 c2 c3 : List D), isI k ∧ p.2 = [.v (.int .i64 k), .sl s1 c1 n1 false, .sl s2 c2 n2 false, .sl s3 c3 n3 false]
def shrtB (p : Sg) : Bool := match p.2 with
 | [_, .sl _ _ n1 _, .sl _ _ n2 _, .sl _ _ n3 _] => decide (n1 ≤ 100) && (decide (n2 ≤ 100) && decide (n3 ≤ 20))
 | _ => false
theorem shortS_ok (p : Sg) (h : sgF p) : Fn0 Tryz.prog 77 [.agg p.2] (.v (.bool (shrtB p))) := by
 obtain ⟨k, s1, n1, s2, n2, s3, n3, c1, c2, c3, _, e⟩ := h
 have hs : shrtB p = (decide (n1 ≤ 100) && (decide (n2 ≤ 100) && decide (n3 ≤ 20))) := by rw [shrtB, e]
 rw [hs, e]
 have e1 : ((n1 : Int) ≤ 100) = (n1 ≤ 100) := propext (by omega)
 have e2 : ((n2 : Int) ≤ 100) = (n2 ≤ 100) := propext (by omega)
 have e3 : ((n3 : Int) ≤ 20) = (n3 ≤ 20) := propext (by omega)
 refine Fun.of_wp (pn := noPn) Tryz.tab Tryz.func77 rfl fun β0 => ?_
 simp only [Tryz.f77]
 repeat(first|apply wG|(apply wR;simp -dsimp)|refine aI ?_)
 refine WP.ret (finQ.retE ?_)
 simp -dsimp [e1, e2, e3, Bool.and_assoc]
theorem sgc_sig {p : Sg} (h : sgOk p) : List.take 4 (List.drop 57 (sgc p)) = p.2 := by
 rw [sgc, List.drop_left' (fcs_len57 _), List.take_of_length_le (by rw [h.2.1]; omega)]
abbrev fwS (l : List Sg) (b : Bool) (m : Int) (i : Nat) : St := mkS 23 [(0, .d (sgD l b)), (1, .d (.v (.int .i64 m))), (5, .d (.v (.int .i64 i)))] []
theorem few13_ok (l : List Sg) (b : Bool) (m : Nat) (hl : ∀ p ∈ l, sgOk p) (hf : ∀ p ∈ l, sgF p) (hn : l.length ≤ 1000000000000) : Fn0 Tryz.prog 32 [sgD l b, .v (.int .i64 m)] (.v (.bool (decide (l.length ≤ m) && l.all shrtB))) := by
 refine Fun.of_wp (pn := noPn) Tryz.tab Tryz.func32 rfl fun β0 => ?_
 simp only [Tryz.f32]
 repeat(first|apply wG|(apply wR;simp -dsimp)|refine aI ?_)
 by_cases hlm : l.length ≤ m
 ·have hd : decide (l.length ≤ m) = true := by simpa using hlm
  rw [hd, Bool.true_and]
  refine cF (by simp; omega) ?_
  refine WP.skip ?_
  simp -dsimp
  repeat(first|apply wG|(apply wR;simp -dsimp)|refine aI ?_)
  refine WP.loopWk (fun q S => ∃ l1 l2, l = l1 ++ l2 ∧ q = l2.length ∧ l1.all shrtB = true ∧ S = fwS l b m l1.length) l.length (S0 := fwS l b m 0) (Wk.lessE [] (by simp) (by simp)) ⟨[], l, rfl, rfl, rfl, rfl⟩ ?_
  rintro _ _ ⟨l1, l2, hl12, rfl, ha, rfl⟩
  simp -dsimp
  repeat(first|apply wG|(apply wR;simp -dsimp)|refine aI ?_)
  cases l2 with
  | nil =>
   simp only [List.append_nil] at hl12
   subst hl12
   refine cF (by simp) ?_
   refine WP.exit ?_
   simp -dsimp
   repeat(first|apply wG|(apply wR;simp -dsimp)|refine aI ?_)
   refine WP.ret (finQ.retE ?_)
   simp -dsimp [ha]
  | cons p l2 =>
   have hll : l.length = l1.length + (l2.length + 1) := by rw [hl12]; simp
   have hlt : l1.length < l.length := by omega
   have hp := hl p (by rw [hl12]; simp)
   have hat := sgc_at hlt hl
   have hpe : l[l1.length] = p := by simp [hl12]
   rw [hpe] at hat
   have lc := sgC_len hl
   have l2' := sgc_len hp
   have hsg := sgc_sig hp
   have hsl := hp.2.1
   have hso := hp.2.2
   have e1 : IntKind.i64.wrap ((l1.length : Int) + 1) = (l1.length : Int) + 1 := IntWalk.i64_in _ (by omega)
   refine cT (by simp; omega) ?_
   refine WP.skip ?_
   simp -dsimp
   repeat(first|apply wG|(apply wR;simp -dsimp [hat, hsg, l2'])|refine aI ?_)
   refine vcStop.call0L Tryz.body77 (shortS_ok p (hf p (by rw [hl12]; simp))) rfl rfl (And.intro (.refl _) trivial) ?_
   simp -dsimp
   repeat(first|apply wG|(apply wR;simp -dsimp)|refine aI ?_)
   cases hs : shrtB p with
   | true =>
    refine cF (by simp [hs]) ?_
    refine WP.skip ?_
    simp -dsimp
    repeat(first|apply wG|(apply wR;simp -dsimp)|refine aI ?_)
    refine loopW.next (fwS l b m (l1 ++ [p]).length) (Wk.lessE [] (by simp [e1]) (by simp)) l2.length (by simp) ⟨l1 ++ [p], l2, by simp [hl12], rfl, by rw [List.all_append, ha]; simp [hs], rfl⟩
   | false =>
    refine cT (by simp [hs]) ?_
    have hal : l.all shrtB = false := by rw [hl12, List.all_append, List.all_cons, hs]; simp
    repeat(first|apply wG|(apply wR;simp -dsimp)|refine aI ?_)
    refine WP.ret (finQ.retE ?_)
    simp -dsimp [hal]
 ·have hd : decide (l.length ≤ m) = false := by simpa using hlm
  rw [hd, Bool.false_and]
  refine cT (by simp; omega) ?_
  repeat(first|apply wG|(apply wR;simp -dsimp)|refine aI ?_)
  refine WP.ret (finQ.retE ?_)
  simp -dsimp
def noB (p : Sg) : Bool := decide (p.1 1 ≤ 200)
def fewB (l : List Sg) : Bool := l.all noB && (decide (l.length ≤ 10) && l.all shrtB)
abbrev fvS (l : List Sg) (b : Bool) (i : Nat) : St := mkS 22 [(1, .ptr 1 0), (3, .d (.v (.int .i64 i)))] [(1, .cells 25 [.d (sgD l b)])]
theorem sgc_d1 (p : Sg) : ((List.drop 1 (sgc p))[0]?).getD .any = .v (.int .i64 (p.1 1)) := rfl
theorem sgc_1 (p : Sg) : ((sgc p)[1]?).getD .any = .v (.int .i64 (p.1 1)) := rfl
theorem few_ok (l : List Sg) (b : Bool) (hl : ∀ p ∈ l, sgOk p) (hf : ∀ p ∈ l, sgF p) (hn : l.length ≤ 1000000000000) : Fn0 Tryz.prog 13 [lgD l b] (.v (.bool (fewB l))) := by
 refine Fun.of_wp (pn := noPn) Tryz.tab Tryz.func13 rfl fun β0 => ?_
 simp only [Tryz.f13]
 repeat(first|apply wG|(apply wR;simp -dsimp)|refine aI ?_)
 refine WP.loopWk (fun q S => ∃ l1 l2, l = l1 ++ l2 ∧ q = l2.length ∧ l1.all noB = true ∧ S = fvS l b l1.length) l.length (S0 := fvS l b 0) (Wk.lessE [] (by simp) (by simp)) ⟨[], l, rfl, rfl, rfl, rfl⟩ ?_
 rintro _ _ ⟨l1, l2, hl12, rfl, ha, rfl⟩
 simp -dsimp
 repeat(first|apply wG|(apply wR;simp -dsimp)|refine aI ?_)
 cases l2 with
 | nil =>
  simp only [List.append_nil] at hl12
  subst hl12
  refine cF (by simp) ?_
  refine WP.exit ?_
  simp -dsimp
  repeat(first|apply wG|(apply wR;simp -dsimp)|refine aI ?_)
  refine vcStop.call0L Tryz.body32 (few13_ok l b 10 hl hf hn) rfl rfl (And.intro (.refl _) (And.intro (.refl _) trivial)) ?_
  simp -dsimp
  repeat(first|apply wG|(apply wR;simp -dsimp)|refine aI ?_)
  refine WP.ret (finQ.retE ?_)
  simp -dsimp [fewB, ha]
 | cons p l2 =>
  have hll : l.length = l1.length + (l2.length + 1) := by rw [hl12]; simp
  have hlt : l1.length < l.length := by omega
  have hp := hl p (by rw [hl12]; simp)
  have hat := sgc_at hlt hl
  have hpe : l[l1.length] = p := by simp [hl12]
  rw [hpe] at hat
  have lc := sgC_len hl
  have l2' := sgc_len hp
  have hs1 := sgc_d1 p
  have hs2 := sgc_1 p
  have e1 : IntKind.i64.wrap ((l1.length : Int) + 1) = (l1.length : Int) + 1 := IntWalk.i64_in _ (by omega)
  refine cT (by simp; omega) ?_
  refine WP.skip ?_
  simp -dsimp
  repeat(first|apply wG|(apply wR;simp -dsimp [hat, l2', hs1, hs2])|refine aI ?_)
  cases hs : noB p with
  | true =>
   have h200 : p.1 1 ≤ 200 := by simpa [noB] using hs
   refine cF (by simp; omega) ?_
   refine WP.skip ?_
   simp -dsimp
   repeat(first|apply wG|(apply wR;simp -dsimp)|refine aI ?_)
   refine loopW.next (fvS l b (l1 ++ [p]).length) (Wk.lessE [] (by simp [e1]) (by simp)) l2.length (by simp) ⟨l1 ++ [p], l2, by simp [hl12], rfl, by rw [List.all_append, ha]; simp [hs], rfl⟩
  | false =>
   have h200 : 200 < p.1 1 := by simpa [noB] using hs
   refine cT (by simp; omega) ?_
   have hal : fewB l = false := by rw [fewB, hl12, List.all_append, List.all_cons, hs]; simp
   repeat(first|apply wG|(apply wR;simp -dsimp)|refine aI ?_)
   refine WP.ret (finQ.retE ?_)
   simp -dsimp [hal]
end Go.Proofs.YtnljenjcaeophaaGreatDoor
