/-
  Crews: CrewsForks: two facts that contradict each other; the law's code in parts.
-/
import Derived.Test.YtnljenjcaeophaaGreatDoorMXa
import Derived.Test.YtnljenjcaeophaaGreatDoorMAD
import Derived.Test.YtnljenjcaeophaaGreatDoorMOA
import Derived.Test.YtnljenjcaeophaaGreatDoorMAB
set_option linter.unusedVariables false
set_option linter.unusedSimpArgs false
set_option linter.unusedSectionVars false
namespace Go.Proofs.YtnljenjcaeophaaGreatDoor
open Go.Xe Go.RowKit
theorem fkC_len {w : List (Sg × Sg)} (h : ∀ q ∈ w, sgOk q.1 ∧ sgOk q.2) : (fkC w).length = w.length * 122 := by
 induction w with
 | nil => rfl
 | cons q w ih =>
  have h1 := fkc_len (h q (by simp)).1 (h q (by simp)).2
  have h2 := ih fun x hx => h x (by simp [hx])
  have h3 : fkC (q :: w) = fkc q ++ fkC w := by simp [fkC]
  rw [h3, List.length_append, h1, h2, List.length_cons]; omega
theorem fkC_at {w : List (Sg × Sg)} (h : ∀ q ∈ w, sgOk q.1 ∧ sgOk q.2) {i : Nat} (hi : i < w.length) : List.take 122 (List.drop (i * 122) (fkC w)) = fkc w[i] := by
 have e : w = w.take i ++ w[i] :: w.drop (i + 1) := by
  rw [← List.drop_eq_getElem_cons hi, List.take_append_drop]
 have h1 : fkC w = fkC (w.take i) ++ (fkc w[i] ++ fkC (w.drop (i + 1))) := by
  refine (congrArg fkC e).trans ?_
  simp only [fkC, List.flatMap_append, List.flatMap_cons]
 have h2 : (fkC (w.take i)).length = i * 122 := by
  rw [fkC_len fun q hq => h q (List.mem_of_mem_take hq), List.length_take, Nat.min_eq_left (by omega)]
 have h3 := fkc_len (h w[i] (List.getElem_mem _)).1 (h w[i] (List.getElem_mem _)).2
 rw [h1, List.drop_left' h2, List.take_left' h3]
def frkB (f g : F) : Bool := (numF f).2 && ((numF g).2 && (decide (f 0 = g 0) && (decide (f 1 = g 1) && !(eqF f g))))
set_option maxRecDepth 10000 in
theorem forked13_ok (f g : F) (hf : fOk f) (hg : fOk g) : Fn0 Tryz.prog 38 [fD f, fD g] (.v (.bool (frkB f g))) := by
 have h1 := check_ok f hf
 have h2 := check_ok g hg
 have h3 := same_ok f g hf hg
 have a0 : atL ((fcs f 0 57).map AV.d) 0 = .d (.v (.int .i64 (f 0))) := rfl
 have a1 : atL ((fcs f 0 57).map AV.d) 1 = .d (.v (.int .i64 (f 1))) := rfl
 have b0 : atL ((fcs g 0 57).map AV.d) 0 = .d (.v (.int .i64 (g 0))) := rfl
 have b1 : atL ((fcs g 0 57).map AV.d) 1 = .d (.v (.int .i64 (g 1))) := rfl
 unfold frkB
 generalize eqF f g = e at *
 refine Fun.of_wp (pn := noPn) Tryz.tab Tryz.func38 rfl fun β0 => ?_
 simp only [Tryz.f38]
 simp only [fD]
 repeat(first|apply wG|(apply wR;simp -dsimp)|refine aI ?_)
 refine vcStop.call0 Tryz.body69 h1 rfl rfl (by simp [fD]) ?_
 cases hv1 : (numF f).2 with
 | false =>
  simp -dsimp
  repeat(first|apply wG|(apply wR;simp -dsimp)|refine aI ?_)
  refine vcStopG.skip (.d (.v (.int .i64 0))) ?_
  simp -dsimp
  repeat(first|apply wG|(apply wR;simp -dsimp)|refine aI ?_)
  refine vcStopG.skip (.d (.v (.bool false))) ?_
  simp -dsimp
  repeat(first|apply wG|(apply wR;simp -dsimp)|refine aI ?_)
  refine WP.ret (finQ.retE ?_)
  simp -dsimp
 | true =>
  simp -dsimp
  repeat(first|apply wG|(apply wR;simp -dsimp)|refine aI ?_)
  refine vcStopG.call0 Tryz.body69 (fun _ => h2) rfl (fun _ => rfl) (fun _ => by simp [fD]) ?_
  cases hv2 : (numF g).2 with
  | false =>
   simp -dsimp
   repeat(first|apply wG|(apply wR;simp -dsimp)|refine aI ?_)
   refine vcStopG.skip (.d (.v (.bool false))) ?_
   simp -dsimp
   repeat(first|apply wG|(apply wR;simp -dsimp)|refine aI ?_)
   refine WP.ret (finQ.retE ?_)
   simp -dsimp
  | true =>
   by_cases e0 : f 0 = g 0
   ·have d0 : decide (f 0 = g 0) = true := decide_eq_true e0
    by_cases e1 : f 1 = g 1
    ·have d1 : decide (f 1 = g 1) = true := decide_eq_true e1
     simp -dsimp [a0, a1, b0, b1, d0, d1]
     repeat(first|apply wG|(apply wR;simp -dsimp [a0, a1, b0, b1, d0, d1])|refine aI ?_)
     refine vcStopG.call0 Tryz.body55 (fun _ => h3) rfl (fun _ => rfl) (fun _ => by simp [fD]) ?_
     simp -dsimp
     repeat(first|apply wG|(apply wR;simp -dsimp)|refine aI ?_)
     refine WP.ret (finQ.retE ?_)
     simp -dsimp [d0, d1]
    ·have d1 : decide (f 1 = g 1) = false := decide_eq_false e1
     simp -dsimp [a0, a1, b0, b1, d0, d1]
     repeat(first|apply wG|(apply wR;simp -dsimp [a0, a1, b0, b1, d0, d1])|refine aI ?_)
     refine vcStopG.skip (.d (.v (.bool false))) ?_
     simp -dsimp
     repeat(first|apply wG|(apply wR;simp -dsimp)|refine aI ?_)
     refine WP.ret (finQ.retE ?_)
     simp -dsimp [d0, d1]
   ·have d0 : decide (f 0 = g 0) = false := decide_eq_false e0
    simp -dsimp [a0, a1, b0, b1, d0]
    repeat(first|apply wG|(apply wR;simp -dsimp [a0, a1, b0, b1, d0])|refine aI ?_)
    refine vcStopG.skip (.d (.v (.bool false))) ?_
    simp -dsimp
    repeat(first|apply wG|(apply wR;simp -dsimp)|refine aI ?_)
    refine WP.ret (finQ.retE ?_)
    simp -dsimp [d0]
theorem frkB_pair {q : Sg × Sg} (h1 : vS2 q.1 = true) (h2 : vS2 q.2 = true) (f1 : fOk q.1.1) (f2 : fOk q.2.1) (hr : refS q.1 = refS q.2) (hc : cmpF q.1.1 q.2.1 < 0) : frkB q.1.1 q.2.1 = true := by
 rw [vS2] at h1 h2
 simp only [refS, refF, Prod.mk.injEq] at hr
 have hne : eqF q.1.1 q.2.1 = false := by
  rw [Bool.eq_false_iff]
  intro h
  have e := (eqF_iff f1 f2).1 h
  rw [e] at hc
  have := cmp_fact.anti q.2.1 q.2.1
  omega
 rw [frkB, h1, h2, decide_eq_true hr.1, decide_eq_true hr.2, hne]
 rfl
theorem frkB_iff {s t : Sg} (hs : fOk s.1) (ht : fOk t.1) (h : frkB s.1 t.1 = true) : (vS2 s = true ∧ vS2 t = true) ∧ refS s = refS t ∧ s.1 ≠ t.1 := by
 simp only [frkB, Bool.and_eq_true, decide_eq_true_eq, Bool.not_eq_true'] at h
 obtain ⟨h1, h2, h3, h4, h5⟩ := h
 refine ⟨⟨h1, h2⟩, by simp only [refS, refF, h3, h4], fun e => ?_⟩
 rw [(eqF_iff hs ht).2 e] at h5
 cases h5
def frP (s t : Sg) (q : Sg × Sg) : Prop := q.1.1 0 = s.1 0 ∧ q.1.1 1 = s.1 1 ∧ cmpF q.1.1 s.1 ≤ 0 ∧ cmpF q.1.1 t.1 ≤ 0
abbrev cfO (l : List Sg) (w : List (Sg × Sg)) (i : Nat) : St := mkS 210 [(0, .d (sgD l false)), (3, .d (slK w)), (4, .d (.v (.int .i64 i)))] []
abbrev cfI (l : List Sg) (w : List (Sg × Sg)) (i : Nat) (q : Sg × Sg) (k : Nat) (a b : Bool) : St := mkS 210 [(0, .d (sgD l false)), (3, .d (slK w)), (4, .d (.v (.int .i64 i))), (5, .ptr 5 0), (6, .d (.v (.bool a))), (7, .d (.v (.bool b))), (8, .d (.v (.int .i64 k)))] [(5, .cells 90 ((fkc q).map .d))]
abbrev cfL (l : List Sg) (w : List (Sg × Sg)) (i : Nat) : St := mkS 210 [(0, .d (sgD l false)), (3, .d (slK w)), (9, .d (.v (.int .i64 i)))] []
abbrev cfK (l : List Sg) (w : List (Sg × Sg)) (i k : Nat) : St := mkS 210 [(0, .d (sgD l false)), (3, .d (slK w)), (9, .d (.v (.int .i64 i))), (10, .d (.v (.int .i64 k)))] []
abbrev cfM (l : List Sg) (w : List (Sg × Sg)) (i k : Nat) (fd : Bool) (m : Nat) : St := mkS 210 [(0, .d (sgD l false)), (3, .d (slK w)), (9, .d (.v (.int .i64 i))), (10, .d (.v (.int .i64 k))), (11, .d (.v (.bool fd))), (12, .d (.v (.int .i64 m)))] []
theorem frkw_len {a : List Sg} : (frkL a).length ≤ a.length := by
 refine Nat.le_trans (List.length_filterMap_le _ _) ?_
 have h1 := sortR_len (plsL a) []
 have h2 : (plsL a).length ≤ a.length := by rw [plsL, List.length_map]; exact List.length_filter_le _ _
 rw [sortR]
 simp only [List.length_nil, Nat.zero_add] at h1
 omega
/-! ### the code, in parts -/
def Cl : Code → Code
 | .seq a _ => a
 | .loop c => c
 | .block _ c => c
 | .cond _ a _ => a
 | c => c
def Cr : Code → Code
 | .seq _ b => b
 | .cond _ _ b => b
 | c => c
noncomputable def fB8 : Code := Tryz.f8.body.getD .skip
noncomputable def fX1 : Code := Cl (Cl (Cr (Cl (Cr (Cr (Cr (Cr fB8)))))))
noncomputable def fB1 : Code := Cl (Cl (Cr fX1))
noncomputable def fC17 : Code := Cr (Cr (Cr (Cr fB1)))
noncomputable def fX2 : Code := Cl (Cl (Cr (Cl (Cr (Cr (Cr (Cr (Cr fB8))))))))
noncomputable def fB5 : Code := Cl (Cl (Cr fX2))
noncomputable def fY : Code := Cl (Cl (Cr fB5))
noncomputable def fB7 : Code := Cl (Cl (Cr fY))
noncomputable def fZ : Code := Cl (Cl (Cr (Cl (Cr (Cr fB7)))))
noncomputable def fC31 : Code := Cr (Cl (Cl (Cr fZ)))
abbrev cfN (l : List Sg) (w : List (Sg × Sg)) (i k : Nat) (fd : Bool) (m : Nat) (q : Sg × Sg) : St := mkS 210 [(0, .d (sgD l false)), (3, .d (slK w)), (9, .d (.v (.int .i64 i))), (10, .d (.v (.int .i64 k))), (11, .d (.v (.bool fd))), (12, .d (.v (.int .i64 m))), (13, .ptr 13 0)] [(13, .cells 65 ((fcs q.1.1 0 57).map .d))]
end Go.Proofs.YtnljenjcaeophaaGreatDoor
