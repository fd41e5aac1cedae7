/-
  Joined texts.
-/
import Derived.Test.YtnljenjcaeophaaGreatDoorTJ
import Derived.Test.YtnljenjcaeophaaGreatDoorTE
import Derived.Test.YtnljenjcaeophaaGreatDoorTX
set_option linter.unusedVariables false
set_option linter.unusedSimpArgs false
set_option linter.unusedSectionVars false
namespace Go.Proofs.YtnljenjcaeophaaGreatDoor
open Go.Xe Go.RowKit
def sgc (p : Sg) : List D := fcs p.1 0 57 ++ p.2
def sgV (p : Sg) : D := .agg (sgc p)
theorem sgc_len {p : Sg} (h : sgOk p) : (sgc p).length = 61 := by rw [sgc, List.length_append, fcs_len57, h.2.1]
theorem sgc_57 (p : Sg) : List.take 57 ((sgc p).map AV.d) = (fcs p.1 0 57).map .d := by
 rw [sgc, ← List.map_take, List.take_append, fcs_len57, List.take_of_length_le (by rw [fcs_len57]; omega)]
 simp
theorem sgc_57D (p : Sg) : List.take 57 (sgc p) = fcs p.1 0 57 := by
 rw [sgc, List.take_append, fcs_len57, List.take_of_length_le (by rw [fcs_len57]; omega)]
 simp
@[simp] theorem Leq_sgV (p : Sg) : Leq (.agg ((sgc p).map .d)) (.d (sgV p)) ↔ True := ⟨fun _ => trivial, fun _ => Leq.aggD _⟩
@[simp] theorem Leq_sgV' (p : Sg) : Leq (.agg ((sgc p).map .d)) (.d (.agg (sgc p))) ↔ True := ⟨fun _ => trivial, fun _ => Leq.aggD _⟩
theorem sgc_t {p : Sg} (h : sgOk p) : List.take 61 (sgc p) = sgc p := List.take_of_length_le (by rw [sgc_len h]; omega)
theorem sgc_tm {p : Sg} (h : sgOk p) : List.take 61 ((sgc p).map AV.d) = (sgc p).map .d := List.take_of_length_le (by rw [List.length_map, sgc_len h]; omega)
theorem sgc_at {x : List Sg} {i : Nat} (hi : i < x.length) (h : ∀ q ∈ x, sgOk q) : ((sgC x).drop (i * 61)).take 61 = sgc x[i] := by
 have e : x = x.take i ++ x[i] :: x.drop (i + 1) := by
  rw [← List.drop_eq_getElem_cons hi, List.take_append_drop]
 have := sgC_at (l1 := x.take i) (p := x[i]) (l2 := x.drop (i + 1)) (by rw [← e]; exact h)
 rw [← e, List.length_take, Nat.min_eq_left (by omega)] at this
 exact this
theorem sgc_oneD {p : Sg} (hp : sgOk p) : ∀ d ∈ sgc p, oneD d = true := fun d hd => by
 rcases List.mem_append.1 hd with hd | hd
 ·exact fcs_side hd
 ·exact hp.2.2 d hd
def posS (s : Sg) (x : List Sg) : Nat := (x.takeWhile fun t => decide (cmpF t.1 s.1 < 0)).length
def isS (s : Sg) (x : List Sg) : Bool := match x[posS s x]? with
 | some t => decide (cmpF t.1 s.1 = 0)
 | none => false
theorem posS_cons (s t : Sg) (x : List Sg) : posS s (t :: x) = if cmpF t.1 s.1 < 0 then posS s x + 1 else 0 := by
 rw [posS, List.takeWhile_cons]
 by_cases h : cmpF t.1 s.1 < 0
 ·rw [if_pos h, if_pos (by simp [h])]; rfl
 ·rw [if_neg h, if_neg (by simp [h])]; rfl
theorem insS_pos (s : Sg) : ∀ x : List Sg, insS s x = if isS s x = true then x else x.take (posS s x) ++ s :: x.drop (posS s x)
 | [] => rfl
 | t :: x => by
  have ih := insS_pos s x
  by_cases hlt : cmpF t.1 s.1 < 0
  ·have e1 : isS s (t :: x) = isS s x := by
    unfold isS
    rw [posS_cons, if_pos hlt, List.getElem?_cons_succ]
   rw [insS, if_pos hlt, ih, e1, posS_cons, if_pos hlt]
   split <;> simp
  ·have e0 : posS s (t :: x) = 0 := by rw [posS_cons, if_neg hlt]
   rw [insS, if_neg hlt, e0]
   by_cases hz : cmpF t.1 s.1 = 0
   ·rw [if_pos hz, if_pos (by unfold isS; rw [e0]; simp [hz])]
   ·rw [if_neg hz, if_neg (by unfold isS; rw [e0]; simp [hz])]
    rfl
set_option maxRecDepth 10000 in
theorem clone_d (x : List Sg) (b : Bool) (h0 : 0 < x.length) (hl : x.length ≤ 1000) (hx : ∀ p ∈ x, sgOk p) : Fun Tryz.prog 66 [.d (sgD x b)] [] (.row 0) [(0, .row 70 61 x.length ((sgC x).map .d))] fun _ => False := by
 refine Fun.of_wp (pn := noPn) Tryz.tab Tryz.func66 rfl fun β0 => ?_
 simp only [Tryz.f66]
 repeat(first|apply wG|(apply wR;simp -dsimp)|refine aI ?_)
 refine vcStop.eqNilSl Tryz.tab rfl rfl rfl rfl h0 ?_
 simp -dsimp
 repeat(first|apply wG|(apply wR;simp -dsimp)|refine aI ?_)
 refine cF (by simp) ?_
 refine WP.skip ?_
 simp -dsimp
 repeat(first|apply wG|(apply wR;simp -dsimp)|refine aI ?_)
 refine And.intro ⟨sgC_len hx, by omega⟩ ?_
 refine WP.ret (finQ.retWE (S' := mkS 8 [(2, .row 0)] [(0, .row 70 61 x.length ((sgC x).map .d))]) (Wk.go [] 7 0 (by decide) (by simp) (by simp) (by simp)) ?_)
 simp -dsimp
/-! ### places as keys -/
/-! ### the shelf -/
/-! ### put -/
theorem sgC_take {x : List Sg} (h : ∀ q ∈ x, sgOk q) {i : Nat} (hi : i ≤ x.length) : (sgC x).take (i * 61) = sgC (x.take i) ∧ (sgC x).drop (i * 61) = sgC (x.drop i) := by
 have e : sgC x = sgC (x.take i) ++ sgC (x.drop i) := by rw [← sgC_append, List.take_append_drop]
 have hl : (sgC (x.take i)).length = i * 61 := by rw [sgC_len fun q hq => h q (List.mem_of_mem_take hq), List.length_take, Nat.min_eq_left hi]
 rw [e, ← hl]
 exact ⟨List.take_left, List.drop_left⟩
end Go.Proofs.YtnljenjcaeophaaGreatDoor
