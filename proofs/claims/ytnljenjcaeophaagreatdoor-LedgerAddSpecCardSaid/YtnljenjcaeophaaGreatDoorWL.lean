/-
  Joined texts.
-/
import Derived.Test.YtnljenjcaeophaaGreatDoorWJ
import Derived.Test.YtnljenjcaeophaaGreatDoorWE
import Derived.Test.YtnljenjcaeophaaGreatDoorWX
set_option linter.unusedVariables false
set_option linter.unusedSimpArgs false
set_option linter.unusedSectionVars false
namespace Go.Proofs.YtnljenjcaeophaaGreatDoor
open Go.Xe Go.RowKit
def sgc (p : Sg) : List D := fcs p.1 0 57 ++ p.2
def sgV (p : Sg) : D := .agg (sgc p)
theorem az_ {p : Sg} (h : sgOk p) : (sgc p).length = 61 := by rw [sgc, List.length_append, aq_, h.2.1]
theorem e1_ (p : Sg) : List.take 57 ((sgc p).map AV.d) = (fcs p.1 0 57).map .d := by
 rw [sgc, ← List.map_take, List.take_append, aq_, List.take_of_length_le (by rw [aq_]; omega)]
 simp
theorem hF_ (p : Sg) : List.take 57 (sgc p) = fcs p.1 0 57 := by
 rw [sgc, List.take_append, aq_, List.take_of_length_le (by rw [aq_]; omega)]
 simp
@[simp] theorem Bw_ (p : Sg) : Leq (.agg ((sgc p).map .d)) (.d (sgV p)) ↔ True := ⟨fun _ => trivial, fun _ => ai_ _⟩
@[simp] theorem At_ (p : Sg) : Leq (.agg ((sgc p).map .d)) (.d (.agg (sgc p))) ↔ True := ⟨fun _ => trivial, fun _ => ai_ _⟩
theorem e0_ {p : Sg} (h : sgOk p) : List.take 61 (sgc p) = sgc p := List.take_of_length_le (by rw [az_ h]; omega)
theorem bV_ {p : Sg} (h : sgOk p) : List.take 61 ((sgc p).map AV.d) = (sgc p).map .d := List.take_of_length_le (by rw [List.length_map, az_ h]; omega)
theorem cL_ {x : List Sg} {i : Nat} (hi : i < x.length) (h : ∀ q ∈ x, sgOk q) : ((sgC x).drop (i * 61)).take 61 = sgc x[i] := by
 have e : x = x.take i ++ x[i] :: x.drop (i + 1) := by
  rw [← List.drop_eq_getElem_cons hi, List.take_append_drop]
 have := up_ (l1 := x.take i) (p := x[i]) (l2 := x.drop (i + 1)) (by rw [← e]; exact h)
 rw [← e, List.length_take, Nat.min_eq_left (by omega)] at this
 exact this
theorem sgc_oneD {p : Sg} (hp : sgOk p) : ∀ d ∈ sgc p, oneD d = true := fun d hd => by
 rcases List.mem_append.1 hd with hd | hd
 ·exact fcs_side hd
 ·exact hp.2.2 d hd
def posS (s : Sg) (x : List Sg) : Nat := (x.takeWhile fun t => decide (aE_ t.1 s.1 < 0)).length
def isS (s : Sg) (x : List Sg) : Bool := match x[posS s x]? with
 | some t => decide (aE_ t.1 s.1 = 0)
 | none => false
theorem jZ_ (s : Sg) (x : List Sg) : posS s x ≤ x.length := (List.takeWhile_sublist _).length_le
theorem cc_ (s t : Sg) (x : List Sg) : posS s (t :: x) = if aE_ t.1 s.1 < 0 then posS s x + 1 else 0 := by
 rw [posS, List.takeWhile_cons]
 by_cases h : aE_ t.1 s.1 < 0
 ·rw [if_pos h, if_pos (by simp [h])]; rfl
 ·rw [if_neg h, if_neg (by simp [h])]; rfl
theorem q6_ (s : Sg) : ∀ (x : List Sg) (i : Nat) (hi : i < x.length), i < posS s x → aE_ x[i].1 s.1 < 0
 | t :: x, i, hi, h => by
  rw [cc_] at h
  split at h
  ·rename_i hlt
   cases i with
   | zero => exact hlt
   | succ i => exact q6_ s x i (by simpa using hi) (by omega)
  ·omega
theorem q7_ (s : Sg) : ∀ {x : List Sg}, wE_ x → ∀ (i : Nat) (hi : i < x.length), posS s x ≤ i → ¬ aE_ x[i].1 s.1 < 0
 | t :: x, ha, i, hi, h => by
  obtain ⟨h1, h2⟩ := List.pairwise_cons.1 ha
  rw [cc_] at h
  split at h
  ·rename_i hlt
   cases i with
   | zero => omega
   | succ i => exact q7_ s h2 i (by simpa using hi) (by omega)
  ·rename_i hnl
   cases i with
   | zero => exact hnl
   | succ i => exact fun k => hnl (bL_ (h1 _ (List.getElem_mem (by simpa using hi))) k)
theorem d3_ (s : Sg) : ∀ x : List Sg, insS s x = if isS s x = true then x else x.take (posS s x) ++ s :: x.drop (posS s x)
 | [] => rfl
 | t :: x => by
  have ih := d3_ s x
  by_cases hlt : aE_ t.1 s.1 < 0
  ·have e1 : isS s (t :: x) = isS s x := by
    unfold isS
    rw [cc_, if_pos hlt, List.getElem?_cons_succ]
   rw [insS, if_pos hlt, ih, e1, cc_, if_pos hlt]
   split <;> simp
  ·have e0 : posS s (t :: x) = 0 := by rw [cc_, if_neg hlt]
   rw [insS, if_neg hlt, e0]
   by_cases hz : aE_ t.1 s.1 = 0
   ·rw [if_pos hz, if_pos (by unfold isS; rw [e0]; simp [hz])]
   ·rw [if_neg hz, if_neg (by unfold isS; rw [e0]; simp [hz])]
    rfl
set_option maxRecDepth 10000 in
theorem sh_ (x : List Sg) (b : Bool) (h0 : 0 < x.length) (hl : x.length ≤ 1000) (hx : ∀ p ∈ x, sgOk p) : Fun Tryz.prog 66 [.d (sgD x b)] [] (.row 0) [(0, .row 70 61 x.length ((sgC x).map .d))] fun _ => False := by
 refine ac_ (pn := ap_) aa_ Tryz.func66 rfl fun β0 => ?_
 simp only [Tryz.f66]
 repeat(first|apply wG|(apply wR;simp -dsimp)|refine aI ?_)
 refine iC_ aa_ rfl rfl rfl rfl h0 ?_
 simp -dsimp
 repeat(first|apply wG|(apply wR;simp -dsimp)|refine aI ?_)
 refine cF (by simp) ?_
 refine WP.skip ?_
 simp -dsimp
 repeat(first|apply wG|(apply wR;simp -dsimp)|refine aI ?_)
 refine And.intro ⟨sgC_len hx, by omega⟩ ?_
 refine WP.ret (an_ (S' := mkS 8 [(2, .row 0)] [(0, .row 70 61 x.length ((sgC x).map .d))]) (Wk.go [] 7 0 (by decide) (by simp) (by simp) (by simp)) ?_)
 simp -dsimp
theorem wg_ : Fn0 Tryz.prog 66 [.v (.slice none 0 0)] (.v (.slice none 0 0)) := by
 refine ac_ (pn := ap_) aa_ Tryz.func66 rfl fun β0 => ?_
 simp only [Tryz.f66]
 repeat(first|apply wG|(apply wR;simp -dsimp)|refine aI ?_)
 refine b4_ aa_ rfl rfl rfl rfl ?_
 simp -dsimp
 repeat(first|apply wG|(apply wR;simp -dsimp)|refine aI ?_)
 refine cT (by simp) ?_
 repeat(first|apply wG|(apply wR;simp -dsimp)|refine aI ?_)
 refine WP.ret (ab_ ?_)
 simp -dsimp
/-! ### places as keys -/
/-! ### the shelf -/
/-! ### put -/
theorem kd_ (s : Sg) : ∀ l : List Sg, (insS s l).length ≤ l.length + 1
 | [] => Nat.le_refl _
 | t :: l => by
  have := kd_ s l
  rw [insS]
  split
  ·simp; omega
  ·split <;> simp
theorem hh_ {x : List Sg} (h : ∀ q ∈ x, sgOk q) {i : Nat} (hi : i ≤ x.length) : (sgC x).take (i * 61) = sgC (x.take i) ∧ (sgC x).drop (i * 61) = sgC (x.drop i) := by
 have e : sgC x = sgC (x.take i) ++ sgC (x.drop i) := by rw [← a7_, List.take_append_drop]
 have hl : (sgC (x.take i)).length = i * 61 := by rw [sgC_len fun q hq => h q (List.mem_of_mem_take hq), List.length_take, Nat.min_eq_left hi]
 rw [e, ← hl]
 exact ⟨List.take_left, List.drop_left⟩
theorem vj_ {x : List Sg} {s : Sg} (h : ∀ q ∈ x, sgOk q) {i : Nat} (hi : i ≤ x.length) : sgC (x.take i ++ s :: x.drop i) = h6_ i (sgC x) (sgc s) := by
 obtain ⟨h1, h2⟩ := hh_ h hi
 rw [h6_, h1, h2, a7_, List.append_assoc]
 rfl
end Go.Proofs.YtnljenjcaeophaaGreatDoor
