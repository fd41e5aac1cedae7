/-
  Joined texts.
-/
import Derived.Test.YtjjaabidbeoomaaGreatDoorKG
import Derived.Test.YtjjaabidbeoomaaGreatDoorKFg
set_option linter.unusedVariables false
set_option linter.unusedSimpArgs false
set_option linter.unusedSectionVars false
/-
  Comparing: the library's parts; equality of facts.
-/
set_option linter.unusedSimpArgs false
set_option linter.unusedVariables false
namespace Go.Proofs.YtjjaabidbeoomaaGreatDoor
open Go.Xe Go.RowKit

def cmpI (x y : Int) : Int := if x < y then -1 else if y < x then 1 else 0
theorem isNaN_ok (x : Int) : Fn0 Tryz.prog 58 [.v (.int .i64 x)] (.v (.bool false)) := by
  refine Fun.of_wp (pn := noPn) Tryz.tab Tryz.func58 rfl fun β0 => ?_
  simp only [Tryz.f58]
  repeat (first | refine wS ?_ | refine wB ?_ | ((first | refine wR ?_ | refine wD ?_); simp -dsimp) | refine aI ?_)
  refine WP.ret (finQ.retE ?_)
  simp -dsimp
theorem compare_ok (x y : Int) : Fn0 Tryz.prog 39 [.v (.int .i64 x), .v (.int .i64 y)] (.v (.int .i64 (cmpI x y))) := by
  refine Fun.of_wp (pn := noPn) Tryz.tab Tryz.func39 rfl fun β0 => ?_
  simp only [Tryz.f39]
  repeat (first | refine wS ?_ | refine wB ?_ | ((first | refine wR ?_ | refine wD ?_); simp -dsimp) | refine aI ?_)
  refine vcStop.call0 Tryz.body58 (isNaN_ok x) rfl rfl (by simp) ?_
  simp -dsimp
  repeat (first | refine wS ?_ | refine wB ?_ | ((first | refine wR ?_ | refine wD ?_); simp -dsimp) | refine aI ?_)
  refine vcStop.call0 Tryz.body58 (isNaN_ok y) rfl rfl (by simp) ?_
  simp -dsimp
  repeat (first | refine wS ?_ | refine wB ?_ | ((first | refine wR ?_ | refine wD ?_); simp -dsimp) | refine aI ?_)
  refine WP.cond (b := false) (by simp) (fun h => by cases h) (fun _ => ?_)
  refine WP.skip ?_
  simp -dsimp
  repeat (first | refine wS ?_ | refine wB ?_ | ((first | refine wR ?_ | refine wD ?_); simp -dsimp) | refine aI ?_)
  refine WP.cond (b := false) (by simp) (fun h => by cases h) (fun _ => ?_)
  refine WP.skip ?_
  simp -dsimp
  repeat (first | refine wS ?_ | refine wB ?_ | ((first | refine wR ?_ | refine wD ?_); simp -dsimp) | refine aI ?_)
  refine WP.cond (b := decide (x < y)) (by simp) (fun hb => ?_) (fun hb => ?_)
  · have hb := of_decide_eq_true hb
    repeat (first | refine wS ?_ | refine wB ?_ | ((first | refine wR ?_ | refine wD ?_); simp -dsimp) | refine aI ?_)
    refine WP.ret (finQ.retE ?_)
    simp -dsimp [cmpI, hb]
  have h1 := of_decide_eq_false hb
  refine WP.skip ?_
  simp -dsimp
  repeat (first | refine wS ?_ | refine wB ?_ | ((first | refine wR ?_ | refine wD ?_); simp -dsimp) | refine aI ?_)
  refine WP.cond (b := decide (y < x)) (by simp) (fun hb => ?_) (fun hb => ?_)
  · have hb := of_decide_eq_true hb
    have e : cmpI x y = 1 := by rw [cmpI, if_neg h1, if_pos hb]
    repeat (first | refine wS ?_ | refine wB ?_ | ((first | refine wR ?_ | refine wD ?_); simp -dsimp) | refine aI ?_)
    refine WP.ret (finQ.retE ?_)
    simp -dsimp [e]
  have h2 := of_decide_eq_false hb
  have e : cmpI x y = 0 := by rw [cmpI, if_neg h1, if_neg h2]
  refine WP.skip ?_
  simp -dsimp
  repeat (first | refine wS ?_ | refine wB ?_ | ((first | refine wR ?_ | refine wD ?_); simp -dsimp) | refine aI ?_)
  refine WP.ret (finQ.retE ?_)
  simp -dsimp [e]

def orL : List Int → Int
  | [] => 0
  | x :: l => if x = 0 then orL l else x
set_option maxRecDepth 10000 in
theorem or_ok (l : List Int) (hl : l.length ≤ 1000) : Fn0 Tryz.prog 44 [slI l] (.v (.int .i64 (orL l))) := by
  refine Fun.of_wp (pn := noPn) Tryz.tab Tryz.func44 rfl fun β0 => ?_
  simp only [Tryz.f44]
  repeat (first | refine wS ?_ | refine wB ?_ | ((first | refine wR ?_ | refine wD ?_); simp -dsimp) | refine aI ?_)
  refine WP.loopWk (fun m S => ∃ l1 l2, l = l1 ++ l2 ∧ m = l2.length ∧ orL l = orL l2 ∧ S = mkS 18 [(3, .d (.v (.int .i64 0))), (6, .d (slI l)), (7, .d (.v (.int .i64 l.length))), (8, .d (.v (.int .i64 l1.length)))] []) l.length
    (S0 := mkS 18 [(3, .d (.v (.int .i64 0))), (6, .d (slI l)), (7, .d (.v (.int .i64 l.length))), (8, .d (.v (.int .i64 0)))] []) (Wk.lessE [] (by simp) (by simp)) ⟨[], l, rfl, rfl, rfl, rfl⟩ ?_
  rintro _ _ ⟨l1, l2, hl12, rfl, ho, rfl⟩
  simp -dsimp
  repeat (first | refine wS ?_ | refine wB ?_ | ((first | refine wR ?_ | refine wD ?_); simp -dsimp) | refine aI ?_)
  cases l2 with
  | nil =>
    simp only [List.append_nil] at hl12
    subst hl12
    refine WP.cond (b := false) (by simp) (fun h => by cases h) (fun _ => ?_)
    refine WP.exit ?_
    simp -dsimp
    repeat (first | refine wS ?_ | refine wB ?_ | ((first | refine wR ?_ | refine wD ?_); simp -dsimp) | refine aI ?_)
    refine WP.ret (finQ.retE ?_)
    simp -dsimp [ho, orL]
  | cons x l2 =>
    have hll : l.length = l1.length + (l2.length + 1) := by rw [hl12]; simp
    have e1 : IntKind.i64.wrap ((l1.length : Int) + 1) = (l1.length : Int) + 1 := IntWalk.i64_in _ (by omega)
    have h1 := iD_at l1 x l2
    rw [← hl12] at h1
    refine WP.cond (b := true) (by simp; omega) (fun _ => ?_) (fun h => by cases h)
    refine WP.skip ?_
    simp -dsimp
    refine WP.seq (WP.block ?_)
    repeat (first | refine wS ?_ | refine wB ?_ | ((first | refine wR ?_ | refine wD ?_); simp -dsimp [h1]) | refine aI ?_)
    refine WP.cond (b := !decide (x = 0)) (by simp) (fun hb => ?_) (fun hb => ?_)
    · have hb : ¬ x = 0 := by simpa using hb
      repeat (first | refine wS ?_ | refine wB ?_ | ((first | refine wR ?_ | refine wD ?_); simp -dsimp) | refine aI ?_)
      refine WP.ret (finQ.retE ?_)
      simp -dsimp [ho, orL, hb]
    · have hb : x = 0 := by simpa using hb
      refine WP.skip ?_
      simp -dsimp
      repeat (first | refine wS ?_ | refine wB ?_ | ((first | refine wR ?_ | refine wD ?_); simp -dsimp) | refine aI ?_)
      refine loopW.next (mkS 18 [(3, .d (.v (.int .i64 0))), (6, .d (slI l)), (7, .d (.v (.int .i64 l.length))), (8, .d (.v (.int .i64 (l1 ++ [x]).length)))] []) (Wk.lessE [] (by simp [e1]) (by simp)) l2.length (by simp) ⟨l1 ++ [x], l2, by simp [hl12], rfl, by rw [ho, orL, if_pos hb], rfl⟩

end Go.Proofs.YtjjaabidbeoomaaGreatDoor

/-
  The reference's numbers and Encode.
-/
set_option linter.unusedSimpArgs false
set_option linter.unusedVariables false
namespace Go.Proofs.YtjjaabidbeoomaaGreatDoor
open Go.Xe Go.RowKit

@[simp] theorem setL_all (cs xs : List AV) (h : cs.length = xs.length) : setL cs 0 xs = xs := by
  refine List.ext_getElem? fun i => ?_
  rw [setL_get _ _ _ _ (by omega)]
  split
  · simp
  · rw [List.getElem?_eq_none (by omega), List.getElem?_eq_none (by omega)]
/-- What the reference's numbers says. -/
def refN (f : Nat → Int) : List Int := [f 3, f 0, f 1, f 2] ++
  (
  if f 3 = 1 then [f 4, f 5, f 6, f 7, f 8, f 9, f 10, f 11]
  else if f 3 = 2 then [f 12, f 13, f 14, f 15]
  else if f 3 = 3 then [f 16, f 17, f 18, f 19, f 20]
  else if f 3 = 4 then [f 21, f 22, f 23, f 24, f 25, f 26, f 27, f 28]
  else if f 3 = 5 then [f 29, f 30, f 31, f 32]
  else if f 3 = 6 then [f 33, f 34, f 35, f 36]
  else if f 3 = 7 then [f 37, f 38]
  else if f 3 = 8 then [f 39, f 40, f 41, f 42]
  else if f 3 = 9 then [f 43, f 44, f 45, f 46]
  else if f 3 = 10 then [f 47, f 48, f 49, f 50, f 51, f 52]
  else if f 3 = 11 then [f 53, if f 54 = 1 then 1 else 0]
  else if f 3 = 13 then [f 55, f 56]
  else [])
set_option maxRecDepth 10000 in
set_option maxHeartbeats 4000000 in
theorem refNumbers_1 (f : Nat → Int) (hk : f 3 = 1) : Fn0 Tryz.prog 75 [fD f] (slI (refN f)) := by
  refine Fun.of_wp (pn := noPn) Tryz.tab Tryz.func75 rfl fun β0 => ?_
  simp only [Tryz.f75]
  rw [fD]
  repeat (first | refine wS ?_ | refine wB ?_ | ((first | refine wR ?_ | refine wD ?_); simp -dsimp) | refine aI ?_)
  rw [hk]
  refine WP.cond (b := true) (by simp) (fun _ => ?_) (fun h => by cases h)
  repeat (first | refine wS ?_ | refine wB ?_ | ((first | refine wR ?_ | refine wD ?_); simp -dsimp) | refine aI ?_)
  refine WP.ret (finQ.retWE (Wk.freeze (k := 46) (T := 3) (sz := 1) (n := 12) (ds := iD (refN f)) (by simp [refN, hk, iD])) ?_)
  simp [refN, hk, iD]

set_option maxRecDepth 10000 in
set_option maxHeartbeats 4000000 in
theorem refNumbers_2 (f : Nat → Int) (hk : f 3 = 2) : Fn0 Tryz.prog 75 [fD f] (slI (refN f)) := by
  refine Fun.of_wp (pn := noPn) Tryz.tab Tryz.func75 rfl fun β0 => ?_
  simp only [Tryz.f75]
  rw [fD]
  repeat (first | refine wS ?_ | refine wB ?_ | ((first | refine wR ?_ | refine wD ?_); simp -dsimp) | refine aI ?_)
  rw [hk]
  refine WP.cond (b := false) (by simp) (fun h => by cases h) (fun _ => ?_)
  repeat (first | refine wS ?_ | refine wB ?_ | ((first | refine wR ?_ | refine wD ?_); simp -dsimp) | refine aI ?_)
  refine WP.cond (b := true) (by simp) (fun _ => ?_) (fun h => by cases h)
  repeat (first | refine wS ?_ | refine wB ?_ | ((first | refine wR ?_ | refine wD ?_); simp -dsimp) | refine aI ?_)
  refine WP.ret (finQ.retWE (Wk.freeze (k := 61) (T := 3) (sz := 1) (n := 8) (ds := iD (refN f)) (by simp [refN, hk, iD])) ?_)
  simp [refN, hk, iD]

set_option maxRecDepth 10000 in
set_option maxHeartbeats 4000000 in
theorem refNumbers_3 (f : Nat → Int) (hk : f 3 = 3) : Fn0 Tryz.prog 75 [fD f] (slI (refN f)) := by
  refine Fun.of_wp (pn := noPn) Tryz.tab Tryz.func75 rfl fun β0 => ?_
  simp only [Tryz.f75]
  rw [fD]
  repeat (first | refine wS ?_ | refine wB ?_ | ((first | refine wR ?_ | refine wD ?_); simp -dsimp) | refine aI ?_)
  rw [hk]
  refine WP.cond (b := false) (by simp) (fun h => by cases h) (fun _ => ?_)
  repeat (first | refine wS ?_ | refine wB ?_ | ((first | refine wR ?_ | refine wD ?_); simp -dsimp) | refine aI ?_)
  refine WP.cond (b := false) (by simp) (fun h => by cases h) (fun _ => ?_)
  repeat (first | refine wS ?_ | refine wB ?_ | ((first | refine wR ?_ | refine wD ?_); simp -dsimp) | refine aI ?_)
  refine WP.cond (b := true) (by simp) (fun _ => ?_) (fun h => by cases h)
  repeat (first | refine wS ?_ | refine wB ?_ | ((first | refine wR ?_ | refine wD ?_); simp -dsimp) | refine aI ?_)
  refine WP.ret (finQ.retWE (Wk.freeze (k := 78) (T := 3) (sz := 1) (n := 9) (ds := iD (refN f)) (by simp [refN, hk, iD])) ?_)
  simp [refN, hk, iD]

set_option maxRecDepth 10000 in
set_option maxHeartbeats 4000000 in
theorem refNumbers_4 (f : Nat → Int) (hk : f 3 = 4) : Fn0 Tryz.prog 75 [fD f] (slI (refN f)) := by
  refine Fun.of_wp (pn := noPn) Tryz.tab Tryz.func75 rfl fun β0 => ?_
  simp only [Tryz.f75]
  rw [fD]
  repeat (first | refine wS ?_ | refine wB ?_ | ((first | refine wR ?_ | refine wD ?_); simp -dsimp) | refine aI ?_)
  rw [hk]
  refine WP.cond (b := false) (by simp) (fun h => by cases h) (fun _ => ?_)
  repeat (first | refine wS ?_ | refine wB ?_ | ((first | refine wR ?_ | refine wD ?_); simp -dsimp) | refine aI ?_)
  refine WP.cond (b := false) (by simp) (fun h => by cases h) (fun _ => ?_)
  repeat (first | refine wS ?_ | refine wB ?_ | ((first | refine wR ?_ | refine wD ?_); simp -dsimp) | refine aI ?_)
  refine WP.cond (b := false) (by simp) (fun h => by cases h) (fun _ => ?_)
  repeat (first | refine wS ?_ | refine wB ?_ | ((first | refine wR ?_ | refine wD ?_); simp -dsimp) | refine aI ?_)
  refine WP.cond (b := true) (by simp) (fun _ => ?_) (fun h => by cases h)
  repeat (first | refine wS ?_ | refine wB ?_ | ((first | refine wR ?_ | refine wD ?_); simp -dsimp) | refine aI ?_)
  refine WP.ret (finQ.retWE (Wk.freeze (k := 101) (T := 3) (sz := 1) (n := 12) (ds := iD (refN f)) (by simp [refN, hk, iD])) ?_)
  simp [refN, hk, iD]

set_option maxRecDepth 10000 in
set_option maxHeartbeats 4000000 in
theorem refNumbers_5 (f : Nat → Int) (hk : f 3 = 5) : Fn0 Tryz.prog 75 [fD f] (slI (refN f)) := by
  refine Fun.of_wp (pn := noPn) Tryz.tab Tryz.func75 rfl fun β0 => ?_
  simp only [Tryz.f75]
  rw [fD]
  repeat (first | refine wS ?_ | refine wB ?_ | ((first | refine wR ?_ | refine wD ?_); simp -dsimp) | refine aI ?_)
  rw [hk]
  refine WP.cond (b := false) (by simp) (fun h => by cases h) (fun _ => ?_)
  repeat (first | refine wS ?_ | refine wB ?_ | ((first | refine wR ?_ | refine wD ?_); simp -dsimp) | refine aI ?_)
  refine WP.cond (b := false) (by simp) (fun h => by cases h) (fun _ => ?_)
  repeat (first | refine wS ?_ | refine wB ?_ | ((first | refine wR ?_ | refine wD ?_); simp -dsimp) | refine aI ?_)
  refine WP.cond (b := false) (by simp) (fun h => by cases h) (fun _ => ?_)
  repeat (first | refine wS ?_ | refine wB ?_ | ((first | refine wR ?_ | refine wD ?_); simp -dsimp) | refine aI ?_)
  refine WP.cond (b := false) (by simp) (fun h => by cases h) (fun _ => ?_)
  repeat (first | refine wS ?_ | refine wB ?_ | ((first | refine wR ?_ | refine wD ?_); simp -dsimp) | refine aI ?_)
  refine WP.cond (b := true) (by simp) (fun _ => ?_) (fun h => by cases h)
  repeat (first | refine wS ?_ | refine wB ?_ | ((first | refine wR ?_ | refine wD ?_); simp -dsimp) | refine aI ?_)
  refine WP.ret (finQ.retWE (Wk.freeze (k := 116) (T := 3) (sz := 1) (n := 8) (ds := iD (refN f)) (by simp [refN, hk, iD])) ?_)
  simp [refN, hk, iD]

set_option maxRecDepth 10000 in
set_option maxHeartbeats 4000000 in
theorem refNumbers_6 (f : Nat → Int) (hk : f 3 = 6) : Fn0 Tryz.prog 75 [fD f] (slI (refN f)) := by
  refine Fun.of_wp (pn := noPn) Tryz.tab Tryz.func75 rfl fun β0 => ?_
  simp only [Tryz.f75]
  rw [fD]
  repeat (first | refine wS ?_ | refine wB ?_ | ((first | refine wR ?_ | refine wD ?_); simp -dsimp) | refine aI ?_)
  rw [hk]
  refine WP.cond (b := false) (by simp) (fun h => by cases h) (fun _ => ?_)
  repeat (first | refine wS ?_ | refine wB ?_ | ((first | refine wR ?_ | refine wD ?_); simp -dsimp) | refine aI ?_)
  refine WP.cond (b := false) (by simp) (fun h => by cases h) (fun _ => ?_)
  repeat (first | refine wS ?_ | refine wB ?_ | ((first | refine wR ?_ | refine wD ?_); simp -dsimp) | refine aI ?_)
  refine WP.cond (b := false) (by simp) (fun h => by cases h) (fun _ => ?_)
  repeat (first | refine wS ?_ | refine wB ?_ | ((first | refine wR ?_ | refine wD ?_); simp -dsimp) | refine aI ?_)
  refine WP.cond (b := false) (by simp) (fun h => by cases h) (fun _ => ?_)
  repeat (first | refine wS ?_ | refine wB ?_ | ((first | refine wR ?_ | refine wD ?_); simp -dsimp) | refine aI ?_)
  refine WP.cond (b := false) (by simp) (fun h => by cases h) (fun _ => ?_)
  repeat (first | refine wS ?_ | refine wB ?_ | ((first | refine wR ?_ | refine wD ?_); simp -dsimp) | refine aI ?_)
  refine WP.cond (b := true) (by simp) (fun _ => ?_) (fun h => by cases h)
  repeat (first | refine wS ?_ | refine wB ?_ | ((first | refine wR ?_ | refine wD ?_); simp -dsimp) | refine aI ?_)
  refine WP.ret (finQ.retWE (Wk.freeze (k := 131) (T := 3) (sz := 1) (n := 8) (ds := iD (refN f)) (by simp [refN, hk, iD])) ?_)
  simp [refN, hk, iD]

set_option maxRecDepth 10000 in
set_option maxHeartbeats 4000000 in
theorem refNumbers_7 (f : Nat → Int) (hk : f 3 = 7) : Fn0 Tryz.prog 75 [fD f] (slI (refN f)) := by
  refine Fun.of_wp (pn := noPn) Tryz.tab Tryz.func75 rfl fun β0 => ?_
  simp only [Tryz.f75]
  rw [fD]
  repeat (first | refine wS ?_ | refine wB ?_ | ((first | refine wR ?_ | refine wD ?_); simp -dsimp) | refine aI ?_)
  rw [hk]
  refine WP.cond (b := false) (by simp) (fun h => by cases h) (fun _ => ?_)
  repeat (first | refine wS ?_ | refine wB ?_ | ((first | refine wR ?_ | refine wD ?_); simp -dsimp) | refine aI ?_)
  refine WP.cond (b := false) (by simp) (fun h => by cases h) (fun _ => ?_)
  repeat (first | refine wS ?_ | refine wB ?_ | ((first | refine wR ?_ | refine wD ?_); simp -dsimp) | refine aI ?_)
  refine WP.cond (b := false) (by simp) (fun h => by cases h) (fun _ => ?_)
  repeat (first | refine wS ?_ | refine wB ?_ | ((first | refine wR ?_ | refine wD ?_); simp -dsimp) | refine aI ?_)
  refine WP.cond (b := false) (by simp) (fun h => by cases h) (fun _ => ?_)
  repeat (first | refine wS ?_ | refine wB ?_ | ((first | refine wR ?_ | refine wD ?_); simp -dsimp) | refine aI ?_)
  refine WP.cond (b := false) (by simp) (fun h => by cases h) (fun _ => ?_)
  repeat (first | refine wS ?_ | refine wB ?_ | ((first | refine wR ?_ | refine wD ?_); simp -dsimp) | refine aI ?_)
  refine WP.cond (b := false) (by simp) (fun h => by cases h) (fun _ => ?_)
  repeat (first | refine wS ?_ | refine wB ?_ | ((first | refine wR ?_ | refine wD ?_); simp -dsimp) | refine aI ?_)
  refine WP.cond (b := true) (by simp) (fun _ => ?_) (fun h => by cases h)
  repeat (first | refine wS ?_ | refine wB ?_ | ((first | refine wR ?_ | refine wD ?_); simp -dsimp) | refine aI ?_)
  refine WP.ret (finQ.retWE (Wk.freeze (k := 142) (T := 3) (sz := 1) (n := 6) (ds := iD (refN f)) (by simp [refN, hk, iD])) ?_)
  simp [refN, hk, iD]

set_option maxRecDepth 10000 in
set_option maxHeartbeats 4000000 in
theorem refNumbers_8 (f : Nat → Int) (hk : f 3 = 8) : Fn0 Tryz.prog 75 [fD f] (slI (refN f)) := by
  refine Fun.of_wp (pn := noPn) Tryz.tab Tryz.func75 rfl fun β0 => ?_
  simp only [Tryz.f75]
  rw [fD]
  repeat (first | refine wS ?_ | refine wB ?_ | ((first | refine wR ?_ | refine wD ?_); simp -dsimp) | refine aI ?_)
  rw [hk]
  refine WP.cond (b := false) (by simp) (fun h => by cases h) (fun _ => ?_)
  repeat (first | refine wS ?_ | refine wB ?_ | ((first | refine wR ?_ | refine wD ?_); simp -dsimp) | refine aI ?_)
  refine WP.cond (b := false) (by simp) (fun h => by cases h) (fun _ => ?_)
  repeat (first | refine wS ?_ | refine wB ?_ | ((first | refine wR ?_ | refine wD ?_); simp -dsimp) | refine aI ?_)
  refine WP.cond (b := false) (by simp) (fun h => by cases h) (fun _ => ?_)
  repeat (first | refine wS ?_ | refine wB ?_ | ((first | refine wR ?_ | refine wD ?_); simp -dsimp) | refine aI ?_)
  refine WP.cond (b := false) (by simp) (fun h => by cases h) (fun _ => ?_)
  repeat (first | refine wS ?_ | refine wB ?_ | ((first | refine wR ?_ | refine wD ?_); simp -dsimp) | refine aI ?_)
  refine WP.cond (b := false) (by simp) (fun h => by cases h) (fun _ => ?_)
  repeat (first | refine wS ?_ | refine wB ?_ | ((first | refine wR ?_ | refine wD ?_); simp -dsimp) | refine aI ?_)
  refine WP.cond (b := false) (by simp) (fun h => by cases h) (fun _ => ?_)
  repeat (first | refine wS ?_ | refine wB ?_ | ((first | refine wR ?_ | refine wD ?_); simp -dsimp) | refine aI ?_)
  refine WP.cond (b := false) (by simp) (fun h => by cases h) (fun _ => ?_)
  repeat (first | refine wS ?_ | refine wB ?_ | ((first | refine wR ?_ | refine wD ?_); simp -dsimp) | refine aI ?_)
  refine WP.cond (b := true) (by simp) (fun _ => ?_) (fun h => by cases h)
  repeat (first | refine wS ?_ | refine wB ?_ | ((first | refine wR ?_ | refine wD ?_); simp -dsimp) | refine aI ?_)
  refine WP.ret (finQ.retWE (Wk.freeze (k := 157) (T := 3) (sz := 1) (n := 8) (ds := iD (refN f)) (by simp [refN, hk, iD])) ?_)
  simp [refN, hk, iD]

set_option maxRecDepth 10000 in
set_option maxHeartbeats 4000000 in
theorem refNumbers_9 (f : Nat → Int) (hk : f 3 = 9) : Fn0 Tryz.prog 75 [fD f] (slI (refN f)) := by
  refine Fun.of_wp (pn := noPn) Tryz.tab Tryz.func75 rfl fun β0 => ?_
  simp only [Tryz.f75]
  rw [fD]
  repeat (first | refine wS ?_ | refine wB ?_ | ((first | refine wR ?_ | refine wD ?_); simp -dsimp) | refine aI ?_)
  rw [hk]
  refine WP.cond (b := false) (by simp) (fun h => by cases h) (fun _ => ?_)
  repeat (first | refine wS ?_ | refine wB ?_ | ((first | refine wR ?_ | refine wD ?_); simp -dsimp) | refine aI ?_)
  refine WP.cond (b := false) (by simp) (fun h => by cases h) (fun _ => ?_)
  repeat (first | refine wS ?_ | refine wB ?_ | ((first | refine wR ?_ | refine wD ?_); simp -dsimp) | refine aI ?_)
  refine WP.cond (b := false) (by simp) (fun h => by cases h) (fun _ => ?_)
  repeat (first | refine wS ?_ | refine wB ?_ | ((first | refine wR ?_ | refine wD ?_); simp -dsimp) | refine aI ?_)
  refine WP.cond (b := false) (by simp) (fun h => by cases h) (fun _ => ?_)
  repeat (first | refine wS ?_ | refine wB ?_ | ((first | refine wR ?_ | refine wD ?_); simp -dsimp) | refine aI ?_)
  refine WP.cond (b := false) (by simp) (fun h => by cases h) (fun _ => ?_)
  repeat (first | refine wS ?_ | refine wB ?_ | ((first | refine wR ?_ | refine wD ?_); simp -dsimp) | refine aI ?_)
  refine WP.cond (b := false) (by simp) (fun h => by cases h) (fun _ => ?_)
  repeat (first | refine wS ?_ | refine wB ?_ | ((first | refine wR ?_ | refine wD ?_); simp -dsimp) | refine aI ?_)
  refine WP.cond (b := false) (by simp) (fun h => by cases h) (fun _ => ?_)
  repeat (first | refine wS ?_ | refine wB ?_ | ((first | refine wR ?_ | refine wD ?_); simp -dsimp) | refine aI ?_)
  refine WP.cond (b := false) (by simp) (fun h => by cases h) (fun _ => ?_)
  repeat (first | refine wS ?_ | refine wB ?_ | ((first | refine wR ?_ | refine wD ?_); simp -dsimp) | refine aI ?_)
  refine WP.cond (b := true) (by simp) (fun _ => ?_) (fun h => by cases h)
  repeat (first | refine wS ?_ | refine wB ?_ | ((first | refine wR ?_ | refine wD ?_); simp -dsimp) | refine aI ?_)
  refine WP.ret (finQ.retWE (Wk.freeze (k := 172) (T := 3) (sz := 1) (n := 8) (ds := iD (refN f)) (by simp [refN, hk, iD])) ?_)
  simp [refN, hk, iD]

set_option maxRecDepth 10000 in
set_option maxHeartbeats 4000000 in
theorem refNumbers_10 (f : Nat → Int) (hk : f 3 = 10) : Fn0 Tryz.prog 75 [fD f] (slI (refN f)) := by
  refine Fun.of_wp (pn := noPn) Tryz.tab Tryz.func75 rfl fun β0 => ?_
  simp only [Tryz.f75]
  rw [fD]
  repeat (first | refine wS ?_ | refine wB ?_ | ((first | refine wR ?_ | refine wD ?_); simp -dsimp) | refine aI ?_)
  rw [hk]
  refine WP.cond (b := false) (by simp) (fun h => by cases h) (fun _ => ?_)
  repeat (first | refine wS ?_ | refine wB ?_ | ((first | refine wR ?_ | refine wD ?_); simp -dsimp) | refine aI ?_)
  refine WP.cond (b := false) (by simp) (fun h => by cases h) (fun _ => ?_)
  repeat (first | refine wS ?_ | refine wB ?_ | ((first | refine wR ?_ | refine wD ?_); simp -dsimp) | refine aI ?_)
  refine WP.cond (b := false) (by simp) (fun h => by cases h) (fun _ => ?_)
  repeat (first | refine wS ?_ | refine wB ?_ | ((first | refine wR ?_ | refine wD ?_); simp -dsimp) | refine aI ?_)
  refine WP.cond (b := false) (by simp) (fun h => by cases h) (fun _ => ?_)
  repeat (first | refine wS ?_ | refine wB ?_ | ((first | refine wR ?_ | refine wD ?_); simp -dsimp) | refine aI ?_)
  refine WP.cond (b := false) (by simp) (fun h => by cases h) (fun _ => ?_)
  repeat (first | refine wS ?_ | refine wB ?_ | ((first | refine wR ?_ | refine wD ?_); simp -dsimp) | refine aI ?_)
  refine WP.cond (b := false) (by simp) (fun h => by cases h) (fun _ => ?_)
  repeat (first | refine wS ?_ | refine wB ?_ | ((first | refine wR ?_ | refine wD ?_); simp -dsimp) | refine aI ?_)
  refine WP.cond (b := false) (by simp) (fun h => by cases h) (fun _ => ?_)
  repeat (first | refine wS ?_ | refine wB ?_ | ((first | refine wR ?_ | refine wD ?_); simp -dsimp) | refine aI ?_)
  refine WP.cond (b := false) (by simp) (fun h => by cases h) (fun _ => ?_)
  repeat (first | refine wS ?_ | refine wB ?_ | ((first | refine wR ?_ | refine wD ?_); simp -dsimp) | refine aI ?_)
  refine WP.cond (b := false) (by simp) (fun h => by cases h) (fun _ => ?_)
  repeat (first | refine wS ?_ | refine wB ?_ | ((first | refine wR ?_ | refine wD ?_); simp -dsimp) | refine aI ?_)
  refine WP.cond (b := true) (by simp) (fun _ => ?_) (fun h => by cases h)
  repeat (first | refine wS ?_ | refine wB ?_ | ((first | refine wR ?_ | refine wD ?_); simp -dsimp) | refine aI ?_)
  refine WP.ret (finQ.retWE (Wk.freeze (k := 191) (T := 3) (sz := 1) (n := 10) (ds := iD (refN f)) (by simp [refN, hk, iD])) ?_)
  simp [refN, hk, iD]

set_option maxRecDepth 10000 in
set_option maxHeartbeats 4000000 in
theorem refNumbers_11 (f : Nat → Int) (hk : f 3 = 11) : Fn0 Tryz.prog 75 [fD f] (slI (refN f)) := by
  refine Fun.of_wp (pn := noPn) Tryz.tab Tryz.func75 rfl fun β0 => ?_
  simp only [Tryz.f75]
  rw [fD]
  repeat (first | refine wS ?_ | refine wB ?_ | ((first | refine wR ?_ | refine wD ?_); simp -dsimp) | refine aI ?_)
  rw [hk]
  refine WP.cond (b := false) (by simp) (fun h => by cases h) (fun _ => ?_)
  repeat (first | refine wS ?_ | refine wB ?_ | ((first | refine wR ?_ | refine wD ?_); simp -dsimp) | refine aI ?_)
  refine WP.cond (b := false) (by simp) (fun h => by cases h) (fun _ => ?_)
  repeat (first | refine wS ?_ | refine wB ?_ | ((first | refine wR ?_ | refine wD ?_); simp -dsimp) | refine aI ?_)
  refine WP.cond (b := false) (by simp) (fun h => by cases h) (fun _ => ?_)
  repeat (first | refine wS ?_ | refine wB ?_ | ((first | refine wR ?_ | refine wD ?_); simp -dsimp) | refine aI ?_)
  refine WP.cond (b := false) (by simp) (fun h => by cases h) (fun _ => ?_)
  repeat (first | refine wS ?_ | refine wB ?_ | ((first | refine wR ?_ | refine wD ?_); simp -dsimp) | refine aI ?_)
  refine WP.cond (b := false) (by simp) (fun h => by cases h) (fun _ => ?_)
  repeat (first | refine wS ?_ | refine wB ?_ | ((first | refine wR ?_ | refine wD ?_); simp -dsimp) | refine aI ?_)
  refine WP.cond (b := false) (by simp) (fun h => by cases h) (fun _ => ?_)
  repeat (first | refine wS ?_ | refine wB ?_ | ((first | refine wR ?_ | refine wD ?_); simp -dsimp) | refine aI ?_)
  refine WP.cond (b := false) (by simp) (fun h => by cases h) (fun _ => ?_)
  repeat (first | refine wS ?_ | refine wB ?_ | ((first | refine wR ?_ | refine wD ?_); simp -dsimp) | refine aI ?_)
  refine WP.cond (b := false) (by simp) (fun h => by cases h) (fun _ => ?_)
  repeat (first | refine wS ?_ | refine wB ?_ | ((first | refine wR ?_ | refine wD ?_); simp -dsimp) | refine aI ?_)
  refine WP.cond (b := false) (by simp) (fun h => by cases h) (fun _ => ?_)
  repeat (first | refine wS ?_ | refine wB ?_ | ((first | refine wR ?_ | refine wD ?_); simp -dsimp) | refine aI ?_)
  refine WP.cond (b := false) (by simp) (fun h => by cases h) (fun _ => ?_)
  repeat (first | refine wS ?_ | refine wB ?_ | ((first | refine wR ?_ | refine wD ?_); simp -dsimp) | refine aI ?_)
  refine WP.cond (b := true) (by simp) (fun _ => ?_) (fun h => by cases h)
  repeat (first | refine wS ?_ | refine wB ?_ | ((first | refine wR ?_ | refine wD ?_); simp -dsimp) | refine aI ?_)
  refine WP.cond (b := decide (f 54 = 1)) (by simp) (fun hb => ?_) (fun hb => ?_)
  · have hb := of_decide_eq_true hb
    repeat (first | refine wS ?_ | refine wB ?_ | ((first | refine wR ?_ | refine wD ?_); simp -dsimp) | refine aI ?_)
    refine WP.ret (finQ.retWE (Wk.freeze (k := 202) (T := 3) (sz := 1) (n := 6) (ds := iD (refN f)) (by simp [refN, hk, hb, iD])) ?_)
    simp [refN, hk, hb, iD]
  · have hb := of_decide_eq_false hb
    refine WP.skip ?_
    simp -dsimp
    repeat (first | refine wS ?_ | refine wB ?_ | ((first | refine wR ?_ | refine wD ?_); simp -dsimp) | refine aI ?_)
    refine WP.ret (finQ.retWE (Wk.freeze (k := 208) (T := 3) (sz := 1) (n := 6) (ds := iD (refN f)) (by simp [refN, hk, hb, iD])) ?_)
    simp [refN, hk, hb, iD]

set_option maxRecDepth 10000 in
set_option maxHeartbeats 4000000 in
theorem refNumbers_13 (f : Nat → Int) (hk : f 3 = 13) : Fn0 Tryz.prog 75 [fD f] (slI (refN f)) := by
  refine Fun.of_wp (pn := noPn) Tryz.tab Tryz.func75 rfl fun β0 => ?_
  simp only [Tryz.f75]
  rw [fD]
  repeat (first | refine wS ?_ | refine wB ?_ | ((first | refine wR ?_ | refine wD ?_); simp -dsimp) | refine aI ?_)
  rw [hk]
  refine WP.cond (b := false) (by simp) (fun h => by cases h) (fun _ => ?_)
  repeat (first | refine wS ?_ | refine wB ?_ | ((first | refine wR ?_ | refine wD ?_); simp -dsimp) | refine aI ?_)
  refine WP.cond (b := false) (by simp) (fun h => by cases h) (fun _ => ?_)
  repeat (first | refine wS ?_ | refine wB ?_ | ((first | refine wR ?_ | refine wD ?_); simp -dsimp) | refine aI ?_)
  refine WP.cond (b := false) (by simp) (fun h => by cases h) (fun _ => ?_)
  repeat (first | refine wS ?_ | refine wB ?_ | ((first | refine wR ?_ | refine wD ?_); simp -dsimp) | refine aI ?_)
  refine WP.cond (b := false) (by simp) (fun h => by cases h) (fun _ => ?_)
  repeat (first | refine wS ?_ | refine wB ?_ | ((first | refine wR ?_ | refine wD ?_); simp -dsimp) | refine aI ?_)
  refine WP.cond (b := false) (by simp) (fun h => by cases h) (fun _ => ?_)
  repeat (first | refine wS ?_ | refine wB ?_ | ((first | refine wR ?_ | refine wD ?_); simp -dsimp) | refine aI ?_)
  refine WP.cond (b := false) (by simp) (fun h => by cases h) (fun _ => ?_)
  repeat (first | refine wS ?_ | refine wB ?_ | ((first | refine wR ?_ | refine wD ?_); simp -dsimp) | refine aI ?_)
  refine WP.cond (b := false) (by simp) (fun h => by cases h) (fun _ => ?_)
  repeat (first | refine wS ?_ | refine wB ?_ | ((first | refine wR ?_ | refine wD ?_); simp -dsimp) | refine aI ?_)
  refine WP.cond (b := false) (by simp) (fun h => by cases h) (fun _ => ?_)
  repeat (first | refine wS ?_ | refine wB ?_ | ((first | refine wR ?_ | refine wD ?_); simp -dsimp) | refine aI ?_)
  refine WP.cond (b := false) (by simp) (fun h => by cases h) (fun _ => ?_)
  repeat (first | refine wS ?_ | refine wB ?_ | ((first | refine wR ?_ | refine wD ?_); simp -dsimp) | refine aI ?_)
  refine WP.cond (b := false) (by simp) (fun h => by cases h) (fun _ => ?_)
  repeat (first | refine wS ?_ | refine wB ?_ | ((first | refine wR ?_ | refine wD ?_); simp -dsimp) | refine aI ?_)
  refine WP.cond (b := false) (by simp) (fun h => by cases h) (fun _ => ?_)
  repeat (first | refine wS ?_ | refine wB ?_ | ((first | refine wR ?_ | refine wD ?_); simp -dsimp) | refine aI ?_)
  refine WP.cond (b := true) (by simp) (fun _ => ?_) (fun h => by cases h)
  repeat (first | refine wS ?_ | refine wB ?_ | ((first | refine wR ?_ | refine wD ?_); simp -dsimp) | refine aI ?_)
  refine WP.ret (finQ.retWE (Wk.freeze (k := 219) (T := 3) (sz := 1) (n := 6) (ds := iD (refN f)) (by simp [refN, hk, iD])) ?_)
  simp [refN, hk, iD]

set_option maxRecDepth 10000 in
set_option maxHeartbeats 4000000 in
theorem refNumbers_no (f : Nat → Int) (hk : f 3 < 1 ∨ 13 < f 3 ∨ f 3 = 12) : Fn0 Tryz.prog 75 [fD f] (slI (refN f)) := by
  have hr : refN f = [f 3, f 0, f 1, f 2] := by
    unfold refN
    rw [if_neg (by omega)]
    rw [if_neg (by omega)]
    rw [if_neg (by omega)]
    rw [if_neg (by omega)]
    rw [if_neg (by omega)]
    rw [if_neg (by omega)]
    rw [if_neg (by omega)]
    rw [if_neg (by omega)]
    rw [if_neg (by omega)]
    rw [if_neg (by omega)]
    rw [if_neg (by omega)]
    rw [if_neg (by omega)]
    rfl
  refine Fun.of_wp (pn := noPn) Tryz.tab Tryz.func75 rfl fun β0 => ?_
  simp only [Tryz.f75]
  rw [fD]
  repeat (first | refine wS ?_ | refine wB ?_ | ((first | refine wR ?_ | refine wD ?_); simp -dsimp) | refine aI ?_)
  refine WP.cond (b := false) (by simp; omega) (fun h => by cases h) (fun _ => ?_)
  repeat (first | refine wS ?_ | refine wB ?_ | ((first | refine wR ?_ | refine wD ?_); simp -dsimp) | refine aI ?_)
  refine WP.cond (b := false) (by simp; omega) (fun h => by cases h) (fun _ => ?_)
  repeat (first | refine wS ?_ | refine wB ?_ | ((first | refine wR ?_ | refine wD ?_); simp -dsimp) | refine aI ?_)
  refine WP.cond (b := false) (by simp; omega) (fun h => by cases h) (fun _ => ?_)
  repeat (first | refine wS ?_ | refine wB ?_ | ((first | refine wR ?_ | refine wD ?_); simp -dsimp) | refine aI ?_)
  refine WP.cond (b := false) (by simp; omega) (fun h => by cases h) (fun _ => ?_)
  repeat (first | refine wS ?_ | refine wB ?_ | ((first | refine wR ?_ | refine wD ?_); simp -dsimp) | refine aI ?_)
  refine WP.cond (b := false) (by simp; omega) (fun h => by cases h) (fun _ => ?_)
  repeat (first | refine wS ?_ | refine wB ?_ | ((first | refine wR ?_ | refine wD ?_); simp -dsimp) | refine aI ?_)
  refine WP.cond (b := false) (by simp; omega) (fun h => by cases h) (fun _ => ?_)
  repeat (first | refine wS ?_ | refine wB ?_ | ((first | refine wR ?_ | refine wD ?_); simp -dsimp) | refine aI ?_)
  refine WP.cond (b := false) (by simp; omega) (fun h => by cases h) (fun _ => ?_)
  repeat (first | refine wS ?_ | refine wB ?_ | ((first | refine wR ?_ | refine wD ?_); simp -dsimp) | refine aI ?_)
  refine WP.cond (b := false) (by simp; omega) (fun h => by cases h) (fun _ => ?_)
  repeat (first | refine wS ?_ | refine wB ?_ | ((first | refine wR ?_ | refine wD ?_); simp -dsimp) | refine aI ?_)
  refine WP.cond (b := false) (by simp; omega) (fun h => by cases h) (fun _ => ?_)
  repeat (first | refine wS ?_ | refine wB ?_ | ((first | refine wR ?_ | refine wD ?_); simp -dsimp) | refine aI ?_)
  refine WP.cond (b := false) (by simp; omega) (fun h => by cases h) (fun _ => ?_)
  repeat (first | refine wS ?_ | refine wB ?_ | ((first | refine wR ?_ | refine wD ?_); simp -dsimp) | refine aI ?_)
  refine WP.cond (b := false) (by simp; omega) (fun h => by cases h) (fun _ => ?_)
  repeat (first | refine wS ?_ | refine wB ?_ | ((first | refine wR ?_ | refine wD ?_); simp -dsimp) | refine aI ?_)
  refine WP.cond (b := false) (by simp; omega) (fun h => by cases h) (fun _ => ?_)
  refine WP.skip ?_
  simp -dsimp
  repeat (first | refine wS ?_ | refine wB ?_ | ((first | refine wR ?_ | refine wD ?_); simp -dsimp) | refine aI ?_)
  refine WP.ret (finQ.retWE (Wk.freeze (k := 21) (T := 3) (sz := 1) (n := 4) (ds := iD (refN f)) (by simp [hr, iD])) ?_)
  simp [hr, iD]

theorem refNumbers_ok (f : Nat → Int) : Fn0 Tryz.prog 75 [fD f] (slI (refN f)) := by
  have h : (f 3 < 1 ∨ 13 < f 3 ∨ f 3 = 12) ∨ f 3 = 1 ∨ f 3 = 2 ∨ f 3 = 3 ∨ f 3 = 4 ∨ f 3 = 5 ∨ f 3 = 6 ∨ f 3 = 7 ∨ f 3 = 8 ∨ f 3 = 9 ∨ f 3 = 10 ∨ f 3 = 11 ∨ f 3 = 13 := by omega
  rcases h with h | h | h | h | h | h | h | h | h | h | h | h | h
  · exact refNumbers_no f h
  · exact refNumbers_1 f h
  · exact refNumbers_2 f h
  · exact refNumbers_3 f h
  · exact refNumbers_4 f h
  · exact refNumbers_5 f h
  · exact refNumbers_6 f h
  · exact refNumbers_7 f h
  · exact refNumbers_8 f h
  · exact refNumbers_9 f h
  · exact refNumbers_10 f h
  · exact refNumbers_11 f h
  · exact refNumbers_13 f h
end Go.Proofs.YtjjaabidbeoomaaGreatDoor
