/-
  The reference's Encode of facts.
-/
import Derived.Test.YtjjaabidbeoomaaGreatDoorKI
set_option linter.unusedSectionVars false
set_option linter.unusedSimpArgs false
set_option linter.unusedVariables false
namespace Go.Proofs.YtjjaabidbeoomaaGreatDoor
open Go.Xe Go.RowKit

def sI (l l1 : List Int) : St :=
  mkS 23 [(0, .d (slI l)), (2, .ptr 2 0), (3, .ptr 3 0), (4, .d (.v (.int .i64 l1.length)))]
    [(2, .cells 111 [.d (.v (.int .i64 0)), .d (.v (.int .i64 0)), .d (.v (.string ⟨#[]⟩)), .d (.v (.slice none 0 0))]), (3, .cells 111 [.d (.v (.int .i64 3)), .d (.v (.int .i64 0)), .d (.v (.string ⟨#[]⟩)), .row 500]), (500, .row 111 4 l1.length ((V.cellsL (l1.map intV)).map .d))]
theorem intV_d (x : Int) : (intV x).cells = [.v (.int .i64 1), .v (.int .i64 x), .v (.string ⟨#[]⟩), .sl 4 [] 0 false] := by simp [intV, V.cells, V.cellsL]
set_option maxRecDepth 10000 in
set_option maxHeartbeats 4000000 in
theorem ints_ok (l : List Int) (hl : l.length ≤ 1000) : Fn0 Tryz.prog 74 [slI l] (intsV l).d := by
  refine Fun.of_wp (pn := noPn) Tryz.tab Tryz.func74 rfl fun β0 => ?_
  simp only [Tryz.f74]
  repeat (first | refine wS ?_ | refine wB ?_ | ((first | refine wR ?_ | refine wD ?_); simp -dsimp) | refine aI ?_)
  refine WP.loopWk (fun m S => ∃ l1 l2, l = l1 ++ l2 ∧ m = l2.length ∧ S = sI l l1) l.length (S0 := sI l [])
    ((Wk.nilCell 3 3 500 111 4 (by simp; exact ⟨rfl, rfl⟩) rfl (by simp)).trans (Wk.lessE [] (by simp [sI]) (by simp [sI, V.cellsL]))) ⟨[], l, rfl, rfl, rfl⟩ ?_
  rintro _ _ ⟨l1, l2, hl12, rfl, rfl⟩
  simp -dsimp [sI]
  repeat (first | refine wS ?_ | refine wB ?_ | ((first | refine wR ?_ | refine wD ?_); simp -dsimp) | refine aI ?_)
  cases l2 with
  | nil =>
    simp only [List.append_nil] at hl12
    subst hl12
    refine WP.cond (b := false) (by simp) (fun h => by cases h) (fun _ => ?_)
    refine WP.exit ?_
    simp -dsimp
    repeat (first | refine wS ?_ | refine wB ?_ | ((first | refine wR ?_ | refine wD ?_); simp -dsimp) | refine aI ?_)
    refine WP.ret (finQ.retWE (Wk.freeze (k := 500) (T := 111) (sz := 4) (n := l.length) (ds := V.cellsL (l.map intV)) (by simp)) ?_)
    simp [intsV, V.d, V.cells]
  | cons x l2 =>
    have hll : l.length = l1.length + (l2.length + 1) := by rw [hl12]; simp
    have e1 : IntKind.i64.wrap ((l1.length : Int) + 1) = (l1.length : Int) + 1 := IntWalk.i64_in _ (by omega)
    have h1 := iD_at l1 x l2
    rw [← hl12] at h1
    refine WP.cond (b := true) (by simp; omega) (fun _ => ?_) (fun h => by cases h)
    refine WP.skip ?_
    simp -dsimp
    refine WP.seq (WP.block ?_)
    repeat (first | refine wS ?_ | refine wB ?_ | ((first | refine wR ?_ | refine wD ?_); simp -dsimp [h1]) | refine aI ?_)
    refine vcStop.call0 Tryz.body94 (f23_ok x) rfl rfl (by simp) ?_
    simp -dsimp [V.d, V.cells, V.cellsL]
    repeat (first | refine wS ?_ | refine wB ?_ | ((first | refine wR ?_ | refine wD ?_); simp -dsimp) | refine aI ?_)
    refine loopW.next (sI l (l1 ++ [x])) (Wk.go [19] 20 500 (by decide) (by simp [sI]) (by simp [sI, e1]) (by simp [sI, V.cellsL_append, V.cellsL, intV_d])) l2.length (by simp) ⟨l1 ++ [x], l2, by simp [hl12], rfl, rfl⟩
theorem refN_in {f : Nat → Int} (hf : fOk f) : (∀ x ∈ refN f, isI x) ∧ (refN f).length ≤ 12 := by
  have h := hf.1
  have key : ∀ L : List Nat, L.length ≤ 12 → refN f = L.map f → (∀ x ∈ refN f, isI x) ∧ (refN f).length ≤ 12 := fun L h1 h2 => by
    rw [h2]
    refine ⟨fun x hx => ?_, by simpa using h1⟩
    obtain ⟨i, _, rfl⟩ := List.mem_map.1 hx
    exact h i
  have hk : (f 3 < 1 ∨ 13 < f 3 ∨ f 3 = 12) ∨ f 3 = 1 ∨ f 3 = 2 ∨ f 3 = 3 ∨ f 3 = 4 ∨ f 3 = 5 ∨ f 3 = 6 ∨ f 3 = 7 ∨ f 3 = 8 ∨ f 3 = 9 ∨ f 3 = 10 ∨ f 3 = 11 ∨ f 3 = 13 := by omega
  rcases hk with hk | hk | hk | hk | hk | hk | hk | hk | hk | hk | hk | hk | hk
  · refine key [3, 0, 1, 2] (by decide) ?_
    unfold refN
    rw [if_neg (by omega)]
    rw [if_neg (by omega)]
    rw [if_neg (by omega)]
    rw [if_neg (by omega)]
    rw [if_neg (by omega)]
    rw [if_neg (by omega)]
    rw [if_neg (by omega)]
    rw [if_neg (by omega)]
    rw [if_neg (by omega)]
    rw [if_neg (by omega)]
    rw [if_neg (by omega)]
    rw [if_neg (by omega)]
    rfl
  · exact key [3, 0, 1, 2, 4, 5, 6, 7, 8, 9, 10, 11] (by decide) (by simp [refN, hk])
  · exact key [3, 0, 1, 2, 12, 13, 14, 15] (by decide) (by simp [refN, hk])
  · exact key [3, 0, 1, 2, 16, 17, 18, 19, 20] (by decide) (by simp [refN, hk])
  · exact key [3, 0, 1, 2, 21, 22, 23, 24, 25, 26, 27, 28] (by decide) (by simp [refN, hk])
  · exact key [3, 0, 1, 2, 29, 30, 31, 32] (by decide) (by simp [refN, hk])
  · exact key [3, 0, 1, 2, 33, 34, 35, 36] (by decide) (by simp [refN, hk])
  · exact key [3, 0, 1, 2, 37, 38] (by decide) (by simp [refN, hk])
  · exact key [3, 0, 1, 2, 39, 40, 41, 42] (by decide) (by simp [refN, hk])
  · exact key [3, 0, 1, 2, 43, 44, 45, 46] (by decide) (by simp [refN, hk])
  · exact key [3, 0, 1, 2, 47, 48, 49, 50, 51, 52] (by decide) (by simp [refN, hk])
  · have e : refN f = [f 3, f 0, f 1, f 2, f 53, if f 54 = 1 then 1 else 0] := by simp [refN, hk]
    rw [e]
    refine ⟨fun x hx => ?_, by simp⟩
    simp only [List.mem_cons, List.not_mem_nil, or_false] at hx
    rcases hx with rfl | rfl | rfl | rfl | rfl | rfl <;> first | exact h _ | (split <;> simp [isI])
  · exact key [3, 0, 1, 2, 55, 56] (by decide) (by simp [refN, hk])
def refR (f : Nat → Int) : List UInt8 × Int := if chkF f = true then (V.enc (intsV (refN f)), 0) else ([], 120)
set_option maxRecDepth 10000 in
set_option maxHeartbeats 4000000 in
theorem refEncode_ok (f : Nat → Int) (hf : fOk f) : Fn0 Tryz.prog 52 [fD f] (.tup [slB (refR f).1, .v (.int .i64 (refR f).2)]) := by
  have h12 := refCheck_ok f hf
  have h35 := refNumbers_ok f
  obtain ⟨hin, hlen⟩ := refN_in hf
  have h34 := ints_ok (refN f) (by omega)
  obtain ⟨c1, c2, c3, c4⟩ := intsV_facts hin (by omega)
  have h33 := f13_ok (intsV (refN f)) (by omega) c2 (by omega)
  rw [show V.encB (intsV (refN f)) = V.enc (intsV (refN f)) from if_pos c1, c1] at h33
  refine Fun.of_wp (pn := noPn) Tryz.tab Tryz.func52 rfl fun β0 => ?_
  simp only [Tryz.f52]
  rw [fD]
  repeat (first | refine wS ?_ | refine wB ?_ | ((first | refine wR ?_ | refine wD ?_); simp -dsimp) | refine aI ?_)
  refine vcStop.call0 Tryz.body33 h12 rfl rfl (by simp [fD]) ?_
  simp -dsimp
  repeat (first | refine wS ?_ | refine wB ?_ | ((first | refine wR ?_ | refine wD ?_); simp -dsimp) | refine aI ?_)
  cases hc : chkF f with
  | false =>
    refine WP.cond (b := true) (by simp) (fun _ => ?_) (fun h => by cases h)
    repeat (first | refine wS ?_ | refine wB ?_ | ((first | refine wR ?_ | refine wD ?_); simp -dsimp) | refine aI ?_)
    refine WP.ret (finQ.retE ?_)
    simp -dsimp [refR, hc]
  | true =>
    refine WP.cond (b := false) (by simp) (fun h => by cases h) (fun _ => ?_)
    refine WP.skip ?_
    simp -dsimp
    repeat (first | refine wS ?_ | refine wB ?_ | ((first | refine wR ?_ | refine wD ?_); simp -dsimp) | refine aI ?_)
    refine vcStop.call0 Tryz.body75 h35 rfl rfl (by simp [fD]) ?_
    simp -dsimp
    repeat refine aI ?_
    refine vcStop.call0 Tryz.body74 h34 rfl rfl (by simp) ?_
    simp -dsimp
    repeat refine aI ?_
    refine vcStop.call0 Tryz.body73 h33 rfl rfl (by simp [intsV, V.d, V.cells]) ?_
    simp -dsimp
    repeat (first | refine wS ?_ | refine wB ?_ | ((first | refine wR ?_ | refine wD ?_); simp -dsimp) | refine aI ?_)
    refine WP.ret (finQ.retE ?_)
    simp -dsimp [refR, hc]
end Go.Proofs.YtjjaabidbeoomaaGreatDoor
