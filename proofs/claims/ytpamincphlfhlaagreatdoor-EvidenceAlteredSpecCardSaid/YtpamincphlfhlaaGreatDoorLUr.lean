/-
  Evidence: the reference's Of and Facts.
-/
import Derived.Test.YtpamincphlfhlaaGreatDoorLO
import Derived.Test.YtpamincphlfhlaaGreatDoorLG
set_option linter.unusedSectionVars false
set_option linter.unusedSimpArgs false
set_option linter.unusedVariables false
namespace Go.Proofs.YtpamincphlfhlaaGreatDoor
open Go.Xe Go.RowKit

theorem refOf2_ok (f : F) : Fn0 Tryz.prog 23 [fD f] (.agg [.v (.int .i64 (f 0)), .v (.int .i64 (f 1))]) := by
  refine Fun.of_wp (pn := noPn) Tryz.tab Tryz.func23 rfl fun β0 => ?_
  simp only [Tryz.f23]
  rw [fD]
  repeat (first | apply wS | apply wB | ((first | apply wR | apply wD); simp -dsimp) | refine aI ?_)
  refine WP.ret (finQ.retE ?_)
  simp -dsimp
abbrev fcS (l : List Sg) (b : Bool) (i : Nat) (A : List F) : St := mkS 31 [(1, .ptr 1 0), (3, .row 503), (4, .d (.v (.int .i64 (i : Nat))))] [(1, .cells 25 [.d (sgD l b)]), (503, .row 63 57 A.length ((fsC A).map .d))]
set_option maxRecDepth 10000 in
set_option maxHeartbeats 4000000 in
theorem facts_ok (l : List Sg) (b : Bool) (hl : l.length ≤ 1000) (hv : ∀ p ∈ l, sgOk p) : Fn0 Tryz.prog 27 [lgD l b] (slF (vF l)) := by
  refine Fun.of_wp (pn := noPn) Tryz.tab Tryz.func27 rfl fun β0 => ?_
  simp only [Tryz.f27]
  repeat (first | apply wS | apply wB | ((first | apply wR | apply wD); simp -dsimp) | refine aI ?_)
  refine WP.loopWk (fun m S => ∃ l1 l2, l = l1 ++ l2 ∧ m = l2.length ∧ S = fcS l b l1.length (vF l1)) l.length (S0 := fcS l b 0 []) (Wk.go [] 5 503 (by decide) (by simp) (by simp) (by simp)) ⟨[], l, rfl, rfl, rfl⟩ ?_
  rintro _ _ ⟨l1, l2, hl12, rfl, rfl⟩
  simp -dsimp
  repeat (first | apply wS | apply wB | ((first | apply wR | apply wD); simp -dsimp) | refine aI ?_)
  cases l2 with
  | nil =>
    simp only [List.append_nil] at hl12
    subst hl12
    refine cF (by simp) ?_
    refine WP.exit ?_
    simp -dsimp
    repeat (first | apply wS | apply wB | ((first | apply wR | apply wD); simp -dsimp) | refine aI ?_)
    refine WP.ret (finQ.retWE (S' := mkS 31 [(2, .d (slF (vF l)))] []) (Wk.trans (Wk.lessE [1] (S' := mkS 31 [(2, .row 503)] [(503, .row 63 57 (vF l).length ((fsC (vF l)).map .d))]) (by simp) (by simp)) (Wk.trans (Wk.freeze (k := 503) (T := 63) (sz := 57) (n := (vF l).length) (ds := fsC (vF l)) (by simp)) (Wk.lessE [] (by simp) (by simp)))) ?_)
    simp -dsimp
  | cons p l2 =>
    have hll : l.length = l1.length + (l2.length + 1) := by rw [hl12]; simp
    have hp := hv p (by rw [hl12]; simp)
    have lp := sgc_len hp
    have hi : l1.length < l.length := by omega
    have h1 := sgc_at hi hv
    have h1m := sgc_atA hi hv
    have hre : l[l1.length] = p := by simp [hl12]
    rw [hre] at h1 h1m
    have e1 : IntKind.i64.wrap ((l1.length : Int) + 1) = ((l1 ++ [p]).length : Nat) := by rw [IntWalk.i64_in _ (by omega)]; simp
    have hrc := refCheck_ok p.1 hp.1
    rw [← (num_chk hp.1).1] at hrc
    have hsn := vF_snoc l1 p
    have h57 := sgc_57 p
    have h57D := sgc_57D p
    have hA : (vF l1).length ≤ l1.length := vF_len l1
    generalize vF l1 = A at hsn hA
    generalize (numF p.1).2 = c at hrc hsn
    refine cT (by simp; omega) ?_
    refine WP.skip ?_
    simp -dsimp
    repeat (first | apply wS | apply wB | ((first | apply wR | apply wD); simp -dsimp [h1, h1m, h57, h57D]) | refine aI ?_)
    refine vcStop.call0 Tryz.body52 hrc rfl rfl (by simp [fD]) ?_
    simp -dsimp
    repeat (first | apply wS | apply wB | ((first | apply wR | apply wD); simp -dsimp) | refine aI ?_)
    cases c with
    | true =>
      simp only [if_true] at hsn
      refine cT (by simp) ?_
      repeat (first | apply wS | apply wB | ((first | apply wR | apply wD); simp -dsimp [h1, h1m, h57, h57D]) | refine aI ?_)
      refine loopW.next (fcS l b (l1 ++ [p]).length (vF (l1 ++ [p]))) (Wk.go [28, 503] 29 503 (by decide) (by simp) (by simp [e1]) (by simp [hsn, fsC_append, fsC_cons])) l2.length (by simp) ⟨l1 ++ [p], l2, by simp [hl12], rfl, rfl⟩
    | false =>
      simp only [Bool.false_eq_true, if_false, List.append_nil] at hsn
      refine cF (by simp) ?_
      refine WP.skip ?_
      simp -dsimp
      repeat (first | apply wS | apply wB | ((first | apply wR | apply wD); simp -dsimp) | refine aI ?_)
      refine loopW.next (fcS l b (l1 ++ [p]).length (vF (l1 ++ [p]))) (Wk.lessE [] (by simp [e1]) (by simp [hsn])) l2.length (by simp) ⟨l1 ++ [p], l2, by simp [hl12], rfl, rfl⟩
end Go.Proofs.YtpamincphlfhlaaGreatDoor
