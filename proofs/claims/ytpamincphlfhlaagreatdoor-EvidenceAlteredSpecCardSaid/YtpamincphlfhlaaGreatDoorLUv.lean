/-
  Evidence: the reference's Altered.
-/
import Derived.Test.YtpamincphlfhlaaGreatDoorLUu
import Derived.Test.YtpamincphlfhlaaGreatDoorLUk
set_option linter.unusedSectionVars false
set_option linter.unusedSimpArgs false
set_option linter.unusedVariables false
namespace Go.Proofs.YtpamincphlfhlaaGreatDoor
open Go.Xe Go.RowKit

theorem altR_snoc (A : List F) (B : List F) (f : F) : altR (A ++ [f]) B = altR A B ++ if hasF B f = true then [] else [refF f] := by
  rw [altR, List.filter_append, List.map_append]
  congr 1
  cases h : hasF B f <;> simp [h]
abbrev raS (a b : List Sg) (A B : List F) (i : Nat) (x : List R2) : St := mkS 35 [(2, .ptr 2 0), (3, .ptr 3 0), (5, .d (slF A)), (6, .d (slF B)), (7, .d (slR x)), (8, .d (.v (.int .i64 i)))] [(2, .cells 25 [.d (sgD a false)]), (3, .cells 25 [.d (sgD b false)])]
set_option maxRecDepth 10000 in
set_option maxHeartbeats 4000000 in
theorem refAltered_ok (a b : List Sg) (hla : a.length ≤ 30) (hlb : b.length ≤ 30) (ha : ∀ p ∈ a, sgOk p) (hb : ∀ p ∈ b, sgOk p) : Fn0 Tryz.prog 21 [lgD a false, lgD b false] (slR (altL (vF a) (vF b))) := by
  have ca := facts_ok a false (by omega) ha
  have cb := facts_ok b false (by omega) hb
  have hA := vF_fOk fun p hp => (ha p hp).1
  have hB := vF_fOk fun p hp => (hb p hp).1
  have lA := vF_len a
  have lB := vF_len b
  generalize vF a = A at ca hA lA
  generalize vF b = B at cb hB lB
  refine Fun.of_wp (pn := noPn) Tryz.tab Tryz.func21 rfl fun β0 => ?_
  simp only [Tryz.f21]
  repeat (first | apply wS | apply wB | ((first | apply wR | apply wD); simp -dsimp) | refine aI ?_)
  refine vcStop.call0L Tryz.body27 ca rfl rfl (And.intro (Leq.aggD [sgD a false]) trivial) ?_
  simp -dsimp
  repeat (first | apply wS | apply wB | ((first | apply wR | apply wD); simp -dsimp) | refine aI ?_)
  refine vcStop.call0L Tryz.body27 cb rfl rfl (And.intro (Leq.aggD [sgD b false]) trivial) ?_
  simp -dsimp
  repeat (first | apply wS | apply wB | ((first | apply wR | apply wD); simp -dsimp) | refine aI ?_)
  have hz : slR (altL (A.take 0) B) = .sl 2 [] 0 false := rfl
  refine WP.loopWk (fun m S => ∃ i : Nat, m = A.length - i ∧ i ≤ A.length ∧ S = raS a b A B i (altL (A.take i) B)) A.length (S0 := raS a b A B 0 (altL (A.take 0) B)) ((Wk.lessE [] (S' := mkS 35 [(2, .ptr 2 0), (3, .ptr 3 0), (5, .d (slF A)), (6, .d (slF B)), (7, .row 13), (8, .d (.v (.int .i64 0)))] [(2, .cells 25 [.d (sgD a false)]), (3, .cells 25 [.d (sgD b false)]), (13, .row 39 2 0 [])]) (by simp) (by simp)).trans ((Wk.freeze (k := 13) (T := 39) (sz := 2) (n := 0) (ds := []) (by simp)).trans (Wk.lessE [] (by rw [raS, hz]; simp) (by simp)))) ⟨0, rfl, by omega, rfl⟩ ?_
  rintro m _ ⟨i, rfl, hi, rfl⟩
  simp -dsimp
  repeat (first | apply wS | apply wB | ((first | apply wR | apply wD); simp -dsimp) | refine aI ?_)
  by_cases hil : i < A.length
  · have hat := fsC_at hil
    have lA' := fsC_len A
    have hg := hA A[i] (List.getElem_mem hil)
    have e1 : IntKind.i64.wrap ((i : Int) + 1) = ((i + 1 : Nat) : Int) := by rw [IntWalk.i64_in _ (by omega)]; omega
    have hfa : fat A i = A[i] := by simp [fat, hil]
    have htk : altL (A.take (i + 1)) B = if hasF B A[i] = true then altL (A.take i) B else insR (refF A[i]) (altL (A.take i) B) := by
      rw [altL, List.take_succ_eq_append_getElem hil, altR_snoc]
      split
      · rw [List.append_nil, altL]
      · rw [sortR_snoc, altL]
    rw [hfa] at hat
    have hxI : ∀ s ∈ altL (A.take i) B, isI s.1 ∧ isI s.2 := fun s hs => alt_isI (fun f hf => hA f (List.mem_of_mem_take hf)) hB hs
    have hxl := altL_len (A.take i) B
    rw [List.length_take] at hxl
    generalize A[i] = g at hat hg htk
    generalize altL (A.take i) B = x at htk hxI hxl
    have hha := has_ok B g hB hg (by omega)
    have hof := refOf2_ok g
    have hwi := with_ok x (refF g) hxI (hg.1 0) (hg.1 1) (by omega)
    refine cT (by simp; omega) ?_
    refine WP.skip ?_
    simp -dsimp
    repeat (first | apply wS | apply wB | ((first | apply wR | apply wD); simp -dsimp [hat]) | refine aI ?_)
    refine vcStop.call0L Tryz.body45 hha rfl rfl (And.intro (.refl _) (And.intro (by simp [fD]) trivial)) ?_
    simp -dsimp
    repeat (first | apply wS | apply wB | ((first | apply wR | apply wD); simp -dsimp) | refine aI ?_)
    cases hh : hasF B g with
    | true =>
      rw [if_pos hh] at htk
      refine cF (by simp) ?_
      refine WP.skip ?_
      simp -dsimp
      repeat (first | apply wS | apply wB | ((first | apply wR | apply wD); simp -dsimp) | refine aI ?_)
      refine loopW.next (raS a b A B (i + 1) (altL (A.take (i + 1)) B)) (Wk.lessE [] (by simp [e1, htk]) (by simp)) (A.length - (i + 1)) (by omega) ⟨i + 1, rfl, by omega, rfl⟩
    | false =>
      rw [if_neg (by simp [hh])] at htk
      refine cT (by simp) ?_
      repeat (first | apply wS | apply wB | ((first | apply wR | apply wD); simp -dsimp [hat]) | refine aI ?_)
      refine vcStop.call0L Tryz.body23 hof rfl rfl (And.intro (by simp [fD]) trivial) ?_
      simp -dsimp
      repeat (first | apply wS | apply wB | ((first | apply wR | apply wD); simp -dsimp) | refine aI ?_)
      refine vcStop.call0L Tryz.body46 hwi rfl rfl (And.intro (.refl _) (And.intro (.refl _) trivial)) ?_
      simp -dsimp
      repeat (first | apply wS | apply wB | ((first | apply wR | apply wD); simp -dsimp) | refine aI ?_)
      refine loopW.next (raS a b A B (i + 1) (altL (A.take (i + 1)) B)) (Wk.lessE [] (by simp [e1, htk]) (by simp)) (A.length - (i + 1)) (by omega) ⟨i + 1, rfl, by omega, rfl⟩
  · rw [List.take_of_length_le (by omega)]
    refine cF (by simp; omega) ?_
    refine WP.exit ?_
    simp -dsimp
    repeat (first | apply wS | apply wB | ((first | apply wR | apply wD); simp -dsimp) | refine aI ?_)
    refine WP.ret (finQ.retE ?_)
    simp -dsimp
end Go.Proofs.YtpamincphlfhlaaGreatDoor
