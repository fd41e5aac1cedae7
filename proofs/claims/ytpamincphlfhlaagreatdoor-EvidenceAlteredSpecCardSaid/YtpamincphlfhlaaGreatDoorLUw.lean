/-
  Evidence: the reference's Gaps.
-/
import Derived.Test.YtpamincphlfhlaaGreatDoorLUt
import Derived.Test.YtpamincphlfhlaaGreatDoorLS
set_option linter.unusedSectionVars false
set_option linter.unusedSimpArgs false
set_option linter.unusedVariables false
namespace Go.Proofs.YtpamincphlfhlaaGreatDoor
open Go.Xe Go.RowKit

def crs (n : Nat) : List Int := (List.range n).map fun k => ((k : Nat) : Int)
theorem crs_snoc (n : Nat) : crs (n + 1) = crs n ++ [(n : Int)] := by simp [crs, List.range_succ]
theorem crs_in {n : Nat} {c : Int} : c ∈ crs n ↔ 0 ≤ c ∧ c < n := by
  rw [crs, List.mem_map]
  constructor
  · rintro ⟨k, hk, rfl⟩
    have := List.mem_range.1 hk
    omega
  · intro h
    exact ⟨c.toNat, List.mem_range.2 (by omega), by omega⟩
theorem crs_lt (n : Nat) : (crs n).Pairwise fun a b => a < b := by
  rw [crs, List.pairwise_map]
  exact List.Pairwise.imp (fun h => by omega) List.pairwise_lt_range
/-- The crews that a ledger has, and all crews that there may be, give the same gaps. -/
theorem gapS_crs (l : List Sg) : gapS (vF l) (isA (crN (vF l) (vF l).length)) = gapS (vF l) (crs 32) :=
  gapS_eq (isA_lt (crN_ok _ _ (Nat.le_refl _)).1) (crs_lt 32) (fun f hf => by
    rw [isA_in, (crN_ok _ _ (Nat.le_refl _)).2.2, List.take_length]
    exact ⟨f, hf, rfl⟩) fun f hf => by
    have := vF_head hf
    rw [crs_in]; omega
abbrev rgS (a : List Sg) (A : List F) (Z : List R2) (c : Nat) : St := mkS 34 [(1, .ptr 1 0), (3, .d (slF A)), (4, .row 510), (5, .d (.v (.int .i64 c)))] [(1, .cells 25 [.d (sgD a false)]), (510, rfB Z)]
abbrev rhS (a : List Sg) (A : List F) (Z : List R2) (c n : Nat) : St := mkS 34 [(1, .ptr 1 0), (3, .d (slF A)), (4, .row 510), (5, .d (.v (.int .i64 c))), (6, .d (.v (.int .i64 n)))] [(1, .cells 25 [.d (sgD a false)]), (510, rfB Z)]
set_option maxRecDepth 10000 in
set_option maxHeartbeats 4000000 in
theorem refGaps_ok (a : List Sg) (hla : a.length ≤ 30) (ha : ∀ p ∈ a, sgOk p) (hno : ∀ p ∈ a, p.1 1 ≤ 200) : Fn0 Tryz.prog 22 [lgD a false] (slR (gapS (vF a) (crs 32))) := by
  have ca := facts_ok a false (by omega) ha
  have hA := vF_fOk fun p hp => (ha p hp).1
  have lA := vF_len a
  have hn200 : ∀ f ∈ vF a, f 1 ≤ 200 := fun f hf => by
    obtain ⟨p, hp, rfl, _⟩ := vF_iff.1 hf
    exact hno p hp
  generalize vF a = A at ca hA lA hn200
  refine Fun.of_wp (pn := noPn) Tryz.tab Tryz.func22 rfl fun β0 => ?_
  simp only [Tryz.f22]
  repeat (first | apply wS | apply wB | ((first | apply wR | apply wD); simp -dsimp) | refine aI ?_)
  refine vcStop.call0L Tryz.body27 ca rfl rfl (And.intro (Leq.aggD [sgD a false]) trivial) ?_
  simp -dsimp
  repeat (first | apply wS | apply wB | ((first | apply wR | apply wD); simp -dsimp) | refine aI ?_)
  have hz : rfB (gapS A (crs 0)) = .row 39 2 0 [] := rfl
  refine WP.loopWk (fun q S => ∃ c : Nat, q = 32 - c ∧ c ≤ 32 ∧ S = rgS a A (gapS A (crs c)) c) 32 (S0 := rgS a A (gapS A (crs 0)) 0) (Wk.go [] 9 510 (by decide) (by simp) (by simp) (by rw [rgS, hz]; simp)) ⟨0, rfl, by omega, rfl⟩ ?_
  rintro _ _ ⟨c, rfl, hc32, rfl⟩
  simp -dsimp
  repeat (first | apply wS | apply wB | ((first | apply wR | apply wD); simp -dsimp) | refine aI ?_)
  by_cases hc : c < 32
  · have hci : isI (c : Int) := by unfold isI; omega
    have e1 : IntKind.i64.wrap ((c : Int) + 1) = ((c + 1 : Nat) : Int) := by rw [IntWalk.i64_in _ (by omega)]; omega
    refine cT (by simp; omega) ?_
    refine WP.skip ?_
    simp -dsimp
    repeat (first | apply wS | apply wB | ((first | apply wR | apply wD); simp -dsimp) | refine aI ?_)
    have hla2 := last_ok A (c : Int) hA (by omega)
    have hm0 := lastN_le (c : Int) A 0
    have hm2 := lastN_bd (A := A) (c := (c : Int)) (b := 200) (by omega) hn200
    have hgc : gapS A (crs (c + 1)) = gapS A (crs c) ++ gapC (A.map refF) c (lastN c A 0) 1 (lastN c A 0).toNat := by rw [crs_snoc, gapS_app]; simp [gapS]
    have hgl : (gapS A (crs (c + 1))).length ≤ 7000 := by
      have h1 := gapS_len A hn200 (crs (c + 1))
      have h2 : (crs (c + 1)).length = c + 1 := by simp [crs]
      omega
    generalize hG : gapS A (crs (c + 1)) = G at hgc hgl
    generalize lastN (c : Int) A 0 = m at hm0 hm2 hgc hla2
    refine WP.loopWk (fun q S => ∃ n Z, q = m.toNat + 1 - n ∧ 1 ≤ n ∧ n ≤ m.toNat + 1 ∧ Z ++ gapC (A.map refF) c m n (m.toNat + 1 - n) = G ∧ S = rhS a A Z c n) m.toNat (S0 := rhS a A (gapS A (crs c)) c 1)
      (Wk.lessE [] (by simp) (by simp)) ⟨1, gapS A (crs c), rfl, by omega, by omega, hgc.symm, rfl⟩ ?_
    rintro _ _ ⟨n, Z, rfl, hn1, hnm, hZ, rfl⟩
    have hZl : Z.length ≤ 7000 := by
      have := congrArg List.length hZ
      rw [List.length_append] at this
      omega
    simp -dsimp
    repeat (first | apply wS | apply wB | ((first | apply wR | apply wD); simp -dsimp) | refine aI ?_)
    refine vcStop.call0L Tryz.body47 hla2 rfl rfl (And.intro (.refl _) (And.intro (.refl _) trivial)) ?_
    simp -dsimp
    repeat (first | apply wS | apply wB | ((first | apply wR | apply wD); simp -dsimp) | refine aI ?_)
    by_cases hnlt : (n : Int) < m
    · have e2 : IntKind.i64.wrap ((n : Int) + 1) = ((n + 1 : Nat) : Int) := by rw [IntWalk.i64_in _ (by omega)]; omega
      have hg1 : gapC (A.map refF) c m n (m.toNat + 1 - n) = (if ((c : Int), (n : Int)) ∉ A.map refF then [((c : Int), (n : Int))] else []) ++ gapC (A.map refF) c m (n + 1) (m.toNat + 1 - (n + 1)) := by
        rw [show m.toNat + 1 - n = (m.toNat + 1 - (n + 1)) + 1 by omega, gapC]
        simp [hnlt]
      have hme := met_ok A ((c : Int), (n : Int)) hA hci (by unfold isI; omega) (by omega)
      have hin : decide (((c : Int), (n : Int)) ∈ A.map refF) = true ↔ ((c : Int), (n : Int)) ∈ A.map refF := decide_eq_true_iff
      generalize decide (((c : Int), (n : Int)) ∈ A.map refF) = d at hme hin
      refine cT (by simp; omega) ?_
      refine WP.skip ?_
      simp -dsimp
      repeat (first | apply wS | apply wB | ((first | apply wR | apply wD); simp -dsimp) | refine aI ?_)
      refine vcStop.call0L Tryz.body48 hme rfl rfl (And.intro (.refl _) (And.intro (Leq.aggD [.v (.int .i64 c), .v (.int .i64 n)]) trivial)) ?_
      simp -dsimp
      repeat (first | apply wS | apply wB | ((first | apply wR | apply wD); simp -dsimp) | refine aI ?_)
      cases d with
      | true =>
        rw [hg1, if_neg (by simpa using hin.1 rfl), List.nil_append] at hZ
        refine cF (by simp) ?_
        refine WP.skip ?_
        simp -dsimp
        repeat (first | apply wS | apply wB | ((first | apply wR | apply wD); simp -dsimp) | refine aI ?_)
        refine loopW.next (rhS a A Z c (n + 1)) (Wk.lessE [] (by simp [e2]) (by simp)) (m.toNat + 1 - (n + 1)) (by omega) ⟨n + 1, Z, rfl, by omega, by omega, hZ, rfl⟩
      | false =>
        rw [hg1, if_pos (fun h => by cases hin.2 h), ← List.append_assoc] at hZ
        refine cT (by simp) ?_
        repeat (first | apply wS | apply wB | ((first | apply wR | apply wD); simp -dsimp) | refine aI ?_)
        refine loopW.next (rhS a A (Z ++ [((c : Int), (n : Int))]) c (n + 1)) (Wk.go [31, 510] 32 510 (by decide) (by simp) (by simp [e2]) (by simp [rfC])) (m.toNat + 1 - (n + 1)) (by omega) ⟨n + 1, Z ++ [((c : Int), (n : Int))], rfl, by omega, by omega, hZ, rfl⟩
    · refine cF (by simp; omega) ?_
      refine WP.exit ?_
      simp -dsimp
      repeat (first | apply wS | apply wB | ((first | apply wR | apply wD); simp -dsimp) | refine aI ?_)
      rw [gapC_end _ _ _ _ _ (by omega), List.append_nil] at hZ
      have hZG : gapS A (crs (c + 1)) = Z := hG.trans hZ.symm
      refine loopW.next (rgS a A (gapS A (crs (c + 1))) (c + 1)) (Wk.lessE [] (by simp [e1]) (by simp [hZG])) (32 - (c + 1)) (by omega) ⟨c + 1, rfl, by omega, rfl⟩
  · have hce : c = 32 := by omega
    subst hce
    refine cF (by simp) ?_
    refine WP.exit ?_
    simp -dsimp
    repeat (first | apply wS | apply wB | ((first | apply wR | apply wD); simp -dsimp) | refine aI ?_)
    refine WP.ret (finQ.retWE (S' := mkS 34 [(2, .d (slR (gapS A (crs 32))))] []) (Wk.trans (Wk.lessE [1] (S' := mkS 34 [(2, .row 510)] [(510, rfB (gapS A (crs 32)))]) (by simp) (by simp)) (Wk.trans (Wk.freeze (k := 510) (T := 39) (sz := 2) (n := (gapS A (crs 32)).length) (ds := rfC (gapS A (crs 32))) (by simp)) (Wk.lessE [] (by simp) (by simp)))) ?_)
    simp -dsimp
end Go.Proofs.YtpamincphlfhlaaGreatDoor
