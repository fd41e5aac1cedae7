/-
  Evidence: are there few facts with small numbers?
-/
import Derived.Test.YtadfkiigjnbdgaaGreatDoorKR
set_option maxRecDepth 10000
set_option linter.unusedSectionVars false
set_option linter.unusedSimpArgs false
set_option linter.unusedVariables false
namespace Go.Proofs.YtadfkiigjnbdgaaGreatDoor
open Go.Xe Go.RowKit

def sgF (p : Sg) : Prop := ∃ (k : Int) (s1 n1 s2 n2 s3 n3 : Nat) (c1 c2 c3 : List D), isI k ∧ p.2 = [.v (.int .i64 k), .sl s1 c1 n1 false, .sl s2 c2 n2 false, .sl s3 c3 n3 false]
def shrtB (p : Sg) : Bool := match p.2 with
  | [_, .sl _ _ n1 _, .sl _ _ n2 _, .sl _ _ n3 _] => decide (n1 ≤ 100) && (decide (n2 ≤ 100) && decide (n3 ≤ 20))
  | _ => false
theorem shortS_ok (p : Sg) (h : sgF p) : Fn0 Tryz.prog 30 [.agg p.2] (.v (.bool (shrtB p))) := by
  obtain ⟨k, s1, n1, s2, n2, s3, n3, c1, c2, c3, _, e⟩ := h
  have hs : shrtB p = (decide (n1 ≤ 100) && (decide (n2 ≤ 100) && decide (n3 ≤ 20))) := by rw [shrtB, e]
  rw [hs, e]
  have e1 : ((n1 : Int) ≤ 100) = (n1 ≤ 100) := propext (by omega)
  have e2 : ((n2 : Int) ≤ 100) = (n2 ≤ 100) := propext (by omega)
  have e3 : ((n3 : Int) ≤ 20) = (n3 ≤ 20) := propext (by omega)
  refine Fun.of_wp (pn := noPn) Tryz.tab Tryz.func30 rfl fun β0 => ?_
  simp only [Tryz.f30]
  repeat (first | apply wG | (apply wR; simp -dsimp) | refine aI ?_)
  refine WP.ret (finQ.retE ?_)
  simp -dsimp [e1, e2, e3, Bool.and_assoc]
theorem sgc_sig {p : Sg} (h : sgOk p) : List.take 4 (List.drop 57 (sgc p)) = p.2 := by
  rw [sgc, List.drop_left' (fcs_len57 _), List.take_of_length_le (by rw [h.2.1]; omega)]
abbrev fwS (l : List Sg) (b : Bool) (m : Int) (i : Nat) : St := mkS 23 [(0, .d (sgD l b)), (1, .d (.v (.int .i64 m))), (5, .d (.v (.int .i64 i)))] []
theorem few13_ok (l : List Sg) (b : Bool) (m : Nat) (hl : ∀ p ∈ l, sgOk p) (hf : ∀ p ∈ l, sgF p) (hn : l.length ≤ 1000000000000) : Fn0 Tryz.prog 16 [sgD l b, .v (.int .i64 m)] (.v (.bool (decide (l.length ≤ m) && l.all shrtB))) := by
  refine Fun.of_wp (pn := noPn) Tryz.tab Tryz.func16 rfl fun β0 => ?_
  simp only [Tryz.f16]
  repeat (first | apply wG | (apply wR; simp -dsimp) | refine aI ?_)
  by_cases hlm : l.length ≤ m
  · have hd : decide (l.length ≤ m) = true := by simpa using hlm
    rw [hd, Bool.true_and]
    refine cF (by simp; omega) ?_
    refine WP.skip ?_
    simp -dsimp
    repeat (first | apply wG | (apply wR; simp -dsimp) | refine aI ?_)
    refine WP.loopWk (fun q S => ∃ l1 l2, l = l1 ++ l2 ∧ q = l2.length ∧ l1.all shrtB = true ∧ S = fwS l b m l1.length) l.length (S0 := fwS l b m 0) (Wk.lessE [] (by simp) (by simp)) ⟨[], l, rfl, rfl, rfl, rfl⟩ ?_
    rintro _ _ ⟨l1, l2, hl12, rfl, ha, rfl⟩
    simp -dsimp
    repeat (first | apply wG | (apply wR; simp -dsimp) | refine aI ?_)
    cases l2 with
    | nil =>
      simp only [List.append_nil] at hl12
      subst hl12
      refine cF (by simp) ?_
      refine WP.exit ?_
      simp -dsimp
      repeat (first | apply wG | (apply wR; simp -dsimp) | refine aI ?_)
      refine WP.ret (finQ.retE ?_)
      simp -dsimp [ha]
    | cons p l2 =>
      have hll : l.length = l1.length + (l2.length + 1) := by rw [hl12]; simp
      have hlt : l1.length < l.length := by omega
      have hp := hl p (by rw [hl12]; simp)
      have hat := sgc_at hlt hl
      have hpe : l[l1.length] = p := by simp [hl12]
      rw [hpe] at hat
      have lc := sgC_len hl
      have l2' := sgc_len hp
      have hsg := sgc_sig hp
      have hsl := hp.2.1
      have hso := hp.2.2
      have e1 : IntKind.i64.wrap ((l1.length : Int) + 1) = (l1.length : Int) + 1 := IntWalk.i64_in _ (by omega)
      refine cT (by simp; omega) ?_
      refine WP.skip ?_
      simp -dsimp
      repeat (first | apply wG | (apply wR; simp -dsimp [hat, hsg, l2']) | refine aI ?_)
      refine vcStop.call0L Tryz.body30 (shortS_ok p (hf p (by rw [hl12]; simp))) rfl rfl (And.intro (.refl _) trivial) ?_
      simp -dsimp
      repeat (first | apply wG | (apply wR; simp -dsimp) | refine aI ?_)
      cases hs : shrtB p with
      | true =>
        refine cF (by simp [hs]) ?_
        refine WP.skip ?_
        simp -dsimp
        repeat (first | apply wG | (apply wR; simp -dsimp) | refine aI ?_)
        refine loopW.next (fwS l b m (l1 ++ [p]).length) (Wk.lessE [] (by simp [e1]) (by simp)) l2.length (by simp) ⟨l1 ++ [p], l2, by simp [hl12], rfl, by rw [List.all_append, ha]; simp [hs], rfl⟩
      | false =>
        refine cT (by simp [hs]) ?_
        have hal : l.all shrtB = false := by rw [hl12, List.all_append, List.all_cons, hs]; simp
        repeat (first | apply wG | (apply wR; simp -dsimp) | refine aI ?_)
        refine WP.ret (finQ.retE ?_)
        simp -dsimp [hal]
  · have hd : decide (l.length ≤ m) = false := by simpa using hlm
    rw [hd, Bool.false_and]
    refine cT (by simp; omega) ?_
    repeat (first | apply wG | (apply wR; simp -dsimp) | refine aI ?_)
    refine WP.ret (finQ.retE ?_)
    simp -dsimp
def noB (p : Sg) : Bool := decide (p.1 1 ≤ 200)
def fewB (l : List Sg) : Bool := l.all noB && (decide (l.length ≤ 10) && l.all shrtB)
abbrev fvS (l : List Sg) (b : Bool) (i : Nat) : St := mkS 22 [(1, .ptr 1 0), (3, .d (.v (.int .i64 i)))] [(1, .cells 24 [.d (sgD l b)])]
theorem sgc_d1 (p : Sg) : ((List.drop 1 (sgc p))[0]?).getD .any = .v (.int .i64 (p.1 1)) := rfl
theorem sgc_1 (p : Sg) : ((sgc p)[1]?).getD .any = .v (.int .i64 (p.1 1)) := rfl
theorem few_ok (l : List Sg) (b : Bool) (hl : ∀ p ∈ l, sgOk p) (hf : ∀ p ∈ l, sgF p) (hn : l.length ≤ 1000000000000) : Fn0 Tryz.prog 5 [lgD l b] (.v (.bool (fewB l))) := by
  refine Fun.of_wp (pn := noPn) Tryz.tab Tryz.func5 rfl fun β0 => ?_
  simp only [Tryz.f5]
  repeat (first | apply wG | (apply wR; simp -dsimp) | refine aI ?_)
  refine WP.loopWk (fun q S => ∃ l1 l2, l = l1 ++ l2 ∧ q = l2.length ∧ l1.all noB = true ∧ S = fvS l b l1.length) l.length (S0 := fvS l b 0) (Wk.lessE [] (by simp) (by simp)) ⟨[], l, rfl, rfl, rfl, rfl⟩ ?_
  rintro _ _ ⟨l1, l2, hl12, rfl, ha, rfl⟩
  simp -dsimp
  repeat (first | apply wG | (apply wR; simp -dsimp) | refine aI ?_)
  cases l2 with
  | nil =>
    simp only [List.append_nil] at hl12
    subst hl12
    refine cF (by simp) ?_
    refine WP.exit ?_
    simp -dsimp
    repeat (first | apply wG | (apply wR; simp -dsimp) | refine aI ?_)
    refine vcStop.call0L Tryz.body16 (few13_ok l b 10 hl hf hn) rfl rfl (And.intro (.refl _) (And.intro (.refl _) trivial)) ?_
    simp -dsimp
    repeat (first | apply wG | (apply wR; simp -dsimp) | refine aI ?_)
    refine WP.ret (finQ.retE ?_)
    simp -dsimp [fewB, ha]
  | cons p l2 =>
    have hll : l.length = l1.length + (l2.length + 1) := by rw [hl12]; simp
    have hlt : l1.length < l.length := by omega
    have hp := hl p (by rw [hl12]; simp)
    have hat := sgc_at hlt hl
    have hpe : l[l1.length] = p := by simp [hl12]
    rw [hpe] at hat
    have lc := sgC_len hl
    have l2' := sgc_len hp
    have hs1 := sgc_d1 p
    have hs2 := sgc_1 p
    have e1 : IntKind.i64.wrap ((l1.length : Int) + 1) = (l1.length : Int) + 1 := IntWalk.i64_in _ (by omega)
    refine cT (by simp; omega) ?_
    refine WP.skip ?_
    simp -dsimp
    repeat (first | apply wG | (apply wR; simp -dsimp [hat, l2', hs1, hs2]) | refine aI ?_)
    cases hs : noB p with
    | true =>
      have h200 : p.1 1 ≤ 200 := by simpa [noB] using hs
      refine cF (by simp; omega) ?_
      refine WP.skip ?_
      simp -dsimp
      repeat (first | apply wG | (apply wR; simp -dsimp) | refine aI ?_)
      refine loopW.next (fvS l b (l1 ++ [p]).length) (Wk.lessE [] (by simp [e1]) (by simp)) l2.length (by simp) ⟨l1 ++ [p], l2, by simp [hl12], rfl, by rw [List.all_append, ha]; simp [hs], rfl⟩
    | false =>
      have h200 : 200 < p.1 1 := by simpa [noB] using hs
      refine cT (by simp; omega) ?_
      have hal : fewB l = false := by rw [fewB, hl12, List.all_append, List.all_cons, hs]; simp
      repeat (first | apply wG | (apply wR; simp -dsimp) | refine aI ?_)
      refine WP.ret (finQ.retE ?_)
      simp -dsimp [hal]
end Go.Proofs.YtadfkiigjnbdgaaGreatDoor
