/-
  Ledgers: the first of its reference (LedgerForce's closure).
-/
import Derived.Test.YtghfancmonhkcaaDoorKKr
import Derived.Test.YtghfancmonhkcaaDoorKKj
set_option linter.unusedSectionVars false
set_option linter.unusedSimpArgs false
set_option linter.unusedVariables false
namespace Go.Proofs.YtghfancmonhkcaaDoor
open Go.Xe Go.RowKit

/-- A valid fact of the same reference that comes ahead of f. -/
def aheadB (f g : F) : Bool := (decide (g 0 = f 0) && decide (g 1 = f 1)) && (numF g).2 && decide (cmpF g f < 0)
def firstD (l : List Sg) (t : Int) (f : F) : Bool := l.all (fun p => !aheadB f p.1) && (decide (f 2 ≤ t) && (numF f).2)
theorem firstD_iff {l : List Sg} {t : Int} {f : F} : firstD l t f = true ↔ firstB l t f := by
  simp only [firstD, firstB, aheadB, refF, Bool.and_eq_true, List.all_eq_true, Bool.not_eq_true', Bool.and_eq_false_iff, decide_eq_true_eq, decide_eq_false_iff_not, Prod.mk.injEq]
  constructor
  · rintro ⟨h1, h2, h3⟩
    refine ⟨h2, h3, fun p hp hr hn hc => ?_⟩
    rcases h1 p hp with (((h | h) | h) | h)
    · exact h hr.1
    · exact h hr.2
    · rw [hn] at h; cases h
    · exact h hc
  · rintro ⟨h2, h3, h1⟩
    refine ⟨fun p hp => ?_, h2, h3⟩
    by_cases a : p.1 0 = f 0
    · by_cases b : p.1 1 = f 1
      · cases hn : (numF p.1).2 with
        | false => exact .inl (.inr rfl)
        | true => exact .inr (h1 p hp ⟨a, b⟩ hn)
      · exact .inl (.inl (.inr b))
    · exact .inl (.inl (.inl a))
set_option maxRecDepth 10000 in
set_option maxHeartbeats 4000000 in
theorem first_ok (l : List Sg) (b : Bool) (t : Int) (f : F) (hf : fOk f) (hl : l.length ≤ 14) (hv : ∀ p ∈ l, sgOk p) : Fun Tryd.prog 8 [.d (fD f), .ptr 1000 0, .ptr 1001 0] [(1000, .cells 24 [.d (sgD l b)]), (1001, .cells 3 [.d (.v (.int .i64 t))])] (.d (.v (.bool (firstD l t f)))) [(1000, .cells 24 [.d (sgD l b)]), (1001, .cells 3 [.d (.v (.int .i64 t))])] fun _ => False := by
  have hcf := check_ok f hf
  refine Fun.of_wp (pn := noPn) Tryd.tab Tryd.func8 rfl fun β0 => ?_
  simp only [Tryd.f8]
  simp only [fD]
  repeat (first | refine WP.seq ?_ | refine WP.block ?_ | (refine WP.region Tryd.tab ?_; simp -dsimp) | (refine WP.draw Tryd.tab Tryd.mixed ?_; simp -dsimp) | refine And.intro (by first | rfl | omega | decide | (simp; done) | (simp; omega) | (intro _ h; exact fcs_side h; done) | (intros; simp_all; done) | (intros; simp_all; omega)) ?_)
  refine WP.loopWk (fun m S => ∃ l1 l2, l = l1 ++ l2 ∧ m = l2.length ∧ l1.all (fun p => !aheadB f p.1) = true ∧ S = mkS 50 [(2, .ptr 1001 0), (3, .ptr 500 0), (9, .d (sgD l b)), (10, .d (.v (.int .i64 l.length))), (11, .d (.v (.int .i64 (l1.length : Nat))))] [(1000, .cells 24 [.d (sgD l b)]), (1001, .cells 3 [.d (.v (.int .i64 t))]), (500, fB f)]) l.length
    (S0 := mkS 50 [(2, .ptr 1001 0), (3, .ptr 500 0), (9, .d (sgD l b)), (10, .d (.v (.int .i64 l.length))), (11, .d (.v (.int .i64 0)))] [(1000, .cells 24 [.d (sgD l b)]), (1001, .cells 3 [.d (.v (.int .i64 t))]), (500, fB f)]) (Wk.go [] 3 500 (by decide) (by simp) (by simp) (by simp)) ⟨[], l, rfl, rfl, rfl, rfl⟩ ?_
  rintro _ _ ⟨l1, l2, hl12, rfl, hall, rfl⟩
  simp -dsimp
  repeat (first | refine WP.seq ?_ | refine WP.block ?_ | (refine WP.region Tryd.tab ?_; simp -dsimp) | (refine WP.draw Tryd.tab Tryd.mixed ?_; simp -dsimp) | refine And.intro (by first | rfl | omega | decide | (simp; done) | (simp; omega) | (intro _ h; exact fcs_side h; done) | (intros; simp_all; done) | (intros; simp_all; omega)) ?_)
  cases l2 with
  | nil =>
    simp only [List.append_nil] at hl12
    subst hl12
    refine WP.cond (b := false) (by simp) (fun h => by cases h) (fun _ => ?_)
    refine WP.exit ?_
    simp -dsimp
    repeat (first | refine WP.seq ?_ | refine WP.block ?_ | (refine WP.region Tryd.tab ?_; simp -dsimp) | (refine WP.draw Tryd.tab Tryd.mixed ?_; simp -dsimp) | refine And.intro (by first | rfl | omega | decide | (simp; done) | (simp; omega) | (intro _ h; exact fcs_side h; done) | (intros; simp_all; done) | (intros; simp_all; omega)) ?_)
    refine vcStopG.call0 Tryd.body9 (fun _ => hcf) rfl (fun _ => rfl) (fun hg => by simp [hg, fD]) ?_
    simp -dsimp
    repeat (first | refine WP.seq ?_ | refine WP.block ?_ | (refine WP.region Tryd.tab ?_; simp -dsimp) | (refine WP.draw Tryd.tab Tryd.mixed ?_; simp -dsimp) | refine And.intro (by first | rfl | omega | decide | (simp; done) | (simp; omega) | (intro _ h; exact fcs_side h; done) | (intros; simp_all; done) | (intros; simp_all; omega)) ?_)
    refine WP.ret (finQ.retWE (S' := mkS 50 [(4, .d (.v (.bool (firstD l t f))))] [(1000, .cells 24 [.d (sgD l b)]), (1001, .cells 3 [.d (.v (.int .i64 t))])]) (Wk.lessE [] (by simp [firstD, hall]) (by simp)) ?_)
    simp -dsimp
  | cons p l2 =>
    have hll : l.length = l1.length + (l2.length + 1) := by rw [hl12]; simp
    have e1 : IntKind.i64.wrap ((l1.length : Int) + 1) = (l1.length : Int) + 1 := IntWalk.i64_in _ (by omega)
    have hp := hv p (by rw [hl12]; simp)
    have h1 := sgC_at (l1 := l1) (p := p) (l2 := l2) (by rw [← hl12]; exact hv)
    rw [← hl12] at h1
    have hc := check_ok p.1 hp.1
    have hcmp := factsCompare_ok p.1 f hp.1 hf
    have h57 : List.take 57 (List.take 61 (List.map AV.d (fcs p.1 0 57) ++ List.map AV.d p.2)) = (fcs p.1 0 57).map .d := by
      rw [List.take_take, ← List.map_append, ← List.map_take, List.take_append, fcs_len57, List.take_of_length_le (by rw [fcs_len57]; omega)]
      simp
    have hds : ∀ c ∈ List.take 61 (List.map AV.d (fcs p.1 0 57) ++ List.map AV.d p.2), ∃ d, c = AV.d d := fun c h => by
      rw [← List.map_append] at h
      obtain ⟨d, hd, rfl⟩ := List.mem_map.1 (List.mem_of_mem_take h)
      exact ⟨d, rfl⟩
    have hL : ∀ k, AV.hasL k (List.take 61 (List.map AV.d (fcs p.1 0 57) ++ List.map AV.d p.2)) = false := fun k => hasL_ds hds
    have hfs : ∀ a ∈ fcs p.1 0 57, oneD a = true := fun _ h => fcs_side h
    have hone : ∀ c ∈ List.take 61 (List.map AV.d (fcs p.1 0 57) ++ List.map AV.d p.2), oneA c = true := fun c h => by
      rw [← List.map_append] at h
      obtain ⟨d, hd, rfl⟩ := List.mem_map.1 (List.mem_of_mem_take h)
      rcases List.mem_append.1 hd with hd | hd
      · exact fcs_side hd
      · exact hp.2.2 d hd
    refine WP.cond (b := true) (by simp; omega) (fun _ => ?_) (fun h => by cases h)
    refine WP.skip ?_
    simp -dsimp
    refine WP.seq (WP.block ?_)
    repeat (first | refine WP.seq ?_ | refine WP.block ?_ | (refine WP.region Tryd.tab ?_; simp -dsimp [h1, hp.2.1, h57, hL]) | (refine WP.draw Tryd.tab Tryd.mixed ?_; simp -dsimp [h1, hp.2.1, h57, hL]) | refine And.intro (by first | rfl | omega | decide | (simp; done) | (simp; omega) | (intro _ h; exact fcs_side h; done) | (intros; simp_all; done) | (intros; simp_all; omega)) ?_)
    refine vcStopG.call0 Tryd.body9 (fun _ => hc) rfl (fun _ => rfl) (fun hg => by simp [hg, fD]) ?_
    simp -dsimp
    repeat (first | refine WP.seq ?_ | refine WP.block ?_ | (refine WP.region Tryd.tab ?_; simp -dsimp) | (refine WP.draw Tryd.tab Tryd.mixed ?_; simp -dsimp) | refine And.intro (by first | rfl | omega | decide | (simp; done) | (simp; omega) | (intro _ h; exact fcs_side h; done) | (intros; simp_all; done) | (intros; simp_all; omega)) ?_)
    refine vcStopG.call0 Tryd.body7 (fun _ => hcmp) rfl (fun _ => rfl) (fun hg => by simp [hg, fD]) ?_
    simp -dsimp
    repeat (first | refine WP.seq ?_ | refine WP.block ?_ | (refine WP.region Tryd.tab ?_; simp -dsimp) | (refine WP.draw Tryd.tab Tryd.mixed ?_; simp -dsimp) | refine And.intro (by first | rfl | omega | decide | (simp; done) | (simp; omega) | (intro _ h; exact fcs_side h; done) | (intros; simp_all; done) | (intros; simp_all; omega)) ?_)
    refine WP.cond (b := aheadB f p.1) (by simp [aheadB]) (fun hb => ?_) (fun hb => ?_)
    · have hF : firstD l t f = false := by
        rw [firstD, hl12, List.all_append, List.all_cons, hb]
        simp
      repeat (first | refine WP.seq ?_ | refine WP.block ?_ | (refine WP.region Tryd.tab ?_; simp -dsimp) | (refine WP.draw Tryd.tab Tryd.mixed ?_; simp -dsimp) | refine And.intro (by first | rfl | omega | decide | (simp; done) | (simp; omega) | (intro _ h; exact fcs_side h; done) | (intros; simp_all; done) | (intros; simp_all; omega)) ?_)
      refine WP.ret (finQ.retWE (S' := mkS 50 [(4, .d (.v (.bool (firstD l t f))))] [(1000, .cells 24 [.d (sgD l b)]), (1001, .cells 3 [.d (.v (.int .i64 t))])]) (Wk.lessE [6, 7] (by simp [hF]) (by simp)) ?_)
      simp -dsimp
    · refine WP.skip ?_
      simp -dsimp
      repeat (first | refine WP.seq ?_ | refine WP.block ?_ | (refine WP.region Tryd.tab ?_; simp -dsimp) | (refine WP.draw Tryd.tab Tryd.mixed ?_; simp -dsimp) | refine And.intro (by first | rfl | omega | decide | (simp; done) | (simp; omega) | (intro _ h; exact fcs_side h; done) | (intros; simp_all; done) | (intros; simp_all; omega)) ?_)
      refine loopW.next (mkS 50 [(2, .ptr 1001 0), (3, .ptr 500 0), (9, .d (sgD l b)), (10, .d (.v (.int .i64 l.length))), (11, .d (.v (.int .i64 ((l1 ++ [p]).length : Nat))))] [(1000, .cells 24 [.d (sgD l b)]), (1001, .cells 3 [.d (.v (.int .i64 t))]), (500, fB f)]) (Wk.lessE [6, 7] (by simp [e1]) (by simp)) l2.length (by simp) ⟨l1 ++ [p], l2, by simp [hl12], rfl, by rw [List.all_append, hall]; simp [hb], rfl⟩
end Go.Proofs.YtghfancmonhkcaaDoor
