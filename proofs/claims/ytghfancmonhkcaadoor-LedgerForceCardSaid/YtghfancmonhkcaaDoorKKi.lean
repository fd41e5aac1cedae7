/-
  Ledgers: the facts that are recorded by a time, one after the other.
-/
import Derived.Test.YtghfancmonhkcaaDoorKE
import Derived.Test.YtghfancmonhkcaaDoorKKc
import Derived.Test.YtghfancmonhkcaaDoorKKq
set_option linter.unusedSectionVars false
set_option linter.unusedSimpArgs false
set_option linter.unusedVariables false
namespace Go.Proofs.YtghfancmonhkcaaDoor
open Go.Xe Go.RowKit

theorem ref_leq (a b : Int) : Leq (.agg [.d (.v (.int .i64 a)), .d (.v (.int .i64 b))]) (.d (.v (refV (a, b)))) := fun w I β v hv => by
  obtain ⟨vs, rfl, x, vs1, rfl, h1, y, vs2, rfl, h2, h3⟩ := hv
  have h3 : vs2 = [] := h3
  subst h3
  rw [DenA_v] at h1 h2
  subst h1; subst h2
  exact DenA_v.2 rfl
theorem ref_leqD (a b : Int) : Leq (.d (.agg [.v (.int .i64 a), .v (.int .i64 b)])) (.d (.v (refV (a, b)))) := (Leq.ofAgg _).trans (ref_leq a b)
theorem recorded_ok (l : List F) (t : Int) : Fun Tryd.prog 18 [.d (slF l), .d (.v (.int .i64 t))] [] (.fn (.func 30) [] [.ptr 0 0, .ptr 1 0]) [(0, .cells 26 [.d (slF l)]), (1, .cells 3 [.d (.v (.int .i64 t))])] fun _ => False := by
  refine Fun.of_wp (pn := noPn) Tryd.tab Tryd.func18 rfl fun β0 => ?_
  simp only [Tryd.f18]
  repeat (first | refine WP.seq ?_ | refine WP.block ?_ | (refine WP.region Tryd.tab ?_; simp -dsimp) | (refine WP.draw Tryd.tab Tryd.mixed ?_; simp -dsimp) | refine And.intro (by first | rfl | omega | decide | (simp; done) | (simp; omega) | (intro _ h; exact fcs_side h; done) | (intros; simp_all; done) | (intros; simp_all; omega)) ?_)
  refine WP.ret (finQ.retWE (S' := mkS 6 [(4, .fn (.func 30) [] [.ptr 0 0, .ptr 1 0])] [(0, .cells 26 [.d (slF l)]), (1, .cells 3 [.d (.v (.int .i64 t))])]) (Wk.go2 [] 2 0 3 1 (by decide) (by decide) (by simp) (by simp) (by simp) (by simp)) ?_)
  simp -dsimp
theorem fsC_at2 (a : List F) (f : F) (b : List F) : ((fsC (a ++ f :: b)).drop (a.length * 57)).take 57 = fcs f 0 57 := by
  rw [fsC_at (by simp)]
  simp [fat]
set_option maxRecDepth 10000 in
set_option maxHeartbeats 4000000 in
theorem recorded_it (l : List F) (t : Int) (hl : l.length ≤ 14) (hf : ∀ f ∈ l, fOk f) : IterOk Tryd.prog 30 [.ptr 1000 0, .ptr 1001 0] [(1000, .cells 26 [.d (slF l)]), (1001, .cells 3 [.d (.v (.int .i64 t))])] (fun i => [fD (fat (recS t l []) i)]) (fun _ => true) (recS t l []).length := by
  intro lp B hB
  simp only [List.cons_append, List.nil_append]
  refine Fun.of_wp (pn := noPn) Tryd.tab Tryd.func30 rfl fun β0 => ?_
  simp only [Tryd.f30]
  repeat (first | refine WP.seq ?_ | refine WP.block ?_ | (refine WP.region Tryd.tab ?_; simp -dsimp) | (refine WP.draw Tryd.tab Tryd.mixed ?_; simp -dsimp) | refine And.intro (by first | rfl | omega | decide | (simp; done) | (simp; omega) | (intro _ h; exact fcs_side h; done) | (intros; simp_all; done) | (intros; simp_all; omega)) ?_)
  refine vcStop.makeMap 8 rfl (by simp) ?_
  simp -dsimp
  repeat (first | refine WP.seq ?_ | refine WP.block ?_ | (refine WP.region Tryd.tab ?_; simp -dsimp) | (refine WP.draw Tryd.tab Tryd.mixed ?_; simp -dsimp) | refine And.intro (by first | rfl | omega | decide | (simp; done) | (simp; omega) | (intro _ h; exact fcs_side h; done) | (intros; simp_all; done) | (intros; simp_all; omega)) ?_)
  refine WP.loopWk (fun m S => ∃ l1 l2 met o, l = l1 ++ l2 ∧ m = l2.length ∧ recS t l [] = o ++ recS t l2 met ∧ refsI met ∧ S = mkS 36 [(0, .d (.v (.func (.yield lp) #[] #[]))), (2, .ptr 1001 0), (4, .row 506), (9, .d (slF l)), (10, .d (.v (.int .i64 l.length))), (11, .d (.v (.int .i64 (l1.length : Nat))))]
      [(1000, .cells 26 [.d (slF l)]), (1001, .cells 3 [.d (.v (.int .i64 t))]), (500, .opq (B o.length)), (506, .mp (refsM met))]) l.length
    (S0 := mkS 36 [(0, .d (.v (.func (.yield lp) #[] #[]))), (2, .ptr 1001 0), (4, .row 506), (9, .d (slF l)), (10, .d (.v (.int .i64 l.length))), (11, .d (.v (.int .i64 0)))]
      [(1000, .cells 26 [.d (slF l)]), (1001, .cells 3 [.d (.v (.int .i64 t))]), (500, .opq (B 0)), (506, .mp (refsM []))]) (Wk.go2 [] 1999 500 8 506 (by decide) (by decide) (by simp) (by simp) (by simp) (by simp [refsM])) ⟨[], l, [], [], rfl, rfl, rfl, (fun _ h => by cases h), rfl⟩ ?_
  rintro _ _ ⟨l1, l2, met, o, hl12, rfl, hrec, hmet, rfl⟩
  simp -dsimp
  repeat (first | refine WP.seq ?_ | refine WP.block ?_ | (refine WP.region Tryd.tab ?_; simp -dsimp) | (refine WP.draw Tryd.tab Tryd.mixed ?_; simp -dsimp) | refine And.intro (by first | rfl | omega | decide | (simp; done) | (simp; omega) | (intro _ h; exact fcs_side h; done) | (intros; simp_all; done) | (intros; simp_all; omega)) ?_)
  cases l2 with
  | nil =>
    simp only [List.append_nil] at hl12
    subst hl12
    simp only [recS, List.append_nil] at hrec
    refine WP.cond (b := false) (by simp) (fun h => by cases h) (fun _ => ?_)
    refine WP.exit ?_
    simp -dsimp
    refine finQ.normalWE (S' := mkS 36 [] [(1000, .cells 26 [.d (slF l)]), (1001, .cells 3 [.d (.v (.int .i64 t))]), (0, .opq (B (recS t l []).length))]) (Wk.go [506] 500 0 (by decide) (by simp) (by simp) (by simp [hrec])) ?_
    simp -dsimp
  | cons f l2 =>
    have hll : l.length = l1.length + (l2.length + 1) := by rw [hl12]; simp
    have e1 : IntKind.i64.wrap ((l1.length : Int) + 1) = (l1.length : Int) + 1 := IntWalk.i64_in _ (by omega)
    have h1 := fsC_at2 l1 f l2
    rw [← hl12] at h1
    have hfo := hf f (by rw [hl12]; simp)
    refine WP.cond (b := true) (by simp; omega) (fun _ => ?_) (fun h => by cases h)
    refine WP.skip ?_
    simp -dsimp
    refine WP.seq (WP.block ?_)
    repeat (first | refine WP.seq ?_ | refine WP.block ?_ | (refine WP.region Tryd.tab ?_; simp -dsimp [h1]) | (refine WP.draw Tryd.tab Tryd.mixed ?_; simp -dsimp [h1]) | refine And.intro (by first | rfl | omega | decide | (simp; done) | (simp; omega) | (intro _ h; exact fcs_side h; done) | (intros; simp_all; done) | (intros; simp_all; omega)) ?_)
    obtain ⟨lk, hlk⟩ := ref_key (r := refF f) (hfo.1 0) (hfo.1 1)
    refine vcStopG.mapGet Tryd.tab rfl rfl ref_keyed Tryd.zeroValue4 (j := 506) (fun hg => by simp [hg]) (kvs := refsM met) rfl (key := refV (refF f)) (fun hg => by simp [hg]; exact ref_leq _ _) (.v (.bool (decide (refF f ∈ met)))) hlk (refs_keys hmet) (refs_get met (refF f)) ?_
    simp -dsimp
    repeat (first | refine WP.seq ?_ | refine WP.block ?_ | (refine WP.region Tryd.tab ?_; simp -dsimp) | (refine WP.draw Tryd.tab Tryd.mixed ?_; simp -dsimp) | refine And.intro (by first | rfl | omega | decide | (simp; done) | (simp; omega) | (intro _ h; exact fcs_side h; done) | (intros; simp_all; done) | (intros; simp_all; omega)) ?_)
    refine WP.cond (b := decide (t < f 2 ∨ refF f ∈ met)) (by simp) (fun hb => ?_) (fun hb => ?_)
    · have hb := of_decide_eq_true hb
      rw [recS, if_pos hb] at hrec
      refine WP.exit ?_
      simp -dsimp
      repeat (first | refine WP.seq ?_ | refine WP.block ?_ | (refine WP.region Tryd.tab ?_; simp -dsimp) | (refine WP.draw Tryd.tab Tryd.mixed ?_; simp -dsimp) | refine And.intro (by first | rfl | omega | decide | (simp; done) | (simp; omega) | (intro _ h; exact fcs_side h; done) | (intros; simp_all; done) | (intros; simp_all; omega)) ?_)
      refine loopW.next (mkS 36 [(0, .d (.v (.func (.yield lp) #[] #[]))), (2, .ptr 1001 0), (4, .row 506), (9, .d (slF l)), (10, .d (.v (.int .i64 l.length))), (11, .d (.v (.int .i64 ((l1 ++ [f]).length : Nat))))]
        [(1000, .cells 26 [.d (slF l)]), (1001, .cells 3 [.d (.v (.int .i64 t))]), (500, .opq (B o.length)), (506, .mp (refsM met))]) (Wk.lessE [6, 7] (by simp [e1]) (by simp)) l2.length (by simp) ⟨l1 ++ [f], l2, met, o, by simp [hl12], rfl, hrec, hmet, rfl⟩
    · have hb := of_decide_eq_false hb
      rw [recS, if_neg hb] at hrec
      have hnm : refF f ∉ met := fun h => hb (.inr h)
      have hadd : addRef met (refF f) = met ++ [refF f] := by rw [addRef, if_neg hnm]
      have hx : fat (recS t l []) o.length = f := by rw [hrec]; simp [fat]
      have hy := hB o.length (by rw [hrec]; simp)
      simp only [hx] at hy
      refine WP.skip ?_
      simp -dsimp
      repeat (first | refine WP.seq ?_ | refine WP.block ?_ | (refine WP.region Tryd.tab ?_; simp -dsimp) | (refine WP.draw Tryd.tab Tryd.mixed ?_; simp -dsimp) | refine And.intro (by first | rfl | omega | decide | (simp; done) | (simp; omega) | (intro _ h; exact fcs_side h; done) | (intros; simp_all; done) | (intros; simp_all; omega)) ?_)
      refine vcStop.mapPut Tryd.tab rfl rfl ref_keyed (j := 506) rfl (kvs := refsM met) (refsM (met ++ [refF f])) rfl (key := refV (refF f)) (ref_leq _ _) (d := .v (.bool true)) (.refl _) hlk (refs_keys hmet) (by rw [← hadd]; exact refs_put met (refF f)) ?_
      simp -dsimp
      repeat (first | refine WP.seq ?_ | refine WP.block ?_ | (refine WP.region Tryd.tab ?_; simp -dsimp) | (refine WP.draw Tryd.tab Tryd.mixed ?_; simp -dsimp) | refine And.intro (by first | rfl | omega | decide | (simp; done) | (simp; omega) | (intro _ h; exact fcs_side h; done) | (intros; simp_all; done) | (intros; simp_all; omega)) ?_)
      refine vcStop.yield hy 500 501 rfl rfl (by simp [fD]) rfl (by decide) (by simp) ?_
      simp -dsimp
      repeat (first | refine WP.seq ?_ | refine WP.block ?_ | (refine WP.region Tryd.tab ?_; simp -dsimp) | (refine WP.draw Tryd.tab Tryd.mixed ?_; simp -dsimp) | refine And.intro (by first | rfl | omega | decide | (simp; done) | (simp; omega) | (intro _ h; exact fcs_side h; done) | (intros; simp_all; done) | (intros; simp_all; omega)) ?_)
      refine WP.cond (b := false) (by simp) (fun h => by cases h) (fun _ => ?_)
      refine WP.skip ?_
      simp -dsimp
      repeat (first | refine WP.seq ?_ | refine WP.block ?_ | (refine WP.region Tryd.tab ?_; simp -dsimp) | (refine WP.draw Tryd.tab Tryd.mixed ?_; simp -dsimp) | refine And.intro (by first | rfl | omega | decide | (simp; done) | (simp; omega) | (intro _ h; exact fcs_side h; done) | (intros; simp_all; done) | (intros; simp_all; omega)) ?_)
      refine loopW.next (mkS 36 [(0, .d (.v (.func (.yield lp) #[] #[]))), (2, .ptr 1001 0), (4, .row 506), (9, .d (slF l)), (10, .d (.v (.int .i64 l.length))), (11, .d (.v (.int .i64 ((l1 ++ [f]).length : Nat))))]
        [(1000, .cells 26 [.d (slF l)]), (1001, .cells 3 [.d (.v (.int .i64 t))]), (500, .opq (B (o ++ [f]).length)), (506, .mp (refsM (met ++ [refF f])))]) (Wk.go [6, 7] 501 500 (by decide) (by simp) (by simp [e1]) (by simp)) l2.length (by simp) ⟨l1 ++ [f], l2, met ++ [refF f], o ++ [f], by simp [hl12], rfl, by rw [hrec]; simp, by rw [← hadd]; exact refsI_add hmet (hfo.1 0) (hfo.1 1), rfl⟩
end Go.Proofs.YtghfancmonhkcaaDoor
