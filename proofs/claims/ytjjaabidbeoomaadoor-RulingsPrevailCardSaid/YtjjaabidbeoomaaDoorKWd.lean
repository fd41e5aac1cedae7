/-
  RulingsPrevail: which ruling of a case prevails.
-/
import Derived.Test.YtjjaabidbeoomaaDoorKWc
set_option linter.unusedSectionVars false
set_option linter.unusedSimpArgs false
set_option linter.unusedVariables false
namespace Go.Proofs.YtjjaabidbeoomaaDoor
open Go.Xe Go.RowKit

set_option maxRecDepth 10000 in
theorem z57A : ([.d (.v (.int .i64 0)), .d (.v (.int .i64 0)), .d (.v (.int .i64 0)), .d (.v (.int .i64 0)), .d (.v (.int .i64 0)), .d (.v (.int .i64 0)), .d (.v (.int .i64 0)), .d (.v (.int .i64 0)), .d (.v (.int .i64 0)), .d (.v (.int .i64 0)), .d (.v (.int .i64 0)), .d (.v (.int .i64 0)), .d (.v (.int .i64 0)), .d (.v (.int .i64 0)), .d (.v (.int .i64 0)), .d (.v (.int .i64 0)), .d (.v (.int .i64 0)), .d (.v (.int .i64 0)), .d (.v (.int .i64 0)), .d (.v (.int .i64 0)), .d (.v (.int .i64 0)), .d (.v (.int .i64 0)), .d (.v (.int .i64 0)), .d (.v (.int .i64 0)), .d (.v (.int .i64 0)), .d (.v (.int .i64 0)), .d (.v (.int .i64 0)), .d (.v (.int .i64 0)), .d (.v (.int .i64 0)), .d (.v (.int .i64 0)), .d (.v (.int .i64 0)), .d (.v (.int .i64 0)), .d (.v (.int .i64 0)), .d (.v (.int .i64 0)), .d (.v (.int .i64 0)), .d (.v (.int .i64 0)), .d (.v (.int .i64 0)), .d (.v (.int .i64 0)), .d (.v (.int .i64 0)), .d (.v (.int .i64 0)), .d (.v (.int .i64 0)), .d (.v (.int .i64 0)), .d (.v (.int .i64 0)), .d (.v (.int .i64 0)), .d (.v (.int .i64 0)), .d (.v (.int .i64 0)), .d (.v (.int .i64 0)), .d (.v (.int .i64 0)), .d (.v (.int .i64 0)), .d (.v (.int .i64 0)), .d (.v (.int .i64 0)), .d (.v (.int .i64 0)), .d (.v (.int .i64 0)), .d (.v (.int .i64 0)), .d (.v (.bool false)), .d (.v (.int .i64 0)), .d (.v (.int .i64 0))] : List AV) = (fcs f0 0 57).map .d := rfl
theorem forceD_some (f : F) : forceD (some f) = .tup [ruD f, .v (.bool true)] := rfl
theorem forceD_none : forceD none = .tup [ru0, .v (.bool false)] := rfl
noncomputable def pX9 : Code := Cl (Cr pK0)
def ltS (l A : List F) (g : F) (j : Nat) : St :=
  mkS 179 [(0, .d (slF l)), (3, .d (slA A)), (4, .d (.v (.int .i64 (j : Nat)))), (5, .ptr 5 0), (25, .d (slA A)), (26, .d (.v (.int .i64 A.length))), (27, .d (.v (.int .i64 (j : Nat))))] [(5, ruB g)]
set_option maxRecDepth 10000 in
set_option maxHeartbeats 4000000 in
theorem lt_ok {l A : List F} {g : F} {j : Nat} (hA : A.length ≤ 16) (hj : j < A.length) (hlt : ∀ k, k + 1 = j → ∃ p : F, ((prt 47 6 A).drop (k * 6)).take 6 = fcs p 47 6 ∧ p 47 < g 47) {β0 : Nat → Value} {Q : Exit → St → Prop}
    (hQ : ∀ S', Wk S' (ltS l A g j) → Q .normal S') : WP Tryd.prog ⟨[], β0, none, false⟩ noPn pX9 Q (ltS l A g j) := by
  simp only [pX9, pK0, pL0, pBody, Tryd.f4, Cl, Cr, Option.getD]
  have hat : ∀ k < A.length, ((prt 47 6 A)[k * 6]?).getD .any = .v (.int .i64 (A[k]! 47)) := fun k hk => by
    have h := prt_at 47 6 hk
    have h2 : (((prt 47 6 A).drop (k * 6)).take 6)[0]? = (fcs A[k] 47 6)[0]? := by rw [h]
    rw [List.getElem?_take_of_lt (by omega), List.getElem?_drop, Nat.add_zero] at h2
    rw [h2, getElem!_pos A k hk]; rfl
  obtain ⟨q, hq, hqg, hr⟩ : ∃ q : Int, ((prt 47 6 A)[(IntKind.i64.wrap ((j : Int) - 1)).toNat * 6]?).getD .any = .v (.int .i64 q) ∧ (0 < j → q < g 47) ∧ (0 < j → 0 ≤ IntKind.i64.wrap ((j : Int) - 1) ∧ IntKind.i64.wrap ((j : Int) - 1) < A.length) := by
    have e0 : IntKind.i64.wrap ((j : Int) - 1) = (j : Int) - 1 := IntWalk.i64_in _ (by omega)
    cases j with
    | zero =>
      rw [e0]
      exact ⟨_, hat 0 hj, fun h => absurd h (Nat.lt_irrefl _), fun h => absurd h (Nat.lt_irrefl _)⟩
    | succ k =>
      obtain ⟨p, h1, h2⟩ := hlt k rfl
      rw [e0, show (((k + 1 : Nat) : Int) - 1).toNat = k by omega]
      refine ⟨_, hat k (by omega), fun _ => ?_, fun _ => by omega⟩
      have h3 := congrArg (fun x => x[0]?) ((prt_at 47 6 (show k < A.length by omega)).symm.trans h1)
      rw [getElem!_pos A k (by omega)]
      have h4 : A[k] 47 = p 47 := by simpa [fcs476] using h3
      rw [h4]; exact h2
  rw [ltS]
  simp -dsimp
  repeat (first | refine WP.seq ?_ | refine WP.block ?_ | (refine WP.region Tryd.tab ?_; simp -dsimp [hq, hr]) | (refine WP.draw Tryd.tab Tryd.mixed ?_; simp -dsimp [hq, hr]) | refine And.intro (by first | rfl | omega | decide | (simp; done) | (simp; omega) | (intro _ h; exact fcs_side h; done) | (intros; simp_all; done) | (intros; simp_all; omega)) ?_)
  refine WP.cond (b := false) (by simp; omega) (fun h => by cases h) (fun _ => ?_)
  refine WP.skip ?_
  exact hQ _ (Wk.lessE [] (by simp [ltS]) (by simp [ltS]))
/-- The outer loop's state. -/
def pvS (l A : List F) (j : Nat) : St :=
  mkS 179 [(0, .d (slF l)), (3, .d (slA A)), (25, .d (slA A)), (26, .d (.v (.int .i64 A.length))), (27, .d (.v (.int .i64 (j : Nat))))] []
def pwS (l : List F) (j : Nat) : St :=
  mkS 179 [(0, .d (slF l)), (139, .d (slF l)), (140, .d (.v (.int .i64 l.length))), (141, .d (.v (.int .i64 (j : Nat))))] []
set_option maxRecDepth 10000 in
set_option maxHeartbeats 4000000 in
theorem law_prevail (l : List F) (hlen : l.length ≤ 1000000000000) (hv : ∀ f ∈ l, fOk f) : Fn0 Tryd.prog 4 [slF l] (.v (.bool true)) := by
  refine Fun.of_wp (pn := noPn) Tryd.tab Tryd.func4 rfl fun β0 => ?_
  simp only [Tryd.f4]
  repeat (first | refine WP.seq ?_ | refine WP.block ?_ | (refine WP.region Tryd.tab ?_; simp -dsimp) | (refine WP.draw Tryd.tab Tryd.mixed ?_; simp -dsimp) | refine And.intro (by first | rfl | omega | decide | (simp; done) | (simp; omega) | (intro _ h; exact fcs_side h; done) | (intros; simp_all; done) | (intros; simp_all; omega)) ?_)
  refine vcStop.call0 Tryd.body8 sane_ok rfl rfl (by simp) ?_
  simp -dsimp
  repeat (first | refine WP.seq ?_ | refine WP.block ?_ | (refine WP.region Tryd.tab ?_; simp -dsimp) | (refine WP.draw Tryd.tab Tryd.mixed ?_; simp -dsimp) | refine And.intro (by first | rfl | omega | decide | (simp; done) | (simp; omega) | (intro _ h; exact fcs_side h; done) | (intros; simp_all; done) | (intros; simp_all; omega)) ?_)
  refine WP.cond (b := false) (by simp) (fun h => by cases h) (fun _ => ?_)
  refine WP.skip ?_
  simp -dsimp
  repeat (first | refine WP.seq ?_ | refine WP.block ?_ | (refine WP.region Tryd.tab ?_; simp -dsimp) | (refine WP.draw Tryd.tab Tryd.mixed ?_; simp -dsimp) | refine And.intro (by first | rfl | omega | decide | (simp; done) | (simp; omega) | (intro _ h; exact fcs_side h; done) | (intros; simp_all; done) | (intros; simp_all; omega)) ?_)
  refine WP.cond (b := decide (16 < l.length)) (by simp; omega) (fun hk => ?_) (fun hk => ?_)
  · repeat (first | refine WP.seq ?_ | refine WP.block ?_ | (refine WP.region Tryd.tab ?_; simp -dsimp) | (refine WP.draw Tryd.tab Tryd.mixed ?_; simp -dsimp) | refine And.intro (by first | rfl | omega | decide | (simp; done) | (simp; omega) | (intro _ h; exact fcs_side h; done) | (intros; simp_all; done) | (intros; simp_all; omega)) ?_)
    refine WP.ret (finQ.retE ?_)
    simp -dsimp
  have hk := of_decide_eq_false hk
  have hl16 : l.length ≤ 16 := by omega
  refine WP.skip ?_
  simp -dsimp
  have hcv := canF_vOk hv
  have hcl := Nat.le_trans (canF_len hv) hl16
  have a1 := all_ok l (by omega) hv
  have hAl : (allO (canF l)).length ≤ 16 := Nat.le_trans (allO_len _) hcl
  have hAa := allO_asc (canF l)
  have hAf : ∀ g ∈ allO (canF l), fOk g ∧ g 3 = 10 ∧ forceO (fileOf (canF l) (g 47)) = some g := fun g hg => ⟨(hcv g (allO_mem hg)).1, (force_min hcv (canF_ok hv).asc ((allO_iff _ g).1 hg)).2.1, (allO_iff _ g).1 hg⟩
  generalize allO (canF l) = A at a1 hAl hAa hAf
  repeat (first | refine WP.seq ?_ | refine WP.block ?_ | (refine WP.region Tryd.tab ?_; simp -dsimp) | (refine WP.draw Tryd.tab Tryd.mixed ?_; simp -dsimp) | refine And.intro (by first | rfl | omega | decide | (simp; done) | (simp; omega) | (intro _ h; exact fcs_side h; done) | (intros; simp_all; done) | (intros; simp_all; omega)) ?_)
  refine vcStop.call0 Tryd.body11 a1 rfl rfl (by simp) ?_
  simp -dsimp
  repeat (first | refine WP.seq ?_ | refine WP.block ?_ | (refine WP.region Tryd.tab ?_; simp -dsimp) | (refine WP.draw Tryd.tab Tryd.mixed ?_; simp -dsimp) | refine And.intro (by first | rfl | omega | decide | (simp; done) | (simp; omega) | (intro _ h; exact fcs_side h; done) | (intros; simp_all; done) | (intros; simp_all; omega)) ?_)
  refine WP.loopWk (fun m S => ∃ j, j + m = A.length ∧ S = pvS l A j) A.length (S0 := pvS l A 0) (Wk.lessE [] (by simp [pvS]) (by simp [pvS])) ⟨0, by omega, rfl⟩ ?_
  rintro m _ ⟨j, hjm, rfl⟩
  by_cases hj : j < A.length
  · have h1 := prt_at 47 6 hj
    have hgf := hAf _ (List.getElem_mem hj)
    have hprev : ∀ k, k + 1 = j → ∃ p : F, ((prt 47 6 A).drop (k * 6)).take 6 = fcs p 47 6 ∧ p 47 < A[j] 47 := fun k hk => by
      subst hk
      exact ⟨A[k], prt_at 47 6 (by omega), List.pairwise_iff_getElem.1 hAa k (k + 1) (by omega) hj (by omega)⟩
    have e1 : IntKind.i64.wrap ((j : Int) + 1) = ((j + 1 : Nat) : Int) := by rw [IntWalk.i64_in _ (by omega)]; omega
    generalize A[j] = g at h1 hgf hprev
    obtain ⟨hg, hg3, hgf⟩ := hgf
    have hof := of_ok l (g 47) (by omega) hv (hg.1 47)
    have hown := own_force hv hgf
    have hbad : ∀ f ∈ l, f 3 = 10 → f 47 = g 47 → (numF f).2 = true → badP g f = false := fun f hf h3 h4 h5 => not_bad hv hgf hf h3 h4 h5
    rw [hgf, forceD_some, ruD] at hof
    rw [pvS]
    simp -dsimp
    repeat (first | refine WP.seq ?_ | refine WP.block ?_ | (refine WP.region Tryd.tab ?_; simp -dsimp) | (refine WP.draw Tryd.tab Tryd.mixed ?_; simp -dsimp) | refine And.intro (by first | rfl | omega | decide | (simp; done) | (simp; omega) | (intro _ h; exact fcs_side h; done) | (intros; simp_all; done) | (intros; simp_all; omega)) ?_)
    refine WP.cond (b := true) (by simp; omega) (fun _ => ?_) (fun h => by cases h)
    refine WP.skip ?_
    simp -dsimp
    refine WP.seq (WP.block ?_)
    refine WP.seq ?_
    refine WP.region Tryd.tab ?_
    simp -dsimp [h1]
    repeat refine And.intro (by first | rfl | omega | decide | (simp; done) | (simp; omega) | (intro _ h; exact fcs_side h; done) | (intros; simp_all; done) | (intros; simp_all; omega)) ?_
    refine WP.seq ?_
    refine WP.weak (Wk.lessE [] (S' := ltS l A g j) (by simp [ltS]) (by simp [ltS])) ?_
    refine lt_ok hAl hj hprev fun S' hw => ?_
    refine WP.weak hw ?_
    rw [ltS]
    simp -dsimp
    repeat (first | refine WP.seq ?_ | refine WP.block ?_ | (refine WP.region Tryd.tab ?_; simp -dsimp) | (refine WP.draw Tryd.tab Tryd.mixed ?_; simp -dsimp) | refine And.intro (by first | rfl | omega | decide | (simp; done) | (simp; omega) | (intro _ h; exact fcs_side h; done) | (intros; simp_all; done) | (intros; simp_all; omega)) ?_)
    refine vcStop.call0 Tryd.body16 hof rfl rfl (by simp) ?_
    simp -dsimp
    repeat (first | refine WP.seq ?_ | refine WP.block ?_ | (refine WP.region Tryd.tab ?_; simp -dsimp) | (refine WP.draw Tryd.tab Tryd.mixed ?_; simp -dsimp) | refine And.intro (by first | rfl | omega | decide | (simp; done) | (simp; omega) | (intro _ h; exact fcs_side h; done) | (intros; simp_all; done) | (intros; simp_all; omega)) ?_)
    refine vcStopG.eqS Tryd.tab gokF noarrF rfl (.inr rfl) (m := 5) (by omega) keyN43 (by decide) gdN43 stN43 (cs := fcs g 47 6) (es := fcs g 47 6) (fun hg => by simp) (fun hg => by simp) (fit_ok hg.1 3 43 47 (by decide)) (fit_ok hg.1 3 43 47 (by decide)) (r := true) (by simp) ?_
    simp -dsimp [eqRes]
    repeat (first | refine WP.seq ?_ | refine WP.block ?_ | (refine WP.region Tryd.tab ?_; simp -dsimp) | (refine WP.draw Tryd.tab Tryd.mixed ?_; simp -dsimp) | refine And.intro (by first | rfl | omega | decide | (simp; done) | (simp; omega) | (intro _ h; exact fcs_side h; done) | (intros; simp_all; done) | (intros; simp_all; omega)) ?_)
    refine WP.cond (b := false) (by simp) (fun h => by cases h) (fun _ => ?_)
    refine WP.skip ?_
    simp -dsimp
    repeat (first | refine WP.seq ?_ | refine WP.block ?_ | (refine WP.region Tryd.tab ?_; simp -dsimp) | (refine WP.draw Tryd.tab Tryd.mixed ?_; simp -dsimp) | refine And.intro (by first | rfl | omega | decide | (simp; done) | (simp; omega) | (intro _ h; exact fcs_side h; done) | (intros; simp_all; done) | (intros; simp_all; omega)) ?_)
    refine WP.weak (Wk.lessE [] (S' := oS l A g f0 j 0) (by simp [oS]) (by simp [oS]; exact z57A)) ?_
    refine own_ok hl16 hv hg fun S' hw => ?_
    rw [hown] at hw
    refine WP.weak hw ?_
    rw [oS]
    simp -dsimp
    repeat (first | refine WP.seq ?_ | refine WP.block ?_ | (refine WP.region Tryd.tab ?_; simp -dsimp) | (refine WP.draw Tryd.tab Tryd.mixed ?_; simp -dsimp) | refine And.intro (by first | rfl | omega | decide | (simp; done) | (simp; omega) | (intro _ h; exact fcs_side h; done) | (intros; simp_all; done) | (intros; simp_all; omega)) ?_)
    refine WP.cond (b := false) (by simp [hg3]) (fun h => by cases h) (fun _ => ?_)
    refine WP.skip ?_
    simp -dsimp
    repeat (first | refine WP.seq ?_ | refine WP.block ?_ | (refine WP.region Tryd.tab ?_; simp -dsimp) | (refine WP.draw Tryd.tab Tryd.mixed ?_; simp -dsimp) | refine And.intro (by first | rfl | omega | decide | (simp; done) | (simp; omega) | (intro _ h; exact fcs_side h; done) | (intros; simp_all; done) | (intros; simp_all; omega)) ?_)
    refine WP.weak (Wk.lessE [] (S' := bdS l A g j 0) (by simp [bdS]) (by simp [bdS])) ?_
    refine bad_ok hl16 hv hg hbad fun S' hw => ?_
    refine WP.weak hw ?_
    rw [bdS]
    simp -dsimp
    repeat (first | refine WP.seq ?_ | refine WP.block ?_ | (refine WP.region Tryd.tab ?_; simp -dsimp) | (refine WP.draw Tryd.tab Tryd.mixed ?_; simp -dsimp) | refine And.intro (by first | rfl | omega | decide | (simp; done) | (simp; omega) | (intro _ h; exact fcs_side h; done) | (intros; simp_all; done) | (intros; simp_all; omega)) ?_)
    refine loopW.next (pvS l A (j + 1)) (Wk.lessE [5, 8] (by simp [pvS, e1]) (by simp [pvS])) (m - 1) (by omega) ⟨j + 1, by omega, rfl⟩
  have hjA : j = A.length := by omega
  subst hjA
  clear a1 hAl hAa hAf hjm
  rw [pvS]
  simp -dsimp
  repeat (first | refine WP.seq ?_ | refine WP.block ?_ | (refine WP.region Tryd.tab ?_; simp -dsimp) | (refine WP.draw Tryd.tab Tryd.mixed ?_; simp -dsimp) | refine And.intro (by first | rfl | omega | decide | (simp; done) | (simp; omega) | (intro _ h; exact fcs_side h; done) | (intros; simp_all; done) | (intros; simp_all; omega)) ?_)
  refine WP.cond (b := false) (by simp) (fun h => by cases h) (fun _ => ?_)
  refine WP.exit ?_
  simp -dsimp
  repeat (first | refine WP.seq ?_ | refine WP.block ?_ | (refine WP.region Tryd.tab ?_; simp -dsimp) | (refine WP.draw Tryd.tab Tryd.mixed ?_; simp -dsimp) | refine And.intro (by first | rfl | omega | decide | (simp; done) | (simp; omega) | (intro _ h; exact fcs_side h; done) | (intros; simp_all; done) | (intros; simp_all; omega)) ?_)
  refine WP.loopWk (fun m S => ∃ j, j + m = l.length ∧ S = pwS l j) l.length (S0 := pwS l 0) (Wk.lessE [] (by simp [pwS]) (by simp [pwS])) ⟨0, by omega, rfl⟩ ?_
  rintro m _ ⟨j, hjm, rfl⟩
  by_cases hj : j < l.length
  · have h1 := fsC_at hj
    have hf := hv _ (fat_in hj)
    have hh := rul_held hv (fat_in hj)
    have e1 : IntKind.i64.wrap ((j : Int) + 1) = ((j + 1 : Nat) : Int) := by rw [IntWalk.i64_in _ (by omega)]; omega
    generalize fat l j = f at h1 hf hh
    have hc := check_ok f hf
    rw [pwS]
    simp -dsimp
    repeat (first | refine WP.seq ?_ | refine WP.block ?_ | (refine WP.region Tryd.tab ?_; simp -dsimp) | (refine WP.draw Tryd.tab Tryd.mixed ?_; simp -dsimp) | refine And.intro (by first | rfl | omega | decide | (simp; done) | (simp; omega) | (intro _ h; exact fcs_side h; done) | (intros; simp_all; done) | (intros; simp_all; omega)) ?_)
    refine WP.cond (b := true) (by simp; omega) (fun _ => ?_) (fun h => by cases h)
    refine WP.skip ?_
    simp -dsimp
    refine WP.seq (WP.block ?_)
    repeat (first | refine WP.seq ?_ | refine WP.block ?_ | (refine WP.region Tryd.tab ?_; simp -dsimp [h1]) | (refine WP.draw Tryd.tab Tryd.mixed ?_; simp -dsimp [h1]) | refine And.intro (by first | rfl | omega | decide | (simp; done) | (simp; omega) | (intro _ h; exact fcs_side h; done) | (intros; simp_all; done) | (intros; simp_all; omega)) ?_)
    refine vcStopG.call0 Tryd.body9 (fun _ => hc) rfl (fun _ => rfl) (fun hg => by simp [fD, hg]) ?_
    simp -dsimp
    repeat (first | refine WP.seq ?_ | refine WP.block ?_ | (refine WP.region Tryd.tab ?_; simp -dsimp) | (refine WP.draw Tryd.tab Tryd.mixed ?_; simp -dsimp) | refine And.intro (by first | rfl | omega | decide | (simp; done) | (simp; omega) | (intro _ h; exact fcs_side h; done) | (intros; simp_all; done) | (intros; simp_all; omega)) ?_)
    refine WP.cond (b := !(decide (f 3 = 10) && (numF f).2)) (by cases (numF f).2 <;> simp) (fun hb => ?_) (fun hb => ?_)
    · refine WP.exit ?_
      simp -dsimp
      repeat (first | refine WP.seq ?_ | refine WP.block ?_ | (refine WP.region Tryd.tab ?_; simp -dsimp) | (refine WP.draw Tryd.tab Tryd.mixed ?_; simp -dsimp) | refine And.intro (by first | rfl | omega | decide | (simp; done) | (simp; omega) | (intro _ h; exact fcs_side h; done) | (intros; simp_all; done) | (intros; simp_all; omega)) ?_)
      refine loopW.next (pwS l (j + 1)) (Wk.lessE [14] (by simp [pwS, e1]) (by simp [pwS])) (m - 1) (by omega) ⟨j + 1, by omega, rfl⟩
    · simp only [Bool.not_eq_false', Bool.and_eq_true, decide_eq_true_eq] at hb
      obtain ⟨hh1, hh2⟩ := hh hb.1 hb.2
      have hof := of_ok l (f 47) (by omega) hv (hf.1 47)
      have hsu := suspended_ok l (f 47) (by omega) hv (hf.1 47)
      generalize forceO (fileOf (canF l) (f 47)) = o at hh1 hof
      generalize susB (fileOf (canF l) (f 47)) = s at hh1 hh2 hsu
      have hof2 : ∃ d1 d2 d3 d4 d5 d6 : Int, forceD o = .tup [.agg [.v (.int .i64 d1), .v (.int .i64 d2), .v (.int .i64 d3), .v (.int .i64 d4), .v (.int .i64 d5), .v (.int .i64 d6)], .v (.bool (!s))] := by
        cases o with
        | none => exact ⟨_, _, _, _, _, _, by rw [forceD_none, ru0, ← hh1]; rfl⟩
        | some x => exact ⟨_, _, _, _, _, _, by rw [forceD_some, ruD, ← hh1]; rfl⟩
      obtain ⟨d1, d2, d3, d4, d5, d6, hd⟩ := hof2
      rw [hd] at hof
      refine WP.skip ?_
      simp -dsimp
      repeat (first | refine WP.seq ?_ | refine WP.block ?_ | (refine WP.region Tryd.tab ?_; simp -dsimp) | (refine WP.draw Tryd.tab Tryd.mixed ?_; simp -dsimp) | refine And.intro (by first | rfl | omega | decide | (simp; done) | (simp; omega) | (intro _ h; exact fcs_side h; done) | (intros; simp_all; done) | (intros; simp_all; omega)) ?_)
      refine vcStop.call0 Tryd.body16 hof rfl rfl (by simp) ?_
      simp -dsimp
      repeat (first | refine WP.seq ?_ | refine WP.block ?_ | (refine WP.region Tryd.tab ?_; simp -dsimp) | (refine WP.draw Tryd.tab Tryd.mixed ?_; simp -dsimp) | refine And.intro (by first | rfl | omega | decide | (simp; done) | (simp; omega) | (intro _ h; exact fcs_side h; done) | (intros; simp_all; done) | (intros; simp_all; omega)) ?_)
      refine vcStop.call0 Tryd.body18 hsu rfl rfl (by simp) ?_
      simp -dsimp
      repeat (first | refine WP.seq ?_ | refine WP.block ?_ | (refine WP.region Tryd.tab ?_; simp -dsimp) | (refine WP.draw Tryd.tab Tryd.mixed ?_; simp -dsimp) | refine And.intro (by first | rfl | omega | decide | (simp; done) | (simp; omega) | (intro _ h; exact fcs_side h; done) | (intros; simp_all; done) | (intros; simp_all; omega)) ?_)
      refine WP.cond (b := false) (by cases s <;> simp_all) (fun h => by cases h) (fun _ => ?_)
      refine WP.skip ?_
      simp -dsimp
      repeat (first | refine WP.seq ?_ | refine WP.block ?_ | (refine WP.region Tryd.tab ?_; simp -dsimp) | (refine WP.draw Tryd.tab Tryd.mixed ?_; simp -dsimp) | refine And.intro (by first | rfl | omega | decide | (simp; done) | (simp; omega) | (intro _ h; exact fcs_side h; done) | (intros; simp_all; done) | (intros; simp_all; omega)) ?_)
      refine loopW.next (pwS l (j + 1)) (Wk.lessE [14, 15] (by simp [pwS, e1]) (by simp [pwS])) (m - 1) (by omega) ⟨j + 1, by omega, rfl⟩
  have hjA : j = l.length := by omega
  subst hjA
  rw [pwS]
  simp -dsimp
  repeat (first | refine WP.seq ?_ | refine WP.block ?_ | (refine WP.region Tryd.tab ?_; simp -dsimp) | (refine WP.draw Tryd.tab Tryd.mixed ?_; simp -dsimp) | refine And.intro (by first | rfl | omega | decide | (simp; done) | (simp; omega) | (intro _ h; exact fcs_side h; done) | (intros; simp_all; done) | (intros; simp_all; omega)) ?_)
  refine WP.cond (b := false) (by simp) (fun h => by cases h) (fun _ => ?_)
  refine WP.exit ?_
  simp -dsimp
  repeat (first | refine WP.seq ?_ | refine WP.block ?_ | (refine WP.region Tryd.tab ?_; simp -dsimp) | (refine WP.draw Tryd.tab Tryd.mixed ?_; simp -dsimp) | refine And.intro (by first | rfl | omega | decide | (simp; done) | (simp; omega) | (intro _ h; exact fcs_side h; done) | (intros; simp_all; done) | (intros; simp_all; omega)) ?_)
  refine WP.ret (finQ.retE ?_)
  simp -dsimp
end Go.Proofs.YtjjaabidbeoomaaDoor
