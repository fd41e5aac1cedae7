/-
  RulingsAppeal: what an appeal does.
-/
import Derived.Test.YtjjaabidbeoomaaDoorKWp
set_option linter.unusedSectionVars false
set_option linter.unusedSimpArgs false
set_option linter.unusedVariables false
namespace Go.Proofs.YtjjaabidbeoomaaDoor
open Go.Xe Go.RowKit

/-- The cells of a ruling, or none. -/
def rO : Option F → F
  | some g => g
  | none => f0
theorem forceD_rO (o : Option F) : forceD o = .tup [.agg (fcs (rO o) 47 6), .v (.bool o.isSome)] := by cases o <;> rfl
theorem rO_ok {o : Option F} (h : ∀ g, o = some g → fOk g) : fOk (rO o) := by
  cases o with
  | none => exact f0_ok
  | some g => exact h g rfl
def aL (l A : List F) (f b a : F) (hb ha : Bool) (i : Nat) : St :=
  mkS 128 [(3, .ptr 3 0), (5, .d (.v (.int .i64 (f 53)))), (6, .d (slF (l ++ [f]))), (7, .ptr 7 0), (8, .d (.v (.bool hb))), (9, .ptr 9 0), (10, .d (.v (.bool ha))), (11, .d (.v (.int .i64 (i : Nat)))), (53, .d (slA A)), (54, .d (.v (.int .i64 A.length))), (55, .d (.v (.int .i64 (i : Nat))))] [(3, fB f), (7, ruB b), (9, ruB a)]
set_option maxRecDepth 10000 in
set_option maxHeartbeats 4000000 in
theorem law_appeal (l : List F) (f : F) (hlen : l.length ≤ 1000000000000) (hv : ∀ f ∈ l, fOk f) (hf : fOk f) : Fn0 Tryd.prog 7 [slF l, fD f] (.v (.bool true)) := by
  have hc := check_ok f hf
  rw [fD]
  refine Fun.of_wp (pn := noPn) Tryd.tab Tryd.func7 rfl fun β0 => ?_
  simp only [Tryd.f7]
  repeat (first | refine WP.seq ?_ | refine WP.block ?_ | (refine WP.region Tryd.tab ?_; simp -dsimp) | (refine WP.draw Tryd.tab Tryd.mixed ?_; simp -dsimp) | refine And.intro (by first | rfl | omega | decide | (simp; done) | (simp; omega) | (intro _ h; exact fcs_side h; done) | (intros; simp_all; done) | (intros; simp_all; omega)) ?_)
  refine vcStop.call0 Tryd.body8 sane_ok rfl rfl (by simp) ?_
  simp -dsimp
  repeat (first | refine WP.seq ?_ | refine WP.block ?_ | (refine WP.region Tryd.tab ?_; simp -dsimp) | (refine WP.draw Tryd.tab Tryd.mixed ?_; simp -dsimp) | refine And.intro (by first | rfl | omega | decide | (simp; done) | (simp; omega) | (intro _ h; exact fcs_side h; done) | (intros; simp_all; done) | (intros; simp_all; omega)) ?_)
  refine WP.cond (b := false) (by simp) (fun h => by cases h) (fun _ => ?_)
  refine WP.skip ?_
  simp -dsimp
  repeat (first | refine WP.seq ?_ | refine WP.block ?_ | (refine WP.region Tryd.tab ?_; simp -dsimp) | (refine WP.draw Tryd.tab Tryd.mixed ?_; simp -dsimp) | refine And.intro (by first | rfl | omega | decide | (simp; done) | (simp; omega) | (intro _ h; exact fcs_side h; done) | (intros; simp_all; done) | (intros; simp_all; omega)) ?_)
  refine vcStopG.call0 Tryd.body9 (fun _ => hc) rfl (fun _ => rfl) (fun hg => by simp [fD, hg]) ?_
  simp -dsimp
  repeat (first | refine WP.seq ?_ | refine WP.block ?_ | (refine WP.region Tryd.tab ?_; simp -dsimp) | (refine WP.draw Tryd.tab Tryd.mixed ?_; simp -dsimp) | refine And.intro (by first | rfl | omega | decide | (simp; done) | (simp; omega) | (intro _ h; exact fcs_side h; done) | (intros; simp_all; done) | (intros; simp_all; omega)) ?_)
  refine WP.cond (b := (decide (16 ≤ (l.length : Int)) || !decide (f 3 = 11)) || !(numF f).2) (by cases (numF f).2 <;> simp) (fun hk => ?_) (fun hk => ?_)
  · repeat (first | refine WP.seq ?_ | refine WP.block ?_ | (refine WP.region Tryd.tab ?_; simp -dsimp) | (refine WP.draw Tryd.tab Tryd.mixed ?_; simp -dsimp) | refine And.intro (by first | rfl | omega | decide | (simp; done) | (simp; omega) | (intro _ h; exact fcs_side h; done) | (intros; simp_all; done) | (intros; simp_all; omega)) ?_)
    refine WP.ret (finQ.retE ?_)
    simp -dsimp
  simp only [Bool.or_eq_false_iff, Bool.not_eq_false', decide_eq_false_iff_not, decide_eq_true_eq] at hk
  obtain ⟨⟨hl16, h3⟩, hq⟩ := hk
  have hl16 : l.length < 16 := by omega
  refine WP.skip ?_
  simp -dsimp
  have hvm : ∀ x ∈ l ++ [f], fOk x := fun x hx => by
    rcases List.mem_append.1 hx with hx | hx
    · exact hv x hx
    · rw [List.mem_singleton] at hx; subst hx; exact hf
  have hml : (l ++ [f]).length = l.length + 1 := by simp
  have hcv := canF_vOk hv
  have hcl := Nat.le_trans (canF_len hv) (Nat.le_of_lt hl16)
  have hcvm := canF_vOk hvm
  have a1 := all_ok l (by omega) hv
  have a2 := all_ok (l ++ [f]) (by omega) hvm
  have o1 := of_ok l (f 53) (by omega) hv (hf.1 53)
  have o2 := fun n hn => of_ok (l ++ [f]) n (by omega) hvm hn
  have s2 := suspended_ok (l ++ [f]) (f 53) (by omega) hvm (hf.1 53)
  have hAl : (allO (canF l)).length ≤ 16 := Nat.le_trans (allO_len _) hcl
  have hAf : ∀ g ∈ allO (canF l), fOk g ∧ (g 47 ≠ f 53 → forceO (fileOf (canF (l ++ [f])) (g 47)) = some g) := fun g hg => ⟨(hcv g (allO_mem hg)).1, fun hn => by rw [ad_other hv ⟨hf, hq⟩ h3 hn]; exact (allO_iff _ g).1 hg⟩
  have hsame := ad_same hv ⟨hf, hq⟩ h3
  have htake := fun g => ad_takes (g := g) hv ⟨hf, hq⟩ h3
  have hom : ∀ n g, forceO (fileOf (canF (l ++ [f])) n) = some g → fOk g := fun n g h => (hcvm g (force_mem h)).1
  have hol : ∀ g, forceO (fileOf (canF l) (f 53)) = some g → fOk g := fun g h => (hcv g (force_mem h)).1
  have hBl : (allO (canF (l ++ [f]))).length ≤ 17 := Nat.le_trans (allO_len _) (Nat.le_trans (canF_len hvm) (by omega))
  generalize allO (canF l) = A at a1 hAl hAf hsame htake
  generalize allO (canF (l ++ [f])) = B at a2 hsame htake hBl
  have hca : fsC l ++ fcs f 0 57 = fsC (l ++ [f]) := by rw [fsC_append]; simp [fsC]
  refine WP.seq ?_
  refine WP.region Tryd.tab ?_
  simp -dsimp
  repeat refine And.intro (by first | rfl | omega | decide | (simp; done) | (simp; omega) | (intro _ h; exact fcs_side h; done) | (intros; simp_all; done) | (intros; simp_all; omega)) ?_
  refine WP.seq ?_
  refine WP.draw Tryd.tab Tryd.mixed ?_
  simp -dsimp [fsC_len]
  repeat refine And.intro (by first | rfl | omega | decide | (simp; done) | (simp; omega) | (intro _ h; exact fcs_side h; done) | (intros; simp_all; done) | (intros; simp_all; omega)) ?_
  refine WP.weak (Wk.trans (Wk.lessE [] (S' := mkS 128 [(0, .d (slF l)), (3, .ptr 3 0), (5, .d (.v (.int .i64 (f 53)))), (6, .row 39)] [(3, fB f), (39, rB (l ++ [f]))]) (by simp) (by simp [fsC_append, fsC])) (Wk.trans (Wk.freeze (k := 39) (T := 49) (sz := 57) (n := (l ++ [f]).length) (ds := fsC (l ++ [f])) (by simp)) (Wk.lessE [] (S' := mkS 128 [(0, .d (slF l)), (3, .ptr 3 0), (5, .d (.v (.int .i64 (f 53)))), (6, .d (slF (l ++ [f])))] [(3, fB f)]) (by simp) (by simp)))) ?_
  clear hca hml hcl
  generalize hOO : forceO (fileOf (canF l) (f 53)) = O at o1 hsame htake hol
  generalize hOm : (fun n => forceO (fileOf (canF (l ++ [f])) n)) = om
  have hom' : ∀ n, forceO (fileOf (canF (l ++ [f])) n) = om n := fun n => by rw [← hOm]
  simp only [hom'] at o2 hAf hsame htake hom
  clear hom' hOm
  generalize susB (fileOf (canF (l ++ [f])) (f 53)) = sus at s2 htake
  have hMl : (l ++ [f]).length ≤ 17 := by rw [List.length_append]; simp; omega
  simp only [forceD_rO] at o1 o2
  have hOk := rO_ok hol
  have hok := fun n => rO_ok (hom n)
  clear hvm hcv hcvm hom hol
  have o3 := o2 (f 53) (hf.1 53)
  repeat (first | refine WP.seq ?_ | refine WP.block ?_ | (refine WP.region Tryd.tab ?_; simp -dsimp) | (refine WP.draw Tryd.tab Tryd.mixed ?_; simp -dsimp) | refine And.intro (by first | rfl | omega | decide | (simp; done) | (simp; omega) | (intro _ h; exact fcs_side h; done) | (intros; simp_all; done) | (intros; simp_all; omega)) ?_)
  refine vcStop.call0 Tryd.body16 o1 rfl rfl (by simp) ?_
  simp -dsimp [fcs476]
  repeat (first | refine WP.seq ?_ | refine WP.block ?_ | (refine WP.region Tryd.tab ?_; simp -dsimp) | (refine WP.draw Tryd.tab Tryd.mixed ?_; simp -dsimp) | refine And.intro (by first | rfl | omega | decide | (simp; done) | (simp; omega) | (intro _ h; exact fcs_side h; done) | (intros; simp_all; done) | (intros; simp_all; omega)) ?_)
  refine vcStop.call0 Tryd.body16 o3 rfl rfl (by simp) ?_
  simp -dsimp [fcs476]
  repeat (first | refine WP.seq ?_ | refine WP.block ?_ | (refine WP.region Tryd.tab ?_; simp -dsimp) | (refine WP.draw Tryd.tab Tryd.mixed ?_; simp -dsimp) | refine And.intro (by first | rfl | omega | decide | (simp; done) | (simp; omega) | (intro _ h; exact fcs_side h; done) | (intros; simp_all; done) | (intros; simp_all; omega)) ?_)
  refine vcStop.call0 Tryd.body11 a1 rfl rfl (by simp) ?_
  simp -dsimp
  repeat (first | refine WP.seq ?_ | refine WP.block ?_ | (refine WP.region Tryd.tab ?_; simp -dsimp) | (refine WP.draw Tryd.tab Tryd.mixed ?_; simp -dsimp) | refine And.intro (by first | rfl | omega | decide | (simp; done) | (simp; omega) | (intro _ h; exact fcs_side h; done) | (intros; simp_all; done) | (intros; simp_all; omega)) ?_)
  refine WP.loopWk (fun m S => ∃ i, i + m = A.length ∧ S = aL l A f (rO O) (rO (om (f 53))) O.isSome (om (f 53)).isSome i) A.length (S0 := aL l A f (rO O) (rO (om (f 53))) O.isSome (om (f 53)).isSome 0) (Wk.lessE [] (by simp [aL]) (by simp [aL, fcs476])) ⟨0, by omega, rfl⟩ ?_
  rintro m _ ⟨i, him, rfl⟩
  by_cases hi : i < A.length
  · have h1 := prt_at 47 6 hi
    have hp := hAf _ (List.getElem_mem hi)
    have e1 : IntKind.i64.wrap ((i : Int) + 1) = ((i + 1 : Nat) : Int) := by rw [IntWalk.i64_in _ (by omega)]; omega
    generalize A[i] = p at h1 hp
    obtain ⟨hpo, hp⟩ := hp
    have o4 := o2 (p 47) (hpo.1 47)
    have hko := hok (p 47)
    generalize hqq : om (p 47) = q at o4 hp hko
    rw [aL]
    simp -dsimp
    repeat (first | refine WP.seq ?_ | refine WP.block ?_ | (refine WP.region Tryd.tab ?_; simp -dsimp) | (refine WP.draw Tryd.tab Tryd.mixed ?_; simp -dsimp) | refine And.intro (by first | rfl | omega | decide | (simp; done) | (simp; omega) | (intro _ h; exact fcs_side h; done) | (intros; simp_all; done) | (intros; simp_all; omega)) ?_)
    refine WP.cond (b := true) (by simp; omega) (fun _ => ?_) (fun h => by cases h)
    refine WP.skip ?_
    simp -dsimp
    refine WP.seq (WP.block ?_)
    repeat (first | refine WP.seq ?_ | refine WP.block ?_ | (refine WP.region Tryd.tab ?_; simp -dsimp [h1]) | (refine WP.draw Tryd.tab Tryd.mixed ?_; simp -dsimp [h1]) | refine And.intro (by first | rfl | omega | decide | (simp; done) | (simp; omega) | (intro _ h; exact fcs_side h; done) | (intros; simp_all; done) | (intros; simp_all; omega)) ?_)
    refine vcStop.call0 Tryd.body16 o4 rfl rfl (by simp) ?_
    simp -dsimp
    repeat (first | refine WP.seq ?_ | refine WP.block ?_ | (refine WP.region Tryd.tab ?_; simp -dsimp) | (refine WP.draw Tryd.tab Tryd.mixed ?_; simp -dsimp) | refine And.intro (by first | rfl | omega | decide | (simp; done) | (simp; omega) | (intro _ h; exact fcs_side h; done) | (intros; simp_all; done) | (intros; simp_all; omega)) ?_)
    refine vcStopG.eqS Tryd.tab gokF noarrF rfl (.inr rfl) (m := 5) (by omega) keyN43 (by decide) gdN43 stN43 (cs := fcs (rO q) 47 6) (es := fcs p 47 6) (fun hg => by simp [hg]) (fun hg => by simp [hg]) (fit_ok hko.1 3 43 47 (by decide)) (fit_ok hpo.1 3 43 47 (by decide)) (r := decide (ruL (rO q) = ruL p)) (ruL_lits (rO q) p) ?_
    simp -dsimp [eqRes]
    repeat (first | refine WP.seq ?_ | refine WP.block ?_ | (refine WP.region Tryd.tab ?_; simp -dsimp) | (refine WP.draw Tryd.tab Tryd.mixed ?_; simp -dsimp) | refine And.intro (by first | rfl | omega | decide | (simp; done) | (simp; omega) | (intro _ h; exact fcs_side h; done) | (intros; simp_all; done) | (intros; simp_all; omega)) ?_)
    refine WP.cond (b := !decide (p 47 = f 53) && (!q.isSome || !decide (ruL (rO q) = ruL p))) (by simp) (fun hb => ?_) (fun _ => ?_)
    · exfalso
      simp only [Bool.and_eq_true, Bool.not_eq_true', decide_eq_false_iff_not] at hb
      rw [hp hb.1] at hb
      simp [rO] at hb
    refine WP.skip ?_
    simp -dsimp
    repeat (first | refine WP.seq ?_ | refine WP.block ?_ | (refine WP.region Tryd.tab ?_; simp -dsimp) | (refine WP.draw Tryd.tab Tryd.mixed ?_; simp -dsimp) | refine And.intro (by first | rfl | omega | decide | (simp; done) | (simp; omega) | (intro _ h; exact fcs_side h; done) | (intros; simp_all; done) | (intros; simp_all; omega)) ?_)
    refine loopW.next (aL l A f (rO O) (rO (om (f 53))) O.isSome (om (f 53)).isSome (i + 1)) (Wk.lessE [13, 14] (by simp [aL, e1]) (by simp [aL])) (m - 1) (by omega) ⟨i + 1, by omega, rfl⟩
  have hiA : i = A.length := by omega
  subst hiA
  rw [aL]
  simp -dsimp
  repeat (first | refine WP.seq ?_ | refine WP.block ?_ | (refine WP.region Tryd.tab ?_; simp -dsimp) | (refine WP.draw Tryd.tab Tryd.mixed ?_; simp -dsimp) | refine And.intro (by first | rfl | omega | decide | (simp; done) | (simp; omega) | (intro _ h; exact fcs_side h; done) | (intros; simp_all; done) | (intros; simp_all; omega)) ?_)
  refine WP.cond (b := false) (by simp) (fun h => by cases h) (fun _ => ?_)
  refine WP.exit ?_
  simp -dsimp
  repeat (first | refine WP.seq ?_ | refine WP.block ?_ | (refine WP.region Tryd.tab ?_; simp -dsimp) | (refine WP.draw Tryd.tab Tryd.mixed ?_; simp -dsimp) | refine And.intro (by first | rfl | omega | decide | (simp; done) | (simp; omega) | (intro _ h; exact fcs_side h; done) | (intros; simp_all; done) | (intros; simp_all; omega)) ?_)
  refine And.intro (fun h1 h2 => ⟨h1, by cases O with | none => exact .inl rfl | some g => exact .inr (h2 rfl)⟩) ?_
  by_cases hT : f 54 ≠ 1 ∨ O = none ∨ ∃ g, O = some g ∧ g 48 = 2
  · obtain ⟨hO, hB⟩ := hsame hT
    subst hB
    refine WP.cond (b := true) (by
      simp
      rcases hT with h | h | ⟨g, h, h2⟩
      · simp [h]
      · simp [h]
      · simp [h, h2, rO]) (fun _ => ?_) (fun h => by cases h)
    rw [hO]
    repeat (first | refine WP.seq ?_ | refine WP.block ?_ | (refine WP.region Tryd.tab ?_; simp -dsimp) | (refine WP.draw Tryd.tab Tryd.mixed ?_; simp -dsimp) | refine And.intro (by first | rfl | omega | decide | (simp; done) | (simp; omega) | (intro _ h; exact fcs_side h; done) | (intros; simp_all; done) | (intros; simp_all; omega)) ?_)
    refine vcStopG.eqS Tryd.tab gokF noarrF rfl (.inl rfl) (m := 5) (by omega) keyN43 (by decide) gdN43 stN43 (cs := fcs (rO O) 47 6) (es := fcs (rO O) 47 6) (fun hg => by simp) (fun hg => by simp) (fit_ok hOk.1 3 43 47 (by decide)) (fit_ok hOk.1 3 43 47 (by decide)) (r := true) (by simp) ?_
    simp -dsimp [eqRes]
    repeat (first | refine WP.seq ?_ | refine WP.block ?_ | (refine WP.region Tryd.tab ?_; simp -dsimp) | (refine WP.draw Tryd.tab Tryd.mixed ?_; simp -dsimp) | refine And.intro (by first | rfl | omega | decide | (simp; done) | (simp; omega) | (intro _ h; exact fcs_side h; done) | (intros; simp_all; done) | (intros; simp_all; omega)) ?_)
    refine vcStopG.call0 Tryd.body11 (fun _ => a2) rfl (fun _ => rfl) (fun hg => by simp) ?_
    simp -dsimp
    repeat (first | refine WP.seq ?_ | refine WP.block ?_ | (refine WP.region Tryd.tab ?_; simp -dsimp) | (refine WP.draw Tryd.tab Tryd.mixed ?_; simp -dsimp) | refine And.intro (by first | rfl | omega | decide | (simp; done) | (simp; omega) | (intro _ h; exact fcs_side h; done) | (intros; simp_all; done) | (intros; simp_all; omega)) ?_)
    refine WP.ret (finQ.retE ?_)
    simp -dsimp
  · have h54 : f 54 = 1 := Classical.byContradiction fun h => hT (.inl h)
    cases hOc : O with
    | none => exact absurd (.inr (.inl hOc)) hT
    | some g =>
      have h48 : g 48 ≠ 2 := fun h => hT (.inr (.inr ⟨g, hOc, h⟩))
      obtain ⟨t1, t2, t3⟩ := htake g h54 hOc h48
      subst t2
      have e1 : IntKind.i64.wrap ((A.length : Int) - 1) = (B.length : Nat) := by rw [IntWalk.i64_in _ (by omega)]; omega
      refine WP.cond (b := false) (by simp [h54, h48, rO]) (fun h => by cases h) (fun _ => ?_)
      refine WP.skip ?_
      rw [t1]
      simp -dsimp
      repeat (first | refine WP.seq ?_ | refine WP.block ?_ | (refine WP.region Tryd.tab ?_; simp -dsimp) | (refine WP.draw Tryd.tab Tryd.mixed ?_; simp -dsimp) | refine And.intro (by first | rfl | omega | decide | (simp; done) | (simp; omega) | (intro _ h; exact fcs_side h; done) | (intros; simp_all; done) | (intros; simp_all; omega)) ?_)
      refine vcStopG.call0 Tryd.body18 (fun _ => s2) rfl (fun _ => rfl) (fun hg => by simp) ?_
      simp -dsimp
      repeat (first | refine WP.seq ?_ | refine WP.block ?_ | (refine WP.region Tryd.tab ?_; simp -dsimp) | (refine WP.draw Tryd.tab Tryd.mixed ?_; simp -dsimp) | refine And.intro (by first | rfl | omega | decide | (simp; done) | (simp; omega) | (intro _ h; exact fcs_side h; done) | (intros; simp_all; done) | (intros; simp_all; omega)) ?_)
      refine vcStopG.call0 Tryd.body11 (fun _ => a2) rfl (fun _ => rfl) (fun hg => by simp) ?_
      simp -dsimp
      repeat (first | refine WP.seq ?_ | refine WP.block ?_ | (refine WP.region Tryd.tab ?_; simp -dsimp) | (refine WP.draw Tryd.tab Tryd.mixed ?_; simp -dsimp) | refine And.intro (by first | rfl | omega | decide | (simp; done) | (simp; omega) | (intro _ h; exact fcs_side h; done) | (intros; simp_all; done) | (intros; simp_all; omega)) ?_)
      refine WP.ret (finQ.retE ?_)
      simp -dsimp [e1]
end Go.Proofs.YtjjaabidbeoomaaDoor
