/-
  The law on the order.
-/
import Derived.Test.YtjfkeicmdaanbaaDoorKGa
set_option linter.unusedSectionVars false
set_option linter.unusedSimpArgs false
set_option linter.unusedVariables false
namespace Go.Proofs.YtjfkeicmdaanbaaDoor
open Go.Xe Go.RowKit

theorem cmpI_neg (x y : Int) (h : x ≠ y) : (decide (cmpI x y < 0) == decide (x < y)) = true := by
  unfold cmpI
  split
  · simp [*]
  · split
    · have : ¬ x < y := by omega
      simp [this]
    · omega
theorem cmpI_ne (x y : Int) (h : x ≠ y) : cmpI x y ≠ 0 := by
  unfold cmpI
  split
  · omega
  · split <;> omega
theorem cmpI_eq (x y : Int) (h : x = y) : cmpI x y = 0 := by subst h; simp [cmpI]
theorem cmpF_2 {f g : Nat → Int} (h : f 2 ≠ g 2) : cmpF f g = cmpI (f 2) (g 2) := by
  have h1 := cmpI_ne _ _ h
  have e : headC f g = cmpI (f 2) (g 2) := by rw [headC, orL, if_neg h1]
  rw [cmpF, e, if_neg h1]
theorem cmpF_0 {f g : Nat → Int} (h2 : f 2 = g 2) (h : f 0 ≠ g 0) : cmpF f g = cmpI (f 0) (g 0) := by
  have h1 := cmpI_ne _ _ h
  have e : headC f g = cmpI (f 0) (g 0) := by rw [headC, orL, if_pos (cmpI_eq _ _ h2), orL, if_neg h1]
  rw [cmpF, e, if_neg h1]
theorem cmpF_1 {f g : Nat → Int} (h2 : f 2 = g 2) (h0 : f 0 = g 0) (h : f 1 ≠ g 1) : cmpF f g = cmpI (f 1) (g 1) := by
  have h1 := cmpI_ne _ _ h
  have e : headC f g = cmpI (f 1) (g 1) := by rw [headC, orL, if_pos (cmpI_eq _ _ h2), orL, if_pos (cmpI_eq _ _ h0), orL, if_neg h1]
  rw [cmpF, e, if_neg h1]

set_option maxRecDepth 10000 in
set_option maxHeartbeats 4000000 in
theorem law_order (f g h : Nat → Int) (hf : fOk f) (hg : fOk g) (hh : fOk h) : Fn0 Tryd.prog 7 [fD f, fD g, fD h] (.v (.bool true)) := by
  have k1 := check_ok f hf
  have k2 := check_ok g hg
  have k3 := check_ok h hh
  refine Fun.of_wp (pn := noPn) Tryd.tab Tryd.func7 rfl fun β0 => ?_
  simp only [Tryd.f7]
  simp only [fD]
  repeat (first | refine WP.seq ?_ | refine WP.block ?_ | (refine WP.region Tryd.tab ?_; simp -dsimp) | (refine WP.draw Tryd.tab Tryd.mixed ?_; simp -dsimp) | refine And.intro (by first | rfl | omega | decide | (simp; done) | (simp; omega) | (intro _ h; exact fcs_side h; done) | (intros; simp_all; done)) ?_)
  refine vcStop.call0 Tryd.body10 sane_ok rfl rfl (by simp) ?_
  simp -dsimp
  repeat (first | refine WP.seq ?_ | refine WP.block ?_ | (refine WP.region Tryd.tab ?_; simp -dsimp) | (refine WP.draw Tryd.tab Tryd.mixed ?_; simp -dsimp) | refine And.intro (by first | rfl | omega | decide | (simp; done) | (simp; omega) | (intro _ h; exact fcs_side h; done) | (intros; simp_all; done)) ?_)
  refine WP.cond (b := false) (by simp) (fun h => by cases h) (fun _ => ?_)
  refine WP.skip ?_
  simp -dsimp
  repeat (first | refine WP.seq ?_ | refine WP.block ?_ | (refine WP.region Tryd.tab ?_; simp -dsimp) | (refine WP.draw Tryd.tab Tryd.mixed ?_; simp -dsimp) | refine And.intro (by first | rfl | omega | decide | (simp; done) | (simp; omega) | (intro _ h; exact fcs_side h; done) | (intros; simp_all; done)) ?_)
  refine vcStop.call0 Tryd.body11 k1 rfl rfl (by simp [fD]) ?_
  simp -dsimp
  repeat refine And.intro (by first | rfl | omega | decide | (simp; done) | (simp; omega) | (intro _ h; exact fcs_side h; done) | (intros; simp_all; done)) ?_
  refine vcStopG.call0 Tryd.body11 (fun _ => k2) rfl (fun _ => rfl) (fun _ => by simp [fD]) ?_
  simp -dsimp
  repeat refine And.intro (by first | rfl | omega | decide | (simp; done) | (simp; omega) | (intro _ h; exact fcs_side h; done) | (intros; simp_all; done)) ?_
  refine vcStopG.call0 Tryd.body11 (fun _ => k3) rfl (fun _ => rfl) (fun _ => by simp [fD]) ?_
  simp -dsimp
  repeat refine And.intro (by first | rfl | omega | decide | (simp; done) | (simp; omega) | (intro _ h; exact fcs_side h; done) | (intros; simp_all; done)) ?_
  by_cases v : (numF f).2 = true ∧ (numF g).2 = true ∧ (numF h).2 = true
  · obtain ⟨v1, v2, v3⟩ := v
    have c1 := factsCompare_ok f g hf hg
    have c2 := factsCompare_ok g h hg hh
    have c3 := factsCompare_ok f h hf hh
    have c4 := factsCompare_ok g f hg hf
    have s1 := same_ok f g hf hg
    have hval := cmp_fact.val f g
    have hanti := cmp_fact.anti f g
    have ht1 := cmp_fact.trans f g h
    have ht2 := cmp_fact.trans h g f
    have ha2 := cmp_fact.anti g h
    have ha3 := cmp_fact.anti f h
    have hz := cmp_zero hf hg v1 v2
    have hq : decide (cmpF f g = 0) = eqF f g := by rw [Bool.eq_iff_iff, decide_eq_true_eq, eqF_iff hf hg, hz]
    have e2 := fun p : f 2 ≠ g 2 => cmpF_2 p
    have e0 := fun (p2 : f 2 = g 2) (p : f 0 ≠ g 0) => cmpF_0 p2 p
    have e1 := fun (p2 : f 2 = g 2) (p0 : f 0 = g 0) (p : f 1 ≠ g 1) => cmpF_1 p2 p0 p
    have hwr : IntKind.i64.wrap (-cmpF g f) = cmpF f g := by
      rw [hanti]
      rcases hval with h | h | h <;> rw [h] <;> rfl
    rw [v1, v2, v3]
    simp -dsimp
    refine WP.cond (b := false) (by simp) (fun h => by cases h) (fun _ => ?_)
    refine WP.skip ?_
    simp -dsimp
    repeat (first | refine WP.seq ?_ | refine WP.block ?_ | (refine WP.region Tryd.tab ?_; simp -dsimp) | (refine WP.draw Tryd.tab Tryd.mixed ?_; simp -dsimp) | refine And.intro (by first | rfl | omega | decide | (simp; done) | (simp; omega) | (intro _ h; exact fcs_side h; done) | (intros; simp_all; done)) ?_)
    refine vcStop.call0 Tryd.body13 c1 rfl rfl (by simp [fD]) ?_
    simp -dsimp
    repeat refine And.intro (by first | rfl | omega | decide | (simp; done) | (simp; omega) | (intro _ h; exact fcs_side h; done) | (intros; simp_all; done)) ?_
    refine vcStop.call0 Tryd.body13 c2 rfl rfl (by simp [fD]) ?_
    simp -dsimp
    repeat refine And.intro (by first | rfl | omega | decide | (simp; done) | (simp; omega) | (intro _ h; exact fcs_side h; done) | (intros; simp_all; done)) ?_
    refine vcStop.call0 Tryd.body13 c3 rfl rfl (by simp [fD]) ?_
    simp -dsimp
    repeat (first | refine WP.seq ?_ | refine WP.block ?_ | (refine WP.region Tryd.tab ?_; simp -dsimp) | (refine WP.draw Tryd.tab Tryd.mixed ?_; simp -dsimp) | refine And.intro (by first | rfl | omega | decide | (simp; done) | (simp; omega) | (intro _ h; exact fcs_side h; done) | (intros; simp_all; done)) ?_)
    refine vcStop.call0 Tryd.body13 c4 rfl rfl (by simp [fD]) ?_
    have hlo : ¬ cmpF f g < -1 := by rcases hval with h | h | h <;> rw [h] <;> decide
    have hhi : ¬ 1 < cmpF f g := by rcases hval with h | h | h <;> rw [h] <;> decide
    simp -dsimp [hwr, hlo, hhi]
    repeat refine And.intro (by first | rfl | omega | decide | (simp; done) | (simp; omega) | (intro _ h; exact fcs_side h; done) | (intros; simp_all; done)) ?_
    refine vcStopG.eqS Tryd.tab gokF noarrF rfl (.inl rfl) (m := 5) (by omega) Tryd.key47 (by decide) Tryd.gd47 st47 (cs := fcs f 0 57) (es := fcs g 0 57) (fun _ => by simp) (fun _ => by simp) (okF hf.1) (okF hg.1) (lits_iff hf hg) ?_
    simp -dsimp [eqRes, hq]
    repeat refine And.intro (by first | rfl | omega | decide | (simp; done) | (simp; omega) | (intro _ h; exact fcs_side h; done) | (intros; simp_all; done)) ?_
    refine vcStopG.call0 Tryd.body15 (fun _ => s1) rfl (fun _ => rfl) (fun _ => by simp [fD]) ?_
    simp -dsimp
    repeat refine And.intro (by first | rfl | omega | decide | (simp; done) | (simp; omega) | (intro _ h; exact fcs_side h; done) | (intros; simp_all; done)) ?_
    refine vcStopG.eqS Tryd.tab gokF noarrF rfl (.inl rfl) (m := 5) (by omega) Tryd.key47 (by decide) Tryd.gd47 st47 (cs := fcs f 0 57) (es := fcs g 0 57) (fun _ => by simp) (fun _ => by simp) (okF hf.1) (okF hg.1) (lits_iff hf hg) ?_
    simp -dsimp [eqRes]
    repeat refine And.intro (by first | rfl | omega | decide | (simp; done) | (simp; omega) | (intro _ h; exact fcs_side h; done) | (intros; simp_all; done)) ?_
    refine WP.cond (b := false) (by simp) (fun h => by cases h) (fun _ => ?_)
    refine WP.skip ?_
    simp -dsimp
    clear hz hq hwr hlo hhi c1 c2 c3 c4 s1 k1 k2 k3
    rw [ha2] at ht2
    rw [hanti, ha3] at ht2
    clear ha2 ha3 hanti
    generalize cmpF f g = x at *
    generalize cmpF g h = y at *
    generalize cmpF f h = z at *
    repeat (first | refine WP.seq ?_ | refine WP.block ?_ | (refine WP.region Tryd.tab ?_; simp -dsimp) | (refine WP.draw Tryd.tab Tryd.mixed ?_; simp -dsimp) | refine And.intro (by first | rfl | omega | decide | (simp; done) | (simp; omega) | (intro _ h; exact fcs_side h; done) | (intros; simp_all; done)) ?_)
    refine WP.cond (b := false) (by simp; omega) (fun h => by cases h) (fun _ => ?_)
    refine WP.skip ?_
    simp -dsimp
    repeat (first | refine WP.seq ?_ | refine WP.block ?_ | (refine WP.region Tryd.tab ?_; simp -dsimp) | (refine WP.draw Tryd.tab Tryd.mixed ?_; simp -dsimp) | refine And.intro (by first | rfl | omega | decide | (simp; done) | (simp; omega) | (intro _ h; exact fcs_side h; done) | (intros; simp_all; done)) ?_)
    refine WP.cond (b := !decide (f 2 = g 2)) (by simp) (fun hb => ?_) (fun p2 => ?_)
    · have hb : f 2 ≠ g 2 := by simpa using hb
      have e := cmpI_neg _ _ hb
      rw [← e2 hb] at e
      repeat (first | refine WP.seq ?_ | refine WP.block ?_ | (refine WP.region Tryd.tab ?_; simp -dsimp) | (refine WP.draw Tryd.tab Tryd.mixed ?_; simp -dsimp) | refine And.intro (by first | rfl | omega | decide | (simp; done) | (simp; omega) | (intro _ h; exact fcs_side h; done) | (intros; simp_all; done)) ?_)
      refine WP.ret (finQ.retE ?_)
      simp -dsimp [eq_of_beq e]
    have p2 : f 2 = g 2 := by simpa using p2
    repeat (first | refine WP.seq ?_ | refine WP.block ?_ | (refine WP.region Tryd.tab ?_; simp -dsimp) | (refine WP.draw Tryd.tab Tryd.mixed ?_; simp -dsimp) | refine And.intro (by first | rfl | omega | decide | (simp; done) | (simp; omega) | (intro _ h; exact fcs_side h; done) | (intros; simp_all; done)) ?_)
    refine WP.cond (b := !decide (f 0 = g 0)) (by simp) (fun hb => ?_) (fun p0 => ?_)
    · have hb : f 0 ≠ g 0 := by simpa using hb
      have e := cmpI_neg _ _ hb
      rw [← e0 p2 hb] at e
      repeat (first | refine WP.seq ?_ | refine WP.block ?_ | (refine WP.region Tryd.tab ?_; simp -dsimp) | (refine WP.draw Tryd.tab Tryd.mixed ?_; simp -dsimp) | refine And.intro (by first | rfl | omega | decide | (simp; done) | (simp; omega) | (intro _ h; exact fcs_side h; done) | (intros; simp_all; done)) ?_)
      refine WP.ret (finQ.retE ?_)
      simp -dsimp [eq_of_beq e]
    have p0 : f 0 = g 0 := by simpa using p0
    repeat (first | refine WP.seq ?_ | refine WP.block ?_ | (refine WP.region Tryd.tab ?_; simp -dsimp) | (refine WP.draw Tryd.tab Tryd.mixed ?_; simp -dsimp) | refine And.intro (by first | rfl | omega | decide | (simp; done) | (simp; omega) | (intro _ h; exact fcs_side h; done) | (intros; simp_all; done)) ?_)
    refine WP.cond (b := !decide (f 1 = g 1)) (by simp) (fun hb => ?_) (fun p1 => ?_)
    · have hb : f 1 ≠ g 1 := by simpa using hb
      have e := cmpI_neg _ _ hb
      rw [← e1 p2 p0 hb] at e
      repeat (first | refine WP.seq ?_ | refine WP.block ?_ | (refine WP.region Tryd.tab ?_; simp -dsimp) | (refine WP.draw Tryd.tab Tryd.mixed ?_; simp -dsimp) | refine And.intro (by first | rfl | omega | decide | (simp; done) | (simp; omega) | (intro _ h; exact fcs_side h; done) | (intros; simp_all; done)) ?_)
      refine WP.ret (finQ.retE ?_)
      simp -dsimp [eq_of_beq e]
    have p1 : f 1 = g 1 := by simpa using p1
    refine WP.skip ?_
    simp -dsimp
    repeat (first | refine WP.seq ?_ | refine WP.block ?_ | (refine WP.region Tryd.tab ?_; simp -dsimp) | (refine WP.draw Tryd.tab Tryd.mixed ?_; simp -dsimp) | refine And.intro (by first | rfl | omega | decide | (simp; done) | (simp; omega) | (intro _ h; exact fcs_side h; done) | (intros; simp_all; done)) ?_)
    refine WP.ret (finQ.retE ?_)
    simp -dsimp
  · refine WP.cond (b := true) (by cases h1 : (numF f).2 <;> cases h2 : (numF g).2 <;> cases h3 : (numF h).2 <;> simp_all) (fun _ => ?_) (fun h => by cases h)
    repeat (first | refine WP.seq ?_ | refine WP.block ?_ | (refine WP.region Tryd.tab ?_; simp -dsimp) | (refine WP.draw Tryd.tab Tryd.mixed ?_; simp -dsimp) | refine And.intro (by first | rfl | omega | decide | (simp; done) | (simp; omega) | (intro _ h; exact fcs_side h; done) | (intros; simp_all; done)) ?_)
    refine WP.ret (finQ.retE ?_)
    simp -dsimp
end Go.Proofs.YtjfkeicmdaanbaaDoor
