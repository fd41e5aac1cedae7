/-
  The laws on different facts, on other fields.
-/
import Derived.Test.YtjfkeicmdaanbaaDoorKGa
set_option linter.unusedSectionVars false
set_option linter.unusedSimpArgs false
set_option linter.unusedVariables false
namespace Go.Proofs.YtjfkeicmdaanbaaDoor
open Go.Xe Go.RowKit

set_option maxRecDepth 10000 in
set_option maxHeartbeats 4000000 in
theorem law_different (f g : Nat → Int) (hf : fOk f) (hg : fOk g) : Fn0 Tryd.prog 8 [fD f, fD g] (.v (.bool true)) := by
  have e1 := encode_ok f hf
  have e2 := encode_ok g hg
  rw [encD] at e1 e2
  refine Fun.of_wp (pn := noPn) Tryd.tab Tryd.func8 rfl fun β0 => ?_
  simp only [Tryd.f8]
  simp only [fD]
  repeat (first | refine WP.seq ?_ | refine WP.block ?_ | (refine WP.region Tryd.tab ?_; simp -dsimp) | (refine WP.draw Tryd.tab Tryd.mixed ?_; simp -dsimp) | refine And.intro (by first | rfl | omega | decide | (simp; done) | (simp; omega) | (intro _ h; exact fcs_side h; done) | (intros; simp_all; done)) ?_)
  refine vcStop.call0 Tryd.body10 sane_ok rfl rfl (by simp) ?_
  simp -dsimp
  repeat (first | refine WP.seq ?_ | refine WP.block ?_ | (refine WP.region Tryd.tab ?_; simp -dsimp) | (refine WP.draw Tryd.tab Tryd.mixed ?_; simp -dsimp) | refine And.intro (by first | rfl | omega | decide | (simp; done) | (simp; omega) | (intro _ h; exact fcs_side h; done) | (intros; simp_all; done)) ?_)
  refine WP.cond (b := false) (by simp) (fun h => by cases h) (fun _ => ?_)
  refine WP.skip ?_
  simp -dsimp
  repeat (first | refine WP.seq ?_ | refine WP.block ?_ | (refine WP.region Tryd.tab ?_; simp -dsimp) | (refine WP.draw Tryd.tab Tryd.mixed ?_; simp -dsimp) | refine And.intro (by first | rfl | omega | decide | (simp; done) | (simp; omega) | (intro _ h; exact fcs_side h; done) | (intros; simp_all; done)) ?_)
  refine vcStop.call0 Tryd.body17 e1 rfl rfl (by simp [fD]) ?_
  simp -dsimp
  repeat (first | refine WP.seq ?_ | refine WP.block ?_ | (refine WP.region Tryd.tab ?_; simp -dsimp) | (refine WP.draw Tryd.tab Tryd.mixed ?_; simp -dsimp) | refine And.intro (by first | rfl | omega | decide | (simp; done) | (simp; omega) | (intro _ h; exact fcs_side h; done) | (intros; simp_all; done)) ?_)
  refine vcStop.call0 Tryd.body17 e2 rfl rfl (by simp [fD]) ?_
  simp -dsimp
  repeat (first | refine WP.seq ?_ | refine WP.block ?_ | (refine WP.region Tryd.tab ?_; simp -dsimp) | (refine WP.draw Tryd.tab Tryd.mixed ?_; simp -dsimp) | refine And.intro (by first | rfl | omega | decide | (simp; done) | (simp; omega) | (intro _ h; exact fcs_side h; done) | (intros; simp_all; done)) ?_)
  by_cases v : (numF f).2 = true
  · by_cases u : (numF g).2 = true
    · have hinj : encF f = encF g ↔ f = g := by
        constructor
        · intro h
          exact enc_inj hf hg v u (by rw [enc_yes v, enc_yes u]; exact h)
        · rintro rfl; rfl
      rw [enc_yes v, enc_yes u]
      simp -dsimp
      refine WP.cond (b := false) (by simp) (fun h => by cases h) (fun _ => ?_)
      refine WP.skip ?_
      simp -dsimp
      repeat (first | refine WP.seq ?_ | refine WP.block ?_ | (refine WP.region Tryd.tab ?_; simp -dsimp) | (refine WP.draw Tryd.tab Tryd.mixed ?_; simp -dsimp) | refine And.intro (by first | rfl | omega | decide | (simp; done) | (simp; omega) | (intro _ h; exact fcs_side h; done) | (intros; simp_all; done)) ?_)
      refine vcStop.eqS Tryd.tab gokF noarrF rfl (.inl rfl) (m := 5) (by omega) Tryd.key47 (by decide) Tryd.gd47 st47 (cs := fcs f 0 57) (es := fcs g 0 57) (by simp) (by simp) (okF hf.1) (okF hg.1) (lits_iff hf hg) ?_
      simp -dsimp [eqRes]
      repeat (first | refine WP.seq ?_ | refine WP.block ?_ | (refine WP.region Tryd.tab ?_; simp -dsimp) | (refine WP.draw Tryd.tab Tryd.mixed ?_; simp -dsimp) | refine And.intro (by first | rfl | omega | decide | (simp; done) | (simp; omega) | (intro _ h; exact fcs_side h; done) | (intros; simp_all; done)) ?_)
      have hb : decide (encF f = encF g) = eqF f g := by
        rw [Bool.eq_iff_iff, decide_eq_true_eq, eqF_iff hf hg, hinj]
      refine WP.ret (finQ.retE ?_)
      simp -dsimp [hb]
    · rw [enc_yes v, enc_no u]
      simp -dsimp
      refine WP.cond (b := true) (by simp) (fun _ => ?_) (fun h => by cases h)
      repeat (first | refine WP.seq ?_ | refine WP.block ?_ | (refine WP.region Tryd.tab ?_; simp -dsimp) | (refine WP.draw Tryd.tab Tryd.mixed ?_; simp -dsimp) | refine And.intro (by first | rfl | omega | decide | (simp; done) | (simp; omega) | (intro _ h; exact fcs_side h; done) | (intros; simp_all; done)) ?_)
      refine WP.ret (finQ.retE ?_)
      simp -dsimp
  · rw [enc_no v]
    simp -dsimp
    refine WP.cond (b := true) (by simp) (fun _ => ?_) (fun h => by cases h)
    repeat (first | refine WP.seq ?_ | refine WP.block ?_ | (refine WP.region Tryd.tab ?_; simp -dsimp) | (refine WP.draw Tryd.tab Tryd.mixed ?_; simp -dsimp) | refine And.intro (by first | rfl | omega | decide | (simp; done) | (simp; omega) | (intro _ h; exact fcs_side h; done) | (intros; simp_all; done)) ?_)
    refine WP.ret (finQ.retE ?_)
    simp -dsimp

theorem only_zero {x : Nat → Int} {i : Nat} (h4 : 4 ≤ i) (hp : ¬ ((partF (x 3)).1 ≤ i ∧ i < (partF (x 3)).1 + (partF (x 3)).2)) : onlyF x i = 0 := by
  have h0 : i ≠ 0 := by omega
  have h1 : i ≠ 1 := by omega
  have h2 : i ≠ 2 := by omega
  have h3 : i ≠ 3 := by omega
  rw [onlyF, fcp, if_neg hp]
  simp [baseF, fup, f0, h0, h1, h2, h3]
theorem chk_parts {x : Nat → Int} (h : chkF x = true) : inB (x 0) 0 31 = true ∧ inB (x 1) 1 1048576 = true ∧ inB (x 2) 0 1099511627776 = true ∧ conF x = true ∧ eqF x (onlyF x) = true := by
  unfold chkF at h
  rw [Bool.and_eq_true, Bool.and_eq_true, Bool.and_eq_true, Bool.and_eq_true] at h
  exact ⟨h.1.1.1.1, h.1.1.1.2, h.1.1.2, h.1.2, h.2⟩
theorem chk_zero {x : Nat → Int} (h : chkF x = true) {i : Nat} (hi : i < 57) (h4 : 4 ≤ i) (hp : ¬ ((partF (x 3)).1 ≤ i ∧ i < (partF (x 3)).1 + (partF (x 3)).2)) : x i = 0 := by
  have := (chk_parts h).2.2.2.2
  unfold eqF at this
  rw [List.all_eq_true] at this
  have := this i (by simpa using hi)
  rw [decide_eq_true_eq, only_zero h4 hp] at this
  exact this
theorem chk_false {x : Nat → Int} (h : ¬ chkF x = true) : chkF x = false := by simpa using h
theorem other_0 (f : Nat → Int) : chkF (fup f 0 32) = false := chk_false fun h => by
  have := (chk_parts h).1
  simp [fup, inB] at this
theorem other_1 (f : Nat → Int) : chkF (fup f 1 0) = false := chk_false fun h => by
  have := (chk_parts h).2.1
  simp [fup, inB] at this
theorem other_2 (f : Nat → Int) : chkF (fup f 2 (-1)) = false := chk_false fun h => by
  have := (chk_parts h).2.2.1
  simp [fup, inB] at this
theorem other_3 (f : Nat → Int) : chkF (fup f 3 0) = false := chk_false fun h => by
  have := (chk_parts h).2.2.2.1
  simp [conF, fup] at this
theorem other_i (f : Nat → Int) (i : Nat) (k : Int) (hk : f 3 ≠ k) (h57 : i < 57) (h4 : 4 ≤ i) (hp : ∀ j, j ≠ k → ¬ ((partF j).1 ≤ i ∧ i < (partF j).1 + (partF j).2)) : chkF (fup f i 1) = false := chk_false fun h => by
  have h3 : fup f i 1 3 = f 3 := if_neg (by omega)
  have := chk_zero h h57 h4 (by rw [h3]; exact hp _ hk)
  simp [fup] at this
theorem part_not (i : Nat) (k : Int) (h : ∀ j : Nat, j < 14 → (j : Int) ≠ k → ¬ ((partF j).1 ≤ i ∧ i < (partF j).1 + (partF j).2)) (h4 : 4 ≤ i) : ∀ j, j ≠ k → ¬ ((partF j).1 ≤ i ∧ i < (partF j).1 + (partF j).2) := by
  intro j hj
  by_cases hr : 0 ≤ j ∧ j < 14
  · have := h j.toNat (by omega) (by omega)
    rwa [show ((j.toNat : Nat) : Int) = j by omega] at this
  · have e : partF j = (0, 0) := by
      unfold partF
      repeat rw [if_neg (by omega)]
    rw [e]
    omega
theorem other_4 (f : Nat → Int) (hk : f 3 ≠ 1) : chkF (fup f 11 1) = false := other_i f 11 1 hk (by decide) (by decide) (part_not 11 1 (by decide) (by decide))
theorem other_5 (f : Nat → Int) (hk : f 3 ≠ 2) : chkF (fup f 15 1) = false := other_i f 15 2 hk (by decide) (by decide) (part_not 15 2 (by decide) (by decide))
theorem other_6 (f : Nat → Int) (hk : f 3 ≠ 13) : chkF (fup f 56 1) = false := other_i f 56 13 hk (by decide) (by decide) (part_not 56 13 (by decide) (by decide))
theorem other_7 (f : Nat → Int) (hk : f 3 ≠ 11) : chkF (fup f 54 1) = false := other_i f 54 11 hk (by decide) (by decide) (part_not 54 11 (by decide) (by decide))
theorem fup_ok {f : Nat → Int} (hf : fOk f) {i : Nat} {x : Int} (hi : i < 57) (hx : isI x) (h54 : i = 54 → x = 0 ∨ x = 1) : fOk (fup f i x) := by
  refine ⟨fup_in hf.1 hx, ?_, fun j hj => ?_⟩
  · unfold fup
    split
    · rename_i h; exact h54 h.symm
    · exact hf.2.1
  · rw [fup, if_neg (by omega)]
    exact hf.2.2 j hj
/-- Check of a changed fact. -/
theorem chk_changed {x : Nat → Int} (hx : fOk x) (h : chkF x = false) : Fn0 Tryd.prog 11 [fD x] (.v (.int .i64 120)) := by
  have := check_ok x hx
  rw [(num_chk hx).1, h] at this
  exact this

theorem and7 (w : Int) : 0 ≤ bits .and .i64 w 7 ∧ bits .and .i64 w 7 ≤ 7 := by
  show 0 ≤ IntKind.i64.wrap ((BitVec.ofInt 64 w &&& BitVec.ofInt 64 7).toNat : Int) ∧ IntKind.i64.wrap ((BitVec.ofInt 64 w &&& BitVec.ofInt 64 7).toNat : Int) ≤ 7
  have h : (BitVec.ofInt 64 w &&& BitVec.ofInt 64 7).toNat ≤ 7 := by
    rw [BitVec.toNat_and]
    exact Nat.le_trans Nat.and_le_right (by decide)
  rw [IntKind.wrap_i64]
  omega

set_option maxRecDepth 10000 in
set_option maxHeartbeats 4000000 in
theorem law_other (f : Nat → Int) (w : Int) (hf : fOk f) : Fn0 Tryd.prog 9 [fD f, .v (.int .i64 w)] (.v (.bool true)) := by
  have k1 := check_ok f hf
  have hz := and7 w
  refine Fun.of_wp (pn := noPn) Tryd.tab Tryd.func9 rfl fun β0 => ?_
  simp only [Tryd.f9]
  simp only [fD]
  repeat (first | refine WP.seq ?_ | refine WP.block ?_ | (refine WP.region Tryd.tab ?_; simp -dsimp) | (refine WP.draw Tryd.tab Tryd.mixed ?_; simp -dsimp) | refine And.intro (by first | rfl | omega | decide | (simp; done) | (simp; omega) | (intro _ h; exact fcs_side h; done) | (intros; simp_all; done)) ?_)
  refine vcStop.call0 Tryd.body10 sane_ok rfl rfl (by simp) ?_
  simp -dsimp
  repeat (first | refine WP.seq ?_ | refine WP.block ?_ | (refine WP.region Tryd.tab ?_; simp -dsimp) | (refine WP.draw Tryd.tab Tryd.mixed ?_; simp -dsimp) | refine And.intro (by first | rfl | omega | decide | (simp; done) | (simp; omega) | (intro _ h; exact fcs_side h; done) | (intros; simp_all; done)) ?_)
  refine WP.cond (b := false) (by simp) (fun h => by cases h) (fun _ => ?_)
  refine WP.skip ?_
  simp -dsimp
  repeat (first | refine WP.seq ?_ | refine WP.block ?_ | (refine WP.region Tryd.tab ?_; simp -dsimp) | (refine WP.draw Tryd.tab Tryd.mixed ?_; simp -dsimp) | refine And.intro (by first | rfl | omega | decide | (simp; done) | (simp; omega) | (intro _ h; exact fcs_side h; done) | (intros; simp_all; done)) ?_)
  refine vcStop.call0 Tryd.body11 k1 rfl rfl (by simp [fD]) ?_
  simp -dsimp
  repeat (first | refine WP.seq ?_ | refine WP.block ?_ | (refine WP.region Tryd.tab ?_; simp -dsimp) | (refine WP.draw Tryd.tab Tryd.mixed ?_; simp -dsimp) | refine And.intro (by first | rfl | omega | decide | (simp; done) | (simp; omega) | (intro _ h; exact fcs_side h; done) | (intros; simp_all; done)) ?_)
  by_cases v : (numF f).2 = true
  · refine WP.cond (b := false) (by simp [v]) (fun h => by cases h) (fun _ => ?_)
    refine WP.skip ?_
    simp -dsimp
    repeat (first | refine WP.seq ?_ | refine WP.block ?_ | (refine WP.region Tryd.tab ?_; simp -dsimp) | (refine WP.draw Tryd.tab Tryd.mixed ?_; simp -dsimp) | refine And.intro (by first | rfl | omega | decide | (simp; done) | (simp; omega) | (intro _ h; exact fcs_side h; done) | (intros; simp_all; done)) ?_)
    generalize bits .and .i64 w 7 = z at *
    have hz8 : z = 0 ∨ z = 1 ∨ z = 2 ∨ z = 3 ∨ z = 4 ∨ z = 5 ∨ z = 6 ∨ z = 7 := by omega
    rcases hz8 with rfl | rfl | rfl | rfl | rfl | rfl | rfl | rfl
    · refine WP.cond (b := true) (by simp) (fun _ => ?_) (fun h => by cases h)
      repeat (first | refine WP.seq ?_ | refine WP.block ?_ | (refine WP.region Tryd.tab ?_; simp -dsimp) | (refine WP.draw Tryd.tab Tryd.mixed ?_; simp -dsimp) | refine And.intro (by first | rfl | omega | decide | (simp; done) | (simp; omega) | (intro _ h; exact fcs_side h; done) | (intros; simp_all; done)) ?_)
      refine vcStop.call0 Tryd.body11 (chk_changed (x := fup f 0 32) (fup_ok hf (by decide) (by simp [isI]) (by decide)) (other_0 f)) rfl rfl (by simp [fD]) ?_
      simp -dsimp
      repeat (first | refine WP.seq ?_ | refine WP.block ?_ | (refine WP.region Tryd.tab ?_; simp -dsimp) | (refine WP.draw Tryd.tab Tryd.mixed ?_; simp -dsimp) | refine And.intro (by first | rfl | omega | decide | (simp; done) | (simp; omega) | (intro _ h; exact fcs_side h; done) | (intros; simp_all; done)) ?_)
      refine WP.ret (finQ.retE ?_)
      simp -dsimp
    · refine WP.cond (b := false) (by simp) (fun h => by cases h) (fun _ => ?_)
      repeat (first | refine WP.seq ?_ | refine WP.block ?_ | (refine WP.region Tryd.tab ?_; simp -dsimp) | (refine WP.draw Tryd.tab Tryd.mixed ?_; simp -dsimp) | refine And.intro (by first | rfl | omega | decide | (simp; done) | (simp; omega) | (intro _ h; exact fcs_side h; done) | (intros; simp_all; done)) ?_)
      refine WP.cond (b := true) (by simp) (fun _ => ?_) (fun h => by cases h)
      repeat (first | refine WP.seq ?_ | refine WP.block ?_ | (refine WP.region Tryd.tab ?_; simp -dsimp) | (refine WP.draw Tryd.tab Tryd.mixed ?_; simp -dsimp) | refine And.intro (by first | rfl | omega | decide | (simp; done) | (simp; omega) | (intro _ h; exact fcs_side h; done) | (intros; simp_all; done)) ?_)
      refine vcStop.call0 Tryd.body11 (chk_changed (x := fup f 1 0) (fup_ok hf (by decide) (by simp [isI]) (by decide)) (other_1 f)) rfl rfl (by simp [fD]) ?_
      simp -dsimp
      repeat (first | refine WP.seq ?_ | refine WP.block ?_ | (refine WP.region Tryd.tab ?_; simp -dsimp) | (refine WP.draw Tryd.tab Tryd.mixed ?_; simp -dsimp) | refine And.intro (by first | rfl | omega | decide | (simp; done) | (simp; omega) | (intro _ h; exact fcs_side h; done) | (intros; simp_all; done)) ?_)
      refine WP.ret (finQ.retE ?_)
      simp -dsimp
    · refine WP.cond (b := false) (by simp) (fun h => by cases h) (fun _ => ?_)
      repeat (first | refine WP.seq ?_ | refine WP.block ?_ | (refine WP.region Tryd.tab ?_; simp -dsimp) | (refine WP.draw Tryd.tab Tryd.mixed ?_; simp -dsimp) | refine And.intro (by first | rfl | omega | decide | (simp; done) | (simp; omega) | (intro _ h; exact fcs_side h; done) | (intros; simp_all; done)) ?_)
      refine WP.cond (b := false) (by simp) (fun h => by cases h) (fun _ => ?_)
      repeat (first | refine WP.seq ?_ | refine WP.block ?_ | (refine WP.region Tryd.tab ?_; simp -dsimp) | (refine WP.draw Tryd.tab Tryd.mixed ?_; simp -dsimp) | refine And.intro (by first | rfl | omega | decide | (simp; done) | (simp; omega) | (intro _ h; exact fcs_side h; done) | (intros; simp_all; done)) ?_)
      refine WP.cond (b := true) (by simp) (fun _ => ?_) (fun h => by cases h)
      repeat (first | refine WP.seq ?_ | refine WP.block ?_ | (refine WP.region Tryd.tab ?_; simp -dsimp) | (refine WP.draw Tryd.tab Tryd.mixed ?_; simp -dsimp) | refine And.intro (by first | rfl | omega | decide | (simp; done) | (simp; omega) | (intro _ h; exact fcs_side h; done) | (intros; simp_all; done)) ?_)
      refine vcStop.call0 Tryd.body11 (chk_changed (x := fup f 2 (-1)) (fup_ok hf (by decide) (by simp [isI]) (by decide)) (other_2 f)) rfl rfl (by simp [fD]) ?_
      simp -dsimp
      repeat (first | refine WP.seq ?_ | refine WP.block ?_ | (refine WP.region Tryd.tab ?_; simp -dsimp) | (refine WP.draw Tryd.tab Tryd.mixed ?_; simp -dsimp) | refine And.intro (by first | rfl | omega | decide | (simp; done) | (simp; omega) | (intro _ h; exact fcs_side h; done) | (intros; simp_all; done)) ?_)
      refine WP.ret (finQ.retE ?_)
      simp -dsimp
    · refine WP.cond (b := false) (by simp) (fun h => by cases h) (fun _ => ?_)
      repeat (first | refine WP.seq ?_ | refine WP.block ?_ | (refine WP.region Tryd.tab ?_; simp -dsimp) | (refine WP.draw Tryd.tab Tryd.mixed ?_; simp -dsimp) | refine And.intro (by first | rfl | omega | decide | (simp; done) | (simp; omega) | (intro _ h; exact fcs_side h; done) | (intros; simp_all; done)) ?_)
      refine WP.cond (b := false) (by simp) (fun h => by cases h) (fun _ => ?_)
      repeat (first | refine WP.seq ?_ | refine WP.block ?_ | (refine WP.region Tryd.tab ?_; simp -dsimp) | (refine WP.draw Tryd.tab Tryd.mixed ?_; simp -dsimp) | refine And.intro (by first | rfl | omega | decide | (simp; done) | (simp; omega) | (intro _ h; exact fcs_side h; done) | (intros; simp_all; done)) ?_)
      refine WP.cond (b := false) (by simp) (fun h => by cases h) (fun _ => ?_)
      repeat (first | refine WP.seq ?_ | refine WP.block ?_ | (refine WP.region Tryd.tab ?_; simp -dsimp) | (refine WP.draw Tryd.tab Tryd.mixed ?_; simp -dsimp) | refine And.intro (by first | rfl | omega | decide | (simp; done) | (simp; omega) | (intro _ h; exact fcs_side h; done) | (intros; simp_all; done)) ?_)
      refine WP.cond (b := true) (by simp) (fun _ => ?_) (fun h => by cases h)
      repeat (first | refine WP.seq ?_ | refine WP.block ?_ | (refine WP.region Tryd.tab ?_; simp -dsimp) | (refine WP.draw Tryd.tab Tryd.mixed ?_; simp -dsimp) | refine And.intro (by first | rfl | omega | decide | (simp; done) | (simp; omega) | (intro _ h; exact fcs_side h; done) | (intros; simp_all; done)) ?_)
      refine vcStop.call0 Tryd.body11 (chk_changed (x := fup f 3 0) (fup_ok hf (by decide) (by simp [isI]) (by decide)) (other_3 f)) rfl rfl (by simp [fD]) ?_
      simp -dsimp
      repeat (first | refine WP.seq ?_ | refine WP.block ?_ | (refine WP.region Tryd.tab ?_; simp -dsimp) | (refine WP.draw Tryd.tab Tryd.mixed ?_; simp -dsimp) | refine And.intro (by first | rfl | omega | decide | (simp; done) | (simp; omega) | (intro _ h; exact fcs_side h; done) | (intros; simp_all; done)) ?_)
      refine WP.ret (finQ.retE ?_)
      simp -dsimp
    · refine WP.cond (b := false) (by simp) (fun h => by cases h) (fun _ => ?_)
      repeat (first | refine WP.seq ?_ | refine WP.block ?_ | (refine WP.region Tryd.tab ?_; simp -dsimp) | (refine WP.draw Tryd.tab Tryd.mixed ?_; simp -dsimp) | refine And.intro (by first | rfl | omega | decide | (simp; done) | (simp; omega) | (intro _ h; exact fcs_side h; done) | (intros; simp_all; done)) ?_)
      refine WP.cond (b := false) (by simp) (fun h => by cases h) (fun _ => ?_)
      repeat (first | refine WP.seq ?_ | refine WP.block ?_ | (refine WP.region Tryd.tab ?_; simp -dsimp) | (refine WP.draw Tryd.tab Tryd.mixed ?_; simp -dsimp) | refine And.intro (by first | rfl | omega | decide | (simp; done) | (simp; omega) | (intro _ h; exact fcs_side h; done) | (intros; simp_all; done)) ?_)
      refine WP.cond (b := false) (by simp) (fun h => by cases h) (fun _ => ?_)
      repeat (first | refine WP.seq ?_ | refine WP.block ?_ | (refine WP.region Tryd.tab ?_; simp -dsimp) | (refine WP.draw Tryd.tab Tryd.mixed ?_; simp -dsimp) | refine And.intro (by first | rfl | omega | decide | (simp; done) | (simp; omega) | (intro _ h; exact fcs_side h; done) | (intros; simp_all; done)) ?_)
      refine WP.cond (b := false) (by simp) (fun h => by cases h) (fun _ => ?_)
      repeat (first | refine WP.seq ?_ | refine WP.block ?_ | (refine WP.region Tryd.tab ?_; simp -dsimp) | (refine WP.draw Tryd.tab Tryd.mixed ?_; simp -dsimp) | refine And.intro (by first | rfl | omega | decide | (simp; done) | (simp; omega) | (intro _ h; exact fcs_side h; done) | (intros; simp_all; done)) ?_)
      refine WP.cond (b := true) (by simp) (fun _ => ?_) (fun h => by cases h)
      repeat (first | refine WP.seq ?_ | refine WP.block ?_ | (refine WP.region Tryd.tab ?_; simp -dsimp) | (refine WP.draw Tryd.tab Tryd.mixed ?_; simp -dsimp) | refine And.intro (by first | rfl | omega | decide | (simp; done) | (simp; omega) | (intro _ h; exact fcs_side h; done) | (intros; simp_all; done)) ?_)
      refine WP.cond (b := decide (f 3 = 1)) (by simp) (fun _ => ?_) (fun hk => ?_)
      · repeat (first | refine WP.seq ?_ | refine WP.block ?_ | (refine WP.region Tryd.tab ?_; simp -dsimp) | (refine WP.draw Tryd.tab Tryd.mixed ?_; simp -dsimp) | refine And.intro (by first | rfl | omega | decide | (simp; done) | (simp; omega) | (intro _ h; exact fcs_side h; done) | (intros; simp_all; done)) ?_)
        refine WP.ret (finQ.retE ?_)
        simp -dsimp
      have hk : f 3 ≠ 1 := of_decide_eq_false hk
      refine WP.skip ?_
      simp -dsimp
      repeat (first | refine WP.seq ?_ | refine WP.block ?_ | (refine WP.region Tryd.tab ?_; simp -dsimp) | (refine WP.draw Tryd.tab Tryd.mixed ?_; simp -dsimp) | refine And.intro (by first | rfl | omega | decide | (simp; done) | (simp; omega) | (intro _ h; exact fcs_side h; done) | (intros; simp_all; done)) ?_)
      refine vcStop.call0 Tryd.body11 (chk_changed (x := fup f 11 1) (fup_ok hf (by decide) (by simp [isI]) (by decide)) (other_4 f hk)) rfl rfl (by simp [fD]) ?_
      simp -dsimp
      repeat (first | refine WP.seq ?_ | refine WP.block ?_ | (refine WP.region Tryd.tab ?_; simp -dsimp) | (refine WP.draw Tryd.tab Tryd.mixed ?_; simp -dsimp) | refine And.intro (by first | rfl | omega | decide | (simp; done) | (simp; omega) | (intro _ h; exact fcs_side h; done) | (intros; simp_all; done)) ?_)
      refine WP.ret (finQ.retE ?_)
      simp -dsimp
    · refine WP.cond (b := false) (by simp) (fun h => by cases h) (fun _ => ?_)
      repeat (first | refine WP.seq ?_ | refine WP.block ?_ | (refine WP.region Tryd.tab ?_; simp -dsimp) | (refine WP.draw Tryd.tab Tryd.mixed ?_; simp -dsimp) | refine And.intro (by first | rfl | omega | decide | (simp; done) | (simp; omega) | (intro _ h; exact fcs_side h; done) | (intros; simp_all; done)) ?_)
      refine WP.cond (b := false) (by simp) (fun h => by cases h) (fun _ => ?_)
      repeat (first | refine WP.seq ?_ | refine WP.block ?_ | (refine WP.region Tryd.tab ?_; simp -dsimp) | (refine WP.draw Tryd.tab Tryd.mixed ?_; simp -dsimp) | refine And.intro (by first | rfl | omega | decide | (simp; done) | (simp; omega) | (intro _ h; exact fcs_side h; done) | (intros; simp_all; done)) ?_)
      refine WP.cond (b := false) (by simp) (fun h => by cases h) (fun _ => ?_)
      repeat (first | refine WP.seq ?_ | refine WP.block ?_ | (refine WP.region Tryd.tab ?_; simp -dsimp) | (refine WP.draw Tryd.tab Tryd.mixed ?_; simp -dsimp) | refine And.intro (by first | rfl | omega | decide | (simp; done) | (simp; omega) | (intro _ h; exact fcs_side h; done) | (intros; simp_all; done)) ?_)
      refine WP.cond (b := false) (by simp) (fun h => by cases h) (fun _ => ?_)
      repeat (first | refine WP.seq ?_ | refine WP.block ?_ | (refine WP.region Tryd.tab ?_; simp -dsimp) | (refine WP.draw Tryd.tab Tryd.mixed ?_; simp -dsimp) | refine And.intro (by first | rfl | omega | decide | (simp; done) | (simp; omega) | (intro _ h; exact fcs_side h; done) | (intros; simp_all; done)) ?_)
      refine WP.cond (b := false) (by simp) (fun h => by cases h) (fun _ => ?_)
      repeat (first | refine WP.seq ?_ | refine WP.block ?_ | (refine WP.region Tryd.tab ?_; simp -dsimp) | (refine WP.draw Tryd.tab Tryd.mixed ?_; simp -dsimp) | refine And.intro (by first | rfl | omega | decide | (simp; done) | (simp; omega) | (intro _ h; exact fcs_side h; done) | (intros; simp_all; done)) ?_)
      refine WP.cond (b := true) (by simp) (fun _ => ?_) (fun h => by cases h)
      repeat (first | refine WP.seq ?_ | refine WP.block ?_ | (refine WP.region Tryd.tab ?_; simp -dsimp) | (refine WP.draw Tryd.tab Tryd.mixed ?_; simp -dsimp) | refine And.intro (by first | rfl | omega | decide | (simp; done) | (simp; omega) | (intro _ h; exact fcs_side h; done) | (intros; simp_all; done)) ?_)
      refine WP.cond (b := decide (f 3 = 2)) (by simp) (fun _ => ?_) (fun hk => ?_)
      · repeat (first | refine WP.seq ?_ | refine WP.block ?_ | (refine WP.region Tryd.tab ?_; simp -dsimp) | (refine WP.draw Tryd.tab Tryd.mixed ?_; simp -dsimp) | refine And.intro (by first | rfl | omega | decide | (simp; done) | (simp; omega) | (intro _ h; exact fcs_side h; done) | (intros; simp_all; done)) ?_)
        refine WP.ret (finQ.retE ?_)
        simp -dsimp
      have hk : f 3 ≠ 2 := of_decide_eq_false hk
      refine WP.skip ?_
      simp -dsimp
      repeat (first | refine WP.seq ?_ | refine WP.block ?_ | (refine WP.region Tryd.tab ?_; simp -dsimp) | (refine WP.draw Tryd.tab Tryd.mixed ?_; simp -dsimp) | refine And.intro (by first | rfl | omega | decide | (simp; done) | (simp; omega) | (intro _ h; exact fcs_side h; done) | (intros; simp_all; done)) ?_)
      refine vcStop.call0 Tryd.body11 (chk_changed (x := fup f 15 1) (fup_ok hf (by decide) (by simp [isI]) (by decide)) (other_5 f hk)) rfl rfl (by simp [fD]) ?_
      simp -dsimp
      repeat (first | refine WP.seq ?_ | refine WP.block ?_ | (refine WP.region Tryd.tab ?_; simp -dsimp) | (refine WP.draw Tryd.tab Tryd.mixed ?_; simp -dsimp) | refine And.intro (by first | rfl | omega | decide | (simp; done) | (simp; omega) | (intro _ h; exact fcs_side h; done) | (intros; simp_all; done)) ?_)
      refine WP.ret (finQ.retE ?_)
      simp -dsimp
    · refine WP.cond (b := false) (by simp) (fun h => by cases h) (fun _ => ?_)
      repeat (first | refine WP.seq ?_ | refine WP.block ?_ | (refine WP.region Tryd.tab ?_; simp -dsimp) | (refine WP.draw Tryd.tab Tryd.mixed ?_; simp -dsimp) | refine And.intro (by first | rfl | omega | decide | (simp; done) | (simp; omega) | (intro _ h; exact fcs_side h; done) | (intros; simp_all; done)) ?_)
      refine WP.cond (b := false) (by simp) (fun h => by cases h) (fun _ => ?_)
      repeat (first | refine WP.seq ?_ | refine WP.block ?_ | (refine WP.region Tryd.tab ?_; simp -dsimp) | (refine WP.draw Tryd.tab Tryd.mixed ?_; simp -dsimp) | refine And.intro (by first | rfl | omega | decide | (simp; done) | (simp; omega) | (intro _ h; exact fcs_side h; done) | (intros; simp_all; done)) ?_)
      refine WP.cond (b := false) (by simp) (fun h => by cases h) (fun _ => ?_)
      repeat (first | refine WP.seq ?_ | refine WP.block ?_ | (refine WP.region Tryd.tab ?_; simp -dsimp) | (refine WP.draw Tryd.tab Tryd.mixed ?_; simp -dsimp) | refine And.intro (by first | rfl | omega | decide | (simp; done) | (simp; omega) | (intro _ h; exact fcs_side h; done) | (intros; simp_all; done)) ?_)
      refine WP.cond (b := false) (by simp) (fun h => by cases h) (fun _ => ?_)
      repeat (first | refine WP.seq ?_ | refine WP.block ?_ | (refine WP.region Tryd.tab ?_; simp -dsimp) | (refine WP.draw Tryd.tab Tryd.mixed ?_; simp -dsimp) | refine And.intro (by first | rfl | omega | decide | (simp; done) | (simp; omega) | (intro _ h; exact fcs_side h; done) | (intros; simp_all; done)) ?_)
      refine WP.cond (b := false) (by simp) (fun h => by cases h) (fun _ => ?_)
      repeat (first | refine WP.seq ?_ | refine WP.block ?_ | (refine WP.region Tryd.tab ?_; simp -dsimp) | (refine WP.draw Tryd.tab Tryd.mixed ?_; simp -dsimp) | refine And.intro (by first | rfl | omega | decide | (simp; done) | (simp; omega) | (intro _ h; exact fcs_side h; done) | (intros; simp_all; done)) ?_)
      refine WP.cond (b := false) (by simp) (fun h => by cases h) (fun _ => ?_)
      repeat (first | refine WP.seq ?_ | refine WP.block ?_ | (refine WP.region Tryd.tab ?_; simp -dsimp) | (refine WP.draw Tryd.tab Tryd.mixed ?_; simp -dsimp) | refine And.intro (by first | rfl | omega | decide | (simp; done) | (simp; omega) | (intro _ h; exact fcs_side h; done) | (intros; simp_all; done)) ?_)
      refine WP.cond (b := true) (by simp) (fun _ => ?_) (fun h => by cases h)
      repeat (first | refine WP.seq ?_ | refine WP.block ?_ | (refine WP.region Tryd.tab ?_; simp -dsimp) | (refine WP.draw Tryd.tab Tryd.mixed ?_; simp -dsimp) | refine And.intro (by first | rfl | omega | decide | (simp; done) | (simp; omega) | (intro _ h; exact fcs_side h; done) | (intros; simp_all; done)) ?_)
      refine WP.cond (b := decide (f 3 = 13)) (by simp) (fun _ => ?_) (fun hk => ?_)
      · repeat (first | refine WP.seq ?_ | refine WP.block ?_ | (refine WP.region Tryd.tab ?_; simp -dsimp) | (refine WP.draw Tryd.tab Tryd.mixed ?_; simp -dsimp) | refine And.intro (by first | rfl | omega | decide | (simp; done) | (simp; omega) | (intro _ h; exact fcs_side h; done) | (intros; simp_all; done)) ?_)
        refine WP.ret (finQ.retE ?_)
        simp -dsimp
      have hk : f 3 ≠ 13 := of_decide_eq_false hk
      refine WP.skip ?_
      simp -dsimp
      repeat (first | refine WP.seq ?_ | refine WP.block ?_ | (refine WP.region Tryd.tab ?_; simp -dsimp) | (refine WP.draw Tryd.tab Tryd.mixed ?_; simp -dsimp) | refine And.intro (by first | rfl | omega | decide | (simp; done) | (simp; omega) | (intro _ h; exact fcs_side h; done) | (intros; simp_all; done)) ?_)
      refine vcStop.call0 Tryd.body11 (chk_changed (x := fup f 56 1) (fup_ok hf (by decide) (by simp [isI]) (by decide)) (other_6 f hk)) rfl rfl (by simp [fD]) ?_
      simp -dsimp
      repeat (first | refine WP.seq ?_ | refine WP.block ?_ | (refine WP.region Tryd.tab ?_; simp -dsimp) | (refine WP.draw Tryd.tab Tryd.mixed ?_; simp -dsimp) | refine And.intro (by first | rfl | omega | decide | (simp; done) | (simp; omega) | (intro _ h; exact fcs_side h; done) | (intros; simp_all; done)) ?_)
      refine WP.ret (finQ.retE ?_)
      simp -dsimp
    · refine WP.cond (b := false) (by simp) (fun h => by cases h) (fun _ => ?_)
      repeat (first | refine WP.seq ?_ | refine WP.block ?_ | (refine WP.region Tryd.tab ?_; simp -dsimp) | (refine WP.draw Tryd.tab Tryd.mixed ?_; simp -dsimp) | refine And.intro (by first | rfl | omega | decide | (simp; done) | (simp; omega) | (intro _ h; exact fcs_side h; done) | (intros; simp_all; done)) ?_)
      refine WP.cond (b := false) (by simp) (fun h => by cases h) (fun _ => ?_)
      repeat (first | refine WP.seq ?_ | refine WP.block ?_ | (refine WP.region Tryd.tab ?_; simp -dsimp) | (refine WP.draw Tryd.tab Tryd.mixed ?_; simp -dsimp) | refine And.intro (by first | rfl | omega | decide | (simp; done) | (simp; omega) | (intro _ h; exact fcs_side h; done) | (intros; simp_all; done)) ?_)
      refine WP.cond (b := false) (by simp) (fun h => by cases h) (fun _ => ?_)
      repeat (first | refine WP.seq ?_ | refine WP.block ?_ | (refine WP.region Tryd.tab ?_; simp -dsimp) | (refine WP.draw Tryd.tab Tryd.mixed ?_; simp -dsimp) | refine And.intro (by first | rfl | omega | decide | (simp; done) | (simp; omega) | (intro _ h; exact fcs_side h; done) | (intros; simp_all; done)) ?_)
      refine WP.cond (b := false) (by simp) (fun h => by cases h) (fun _ => ?_)
      repeat (first | refine WP.seq ?_ | refine WP.block ?_ | (refine WP.region Tryd.tab ?_; simp -dsimp) | (refine WP.draw Tryd.tab Tryd.mixed ?_; simp -dsimp) | refine And.intro (by first | rfl | omega | decide | (simp; done) | (simp; omega) | (intro _ h; exact fcs_side h; done) | (intros; simp_all; done)) ?_)
      refine WP.cond (b := false) (by simp) (fun h => by cases h) (fun _ => ?_)
      repeat (first | refine WP.seq ?_ | refine WP.block ?_ | (refine WP.region Tryd.tab ?_; simp -dsimp) | (refine WP.draw Tryd.tab Tryd.mixed ?_; simp -dsimp) | refine And.intro (by first | rfl | omega | decide | (simp; done) | (simp; omega) | (intro _ h; exact fcs_side h; done) | (intros; simp_all; done)) ?_)
      refine WP.cond (b := false) (by simp) (fun h => by cases h) (fun _ => ?_)
      repeat (first | refine WP.seq ?_ | refine WP.block ?_ | (refine WP.region Tryd.tab ?_; simp -dsimp) | (refine WP.draw Tryd.tab Tryd.mixed ?_; simp -dsimp) | refine And.intro (by first | rfl | omega | decide | (simp; done) | (simp; omega) | (intro _ h; exact fcs_side h; done) | (intros; simp_all; done)) ?_)
      refine WP.cond (b := false) (by simp) (fun h => by cases h) (fun _ => ?_)
      repeat (first | refine WP.seq ?_ | refine WP.block ?_ | (refine WP.region Tryd.tab ?_; simp -dsimp) | (refine WP.draw Tryd.tab Tryd.mixed ?_; simp -dsimp) | refine And.intro (by first | rfl | omega | decide | (simp; done) | (simp; omega) | (intro _ h; exact fcs_side h; done) | (intros; simp_all; done)) ?_)
      refine WP.cond (b := true) (by simp) (fun _ => ?_) (fun h => by cases h)
      repeat (first | refine WP.seq ?_ | refine WP.block ?_ | (refine WP.region Tryd.tab ?_; simp -dsimp) | (refine WP.draw Tryd.tab Tryd.mixed ?_; simp -dsimp) | refine And.intro (by first | rfl | omega | decide | (simp; done) | (simp; omega) | (intro _ h; exact fcs_side h; done) | (intros; simp_all; done)) ?_)
      refine WP.cond (b := decide (f 3 = 11)) (by simp) (fun _ => ?_) (fun hk => ?_)
      · repeat (first | refine WP.seq ?_ | refine WP.block ?_ | (refine WP.region Tryd.tab ?_; simp -dsimp) | (refine WP.draw Tryd.tab Tryd.mixed ?_; simp -dsimp) | refine And.intro (by first | rfl | omega | decide | (simp; done) | (simp; omega) | (intro _ h; exact fcs_side h; done) | (intros; simp_all; done)) ?_)
        refine WP.ret (finQ.retE ?_)
        simp -dsimp
      have hk : f 3 ≠ 11 := of_decide_eq_false hk
      refine WP.skip ?_
      simp -dsimp
      repeat (first | refine WP.seq ?_ | refine WP.block ?_ | (refine WP.region Tryd.tab ?_; simp -dsimp) | (refine WP.draw Tryd.tab Tryd.mixed ?_; simp -dsimp) | refine And.intro (by first | rfl | omega | decide | (simp; done) | (simp; omega) | (intro _ h; exact fcs_side h; done) | (intros; simp_all; done)) ?_)
      refine vcStop.call0 Tryd.body11 (chk_changed (x := fup f 54 1) (fup_ok hf (by decide) (by simp [isI]) (by decide)) (other_7 f hk)) rfl rfl (by simp [fD]) ?_
      simp -dsimp
      repeat (first | refine WP.seq ?_ | refine WP.block ?_ | (refine WP.region Tryd.tab ?_; simp -dsimp) | (refine WP.draw Tryd.tab Tryd.mixed ?_; simp -dsimp) | refine And.intro (by first | rfl | omega | decide | (simp; done) | (simp; omega) | (intro _ h; exact fcs_side h; done) | (intros; simp_all; done)) ?_)
      refine WP.ret (finQ.retE ?_)
      simp -dsimp
  · refine WP.cond (b := true) (by simp [v]) (fun _ => ?_) (fun h => by cases h)
    repeat (first | refine WP.seq ?_ | refine WP.block ?_ | (refine WP.region Tryd.tab ?_; simp -dsimp) | (refine WP.draw Tryd.tab Tryd.mixed ?_; simp -dsimp) | refine And.intro (by first | rfl | omega | decide | (simp; done) | (simp; omega) | (intro _ h; exact fcs_side h; done) | (intros; simp_all; done)) ?_)
    refine WP.ret (finQ.retE ?_)
    simp -dsimp
end Go.Proofs.YtjfkeicmdaanbaaDoor
