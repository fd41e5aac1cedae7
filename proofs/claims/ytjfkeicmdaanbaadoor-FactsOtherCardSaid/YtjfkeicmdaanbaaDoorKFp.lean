/-
  The reference's order of facts.
-/
import Derived.Test.YtjfkeicmdaanbaaDoorKFn
import Derived.Test.YtjfkeicmdaanbaaDoorKPc
set_option linter.unusedSectionVars false
set_option linter.unusedSimpArgs false
set_option linter.unusedVariables false
namespace Go.Proofs.YtjfkeicmdaanbaaDoor
open Go.Xe Go.RowKit

theorem cb_less : ∀ a b : List UInt8, Op.bytesLess a b = decide (Lib.compareBytes a b = -1)
  | [], [] => by simp [Op.bytesLess, Lib.compareBytes]
  | [], _ :: _ => by simp [Op.bytesLess, Lib.compareBytes]
  | _ :: _, [] => by simp [Op.bytesLess, Lib.compareBytes]
  | x :: a, y :: b => by
    rw [Op.bytesLess, Lib.compareBytes, cb_less a b]
    by_cases h1 : x < y
    · simp [h1]
    · by_cases h2 : y < x
      · have : x ≠ y := fun e => by subst e; exact h1 h2
        simp [h1, h2, this]
      · have : x = y := UInt8.le_antisymm (UInt8.not_lt.1 h2) (UInt8.not_lt.1 h1)
        simp [h1, h2, this]
theorem cb_eq : ∀ a b : List UInt8, Lib.compareBytes a b = 0 ↔ a = b
  | [], [] => by simp [Lib.compareBytes]
  | [], _ :: _ => by simp [Lib.compareBytes]
  | _ :: _, [] => by simp [Lib.compareBytes]
  | x :: a, y :: b => by
    rw [Lib.compareBytes]
    by_cases h1 : x < y
    · have : x ≠ y := fun e => by subst e; exact absurd h1 (UInt8.lt_irrefl _)
      simp [h1, this]
    · by_cases h2 : y < x
      · have : x ≠ y := fun e => by subst e; exact h1 h2
        simp [h1, h2, this]
      · have : x = y := UInt8.le_antisymm (UInt8.not_lt.1 h2) (UInt8.not_lt.1 h1)
        simp [h1, h2, this, cb_eq a b]
theorem cb_val : ∀ a b : List UInt8, Lib.compareBytes a b = -1 ∨ Lib.compareBytes a b = 0 ∨ Lib.compareBytes a b = 1
  | [], [] => by simp [Lib.compareBytes]
  | [], _ :: _ => by simp [Lib.compareBytes]
  | _ :: _, [] => by simp [Lib.compareBytes]
  | x :: a, y :: b => by
    rw [Lib.compareBytes]
    split
    · simp
    · split
      · simp
      · exact cb_val a b
/-- What the reference's Compare says: as the code's, with its own encodings. -/
def refCmp (f g : Nat → Int) : Int := if headC f g = 0 then Lib.compareBytes (refR f).1 (refR g).1 else headC f g
def sC (f g : Nat → Int) (i : Nat) : St := mkS 68 [(2, .ptr 2 0), (3, .ptr 3 0), (5, .row 18), (6, .row 25), (7, .d (.v (.int .i64 i)))]
  [(2, fB f), (3, fB g), (18, .row 3 1 3 [.d (.v (.int .i64 (f 2))), .d (.v (.int .i64 (f 0))), .d (.v (.int .i64 (f 1)))]), (25, .row 3 1 3 [.d (.v (.int .i64 (g 2))), .d (.v (.int .i64 (g 0))), .d (.v (.int .i64 (g 1)))])]
def preC (f g : Nat → Int) (i : Nat) : Prop := (1 ≤ i → f 2 = g 2) ∧ (2 ≤ i → f 0 = g 0) ∧ (3 ≤ i → f 1 = g 1)
set_option maxRecDepth 10000 in
set_option maxHeartbeats 4000000 in
theorem refCompare_ok (f g : Nat → Int) (hf : fOk f) (hg : fOk g) : Fn0 Tryd.prog 14 [fD f, fD g] (.v (.int .i64 (refCmp f g))) := by
  have ef := refEncode_ok f hf
  have eg := refEncode_ok g hg
  refine Fun.of_wp (pn := noPn) Tryd.tab Tryd.func14 rfl fun β0 => ?_
  simp only [Tryd.f14]
  simp only [fD]
  repeat (first | refine WP.seq ?_ | refine WP.block ?_ | (refine WP.region Tryd.tab ?_; simp -dsimp) | (refine WP.draw Tryd.tab Tryd.mixed ?_; simp -dsimp) | refine And.intro (by first | rfl | omega | decide | (simp; done) | (simp; omega) | (intro _ h; exact fcs_side h; done) | (intros; simp_all; done)) ?_)
  refine WP.loopWk (fun m S => ∃ i : Nat, i + m = 3 ∧ preC f g i ∧ S = sC f g i) 3 (S0 := sC f g 0) (Wk.lessE [] (by simp [sC]) (by simp [sC])) ⟨0, rfl, ⟨by omega, by omega, by omega⟩, rfl⟩ ?_
  rintro m _ ⟨i, hi, hp, rfl⟩
  have hi' : i = 0 ∨ i = 1 ∨ i = 2 ∨ i = 3 := by omega
  rcases hi' with rfl | rfl | rfl | rfl
  · simp -dsimp [sC]
    repeat (first | refine WP.seq ?_ | refine WP.block ?_ | (refine WP.region Tryd.tab ?_; simp -dsimp) | (refine WP.draw Tryd.tab Tryd.mixed ?_; simp -dsimp) | refine And.intro (by first | rfl | omega | decide | (simp; done) | (simp; omega) | (intro _ h; exact fcs_side h; done) | (intros; simp_all; done)) ?_)
    refine WP.cond (b := true) (by simp) (fun _ => ?_) (fun h => by cases h)
    refine WP.skip ?_
    simp -dsimp
    refine WP.seq (WP.block ?_)
    repeat (first | refine WP.seq ?_ | refine WP.block ?_ | (refine WP.region Tryd.tab ?_; simp -dsimp) | (refine WP.draw Tryd.tab Tryd.mixed ?_; simp -dsimp) | refine And.intro (by first | rfl | omega | decide | (simp; done) | (simp; omega) | (intro _ h; exact fcs_side h; done) | (intros; simp_all; done)) ?_)
    refine WP.cond (b := decide (f 2 < g 2)) (by simp) (fun hb => ?_) (fun hb => ?_)
    · have hb := of_decide_eq_true hb
      have e : headC f g = -1 := by simp [headC, orL, cmpI, hb]
      have e2 : refCmp f g = -1 := by rw [refCmp, e]; rfl
      repeat (first | refine WP.seq ?_ | refine WP.block ?_ | (refine WP.region Tryd.tab ?_; simp -dsimp) | (refine WP.draw Tryd.tab Tryd.mixed ?_; simp -dsimp) | refine And.intro (by first | rfl | omega | decide | (simp; done) | (simp; omega) | (intro _ h; exact fcs_side h; done) | (intros; simp_all; done)) ?_)
      refine WP.ret (finQ.retE ?_)
      simp -dsimp [e2]
    have h1 := of_decide_eq_false hb
    refine WP.skip ?_
    simp -dsimp
    repeat (first | refine WP.seq ?_ | refine WP.block ?_ | (refine WP.region Tryd.tab ?_; simp -dsimp) | (refine WP.draw Tryd.tab Tryd.mixed ?_; simp -dsimp) | refine And.intro (by first | rfl | omega | decide | (simp; done) | (simp; omega) | (intro _ h; exact fcs_side h; done) | (intros; simp_all; done)) ?_)
    refine WP.cond (b := decide (g 2 < f 2)) (by simp) (fun hb => ?_) (fun hb => ?_)
    · have hb := of_decide_eq_true hb
      have e : headC f g = 1 := by simp [headC, orL, cmpI, hb, h1]
      have e2 : refCmp f g = 1 := by rw [refCmp, e]; rfl
      repeat (first | refine WP.seq ?_ | refine WP.block ?_ | (refine WP.region Tryd.tab ?_; simp -dsimp) | (refine WP.draw Tryd.tab Tryd.mixed ?_; simp -dsimp) | refine And.intro (by first | rfl | omega | decide | (simp; done) | (simp; omega) | (intro _ h; exact fcs_side h; done) | (intros; simp_all; done)) ?_)
      refine WP.ret (finQ.retE ?_)
      simp -dsimp [e2]
    have h2 := of_decide_eq_false hb
    refine WP.skip ?_
    simp -dsimp
    repeat (first | refine WP.seq ?_ | refine WP.block ?_ | (refine WP.region Tryd.tab ?_; simp -dsimp) | (refine WP.draw Tryd.tab Tryd.mixed ?_; simp -dsimp) | refine And.intro (by first | rfl | omega | decide | (simp; done) | (simp; omega) | (intro _ h; exact fcs_side h; done) | (intros; simp_all; done)) ?_)
    refine loopW.next (sC f g 1) (Wk.lessE [] (by simp [sC, show IntKind.i64.wrap 1 = 1 from rfl]) (by simp [sC])) 2 (by omega) ⟨1, by omega, ⟨fun _ => by first | exact hp.1 (by omega) | omega, fun _ => by first | exact hp.2.1 (by omega) | omega, fun _ => by omega⟩, rfl⟩
  · simp -dsimp [sC]
    repeat (first | refine WP.seq ?_ | refine WP.block ?_ | (refine WP.region Tryd.tab ?_; simp -dsimp) | (refine WP.draw Tryd.tab Tryd.mixed ?_; simp -dsimp) | refine And.intro (by first | rfl | omega | decide | (simp; done) | (simp; omega) | (intro _ h; exact fcs_side h; done) | (intros; simp_all; done)) ?_)
    refine WP.cond (b := true) (by simp) (fun _ => ?_) (fun h => by cases h)
    refine WP.skip ?_
    simp -dsimp
    refine WP.seq (WP.block ?_)
    repeat (first | refine WP.seq ?_ | refine WP.block ?_ | (refine WP.region Tryd.tab ?_; simp -dsimp) | (refine WP.draw Tryd.tab Tryd.mixed ?_; simp -dsimp) | refine And.intro (by first | rfl | omega | decide | (simp; done) | (simp; omega) | (intro _ h; exact fcs_side h; done) | (intros; simp_all; done)) ?_)
    refine WP.cond (b := decide (f 0 < g 0)) (by simp) (fun hb => ?_) (fun hb => ?_)
    · have hb := of_decide_eq_true hb
      have e : headC f g = -1 := by simp [headC, orL, cmpI, hb, hp.1 (by omega)]
      have e2 : refCmp f g = -1 := by rw [refCmp, e]; rfl
      repeat (first | refine WP.seq ?_ | refine WP.block ?_ | (refine WP.region Tryd.tab ?_; simp -dsimp) | (refine WP.draw Tryd.tab Tryd.mixed ?_; simp -dsimp) | refine And.intro (by first | rfl | omega | decide | (simp; done) | (simp; omega) | (intro _ h; exact fcs_side h; done) | (intros; simp_all; done)) ?_)
      refine WP.ret (finQ.retE ?_)
      simp -dsimp [e2]
    have h1 := of_decide_eq_false hb
    refine WP.skip ?_
    simp -dsimp
    repeat (first | refine WP.seq ?_ | refine WP.block ?_ | (refine WP.region Tryd.tab ?_; simp -dsimp) | (refine WP.draw Tryd.tab Tryd.mixed ?_; simp -dsimp) | refine And.intro (by first | rfl | omega | decide | (simp; done) | (simp; omega) | (intro _ h; exact fcs_side h; done) | (intros; simp_all; done)) ?_)
    refine WP.cond (b := decide (g 0 < f 0)) (by simp) (fun hb => ?_) (fun hb => ?_)
    · have hb := of_decide_eq_true hb
      have e : headC f g = 1 := by simp [headC, orL, cmpI, hb, h1, hp.1 (by omega)]
      have e2 : refCmp f g = 1 := by rw [refCmp, e]; rfl
      repeat (first | refine WP.seq ?_ | refine WP.block ?_ | (refine WP.region Tryd.tab ?_; simp -dsimp) | (refine WP.draw Tryd.tab Tryd.mixed ?_; simp -dsimp) | refine And.intro (by first | rfl | omega | decide | (simp; done) | (simp; omega) | (intro _ h; exact fcs_side h; done) | (intros; simp_all; done)) ?_)
      refine WP.ret (finQ.retE ?_)
      simp -dsimp [e2]
    have h2 := of_decide_eq_false hb
    refine WP.skip ?_
    simp -dsimp
    repeat (first | refine WP.seq ?_ | refine WP.block ?_ | (refine WP.region Tryd.tab ?_; simp -dsimp) | (refine WP.draw Tryd.tab Tryd.mixed ?_; simp -dsimp) | refine And.intro (by first | rfl | omega | decide | (simp; done) | (simp; omega) | (intro _ h; exact fcs_side h; done) | (intros; simp_all; done)) ?_)
    refine loopW.next (sC f g 2) (Wk.lessE [] (by simp [sC, show IntKind.i64.wrap 2 = 2 from rfl]) (by simp [sC])) 1 (by omega) ⟨2, by omega, ⟨fun _ => by first | exact hp.1 (by omega) | omega, fun _ => by first | exact hp.2.1 (by omega) | omega, fun _ => by omega⟩, rfl⟩
  · simp -dsimp [sC]
    repeat (first | refine WP.seq ?_ | refine WP.block ?_ | (refine WP.region Tryd.tab ?_; simp -dsimp) | (refine WP.draw Tryd.tab Tryd.mixed ?_; simp -dsimp) | refine And.intro (by first | rfl | omega | decide | (simp; done) | (simp; omega) | (intro _ h; exact fcs_side h; done) | (intros; simp_all; done)) ?_)
    refine WP.cond (b := true) (by simp) (fun _ => ?_) (fun h => by cases h)
    refine WP.skip ?_
    simp -dsimp
    refine WP.seq (WP.block ?_)
    repeat (first | refine WP.seq ?_ | refine WP.block ?_ | (refine WP.region Tryd.tab ?_; simp -dsimp) | (refine WP.draw Tryd.tab Tryd.mixed ?_; simp -dsimp) | refine And.intro (by first | rfl | omega | decide | (simp; done) | (simp; omega) | (intro _ h; exact fcs_side h; done) | (intros; simp_all; done)) ?_)
    refine WP.cond (b := decide (f 1 < g 1)) (by simp) (fun hb => ?_) (fun hb => ?_)
    · have hb := of_decide_eq_true hb
      have e : headC f g = -1 := by simp [headC, orL, cmpI, hb, hp.1 (by omega), hp.2.1 (by omega)]
      have e2 : refCmp f g = -1 := by rw [refCmp, e]; rfl
      repeat (first | refine WP.seq ?_ | refine WP.block ?_ | (refine WP.region Tryd.tab ?_; simp -dsimp) | (refine WP.draw Tryd.tab Tryd.mixed ?_; simp -dsimp) | refine And.intro (by first | rfl | omega | decide | (simp; done) | (simp; omega) | (intro _ h; exact fcs_side h; done) | (intros; simp_all; done)) ?_)
      refine WP.ret (finQ.retE ?_)
      simp -dsimp [e2]
    have h1 := of_decide_eq_false hb
    refine WP.skip ?_
    simp -dsimp
    repeat (first | refine WP.seq ?_ | refine WP.block ?_ | (refine WP.region Tryd.tab ?_; simp -dsimp) | (refine WP.draw Tryd.tab Tryd.mixed ?_; simp -dsimp) | refine And.intro (by first | rfl | omega | decide | (simp; done) | (simp; omega) | (intro _ h; exact fcs_side h; done) | (intros; simp_all; done)) ?_)
    refine WP.cond (b := decide (g 1 < f 1)) (by simp) (fun hb => ?_) (fun hb => ?_)
    · have hb := of_decide_eq_true hb
      have e : headC f g = 1 := by simp [headC, orL, cmpI, hb, h1, hp.1 (by omega), hp.2.1 (by omega)]
      have e2 : refCmp f g = 1 := by rw [refCmp, e]; rfl
      repeat (first | refine WP.seq ?_ | refine WP.block ?_ | (refine WP.region Tryd.tab ?_; simp -dsimp) | (refine WP.draw Tryd.tab Tryd.mixed ?_; simp -dsimp) | refine And.intro (by first | rfl | omega | decide | (simp; done) | (simp; omega) | (intro _ h; exact fcs_side h; done) | (intros; simp_all; done)) ?_)
      refine WP.ret (finQ.retE ?_)
      simp -dsimp [e2]
    have h2 := of_decide_eq_false hb
    refine WP.skip ?_
    simp -dsimp
    repeat (first | refine WP.seq ?_ | refine WP.block ?_ | (refine WP.region Tryd.tab ?_; simp -dsimp) | (refine WP.draw Tryd.tab Tryd.mixed ?_; simp -dsimp) | refine And.intro (by first | rfl | omega | decide | (simp; done) | (simp; omega) | (intro _ h; exact fcs_side h; done) | (intros; simp_all; done)) ?_)
    refine loopW.next (sC f g 3) (Wk.lessE [] (by simp [sC, show IntKind.i64.wrap 3 = 3 from rfl]) (by simp [sC])) 0 (by omega) ⟨3, by omega, ⟨fun _ => by first | exact hp.1 (by omega) | omega, fun _ => by first | exact hp.2.1 (by omega) | omega, fun _ => by omega⟩, rfl⟩
  · have hz : headC f g = 0 := by simp [headC, orL, cmpI, hp.1 (by omega), hp.2.1 (by omega), hp.2.2 (by omega)]
    have er : refCmp f g = Lib.compareBytes (refR f).1 (refR g).1 := if_pos hz
    simp -dsimp [sC]
    repeat (first | refine WP.seq ?_ | refine WP.block ?_ | (refine WP.region Tryd.tab ?_; simp -dsimp) | (refine WP.draw Tryd.tab Tryd.mixed ?_; simp -dsimp) | refine And.intro (by first | rfl | omega | decide | (simp; done) | (simp; omega) | (intro _ h; exact fcs_side h; done) | (intros; simp_all; done)) ?_)
    refine WP.cond (b := false) (by simp) (fun h => by cases h) (fun _ => ?_)
    refine WP.exit ?_
    simp -dsimp
    repeat (first | refine WP.seq ?_ | refine WP.block ?_ | (refine WP.region Tryd.tab ?_; simp -dsimp) | (refine WP.draw Tryd.tab Tryd.mixed ?_; simp -dsimp) | refine And.intro (by first | rfl | omega | decide | (simp; done) | (simp; omega) | (intro _ h; exact fcs_side h; done) | (intros; simp_all; done)) ?_)
    refine vcStop.call0 Tryd.body18 ef rfl rfl (by simp [fD]) ?_
    simp -dsimp
    repeat (first | refine WP.seq ?_ | refine WP.block ?_ | (refine WP.region Tryd.tab ?_; simp -dsimp) | (refine WP.draw Tryd.tab Tryd.mixed ?_; simp -dsimp) | refine And.intro (by first | rfl | omega | decide | (simp; done) | (simp; omega) | (intro _ h; exact fcs_side h; done) | (intros; simp_all; done)) ?_)
    refine vcStop.call0 Tryd.body18 eg rfl rfl (by simp [fD]) ?_
    simp -dsimp
    rw [er]
    generalize (refR f).1 = a
    generalize (refR g).1 = b
    have v := cb_val a b
    have q := cb_eq a b
    have l := cb_less a b
    repeat (first | refine WP.seq ?_ | refine WP.block ?_ | (refine WP.region Tryd.tab ?_; simp -dsimp [l]) | (refine WP.draw Tryd.tab Tryd.mixed ?_; simp -dsimp [l]) | refine And.intro (by first | rfl | omega | decide | (simp; done) | (simp; omega) | (intro _ h; exact fcs_side h; done) | (intros; simp_all; done)) ?_)
    refine WP.cond (b := decide (Lib.compareBytes a b = -1)) (by simp [l]) (fun hb => ?_) (fun hb => ?_)
    · have hb := of_decide_eq_true hb
      repeat (first | refine WP.seq ?_ | refine WP.block ?_ | (refine WP.region Tryd.tab ?_; simp -dsimp) | (refine WP.draw Tryd.tab Tryd.mixed ?_; simp -dsimp) | refine And.intro (by first | rfl | omega | decide | (simp; done) | (simp; omega) | (intro _ h; exact fcs_side h; done) | (intros; simp_all; done)) ?_)
      refine WP.ret (finQ.retE ?_)
      simp -dsimp [hb]
    have h1 := of_decide_eq_false hb
    refine WP.skip ?_
    simp -dsimp
    repeat (first | refine WP.seq ?_ | refine WP.block ?_ | (refine WP.region Tryd.tab ?_; simp -dsimp [l]) | (refine WP.draw Tryd.tab Tryd.mixed ?_; simp -dsimp [l]) | refine And.intro (by first | rfl | omega | decide | (simp; done) | (simp; omega) | (intro _ h; exact fcs_side h; done) | (intros; simp_all; done)) ?_)
    refine WP.cond (b := decide (Lib.compareBytes a b = 1)) (by
      by_cases e : a = b
      · have := q.2 e
        subst e
        simp [l, this]
      · have h0 : Lib.compareBytes a b ≠ 0 := fun h => e (q.1 h)
        have : Lib.compareBytes a b = 1 := by omega
        simp [l, e, this]) (fun hb => ?_) (fun hb => ?_)
    · have hb := of_decide_eq_true hb
      repeat (first | refine WP.seq ?_ | refine WP.block ?_ | (refine WP.region Tryd.tab ?_; simp -dsimp) | (refine WP.draw Tryd.tab Tryd.mixed ?_; simp -dsimp) | refine And.intro (by first | rfl | omega | decide | (simp; done) | (simp; omega) | (intro _ h; exact fcs_side h; done) | (intros; simp_all; done)) ?_)
      refine WP.ret (finQ.retE ?_)
      simp -dsimp [hb]
    have h2 := of_decide_eq_false hb
    have h3 : Lib.compareBytes a b = 0 := by omega
    refine WP.skip ?_
    simp -dsimp
    repeat (first | refine WP.seq ?_ | refine WP.block ?_ | (refine WP.region Tryd.tab ?_; simp -dsimp) | (refine WP.draw Tryd.tab Tryd.mixed ?_; simp -dsimp) | refine And.intro (by first | rfl | omega | decide | (simp; done) | (simp; omega) | (intro _ h; exact fcs_side h; done) | (intros; simp_all; done)) ?_)
    refine WP.ret (finQ.retE ?_)
    simp -dsimp [h3]
end Go.Proofs.YtjfkeicmdaanbaaDoor
