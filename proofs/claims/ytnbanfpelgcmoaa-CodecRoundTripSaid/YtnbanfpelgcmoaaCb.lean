import Derived.Test.YtnbanfpelgcmoaaVal
set_option linter.unusedSimpArgs false
set_option linter.unusedVariables false
namespace Go.Proofs.Ytnbanfpelgcmoaa
open Go.Xe Go.RowKit

set_option maxRecDepth 10000 in
set_option maxHeartbeats 4000000 in
theorem f28_N : ∀ (N : Nat) (v : V), v.sz ≤ N → v.dep ≤ 1000000 → Fn0 Try.prog 28 [v.d] (.tup [.v (.int .i64 (if v.ok = true then (v.dep : Int) else 0)), .v (.bool v.ok)]) := by
  intro N
  induction N with
  | zero => rintro ⟨k, n, s, l⟩ hN; rw [V.sz] at hN; omega
  | succ N ih =>
    rintro ⟨k, n, s, l⟩ hN hd
    refine Fun.of_wp (pn := noPn) Try.tab Try.func28 rfl fun β0 => ?_
    simp only [Try.f28]
    rw [V.d, V.cells]
    rcases (by omega : k < 1 ∨ 3 < k ∨ k = 1 ∨ k = 2 ∨ k = 3) with hk | hk | rfl | rfl | rfl
    · have hk0 : k.toNat = 0 := by omega
      have hk1 : ¬ k = 1 := by omega
      have hk2 : ¬ k = 2 := by omega
      have hk3 : ¬ k = 3 := by omega
      repeat (first | refine WP.seq ?_ | refine WP.block ?_ | (refine WP.region Try.tab ?_; simp -dsimp [hk, hk0]) | (refine WP.draw Try.tab Try.mixed ?_; simp -dsimp [hk, hk0]) | refine And.intro (by first | rfl | omega | decide | (simp; done) | (simp; omega) | (intros; simp_all; done)) ?_)
      refine WP.cond (b := true) (by simp) (fun _ => ?_) (fun h => by cases h)
      repeat (first | refine WP.seq ?_ | refine WP.block ?_ | (refine WP.region Try.tab ?_; simp -dsimp) | (refine WP.draw Try.tab Try.mixed ?_; simp -dsimp) | refine And.intro (by first | rfl | omega | decide | (simp; done) | (simp; omega) | (intros; simp_all; done)) ?_)
      refine WP.ret (finQ.ret ?_)
      simp -dsimp [V.ok, V.dep, hk1, hk2, hk3]
    · obtain ⟨j, rfl⟩ : ∃ j : Nat, k = ((j + 4 : Nat) : Int) := ⟨(k - 4).toNat, by omega⟩
      have hk1 : ¬ ((j : Int) + 4 < 1) := by omega
      have hk2 : ((j : Int) + 4).toNat = j + 4 := by omega
      have hk3 : (3 : Int) < (j : Int) + 4 := by omega
      have hk4 : ¬ (j : Int) + 4 = 1 := by omega
      have hk5 : ¬ (j : Int) + 4 = 2 := by omega
      have hk6 : ¬ (j : Int) + 4 = 3 := by omega
      repeat (first | refine WP.seq ?_ | refine WP.block ?_ | (refine WP.region Try.tab ?_; simp -dsimp [hk1, hk2, hk3]) | (refine WP.draw Try.tab Try.mixed ?_; simp -dsimp [hk1, hk2, hk3]) | refine And.intro (by first | rfl | omega | decide | (simp; done) | (simp; omega) | (intros; simp_all; done)) ?_)
      refine vcStopG.skip (.d (.v (.bool false))) ?_
      simp -dsimp
      refine WP.cond (b := true) (by simp) (fun _ => ?_) (fun h => by cases h)
      repeat (first | refine WP.seq ?_ | refine WP.block ?_ | (refine WP.region Try.tab ?_; simp -dsimp) | (refine WP.draw Try.tab Try.mixed ?_; simp -dsimp) | refine And.intro (by first | rfl | omega | decide | (simp; done) | (simp; omega) | (intros; simp_all; done)) ?_)
      refine WP.ret (finQ.ret ?_)
      simp -dsimp [V.ok, V.dep, hk4, hk5, hk6]
    · repeat (first | refine WP.seq ?_ | refine WP.block ?_ | (refine WP.region Try.tab ?_; simp -dsimp) | (refine WP.draw Try.tab Try.mixed ?_; simp -dsimp) | refine And.intro (by first | rfl | omega | decide | (simp; done) | (simp; omega) | (intros; simp_all; done)) ?_)
      refine WP.cond (b := !(V.ok (.mk 1 n s l))) (by simp [V.ok]) (fun hb => ?_) (fun hb => ?_)
      · simp at hb
        repeat (first | refine WP.seq ?_ | refine WP.block ?_ | (refine WP.region Try.tab ?_; simp -dsimp) | (refine WP.draw Try.tab Try.mixed ?_; simp -dsimp) | refine And.intro (by first | rfl | omega | decide | (simp; done) | (simp; omega) | (intros; simp_all; done)) ?_)
        refine WP.ret (finQ.ret ?_)
        simp -dsimp [hb]
      · simp at hb
        refine WP.skip ?_
        simp -dsimp
        repeat (first | refine WP.seq ?_ | refine WP.block ?_ | (refine WP.region Try.tab ?_; simp -dsimp) | (refine WP.draw Try.tab Try.mixed ?_; simp -dsimp) | refine And.intro (by first | rfl | omega | decide | (simp; done) | (simp; omega) | (intros; simp_all; done)) ?_)
        refine WP.cond (b := true) (by simp) (fun _ => ?_) (fun h => by cases h)
        repeat (first | refine WP.seq ?_ | refine WP.block ?_ | (refine WP.region Try.tab ?_; simp -dsimp) | (refine WP.draw Try.tab Try.mixed ?_; simp -dsimp) | refine And.intro (by first | rfl | omega | decide | (simp; done) | (simp; omega) | (intros; simp_all; done)) ?_)
        refine WP.ret (finQ.ret ?_)
        simp -dsimp [hb, V.dep]
    · repeat (first | refine WP.seq ?_ | refine WP.block ?_ | (refine WP.region Try.tab ?_; simp -dsimp) | (refine WP.draw Try.tab Try.mixed ?_; simp -dsimp) | refine And.intro (by first | rfl | omega | decide | (simp; done) | (simp; omega) | (intros; simp_all; done)) ?_)
      refine WP.cond (b := !(V.ok (.mk 2 n s l))) (by simp [V.ok]) (fun hb => ?_) (fun hb => ?_)
      · simp at hb
        repeat (first | refine WP.seq ?_ | refine WP.block ?_ | (refine WP.region Try.tab ?_; simp -dsimp) | (refine WP.draw Try.tab Try.mixed ?_; simp -dsimp) | refine And.intro (by first | rfl | omega | decide | (simp; done) | (simp; omega) | (intros; simp_all; done)) ?_)
        refine WP.ret (finQ.ret ?_)
        simp -dsimp [hb]
      · simp at hb
        refine WP.skip ?_
        simp -dsimp
        repeat (first | refine WP.seq ?_ | refine WP.block ?_ | (refine WP.region Try.tab ?_; simp -dsimp) | (refine WP.draw Try.tab Try.mixed ?_; simp -dsimp) | refine And.intro (by first | rfl | omega | decide | (simp; done) | (simp; omega) | (intros; simp_all; done)) ?_)
        refine WP.cond (b := true) (by simp) (fun _ => ?_) (fun h => by cases h)
        repeat (first | refine WP.seq ?_ | refine WP.block ?_ | (refine WP.region Try.tab ?_; simp -dsimp) | (refine WP.draw Try.tab Try.mixed ?_; simp -dsimp) | refine And.intro (by first | rfl | omega | decide | (simp; done) | (simp; omega) | (intros; simp_all; done)) ?_)
        refine WP.ret (finQ.ret ?_)
        simp -dsimp [hb, V.dep]
    · repeat (first | refine WP.seq ?_ | refine WP.block ?_ | (refine WP.region Try.tab ?_; simp -dsimp) | (refine WP.draw Try.tab Try.mixed ?_; simp -dsimp) | refine And.intro (by first | rfl | omega | decide | (simp; done) | (simp; omega) | (intros; simp_all; done)) ?_)
      refine WP.cond (b := !(decide (n = 0) && decide (s = ⟨#[]⟩))) (by simp) (fun hb => ?_) (fun hb => ?_)
      · have hb : V.ok (.mk 3 n s l) = false := by simp at hb; simp [V.ok]; intro h1 h2; rcases hb with h | h; exact absurd h1 h; exact absurd h2 h
        repeat (first | refine WP.seq ?_ | refine WP.block ?_ | (refine WP.region Try.tab ?_; simp -dsimp) | (refine WP.draw Try.tab Try.mixed ?_; simp -dsimp) | refine And.intro (by first | rfl | omega | decide | (simp; done) | (simp; omega) | (intros; simp_all; done)) ?_)
        refine WP.ret (finQ.ret ?_)
        simp -dsimp [hb]
      · simp at hb
        obtain ⟨rfl, rfl⟩ := hb
        refine WP.skip ?_
        simp -dsimp
        repeat (first | refine WP.seq ?_ | refine WP.block ?_ | (refine WP.region Try.tab ?_; simp -dsimp) | (refine WP.draw Try.tab Try.mixed ?_; simp -dsimp) | refine And.intro (by first | rfl | omega | decide | (simp; done) | (simp; omega) | (intros; simp_all; done)) ?_)
        refine WP.cond (b := false) (by simp) (fun h => by cases h) (fun _ => ?_)
        refine WP.skip ?_
        simp -dsimp
        repeat (first | refine WP.seq ?_ | refine WP.block ?_ | (refine WP.region Try.tab ?_; simp -dsimp) | (refine WP.draw Try.tab Try.mixed ?_; simp -dsimp) | refine And.intro (by first | rfl | omega | decide | (simp; done) | (simp; omega) | (intros; simp_all; done)) ?_)
        refine WP.len (.tmp 55) rfl fun hl => ?_
        have hd' : V.depL l + 1 ≤ 1000000 := by simpa [V.dep] using hd
        have hm : maxLen = 9223372036854775807 := rfl
        rw [hm] at hl
        refine WP.loopWk (fun m S => ∃ l1 l2, l = l1 ++ l2 ∧ m = l2.length ∧ V.okL l1 = true ∧ S = mkS 74 [(2, .d (.v (.int .i64 (V.depL l1)))), (55, .d (slV l)), (56, .d (.v (.int .i64 l.length))), (57, .d (.v (.int .i64 l1.length)))] []) l.length
          (S0 := mkS 74 [(2, .d (.v (.int .i64 0))), (55, .d (slV l)), (56, .d (.v (.int .i64 l.length))), (57, .d (.v (.int .i64 0)))] []) (Wk.lessE [1, 4] (by simp [slV]) (by simp)) ⟨[], l, rfl, rfl, rfl, by simp [V.depL]⟩ ?_
        rintro _ _ ⟨l1, l2, rfl, rfl, h1, rfl⟩
        simp only [List.length_append] at hl
        rw [V.depL_append] at hd'
        simp -dsimp [slV]
        repeat (first | refine WP.seq ?_ | refine WP.block ?_ | (refine WP.region Try.tab ?_; simp -dsimp) | (refine WP.draw Try.tab Try.mixed ?_; simp -dsimp) | refine And.intro (by first | rfl | omega | decide | (simp; done) | (simp; omega) | (intros; simp_all; done)) ?_)
        cases l2 with
        | nil =>
          refine WP.cond (b := false) (by simp) (fun h => by cases h) (fun _ => ?_)
          refine WP.exit ?_
          simp -dsimp
          repeat (first | refine WP.seq ?_ | refine WP.block ?_ | (refine WP.region Try.tab ?_; simp -dsimp) | (refine WP.draw Try.tab Try.mixed ?_; simp -dsimp) | refine And.intro (by first | rfl | omega | decide | (simp; done) | (simp; omega) | (intros; simp_all; done)) ?_)
          simp [V.depL] at hd'
          have e1 : IntKind.i64.wrap ((V.depL l1 : Int) + 1) = (V.depL l1 : Int) + 1 := IntWalk.i64_in _ (by omega)
          refine WP.ret (finQ.ret ?_)
          simp -dsimp [V.ok, V.dep, h1, e1]
        | cons v l2 =>
          refine WP.cond (b := true) (by simp; omega) (fun _ => ?_) (fun h => by cases h)
          refine WP.skip ?_
          simp -dsimp
          refine WP.seq (WP.block ?_)
          have hv := V.cells_at l1 v l2
          obtain ⟨k, n, s, lv⟩ := v
          rw [V.cells] at hv
          repeat (first | refine WP.seq ?_ | refine WP.block ?_ | (refine WP.region Try.tab ?_; simp -dsimp [hv]) | (refine WP.draw Try.tab Try.mixed ?_; simp -dsimp [hv]) | refine And.intro (by first | rfl | omega | decide | (simp; done) | (simp; omega) | (intros; simp_all; done)) ?_)
          have hdv : (V.mk k n s lv).dep ≤ 1000000 := by simp only [V.depL] at hd'; omega
          refine vcStop.call0 Try.body28 (ih (.mk k n s lv) (V.sz_lt hN) hdv) rfl rfl (by simp [V.d, V.cells]) ?_
          simp -dsimp
          repeat (first | refine WP.seq ?_ | refine WP.block ?_ | (refine WP.region Try.tab ?_; simp -dsimp) | (refine WP.draw Try.tab Try.mixed ?_; simp -dsimp) | refine And.intro (by first | rfl | omega | decide | (simp; done) | (simp; omega) | (intros; simp_all; done)) ?_)
          refine WP.cond (b := !(V.ok (.mk k n s lv))) (by simp) (fun hb => ?_) (fun hb => ?_)
          · have hb : V.ok (.mk 3 0 ⟨#[]⟩ (l1 ++ .mk k n s lv :: l2)) = false := by
              simp only [Bool.not_eq_true'] at hb
              rw [V.ok, V.okL_append, V.okL, hb]; simp
            repeat (first | refine WP.seq ?_ | refine WP.block ?_ | (refine WP.region Try.tab ?_; simp -dsimp) | (refine WP.draw Try.tab Try.mixed ?_; simp -dsimp) | refine And.intro (by first | rfl | omega | decide | (simp; done) | (simp; omega) | (intros; simp_all; done)) ?_)
            refine WP.ret (finQ.ret ?_)
            simp -dsimp [hb]
          · simp only [Bool.not_eq_false'] at hb
            refine WP.skip ?_
            simp -dsimp
            repeat (first | refine WP.seq ?_ | refine WP.block ?_ | (refine WP.region Try.tab ?_; simp -dsimp) | (refine WP.draw Try.tab Try.mixed ?_; simp -dsimp) | refine And.intro (by first | rfl | omega | decide | (simp; done) | (simp; omega) | (intros; simp_all; done)) ?_)
            have e1 : IntKind.i64.wrap ((l1.length : Int) + 1) = (l1.length : Int) + 1 := IntWalk.i64_in _ (by simp at hl; omega)
            refine loopW.next (mkS 74 [(2, .d (.v (.int .i64 (V.depL (l1 ++ [.mk k n s lv]))))), (55, .d (slV (l1 ++ .mk k n s lv :: l2))), (56, .d (.v (.int .i64 ((l1 ++ V.mk k n s lv :: l2).length : Nat)))), (57, .d (.v (.int .i64 ((l1 ++ [V.mk k n s lv]).length : Nat))))] [])
              (Wk.lessE [6] (by simp [slV, e1, hb, V.depL_append, V.depL, emax]) (by simp)) l2.length (by simp) ⟨l1 ++ [.mk k n s lv], l2, by simp, rfl, by simp [V.okL_append, V.okL, h1, hb], rfl⟩
theorem f28_ok (v : V) (h : v.dep ≤ 1000000) : Fn0 Try.prog 28 [v.d] (.tup [.v (.int .i64 (if v.ok = true then (v.dep : Int) else 0)), .v (.bool v.ok)]) := f28_N v.sz v (Nat.le_refl _) h
end Go.Proofs.Ytnbanfpelgcmoaa
