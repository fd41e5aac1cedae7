import Derived.Test.YtnbanfpelgcmoaaCb
set_option linter.unusedSimpArgs false
set_option linter.unusedVariables false
namespace Go.Proofs.Ytnbanfpelgcmoaa
open Go.Xe Go.RowKit

/-- What Check says. -/
def V.chk (v : V) : Int := if v.ok = true then (if 16 < v.dep then 2 else 0) else 1

set_option maxRecDepth 10000 in
theorem f16_ok (v : V) (h : v.dep ≤ 1000000) : Fn0 Try.prog 16 [v.d] (.v (.int .i64 v.chk)) := by
  refine Fun.of_wp (pn := noPn) Try.tab Try.func16 rfl fun β0 => ?_
  simp only [Try.f16]
  obtain ⟨k, n, s, l⟩ := v
  rw [V.d, V.cells]
  repeat (first | refine WP.seq ?_ | refine WP.block ?_ | (refine WP.region Try.tab ?_; simp -dsimp) | (refine WP.draw Try.tab Try.mixed ?_; simp -dsimp) | refine And.intro (by first | rfl | omega | decide | (simp; done) | (simp; omega) | (intros; simp_all; done)) ?_)
  refine vcStop.call0 Try.body28 (f28_ok (.mk k n s l) h) rfl rfl (by simp [V.d, V.cells]) ?_
  simp -dsimp
  repeat (first | refine WP.seq ?_ | refine WP.block ?_ | (refine WP.region Try.tab ?_; simp -dsimp) | (refine WP.draw Try.tab Try.mixed ?_; simp -dsimp) | refine And.intro (by first | rfl | omega | decide | (simp; done) | (simp; omega) | (intros; simp_all; done)) ?_)
  cases hok : V.ok (.mk k n s l) with
  | false =>
    refine WP.cond (b := true) (by simp) (fun _ => ?_) (fun h => by cases h)
    repeat (first | refine WP.seq ?_ | refine WP.block ?_ | (refine WP.region Try.tab ?_; simp -dsimp) | (refine WP.draw Try.tab Try.mixed ?_; simp -dsimp) | refine And.intro (by first | rfl | omega | decide | (simp; done) | (simp; omega) | (intros; simp_all; done)) ?_)
    refine WP.ret (finQ.ret ?_)
    simp -dsimp [V.chk, hok]
  | true =>
    refine WP.cond (b := false) (by simp) (fun h => by cases h) (fun _ => ?_)
    repeat (first | refine WP.seq ?_ | refine WP.block ?_ | (refine WP.region Try.tab ?_; simp -dsimp) | (refine WP.draw Try.tab Try.mixed ?_; simp -dsimp) | refine And.intro (by first | rfl | omega | decide | (simp; done) | (simp; omega) | (intros; simp_all; done)) ?_)
    refine WP.cond (b := decide (16 < V.dep (.mk k n s l))) (by simp; omega) (fun hb => ?_) (fun hb => ?_)
    · have hb := of_decide_eq_true hb
      repeat (first | refine WP.seq ?_ | refine WP.block ?_ | (refine WP.region Try.tab ?_; simp -dsimp) | (refine WP.draw Try.tab Try.mixed ?_; simp -dsimp) | refine And.intro (by first | rfl | omega | decide | (simp; done) | (simp; omega) | (intros; simp_all; done)) ?_)
      refine WP.ret (finQ.ret ?_)
      simp -dsimp [V.chk, hok, hb]
    · have hb := of_decide_eq_false hb
      refine WP.skip ?_
      simp -dsimp
      repeat (first | refine WP.seq ?_ | refine WP.block ?_ | (refine WP.region Try.tab ?_; simp -dsimp) | (refine WP.draw Try.tab Try.mixed ?_; simp -dsimp) | refine And.intro (by first | rfl | omega | decide | (simp; done) | (simp; omega) | (intros; simp_all; done)) ?_)
      refine WP.ret (finQ.ret ?_)
      simp -dsimp [V.chk, hok, hb]

@[simp] def bV (k n : Int) (s : ByteArray) (l : List V) : Box := .cells 24 [.d (.v (.int .i64 k)), .d (.v (.int .i64 n)), .d (.v (.string s)), .d (slV l)]

set_option maxRecDepth 10000 in
set_option maxHeartbeats 4000000 in
theorem f29_N : ∀ (N : Nat) (v : V), v.sz ≤ N → Fn0 Try.prog 29 [v.d] (.v (.bool v.ok)) := by
  intro N
  induction N with
  | zero => rintro ⟨k, n, s, l⟩ hN; rw [V.sz] at hN; omega
  | succ N ih =>
    rintro ⟨k, n, s, l⟩ hN
    refine Fun.of_wp (pn := noPn) Try.tab Try.func29 rfl fun β0 => ?_
    simp only [Try.f29]
    rw [V.d, V.cells]
    repeat (first | refine WP.seq ?_ | refine WP.block ?_ | (refine WP.region Try.tab ?_; simp -dsimp) | (refine WP.draw Try.tab Try.mixed ?_; simp -dsimp) | refine And.intro (by first | rfl | omega | decide | (simp; done) | (simp; omega) | (intros; simp_all; done)) ?_)
    refine WP.cond (b := decide (k = 1)) (by simp) (fun hb => ?_) (fun hb => ?_)
    · have hb := of_decide_eq_true hb
      subst hb
      repeat (first | refine WP.seq ?_ | refine WP.block ?_ | (refine WP.region Try.tab ?_; simp -dsimp) | (refine WP.draw Try.tab Try.mixed ?_; simp -dsimp) | refine And.intro (by first | rfl | omega | decide | (simp; done) | (simp; omega) | (intros; simp_all; done)) ?_)
      refine WP.ret (finQ.ret ?_)
      simp -dsimp [V.ok]
    have hk1 : ¬ k = 1 := of_decide_eq_false hb
    repeat (first | refine WP.seq ?_ | refine WP.block ?_ | (refine WP.region Try.tab ?_; simp -dsimp) | (refine WP.draw Try.tab Try.mixed ?_; simp -dsimp) | refine And.intro (by first | rfl | omega | decide | (simp; done) | (simp; omega) | (intros; simp_all; done)) ?_)
    refine WP.cond (b := decide (k = 2)) (by simp) (fun hb => ?_) (fun hb => ?_)
    · have hb := of_decide_eq_true hb
      subst hb
      repeat (first | refine WP.seq ?_ | refine WP.block ?_ | (refine WP.region Try.tab ?_; simp -dsimp) | (refine WP.draw Try.tab Try.mixed ?_; simp -dsimp) | refine And.intro (by first | rfl | omega | decide | (simp; done) | (simp; omega) | (intros; simp_all; done)) ?_)
      refine WP.ret (finQ.ret ?_)
      simp -dsimp [V.ok]
    have hk2 : ¬ k = 2 := of_decide_eq_false hb
    repeat (first | refine WP.seq ?_ | refine WP.block ?_ | (refine WP.region Try.tab ?_; simp -dsimp) | (refine WP.draw Try.tab Try.mixed ?_; simp -dsimp) | refine And.intro (by first | rfl | omega | decide | (simp; done) | (simp; omega) | (intros; simp_all; done)) ?_)
    refine WP.cond (b := decide (k = 3)) (by simp) (fun hb => ?_) (fun hb => ?_)
    · have hb := of_decide_eq_true hb
      subst hb
      repeat (first | refine WP.seq ?_ | refine WP.block ?_ | (refine WP.region Try.tab ?_; simp -dsimp) | (refine WP.draw Try.tab Try.mixed ?_; simp -dsimp) | refine And.intro (by first | rfl | omega | decide | (simp; done) | (simp; omega) | (intros; simp_all; done)) ?_)
      refine WP.loopWk (fun m S => ∃ l1 l2, l = l1 ++ l2 ∧ m = l2.length ∧ V.okL l1 = true ∧ S = mkS 52 [(1, .ptr 1 0), (3, .d (.v (.int .i64 l1.length)))] [(1, bV 3 n s l)]) l.length
        (S0 := mkS 52 [(1, .ptr 1 0), (3, .d (.v (.int .i64 0)))] [(1, bV 3 n s l)]) (Wk.lessE [] (by simp) (by simp [bV, slV])) ⟨[], l, rfl, rfl, rfl, by simp⟩ ?_
      rintro _ _ ⟨l1, l2, rfl, rfl, h1, rfl⟩
      simp -dsimp [bV, slV]
      repeat (first | refine WP.seq ?_ | refine WP.block ?_ | (refine WP.region Try.tab ?_; simp -dsimp) | (refine WP.draw Try.tab Try.mixed ?_; simp -dsimp) | refine And.intro (by first | rfl | omega | decide | (simp; done) | (simp; omega) | (intros; simp_all; done)) ?_)
      refine WP.len (.tmp 32) rfl fun hl => ?_
      have hm : maxLen = 9223372036854775807 := rfl
      rw [hm] at hl
      cases l2 with
      | nil =>
        refine WP.cond (b := false) (by simp) (fun h => by cases h) (fun _ => ?_)
        refine WP.exit ?_
        simp -dsimp
        repeat (first | refine WP.seq ?_ | refine WP.block ?_ | (refine WP.region Try.tab ?_; simp -dsimp) | (refine WP.draw Try.tab Try.mixed ?_; simp -dsimp) | refine And.intro (by first | rfl | omega | decide | (simp; done) | (simp; omega) | (intros; simp_all; done)) ?_)
        refine WP.ret (finQ.ret ?_)
        simp -dsimp [V.ok, h1]
      | cons v l2 =>
        refine WP.cond (b := true) (by simp; omega) (fun _ => ?_) (fun h => by cases h)
        refine WP.skip ?_
        simp -dsimp
        refine WP.seq (WP.block ?_)
        have hv := V.cells_at l1 v l2
        obtain ⟨k, n, s, lv⟩ := v
        rw [V.cells] at hv
        repeat (first | refine WP.seq ?_ | refine WP.block ?_ | (refine WP.region Try.tab ?_; simp -dsimp [hv]) | (refine WP.draw Try.tab Try.mixed ?_; simp -dsimp [hv]) | refine And.intro (by first | rfl | omega | decide | (simp; done) | (simp; omega) | (intros; simp_all; done)) ?_)
        refine vcStop.call0 Try.body29 (ih (.mk k n s lv) (V.sz_lt hN)) rfl rfl (by simp [V.d, V.cells]) ?_
        simp -dsimp
        repeat (first | refine WP.seq ?_ | refine WP.block ?_ | (refine WP.region Try.tab ?_; simp -dsimp) | (refine WP.draw Try.tab Try.mixed ?_; simp -dsimp) | refine And.intro (by first | rfl | omega | decide | (simp; done) | (simp; omega) | (intros; simp_all; done)) ?_)
        refine WP.cond (b := !(V.ok (.mk k n s lv))) (by simp) (fun hb => ?_) (fun hb => ?_)
        · simp only [Bool.not_eq_true'] at hb
          repeat (first | refine WP.seq ?_ | refine WP.block ?_ | (refine WP.region Try.tab ?_; simp -dsimp) | (refine WP.draw Try.tab Try.mixed ?_; simp -dsimp) | refine And.intro (by first | rfl | omega | decide | (simp; done) | (simp; omega) | (intros; simp_all; done)) ?_)
          refine WP.ret (finQ.ret ?_)
          simp -dsimp
          rw [V.ok, V.okL_append, V.okL, hb]
          simp
        · simp only [Bool.not_eq_false'] at hb
          refine WP.skip ?_
          simp -dsimp
          repeat (first | refine WP.seq ?_ | refine WP.block ?_ | (refine WP.region Try.tab ?_; simp -dsimp) | (refine WP.draw Try.tab Try.mixed ?_; simp -dsimp) | refine And.intro (by first | rfl | omega | decide | (simp; done) | (simp; omega) | (intros; simp_all; done)) ?_)
          have e1 : IntKind.i64.wrap ((l1.length : Int) + 1) = (l1.length : Int) + 1 := IntWalk.i64_in _ (by simp at hl; omega)
          refine loopW.next (mkS 52 [(1, .ptr 1 0), (3, .d (.v (.int .i64 (l1 ++ [V.mk k n s lv]).length)))] [(1, bV 3 _ _ (l1 ++ .mk k n s lv :: l2))])
            (Wk.lessE [] (by simp [e1]) (by simp [bV, slV])) l2.length (by simp) ⟨l1 ++ [.mk k n s lv], l2, by simp, rfl, by simp [V.okL_append, V.okL, h1, hb], rfl⟩
    · have hk3 : ¬ k = 3 := of_decide_eq_false hb
      refine WP.skip ?_
      simp -dsimp
      repeat (first | refine WP.seq ?_ | refine WP.block ?_ | (refine WP.region Try.tab ?_; simp -dsimp) | (refine WP.draw Try.tab Try.mixed ?_; simp -dsimp) | refine And.intro (by first | rfl | omega | decide | (simp; done) | (simp; omega) | (intros; simp_all; done)) ?_)
      refine WP.ret (finQ.ret ?_)
      simp -dsimp [V.ok, hk1, hk2, hk3]

theorem f29_ok (v : V) : Fn0 Try.prog 29 [v.d] (.v (.bool v.ok)) := f29_N v.sz v (Nat.le_refl _)

set_option maxRecDepth 10000 in
set_option maxHeartbeats 4000000 in
theorem f30_N : ∀ (N : Nat) (v : V), v.sz ≤ N → v.dep ≤ 1000000 → Fn0 Try.prog 30 [v.d] (.v (.int .i64 v.dep)) := by
  intro N
  induction N with
  | zero => rintro ⟨k, n, s, l⟩ hN; rw [V.sz] at hN; omega
  | succ N ih =>
    rintro ⟨k, n, s, l⟩ hN hd
    refine Fun.of_wp (pn := noPn) Try.tab Try.func30 rfl fun β0 => ?_
    simp only [Try.f30]
    rw [V.d, V.cells]
    repeat (first | refine WP.seq ?_ | refine WP.block ?_ | (refine WP.region Try.tab ?_; simp -dsimp) | (refine WP.draw Try.tab Try.mixed ?_; simp -dsimp) | refine And.intro (by first | rfl | omega | decide | (simp; done) | (simp; omega) | (intros; simp_all; done)) ?_)
    refine WP.cond (b := !decide (k = 3)) (by simp) (fun hb => ?_) (fun hb => ?_)
    · have hb : ¬ k = 3 := by simpa using hb
      repeat (first | refine WP.seq ?_ | refine WP.block ?_ | (refine WP.region Try.tab ?_; simp -dsimp) | (refine WP.draw Try.tab Try.mixed ?_; simp -dsimp) | refine And.intro (by first | rfl | omega | decide | (simp; done) | (simp; omega) | (intros; simp_all; done)) ?_)
      refine WP.ret (finQ.ret ?_)
      simp -dsimp [V.dep, hb]
    have hb : k = 3 := by simpa using hb
    subst hb
    refine WP.skip ?_
    simp -dsimp
    repeat (first | refine WP.seq ?_ | refine WP.block ?_ | (refine WP.region Try.tab ?_; simp -dsimp) | (refine WP.draw Try.tab Try.mixed ?_; simp -dsimp) | refine And.intro (by first | rfl | omega | decide | (simp; done) | (simp; omega) | (intros; simp_all; done)) ?_)
    have hd' : V.depL l + 1 ≤ 1000000 := by simpa [V.dep] using hd
    refine WP.loopWk (fun m S => ∃ l1 l2, l = l1 ++ l2 ∧ m = l2.length ∧ S = mkS 25 [(1, .ptr 1 0), (3, .d (.v (.int .i64 (V.depL l1)))), (4, .d (.v (.int .i64 l1.length)))] [(1, bV 3 n s l)]) l.length
      (S0 := mkS 25 [(1, .ptr 1 0), (3, .d (.v (.int .i64 0))), (4, .d (.v (.int .i64 0)))] [(1, bV 3 n s l)]) (Wk.lessE [] (by simp) (by simp [bV, slV])) ⟨[], l, rfl, rfl, by simp [V.depL]⟩ ?_
    rintro _ _ ⟨l1, l2, rfl, rfl, rfl⟩
    simp -dsimp [bV, slV]
    repeat (first | refine WP.seq ?_ | refine WP.block ?_ | (refine WP.region Try.tab ?_; simp -dsimp) | (refine WP.draw Try.tab Try.mixed ?_; simp -dsimp) | refine And.intro (by first | rfl | omega | decide | (simp; done) | (simp; omega) | (intros; simp_all; done)) ?_)
    refine WP.len (.tmp 10) rfl fun hl => ?_
    have hm : maxLen = 9223372036854775807 := rfl
    rw [hm] at hl
    rw [V.depL_append] at hd'
    cases l2 with
    | nil =>
      refine WP.cond (b := false) (by simp) (fun h => by cases h) (fun _ => ?_)
      refine WP.exit ?_
      simp -dsimp
      repeat (first | refine WP.seq ?_ | refine WP.block ?_ | (refine WP.region Try.tab ?_; simp -dsimp) | (refine WP.draw Try.tab Try.mixed ?_; simp -dsimp) | refine And.intro (by first | rfl | omega | decide | (simp; done) | (simp; omega) | (intros; simp_all; done)) ?_)
      simp [V.depL] at hd'
      have e1 : IntKind.i64.wrap ((V.depL l1 : Int) + 1) = (V.depL l1 : Int) + 1 := IntWalk.i64_in _ (by omega)
      refine WP.ret (finQ.ret ?_)
      simp -dsimp [V.dep, e1]
    | cons v l2 =>
      refine WP.cond (b := true) (by simp; omega) (fun _ => ?_) (fun h => by cases h)
      refine WP.skip ?_
      simp -dsimp
      refine WP.seq (WP.block ?_)
      have hv := V.cells_at l1 v l2
      obtain ⟨k, n, s, lv⟩ := v
      rw [V.cells] at hv
      repeat (first | refine WP.seq ?_ | refine WP.block ?_ | (refine WP.region Try.tab ?_; simp -dsimp [hv]) | (refine WP.draw Try.tab Try.mixed ?_; simp -dsimp [hv]) | refine And.intro (by first | rfl | omega | decide | (simp; done) | (simp; omega) | (intros; simp_all; done)) ?_)
      have hdv : (V.mk k n s lv).dep ≤ 1000000 := by simp only [V.depL] at hd'; omega
      refine vcStop.call0 Try.body30 (ih (.mk k n s lv) (V.sz_lt hN) hdv) rfl rfl (by simp [V.d, V.cells]) ?_
      simp -dsimp
      repeat (first | refine WP.seq ?_ | refine WP.block ?_ | (refine WP.region Try.tab ?_; simp -dsimp) | (refine WP.draw Try.tab Try.mixed ?_; simp -dsimp) | refine And.intro (by first | rfl | omega | decide | (simp; done) | (simp; omega) | (intros; simp_all; done)) ?_)
      have e1 : IntKind.i64.wrap ((l1.length : Int) + 1) = (l1.length : Int) + 1 := IntWalk.i64_in _ (by simp at hl; omega)
      refine loopW.next (mkS 25 [(1, .ptr 1 0), (3, .d (.v (.int .i64 (V.depL (l1 ++ [V.mk k n s lv]))))), (4, .d (.v (.int .i64 (l1 ++ [V.mk k n s lv]).length)))] [(1, bV 3 _ _ (l1 ++ .mk k n s lv :: l2))])
        (Wk.lessE [] (by simp [e1, V.depL_append, V.depL, emax]) (by simp [bV, slV])) l2.length (by simp) ⟨l1 ++ [.mk k n s lv], l2, by simp, rfl, rfl⟩
theorem f30_ok (v : V) (h : v.dep ≤ 1000000) : Fn0 Try.prog 30 [v.d] (.v (.int .i64 v.dep)) := f30_N v.sz v (Nat.le_refl _) h

set_option maxRecDepth 10000 in
theorem f17_ok (v : V) (h : v.dep ≤ 1000000) : Fn0 Try.prog 17 [v.d] (.v (.int .i64 v.chk)) := by
  refine Fun.of_wp (pn := noPn) Try.tab Try.func17 rfl fun β0 => ?_
  simp only [Try.f17]
  obtain ⟨k, n, s, l⟩ := v
  rw [V.d, V.cells]
  repeat (first | refine WP.seq ?_ | refine WP.block ?_ | (refine WP.region Try.tab ?_; simp -dsimp) | (refine WP.draw Try.tab Try.mixed ?_; simp -dsimp) | refine And.intro (by first | rfl | omega | decide | (simp; done) | (simp; omega) | (intros; simp_all; done)) ?_)
  refine vcStop.call0 Try.body29 (f29_ok (.mk k n s l)) rfl rfl (by simp [V.d, V.cells]) ?_
  simp -dsimp
  repeat (first | refine WP.seq ?_ | refine WP.block ?_ | (refine WP.region Try.tab ?_; simp -dsimp) | (refine WP.draw Try.tab Try.mixed ?_; simp -dsimp) | refine And.intro (by first | rfl | omega | decide | (simp; done) | (simp; omega) | (intros; simp_all; done)) ?_)
  cases hok : V.ok (.mk k n s l) with
  | false =>
    refine WP.cond (b := true) (by simp) (fun _ => ?_) (fun h => by cases h)
    repeat (first | refine WP.seq ?_ | refine WP.block ?_ | (refine WP.region Try.tab ?_; simp -dsimp) | (refine WP.draw Try.tab Try.mixed ?_; simp -dsimp) | refine And.intro (by first | rfl | omega | decide | (simp; done) | (simp; omega) | (intros; simp_all; done)) ?_)
    refine WP.ret (finQ.ret ?_)
    simp -dsimp [V.chk, hok]
  | true =>
    refine WP.cond (b := false) (by simp) (fun h => by cases h) (fun _ => ?_)
    refine WP.skip ?_
    simp -dsimp
    repeat (first | refine WP.seq ?_ | refine WP.block ?_ | (refine WP.region Try.tab ?_; simp -dsimp) | (refine WP.draw Try.tab Try.mixed ?_; simp -dsimp) | refine And.intro (by first | rfl | omega | decide | (simp; done) | (simp; omega) | (intros; simp_all; done)) ?_)
    refine vcStop.call0 Try.body30 (f30_ok (.mk k n s l) h) rfl rfl (by simp [V.d, V.cells]) ?_
    simp -dsimp
    repeat (first | refine WP.seq ?_ | refine WP.block ?_ | (refine WP.region Try.tab ?_; simp -dsimp) | (refine WP.draw Try.tab Try.mixed ?_; simp -dsimp) | refine And.intro (by first | rfl | omega | decide | (simp; done) | (simp; omega) | (intros; simp_all; done)) ?_)
    refine WP.cond (b := decide (16 < V.dep (.mk k n s l))) (by simp; omega) (fun hb => ?_) (fun hb => ?_)
    · have hb := of_decide_eq_true hb
      repeat (first | refine WP.seq ?_ | refine WP.block ?_ | (refine WP.region Try.tab ?_; simp -dsimp) | (refine WP.draw Try.tab Try.mixed ?_; simp -dsimp) | refine And.intro (by first | rfl | omega | decide | (simp; done) | (simp; omega) | (intros; simp_all; done)) ?_)
      refine WP.ret (finQ.ret ?_)
      simp -dsimp [V.chk, hok, hb]
    · have hb := of_decide_eq_false hb
      refine WP.skip ?_
      simp -dsimp
      repeat (first | refine WP.seq ?_ | refine WP.block ?_ | (refine WP.region Try.tab ?_; simp -dsimp) | (refine WP.draw Try.tab Try.mixed ?_; simp -dsimp) | refine And.intro (by first | rfl | omega | decide | (simp; done) | (simp; omega) | (intros; simp_all; done)) ?_)
      refine WP.ret (finQ.ret ?_)
      simp -dsimp [V.chk, hok, hb]
end Go.Proofs.Ytnbanfpelgcmoaa
