import Derived.Test.YtnbanfpelgcmoaaCf
set_option linter.unusedSimpArgs false
set_option linter.unusedVariables false
namespace Go.Proofs.Ytnbanfpelgcmoaa
open Go.Xe Go.RowKit

mutual
def V.same : V → V → Bool
  | .mk k n s l, .mk k' n' s' l' => decide (k = k') && decide (n = n') && decide (s = s') && V.sameL l l'
def V.sameL : List V → List V → Bool
  | [], [] => true
  | v :: l, v' :: l' => V.same v v' && V.sameL l l'
  | _, _ => false
end
theorem V.sameL_append : ∀ (a b a' b' : List V), a.length = a'.length → V.sameL (a ++ b) (a' ++ b') = (V.sameL a a' && V.sameL b b')
  | [], b, [], b', _ => by simp [V.sameL]
  | v :: a, b, v' :: a', b', h => by simp [V.sameL, V.sameL_append a b a' b' (by simpa using h), Bool.and_assoc]
theorem V.sameL_len : ∀ (a b : List V), a.length ≠ b.length → V.sameL a b = false
  | [], [], h => absurd rfl h
  | [], _ :: _, _ => rfl
  | _ :: _, [], _ => rfl
  | v :: a, v' :: a', h => by simp [V.sameL, V.sameL_len a a' (by simpa using h)]

set_option maxRecDepth 10000 in
set_option maxHeartbeats 4000000 in
theorem f35_of (l l' : List V) (hc : ∀ a ∈ l, ∀ b, Fn0 Try.prog 21 [a.d, b.d] (.v (.bool (V.same a b)))) :
    Fn0 Try.prog 35 [slV l, slV l', .v (.func (.func 21) #[] #[])] (.v (.bool (V.sameL l l'))) := by
  refine Fun.of_wp (pn := noPn) Try.tab Try.func35 rfl fun β0 => ?_
  simp only [Try.f35]
  refine WP.len (.tmp 0) rfl fun hl => ?_
  have hm : maxLen = 9223372036854775807 := rfl
  rw [hm] at hl
  repeat (first | refine WP.seq ?_ | refine WP.block ?_ | (refine WP.region Try.tab ?_; simp -dsimp) | (refine WP.draw Try.tab Try.mixed ?_; simp -dsimp) | refine And.intro (by first | rfl | omega | decide | (simp; done) | (simp; omega) | (intros; simp_all; done)) ?_)
  refine WP.cond (b := !decide (l.length = l'.length)) (by simp; omega) (fun hb => ?_) (fun hb => ?_)
  · have hb : ¬ l.length = l'.length := by simpa using hb
    repeat (first | refine WP.seq ?_ | refine WP.block ?_ | (refine WP.region Try.tab ?_; simp -dsimp) | (refine WP.draw Try.tab Try.mixed ?_; simp -dsimp) | refine And.intro (by first | rfl | omega | decide | (simp; done) | (simp; omega) | (intros; simp_all; done)) ?_)
    refine WP.ret (finQ.ret ?_)
    simp -dsimp [V.sameL_len l l' hb]
  have hb : l.length = l'.length := by simpa using hb
  refine WP.skip ?_
  simp -dsimp
  repeat (first | refine WP.seq ?_ | refine WP.block ?_ | (refine WP.region Try.tab ?_; simp -dsimp) | (refine WP.draw Try.tab Try.mixed ?_; simp -dsimp) | refine And.intro (by first | rfl | omega | decide | (simp; done) | (simp; omega) | (intros; simp_all; done)) ?_)
  refine WP.loopWk (fun m S => ∃ l1 l2 l1' l2', l = l1 ++ l2 ∧ l' = l1' ++ l2' ∧ l1.length = l1'.length ∧ m = l2.length ∧ V.sameL l1 l1' = true ∧ S = mkS 32 [(1, .d (slV l')), (2, .d (.v (.func (.func 21) #[] #[]))), (15, .d (slV l)), (16, .d (.v (.int .i64 l.length))), (17, .d (.v (.int .i64 l1.length)))] []) l.length
      (S0 := mkS 32 [(1, .d (slV l')), (2, .d (.v (.func (.func 21) #[] #[]))), (15, .d (slV l)), (16, .d (.v (.int .i64 l.length))), (17, .d (.v (.int .i64 0)))] []) (Wk.lessE [] (by simp) (by simp)) ⟨[], l, [], l', rfl, rfl, rfl, rfl, rfl, by simp⟩ ?_
  rintro _ _ ⟨l1, l2, l1', l2', hl12, hl12', h1, rfl, h2, rfl⟩
  simp -dsimp
  repeat (first | refine WP.seq ?_ | refine WP.block ?_ | (refine WP.region Try.tab ?_; simp -dsimp) | (refine WP.draw Try.tab Try.mixed ?_; simp -dsimp) | refine And.intro (by first | rfl | omega | decide | (simp; done) | (simp; omega) | (intros; simp_all; done)) ?_)
  cases l2 with
  | nil =>
    simp only [List.append_nil] at hl12
    subst hl12
    have : l2' = [] := List.eq_nil_of_length_eq_zero (by rw [hl12', List.length_append] at hb; omega)
    subst this
    simp only [List.append_nil] at hl12'
    subst hl12'
    refine WP.cond (b := false) (by simp) (fun h => by cases h) (fun _ => ?_)
    refine WP.exit ?_
    simp -dsimp
    repeat (first | refine WP.seq ?_ | refine WP.block ?_ | (refine WP.region Try.tab ?_; simp -dsimp) | (refine WP.draw Try.tab Try.mixed ?_; simp -dsimp) | refine And.intro (by first | rfl | omega | decide | (simp; done) | (simp; omega) | (intros; simp_all; done)) ?_)
    refine WP.ret (finQ.ret ?_)
    simp -dsimp [h2]
  | cons v l2 =>
    cases l2' with
    | nil => rw [hl12, hl12'] at hb; simp at hb; omega
    | cons v' l2' =>
      have hll : l.length = l1.length + (l2.length + 1) := by rw [hl12]; simp
      refine WP.cond (b := true) (by simp; omega) (fun _ => ?_) (fun h => by cases h)
      refine WP.skip ?_
      simp -dsimp
      refine WP.seq (WP.block ?_)
      have hv := V.cells_at l1 v l2
      have hv' := V.cells_at l1' v' l2'
      rw [← hl12] at hv
      rw [← hl12', ← h1] at hv'
      have hcv := hc v (by rw [hl12]; simp) v'
      have hs : V.sameL l l' = (V.same v v' && V.sameL l2 l2') := by rw [hl12, hl12', V.sameL_append _ _ _ _ h1, h2, V.sameL]; simp
      have hs1 : V.sameL (l1 ++ [v]) (l1' ++ [v']) = V.same v v' := by rw [V.sameL_append _ _ _ _ h1, h2, V.sameL]; simp [V.sameL]
      obtain ⟨k, n, s, lv⟩ := v
      obtain ⟨k', n', s', lv'⟩ := v'
      rw [V.cells] at hv hv'
      have e2 : IntKind.i64.wrap ((l1.length : Int) + 1) = (l1.length : Int) + 1 := IntWalk.i64_in _ (by omega)
      repeat (first | refine WP.seq ?_ | refine WP.block ?_ | (refine WP.region Try.tab ?_; simp -dsimp [hv, hv']) | (refine WP.draw Try.tab Try.mixed ?_; simp -dsimp [hv, hv']) | refine And.intro (by first | rfl | omega | decide | (simp; done) | (simp; omega) | (intros; simp_all; done)) ?_)
      refine vcStop.call0 Try.body21 hcv rfl rfl (by simp [V.d, V.cells]) ?_
      simp -dsimp
      repeat (first | refine WP.seq ?_ | refine WP.block ?_ | (refine WP.region Try.tab ?_; simp -dsimp) | (refine WP.draw Try.tab Try.mixed ?_; simp -dsimp) | refine And.intro (by first | rfl | omega | decide | (simp; done) | (simp; omega) | (intros; simp_all; done)) ?_)
      refine WP.cond (b := !(V.same (.mk k n s lv) (.mk k' n' s' lv'))) (by simp) (fun hb => ?_) (fun hb => ?_)
      · simp only [Bool.not_eq_true'] at hb
        repeat (first | refine WP.seq ?_ | refine WP.block ?_ | (refine WP.region Try.tab ?_; simp -dsimp) | (refine WP.draw Try.tab Try.mixed ?_; simp -dsimp) | refine And.intro (by first | rfl | omega | decide | (simp; done) | (simp; omega) | (intros; simp_all; done)) ?_)
        refine WP.ret (finQ.ret ?_)
        simp -dsimp [hs, hb]
      · simp only [Bool.not_eq_false'] at hb
        refine WP.skip ?_
        simp -dsimp
        repeat (first | refine WP.seq ?_ | refine WP.block ?_ | (refine WP.region Try.tab ?_; simp -dsimp) | (refine WP.draw Try.tab Try.mixed ?_; simp -dsimp) | refine And.intro (by first | rfl | omega | decide | (simp; done) | (simp; omega) | (intros; simp_all; done)) ?_)
        refine loopW.next (mkS 32 [(1, .d (slV l')), (2, .d (.v (.func (.func 21) #[] #[]))), (15, .d (slV l)), (16, .d (.v (.int .i64 l.length))), (17, .d (.v (.int .i64 (l1 ++ [V.mk k n s lv]).length)))] [])
          (Wk.lessE [] (by simp [e2]) (by simp)) l2.length (by simp) ⟨l1 ++ [.mk k n s lv], l2, l1' ++ [.mk k' n' s' lv'], l2', by simp [hl12], by simp [hl12'], by simp [h1], rfl, by rw [hs1]; exact hb, rfl⟩

theorem V.sz_mem {k n : Int} {s : ByteArray} {l : List V} {v : V} (h : v ∈ l) {N : Nat} (hN : (V.mk k n s l).sz ≤ N + 1) : v.sz ≤ N := by
  obtain ⟨l1, l2, rfl⟩ := List.append_of_mem h
  exact V.sz_lt hN

set_option maxRecDepth 10000 in
set_option maxHeartbeats 4000000 in
theorem f21_N : ∀ (N : Nat) (v w : V), v.sz ≤ N → Fn0 Try.prog 21 [v.d, w.d] (.v (.bool (V.same v w))) := by
  intro N
  induction N with
  | zero => rintro ⟨k, n, s, l⟩ _ hN; rw [V.sz] at hN; omega
  | succ N ih =>
    rintro ⟨k, n, s, l⟩ ⟨k', n', s', l'⟩ hN
    have h35 := f35_of l l' fun a ha b => ih a b (V.sz_mem ha hN)
    refine Fun.of_wp (pn := noPn) Try.tab Try.func21 rfl fun β0 => ?_
    simp only [Try.f21]
    rw [V.d, V.cells, V.d, V.cells]
    repeat (first | refine WP.seq ?_ | refine WP.block ?_ | (refine WP.region Try.tab ?_; simp -dsimp) | (refine WP.draw Try.tab Try.mixed ?_; simp -dsimp) | refine And.intro (by first | rfl | omega | decide | (simp; done) | (simp; omega) | (intros; simp_all; done)) ?_)
    refine vcStopG.call0 Try.body35 (fun _ => h35) rfl (fun _ => rfl) (fun hg => by simp at hg; simp [hg]) ?_
    simp -dsimp
    repeat (first | refine WP.seq ?_ | refine WP.block ?_ | (refine WP.region Try.tab ?_; simp -dsimp) | (refine WP.draw Try.tab Try.mixed ?_; simp -dsimp) | refine And.intro (by first | rfl | omega | decide | (simp; done) | (simp; omega) | (intros; simp_all; done)) ?_)
    refine WP.ret (finQ.ret ?_)
    simp -dsimp [V.same]

theorem f21_ok (v w : V) : Fn0 Try.prog 21 [v.d, w.d] (.v (.bool (V.same v w))) := f21_N v.sz v w (Nat.le_refl _)

set_option maxRecDepth 10000 in
set_option maxHeartbeats 4000000 in
theorem f20_N : ∀ (N : Nat) (v w : V), v.sz ≤ N → Fn0 Try.prog 20 [v.d, w.d] (.v (.bool (V.same v w))) := by
  intro N
  induction N with
  | zero => rintro ⟨k, n, s, l⟩ _ hN; rw [V.sz] at hN; omega
  | succ N ih =>
    rintro ⟨k, n, s, l⟩ ⟨k', n', s', l'⟩ hN
    refine Fun.of_wp (pn := noPn) Try.tab Try.func20 rfl fun β0 => ?_
    simp only [Try.f20]
    rw [V.d, V.cells, V.d, V.cells]
    refine WP.len' (.tmp 0) 3 rfl fun hl => ?_
    have hm : maxLen = 9223372036854775807 := rfl
    rw [hm] at hl
    repeat (first | refine WP.seq ?_ | refine WP.block ?_ | (refine WP.region Try.tab ?_; simp -dsimp) | (refine WP.draw Try.tab Try.mixed ?_; simp -dsimp) | refine And.intro (by first | rfl | omega | decide | (simp; done) | (simp; omega) | (intros; simp_all; done)) ?_)
    refine WP.cond (b := !(decide (k = k') && decide (n = n') && decide (s = s') && decide (l.length = l'.length))) (by simp [Int.natCast_inj]) (fun hb => ?_) (fun hb => ?_)
    · have hb : V.same (.mk k n s l) (.mk k' n' s' l') = false := by
        rw [V.same]
        by_cases hx : l.length = l'.length
        · simp [hx] at hb ⊢; intro h1 h2 h3; simp [h1, h2, h3] at hb
        · rw [V.sameL_len l l' hx]; simp
      repeat (first | refine WP.seq ?_ | refine WP.block ?_ | (refine WP.region Try.tab ?_; simp -dsimp) | (refine WP.draw Try.tab Try.mixed ?_; simp -dsimp) | refine And.intro (by first | rfl | omega | decide | (simp; done) | (simp; omega) | (intros; simp_all; done)) ?_)
      refine WP.ret (finQ.ret ?_)
      simp -dsimp [hb]
    simp only [Bool.not_eq_false', Bool.and_eq_true, decide_eq_true_eq] at hb
    obtain ⟨⟨⟨rfl, rfl⟩, rfl⟩, hb⟩ := hb
    have hsm : V.same (.mk k n s l) (.mk k n s l') = V.sameL l l' := by simp [V.same]
    rw [hsm]
    refine WP.skip ?_
    simp -dsimp
    repeat (first | refine WP.seq ?_ | refine WP.block ?_ | (refine WP.region Try.tab ?_; simp -dsimp) | (refine WP.draw Try.tab Try.mixed ?_; simp -dsimp) | refine And.intro (by first | rfl | omega | decide | (simp; done) | (simp; omega) | (intros; simp_all; done)) ?_)
    refine WP.loopWk (fun m S => ∃ l1 l2 l1' l2', l = l1 ++ l2 ∧ l' = l1' ++ l2' ∧ l1.length = l1'.length ∧ m = l2.length ∧ V.sameL l1 l1' = true ∧ S = mkS 53 [(2, .ptr 2 0), (3, .ptr 3 0), (5, .d (.v (.int .i64 l1.length)))] [(2, bV k n s l), (3, bV k n s l')]) l.length
        (S0 := mkS 53 [(2, .ptr 2 0), (3, .ptr 3 0), (5, .d (.v (.int .i64 0)))] [(2, bV k n s l), (3, bV k n s l')]) (Wk.lessE [] (by simp) (by simp)) ⟨[], l, [], l', rfl, rfl, rfl, rfl, rfl, by simp⟩ ?_
    rintro _ _ ⟨l1, l2, l1', l2', hl12, hl12', h1, rfl, h2, rfl⟩
    simp -dsimp
    repeat (first | refine WP.seq ?_ | refine WP.block ?_ | (refine WP.region Try.tab ?_; simp -dsimp) | (refine WP.draw Try.tab Try.mixed ?_; simp -dsimp) | refine And.intro (by first | rfl | omega | decide | (simp; done) | (simp; omega) | (intros; simp_all; done)) ?_)
    cases l2 with
    | nil =>
      simp only [List.append_nil] at hl12
      subst hl12
      have : l2' = [] := List.eq_nil_of_length_eq_zero (by rw [hl12', List.length_append] at hb; omega)
      subst this
      simp only [List.append_nil] at hl12'
      subst hl12'
      refine WP.cond (b := false) (by simp) (fun h => by cases h) (fun _ => ?_)
      refine WP.exit ?_
      simp -dsimp
      repeat (first | refine WP.seq ?_ | refine WP.block ?_ | (refine WP.region Try.tab ?_; simp -dsimp) | (refine WP.draw Try.tab Try.mixed ?_; simp -dsimp) | refine And.intro (by first | rfl | omega | decide | (simp; done) | (simp; omega) | (intros; simp_all; done)) ?_)
      refine WP.ret (finQ.ret ?_)
      simp -dsimp [h2]
    | cons v l2 =>
      cases l2' with
      | nil => rw [hl12, hl12'] at hb; simp at hb; omega
      | cons v' l2' =>
        have hll : l.length = l1.length + (l2.length + 1) := by rw [hl12]; simp
        refine WP.cond (b := true) (by simp; omega) (fun _ => ?_) (fun h => by cases h)
        refine WP.skip ?_
        simp -dsimp
        refine WP.seq (WP.block ?_)
        have hv := V.cells_at l1 v l2
        have hv' := V.cells_at l1' v' l2'
        rw [← hl12] at hv
        rw [← hl12', ← h1] at hv'
        have hcv := ih v v' (V.sz_mem (by rw [hl12]; simp) hN)
        have hs : V.sameL l l' = (V.same v v' && V.sameL l2 l2') := by rw [hl12, hl12', V.sameL_append _ _ _ _ h1, h2, V.sameL]; simp
        have hs1 : V.sameL (l1 ++ [v]) (l1' ++ [v']) = V.same v v' := by rw [V.sameL_append _ _ _ _ h1, h2, V.sameL]; simp [V.sameL]
        obtain ⟨k1, n1, s1, lv⟩ := v
        obtain ⟨k1', n1', s1', lv'⟩ := v'
        rw [V.cells] at hv hv'
        have e2 : IntKind.i64.wrap ((l1.length : Int) + 1) = (l1.length : Int) + 1 := IntWalk.i64_in _ (by omega)
        repeat (first | refine WP.seq ?_ | refine WP.block ?_ | (refine WP.region Try.tab ?_; simp -dsimp [hv, hv']) | (refine WP.draw Try.tab Try.mixed ?_; simp -dsimp [hv, hv']) | refine And.intro (by first | rfl | omega | decide | (simp; done) | (simp; omega) | (intros; simp_all; done)) ?_)
        refine vcStop.call0 Try.body20 hcv rfl rfl (by simp [V.d, V.cells]) ?_
        simp -dsimp
        repeat (first | refine WP.seq ?_ | refine WP.block ?_ | (refine WP.region Try.tab ?_; simp -dsimp) | (refine WP.draw Try.tab Try.mixed ?_; simp -dsimp) | refine And.intro (by first | rfl | omega | decide | (simp; done) | (simp; omega) | (intros; simp_all; done)) ?_)
        refine WP.cond (b := !(V.same (.mk k1 n1 s1 lv) (.mk k1' n1' s1' lv'))) (by simp) (fun hb => ?_) (fun hb => ?_)
        · simp only [Bool.not_eq_true'] at hb
          repeat (first | refine WP.seq ?_ | refine WP.block ?_ | (refine WP.region Try.tab ?_; simp -dsimp) | (refine WP.draw Try.tab Try.mixed ?_; simp -dsimp) | refine And.intro (by first | rfl | omega | decide | (simp; done) | (simp; omega) | (intros; simp_all; done)) ?_)
          refine WP.ret (finQ.ret ?_)
          simp -dsimp [hs, hb]
        · simp only [Bool.not_eq_false'] at hb
          refine WP.skip ?_
          simp -dsimp
          repeat (first | refine WP.seq ?_ | refine WP.block ?_ | (refine WP.region Try.tab ?_; simp -dsimp) | (refine WP.draw Try.tab Try.mixed ?_; simp -dsimp) | refine And.intro (by first | rfl | omega | decide | (simp; done) | (simp; omega) | (intros; simp_all; done)) ?_)
          refine loopW.next (mkS 53 [(2, .ptr 2 0), (3, .ptr 3 0), (5, .d (.v (.int .i64 (l1 ++ [V.mk k1 n1 s1 lv]).length)))] [(2, bV k n s l), (3, bV k n s l')])
            (Wk.lessE [] (by simp [e2]) (by simp)) l2.length (by simp) ⟨l1 ++ [.mk k1 n1 s1 lv], l2, l1' ++ [.mk k1' n1' s1' lv'], l2', by simp [hl12], by simp [hl12'], by simp [h1], rfl, by rw [hs1]; exact hb, rfl⟩
theorem f20_ok (v w : V) : Fn0 Try.prog 20 [v.d, w.d] (.v (.bool (V.same v w))) := f20_N v.sz v w (Nat.le_refl _)
end Go.Proofs.Ytnbanfpelgcmoaa
