import Derived.Test.YtnbanfpelgcmoaaLc
set_option linter.unusedSimpArgs false
set_option linter.unusedVariables false
namespace Go.Proofs.Ytnbanfpelgcmoaa
open Go.Xe Go.RowKit
attribute [local simp] bys_take all_bys'

theorem enc_apart {v w : V} (hv : v.ok = true) (hw : w.ok = true) (rv : v.rng = true) (rw' : w.rng = true) (dv : v.dep ≤ 16) (dw : w.dep ≤ 16) (lv : v.enc.length ≤ 1000000000) (lw : w.enc.length ≤ 1000000000)
    (h : v.enc.take (min v.enc.length w.enc.length) = w.enc.take (min v.enc.length w.enc.length)) : v = w := by
  rcases Nat.le_total v.enc.length w.enc.length with hle | hle
  · rw [Nat.min_eq_left hle, List.take_length] at h
    have h1 := V.read v 16 (w.enc.drop v.enc.length) hv rv dv (by omega)
    rw [h, List.length_take, Nat.min_eq_left hle, List.take_append_drop] at h1
    have h2 := V.read w 16 [] hw rw' dw (by omega)
    rw [List.append_nil, h1] at h2
    exact congrArg Prod.fst (Option.some.inj h2)
  · rw [Nat.min_eq_right hle, List.take_length] at h
    have h1 := V.read w 16 (v.enc.drop w.enc.length) hw rw' dw (by omega)
    rw [← h, List.length_take, Nat.min_eq_left hle, List.take_append_drop] at h1
    have h2 := V.read v 16 [] hv rv dv (by omega)
    rw [List.append_nil, h1] at h2
    exact (congrArg Prod.fst (Option.some.inj h2)).symm

set_option maxRecDepth 10000 in
set_option maxHeartbeats 4000000 in
theorem f7_ok (v w : V) (hr : v.rng = true) (hr' : w.rng = true) : Fn0 Try.prog 7 [v.d, w.d] (.v (.bool true)) := by
  have h11 := f11_row 0 (rng2 hr hr')
  rw [cnt2] at h11
  obtain ⟨B, hB⟩ : ∃ B, (v.few && w.few) = B := ⟨_, rfl⟩
  rw [hB] at h11
  have h21 := f21_ok v w
  refine Fun.of_wp (pn := noPn) Try.tab Try.func7 rfl fun β0 => ?_
  simp only [Try.f7]
  obtain ⟨k, n, s, l⟩ := v
  obtain ⟨k', n', s', l'⟩ := w
  rw [V.d, V.d, V.cells, V.cells]
  repeat (first | refine WP.seq ?_ | refine WP.block ?_ | (refine WP.region Try.tab ?_; simp -dsimp) | (refine WP.draw Try.tab Try.mixed ?_; simp -dsimp) | refine And.intro (by first | rfl | omega | decide | (simp; done) | (simp; omega) | (intros; simp_all; done)) ?_)
  refine vcStop.call0 Try.body10 f10_ok rfl rfl rfl ?_
  simp -dsimp
  repeat (first | refine WP.seq ?_ | refine WP.block ?_ | (refine WP.region Try.tab ?_; simp -dsimp) | (refine WP.draw Try.tab Try.mixed ?_; simp -dsimp) | refine And.intro (by first | rfl | omega | decide | (simp; done) | (simp; omega) | (intros; simp_all; done)) ?_)
  refine WP.cond (b := false) (by simp) (fun h => by cases h) (fun _ => ?_)
  refine WP.skip ?_
  simp -dsimp
  repeat (first | refine WP.seq ?_ | refine WP.block ?_ | (refine WP.region Try.tab ?_; simp -dsimp) | (refine WP.draw Try.tab Try.mixed ?_; simp -dsimp) | refine And.intro (by first | rfl | omega | decide | (simp; done) | (simp; omega) | (intros; simp_all; done)) ?_)
  refine vcStop.call Try.body11 (h11) (rl [(1000, 14)]) rfl rfl (by simp [V.cellsL, V.cells, BoxLeq]) (CallOk.of (by simp [V.cellsL, V.cells, BoxLeq]) rfl (by first | rfl | (simp [V.cellsL, V.cells, BoxLeq]; done)) (by simp [V.cellsL, V.cells, BoxLeq]) (by simp [V.cellsL, V.cells, BoxLeq])) (fun _ h => h.elim) (fun ⟨_, h⟩ => h.elim) (fun ⟨_, h⟩ => h.elim) (by simp [V.cellsL, V.cells, BoxLeq]) ?_
  simp -dsimp
  repeat (first | refine WP.seq ?_ | refine WP.block ?_ | (refine WP.region Try.tab ?_; simp -dsimp) | (refine WP.draw Try.tab Try.mixed ?_; simp -dsimp) | refine And.intro (by first | rfl | omega | decide | (simp; done) | (simp; omega) | (intros; simp_all; done)) ?_)
  cases B with
  | false =>
    refine WP.cond (b := true) (by simp) (fun _ => ?_) (fun h => by cases h)
    repeat (first | refine WP.seq ?_ | refine WP.block ?_ | (refine WP.region Try.tab ?_; simp -dsimp) | (refine WP.draw Try.tab Try.mixed ?_; simp -dsimp) | refine And.intro (by first | rfl | omega | decide | (simp; done) | (simp; omega) | (intros; simp_all; done)) ?_)
    refine WP.ret (finQ.retE ?_)
    simp -dsimp
  | true =>
    rw [Bool.and_eq_true] at hB
    obtain ⟨he, hd⟩ := V.few_small hr hB.1
    obtain ⟨he', hd'⟩ := V.few_small hr' hB.2
    refine WP.cond (b := false) (by simp) (fun h => by cases h) (fun _ => ?_)
    refine WP.skip ?_
    simp -dsimp
    repeat (first | refine WP.seq ?_ | refine WP.block ?_ | (refine WP.region Try.tab ?_; simp -dsimp) | (refine WP.draw Try.tab Try.mixed ?_; simp -dsimp) | refine And.intro (by first | rfl | omega | decide | (simp; done) | (simp; omega) | (intros; simp_all; done)) ?_)
    refine vcStop.call0 Try.body12 (f12_ok _ (by omega) hr (by omega)) rfl rfl (by simp [V.d, V.cells]) ?_
    simp -dsimp
    repeat (first | refine WP.seq ?_ | refine WP.block ?_ | (refine WP.region Try.tab ?_; simp -dsimp) | (refine WP.draw Try.tab Try.mixed ?_; simp -dsimp) | refine And.intro (by first | rfl | omega | decide | (simp; done) | (simp; omega) | (intros; simp_all; done)) ?_)
    refine vcStop.call0 Try.body12 (f12_ok _ (by omega) hr' (by omega)) rfl rfl (by simp [V.d, V.cells]) ?_
    simp -dsimp
    repeat (first | refine WP.seq ?_ | refine WP.block ?_ | (refine WP.region Try.tab ?_; simp -dsimp) | (refine WP.draw Try.tab Try.mixed ?_; simp -dsimp) | refine And.intro (by first | rfl | omega | decide | (simp; done) | (simp; omega) | (intros; simp_all; done)) ?_)
    refine WP.cond (b := !(decide (V.chk (.mk k n s l) = 0) && decide (V.chk (.mk k' n' s' l') = 0))) (by simp) (fun hb => ?_) (fun hb => ?_)
    · repeat (first | refine WP.seq ?_ | refine WP.block ?_ | (refine WP.region Try.tab ?_; simp -dsimp) | (refine WP.draw Try.tab Try.mixed ?_; simp -dsimp) | refine And.intro (by first | rfl | omega | decide | (simp; done) | (simp; omega) | (intros; simp_all; done)) ?_)
      refine WP.ret (finQ.retE ?_)
      simp -dsimp
    simp only [Bool.not_eq_false', Bool.and_eq_true, decide_eq_true_eq] at hb
    obtain ⟨c1, c2, c3⟩ := chk_facts hb.1
    obtain ⟨d1, d2, d3⟩ := chk_facts hb.2
    rw [c3, d3]
    refine WP.skip ?_
    simp -dsimp
    repeat (first | refine WP.seq ?_ | refine WP.block ?_ | (refine WP.region Try.tab ?_; simp -dsimp) | (refine WP.draw Try.tab Try.mixed ?_; simp -dsimp) | refine And.intro (by first | rfl | omega | decide | (simp; done) | (simp; omega) | (intros; simp_all; done)) ?_)
    refine vcStop.call0 Try.body21 h21 rfl rfl (by simp [V.d, V.cells]) ?_
    simp -dsimp
    repeat (first | refine WP.seq ?_ | refine WP.block ?_ | (refine WP.region Try.tab ?_; simp -dsimp) | (refine WP.draw Try.tab Try.mixed ?_; simp -dsimp) | refine And.intro (by first | rfl | omega | decide | (simp; done) | (simp; omega) | (intros; simp_all; done)) ?_)
    cases hs : V.same (.mk k n s l) (.mk k' n' s' l') with
    | true =>
      have he := (V.same_iff _ _).1 hs
      rw [he]
      refine WP.cond (b := true) (by simp) (fun _ => ?_) (fun h => by cases h)
      repeat (first | refine WP.seq ?_ | refine WP.block ?_ | (refine WP.region Try.tab ?_; simp -dsimp) | (refine WP.draw Try.tab Try.mixed ?_; simp -dsimp) | refine And.intro (by first | rfl | omega | decide | (simp; done) | (simp; omega) | (intros; simp_all; done)) ?_)
      refine WP.ret (finQ.retE ?_)
      simp -dsimp
    | false =>
      have hne : V.mk k n s l ≠ .mk k' n' s' l' := fun e => by rw [(V.same_iff _ _).2 e] at hs; cases hs
      have hap : ¬ (V.enc (.mk k n s l)).take (min (V.enc (.mk k n s l)).length (V.enc (.mk k' n' s' l')).length) = (V.enc (.mk k' n' s' l')).take (min (V.enc (.mk k n s l)).length (V.enc (.mk k' n' s' l')).length) :=
        fun h => hne (enc_apart c1 d1 hr hr' c2 d2 (by omega) (by omega) h)
      generalize V.enc (.mk k n s l) = b at *
      generalize V.enc (.mk k' n' s' l') = c at *
      refine WP.cond (b := false) (by simp) (fun h => by cases h) (fun _ => ?_)
      refine WP.skip ?_
      simp -dsimp
      have em : (min (b.length : Int) (c.length : Int)).toNat = min b.length c.length := by omega
      repeat (first | refine WP.seq ?_ | refine WP.block ?_ | (refine WP.region Try.tab ?_; simp -dsimp) | (refine WP.draw Try.tab Try.mixed ?_; simp -dsimp) | refine And.intro (by first | rfl | omega | decide | (simp; done) | (simp; omega) | (intros; simp_all; done)) ?_)
      refine WP.ret (finQ.retE ?_)
      simp -dsimp [em]
      rw [decide_eq_false hap]
      exact Leq.refl _
end Go.Proofs.Ytnbanfpelgcmoaa
