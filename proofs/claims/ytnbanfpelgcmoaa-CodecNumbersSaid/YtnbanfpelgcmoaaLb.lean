import Derived.Test.YtnbanfpelgcmoaaLa
set_option linter.unusedSimpArgs false
set_option linter.unusedVariables false
namespace Go.Proofs.Ytnbanfpelgcmoaa
open Go.Xe Go.RowKit

theorem V.same_refl (v : V) : V.same v v = true := (V.same_iff v v).2 rfl

set_option maxRecDepth 10000 in
set_option maxHeartbeats 4000000 in
theorem f4_ok (bs : List UInt8) : Fn0 Try.prog 4 [slB bs] (.v (.bool true)) := by
  refine Fun.of_wp (pn := noPn) Try.tab Try.func4 rfl fun β0 => ?_
  simp only [Try.f4]
  repeat (first | refine WP.seq ?_ | refine WP.block ?_ | (refine WP.region Try.tab ?_; simp -dsimp) | (refine WP.draw Try.tab Try.mixed ?_; simp -dsimp) | refine And.intro (by first | rfl | omega | decide | (simp; done) | (simp; omega) | (intros; simp_all; done)) ?_)
  refine vcStop.call0 Try.body10 f10_ok rfl rfl rfl ?_
  simp -dsimp
  repeat (first | refine WP.seq ?_ | refine WP.block ?_ | (refine WP.region Try.tab ?_; simp -dsimp) | (refine WP.draw Try.tab Try.mixed ?_; simp -dsimp) | refine And.intro (by first | rfl | omega | decide | (simp; done) | (simp; omega) | (intros; simp_all; done)) ?_)
  refine WP.cond (b := false) (by simp) (fun h => by cases h) (fun _ => ?_)
  refine WP.skip ?_
  simp -dsimp
  repeat (first | refine WP.seq ?_ | refine WP.block ?_ | (refine WP.region Try.tab ?_; simp -dsimp) | (refine WP.draw Try.tab Try.mixed ?_; simp -dsimp) | refine And.intro (by first | rfl | omega | decide | (simp; done) | (simp; omega) | (intros; simp_all; done)) ?_)
  refine WP.cond (b := decide (2000 < bs.length)) (by simp; omega) (fun hb => ?_) (fun hb => ?_)
  · repeat (first | refine WP.seq ?_ | refine WP.block ?_ | (refine WP.region Try.tab ?_; simp -dsimp) | (refine WP.draw Try.tab Try.mixed ?_; simp -dsimp) | refine And.intro (by first | rfl | omega | decide | (simp; done) | (simp; omega) | (intros; simp_all; done)) ?_)
    refine WP.ret (finQ.retE ?_)
    simp -dsimp
  · have hb := of_decide_eq_false hb
    have h18 := f18_ok bs (by omega)
    have h19 := f19_ok bs (by omega)
    rw [decD] at h18 h19
    generalize pDec bs = R at h18 h19
    obtain ⟨⟨k, n, s, l⟩, e⟩ := R
    have h20 := f20_ok (.mk k n s l) (.mk k n s l)
    rw [V.same_refl] at h20
    refine WP.skip ?_
    simp -dsimp
    repeat (first | refine WP.seq ?_ | refine WP.block ?_ | (refine WP.region Try.tab ?_; simp -dsimp) | (refine WP.draw Try.tab Try.mixed ?_; simp -dsimp) | refine And.intro (by first | rfl | omega | decide | (simp; done) | (simp; omega) | (intros; simp_all; done)) ?_)
    refine vcStop.call0 Try.body18 h18 rfl rfl (by simp) ?_
    simp -dsimp [V.d, V.cells]
    repeat (first | refine WP.seq ?_ | refine WP.block ?_ | (refine WP.region Try.tab ?_; simp -dsimp) | (refine WP.draw Try.tab Try.mixed ?_; simp -dsimp) | refine And.intro (by first | rfl | omega | decide | (simp; done) | (simp; omega) | (intros; simp_all; done)) ?_)
    refine vcStop.call0 Try.body19 h19 rfl rfl (by simp) ?_
    simp -dsimp [V.d, V.cells]
    repeat (first | refine WP.seq ?_ | refine WP.block ?_ | (refine WP.region Try.tab ?_; simp -dsimp) | (refine WP.draw Try.tab Try.mixed ?_; simp -dsimp) | refine And.intro (by first | rfl | omega | decide | (simp; done) | (simp; omega) | (intros; simp_all; done)) ?_)
    refine vcStop.call0 Try.body20 h20 rfl rfl (by simp [V.d, V.cells]) ?_
    simp -dsimp
    repeat (first | refine WP.seq ?_ | refine WP.block ?_ | (refine WP.region Try.tab ?_; simp -dsimp) | (refine WP.draw Try.tab Try.mixed ?_; simp -dsimp) | refine And.intro (by first | rfl | omega | decide | (simp; done) | (simp; omega) | (intros; simp_all; done)) ?_)
    refine WP.ret (finQ.retE ?_)
    simp -dsimp

theorem cnt2 (v w : V) : ([v, w] : List V).all V.few = (v.few && w.few) := by simp
theorem rng2 {v w : V} (h : v.rng = true) (h' : w.rng = true) : V.rngL [v, w] = true := by simp [V.rngL, h, h']

set_option maxRecDepth 10000 in
set_option maxHeartbeats 4000000 in
theorem f5_ok (v w : V) (hr : v.rng = true) (hr' : w.rng = true) : Fn0 Try.prog 5 [v.d, w.d] (.v (.bool true)) := by
  have h11 := f11_row 0 (rng2 hr hr')
  rw [cnt2] at h11
  obtain ⟨B, hB⟩ : ∃ B, (v.few && w.few) = B := ⟨_, rfl⟩
  rw [hB] at h11
  have h21 := f21_ok v w
  have h20 := f20_ok v w
  have h21v := f21_ok v v
  have h21w := f21_ok w w
  rw [V.same_refl] at h21v h21w
  refine Fun.of_wp (pn := noPn) Try.tab Try.func5 rfl fun β0 => ?_
  simp only [Try.f5]
  obtain ⟨k, n, s, l⟩ := v
  obtain ⟨k', n', s', l'⟩ := w
  rw [V.d, V.d, V.cells, V.cells]
  repeat (first | refine WP.seq ?_ | refine WP.block ?_ | (refine WP.region Try.tab ?_; simp -dsimp) | (refine WP.draw Try.tab Try.mixed ?_; simp -dsimp) | refine And.intro (by first | rfl | omega | decide | (simp; done) | (simp; omega) | (intros; simp_all; done)) ?_)
  refine vcStop.call0 Try.body10 f10_ok rfl rfl rfl ?_
  simp -dsimp
  repeat (first | refine WP.seq ?_ | refine WP.block ?_ | (refine WP.region Try.tab ?_; simp -dsimp) | (refine WP.draw Try.tab Try.mixed ?_; simp -dsimp) | refine And.intro (by first | rfl | omega | decide | (simp; done) | (simp; omega) | (intros; simp_all; done)) ?_)
  refine WP.cond (b := false) (by simp) (fun h => by cases h) (fun _ => ?_)
  refine WP.skip ?_
  simp -dsimp
  repeat (first | refine WP.seq ?_ | refine WP.block ?_ | (refine WP.region Try.tab ?_; simp -dsimp) | (refine WP.draw Try.tab Try.mixed ?_; simp -dsimp) | refine And.intro (by first | rfl | omega | decide | (simp; done) | (simp; omega) | (intros; simp_all; done)) ?_)
  refine vcStop.call Try.body11 (h11) (rl [(1000, 9)]) rfl rfl (by simp [V.cellsL, V.cells, BoxLeq]) (CallOk.of (by simp [V.cellsL, V.cells, BoxLeq]) rfl (by first | rfl | (simp [V.cellsL, V.cells, BoxLeq]; done)) (by simp [V.cellsL, V.cells, BoxLeq]) (by simp [V.cellsL, V.cells, BoxLeq])) (fun _ h => h.elim) (fun ⟨_, h⟩ => h.elim) (fun ⟨_, h⟩ => h.elim) (by simp [V.cellsL, V.cells, BoxLeq]) ?_
  simp -dsimp
  repeat (first | refine WP.seq ?_ | refine WP.block ?_ | (refine WP.region Try.tab ?_; simp -dsimp) | (refine WP.draw Try.tab Try.mixed ?_; simp -dsimp) | refine And.intro (by first | rfl | omega | decide | (simp; done) | (simp; omega) | (intros; simp_all; done)) ?_)
  cases B with
  | false =>
    refine WP.cond (b := true) (by simp) (fun _ => ?_) (fun h => by cases h)
    repeat (first | refine WP.seq ?_ | refine WP.block ?_ | (refine WP.region Try.tab ?_; simp -dsimp) | (refine WP.draw Try.tab Try.mixed ?_; simp -dsimp) | refine And.intro (by first | rfl | omega | decide | (simp; done) | (simp; omega) | (intros; simp_all; done)) ?_)
    refine WP.ret (finQ.retE ?_)
    simp -dsimp
  | true =>
    refine WP.cond (b := false) (by simp) (fun h => by cases h) (fun _ => ?_)
    refine WP.skip ?_
    simp -dsimp
    refine WP.seq ?_
    refine WP.draw Try.tab Try.mixed ?_
    simp -dsimp
    refine vcStop.call0 Try.body21 h21 rfl rfl (by simp [V.d, V.cells]) ?_
    simp -dsimp
    refine vcStop.call0 Try.body20 h20 rfl rfl (by simp [V.d, V.cells]) ?_
    simp -dsimp
    refine vcStopG.call0 Try.body21 (fun _ => h21v) rfl (fun _ => rfl) (fun _ => by simp [V.d, V.cells]) ?_
    simp -dsimp
    refine vcStopG.call0 Try.body21 (fun _ => h21w) rfl (fun _ => rfl) (fun _ => by simp [V.d, V.cells]) ?_
    simp -dsimp
    repeat (first | refine WP.seq ?_ | refine WP.block ?_ | (refine WP.region Try.tab ?_; simp -dsimp) | (refine WP.draw Try.tab Try.mixed ?_; simp -dsimp) | refine And.intro (by first | rfl | omega | decide | (simp; done) | (simp; omega) | (intros; simp_all; done)) ?_)
    refine WP.ret (finQ.retE ?_)
    simp -dsimp
end Go.Proofs.Ytnbanfpelgcmoaa
