import Derived.Test.YtnbanfpelgcmoaaEa
set_option linter.unusedSimpArgs false
set_option linter.unusedVariables false
namespace Go.Proofs.Ytnbanfpelgcmoaa
open Go.Xe Go.RowKit

mutual
theorem V.cnt_small : ∀ (v : V) (d : Int), v.rng = true → V.cnt v d ≤ 200 → v.enc.length ≤ 210 * V.cnt v d ∧ v.dep ≤ (d + 1).toNat ∧ 0 ≤ d
  | .mk k n s l, d, hr, hc => by
    rw [V.cnt] at hc ⊢
    split at hc
    · omega
    rename_i hd
    rw [if_neg hd]
    have hI := (V.rng_n hr).1
    have hrs := (V.rng_s hr).1
    have h := V.cntL_small l (d - 1) (1 + s.size / 200) (V.rng_n hr).2 hc
    have hll : l.length ≤ 150 := by omega
    refine ⟨?_, ?_, by omega⟩
    · rw [V.enc]
      have h1 := digs_len10 (zig_lt hI)
      have h2 := digs_len10 (u := s.size) (by unfold isU; omega)
      have h3 := digs_len10 (u := l.length) (by unfold isU; omega)
      have h4 : s.data.toList.length = s.size := rfl
      split
      · simp only [List.length_cons]; omega
      · split
        · simp only [List.length_cons, List.length_append, h4]; omega
        · simp only [List.length_cons, List.length_append]; omega
    · rw [V.dep]
      split
      · rcases l with _ | ⟨v, l⟩
        · simp [V.depL]; omega
        · have := h.2 (by simp); omega
      · omega
theorem V.cntL_small : ∀ (l : List V) (d : Int) (acc : Nat), V.rngL l = true → V.cntL l d acc ≤ 200 → (V.encL l).length + 210 * acc ≤ 210 * V.cntL l d acc ∧ (l ≠ [] → V.depL l ≤ (d + 1).toNat ∧ 0 ≤ d)
  | [], d, acc, _, _ => by simp [V.encL, V.cntL]
  | v :: l, d, acc, hr, hc => by
    rw [V.rngL, Bool.and_eq_true] at hr
    rw [V.cntL] at hc ⊢
    split at hc
    · rename_i ha
      rw [if_pos ha]
      have hl := V.cntL_small l d (acc + V.cnt v d) hr.2 hc
      have hv := V.cnt_small v d hr.1 (by omega)
      rw [V.encL, List.length_append, V.depL]
      refine ⟨by omega, fun _ => ⟨?_, hv.2.2⟩⟩
      rcases l with _ | ⟨w, l⟩
      · simp [V.depL]; exact hv.2.1
      · have := (hl.2 (by simp)).1
        have := hv.2.1
        omega
    · omega
end
theorem V.few_small {v : V} (hr : v.rng = true) (h : v.few = true) : v.enc.length ≤ 42000 ∧ v.dep ≤ 21 := by
  have := V.cnt_small v 20 hr (by simpa [V.few] using h)
  have h2 : V.cnt v 20 ≤ 200 := by simpa [V.few] using h
  exact ⟨by omega, by have := this.2.1; simpa using this⟩

theorem f11_row (k : Nat) {l : List V} (hr : V.rngL l = true) : Fun Try.prog 11 [.row 1000] [(1000, .row 24 4 l.length ((V.cellsL l).map .d))] (.d (.v (.bool (l.all V.few)))) [] fun _ => False :=
  Fun.ofRow 1000 (T := 24) (f11_ok l hr) rfl rfl trivial
theorem f10_b : Body Try.prog 10 := Try.body10

set_option maxRecDepth 10000 in
set_option maxHeartbeats 4000000 in
theorem f3_ok (v : V) (hr : v.rng = true) : Fn0 Try.prog 3 [v.d] (.v (.bool true)) := by
  have h11 := f11_row 0 (l := [v]) (by simp [V.rngL, hr])
  have hfew : ([v] : List V).all V.few = v.few := by simp
  rw [hfew] at h11
  refine Fun.of_wp (pn := noPn) Try.tab Try.func3 rfl fun β0 => ?_
  simp only [Try.f3]
  obtain ⟨k, n, s, l⟩ := v
  rw [V.d, V.cells]
  repeat (first | refine WP.seq ?_ | refine WP.block ?_ | (refine WP.region Try.tab ?_; simp -dsimp) | (refine WP.draw Try.tab Try.mixed ?_; simp -dsimp) | refine And.intro (by first | rfl | omega | decide | (simp; done) | (simp; omega) | (intros; simp_all; done)) ?_)
  refine vcStop.call0 Try.body10 f10_ok rfl rfl rfl ?_
  simp -dsimp
  repeat (first | refine WP.seq ?_ | refine WP.block ?_ | (refine WP.region Try.tab ?_; simp -dsimp) | (refine WP.draw Try.tab Try.mixed ?_; simp -dsimp) | refine And.intro (by first | rfl | omega | decide | (simp; done) | (simp; omega) | (intros; simp_all; done)) ?_)
  refine WP.cond (b := false) (by simp) (fun h => by cases h) (fun _ => ?_)
  refine WP.skip ?_
  simp -dsimp
  repeat (first | refine WP.seq ?_ | refine WP.block ?_ | (refine WP.region Try.tab ?_; simp -dsimp) | (refine WP.draw Try.tab Try.mixed ?_; simp -dsimp) | refine And.intro (by first | rfl | omega | decide | (simp; done) | (simp; omega) | (intros; simp_all; done)) ?_)
  refine vcStop.call Try.body11 (h11) (rl [(1000, 14)]) rfl rfl (by simp [V.cellsL, V.cells, BoxLeq]) (CallOk.of (by simp [V.cellsL, V.cells, BoxLeq]) rfl (by first | rfl | (simp [V.cellsL, V.cells, BoxLeq]; done)) (by simp [V.cellsL, V.cells, BoxLeq]) (by simp [V.cellsL, V.cells, BoxLeq])) (fun _ h => h.elim) (fun ⟨_, h⟩ => h.elim) (fun ⟨_, h⟩ => h.elim) (by simp [V.cellsL, V.cells, BoxLeq]) ?_
  simp -dsimp
  repeat (first | refine WP.seq ?_ | refine WP.block ?_ | (refine WP.region Try.tab ?_; simp -dsimp) | (refine WP.draw Try.tab Try.mixed ?_; simp -dsimp) | refine And.intro (by first | rfl | omega | decide | (simp; done) | (simp; omega) | (intros; simp_all; done)) ?_)
  cases hf : V.few (.mk k n s l) with
  | false =>
    refine WP.cond (b := true) (by simp [hf]) (fun _ => ?_) (fun h => by cases h)
    repeat (first | refine WP.seq ?_ | refine WP.block ?_ | (refine WP.region Try.tab ?_; simp -dsimp) | (refine WP.draw Try.tab Try.mixed ?_; simp -dsimp) | refine And.intro (by first | rfl | omega | decide | (simp; done) | (simp; omega) | (intros; simp_all; done)) ?_)
    refine WP.ret (finQ.retE ?_)
    simp -dsimp
  | true =>
    obtain ⟨he, hd⟩ := V.few_small hr hf
    refine WP.cond (b := false) (by simp [hf]) (fun h => by cases h) (fun _ => ?_)
    refine WP.skip ?_
    simp -dsimp
    repeat (first | refine WP.seq ?_ | refine WP.block ?_ | (refine WP.region Try.tab ?_; simp -dsimp) | (refine WP.draw Try.tab Try.mixed ?_; simp -dsimp) | refine And.intro (by first | rfl | omega | decide | (simp; done) | (simp; omega) | (intros; simp_all; done)) ?_)
    refine vcStop.call0 Try.body12 (f12_ok _ (by omega) hr (by omega)) rfl rfl (by simp [V.d, V.cells]) ?_
    simp -dsimp
    repeat (first | refine WP.seq ?_ | refine WP.block ?_ | (refine WP.region Try.tab ?_; simp -dsimp) | (refine WP.draw Try.tab Try.mixed ?_; simp -dsimp) | refine And.intro (by first | rfl | omega | decide | (simp; done) | (simp; omega) | (intros; simp_all; done)) ?_)
    refine vcStop.call0 Try.body13 (f13_ok _ (by omega) hr (by omega)) rfl rfl (by simp [V.d, V.cells]) ?_
    simp -dsimp
    repeat (first | refine WP.seq ?_ | refine WP.block ?_ | (refine WP.region Try.tab ?_; simp -dsimp) | (refine WP.draw Try.tab Try.mixed ?_; simp -dsimp) | refine And.intro (by first | rfl | omega | decide | (simp; done) | (simp; omega) | (intros; simp_all; done)) ?_)
    refine vcStop.call0 Try.body14 (f14_ok _ (by omega) hr (by omega)) rfl rfl (by simp [V.d, V.cells]) ?_
    simp -dsimp
    repeat (first | refine WP.seq ?_ | refine WP.block ?_ | (refine WP.region Try.tab ?_; simp -dsimp) | (refine WP.draw Try.tab Try.mixed ?_; simp -dsimp) | refine And.intro (by first | rfl | omega | decide | (simp; done) | (simp; omega) | (intros; simp_all; done)) ?_)
    refine vcStop.call0 Try.body15 (f15_ok _ (by omega) hr (by omega)) rfl rfl (by simp [V.d, V.cells]) ?_
    simp -dsimp
    repeat (first | refine WP.seq ?_ | refine WP.block ?_ | (refine WP.region Try.tab ?_; simp -dsimp) | (refine WP.draw Try.tab Try.mixed ?_; simp -dsimp) | refine And.intro (by first | rfl | omega | decide | (simp; done) | (simp; omega) | (intros; simp_all; done)) ?_)
    refine vcStopG.call0 Try.body16 (fun _ => f16_ok (.mk k n s l) (by omega)) rfl (fun _ => rfl) (fun _ => by simp [V.d, V.cells]) ?_
    simp -dsimp
    refine vcStopG.call0 Try.body17 (fun _ => f17_ok (.mk k n s l) (by omega)) rfl (fun _ => rfl) (fun _ => by simp [V.d, V.cells]) ?_
    simp -dsimp
    repeat (first | refine WP.seq ?_ | refine WP.block ?_ | (refine WP.region Try.tab ?_; simp -dsimp) | (refine WP.draw Try.tab Try.mixed ?_; simp -dsimp) | refine And.intro (by first | rfl | omega | decide | (simp; done) | (simp; omega) | (intros; simp_all; done)) ?_)
    refine WP.ret (finQ.retE ?_)
    simp -dsimp
end Go.Proofs.Ytnbanfpelgcmoaa
