import Derived.Test.YtnbanfpelgcmoaaLb
import Derived.Test.YtnbanfpelgcmoaaEngV
set_option linter.unusedSimpArgs false
set_option linter.unusedVariables false
namespace Go.Proofs.Ytnbanfpelgcmoaa
open Go.Xe Go.RowKit

theorem chk_facts {v : V} (h : v.chk = 0) : v.ok = true ∧ v.dep ≤ 16 ∧ v.encB = v.enc := by
  have hok := V.chk_ok h
  refine ⟨hok, ?_, enc_of_chk h⟩
  rw [V.chk, if_pos hok] at h
  split at h
  · cases h
  · omega

theorem pDec_cases (bs : List UInt8) : (∃ v, pVal 16 bs = some (v, []) ∧ pDec bs = (v, 0)) ∨ pDec bs = (.mk 0 0 ⟨#[]⟩ [], 20) := by
  cases h : pVal 16 bs with
  | none => exact .inr (by rw [pDec, h])
  | some x =>
    obtain ⟨v, r⟩ := x
    cases r with
    | nil => exact .inl ⟨v, rfl, by rw [pDec, h]⟩
    | cons c r => exact .inr (by rw [pDec, h])

set_option maxRecDepth 10000 in
set_option maxHeartbeats 4000000 in
theorem f6_ok (v : V) (hr : v.rng = true) (raw : List UInt8) : Fn0 Try.prog 6 [v.d, slB raw] (.v (.bool true)) := by
  have h11 := f11_row 0 (l := [v]) (by simp [V.rngL, hr])
  have hfew : ([v] : List V).all V.few = v.few := by simp
  rw [hfew] at h11
  obtain ⟨B, hB⟩ : ∃ B, v.few = B := ⟨_, rfl⟩
  rw [hB] at h11
  have h21v := f21_ok v v
  have h20v := f20_ok v v
  rw [V.same_refl] at h21v h20v
  refine Fun.of_wp (pn := noPn) Try.tab Try.func6 rfl fun β0 => ?_
  simp only [Try.f6]
  obtain ⟨k, n, s, l⟩ := v
  rw [V.d, V.cells]
  repeat (first | refine WP.seq ?_ | refine WP.block ?_ | (refine WP.region Try.tab ?_; simp -dsimp) | (refine WP.draw Try.tab Try.mixed ?_; simp -dsimp) | refine And.intro (by first | rfl | omega | decide | (simp; done) | (simp; omega) | (intros; simp_all; done)) ?_)
  refine vcStop.call0 Try.body10 f10_ok rfl rfl rfl ?_
  simp -dsimp
  repeat (first | refine WP.seq ?_ | refine WP.block ?_ | (refine WP.region Try.tab ?_; simp -dsimp) | (refine WP.draw Try.tab Try.mixed ?_; simp -dsimp) | refine And.intro (by first | rfl | omega | decide | (simp; done) | (simp; omega) | (intros; simp_all; done)) ?_)
  refine WP.cond (b := false) (by simp) (fun h => by cases h) (fun _ => ?_)
  refine WP.skip ?_
  simp -dsimp
  repeat (first | refine WP.seq ?_ | refine WP.block ?_ | (refine WP.region Try.tab ?_; simp -dsimp) | (refine WP.draw Try.tab Try.mixed ?_; simp -dsimp) | refine And.intro (by first | rfl | omega | decide | (simp; done) | (simp; omega) | (intros; simp_all; done)) ?_)
  refine vcStop.call Try.body11 (h11) (rl [(1000, 16)]) rfl rfl (by simp [V.cellsL, V.cells, BoxLeq]) (CallOk.of (by simp [V.cellsL, V.cells, BoxLeq]) rfl (by first | rfl | (simp [V.cellsL, V.cells, BoxLeq]; done)) (by simp [V.cellsL, V.cells, BoxLeq]) (by simp [V.cellsL, V.cells, BoxLeq])) (fun _ h => h.elim) (fun ⟨_, h⟩ => h.elim) (fun ⟨_, h⟩ => h.elim) (by simp [V.cellsL, V.cells, BoxLeq]) ?_
  simp -dsimp
  repeat (first | refine WP.seq ?_ | refine WP.block ?_ | (refine WP.region Try.tab ?_; simp -dsimp) | (refine WP.draw Try.tab Try.mixed ?_; simp -dsimp) | refine And.intro (by first | rfl | omega | decide | (simp; done) | (simp; omega) | (intros; simp_all; done)) ?_)
  refine WP.cond (b := !B || decide (2000 < raw.length)) (by cases B <;> simp [show (2000 < (raw.length : Int)) ↔ 2000 < raw.length by omega]) (fun hb => ?_) (fun hb => ?_)
  · repeat (first | refine WP.seq ?_ | refine WP.block ?_ | (refine WP.region Try.tab ?_; simp -dsimp) | (refine WP.draw Try.tab Try.mixed ?_; simp -dsimp) | refine And.intro (by first | rfl | omega | decide | (simp; done) | (simp; omega) | (intros; simp_all; done)) ?_)
    refine WP.ret (finQ.retE ?_)
    simp -dsimp
  simp only [Bool.or_eq_false_iff, Bool.not_eq_false', decide_eq_false_iff_not] at hb
  obtain ⟨rfl, hraw⟩ := hb
  obtain ⟨he, hd⟩ := V.few_small hr hB
  refine WP.skip ?_
  simp -dsimp
  repeat (first | refine WP.seq ?_ | refine WP.block ?_ | (refine WP.region Try.tab ?_; simp -dsimp) | (refine WP.draw Try.tab Try.mixed ?_; simp -dsimp) | refine And.intro (by first | rfl | omega | decide | (simp; done) | (simp; omega) | (intros; simp_all; done)) ?_)
  refine vcStop.call0 Try.body12 (f12_ok _ (by omega) hr (by omega)) rfl rfl (by simp [V.d, V.cells]) ?_
  simp -dsimp
  repeat (first | refine WP.seq ?_ | refine WP.block ?_ | (refine WP.region Try.tab ?_; simp -dsimp) | (refine WP.draw Try.tab Try.mixed ?_; simp -dsimp) | refine And.intro (by first | rfl | omega | decide | (simp; done) | (simp; omega) | (intros; simp_all; done)) ?_)
  refine vcStop.call0 Try.body16 (f16_ok (.mk k n s l) (by omega)) rfl rfl (by simp [V.d, V.cells]) ?_
  simp -dsimp
  repeat (first | refine WP.seq ?_ | refine WP.block ?_ | (refine WP.region Try.tab ?_; simp -dsimp) | (refine WP.draw Try.tab Try.mixed ?_; simp -dsimp) | refine And.intro (by first | rfl | omega | decide | (simp; done) | (simp; omega) | (intros; simp_all; done)) ?_)
  refine WP.cond (b := false) (by simp) (fun h => by cases h) (fun _ => ?_)
  refine WP.skip ?_
  simp -dsimp
  refine WP.seqTo (mkS 87 [(1, .d (slB raw)), (2, .ptr 2 0)] [(2, bV k n s l)]) ?_ ?_
  · repeat (first | refine WP.seq ?_ | refine WP.block ?_ | (refine WP.region Try.tab ?_; simp -dsimp) | (refine WP.draw Try.tab Try.mixed ?_; simp -dsimp) | refine And.intro (by first | rfl | omega | decide | (simp; done) | (simp; omega) | (intros; simp_all; done)) ?_)
    refine WP.cond (b := decide (V.chk (.mk k n s l) = 0)) (by simp) (fun hb => ?_) (fun hb => ?_)
    · have hb := of_decide_eq_true hb
      obtain ⟨c1, c2, c3⟩ := chk_facts hb
      have h18 := f18_ok (V.enc (.mk k n s l)) (by omega)
      rw [dec_enc hb hr (by omega)] at h18
      rw [c3]
      repeat (first | refine WP.seq ?_ | refine WP.block ?_ | (refine WP.region Try.tab ?_; simp -dsimp) | (refine WP.draw Try.tab Try.mixed ?_; simp -dsimp) | refine And.intro (by first | rfl | omega | decide | (simp; done) | (simp; omega) | (intros; simp_all; done)) ?_)
      refine vcStop.call0 Try.body18 h18 rfl rfl (by simp) ?_
      simp -dsimp [V.d, V.cells]
      repeat (first | refine WP.seq ?_ | refine WP.block ?_ | (refine WP.region Try.tab ?_; simp -dsimp) | (refine WP.draw Try.tab Try.mixed ?_; simp -dsimp) | refine And.intro (by first | rfl | omega | decide | (simp; done) | (simp; omega) | (intros; simp_all; done)) ?_)
      refine vcStopG.call0 Try.body21 (fun _ => h21v) rfl (fun _ => rfl) (fun _ => by simp [V.d, V.cells]) ?_
      simp -dsimp
      refine vcStopG.call0 Try.body20 (fun _ => h20v) rfl (fun _ => rfl) (fun _ => by simp [V.d, V.cells]) ?_
      simp -dsimp
      repeat (first | refine WP.seq ?_ | refine WP.block ?_ | (refine WP.region Try.tab ?_; simp -dsimp) | (refine WP.draw Try.tab Try.mixed ?_; simp -dsimp) | refine And.intro (by first | rfl | omega | decide | (simp; done) | (simp; omega) | (intros; simp_all; done)) ?_)
      refine WP.cond (b := false) (by simp) (fun h => by cases h) (fun _ => ?_)
      refine WP.skip ?_
      exact toQ.norm (Wk.lessE [] (by simp) (by simp))
    · refine WP.skip ?_
      exact toQ.norm (Wk.lessE [] (by simp) (by simp))
  · have h18 := f18_ok raw (by omega)
    rcases pDec_cases raw with ⟨w, hw, hdec⟩ | hdec
    · obtain ⟨w1, w2, w3, w4⟩ := V.wrote 16 raw w [] (by omega) hw
      rw [List.append_nil] at w1
      have hck : w.chk = 0 := by rw [V.chk, if_pos w2, if_neg (by omega)]
      have h12 := f12_ok w (by omega) w4 (by rw [← w1]; omega)
      have h16 := f16_ok w (by omega)
      rw [(chk_facts hck).2.2, ← w1, hck] at h12
      rw [hck] at h16
      rw [decD, hdec] at h18
      obtain ⟨k2, n2, s2, l2⟩ := w
      repeat (first | refine WP.seq ?_ | refine WP.block ?_ | (refine WP.region Try.tab ?_; simp -dsimp) | (refine WP.draw Try.tab Try.mixed ?_; simp -dsimp) | refine And.intro (by first | rfl | omega | decide | (simp; done) | (simp; omega) | (intros; simp_all; done)) ?_)
      refine vcStop.call0 Try.body18 h18 rfl rfl (by simp) ?_
      simp -dsimp [V.d, V.cells]
      repeat (first | refine WP.seq ?_ | refine WP.block ?_ | (refine WP.region Try.tab ?_; simp -dsimp) | (refine WP.draw Try.tab Try.mixed ?_; simp -dsimp) | refine And.intro (by first | rfl | omega | decide | (simp; done) | (simp; omega) | (intros; simp_all; done)) ?_)
      refine WP.cond (b := false) (by simp) (fun h => by cases h) (fun _ => ?_)
      refine WP.skip ?_
      simp -dsimp
      repeat (first | refine WP.seq ?_ | refine WP.block ?_ | (refine WP.region Try.tab ?_; simp -dsimp) | (refine WP.draw Try.tab Try.mixed ?_; simp -dsimp) | refine And.intro (by first | rfl | omega | decide | (simp; done) | (simp; omega) | (intros; simp_all; done)) ?_)
      refine vcStop.call0 Try.body12 h12 rfl rfl (by simp [V.d, V.cells]) ?_
      simp -dsimp
      repeat (first | refine WP.seq ?_ | refine WP.block ?_ | (refine WP.region Try.tab ?_; simp -dsimp) | (refine WP.draw Try.tab Try.mixed ?_; simp -dsimp) | refine And.intro (by first | rfl | omega | decide | (simp; done) | (simp; omega) | (intros; simp_all; done)) ?_)
      refine vcStopG.call0 Try.body16 (fun _ => h16) rfl (fun _ => rfl) (fun _ => by simp [V.d, V.cells]) ?_
      simp -dsimp
      repeat (first | refine WP.seq ?_ | refine WP.block ?_ | (refine WP.region Try.tab ?_; simp -dsimp) | (refine WP.draw Try.tab Try.mixed ?_; simp -dsimp) | refine And.intro (by first | rfl | omega | decide | (simp; done) | (simp; omega) | (intros; simp_all; done)) ?_)
      refine WP.ret (finQ.retE ?_)
      simp -dsimp
    · rw [decD, hdec] at h18
      have h21z := f21_ok (.mk 0 0 ⟨#[]⟩ []) (.mk 0 0 ⟨#[]⟩ [])
      rw [V.same_refl] at h21z
      repeat (first | refine WP.seq ?_ | refine WP.block ?_ | (refine WP.region Try.tab ?_; simp -dsimp) | (refine WP.draw Try.tab Try.mixed ?_; simp -dsimp) | refine And.intro (by first | rfl | omega | decide | (simp; done) | (simp; omega) | (intros; simp_all; done)) ?_)
      refine vcStop.call0 Try.body18 h18 rfl rfl (by simp) ?_
      simp -dsimp [V.d, V.cells, V.cellsL]
      repeat (first | refine WP.seq ?_ | refine WP.block ?_ | (refine WP.region Try.tab ?_; simp -dsimp) | (refine WP.draw Try.tab Try.mixed ?_; simp -dsimp) | refine And.intro (by first | rfl | omega | decide | (simp; done) | (simp; omega) | (intros; simp_all; done)) ?_)
      refine WP.cond (b := true) (by simp) (fun _ => ?_) (fun h => by cases h)
      repeat (first | refine WP.seq ?_ | refine WP.block ?_ | (refine WP.region Try.tab ?_; simp -dsimp) | (refine WP.draw Try.tab Try.mixed ?_; simp -dsimp) | refine And.intro (by first | rfl | omega | decide | (simp; done) | (simp; omega) | (intros; simp_all; done)) ?_)
      refine vcStopG.call0L Try.body21 (fun _ => h21z) rfl (fun _ => rfl) (fun _ => by simp [V.d, V.cells, V.cellsL]) ?_
      simp -dsimp
      repeat (first | refine WP.seq ?_ | refine WP.block ?_ | (refine WP.region Try.tab ?_; simp -dsimp) | (refine WP.draw Try.tab Try.mixed ?_; simp -dsimp) | refine And.intro (by first | rfl | omega | decide | (simp; done) | (simp; omega) | (intros; simp_all; done)) ?_)
      refine WP.ret (finQ.retE ?_)
      simp -dsimp
end Go.Proofs.Ytnbanfpelgcmoaa
