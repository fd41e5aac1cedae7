import Derived.Test.YtnbanfpelgcmoaaDh
import Derived.Test.YtnbanfpelgcmoaaPa
set_option linter.unusedSimpArgs false
set_option linter.unusedVariables false
namespace Go.Proofs.Ytnbanfpelgcmoaa
open Go.Xe Go.RowKit

set_option maxRecDepth 10000 in
set_option maxHeartbeats 4000000 in
theorem f19_ok (bs : List UInt8) (hbs : bs.length ≤ 1000000000) : Fn0 Try.prog 19 [slB bs] (decD bs) := by
  have hp := rVal_p 16 bs
  obtain ⟨P, hP⟩ := rVal_end 16 bs
  have h34 := f34_N 16 (by omega) [] bs P 0 (by omega) (by simp; omega) (by simpa using hP)
  have hl : P.length + (rVal 16 bs).2.1.length = bs.length := by rw [← List.length_append, hP]
  refine Fun.of_wp (pn := noPn) Try.tab Try.func19 rfl fun β0 => ?_
  simp only [Try.f19]
  repeat (first | refine WP.seq ?_ | refine WP.block ?_ | (refine WP.region Try.tab ?_; simp -dsimp) | (refine WP.draw Try.tab Try.mixed ?_; simp -dsimp) | refine And.intro (by first | rfl | omega | decide | (simp; done) | (simp; omega) | (intros; simp_all; done)) ?_)
  generalize rVal 16 bs = R at *
  obtain ⟨⟨k, n, s, l⟩, r, bad⟩ := R
  simp only at *
  refine vcStop.call Try.body34 (h34) (rl [(1000, 8)]) rfl rfl (by simp [BoxLeq]) (CallOk.of (by simp [BoxLeq]) rfl (by first | rfl | (simp [BoxLeq]; done)) (by simp [BoxLeq]) (by simp [BoxLeq])) (fun _ h => h.elim) (fun ⟨_, h⟩ => h.elim) (fun ⟨_, h⟩ => h.elim) (by simp [BoxLeq]) ?_
  simp -dsimp [V.d, V.cells]
  cases hv : pVal 16 bs with
  | none =>
    have hb := hp.2 hv
    subst hb
    have hd : decD bs = .tup [(V.mk 0 0 ⟨#[]⟩ []).d, .v (.int .i64 20)] := by rw [decD, pDec, hv]
    rw [hd]
    repeat (first | refine WP.seq ?_ | refine WP.block ?_ | (refine WP.region Try.tab ?_; simp -dsimp) | (refine WP.draw Try.tab Try.mixed ?_; simp -dsimp) | refine And.intro (by first | rfl | omega | decide | (simp; done) | (simp; omega) | (intros; simp_all; done)) ?_)
    refine vcStopG.skip (.d (.v (.int .i64 0))) ?_
    simp -dsimp
    refine vcStopG.skip (.d (slB [])) ?_
    simp -dsimp
    repeat refine And.intro (by first | rfl | omega | decide | (simp; done) | (simp; omega) | (intros; simp_all; done)) ?_
    refine WP.cond (b := true) (by simp) (fun _ => ?_) (fun h => by cases h)
    repeat (first | refine WP.seq ?_ | refine WP.block ?_ | (refine WP.region Try.tab ?_; simp -dsimp) | (refine WP.draw Try.tab Try.mixed ?_; simp -dsimp) | refine And.intro (by first | rfl | omega | decide | (simp; done) | (simp; omega) | (intros; simp_all; done)) ?_)
    refine WP.ret (finQ.retE ?_)
    simp -dsimp [V.d, V.cells, V.cellsL]
  | some x =>
    obtain ⟨v, r'⟩ := x
    have hw := V.wrote 16 bs v r' (by omega) hv
    have hb := hp.1 v r' hv
    simp only [Prod.mk.injEq] at hb
    obtain ⟨rfl, rfl, rfl⟩ := hb
    obtain ⟨w1, w2, w3, w4⟩ := hw
    have hsz : P.length + r.length = bs.length := hl
    have e0 : ((P.length : Int) = (bs.length : Int)) = (r.length = 0) := by rw [eq_iff_iff]; omega
    cases r with
    | cons c r =>
      have hd : decD bs = .tup [(V.mk 0 0 ⟨#[]⟩ []).d, .v (.int .i64 20)] := by rw [decD, pDec, hv]
      rw [hd]
      have e1 : ¬ (P.length : Int) = (bs.length : Int) := by simp at hsz; omega
      have e2 : ¬ P.length = bs.length := by simp at hsz; omega
      repeat (first | refine WP.seq ?_ | refine WP.block ?_ | (refine WP.region Try.tab ?_; simp -dsimp [e1, e2, hP]) | (refine WP.draw Try.tab Try.mixed ?_; simp -dsimp [e1, e2, hP]) | refine And.intro (by first | rfl | omega | decide | (simp; done) | (simp; omega) | (intros; simp_all; done)) ?_)
      refine vcStopG.skip (.d (.v (.int .i64 0))) ?_
      simp -dsimp
      refine vcStopG.skip (.d (slB [])) ?_
      simp -dsimp
      repeat refine And.intro (by first | rfl | omega | decide | (simp; done) | (simp; omega) | (intros; simp_all; done)) ?_
      refine WP.cond (b := true) (by simp) (fun _ => ?_) (fun h => by cases h)
      repeat (first | refine WP.seq ?_ | refine WP.block ?_ | (refine WP.region Try.tab ?_; simp -dsimp) | (refine WP.draw Try.tab Try.mixed ?_; simp -dsimp) | refine And.intro (by first | rfl | omega | decide | (simp; done) | (simp; omega) | (intros; simp_all; done)) ?_)
      refine WP.ret (finQ.retE ?_)
      simp -dsimp [V.d, V.cells, V.cellsL]
    | nil =>
      have hd : decD bs = .tup [(V.mk k n s l).d, .v (.int .i64 0)] := by rw [decD, pDec, hv]
      rw [hd]
      simp only [List.append_nil] at hP w1
      subst hP
      have hck : V.chk (.mk k n s l) = 0 := by rw [V.chk, if_pos w2, if_neg (by omega)]
      have h17 := f17_ok (.mk k n s l) (by omega)
      have h27 := f27_ok (.mk k n s l) w4 (by rw [← w1]; exact hbs)
      rw [hck] at h17
      rw [← w1] at h27
      repeat (first | refine WP.seq ?_ | refine WP.block ?_ | (refine WP.region Try.tab ?_; simp -dsimp) | (refine WP.draw Try.tab Try.mixed ?_; simp -dsimp) | refine And.intro (by first | rfl | omega | decide | (simp; done) | (simp; omega) | (intros; simp_all; done)) ?_)
      refine vcStopG.call0 Try.body17 (fun _ => h17) rfl (fun _ => rfl) (fun _ => by simp [V.d, V.cells]) ?_
      simp -dsimp
      refine vcStopG.call0 Try.body27 (fun _ => h27) rfl (fun _ => rfl) (fun _ => by simp [V.d, V.cells]) ?_
      simp -dsimp
      repeat refine And.intro (by first | rfl | omega | decide | (simp; done) | (simp; omega) | (intros; simp_all; done)) ?_
      refine WP.cond (b := false) (by simp) (fun h => by cases h) (fun _ => ?_)
      refine WP.skip ?_
      simp -dsimp
      repeat (first | refine WP.seq ?_ | refine WP.block ?_ | (refine WP.region Try.tab ?_; simp -dsimp) | (refine WP.draw Try.tab Try.mixed ?_; simp -dsimp) | refine And.intro (by first | rfl | omega | decide | (simp; done) | (simp; omega) | (intros; simp_all; done)) ?_)
      refine WP.ret (finQ.retE ?_)
      simp -dsimp [V.d, V.cells]
end Go.Proofs.Ytnbanfpelgcmoaa
