/-
  The laws on Check, Compare, Same; on Encode and Decode.
-/
import Derived.Test.YtjfkeicmdaanbaaDoorKGa
set_option linter.unusedSectionVars false
set_option linter.unusedSimpArgs false
set_option linter.unusedVariables false
namespace Go.Proofs.YtjfkeicmdaanbaaDoor
open Go.Xe Go.RowKit

theorem ref_cmp (f g : Nat → Int) (hf : fOk f) (hg : fOk g) : refCmp f g = cmpF f g := by rw [refCmp, cmpF, enc_ref hf, enc_ref hg]
set_option maxRecDepth 10000 in
set_option maxHeartbeats 4000000 in
theorem law_check (f g : Nat → Int) (hf : fOk f) (hg : fOk g) : Fn0 Tryd.prog 3 [fD f, fD g] (.v (.bool true)) := by
  have a1 := check_ok f hf
  have a2 := check_ok g hg
  have b1 := refCheck_ok f hf
  have b2 := refCheck_ok g hg
  rw [(num_chk hf).1] at a1
  rw [(num_chk hg).1] at a2
  have c1 := factsCompare_ok f g hf hg
  have c2 := refCompare_ok f g hf hg
  rw [ref_cmp f g hf hg] at c2
  have c3 := factsCompare_ok f f hf hf
  rw [cmp_self] at c3
  have s1 := same_ok f g hf hg
  have s2 := refSame_ok f g hf hg
  generalize cmpF f g = cc at *
  generalize eqF f g = ss at *
  generalize (if chkF f = true then (0 : Int) else 120) = k1 at *
  generalize (if chkF g = true then (0 : Int) else 120) = k2 at *
  refine Fun.of_wp (pn := noPn) Tryd.tab Tryd.func3 rfl fun β0 => ?_
  simp only [Tryd.f3]
  simp only [fD]
  repeat (first | refine WP.seq ?_ | refine WP.block ?_ | (refine WP.region Tryd.tab ?_; simp -dsimp) | (refine WP.draw Tryd.tab Tryd.mixed ?_; simp -dsimp) | refine And.intro (by first | rfl | omega | decide | (simp; done) | (simp; omega) | (intro _ h; exact fcs_side h; done) | (intros; simp_all; done)) ?_)
  refine vcStop.call0 Tryd.body10 sane_ok rfl rfl (by simp) ?_
  simp -dsimp
  repeat (first | refine WP.seq ?_ | refine WP.block ?_ | (refine WP.region Tryd.tab ?_; simp -dsimp) | (refine WP.draw Tryd.tab Tryd.mixed ?_; simp -dsimp) | refine And.intro (by first | rfl | omega | decide | (simp; done) | (simp; omega) | (intro _ h; exact fcs_side h; done) | (intros; simp_all; done)) ?_)
  refine WP.cond (b := false) (by simp) (fun h => by cases h) (fun _ => ?_)
  refine WP.skip ?_
  simp -dsimp
  repeat (first | refine WP.seq ?_ | refine WP.block ?_ | (refine WP.region Tryd.tab ?_; simp -dsimp) | (refine WP.draw Tryd.tab Tryd.mixed ?_; simp -dsimp) | refine And.intro (by first | rfl | omega | decide | (simp; done) | (simp; omega) | (intro _ h; exact fcs_side h; done) | (intros; simp_all; done)) ?_)
  refine vcStop.call0 Tryd.body11 a1 rfl rfl (by simp [fD]) ?_
  simp -dsimp
  repeat refine And.intro (by first | rfl | omega | decide | (simp; done) | (simp; omega) | (intro _ h; exact fcs_side h; done) | (intros; simp_all; done)) ?_
  refine vcStop.call0 Tryd.body12 b1 rfl rfl (by simp [fD]) ?_
  simp -dsimp
  repeat refine And.intro (by first | rfl | omega | decide | (simp; done) | (simp; omega) | (intro _ h; exact fcs_side h; done) | (intros; simp_all; done)) ?_
  refine vcStopG.call0 Tryd.body11 (fun _ => a2) rfl (fun _ => rfl) (fun _ => by simp [fD]) ?_
  simp -dsimp
  repeat refine And.intro (by first | rfl | omega | decide | (simp; done) | (simp; omega) | (intro _ h; exact fcs_side h; done) | (intros; simp_all; done)) ?_
  refine vcStopG.call0 Tryd.body12 (fun _ => b2) rfl (fun _ => rfl) (fun _ => by simp [fD]) ?_
  simp -dsimp
  repeat refine And.intro (by first | rfl | omega | decide | (simp; done) | (simp; omega) | (intro _ h; exact fcs_side h; done) | (intros; simp_all; done)) ?_
  refine vcStopG.call0 Tryd.body13 (fun _ => c1) rfl (fun _ => rfl) (fun _ => by simp [fD]) ?_
  simp -dsimp
  repeat refine And.intro (by first | rfl | omega | decide | (simp; done) | (simp; omega) | (intro _ h; exact fcs_side h; done) | (intros; simp_all; done)) ?_
  refine vcStopG.call0 Tryd.body14 (fun _ => c2) rfl (fun _ => rfl) (fun _ => by simp [fD]) ?_
  simp -dsimp
  repeat refine And.intro (by first | rfl | omega | decide | (simp; done) | (simp; omega) | (intro _ h; exact fcs_side h; done) | (intros; simp_all; done)) ?_
  refine vcStopG.call0 Tryd.body13 (fun _ => c3) rfl (fun _ => rfl) (fun _ => by simp [fD]) ?_
  simp -dsimp
  repeat refine And.intro (by first | rfl | omega | decide | (simp; done) | (simp; omega) | (intro _ h; exact fcs_side h; done) | (intros; simp_all; done)) ?_
  refine vcStopG.call0 Tryd.body15 (fun _ => s1) rfl (fun _ => rfl) (fun _ => by simp [fD]) ?_
  simp -dsimp
  repeat refine And.intro (by first | rfl | omega | decide | (simp; done) | (simp; omega) | (intro _ h; exact fcs_side h; done) | (intros; simp_all; done)) ?_
  refine vcStopG.call0 Tryd.body16 (fun _ => s2) rfl (fun _ => rfl) (fun _ => by simp [fD]) ?_
  simp -dsimp
  repeat refine And.intro (by first | rfl | omega | decide | (simp; done) | (simp; omega) | (intro _ h; exact fcs_side h; done) | (intros; simp_all; done)) ?_
  refine WP.ret (finQ.retE ?_)
  simp -dsimp

set_option maxRecDepth 10000 in
set_option maxHeartbeats 4000000 in
theorem law_encode (f : Nat → Int) (bs : List UInt8) (hf : fOk f) : Fn0 Tryd.prog 4 [fD f, slB bs] (.v (.bool true)) := by
  have e1 := encode_ok f hf
  have e2 := refEncode_ok f hf
  rw [← enc_ref hf] at e2
  rw [encD] at e1
  have hlen : (encR f).1.length ≤ 10000 := by
    by_cases v : (numF f).2 = true
    · rw [enc_yes v]; exact encF_len hf
    · rw [enc_no v]; simp
  generalize encR f = R at *
  obtain ⟨c, e⟩ := R
  simp only at hlen e1 e2
  have d1 := factsDecode_ok c (by omega)
  have d2 := refDecode_ok c hlen
  have k1 := decF_ok (bs := c) (by omega)
  rw [decFD] at d1 d2
  generalize decF c = D1 at *
  obtain ⟨p, pe⟩ := D1
  simp only at d1 d2 k1
  refine Fun.of_wp (pn := noPn) Tryd.tab Tryd.func4 rfl fun β0 => ?_
  simp only [Tryd.f4]
  simp only [fD]
  repeat (first | refine WP.seq ?_ | refine WP.block ?_ | (refine WP.region Tryd.tab ?_; simp -dsimp) | (refine WP.draw Tryd.tab Tryd.mixed ?_; simp -dsimp) | refine And.intro (by first | rfl | omega | decide | (simp; done) | (simp; omega) | (intro _ h; exact fcs_side h; done) | (intros; simp_all; done)) ?_)
  refine vcStop.call0 Tryd.body10 sane_ok rfl rfl (by simp) ?_
  simp -dsimp
  repeat (first | refine WP.seq ?_ | refine WP.block ?_ | (refine WP.region Tryd.tab ?_; simp -dsimp) | (refine WP.draw Tryd.tab Tryd.mixed ?_; simp -dsimp) | refine And.intro (by first | rfl | omega | decide | (simp; done) | (simp; omega) | (intro _ h; exact fcs_side h; done) | (intros; simp_all; done)) ?_)
  refine WP.cond (b := false) (by simp) (fun h => by cases h) (fun _ => ?_)
  refine WP.skip ?_
  simp -dsimp
  repeat (first | refine WP.seq ?_ | refine WP.block ?_ | (refine WP.region Tryd.tab ?_; simp -dsimp) | (refine WP.draw Tryd.tab Tryd.mixed ?_; simp -dsimp) | refine And.intro (by first | rfl | omega | decide | (simp; done) | (simp; omega) | (intro _ h; exact fcs_side h; done) | (intros; simp_all; done)) ?_)
  refine WP.cond (b := decide (200 < bs.length)) (by simp; omega) (fun hb => ?_) (fun hb => ?_)
  · repeat (first | refine WP.seq ?_ | refine WP.block ?_ | (refine WP.region Tryd.tab ?_; simp -dsimp) | (refine WP.draw Tryd.tab Tryd.mixed ?_; simp -dsimp) | refine And.intro (by first | rfl | omega | decide | (simp; done) | (simp; omega) | (intro _ h; exact fcs_side h; done) | (intros; simp_all; done)) ?_)
    refine WP.ret (finQ.retE ?_)
    simp -dsimp
  have hb : ¬ 200 < bs.length := by simpa using hb
  have g1 := factsDecode_ok bs (by omega)
  have g2 := refDecode_ok bs (by omega)
  have k2 := decF_ok (bs := bs) (by omega)
  rw [decFD] at g1 g2
  generalize decF bs = D2 at *
  obtain ⟨q, qe⟩ := D2
  simp only at g1 g2 k2
  refine WP.skip ?_
  simp -dsimp
  repeat (first | refine WP.seq ?_ | refine WP.block ?_ | (refine WP.region Tryd.tab ?_; simp -dsimp) | (refine WP.draw Tryd.tab Tryd.mixed ?_; simp -dsimp) | refine And.intro (by first | rfl | omega | decide | (simp; done) | (simp; omega) | (intro _ h; exact fcs_side h; done) | (intros; simp_all; done)) ?_)
  refine vcStop.call0 Tryd.body17 e1 rfl rfl (by simp [fD]) ?_
  simp -dsimp
  repeat (first | refine WP.seq ?_ | refine WP.block ?_ | (refine WP.region Tryd.tab ?_; simp -dsimp) | (refine WP.draw Tryd.tab Tryd.mixed ?_; simp -dsimp) | refine And.intro (by first | rfl | omega | decide | (simp; done) | (simp; omega) | (intro _ h; exact fcs_side h; done) | (intros; simp_all; done)) ?_)
  refine vcStop.call0 Tryd.body18 e2 rfl rfl (by simp [fD]) ?_
  simp -dsimp
  repeat (first | refine WP.seq ?_ | refine WP.block ?_ | (refine WP.region Tryd.tab ?_; simp -dsimp) | (refine WP.draw Tryd.tab Tryd.mixed ?_; simp -dsimp) | refine And.intro (by first | rfl | omega | decide | (simp; done) | (simp; omega) | (intro _ h; exact fcs_side h; done) | (intros; simp_all; done)) ?_)
  refine vcStop.call0 Tryd.body19 g1 rfl rfl (by simp) ?_
  simp -dsimp [fD]
  repeat (first | refine WP.seq ?_ | refine WP.block ?_ | (refine WP.region Tryd.tab ?_; simp -dsimp) | (refine WP.draw Tryd.tab Tryd.mixed ?_; simp -dsimp) | refine And.intro (by first | rfl | omega | decide | (simp; done) | (simp; omega) | (intro _ h; exact fcs_side h; done) | (intros; simp_all; done)) ?_)
  refine vcStop.call0 Tryd.body20 g2 rfl rfl (by simp) ?_
  simp -dsimp [fD]
  repeat (first | refine WP.seq ?_ | refine WP.block ?_ | (refine WP.region Tryd.tab ?_; simp -dsimp) | (refine WP.draw Tryd.tab Tryd.mixed ?_; simp -dsimp) | refine And.intro (by first | rfl | omega | decide | (simp; done) | (simp; omega) | (intro _ h; exact fcs_side h; done) | (intros; simp_all; done)) ?_)
  refine vcStop.call0 Tryd.body19 d1 rfl rfl (by simp) ?_
  simp -dsimp [fD]
  repeat (first | refine WP.seq ?_ | refine WP.block ?_ | (refine WP.region Tryd.tab ?_; simp -dsimp) | (refine WP.draw Tryd.tab Tryd.mixed ?_; simp -dsimp) | refine And.intro (by first | rfl | omega | decide | (simp; done) | (simp; omega) | (intro _ h; exact fcs_side h; done) | (intros; simp_all; done)) ?_)
  refine vcStop.call0 Tryd.body20 d2 rfl rfl (by simp) ?_
  simp -dsimp [fD]
  repeat (first | refine WP.seq ?_ | refine WP.block ?_ | (refine WP.region Tryd.tab ?_; simp -dsimp) | (refine WP.draw Tryd.tab Tryd.mixed ?_; simp -dsimp) | refine And.intro (by first | rfl | omega | decide | (simp; done) | (simp; omega) | (intro _ h; exact fcs_side h; done) | (intros; simp_all; done)) ?_)
  refine vcStopG.eqS Tryd.tab gokF noarrF rfl (.inl rfl) (m := 5) (by omega) Tryd.key47 (by decide) Tryd.gd47 st47 (cs := fcs q 0 57) (es := fcs q 0 57) (fun _ => by simp) (fun _ => by simp) (okF k2.1) (okF k2.1) (r := true) (by simp) ?_
  simp -dsimp [eqRes]
  repeat refine And.intro (by first | rfl | omega | decide | (simp; done) | (simp; omega) | (intro _ h; exact fcs_side h; done) | (intros; simp_all; done)) ?_
  refine vcStopG.eqS Tryd.tab gokF noarrF rfl (.inl rfl) (m := 5) (by omega) Tryd.key47 (by decide) Tryd.gd47 st47 (cs := fcs p 0 57) (es := fcs p 0 57) (fun _ => by simp) (fun _ => by simp) (okF k1.1) (okF k1.1) (r := true) (by simp) ?_
  simp -dsimp [eqRes]
  repeat refine And.intro (by first | rfl | omega | decide | (simp; done) | (simp; omega) | (intro _ h; exact fcs_side h; done) | (intros; simp_all; done)) ?_
  refine WP.ret (finQ.retE ?_)
  simp -dsimp
end Go.Proofs.YtjfkeicmdaanbaaDoor
