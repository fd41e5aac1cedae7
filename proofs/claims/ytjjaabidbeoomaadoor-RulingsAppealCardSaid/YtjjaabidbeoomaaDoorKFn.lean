/-
  The order of facts.
-/
import Derived.Test.YtjjaabidbeoomaaDoorKFm
import Derived.Test.YtjjaabidbeoomaaDoorK4
set_option linter.unusedSectionVars false
set_option linter.unusedSimpArgs false
set_option linter.unusedVariables false
namespace Go.Proofs.YtjjaabidbeoomaaDoor
open Go.Xe Go.RowKit

theorem bytesCompare_ok (a b : List UInt8) : Fn0 Tryd.prog 28 [slB a, slB b] (.v (.int .i64 (Lib.compareBytes a b))) := by
  refine Fun.of_wp (pn := noPn) Tryd.tab Tryd.func28 rfl fun β0 => ?_
  simp only [Tryd.f28]
  repeat (first | refine WP.seq ?_ | refine WP.block ?_ | (refine WP.region Tryd.tab ?_; simp -dsimp) | (refine WP.draw Tryd.tab Tryd.mixed ?_; simp -dsimp) | refine And.intro (by first | rfl | omega | decide | (simp; done) | (simp; omega) | (intro _ h; exact fcs_side h; done) | (intros; simp_all; done) | (intros; simp_all; omega)) ?_)
  refine vcStop.cmpBytes Tryd.func44 (by kernel_rfl) rfl (by kernel_rfl) (by kernel_rfl) rfl (l := a) (m := b) rfl rfl ?_
  simp -dsimp
  repeat (first | refine WP.seq ?_ | refine WP.block ?_ | (refine WP.region Tryd.tab ?_; simp -dsimp) | (refine WP.draw Tryd.tab Tryd.mixed ?_; simp -dsimp) | refine And.intro (by first | rfl | omega | decide | (simp; done) | (simp; omega) | (intro _ h; exact fcs_side h; done) | (intros; simp_all; done) | (intros; simp_all; omega)) ?_)
  refine WP.ret (finQ.retE ?_)
  simp -dsimp
theorem or_row (a b c : Int) : Fun Tryd.prog 25 [.row 1000] [(1000, .row 3 1 3 [.d (.v (.int .i64 a)), .d (.v (.int .i64 b)), .d (.v (.int .i64 c))])] (.d (.v (.int .i64 (orL [a, b, c])))) [] fun _ => False :=
  Fun.ofRow 1000 (T := 3) (cs := iD [a, b, c]) (or_ok [a, b, c] (by simp)) rfl rfl trivial
/-- What Compare says. -/
def headC (f g : Nat → Int) : Int := orL [cmpI (f 2) (g 2), cmpI (f 0) (g 0), cmpI (f 1) (g 1)]
def cmpF (f g : Nat → Int) : Int := if headC f g = 0 then Lib.compareBytes (encR f).1 (encR g).1 else headC f g
set_option maxRecDepth 10000 in
set_option maxHeartbeats 4000000 in
theorem factsCompare_ok (f g : Nat → Int) (hf : fOk f) (hg : fOk g) : Fn0 Tryd.prog 17 [fD f, fD g] (.v (.int .i64 (cmpF f g))) := by
  have ef := encode_ok f hf
  have eg := encode_ok g hg
  unfold encD at ef eg
  refine Fun.of_wp (pn := noPn) Tryd.tab Tryd.func17 rfl fun β0 => ?_
  simp only [Tryd.f17]
  simp only [fD]
  repeat (first | refine WP.seq ?_ | refine WP.block ?_ | (refine WP.region Tryd.tab ?_; simp -dsimp) | (refine WP.draw Tryd.tab Tryd.mixed ?_; simp -dsimp) | refine And.intro (by first | rfl | omega | decide | (simp; done) | (simp; omega) | (intro _ h; exact fcs_side h; done) | (intros; simp_all; done) | (intros; simp_all; omega)) ?_)
  refine vcStop.call0 Tryd.body26 (compare_ok (f 2) (g 2)) rfl rfl (by simp) ?_
  simp -dsimp
  repeat refine And.intro (by first | rfl | omega | decide | (simp; done) | (simp; omega) | (intro _ h; exact fcs_side h; done) | (intros; simp_all; done) | (intros; simp_all; omega)) ?_
  refine vcStop.call0 Tryd.body26 (compare_ok (f 0) (g 0)) rfl rfl (by simp) ?_
  simp -dsimp
  repeat refine And.intro (by first | rfl | omega | decide | (simp; done) | (simp; omega) | (intro _ h; exact fcs_side h; done) | (intros; simp_all; done) | (intros; simp_all; omega)) ?_
  refine vcStop.call0 Tryd.body26 (compare_ok (f 1) (g 1)) rfl rfl (by simp) ?_
  simp -dsimp
  repeat refine And.intro (by first | rfl | omega | decide | (simp; done) | (simp; omega) | (intro _ h; exact fcs_side h; done) | (intros; simp_all; done) | (intros; simp_all; omega)) ?_
  refine vcStop.call Tryd.body25 (or_row (cmpI (f 2) (g 2)) (cmpI (f 0) (g 0)) (cmpI (f 1) (g 1))) (rl [(1000, 25)]) rfl rfl (by simp [BoxLeq]) (CallOk.of (by simp [BoxLeq]) rfl (by first | rfl | (simp [BoxLeq]; done)) (by simp [BoxLeq]) (by simp [BoxLeq])) (fun _ h => h.elim) (fun ⟨_, h⟩ => h.elim) (fun ⟨_, h⟩ => h.elim) (by simp [BoxLeq]) ?_
  simp -dsimp
  repeat (first | refine WP.seq ?_ | refine WP.block ?_ | (refine WP.region Tryd.tab ?_; simp -dsimp) | (refine WP.draw Tryd.tab Tryd.mixed ?_; simp -dsimp) | refine And.intro (by first | rfl | omega | decide | (simp; done) | (simp; omega) | (intro _ h; exact fcs_side h; done) | (intros; simp_all; done) | (intros; simp_all; omega)) ?_)
  refine WP.cond (b := !decide (headC f g = 0)) (by simp [headC]; rfl) (fun hb => ?_) (fun hb => ?_)
  · have hb : ¬ headC f g = 0 := by simpa using hb
    repeat (first | refine WP.seq ?_ | refine WP.block ?_ | (refine WP.region Tryd.tab ?_; simp -dsimp) | (refine WP.draw Tryd.tab Tryd.mixed ?_; simp -dsimp) | refine And.intro (by first | rfl | omega | decide | (simp; done) | (simp; omega) | (intro _ h; exact fcs_side h; done) | (intros; simp_all; done) | (intros; simp_all; omega)) ?_)
    have e : cmpF f g = headC f g := if_neg hb
    refine WP.ret (finQ.retE ?_)
    simp -dsimp [e, headC]
  have hb : headC f g = 0 := by simpa using hb
  refine WP.skip ?_
  simp -dsimp
  repeat (first | refine WP.seq ?_ | refine WP.block ?_ | (refine WP.region Tryd.tab ?_; simp -dsimp) | (refine WP.draw Tryd.tab Tryd.mixed ?_; simp -dsimp) | refine And.intro (by first | rfl | omega | decide | (simp; done) | (simp; omega) | (intro _ h; exact fcs_side h; done) | (intros; simp_all; done) | (intros; simp_all; omega)) ?_)
  refine vcStop.call0 Tryd.body27 ef rfl rfl (by simp [fD]) ?_
  simp -dsimp
  repeat (first | refine WP.seq ?_ | refine WP.block ?_ | (refine WP.region Tryd.tab ?_; simp -dsimp) | (refine WP.draw Tryd.tab Tryd.mixed ?_; simp -dsimp) | refine And.intro (by first | rfl | omega | decide | (simp; done) | (simp; omega) | (intro _ h; exact fcs_side h; done) | (intros; simp_all; done) | (intros; simp_all; omega)) ?_)
  refine vcStop.call0 Tryd.body27 eg rfl rfl (by simp [fD]) ?_
  simp -dsimp
  repeat (first | refine WP.seq ?_ | refine WP.block ?_ | (refine WP.region Tryd.tab ?_; simp -dsimp) | (refine WP.draw Tryd.tab Tryd.mixed ?_; simp -dsimp) | refine And.intro (by first | rfl | omega | decide | (simp; done) | (simp; omega) | (intro _ h; exact fcs_side h; done) | (intros; simp_all; done) | (intros; simp_all; omega)) ?_)
  refine vcStop.call0 Tryd.body28 (bytesCompare_ok (encR f).1 (encR g).1) rfl rfl (by simp) ?_
  simp -dsimp
  repeat (first | refine WP.seq ?_ | refine WP.block ?_ | (refine WP.region Tryd.tab ?_; simp -dsimp) | (refine WP.draw Tryd.tab Tryd.mixed ?_; simp -dsimp) | refine And.intro (by first | rfl | omega | decide | (simp; done) | (simp; omega) | (intro _ h; exact fcs_side h; done) | (intros; simp_all; done) | (intros; simp_all; omega)) ?_)
  refine WP.ret (finQ.retE ?_)
  simp -dsimp [cmpF, hb]
end Go.Proofs.YtjjaabidbeoomaaDoor
