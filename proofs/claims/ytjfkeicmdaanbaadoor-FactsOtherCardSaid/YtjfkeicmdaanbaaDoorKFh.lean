/-
  The reference's checks: numbers in their ranges.
-/
import Derived.Test.YtjfkeicmdaanbaaDoorKFf
set_option linter.unusedSectionVars false
set_option linter.unusedSimpArgs false
set_option linter.unusedVariables false
namespace Go.Proofs.YtjfkeicmdaanbaaDoor
open Go.Xe Go.RowKit

abbrev inB (x lo hi : Int) : Bool := decide (lo ≤ x) && decide (x ≤ hi)
theorem in_ok (x lo hi : Int) : Fn0 Tryd.prog 27 [.v (.int .i64 x), .v (.int .i64 lo), .v (.int .i64 hi)] (.v (.bool (inB x lo hi))) := by
  refine Fun.of_wp (pn := noPn) Tryd.tab Tryd.func27 rfl fun β0 => ?_
  simp only [Tryd.f27]
  repeat (first | refine WP.seq ?_ | refine WP.block ?_ | (refine WP.region Tryd.tab ?_; simp -dsimp) | (refine WP.draw Tryd.tab Tryd.mixed ?_; simp -dsimp) | refine And.intro (by first | rfl | omega | decide | (simp; done) | (simp; omega) | (intro _ h; exact fcs_side h; done) | (intros; simp_all; done)) ?_)
  refine WP.ret (finQ.retE ?_)
  simp -dsimp
theorem time_ok (x : Int) : Fn0 Tryd.prog 52 [.v (.int .i64 x)] (.v (.bool (inB x (-1099511627776) 1099511627776))) := by
  refine Fun.of_wp (pn := noPn) Tryd.tab Tryd.func52 rfl fun β0 => ?_
  simp only [Tryd.f52]
  repeat (first | refine WP.seq ?_ | refine WP.block ?_ | (refine WP.region Tryd.tab ?_; simp -dsimp) | (refine WP.draw Tryd.tab Tryd.mixed ?_; simp -dsimp) | refine And.intro (by first | rfl | omega | decide | (simp; done) | (simp; omega) | (intro _ h; exact fcs_side h; done) | (intros; simp_all; done)) ?_)
  refine vcStop.call0 Tryd.body27 (in_ok x (-1099511627776) 1099511627776) rfl rfl (by simp) ?_
  simp -dsimp
  repeat (first | refine WP.seq ?_ | refine WP.block ?_ | (refine WP.region Tryd.tab ?_; simp -dsimp) | (refine WP.draw Tryd.tab Tryd.mixed ?_; simp -dsimp) | refine And.intro (by first | rfl | omega | decide | (simp; done) | (simp; omega) | (intro _ h; exact fcs_side h; done) | (intros; simp_all; done)) ?_)
  refine WP.ret (finQ.retE ?_)
  simp -dsimp
theorem bib_ok (x : Int) : Fn0 Tryd.prog 54 [.v (.int .i64 x)] (.v (.bool (inB x (1) 9999))) := by
  refine Fun.of_wp (pn := noPn) Tryd.tab Tryd.func54 rfl fun β0 => ?_
  simp only [Tryd.f54]
  repeat (first | refine WP.seq ?_ | refine WP.block ?_ | (refine WP.region Tryd.tab ?_; simp -dsimp) | (refine WP.draw Tryd.tab Tryd.mixed ?_; simp -dsimp) | refine And.intro (by first | rfl | omega | decide | (simp; done) | (simp; omega) | (intro _ h; exact fcs_side h; done) | (intros; simp_all; done)) ?_)
  refine vcStop.call0 Tryd.body27 (in_ok x (1) 9999) rfl rfl (by simp) ?_
  simp -dsimp
  repeat (first | refine WP.seq ?_ | refine WP.block ?_ | (refine WP.region Tryd.tab ?_; simp -dsimp) | (refine WP.draw Tryd.tab Tryd.mixed ?_; simp -dsimp) | refine And.intro (by first | rfl | omega | decide | (simp; done) | (simp; omega) | (intro _ h; exact fcs_side h; done) | (intros; simp_all; done)) ?_)
  refine WP.ret (finQ.retE ?_)
  simp -dsimp
theorem mat_ok (x : Int) : Fn0 Tryd.prog 49 [.v (.int .i64 x)] (.v (.bool (inB x (0) 39))) := by
  refine Fun.of_wp (pn := noPn) Tryd.tab Tryd.func49 rfl fun β0 => ?_
  simp only [Tryd.f49]
  repeat (first | refine WP.seq ?_ | refine WP.block ?_ | (refine WP.region Tryd.tab ?_; simp -dsimp) | (refine WP.draw Tryd.tab Tryd.mixed ?_; simp -dsimp) | refine And.intro (by first | rfl | omega | decide | (simp; done) | (simp; omega) | (intro _ h; exact fcs_side h; done) | (intros; simp_all; done)) ?_)
  refine vcStop.call0 Tryd.body27 (in_ok x (0) 39) rfl rfl (by simp) ?_
  simp -dsimp
  repeat (first | refine WP.seq ?_ | refine WP.block ?_ | (refine WP.region Tryd.tab ?_; simp -dsimp) | (refine WP.draw Tryd.tab Tryd.mixed ?_; simp -dsimp) | refine And.intro (by first | rfl | omega | decide | (simp; done) | (simp; omega) | (intro _ h; exact fcs_side h; done) | (intros; simp_all; done)) ?_)
  refine WP.ret (finQ.retE ?_)
  simp -dsimp
theorem epoch_ok (x : Int) : Fn0 Tryd.prog 50 [.v (.int .i64 x)] (.v (.bool (inB x (0) 255))) := by
  refine Fun.of_wp (pn := noPn) Tryd.tab Tryd.func50 rfl fun β0 => ?_
  simp only [Tryd.f50]
  repeat (first | refine WP.seq ?_ | refine WP.block ?_ | (refine WP.region Tryd.tab ?_; simp -dsimp) | (refine WP.draw Tryd.tab Tryd.mixed ?_; simp -dsimp) | refine And.intro (by first | rfl | omega | decide | (simp; done) | (simp; omega) | (intro _ h; exact fcs_side h; done) | (intros; simp_all; done)) ?_)
  refine vcStop.call0 Tryd.body27 (in_ok x (0) 255) rfl rfl (by simp) ?_
  simp -dsimp
  repeat (first | refine WP.seq ?_ | refine WP.block ?_ | (refine WP.region Tryd.tab ?_; simp -dsimp) | (refine WP.draw Tryd.tab Tryd.mixed ?_; simp -dsimp) | refine And.intro (by first | rfl | omega | decide | (simp; done) | (simp; omega) | (intro _ h; exact fcs_side h; done) | (intros; simp_all; done)) ?_)
  refine WP.ret (finQ.retE ?_)
  simp -dsimp
theorem chip_ok (x : Int) : Fn0 Tryd.prog 51 [.v (.int .i64 x)] (.v (.bool (inB x (0) 1048576))) := by
  refine Fun.of_wp (pn := noPn) Tryd.tab Tryd.func51 rfl fun β0 => ?_
  simp only [Tryd.f51]
  repeat (first | refine WP.seq ?_ | refine WP.block ?_ | (refine WP.region Tryd.tab ?_; simp -dsimp) | (refine WP.draw Tryd.tab Tryd.mixed ?_; simp -dsimp) | refine And.intro (by first | rfl | omega | decide | (simp; done) | (simp; omega) | (intro _ h; exact fcs_side h; done) | (intros; simp_all; done)) ?_)
  refine vcStop.call0 Tryd.body27 (in_ok x (0) 1048576) rfl rfl (by simp) ?_
  simp -dsimp
  repeat (first | refine WP.seq ?_ | refine WP.block ?_ | (refine WP.region Tryd.tab ?_; simp -dsimp) | (refine WP.draw Tryd.tab Tryd.mixed ?_; simp -dsimp) | refine And.intro (by first | rfl | omega | decide | (simp; done) | (simp; omega) | (intro _ h; exact fcs_side h; done) | (intros; simp_all; done)) ?_)
  refine WP.ret (finQ.retE ?_)
  simp -dsimp
theorem pos_ok (x : Int) : Fn0 Tryd.prog 55 [.v (.int .i64 x)] (.v (.bool (inB x (0) 255))) := by
  refine Fun.of_wp (pn := noPn) Tryd.tab Tryd.func55 rfl fun β0 => ?_
  simp only [Tryd.f55]
  repeat (first | refine WP.seq ?_ | refine WP.block ?_ | (refine WP.region Tryd.tab ?_; simp -dsimp) | (refine WP.draw Tryd.tab Tryd.mixed ?_; simp -dsimp) | refine And.intro (by first | rfl | omega | decide | (simp; done) | (simp; omega) | (intro _ h; exact fcs_side h; done) | (intros; simp_all; done)) ?_)
  refine vcStop.call0 Tryd.body27 (in_ok x (0) 255) rfl rfl (by simp) ?_
  simp -dsimp
  repeat (first | refine WP.seq ?_ | refine WP.block ?_ | (refine WP.region Tryd.tab ?_; simp -dsimp) | (refine WP.draw Tryd.tab Tryd.mixed ?_; simp -dsimp) | refine And.intro (by first | rfl | omega | decide | (simp; done) | (simp; omega) | (intro _ h; exact fcs_side h; done) | (intros; simp_all; done)) ?_)
  refine WP.ret (finQ.retE ?_)
  simp -dsimp
theorem case_ok (x : Int) : Fn0 Tryd.prog 56 [.v (.int .i64 x)] (.v (.bool (inB x (1) 1048576))) := by
  refine Fun.of_wp (pn := noPn) Tryd.tab Tryd.func56 rfl fun β0 => ?_
  simp only [Tryd.f56]
  repeat (first | refine WP.seq ?_ | refine WP.block ?_ | (refine WP.region Tryd.tab ?_; simp -dsimp) | (refine WP.draw Tryd.tab Tryd.mixed ?_; simp -dsimp) | refine And.intro (by first | rfl | omega | decide | (simp; done) | (simp; omega) | (intro _ h; exact fcs_side h; done) | (intros; simp_all; done)) ?_)
  refine vcStop.call0 Tryd.body27 (in_ok x (1) 1048576) rfl rfl (by simp) ?_
  simp -dsimp
  repeat (first | refine WP.seq ?_ | refine WP.block ?_ | (refine WP.region Tryd.tab ?_; simp -dsimp) | (refine WP.draw Tryd.tab Tryd.mixed ?_; simp -dsimp) | refine And.intro (by first | rfl | omega | decide | (simp; done) | (simp; omega) | (intro _ h; exact fcs_side h; done) | (intros; simp_all; done)) ?_)
  refine WP.ret (finQ.retE ?_)
  simp -dsimp
theorem number_ok (x : Int) : Fn0 Tryd.prog 26 [.v (.int .i64 x)] (.v (.bool (inB x (1) 1048576))) := by
  refine Fun.of_wp (pn := noPn) Tryd.tab Tryd.func26 rfl fun β0 => ?_
  simp only [Tryd.f26]
  repeat (first | refine WP.seq ?_ | refine WP.block ?_ | (refine WP.region Tryd.tab ?_; simp -dsimp) | (refine WP.draw Tryd.tab Tryd.mixed ?_; simp -dsimp) | refine And.intro (by first | rfl | omega | decide | (simp; done) | (simp; omega) | (intro _ h; exact fcs_side h; done) | (intros; simp_all; done)) ?_)
  refine vcStop.call0 Tryd.body27 (in_ok x (1) 1048576) rfl rfl (by simp) ?_
  simp -dsimp
  repeat (first | refine WP.seq ?_ | refine WP.block ?_ | (refine WP.region Tryd.tab ?_; simp -dsimp) | (refine WP.draw Tryd.tab Tryd.mixed ?_; simp -dsimp) | refine And.intro (by first | rfl | omega | decide | (simp; done) | (simp; omega) | (intro _ h; exact fcs_side h; done) | (intros; simp_all; done)) ?_)
  refine WP.ret (finQ.retE ?_)
  simp -dsimp
theorem crew_ok (x : Int) : Fn0 Tryd.prog 25 [.v (.int .i64 x)] (.v (.bool (inB x (0) 31))) := by
  refine Fun.of_wp (pn := noPn) Tryd.tab Tryd.func25 rfl fun β0 => ?_
  simp only [Tryd.f25]
  repeat (first | refine WP.seq ?_ | refine WP.block ?_ | (refine WP.region Tryd.tab ?_; simp -dsimp) | (refine WP.draw Tryd.tab Tryd.mixed ?_; simp -dsimp) | refine And.intro (by first | rfl | omega | decide | (simp; done) | (simp; omega) | (intro _ h; exact fcs_side h; done) | (intros; simp_all; done)) ?_)
  refine vcStop.call0 Tryd.body27 (in_ok x (0) 31) rfl rfl (by simp) ?_
  simp -dsimp
  repeat (first | refine WP.seq ?_ | refine WP.block ?_ | (refine WP.region Tryd.tab ?_; simp -dsimp) | (refine WP.draw Tryd.tab Tryd.mixed ?_; simp -dsimp) | refine And.intro (by first | rfl | omega | decide | (simp; done) | (simp; omega) | (intro _ h; exact fcs_side h; done) | (intros; simp_all; done)) ?_)
  refine WP.ret (finQ.retE ?_)
  simp -dsimp
set_option maxRecDepth 10000 in
theorem starter_ok (f : Nat → Int) : Fn0 Tryd.prog 48 [.agg (fcs f 4 8)] (.v (.bool (inB (f 4) 1 9999 && inB (f 5) 0 7 && inB (f 6) 0 31 && inB (f 7) (-1099511627776) 1099511627776 && inB (f 8) 0 120 && inB (f 9) 0 1048576 && inB (f 10) 0 9999 && inB (f 11) 0 1048576))) := by
  refine Fun.of_wp (pn := noPn) Tryd.tab Tryd.func48 rfl fun β0 => ?_
  simp only [Tryd.f48]
  repeat (first | refine WP.seq ?_ | refine WP.block ?_ | (refine WP.region Tryd.tab ?_; simp -dsimp) | (refine WP.draw Tryd.tab Tryd.mixed ?_; simp -dsimp) | refine And.intro (by first | rfl | omega | decide | (simp; done) | (simp; omega) | (intro _ h; exact fcs_side h; done) | (intros; simp_all; done)) ?_)
  refine vcStop.call0 Tryd.body54 (bib_ok (f 4)) rfl rfl (by simp) ?_
  simp -dsimp
  repeat refine And.intro (by first | rfl | omega | decide | (simp; done) | (simp; omega) | (intro _ h; exact fcs_side h; done) | (intros; simp_all; done)) ?_
  refine vcStopG.call0 Tryd.body27 (fun _ => in_ok (f 5) (0) (7)) rfl (fun _ => rfl) (fun _ => by simp) ?_
  simp -dsimp
  repeat refine And.intro (by first | rfl | omega | decide | (simp; done) | (simp; omega) | (intro _ h; exact fcs_side h; done) | (intros; simp_all; done)) ?_
  refine vcStopG.call0 Tryd.body27 (fun _ => in_ok (f 6) (0) (31)) rfl (fun _ => rfl) (fun _ => by simp) ?_
  simp -dsimp
  repeat refine And.intro (by first | rfl | omega | decide | (simp; done) | (simp; omega) | (intro _ h; exact fcs_side h; done) | (intros; simp_all; done)) ?_
  refine vcStopG.call0 Tryd.body52 (fun _ => time_ok (f 7)) rfl (fun _ => rfl) (fun _ => by simp) ?_
  simp -dsimp
  repeat refine And.intro (by first | rfl | omega | decide | (simp; done) | (simp; omega) | (intro _ h; exact fcs_side h; done) | (intros; simp_all; done)) ?_
  refine vcStopG.call0 Tryd.body27 (fun _ => in_ok (f 8) (0) (120)) rfl (fun _ => rfl) (fun _ => by simp) ?_
  simp -dsimp
  repeat refine And.intro (by first | rfl | omega | decide | (simp; done) | (simp; omega) | (intro _ h; exact fcs_side h; done) | (intros; simp_all; done)) ?_
  refine vcStopG.call0 Tryd.body51 (fun _ => chip_ok (f 9)) rfl (fun _ => rfl) (fun _ => by simp) ?_
  simp -dsimp
  repeat refine And.intro (by first | rfl | omega | decide | (simp; done) | (simp; omega) | (intro _ h; exact fcs_side h; done) | (intros; simp_all; done)) ?_
  refine vcStopG.call0 Tryd.body27 (fun _ => in_ok (f 10) (0) (9999)) rfl (fun _ => rfl) (fun _ => by simp) ?_
  simp -dsimp
  repeat refine And.intro (by first | rfl | omega | decide | (simp; done) | (simp; omega) | (intro _ h; exact fcs_side h; done) | (intros; simp_all; done)) ?_
  refine vcStopG.call0 Tryd.body27 (fun _ => in_ok (f 11) (0) (1048576)) rfl (fun _ => rfl) (fun _ => by simp) ?_
  simp -dsimp
  repeat refine And.intro (by first | rfl | omega | decide | (simp; done) | (simp; omega) | (intro _ h; exact fcs_side h; done) | (intros; simp_all; done)) ?_
  repeat (first | refine WP.seq ?_ | refine WP.block ?_ | (refine WP.region Tryd.tab ?_; simp -dsimp) | (refine WP.draw Tryd.tab Tryd.mixed ?_; simp -dsimp) | refine And.intro (by first | rfl | omega | decide | (simp; done) | (simp; omega) | (intro _ h; exact fcs_side h; done) | (intros; simp_all; done)) ?_)
  refine WP.ret (finQ.retE ?_)
  simp -dsimp
set_option maxRecDepth 10000 in
theorem sync_ok (f : Nat → Int) : Fn0 Tryd.prog 53 [.agg (fcs f 21 8)] (.v (.bool (inB (f 21) 0 39 && inB (f 24) 0 39 && inB (f 22) 0 255 && inB (f 25) 0 255 && inB (f 23) (-1099511627776) 1099511627776 && inB (f 26) (-1099511627776) 1099511627776 && inB (f 27) (-1099511627776) 1099511627776 && inB (f 28) (-1099511627776) 1099511627776 && decide (f 27 ≤ f 28)))) := by
  refine Fun.of_wp (pn := noPn) Tryd.tab Tryd.func53 rfl fun β0 => ?_
  simp only [Tryd.f53]
  repeat (first | refine WP.seq ?_ | refine WP.block ?_ | (refine WP.region Tryd.tab ?_; simp -dsimp) | (refine WP.draw Tryd.tab Tryd.mixed ?_; simp -dsimp) | refine And.intro (by first | rfl | omega | decide | (simp; done) | (simp; omega) | (intro _ h; exact fcs_side h; done) | (intros; simp_all; done)) ?_)
  refine vcStop.call0 Tryd.body49 (mat_ok (f 21)) rfl rfl (by simp) ?_
  simp -dsimp
  repeat refine And.intro (by first | rfl | omega | decide | (simp; done) | (simp; omega) | (intro _ h; exact fcs_side h; done) | (intros; simp_all; done)) ?_
  refine vcStopG.call0 Tryd.body49 (fun _ => mat_ok (f 24)) rfl (fun _ => rfl) (fun _ => by simp) ?_
  simp -dsimp
  repeat refine And.intro (by first | rfl | omega | decide | (simp; done) | (simp; omega) | (intro _ h; exact fcs_side h; done) | (intros; simp_all; done)) ?_
  refine vcStopG.call0 Tryd.body50 (fun _ => epoch_ok (f 22)) rfl (fun _ => rfl) (fun _ => by simp) ?_
  simp -dsimp
  repeat refine And.intro (by first | rfl | omega | decide | (simp; done) | (simp; omega) | (intro _ h; exact fcs_side h; done) | (intros; simp_all; done)) ?_
  refine vcStopG.call0 Tryd.body50 (fun _ => epoch_ok (f 25)) rfl (fun _ => rfl) (fun _ => by simp) ?_
  simp -dsimp
  repeat refine And.intro (by first | rfl | omega | decide | (simp; done) | (simp; omega) | (intro _ h; exact fcs_side h; done) | (intros; simp_all; done)) ?_
  refine vcStopG.call0 Tryd.body52 (fun _ => time_ok (f 23)) rfl (fun _ => rfl) (fun _ => by simp) ?_
  simp -dsimp
  repeat refine And.intro (by first | rfl | omega | decide | (simp; done) | (simp; omega) | (intro _ h; exact fcs_side h; done) | (intros; simp_all; done)) ?_
  refine vcStopG.call0 Tryd.body52 (fun _ => time_ok (f 26)) rfl (fun _ => rfl) (fun _ => by simp) ?_
  simp -dsimp
  repeat refine And.intro (by first | rfl | omega | decide | (simp; done) | (simp; omega) | (intro _ h; exact fcs_side h; done) | (intros; simp_all; done)) ?_
  refine vcStopG.call0 Tryd.body52 (fun _ => time_ok (f 27)) rfl (fun _ => rfl) (fun _ => by simp) ?_
  simp -dsimp
  repeat refine And.intro (by first | rfl | omega | decide | (simp; done) | (simp; omega) | (intro _ h; exact fcs_side h; done) | (intros; simp_all; done)) ?_
  refine vcStopG.call0 Tryd.body52 (fun _ => time_ok (f 28)) rfl (fun _ => rfl) (fun _ => by simp) ?_
  simp -dsimp
  repeat refine And.intro (by first | rfl | omega | decide | (simp; done) | (simp; omega) | (intro _ h; exact fcs_side h; done) | (intros; simp_all; done)) ?_
  repeat (first | refine WP.seq ?_ | refine WP.block ?_ | (refine WP.region Tryd.tab ?_; simp -dsimp) | (refine WP.draw Tryd.tab Tryd.mixed ?_; simp -dsimp) | refine And.intro (by first | rfl | omega | decide | (simp; done) | (simp; omega) | (intro _ h; exact fcs_side h; done) | (intros; simp_all; done)) ?_)
  refine WP.ret (finQ.retE ?_)
  simp -dsimp
end Go.Proofs.YtjfkeicmdaanbaaDoor
