/-
  The order of facts.
-/
import Derived.Test.YtjjaabidbeoomaaGreatDoorKFm
import Derived.Test.YtjjaabidbeoomaaGreatDoorK4
set_option linter.unusedSectionVars false
set_option linter.unusedSimpArgs false
set_option linter.unusedVariables false
namespace Go.Proofs.YtjjaabidbeoomaaGreatDoor
open Go.Xe Go.RowKit

theorem bytesCompare_ok (a b : List UInt8) : Fn0 Tryz.prog 46 [slB a, slB b] (.v (.int .i64 (Lib.compareBytes a b))) := by
  refine Fun.of_wp (pn := noPn) Tryz.tab Tryz.func46 rfl fun β0 => ?_
  simp only [Tryz.f46]
  repeat (first | refine wS ?_ | refine wB ?_ | ((first | refine wR ?_ | refine wD ?_); simp -dsimp) | refine aI ?_)
  refine vcStop.cmpBytes Tryz.func62 (by kernel_rfl) rfl (by kernel_rfl) (by kernel_rfl) rfl (l := a) (m := b) rfl rfl ?_
  simp -dsimp
  repeat (first | refine wS ?_ | refine wB ?_ | ((first | refine wR ?_ | refine wD ?_); simp -dsimp) | refine aI ?_)
  refine WP.ret (finQ.retE ?_)
  simp -dsimp
theorem or_row (a b c : Int) : Fun Tryz.prog 44 [.row 1000] [(1000, .row 3 1 3 [.d (.v (.int .i64 a)), .d (.v (.int .i64 b)), .d (.v (.int .i64 c))])] (.d (.v (.int .i64 (orL [a, b, c])))) [] fun _ => False :=
  Fun.ofRow 1000 (T := 3) (cs := iD [a, b, c]) (or_ok [a, b, c] (by simp)) rfl rfl trivial
/-- What Compare says. -/
def headC (f g : Nat → Int) : Int := orL [cmpI (f 2) (g 2), cmpI (f 0) (g 0), cmpI (f 1) (g 1)]
def cmpF (f g : Nat → Int) : Int := if headC f g = 0 then Lib.compareBytes (encR f).1 (encR g).1 else headC f g
set_option maxRecDepth 10000 in
set_option maxHeartbeats 4000000 in
theorem factsCompare_ok (f g : Nat → Int) (hf : fOk f) (hg : fOk g) : Fn0 Tryz.prog 29 [fD f, fD g] (.v (.int .i64 (cmpF f g))) := by
  have ef := encode_ok f hf
  have eg := encode_ok g hg
  unfold encD at ef eg
  refine Fun.of_wp (pn := noPn) Tryz.tab Tryz.func29 rfl fun β0 => ?_
  simp only [Tryz.f29]
  simp only [fD]
  repeat (first | refine wS ?_ | refine wB ?_ | ((first | refine wR ?_ | refine wD ?_); simp -dsimp) | refine aI ?_)
  refine vcStop.call0 Tryz.body39 (compare_ok (f 2) (g 2)) rfl rfl (by simp) ?_
  simp -dsimp
  repeat refine aI ?_
  refine vcStop.call0 Tryz.body39 (compare_ok (f 0) (g 0)) rfl rfl (by simp) ?_
  simp -dsimp
  repeat refine aI ?_
  refine vcStop.call0 Tryz.body39 (compare_ok (f 1) (g 1)) rfl rfl (by simp) ?_
  simp -dsimp
  repeat refine aI ?_
  refine vcStop.call Tryz.body44 (or_row (cmpI (f 2) (g 2)) (cmpI (f 0) (g 0)) (cmpI (f 1) (g 1))) (rl [(1000, 25)]) rfl rfl (by simp [BoxLeq]) (CallOk.of (by simp [BoxLeq]) rfl (by first | rfl | (simp [BoxLeq]; done)) (by simp [BoxLeq]) (by simp [BoxLeq])) (fun _ h => h.elim) (fun ⟨_, h⟩ => h.elim) (fun ⟨_, h⟩ => h.elim) (by simp [BoxLeq]) ?_
  simp -dsimp
  repeat (first | refine wS ?_ | refine wB ?_ | ((first | refine wR ?_ | refine wD ?_); simp -dsimp) | refine aI ?_)
  refine WP.cond (b := !decide (headC f g = 0)) (by simp [headC]; rfl) (fun hb => ?_) (fun hb => ?_)
  · have hb : ¬ headC f g = 0 := by simpa using hb
    repeat (first | refine wS ?_ | refine wB ?_ | ((first | refine wR ?_ | refine wD ?_); simp -dsimp) | refine aI ?_)
    have e : cmpF f g = headC f g := if_neg hb
    refine WP.ret (finQ.retE ?_)
    simp -dsimp [e, headC]
  have hb : headC f g = 0 := by simpa using hb
  refine WP.skip ?_
  simp -dsimp
  repeat (first | refine wS ?_ | refine wB ?_ | ((first | refine wR ?_ | refine wD ?_); simp -dsimp) | refine aI ?_)
  refine vcStop.call0 Tryz.body45 ef rfl rfl (by simp [fD]) ?_
  simp -dsimp
  repeat (first | refine wS ?_ | refine wB ?_ | ((first | refine wR ?_ | refine wD ?_); simp -dsimp) | refine aI ?_)
  refine vcStop.call0 Tryz.body45 eg rfl rfl (by simp [fD]) ?_
  simp -dsimp
  repeat (first | refine wS ?_ | refine wB ?_ | ((first | refine wR ?_ | refine wD ?_); simp -dsimp) | refine aI ?_)
  refine vcStop.call0 Tryz.body46 (bytesCompare_ok (encR f).1 (encR g).1) rfl rfl (by simp) ?_
  simp -dsimp
  repeat (first | refine wS ?_ | refine wB ?_ | ((first | refine wR ?_ | refine wD ?_); simp -dsimp) | refine aI ?_)
  refine WP.ret (finQ.retE ?_)
  simp -dsimp [cmpF, hb]
end Go.Proofs.YtjjaabidbeoomaaGreatDoor
