import Derived.Test.YtnbanfpelgcmoaaCh
set_option linter.unusedSimpArgs false
set_option linter.unusedVariables false
namespace Go.Proofs.Ytnbanfpelgcmoaa
open Go.Xe Go.RowKit

theorem f22_ok (l : List V) : Fn0 Try.prog 22 [slV l] (V.mk 3 0 ⟨#[]⟩ l).d := by
  refine Fun.of_wp (pn := noPn) Try.tab Try.func22 rfl fun β0 => ?_
  simp only [Try.f22]
  repeat (first | refine WP.seq ?_ | refine WP.block ?_ | (refine WP.region Try.tab ?_; simp -dsimp) | (refine WP.draw Try.tab Try.mixed ?_; simp -dsimp) | refine And.intro (by first | rfl | omega | decide | (simp; done) | (simp; omega) | (intros; simp_all; done)) ?_)
  refine WP.ret (finQ.ret ?_)
  simp -dsimp [V.d, V.cells]
theorem f23_ok (n : Int) : Fn0 Try.prog 23 [.v (.int .i64 n)] (V.mk 1 n ⟨#[]⟩ []).d := by
  refine Fun.of_wp (pn := noPn) Try.tab Try.func23 rfl fun β0 => ?_
  simp only [Try.f23]
  repeat (first | refine WP.seq ?_ | refine WP.block ?_ | (refine WP.region Try.tab ?_; simp -dsimp) | (refine WP.draw Try.tab Try.mixed ?_; simp -dsimp) | refine And.intro (by first | rfl | omega | decide | (simp; done) | (simp; omega) | (intros; simp_all; done)) ?_)
  refine WP.ret (finQ.ret ?_)
  simp -dsimp [V.d, V.cells, V.cellsL]
theorem f24_ok (s : ByteArray) : Fn0 Try.prog 24 [.v (.string s)] (V.mk 2 0 s []).d := by
  refine Fun.of_wp (pn := noPn) Try.tab Try.func24 rfl fun β0 => ?_
  simp only [Try.f24]
  repeat (first | refine WP.seq ?_ | refine WP.block ?_ | (refine WP.region Try.tab ?_; simp -dsimp) | (refine WP.draw Try.tab Try.mixed ?_; simp -dsimp) | refine And.intro (by first | rfl | omega | decide | (simp; done) | (simp; omega) | (intros; simp_all; done)) ?_)
  refine WP.ret (finQ.ret ?_)
  simp -dsimp [V.d, V.cells, V.cellsL]
end Go.Proofs.Ytnbanfpelgcmoaa
