import Derived.Test.YtnbanfpelgcmoaaCi
import Derived.Test.YtnbanfpelgcmoaaEngR
set_option linter.unusedSimpArgs false
set_option linter.unusedVariables false
namespace Go.Proofs.Ytnbanfpelgcmoaa
open Go.Xe Go.RowKit

/-- The one panic of the reader. -/
def pc (ch : List PanicEntry) : Prop := ch = [{ v := .iface 28 (.int .i64 20), recovered := false }]
@[simp] def rdB (bs : List UInt8) : Box := .cells 58 [.d (slB bs)]
attribute [simp] botB botD

theorem f33_ok : Fun Try.prog 33 [.d .any, .d (.v (.bool true))] [] (.d .any) [] fun _ => False := by
  refine Fun.of_wp (pn := noPn) Try.tab Try.func33 rfl fun β0 => ?_
  simp only [Try.f33]
  repeat (first | refine WP.seq ?_ | refine WP.block ?_ | (refine WP.region Try.tab ?_; simp -dsimp) | (refine WP.draw Try.tab Try.mixed ?_; simp -dsimp) | refine And.intro (by first | rfl | omega | decide | (simp; done) | (simp; omega) | (intros; simp_all; done)) ?_)
  refine WP.cond (b := false) (by simp) (fun h => by cases h) (fun _ => ?_)
  refine WP.skip ?_
  refine finQ.normal ?_
  simp
theorem f33_no : Fun Try.prog 33 [.d .any, .d (.v (.bool false))] [] (.d .any) [(0, botB)] pc := by
  refine Fun.of_wp (pn := ⟨pc, [], []⟩) Try.tab Try.func33 rfl fun β0 => ?_
  simp only [Try.f33]
  repeat (first | refine WP.seq ?_ | refine WP.block ?_ | (refine WP.region Try.tab ?_; simp -dsimp) | (refine WP.draw Try.tab Try.mixed ?_; simp -dsimp) | refine And.intro (by first | rfl | omega | decide | (simp; done) | (simp; omega) | (intros; simp_all; done)) ?_)
  refine WP.cond (b := true) (by simp) (fun _ => ?_) (fun h => by cases h)
  refine WP.region Try.tab ?_
  simp -dsimp
  refine vcStop.panic 0 rfl rfl rfl (by simp) (by simp) ?_
  simp -dsimp
  refine finQ.normal ?_
  simp

theorem f44_ok (bs : List UInt8) (n : Nat) (h : n ≤ bs.length) : Fun Try.prog 44 [.ptr 1000 0, .d (.v (.int .i64 n))] [(1000, rdB bs)] (.d (slB (bs.take n))) [(1000, rdB (bs.drop n))] fun _ => False := by
  refine Fun.of_wp (pn := noPn) Try.tab Try.func44 rfl fun β0 => ?_
  simp only [Try.f44]
  have e1 : bys (bs.take n) = (bys bs).take n := by rw [bys, bys, List.map_take]
  have e2 : bys (bs.drop n) = (bys bs).drop n := by rw [bys, bys, List.map_drop]
  have e3 : ((bs.length : Int) - n).toNat = bs.length - n := by omega
  have e4 : min n bs.length = n := by omega
  repeat (first | refine WP.seq ?_ | refine WP.block ?_ | (refine WP.region Try.tab ?_; simp -dsimp) | (refine WP.draw Try.tab Try.mixed ?_; simp -dsimp) | refine And.intro (by first | rfl | omega | decide | (simp; done) | (simp; omega) | (intros; simp_all; done)) ?_)
  refine vcStop.call Try.body33 (f33_ok) (rl []) rfl rfl (by simp [h, BoxLeq]) (CallOk.of (by simp [h, BoxLeq]) rfl (by first | rfl | (simp [h, BoxLeq]; done)) (by simp [h, BoxLeq]) (by simp [h, BoxLeq])) (fun _ h => h.elim) (fun ⟨_, h⟩ => h.elim) (fun ⟨_, h⟩ => h.elim) (by simp [h, BoxLeq]) ?_
  simp -dsimp
  repeat (first | refine WP.seq ?_ | refine WP.block ?_ | (refine WP.region Try.tab ?_; simp -dsimp) | (refine WP.draw Try.tab Try.mixed ?_; simp -dsimp) | refine And.intro (by first | rfl | omega | decide | (simp; done) | (simp; omega) | (intros; simp_all; done)) ?_)
  refine WP.ret (finQ.retW (S' := mkS 32 [(4, .d (slB (bs.take n)))] [(1000, rdB (bs.drop n))]) (Wk.lessE [] (by simp [e1, e4]) (by simp [e2, e3]; exact List.take_of_length_le (by simp))) ?_)
  simp
theorem f44_no (bs : List UInt8) (n : Nat) (h : bs.length < n) : Fun Try.prog 44 [.ptr 1000 0, .d (.v (.int .i64 n))] [(1000, rdB bs)] (.d (slB [0])) [(1000, rdB []), (0, botB)] pc := by
  refine Fun.of_wp (pn := ⟨pc, [], []⟩) Try.tab Try.func44 rfl fun β0 => ?_
  simp only [Try.f44]
  have hn : ¬ n ≤ bs.length := by omega
  repeat (first | refine WP.seq ?_ | refine WP.block ?_ | (refine WP.region Try.tab ?_; simp -dsimp) | (refine WP.draw Try.tab Try.mixed ?_; simp -dsimp) | refine And.intro (by first | rfl | omega | decide | (simp; done) | (simp; omega) | (intros; simp_all; done)) ?_)
  refine vcStop.call Try.body33 (f33_no) (rl [(0, 600)]) rfl rfl (by simp [hn, BoxLeq]) (CallOk.of (by simp [hn, BoxLeq]) rfl (by first | rfl | (simp [hn, BoxLeq]; done)) (by simp [hn, BoxLeq]) (by simp [hn, BoxLeq])) (fun _ h => by first | exact h | exact ⟨by assumption, h⟩) (fun _ _ h => by cases h) (fun _ _ _ => rfl) (by simp [hn, BoxLeq]) ?_
  simp -dsimp
  refine WP.absurdB 600 (by simp)
end Go.Proofs.Ytnbanfpelgcmoaa
