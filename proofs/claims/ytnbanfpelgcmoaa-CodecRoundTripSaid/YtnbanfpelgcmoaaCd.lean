import Derived.Test.YtnbanfpelgcmoaaCc
import Derived.Test.YtnbanfpelgcmoaaEngQ
set_option linter.unusedSimpArgs false
set_option linter.unusedVariables false
namespace Go.Proofs.Ytnbanfpelgcmoaa
open Go.Xe Go.RowKit

@[simp] def rowB (bs : List UInt8) : Box := .row 5 1 bs.length ((bys bs).map .d)
@[simp] theorem byteD1 : byteD 1 = .v (.int .u8 1) := rfl
@[simp] theorem byteD2 : byteD 2 = .v (.int .u8 2) := rfl
@[simp] theorem byteD3 : byteD 3 = .v (.int .u8 3) := rfl
@[simp] theorem map_byteD (l : List UInt8) : l.map byteD = bys l := rfl
@[simp] theorem size_toList (s : ByteArray) : s.data.size = s.size := rfl
theorem size_lst (s : ByteArray) : s.data.toList.length = s.size := rfl

theorem f38_row {u : Nat} (h : isU u) {bs : List UInt8} (hb : bs.length ≤ 1000000000000) :
    Fun Try.prog 38 [.row 1000, .d (.v (.int .u64 u))] [(1000, rowB bs)] (.row 0) [(0, rowB (bs ++ digs u))] fun _ => False := f38_ok h hb

set_option maxRecDepth 10000 in
theorem f37_ok {n : Int} (h : isI n) (s : ByteArray) (l : List V) {bs : List UInt8} (hb : bs.length ≤ 1000000000) :
    Fun Try.prog 37 [.row 1000, .d (V.mk 1 n s l).d] [(1000, rowB bs)] (.row 0) [(0, rowB (bs ++ (V.mk 1 n s l).enc))] fun _ => False := by
  refine Fun.of_wp (pn := noPn) Try.tab Try.func37 rfl fun β0 => ?_
  simp only [Try.f37]
  rw [V.d, V.cells]
  simp -dsimp [rowB]
  repeat (first | refine WP.seq ?_ | refine WP.block ?_ | (refine WP.region Try.tab ?_; simp -dsimp) | (refine WP.draw Try.tab Try.mixed ?_; simp -dsimp) | refine And.intro (by first | rfl | omega | decide | (simp; done) | (simp; omega) | (intros; simp_all; done)) ?_)
  refine vcStop.call0 Try.body39 (f39_ok h) rfl rfl (by simp) ?_
  simp -dsimp
  repeat refine And.intro (by first | rfl | omega | decide | (simp; done) | (simp; omega) | (intros; simp_all; done)) ?_
  refine vcStop.call Try.body38 (f38_row (zig_lt h) (bs := bs ++ [1]) (by simp; omega)) (rl [(1000, 7), (0, 11)]) rfl rfl (by simp [rowB, BoxLeq]) (CallOk.of (by simp [rowB, BoxLeq]) rfl (by first | rfl | (simp [rowB, BoxLeq]; done)) (by simp [rowB, BoxLeq]) (by simp [rowB, BoxLeq])) (fun _ h => h.elim) (fun ⟨_, h⟩ => h.elim) (fun ⟨_, h⟩ => h.elim) (by simp [rowB, BoxLeq]) ?_
  simp -dsimp [rowB]
  repeat (first | refine WP.seq ?_ | refine WP.block ?_ | (refine WP.region Try.tab ?_; simp -dsimp) | (refine WP.draw Try.tab Try.mixed ?_; simp -dsimp) | refine And.intro (by first | rfl | omega | decide | (simp; done) | (simp; omega) | (intros; simp_all; done)) ?_)
  refine WP.ret (finQ.retW (S' := mkS 12 [(4, .row 0)] [(0, rowB (bs ++ (V.mk 1 n s l).enc))]) (Wk.go [] 11 0 (by decide) (by simp) (by simp) (by simp [rowB, V.enc])) ?_)
  simp

set_option maxRecDepth 10000 in
theorem f40_ok (n : Int) (s : ByteArray) (l : List V) {bs : List UInt8} (hb : bs.length + s.size ≤ 1000000000) :
    Fun Try.prog 40 [.row 1000, .d (V.mk 2 n s l).d] [(1000, rowB bs)] (.row 0) [(0, rowB (bs ++ (V.mk 2 n s l).enc))] fun _ => False := by
  refine Fun.of_wp (pn := noPn) Try.tab Try.func40 rfl fun β0 => ?_
  simp only [Try.f40]
  rw [V.d, V.cells]
  simp -dsimp [rowB]
  repeat (first | refine WP.seq ?_ | refine WP.block ?_ | (refine WP.region Try.tab ?_; simp -dsimp) | (refine WP.draw Try.tab Try.mixed ?_; simp -dsimp) | refine And.intro (by first | rfl | omega | decide | (simp; done) | (simp; omega) | (intros; simp_all; done)) ?_)
  have e1 : IntKind.u64.wrap (s.size : Int) = (s.size : Nat) := IntWalk.u64_in _ (by omega)
  have hd := digs_len10 (u := s.size) (by unfold isU; omega)
  rw [e1]
  refine vcStop.call Try.body38 (f38_row (u := s.size) (by unfold isU; omega) (bs := bs ++ [2]) (by simp; omega)) (rl [(1000, 7), (0, 12)]) rfl rfl (by simp [rowB, BoxLeq]) (CallOk.of (by simp [rowB, BoxLeq]) rfl (by first | rfl | (simp [rowB, BoxLeq]; done)) (by simp [rowB, BoxLeq]) (by simp [rowB, BoxLeq])) (fun _ h => h.elim) (fun ⟨_, h⟩ => h.elim) (fun ⟨_, h⟩ => h.elim) (by simp [rowB, BoxLeq]) ?_
  simp -dsimp [rowB]
  repeat refine And.intro (by first | rfl | omega | decide | (simp; done) | (simp; omega) | (intros; simp_all; done)) ?_
  repeat (first | refine WP.seq ?_ | refine WP.block ?_ | (refine WP.region Try.tab ?_; simp -dsimp) | (refine WP.draw Try.tab Try.mixed ?_; simp -dsimp) | refine And.intro (by first | rfl | omega | decide | (simp; done) | (simp; omega) | (intros; simp_all; done)) ?_)
  refine WP.ret (finQ.retW (S' := mkS 16 [(4, .row 0)] [(0, rowB (bs ++ (V.mk 2 n s l).enc))]) (Wk.go [] 15 0 (by decide) (by simp) (by simp) (by simp [rowB, V.enc, size_lst]; omega)) ?_)
  simp
end Go.Proofs.Ytnbanfpelgcmoaa
