import Derived.Test.YtnbanfpelgcmoaaDb
set_option linter.unusedSimpArgs false
set_option linter.unusedVariables false
namespace Go.Proofs.Ytnbanfpelgcmoaa
open Go.Xe Go.RowKit

def pLen (bs : List UInt8) : Option (Nat × List UInt8) :=
  match pNum 0 0 bs with
  | some (u, r) => if u ≤ r.length then some (u, r) else none
  | none => none

theorem f47_ok (bs : List UInt8) (hb : bs.length ≤ 1000000000000) {n : Nat} {r : List UInt8} (h : pLen bs = some (n, r)) : Fun Try.prog 47 [.ptr 1000 0] [(1000, rdB bs)] (.d (.v (.int .i64 n))) [(1000, rdB r)] fun _ => False := by
  rw [pLen] at h
  split at h
  · rename_i u r1 hp
    split at h
    · rename_i hle
      cases h
      have hr := pNum_len bs 0 0 hp
      have e1 : IntKind.u64.wrap (r.length : Int) = (r.length : Int) := IntWalk.u64_in _ (by omega)
      have e2 : IntKind.i64.wrap (n : Int) = (n : Int) := IntWalk.i64_in _ (by omega)
      refine Fun.of_wp (pn := noPn) Try.tab Try.func47 rfl fun β0 => ?_
      simp only [Try.f47]
      repeat (first | refine WP.seq ?_ | refine WP.block ?_ | (refine WP.region Try.tab ?_; simp -dsimp) | (refine WP.draw Try.tab Try.mixed ?_; simp -dsimp) | refine And.intro (by first | rfl | omega | decide | (simp; done) | (simp; omega) | (intros; simp_all; done)) ?_)
      refine vcStop.call Try.body46 (f46_ok bs hp) (rl []) rfl rfl (by simp [BoxLeq]) (CallOk.of (by simp [BoxLeq]) rfl (by first | rfl | (simp [BoxLeq]; done)) (by simp [BoxLeq]) (by simp [BoxLeq])) (fun _ h => h.elim) (fun ⟨_, h⟩ => h.elim) (fun ⟨_, h⟩ => h.elim) (by simp [BoxLeq]) ?_
      simp -dsimp
      repeat (first | refine WP.seq ?_ | refine WP.block ?_ | (refine WP.region Try.tab ?_; simp -dsimp [e1]) | (refine WP.draw Try.tab Try.mixed ?_; simp -dsimp [e1]) | refine And.intro (by first | rfl | omega | decide | (simp; done) | (simp; omega) | (intros; simp_all; done)) ?_)
      refine vcStop.call Try.body33 (f33_ok) (rl []) rfl rfl (by simp [hle, BoxLeq]) (CallOk.of (by simp [hle, BoxLeq]) rfl (by first | rfl | (simp [hle, BoxLeq]; done)) (by simp [hle, BoxLeq]) (by simp [hle, BoxLeq])) (fun _ h => h.elim) (fun ⟨_, h⟩ => h.elim) (fun ⟨_, h⟩ => h.elim) (by simp [hle, BoxLeq]) ?_
      simp -dsimp
      repeat (first | refine WP.seq ?_ | refine WP.block ?_ | (refine WP.region Try.tab ?_; simp -dsimp [e2]) | (refine WP.draw Try.tab Try.mixed ?_; simp -dsimp [e2]) | refine And.intro (by first | rfl | omega | decide | (simp; done) | (simp; omega) | (intros; simp_all; done)) ?_)
      refine WP.ret (finQ.retW (S' := mkS 18 [(2, .d (.v (.int .i64 n)))] [(1000, rdB r)]) (Wk.lessE [] (by simp) (by simp)) ?_)
      simp
    · cases h
  · cases h
theorem f47_no (bs : List UInt8) (hb : bs.length ≤ 1000000000000) (h : pLen bs = none) : Fun Try.prog 47 [.ptr 1000 0] [(1000, rdB bs)] (.d (.v (.int .i64 0))) [(1000, rdB []), (0, botB)] pc := by
  rw [pLen] at h
  split at h
  · rename_i u r hp
    split at h
    · cases h
    · rename_i hle
      have hr := pNum_len bs 0 0 hp
      have e1 : IntKind.u64.wrap (r.length : Int) = (r.length : Int) := IntWalk.u64_in _ (by omega)
      refine Fun.of_wp (pn := ⟨pc, [], []⟩) Try.tab Try.func47 rfl fun β0 => ?_
      simp only [Try.f47]
      repeat (first | refine WP.seq ?_ | refine WP.block ?_ | (refine WP.region Try.tab ?_; simp -dsimp) | (refine WP.draw Try.tab Try.mixed ?_; simp -dsimp) | refine And.intro (by first | rfl | omega | decide | (simp; done) | (simp; omega) | (intros; simp_all; done)) ?_)
      refine vcStop.call Try.body46 (f46_ok bs hp) (rl []) rfl rfl (by simp [BoxLeq]) (CallOk.of (by simp [BoxLeq]) rfl (by first | rfl | (simp [BoxLeq]; done)) (by simp [BoxLeq]) (by simp [BoxLeq])) (fun _ h => h.elim) (fun ⟨_, h⟩ => h.elim) (fun ⟨_, h⟩ => h.elim) (by simp [BoxLeq]) ?_
      simp -dsimp
      repeat (first | refine WP.seq ?_ | refine WP.block ?_ | (refine WP.region Try.tab ?_; simp -dsimp [e1]) | (refine WP.draw Try.tab Try.mixed ?_; simp -dsimp [e1]) | refine And.intro (by first | rfl | omega | decide | (simp; done) | (simp; omega) | (intros; simp_all; done)) ?_)
      refine vcStop.call Try.body33 (f33_no) (rl [(0, 600)]) rfl rfl (by simp [hle, BoxLeq]) (CallOk.of (by simp [hle, BoxLeq]) rfl (by first | rfl | (simp [hle, BoxLeq]; done)) (by simp [hle, BoxLeq]) (by simp [hle, BoxLeq])) (fun _ h => by first | exact h | exact ⟨by assumption, h⟩) (fun _ _ h => by cases h) (fun _ _ _ => rfl) (by simp [hle, BoxLeq]) ?_
      simp -dsimp
      refine WP.absurdB 600 (by simp)
  · rename_i hp
    refine Fun.of_wp (pn := ⟨pc, [], []⟩) Try.tab Try.func47 rfl fun β0 => ?_
    simp only [Try.f47]
    repeat (first | refine WP.seq ?_ | refine WP.block ?_ | (refine WP.region Try.tab ?_; simp -dsimp) | (refine WP.draw Try.tab Try.mixed ?_; simp -dsimp) | refine And.intro (by first | rfl | omega | decide | (simp; done) | (simp; omega) | (intros; simp_all; done)) ?_)
    refine vcStop.call Try.body46 (f46_no bs hp) (rl [(0, 600)]) rfl rfl (by simp [BoxLeq]) (CallOk.of (by simp [BoxLeq]) rfl (by first | rfl | (simp [BoxLeq]; done)) (by simp [BoxLeq]) (by simp [BoxLeq])) (fun _ h => by first | exact h | exact ⟨by assumption, h⟩) (fun _ _ h => by cases h) (fun _ _ _ => rfl) (by simp [BoxLeq]) ?_
    simp -dsimp
    refine WP.absurdB 600 (by simp)
end Go.Proofs.Ytnbanfpelgcmoaa
