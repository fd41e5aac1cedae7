import Derived.Test.YtnbanfpelgcmoaaNum
set_option linter.unusedSimpArgs false
set_option linter.unusedVariables false
namespace Go.Proofs.Ytnbanfpelgcmoaa
open Go.Xe Go.RowKit

theorem f39_ok {n : Int} (h : isI n) : Fn0 Try.prog 39 [.v (.int .i64 n)] (.v (.int .u64 (zig n))) := by
  refine Fun.of_wp (pn := noPn) Try.tab Try.func39 rfl fun β0 => ?_
  simp only [Try.f39]
  repeat (first | refine WP.seq ?_ | refine WP.block ?_ | (refine WP.region Try.tab ?_; simp -dsimp) | (refine WP.draw Try.tab Try.mixed ?_; simp -dsimp) | refine And.intro (by first | rfl | omega | decide | (simp; done) | (simp; omega) | (intros; simp_all; done)) ?_)
  refine WP.ret (finQ.ret ?_)
  simp -dsimp [unsigned_num h]

theorem f45_ok {u : Nat} (h : isU u) : Fn0 Try.prog 45 [.v (.int .u64 u)] (.v (.int .i64 (zag u))) := by
  refine Fun.of_wp (pn := noPn) Try.tab Try.func45 rfl fun β0 => ?_
  simp only [Try.f45]
  repeat (first | refine WP.seq ?_ | refine WP.block ?_ | (refine WP.region Try.tab ?_; simp -dsimp) | (refine WP.draw Try.tab Try.mixed ?_; simp -dsimp) | refine And.intro (by first | rfl | omega | decide | (simp; done) | (simp; omega) | (intros; simp_all; done)) ?_)
  refine WP.ret (finQ.ret ?_)
  simp -dsimp [signed_num h]

theorem f43_ok {n : Int} (h : isI n) : Fn0 Try.prog 43 [.v (.int .i64 n)] (.v (.int .u64 (zig n))) := by
  refine Fun.of_wp (pn := noPn) Try.tab Try.func43 rfl fun β0 => ?_
  simp only [Try.f43]
  repeat (first | refine WP.seq ?_ | refine WP.block ?_ | (refine WP.region Try.tab ?_; simp -dsimp) | (refine WP.draw Try.tab Try.mixed ?_; simp -dsimp) | refine And.intro (by first | rfl | omega | decide | (simp; done) | (simp; omega) | (intros; simp_all; done)) ?_)
  refine WP.cond (b := decide (0 ≤ n)) (by simp) (fun hb => ?_) (fun hb => ?_)
  · repeat (first | refine WP.seq ?_ | refine WP.block ?_ | (refine WP.region Try.tab ?_; simp -dsimp) | (refine WP.draw Try.tab Try.mixed ?_; simp -dsimp) | refine And.intro (by first | rfl | omega | decide | (simp; done) | (simp; omega) | (intros; simp_all; done)) ?_)
    refine WP.ret (finQ.ret ?_)
    simp -dsimp
    rw [zig_nonneg h (by simpa using hb)]
    exact .refl _
  · refine WP.skip ?_
    repeat (first | refine WP.seq ?_ | refine WP.block ?_ | (refine WP.region Try.tab ?_; simp -dsimp) | (refine WP.draw Try.tab Try.mixed ?_; simp -dsimp) | refine And.intro (by first | rfl | omega | decide | (simp; done) | (simp; omega) | (intros; simp_all; done)) ?_)
    refine WP.ret (finQ.ret ?_)
    simp -dsimp
    rw [zig_neg h (by simpa using hb)]
    exact .refl _

def s38 (u : Nat) (bs : List UInt8) : St :=
  ⟨[.row 500, .d (.v (.int .u64 u))] ++ List.replicate 18 (.d .any), [(500, .row 5 1 bs.length ((bys bs).map .d))]⟩
attribute [local simp] s38

theorem f38_ok {u : Nat} (h : isU u) {bs : List UInt8} (hb : bs.length ≤ 1000000000000) :
    Fun Try.prog 38 [.row 1000, .d (.v (.int .u64 u))] [(1000, .row 5 1 bs.length ((bys bs).map .d))] (.row 0) [(0, .row 5 1 (bs ++ digs u).length ((bys (bs ++ digs u)).map .d))] fun _ => False := by
  refine Fun.of_wp (pn := noPn) Try.tab Try.func38 rfl fun β0 => ?_
  simp only [Try.f38]
  refine WP.seq (WP.region Try.tab ?_); simp
  refine WP.seq (WP.block ?_)
  refine WP.loopWk (fun m S => ∃ bs', S = s38 m bs' ∧ bs'.length + (digs m).length ≤ bs.length + 10 ∧ bs' ++ digs m = bs ++ digs u) u (S0 := s38 u bs) (Wk.go [] 1000 500 (by decide) (by simp) (by simp) (by simp)) ⟨bs, rfl, by have := digs_len10 h; omega, rfl⟩ ?_
  rintro m _ ⟨bs', rfl, h1, h2⟩
  have hd := digs_pos m
  repeat (first | refine WP.seq ?_ | refine WP.block ?_ | (refine WP.region Try.tab ?_; simp -dsimp) | (refine WP.draw Try.tab Try.mixed ?_; simp -dsimp) | refine And.intro (by first | rfl | omega | decide | (simp; done) | (simp; omega) | (intros; simp_all; done)) ?_)
  refine WP.cond (b := decide (128 ≤ m)) (by simp; omega) (fun hb => ?_) (fun hb => ?_)
  · refine WP.skip ?_
    simp -dsimp
    repeat (first | refine WP.seq ?_ | refine WP.block ?_ | (refine WP.region Try.tab ?_; simp -dsimp) | (refine WP.draw Try.tab Try.mixed ?_; simp -dsimp) | refine And.intro (by first | rfl | omega | decide | (simp; done) | (simp; omega) | (intros; simp_all; done)) ?_)
    refine loopW.next (s38 (m / 128) (bs' ++ [UInt8.ofNat (m % 128 + 128)])) (Wk.go [13] 14 500 (by decide) (by simp) (by simp [shr7_num]) (by simp [digit_num])) (m / 128) ?_ ⟨_, rfl, ?_, ?_⟩
    · have := of_decide_eq_true hb; omega
    · rw [digs] at h1
      rw [if_neg (by have := of_decide_eq_true hb; omega)] at h1
      simp at h1 ⊢; omega
    · rw [digs] at h2
      rw [if_neg (by have := of_decide_eq_true hb; omega)] at h2
      simpa using h2
  · refine WP.exit ?_
    simp -dsimp
    repeat (first | refine WP.seq ?_ | refine WP.block ?_ | (refine WP.region Try.tab ?_; simp -dsimp) | (refine WP.draw Try.tab Try.mixed ?_; simp -dsimp) | refine And.intro (by first | rfl | omega | decide | (simp; done) | (simp; omega) | (intros; simp_all; done)) ?_)
    refine WP.ret (finQ.retW (S' := ⟨List.replicate 4 (.d .any) ++ [.row 0] ++ List.replicate 15 (.d .any), [(0, .row 5 1 (bs ++ digs u).length ((bys (bs ++ digs u)).map .d))]⟩) (Wk.go [18] 19 0 (by decide) (by simp) (by simp) ?_) ?_)
    · have h3 := of_decide_eq_false hb
      rw [digs, if_pos (by omega)] at h2
      rw [← h2]
      simp [last_num]
    · simp

theorem f42_ok : ∀ (u : Nat), isU u → Fn0 Try.prog 42 [.v (.int .u64 u)] (slB (digs u))
  | u, h => by
    refine Fun.of_wp (pn := noPn) Try.tab Try.func42 rfl fun β0 => ?_
    simp only [Try.f42]
    repeat (first | refine WP.seq ?_ | refine WP.block ?_ | (refine WP.region Try.tab ?_; simp -dsimp) | (refine WP.draw Try.tab Try.mixed ?_; simp -dsimp) | refine And.intro (by first | rfl | omega | decide | (simp; done) | (simp; omega) | (intros; simp_all; done)) ?_)
    refine WP.cond (b := decide (u < 128)) (by simp; omega) (fun hb => ?_) (fun hb => ?_)
    · repeat (first | refine WP.seq ?_ | refine WP.block ?_ | (refine WP.region Try.tab ?_; simp -dsimp) | (refine WP.draw Try.tab Try.mixed ?_; simp -dsimp) | refine And.intro (by first | rfl | omega | decide | (simp; done) | (simp; omega) | (intros; simp_all; done)) ?_)
      refine WP.ret (finQ.retW (Wk.freeze (k := 7) (T := 5) (sz := 1) (n := 1) (ds := [.v (.int .u8 (IntKind.u8.wrap u))]) (by simp)) ?_)
      rw [digs, if_pos (of_decide_eq_true hb)]
      simp [last_num, slB]
    · refine WP.skip ?_
      have hu : 128 ≤ u := by simpa using hb
      simp -dsimp
      refine WP.seq (WP.region Try.tab ?_)
      simp -dsimp
      repeat refine And.intro (by first | rfl | omega | decide | (simp; done) | (simp; omega) | (intros; simp_all; done)) ?_
      refine vcStop.call0 Try.body42 (f42_ok (u / 128) (by unfold isU at h ⊢; omega)) rfl rfl ?_ ?_
      · have : IntKind.u64.wrap ((u : Int) / 128) = (u : Int) / 128 := IntWalk.u64_in _ (by unfold isU at h; omega)
        simp [this]
      have hl := digs_len10 (u := u / 128) (by unfold isU at h ⊢; omega)
      simp [slB]
      repeat refine And.intro (by first | rfl | omega | decide | (simp; done) | (simp; omega) | (intros; simp_all; done)) ?_
      repeat (first | refine WP.seq ?_ | refine WP.block ?_ | (refine WP.region Try.tab ?_; simp -dsimp) | (refine WP.draw Try.tab Try.mixed ?_; simp -dsimp) | refine And.intro (by first | rfl | omega | decide | (simp; done) | (simp; omega) | (intros; simp_all; done)) ?_)
      refine WP.ret (finQ.retW (Wk.freeze (k := 16) (T := 5) (sz := 1) (ds := .v (.int .u8 (IntKind.u8.wrap (IntKind.u64.wrap ((u : Int).tmod 128 + 128)))) :: bys (digs (u / 128))) (by simp; rfl)) ?_)
      rw [digs, if_neg (by omega)]
      simp [digit_num2, slB, Nat.add_comm]
termination_by u => u
decreasing_by omega
end Go.Proofs.Ytnbanfpelgcmoaa
