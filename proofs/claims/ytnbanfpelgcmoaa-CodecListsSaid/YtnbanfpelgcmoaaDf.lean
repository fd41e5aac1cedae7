import Derived.Test.YtnbanfpelgcmoaaDe
set_option linter.unusedSimpArgs false
set_option linter.unusedVariables false
namespace Go.Proofs.Ytnbanfpelgcmoaa
open Go.Xe Go.RowKit

/-! ### the reader of the reference -/
@[simp] def rB (pre r : List UInt8) (bad : Bool) : Box := .cells 62 [.d (slB (pre ++ r)), .d (.v (.int .i64 pre.length)), .d (.v (.bool bad))]

theorem bys_at (pre : List UInt8) (c : UInt8) (r : List UInt8) : ((bys pre ++ byteD c :: bys r).drop pre.length).take 1 = [byteD c] := by
  rw [← bys_length pre, List.drop_left]; rfl

theorem f48_e (pre : List UInt8) : Fun Try.prog 48 [.ptr 1000 0] [(1000, rB pre [] false)] (.d (.v (.int .u8 0))) [(1000, rB pre [] true)] fun _ => False := by
  refine Fun.of_wp (pn := noPn) Try.tab Try.func48 rfl fun β0 => ?_
  simp only [Try.f48]
  repeat (first | refine WP.seq ?_ | refine WP.block ?_ | (refine WP.region Try.tab ?_; simp -dsimp) | (refine WP.draw Try.tab Try.mixed ?_; simp -dsimp) | refine And.intro (by first | rfl | omega | decide | (simp; done) | (simp; omega) | (intros; simp_all; done)) ?_)
  refine WP.cond (b := true) (by simp) (fun _ => ?_) (fun h => by cases h)
  repeat (first | refine WP.seq ?_ | refine WP.block ?_ | (refine WP.region Try.tab ?_; simp -dsimp) | (refine WP.draw Try.tab Try.mixed ?_; simp -dsimp) | refine And.intro (by first | rfl | omega | decide | (simp; done) | (simp; omega) | (intros; simp_all; done)) ?_)
  refine WP.ret (finQ.retE ?_)
  simp -dsimp
theorem f48_c (pre : List UInt8) (c : UInt8) (r : List UInt8) (h : pre.length ≤ 1000000000000) : Fun Try.prog 48 [.ptr 1000 0] [(1000, rB pre (c :: r) false)] (.d (byteD c)) [(1000, rB (pre ++ [c]) r false)] fun _ => False := by
  refine Fun.of_wp (pn := noPn) Try.tab Try.func48 rfl fun β0 => ?_
  simp only [Try.f48]
  have e1 : IntKind.i64.wrap ((pre.length : Int) + 1) = (pre.length : Int) + 1 := IntWalk.i64_in _ (by omega)
  have e2 : IntKind.i64.wrap (pre.length : Int) = (pre.length : Int) := IntWalk.i64_in _ (by omega)
  repeat (first | refine WP.seq ?_ | refine WP.block ?_ | (refine WP.region Try.tab ?_; simp -dsimp) | (refine WP.draw Try.tab Try.mixed ?_; simp -dsimp) | refine And.intro (by first | rfl | omega | decide | (simp; done) | (simp; omega) | (intros; simp_all; done)) ?_)
  refine WP.cond (b := false) (by simp; omega) (fun h => by cases h) (fun _ => ?_)
  refine WP.skip ?_
  simp -dsimp
  repeat (first | refine WP.seq ?_ | refine WP.block ?_ | (refine WP.region Try.tab ?_; simp -dsimp [e1, e2, bys_at]) | (refine WP.draw Try.tab Try.mixed ?_; simp -dsimp [e1, e2, bys_at]) | refine And.intro (by first | rfl | omega | decide | (simp; done) | (simp; omega) | (intros; simp_all; done)) ?_)
  refine WP.ret (finQ.retE ?_)
  simp -dsimp [e1, e2]

/-- A numeral as the reference reads it: the number, what is left, whether it is bad. -/
def rNum : Nat → Nat → List UInt8 → Nat × List UInt8 × Bool
  | _, _, [] => (0, [], true)
  | i, u, c :: r => if (i = 0 ∨ c.toNat ≠ 0) ∧ (i < 9 ∨ c.toNat ≤ 1) then (if c.toNat < 128 then (u + c.toNat % 128 * 128 ^ i, r, false) else rNum (i + 1) (u + c.toNat % 128 * 128 ^ i) r) else (0, r, true)

theorem add_step {i u : Nat} {c : UInt8} (hi : i ≤ 9) (hu : u < 128 ^ i) (hc : i < 9 ∨ c.toNat ≤ 1) :
    IntKind.u64.wrap ((u : Int) + IntKind.u64.wrap (IntKind.u64.wrap ((c.toNat : Int) % 128) * 2 ^ shN .u64 (7 * (i : Int)))) = ((u + c.toNat % 128 * 128 ^ i : Nat) : Int) := by
  obtain ⟨_, hb⟩ := num_step hi hu hc
  have hm : c.toNat % 128 < 128 := Nat.mod_lt _ (by omega)
  have hs : shN .u64 (7 * (i : Int)) = 7 * i := by
    show min (7 * (i : Int)).toNat 64 = 7 * i
    omega
  have hw : IntKind.u64.wrap ((c.toNat : Int) % 128) = ((c.toNat % 128 : Nat) : Int) := by
    rw [IntWalk.u64_in _ (by omega)]; omega
  have e : (((c.toNat % 128 : Nat) : Int) * 2 ^ (7 * i)) = ((c.toNat % 128 * 128 ^ i : Nat) : Int) := by rw [p7]; push_cast; rfl
  have w1 : IntKind.u64.wrap ((c.toNat % 128 * 128 ^ i : Nat) : Int) = ((c.toNat % 128 * 128 ^ i : Nat) : Int) := IntWalk.u64_in _ (by omega)
  rw [hs, hw, e, w1, IntWalk.u64_in _ (by omega)]
  push_cast; rfl

attribute [local simp] byteD_eq
theorem add_step' {i u : Nat} {c : UInt8} (hi : i ≤ 9) (hu : u < 128 ^ i) (hc : i < 9 ∨ c.toNat ≤ 1) :
    IntKind.u64.wrap ((u : Int) + IntKind.u64.wrap (IntKind.u64.wrap ((c.toNat : Int).tmod 128) * 2 ^ shN .u64 (7 * (i : Int)))) = (u : Int) + (c.toNat : Int) % 128 * 128 ^ i := by
  have h := add_step hi hu hc
  rw [Int.tmod_eq_emod_of_nonneg (by omega), h]
  push_cast; rfl
def s49 (i u : Nat) (pre r : List UInt8) : St := mkS 43 [(0, .ptr 1000 0), (3, .d (.v (.int .u64 u))), (4, .d (.v (.int .i64 i)))] [(1000, rB pre r false)]

set_option maxRecDepth 10000 in
set_option maxHeartbeats 4000000 in
theorem f49_ok (pre r pre' r' : List UInt8) (x : Nat) (bad : Bool) (h : rNum 0 0 r = (x, r', bad)) (hp : pre' ++ r' = pre ++ r) (hl : (pre ++ r).length ≤ 1000000000000) :
    Fun Try.prog 49 [.ptr 1000 0] [(1000, rB pre r false)] (.d (.v (.int .u64 x))) [(1000, rB pre' r' bad)] fun _ => False := by
  refine Fun.of_wp (pn := noPn) Try.tab Try.func49 rfl fun β0 => ?_
  simp only [Try.f49]
  repeat (first | refine WP.seq ?_ | refine WP.block ?_ | (refine WP.region Try.tab ?_; simp -dsimp) | (refine WP.draw Try.tab Try.mixed ?_; simp -dsimp) | refine And.intro (by first | rfl | omega | decide | (simp; done) | (simp; omega) | (intros; simp_all; done)) ?_)
  refine WP.loopWk (fun m S => ∃ i u p1 r1, m = r1.length ∧ i ≤ 9 ∧ u < 128 ^ i ∧ rNum i u r1 = (x, r', bad) ∧ pre' ++ r' = p1 ++ r1 ∧ (p1 ++ r1).length ≤ 1000000000000 ∧ S = s49 i u p1 r1) r.length (S0 := s49 0 0 pre r) (Wk.lessE [] (by simp [s49]) (by simp [s49])) ⟨0, 0, pre, r, rfl, by omega, by simp, h, hp, hl, rfl⟩ ?_
  rintro _ _ ⟨i, u, p1, r1, rfl, hi, hu, hr, hp, hl, rfl⟩
  simp -dsimp [s49]
  repeat (first | refine WP.seq ?_ | refine WP.block ?_ | (refine WP.region Try.tab ?_; simp -dsimp) | (refine WP.draw Try.tab Try.mixed ?_; simp -dsimp) | refine And.intro (by first | rfl | omega | decide | (simp; done) | (simp; omega) | (intros; simp_all; done)) ?_)
  refine WP.cond (b := true) (by simp) (fun _ => ?_) (fun h => by cases h)
  refine WP.skip ?_
  simp -dsimp
  repeat (first | refine WP.seq ?_ | refine WP.block ?_ | (refine WP.region Try.tab ?_; simp -dsimp) | (refine WP.draw Try.tab Try.mixed ?_; simp -dsimp) | refine And.intro (by first | rfl | omega | decide | (simp; done) | (simp; omega) | (intros; simp_all; done)) ?_)
  cases r1 with
  | nil =>
    rw [rNum] at hr
    cases hr
    simp only [List.append_nil] at hp
    subst hp
    by_cases h0 : i = 0
    · subst h0
      have hu0 : u = 0 := by simpa using hu
      subst hu0
      refine vcStop.call Try.body48 (f48_e pre') (rl []) rfl rfl (by simp [BoxLeq]) (CallOk.of (by simp [BoxLeq]) rfl (by first | rfl | (simp [BoxLeq]; done)) (by simp [BoxLeq]) (by simp [BoxLeq])) (fun _ h => h.elim) (fun ⟨_, h⟩ => h.elim) (fun ⟨_, h⟩ => h.elim) (by simp [BoxLeq]) ?_
      simp -dsimp
      repeat (first | refine WP.seq ?_ | refine WP.block ?_ | (refine WP.region Try.tab ?_; simp -dsimp) | (refine WP.draw Try.tab Try.mixed ?_; simp -dsimp) | refine And.intro (by first | rfl | omega | decide | (simp; done) | (simp; omega) | (intros; simp_all; done)) ?_)
      refine WP.cond (b := false) (by simp) (fun h => by cases h) (fun _ => ?_)
      refine WP.skip ?_
      simp -dsimp
      repeat (first | refine WP.seq ?_ | refine WP.block ?_ | (refine WP.region Try.tab ?_; simp -dsimp) | (refine WP.draw Try.tab Try.mixed ?_; simp -dsimp) | refine And.intro (by first | rfl | omega | decide | (simp; done) | (simp; omega) | (intros; simp_all; done)) ?_)
      refine WP.cond (b := true) (by simp) (fun _ => ?_) (fun h => by cases h)
      repeat (first | refine WP.seq ?_ | refine WP.block ?_ | (refine WP.region Try.tab ?_; simp -dsimp) | (refine WP.draw Try.tab Try.mixed ?_; simp -dsimp) | refine And.intro (by first | rfl | omega | decide | (simp; done) | (simp; omega) | (intros; simp_all; done)) ?_)
      refine WP.ret (finQ.retE ?_)
      simp -dsimp [show IntKind.u64.wrap (IntKind.u64.wrap (IntKind.u64.wrap 0 * 2 ^ shN IntKind.u64 (IntKind.i64.wrap 0))) = 0 by decide]
    · have h1 : 0 < i := by omega
      refine vcStop.call Try.body48 (f48_e pre') (rl []) rfl rfl (by simp [BoxLeq]) (CallOk.of (by simp [BoxLeq]) rfl (by first | rfl | (simp [BoxLeq]; done)) (by simp [BoxLeq]) (by simp [BoxLeq])) (fun _ h => h.elim) (fun ⟨_, h⟩ => h.elim) (fun ⟨_, h⟩ => h.elim) (by simp [BoxLeq]) ?_
      simp -dsimp
      repeat (first | refine WP.seq ?_ | refine WP.block ?_ | (refine WP.region Try.tab ?_; simp -dsimp [h1]) | (refine WP.draw Try.tab Try.mixed ?_; simp -dsimp [h1]) | refine And.intro (by first | rfl | omega | decide | (simp; done) | (simp; omega) | (intros; simp_all; done)) ?_)
      refine WP.cond (b := true) (by simp) (fun _ => ?_) (fun h => by cases h)
      repeat (first | refine WP.seq ?_ | refine WP.block ?_ | (refine WP.region Try.tab ?_; simp -dsimp) | (refine WP.draw Try.tab Try.mixed ?_; simp -dsimp) | refine And.intro (by first | rfl | omega | decide | (simp; done) | (simp; omega) | (intros; simp_all; done)) ?_)
      refine WP.ret (finQ.retE ?_)
      simp -dsimp
  | cons c r1 =>
    have hp1 : p1.length ≤ 1000000000000 := by simp at hl; omega
    rw [rNum] at hr
    have hnx : ¬ c.toNat < 128 → (i < 9 ∨ c.toNat ≤ 1) → i + 1 ≤ 9 := by omega
    have hun : u + c.toNat % 128 * 128 ^ i < 128 ^ (i + 1) := by
      have h1 : c.toNat % 128 * 128 ^ i ≤ 127 * 128 ^ i := Nat.mul_le_mul_right _ (by omega)
      rw [Nat.pow_succ]; omega
    have e7 : IntKind.i64.wrap (7 * (i : Int)) = 7 * (i : Int) := IntWalk.i64_in _ (by omega)
    have e8 : IntKind.i64.wrap ((i : Int) + 1) = (i : Int) + 1 := IntWalk.i64_in _ (by omega)
    have hlt : decide ((c.toNat : Int) < 128) = decide (c.toNat < 128) := by simp [show ((c.toNat : Int) < 128) ↔ c.toNat < 128 by omega]
    by_cases h0 : i = 0
    · subst h0
      have hst : IntKind.u64.wrap ((u : Int) + IntKind.u64.wrap (IntKind.u64.wrap ((c.toNat : Int).tmod 128) * 2 ^ shN .u64 (IntKind.i64.wrap 0))) = (u : Int) + (c.toNat : Int) % 128 := by
        have h := add_step' (c := c) hi hu (by omega)
        simpa [show IntKind.i64.wrap 0 = 0 from rfl] using h
      have e81 : IntKind.i64.wrap 1 = 1 := rfl
      refine vcStop.call Try.body48 (f48_c p1 c r1 hp1) (rl []) rfl rfl (by simp [BoxLeq]) (CallOk.of (by simp [BoxLeq]) rfl (by first | rfl | (simp [BoxLeq]; done)) (by simp [BoxLeq]) (by simp [BoxLeq])) (fun _ h => h.elim) (fun ⟨_, h⟩ => h.elim) (fun ⟨_, h⟩ => h.elim) (by simp [BoxLeq]) ?_
      simp -dsimp
      repeat (first | refine WP.seq ?_ | refine WP.block ?_ | (refine WP.region Try.tab ?_; simp -dsimp) | (refine WP.draw Try.tab Try.mixed ?_; simp -dsimp) | refine And.intro (by first | rfl | omega | decide | (simp; done) | (simp; omega) | (intros; simp_all; done)) ?_)
      refine WP.cond (b := false) (by simp) (fun h => by cases h) (fun _ => ?_)
      refine WP.skip ?_
      simp -dsimp
      rw [if_pos (by omega)] at hr
      repeat (first | refine WP.seq ?_ | refine WP.block ?_ | (refine WP.region Try.tab ?_; simp -dsimp [e7, hst]) | (refine WP.draw Try.tab Try.mixed ?_; simp -dsimp [e7, hst]) | refine And.intro (by first | rfl | omega | decide | (simp; done) | (simp; omega) | (intros; simp_all; done)) ?_)
      refine WP.cond (b := decide (c.toNat < 128)) (by simp [hlt]) (fun hb => ?_) (fun hb => ?_)
      · have hb := of_decide_eq_true hb
        rw [if_pos hb] at hr
        cases hr
        have hp2 : pre' = p1 ++ [c] := List.append_cancel_right (bs := r') (by rw [hp]; simp)
        subst hp2
        repeat (first | refine WP.seq ?_ | refine WP.block ?_ | (refine WP.region Try.tab ?_; simp -dsimp) | (refine WP.draw Try.tab Try.mixed ?_; simp -dsimp) | refine And.intro (by first | rfl | omega | decide | (simp; done) | (simp; omega) | (intros; simp_all; done)) ?_)
        refine WP.ret (finQ.retE ?_)
        simp -dsimp
      · have hb := of_decide_eq_false hb
        rw [if_neg hb] at hr
        refine WP.skip ?_
        simp -dsimp
        repeat (first | refine WP.seq ?_ | refine WP.block ?_ | (refine WP.region Try.tab ?_; simp -dsimp) | (refine WP.draw Try.tab Try.mixed ?_; simp -dsimp) | refine And.intro (by first | rfl | omega | decide | (simp; done) | (simp; omega) | (intros; simp_all; done)) ?_)
        refine loopW.next (s49 (0 + 1) (u + c.toNat % 128 * 128 ^ 0) (p1 ++ [c]) r1) (Wk.lessE [] (by simp [s49, e8, hst, show IntKind.i64.wrap 1 = 1 from rfl]) (by simp [s49])) r1.length (by simp) ⟨0 + 1, _, p1 ++ [c], r1, rfl, by omega, hun, hr, by rw [hp]; simp, by simpa using hl, rfl⟩
    · have h1 : 0 < i := by omega
      refine vcStop.call Try.body48 (f48_c p1 c r1 hp1) (rl []) rfl rfl (by simp [BoxLeq]) (CallOk.of (by simp [BoxLeq]) rfl (by first | rfl | (simp [BoxLeq]; done)) (by simp [BoxLeq]) (by simp [BoxLeq])) (fun _ h => h.elim) (fun ⟨_, h⟩ => h.elim) (fun ⟨_, h⟩ => h.elim) (by simp [BoxLeq]) ?_
      simp -dsimp
      repeat (first | refine WP.seq ?_ | refine WP.block ?_ | (refine WP.region Try.tab ?_; simp -dsimp [h1]) | (refine WP.draw Try.tab Try.mixed ?_; simp -dsimp [h1]) | refine And.intro (by first | rfl | omega | decide | (simp; done) | (simp; omega) | (intros; simp_all; done)) ?_)
      split at hr
      · rename_i hc
        have hst := add_step' hi hu hc.2
        refine WP.cond (b := false) (by simp; omega) (fun h => by cases h) (fun _ => ?_)
        refine WP.skip ?_
        simp -dsimp
        repeat (first | refine WP.seq ?_ | refine WP.block ?_ | (refine WP.region Try.tab ?_; simp -dsimp [e7, hst]) | (refine WP.draw Try.tab Try.mixed ?_; simp -dsimp [e7, hst]) | refine And.intro (by first | rfl | omega | decide | (simp; done) | (simp; omega) | (intros; simp_all; done)) ?_)
        refine WP.cond (b := decide (c.toNat < 128)) (by simp [hlt]) (fun hb => ?_) (fun hb => ?_)
        · have hb := of_decide_eq_true hb
          rw [if_pos hb] at hr
          cases hr
          have hp2 : pre' = p1 ++ [c] := List.append_cancel_right (bs := r') (by rw [hp]; simp)
          subst hp2
          repeat (first | refine WP.seq ?_ | refine WP.block ?_ | (refine WP.region Try.tab ?_; simp -dsimp) | (refine WP.draw Try.tab Try.mixed ?_; simp -dsimp) | refine And.intro (by first | rfl | omega | decide | (simp; done) | (simp; omega) | (intros; simp_all; done)) ?_)
          refine WP.ret (finQ.retE ?_)
          simp -dsimp
        · have hb := of_decide_eq_false hb
          rw [if_neg hb] at hr
          refine WP.skip ?_
          simp -dsimp
          repeat (first | refine WP.seq ?_ | refine WP.block ?_ | (refine WP.region Try.tab ?_; simp -dsimp) | (refine WP.draw Try.tab Try.mixed ?_; simp -dsimp) | refine And.intro (by first | rfl | omega | decide | (simp; done) | (simp; omega) | (intros; simp_all; done)) ?_)
          refine loopW.next (s49 (i + 1) (u + c.toNat % 128 * 128 ^ i) (p1 ++ [c]) r1) (Wk.lessE [] (by simp [s49, e8, hst, show IntKind.i64.wrap 1 = 1 from rfl]) (by simp [s49])) r1.length (by simp) ⟨i + 1, _, p1 ++ [c], r1, rfl, by omega, hun, hr, by rw [hp]; simp, by simpa using hl, rfl⟩
      · rename_i hc
        cases hr
        refine WP.cond (b := true) (by simp; omega) (fun _ => ?_) (fun h => by cases h)
        repeat (first | refine WP.seq ?_ | refine WP.block ?_ | (refine WP.region Try.tab ?_; simp -dsimp) | (refine WP.draw Try.tab Try.mixed ?_; simp -dsimp) | refine And.intro (by first | rfl | omega | decide | (simp; done) | (simp; omega) | (intros; simp_all; done)) ?_)
        have hp2 : pre' = p1 ++ [c] := List.append_cancel_right (bs := r') (by rw [hp]; simp)
        subst hp2
        refine WP.ret (finQ.retE ?_)
        simp -dsimp
end Go.Proofs.Ytnbanfpelgcmoaa
