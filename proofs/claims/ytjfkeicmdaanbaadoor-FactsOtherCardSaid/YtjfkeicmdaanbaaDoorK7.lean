/-
  Joined texts.
-/
import Derived.Test.YtjfkeicmdaanbaaDoorK6
set_option linter.unusedSectionVars false
set_option linter.unusedSimpArgs false
set_option linter.unusedVariables false
namespace Go.Proofs.YtjfkeicmdaanbaaDoor
open Go.Xe Go.RowKit

/-! ### the reader of the reference -/
@[simp] def rB (pre r : List UInt8) (bad : Bool) : Box := .cells 122 [.d (slB (pre ++ r)), .d (.v (.int .i64 pre.length)), .d (.v (.bool bad))]

theorem bys_at (pre : List UInt8) (c : UInt8) (r : List UInt8) : ((bys pre ++ byteD c :: bys r).drop pre.length).take 1 = [byteD c] := by
  rw [← bys_length pre, List.drop_left]; rfl

theorem f48_e (pre : List UInt8) : Fun Tryd.prog 83 [.ptr 1000 0] [(1000, rB pre [] false)] (.d (.v (.int .u8 0))) [(1000, rB pre [] true)] fun _ => False := by
  refine Fun.of_wp (pn := noPn) Tryd.tab Tryd.func83 rfl fun β0 => ?_
  simp only [Tryd.f83]
  repeat (first | refine WP.seq ?_ | refine WP.block ?_ | (refine WP.region Tryd.tab ?_; simp -dsimp) | (refine WP.draw Tryd.tab Tryd.mixed ?_; simp -dsimp) | refine And.intro (by first | rfl | omega | decide | (simp; done) | (simp; omega) | (intro _ h; exact fcs_side h; done) | (intros; simp_all; done)) ?_)
  refine WP.cond (b := true) (by simp) (fun _ => ?_) (fun h => by cases h)
  repeat (first | refine WP.seq ?_ | refine WP.block ?_ | (refine WP.region Tryd.tab ?_; simp -dsimp) | (refine WP.draw Tryd.tab Tryd.mixed ?_; simp -dsimp) | refine And.intro (by first | rfl | omega | decide | (simp; done) | (simp; omega) | (intro _ h; exact fcs_side h; done) | (intros; simp_all; done)) ?_)
  refine WP.ret (finQ.retE ?_)
  simp -dsimp
theorem f48_c (pre : List UInt8) (c : UInt8) (r : List UInt8) (h : pre.length ≤ 1000000000000) : Fun Tryd.prog 83 [.ptr 1000 0] [(1000, rB pre (c :: r) false)] (.d (byteD c)) [(1000, rB (pre ++ [c]) r false)] fun _ => False := by
  refine Fun.of_wp (pn := noPn) Tryd.tab Tryd.func83 rfl fun β0 => ?_
  simp only [Tryd.f83]
  have e1 : IntKind.i64.wrap ((pre.length : Int) + 1) = (pre.length : Int) + 1 := IntWalk.i64_in _ (by omega)
  have e2 : IntKind.i64.wrap (pre.length : Int) = (pre.length : Int) := IntWalk.i64_in _ (by omega)
  repeat (first | refine WP.seq ?_ | refine WP.block ?_ | (refine WP.region Tryd.tab ?_; simp -dsimp) | (refine WP.draw Tryd.tab Tryd.mixed ?_; simp -dsimp) | refine And.intro (by first | rfl | omega | decide | (simp; done) | (simp; omega) | (intro _ h; exact fcs_side h; done) | (intros; simp_all; done)) ?_)
  refine WP.cond (b := false) (by simp; omega) (fun h => by cases h) (fun _ => ?_)
  refine WP.skip ?_
  simp -dsimp
  repeat (first | refine WP.seq ?_ | refine WP.block ?_ | (refine WP.region Tryd.tab ?_; simp -dsimp [e1, e2, bys_at]) | (refine WP.draw Tryd.tab Tryd.mixed ?_; simp -dsimp [e1, e2, bys_at]) | refine And.intro (by first | rfl | omega | decide | (simp; done) | (simp; omega) | (intro _ h; exact fcs_side h; done) | (intros; simp_all; done)) ?_)
  refine WP.ret (finQ.retE ?_)
  simp -dsimp [e1, e2]

/-- A numeral as the reference reads it: the number, what is left, whether it is bad. -/
def rNum : Nat → Nat → List UInt8 → Nat × List UInt8 × Bool
  | _, _, [] => (0, [], true)
  | i, u, c :: r => if (i = 0 ∨ c.toNat ≠ 0) ∧ (i < 9 ∨ c.toNat ≤ 1) then (if c.toNat < 128 then (u + c.toNat % 128 * 128 ^ i, r, false) else rNum (i + 1) (u + c.toNat % 128 * 128 ^ i) r) else (0, r, true)

theorem add_step {i u : Nat} {c : UInt8} (hi : i ≤ 9) (hu : u < 128 ^ i) (hc : i < 9 ∨ c.toNat ≤ 1) :
    IntKind.u64.wrap ((u : Int) + IntKind.u64.wrap (IntKind.u64.wrap ((c.toNat : Int) % 128) * 2 ^ shN .u64 (7 * (i : Int)))) = ((u + c.toNat % 128 * 128 ^ i : Nat) : Int) := by
  obtain ⟨_, hb⟩ := num_step hi hu hc
  have hm : c.toNat % 128 < 128 := Nat.mod_lt _ (by omega)
  have hs : shN .u64 (7 * (i : Int)) = 7 * i := by
    show min (7 * (i : Int)).toNat 64 = 7 * i
    omega
  have hw : IntKind.u64.wrap ((c.toNat : Int) % 128) = ((c.toNat % 128 : Nat) : Int) := by
    rw [IntWalk.u64_in _ (by omega)]; omega
  have e : (((c.toNat % 128 : Nat) : Int) * 2 ^ (7 * i)) = ((c.toNat % 128 * 128 ^ i : Nat) : Int) := by rw [p7]; push_cast; rfl
  have w1 : IntKind.u64.wrap ((c.toNat % 128 * 128 ^ i : Nat) : Int) = ((c.toNat % 128 * 128 ^ i : Nat) : Int) := IntWalk.u64_in _ (by omega)
  rw [hs, hw, e, w1, IntWalk.u64_in _ (by omega)]
  push_cast; rfl

attribute [local simp] byteD_eq
theorem add_step' {i u : Nat} {c : UInt8} (hi : i ≤ 9) (hu : u < 128 ^ i) (hc : i < 9 ∨ c.toNat ≤ 1) :
    IntKind.u64.wrap ((u : Int) + IntKind.u64.wrap (IntKind.u64.wrap ((c.toNat : Int).tmod 128) * 2 ^ shN .u64 (7 * (i : Int)))) = (u : Int) + (c.toNat : Int) % 128 * 128 ^ i := by
  have h := add_step hi hu hc
  rw [Int.tmod_eq_emod_of_nonneg (by omega), h]
  push_cast; rfl
def s49 (i u : Nat) (pre r : List UInt8) : St := mkS 43 [(0, .ptr 1000 0), (3, .d (.v (.int .u64 u))), (4, .d (.v (.int .i64 i)))] [(1000, rB pre r false)]

set_option maxRecDepth 10000 in
set_option maxHeartbeats 4000000 in
theorem f49_ok (pre r pre' r' : List UInt8) (x : Nat) (bad : Bool) (h : rNum 0 0 r = (x, r', bad)) (hp : pre' ++ r' = pre ++ r) (hl : (pre ++ r).length ≤ 1000000000000) :
    Fun Tryd.prog 84 [.ptr 1000 0] [(1000, rB pre r false)] (.d (.v (.int .u64 x))) [(1000, rB pre' r' bad)] fun _ => False := by
  refine Fun.of_wp (pn := noPn) Tryd.tab Tryd.func84 rfl fun β0 => ?_
  simp only [Tryd.f84]
  repeat (first | refine WP.seq ?_ | refine WP.block ?_ | (refine WP.region Tryd.tab ?_; simp -dsimp) | (refine WP.draw Tryd.tab Tryd.mixed ?_; simp -dsimp) | refine And.intro (by first | rfl | omega | decide | (simp; done) | (simp; omega) | (intro _ h; exact fcs_side h; done) | (intros; simp_all; done)) ?_)
  refine WP.loopWk (fun m S => ∃ i u p1 r1, m = r1.length ∧ i ≤ 9 ∧ u < 128 ^ i ∧ rNum i u r1 = (x, r', bad) ∧ pre' ++ r' = p1 ++ r1 ∧ (p1 ++ r1).length ≤ 1000000000000 ∧ S = s49 i u p1 r1) r.length (S0 := s49 0 0 pre r) (Wk.lessE [] (by simp [s49]) (by simp [s49])) ⟨0, 0, pre, r, rfl, by omega, by simp, h, hp, hl, rfl⟩ ?_
  rintro _ _ ⟨i, u, p1, r1, rfl, hi, hu, hr, hp, hl, rfl⟩
  simp -dsimp [s49]
  repeat (first | refine WP.seq ?_ | refine WP.block ?_ | (refine WP.region Tryd.tab ?_; simp -dsimp) | (refine WP.draw Tryd.tab Tryd.mixed ?_; simp -dsimp) | refine And.intro (by first | rfl | omega | decide | (simp; done) | (simp; omega) | (intro _ h; exact fcs_side h; done) | (intros; simp_all; done)) ?_)
  refine WP.cond (b := true) (by simp) (fun _ => ?_) (fun h => by cases h)
  refine WP.skip ?_
  simp -dsimp
  repeat (first | refine WP.seq ?_ | refine WP.block ?_ | (refine WP.region Tryd.tab ?_; simp -dsimp) | (refine WP.draw Tryd.tab Tryd.mixed ?_; simp -dsimp) | refine And.intro (by first | rfl | omega | decide | (simp; done) | (simp; omega) | (intro _ h; exact fcs_side h; done) | (intros; simp_all; done)) ?_)
  cases r1 with
  | nil =>
    rw [rNum] at hr
    cases hr
    simp only [List.append_nil] at hp
    subst hp
    by_cases h0 : i = 0
    · subst h0
      have hu0 : u = 0 := by simpa using hu
      subst hu0
      refine vcStop.call Tryd.body83 (f48_e pre') (rl []) rfl rfl (by simp [BoxLeq]) (CallOk.of (by simp [BoxLeq]) rfl (by first | rfl | (simp [BoxLeq]; done)) (by simp [BoxLeq]) (by simp [BoxLeq])) (fun _ h => h.elim) (fun ⟨_, h⟩ => h.elim) (fun ⟨_, h⟩ => h.elim) (by simp [BoxLeq]) ?_
      simp -dsimp
      repeat (first | refine WP.seq ?_ | refine WP.block ?_ | (refine WP.region Tryd.tab ?_; simp -dsimp) | (refine WP.draw Tryd.tab Tryd.mixed ?_; simp -dsimp) | refine And.intro (by first | rfl | omega | decide | (simp; done) | (simp; omega) | (intro _ h; exact fcs_side h; done) | (intros; simp_all; done)) ?_)
      refine WP.cond (b := false) (by simp) (fun h => by cases h) (fun _ => ?_)
      refine WP.skip ?_
      simp -dsimp
      repeat (first | refine WP.seq ?_ | refine WP.block ?_ | (refine WP.region Tryd.tab ?_; simp -dsimp) | (refine WP.draw Tryd.tab Tryd.mixed ?_; simp -dsimp) | refine And.intro (by first | rfl | omega | decide | (simp; done) | (simp; omega) | (intro _ h; exact fcs_side h; done) | (intros; simp_all; done)) ?_)
      refine WP.cond (b := true) (by simp) (fun _ => ?_) (fun h => by cases h)
      repeat (first | refine WP.seq ?_ | refine WP.block ?_ | (refine WP.region Tryd.tab ?_; simp -dsimp) | (refine WP.draw Tryd.tab Tryd.mixed ?_; simp -dsimp) | refine And.intro (by first | rfl | omega | decide | (simp; done) | (simp; omega) | (intro _ h; exact fcs_side h; done) | (intros; simp_all; done)) ?_)
      refine WP.ret (finQ.retE ?_)
      simp -dsimp [show IntKind.u64.wrap (IntKind.u64.wrap (IntKind.u64.wrap 0 * 2 ^ shN IntKind.u64 (IntKind.i64.wrap 0))) = 0 by decide]
    · have h1 : 0 < i := by omega
      refine vcStop.call Tryd.body83 (f48_e pre') (rl []) rfl rfl (by simp [BoxLeq]) (CallOk.of (by simp [BoxLeq]) rfl (by first | rfl | (simp [BoxLeq]; done)) (by simp [BoxLeq]) (by simp [BoxLeq])) (fun _ h => h.elim) (fun ⟨_, h⟩ => h.elim) (fun ⟨_, h⟩ => h.elim) (by simp [BoxLeq]) ?_
      simp -dsimp
      repeat (first | refine WP.seq ?_ | refine WP.block ?_ | (refine WP.region Tryd.tab ?_; simp -dsimp [h1]) | (refine WP.draw Tryd.tab Tryd.mixed ?_; simp -dsimp [h1]) | refine And.intro (by first | rfl | omega | decide | (simp; done) | (simp; omega) | (intro _ h; exact fcs_side h; done) | (intros; simp_all; done)) ?_)
      refine WP.cond (b := true) (by simp) (fun _ => ?_) (fun h => by cases h)
      repeat (first | refine WP.seq ?_ | refine WP.block ?_ | (refine WP.region Tryd.tab ?_; simp -dsimp) | (refine WP.draw Tryd.tab Tryd.mixed ?_; simp -dsimp) | refine And.intro (by first | rfl | omega | decide | (simp; done) | (simp; omega) | (intro _ h; exact fcs_side h; done) | (intros; simp_all; done)) ?_)
      refine WP.ret (finQ.retE ?_)
      simp -dsimp
  | cons c r1 =>
    have hp1 : p1.length ≤ 1000000000000 := by simp at hl; omega
    rw [rNum] at hr
    have hnx : ¬ c.toNat < 128 → (i < 9 ∨ c.toNat ≤ 1) → i + 1 ≤ 9 := by omega
    have hun : u + c.toNat % 128 * 128 ^ i < 128 ^ (i + 1) := by
      have h1 : c.toNat % 128 * 128 ^ i ≤ 127 * 128 ^ i := Nat.mul_le_mul_right _ (by omega)
      rw [Nat.pow_succ]; omega
    have e7 : IntKind.i64.wrap (7 * (i : Int)) = 7 * (i : Int) := IntWalk.i64_in _ (by omega)
    have e8 : IntKind.i64.wrap ((i : Int) + 1) = (i : Int) + 1 := IntWalk.i64_in _ (by omega)
    have hlt : decide ((c.toNat : Int) < 128) = decide (c.toNat < 128) := by simp [show ((c.toNat : Int) < 128) ↔ c.toNat < 128 by omega]
    by_cases h0 : i = 0
    · subst h0
      have hst : IntKind.u64.wrap ((u : Int) + IntKind.u64.wrap (IntKind.u64.wrap ((c.toNat : Int).tmod 128) * 2 ^ shN .u64 (IntKind.i64.wrap 0))) = (u : Int) + (c.toNat : Int) % 128 := by
        have h := add_step' (c := c) hi hu (by omega)
        simpa [show IntKind.i64.wrap 0 = 0 from rfl] using h
      have e81 : IntKind.i64.wrap 1 = 1 := rfl
      refine vcStop.call Tryd.body83 (f48_c p1 c r1 hp1) (rl []) rfl rfl (by simp [BoxLeq]) (CallOk.of (by simp [BoxLeq]) rfl (by first | rfl | (simp [BoxLeq]; done)) (by simp [BoxLeq]) (by simp [BoxLeq])) (fun _ h => h.elim) (fun ⟨_, h⟩ => h.elim) (fun ⟨_, h⟩ => h.elim) (by simp [BoxLeq]) ?_
      simp -dsimp
      repeat (first | refine WP.seq ?_ | refine WP.block ?_ | (refine WP.region Tryd.tab ?_; simp -dsimp) | (refine WP.draw Tryd.tab Tryd.mixed ?_; simp -dsimp) | refine And.intro (by first | rfl | omega | decide | (simp; done) | (simp; omega) | (intro _ h; exact fcs_side h; done) | (intros; simp_all; done)) ?_)
      refine WP.cond (b := false) (by simp) (fun h => by cases h) (fun _ => ?_)
      refine WP.skip ?_
      simp -dsimp
      rw [if_pos (by omega)] at hr
      repeat (first | refine WP.seq ?_ | refine WP.block ?_ | (refine WP.region Tryd.tab ?_; simp -dsimp [e7, hst]) | (refine WP.draw Tryd.tab Tryd.mixed ?_; simp -dsimp [e7, hst]) | refine And.intro (by first | rfl | omega | decide | (simp; done) | (simp; omega) | (intro _ h; exact fcs_side h; done) | (intros; simp_all; done)) ?_)
      refine WP.cond (b := decide (c.toNat < 128)) (by simp [hlt]) (fun hb => ?_) (fun hb => ?_)
      · have hb := of_decide_eq_true hb
        rw [if_pos hb] at hr
        cases hr
        have hp2 : pre' = p1 ++ [c] := List.append_cancel_right (bs := r') (by rw [hp]; simp)
        subst hp2
        repeat (first | refine WP.seq ?_ | refine WP.block ?_ | (refine WP.region Tryd.tab ?_; simp -dsimp) | (refine WP.draw Tryd.tab Tryd.mixed ?_; simp -dsimp) | refine And.intro (by first | rfl | omega | decide | (simp; done) | (simp; omega) | (intro _ h; exact fcs_side h; done) | (intros; simp_all; done)) ?_)
        refine WP.ret (finQ.retE ?_)
        simp -dsimp
      · have hb := of_decide_eq_false hb
        rw [if_neg hb] at hr
        refine WP.skip ?_
        simp -dsimp
        repeat (first | refine WP.seq ?_ | refine WP.block ?_ | (refine WP.region Tryd.tab ?_; simp -dsimp) | (refine WP.draw Tryd.tab Tryd.mixed ?_; simp -dsimp) | refine And.intro (by first | rfl | omega | decide | (simp; done) | (simp; omega) | (intro _ h; exact fcs_side h; done) | (intros; simp_all; done)) ?_)
        refine loopW.next (s49 (0 + 1) (u + c.toNat % 128 * 128 ^ 0) (p1 ++ [c]) r1) (Wk.lessE [] (by simp [s49, e8, hst, show IntKind.i64.wrap 1 = 1 from rfl]) (by simp [s49])) r1.length (by simp) ⟨0 + 1, _, p1 ++ [c], r1, rfl, by omega, hun, hr, by rw [hp]; simp, by simpa using hl, rfl⟩
    · have h1 : 0 < i := by omega
      refine vcStop.call Tryd.body83 (f48_c p1 c r1 hp1) (rl []) rfl rfl (by simp [BoxLeq]) (CallOk.of (by simp [BoxLeq]) rfl (by first | rfl | (simp [BoxLeq]; done)) (by simp [BoxLeq]) (by simp [BoxLeq])) (fun _ h => h.elim) (fun ⟨_, h⟩ => h.elim) (fun ⟨_, h⟩ => h.elim) (by simp [BoxLeq]) ?_
      simp -dsimp
      repeat (first | refine WP.seq ?_ | refine WP.block ?_ | (refine WP.region Tryd.tab ?_; simp -dsimp [h1]) | (refine WP.draw Tryd.tab Tryd.mixed ?_; simp -dsimp [h1]) | refine And.intro (by first | rfl | omega | decide | (simp; done) | (simp; omega) | (intro _ h; exact fcs_side h; done) | (intros; simp_all; done)) ?_)
      split at hr
      · rename_i hc
        have hst := add_step' hi hu hc.2
        refine WP.cond (b := false) (by simp; omega) (fun h => by cases h) (fun _ => ?_)
        refine WP.skip ?_
        simp -dsimp
        repeat (first | refine WP.seq ?_ | refine WP.block ?_ | (refine WP.region Tryd.tab ?_; simp -dsimp [e7, hst]) | (refine WP.draw Tryd.tab Tryd.mixed ?_; simp -dsimp [e7, hst]) | refine And.intro (by first | rfl | omega | decide | (simp; done) | (simp; omega) | (intro _ h; exact fcs_side h; done) | (intros; simp_all; done)) ?_)
        refine WP.cond (b := decide (c.toNat < 128)) (by simp [hlt]) (fun hb => ?_) (fun hb => ?_)
        · have hb := of_decide_eq_true hb
          rw [if_pos hb] at hr
          cases hr
          have hp2 : pre' = p1 ++ [c] := List.append_cancel_right (bs := r') (by rw [hp]; simp)
          subst hp2
          repeat (first | refine WP.seq ?_ | refine WP.block ?_ | (refine WP.region Tryd.tab ?_; simp -dsimp) | (refine WP.draw Tryd.tab Tryd.mixed ?_; simp -dsimp) | refine And.intro (by first | rfl | omega | decide | (simp; done) | (simp; omega) | (intro _ h; exact fcs_side h; done) | (intros; simp_all; done)) ?_)
          refine WP.ret (finQ.retE ?_)
          simp -dsimp
        · have hb := of_decide_eq_false hb
          rw [if_neg hb] at hr
          refine WP.skip ?_
          simp -dsimp
          repeat (first | refine WP.seq ?_ | refine WP.block ?_ | (refine WP.region Tryd.tab ?_; simp -dsimp) | (refine WP.draw Tryd.tab Tryd.mixed ?_; simp -dsimp) | refine And.intro (by first | rfl | omega | decide | (simp; done) | (simp; omega) | (intro _ h; exact fcs_side h; done) | (intros; simp_all; done)) ?_)
          refine loopW.next (s49 (i + 1) (u + c.toNat % 128 * 128 ^ i) (p1 ++ [c]) r1) (Wk.lessE [] (by simp [s49, e8, hst, show IntKind.i64.wrap 1 = 1 from rfl]) (by simp [s49])) r1.length (by simp) ⟨i + 1, _, p1 ++ [c], r1, rfl, by omega, hun, hr, by rw [hp]; simp, by simpa using hl, rfl⟩
      · rename_i hc
        cases hr
        refine WP.cond (b := true) (by simp; omega) (fun _ => ?_) (fun h => by cases h)
        repeat (first | refine WP.seq ?_ | refine WP.block ?_ | (refine WP.region Tryd.tab ?_; simp -dsimp) | (refine WP.draw Tryd.tab Tryd.mixed ?_; simp -dsimp) | refine And.intro (by first | rfl | omega | decide | (simp; done) | (simp; omega) | (intro _ h; exact fcs_side h; done) | (intros; simp_all; done)) ?_)
        have hp2 : pre' = p1 ++ [c] := List.append_cancel_right (bs := r') (by rw [hp]; simp)
        subst hp2
        refine WP.ret (finQ.retE ?_)
        simp -dsimp
end Go.Proofs.YtjfkeicmdaanbaaDoor

set_option linter.unusedSimpArgs false
set_option linter.unusedVariables false
namespace Go.Proofs.YtjfkeicmdaanbaaDoor
open Go.Xe Go.RowKit
attribute [local simp] byteD_eq

def vz : V := .mk 0 0 ⟨#[]⟩ []
def rMany (p : List UInt8 → V × List UInt8 × Bool) : Nat → List UInt8 → List V × List UInt8 × Bool
  | 0, r => ([], r, false)
  | n + 1, r => if (p r).2.2 = true then ([(p r).1], (p r).2.1, true) else ((p r).1 :: (rMany p n (p r).2.1).1, (rMany p n (p r).2.1).2.1, (rMany p n (p r).2.1).2.2)
/-- A value as the reference reads it, whatever comes. -/
def rOne (b : Nat) (p : List UInt8 → V × List UInt8 × Bool) : List UInt8 → V × List UInt8 × Bool
  | [] => (vz, [], true)
  | c :: r => if c.toNat = 1 then (.mk 1 (zag (rNum 0 0 r).1) ⟨#[]⟩ [], (rNum 0 0 r).2.1, (rNum 0 0 r).2.2)
      else if c.toNat = 2 then (if (rNum 0 0 r).2.2 = true ∨ (rNum 0 0 r).2.1.length < (rNum 0 0 r).1 then (vz, (rNum 0 0 r).2.1, true) else (.mk 2 0 ⟨((rNum 0 0 r).2.1.take (rNum 0 0 r).1).toArray⟩ [], (rNum 0 0 r).2.1.drop (rNum 0 0 r).1, false))
      else if c.toNat = 3 then (if (rNum 0 0 r).2.2 = true ∨ (rNum 0 0 r).2.1.length < (rNum 0 0 r).1 ∨ b = 0 then (vz, (rNum 0 0 r).2.1, true)
        else (.mk 3 0 ⟨#[]⟩ (rMany p (rNum 0 0 r).1 (rNum 0 0 r).2.1).1, (rMany p (rNum 0 0 r).1 (rNum 0 0 r).2.1).2.1, (rMany p (rNum 0 0 r).1 (rNum 0 0 r).2.1).2.2))
      else (vz, r, true)
def rVal : Nat → List UInt8 → V × List UInt8 × Bool
  | 0 => rOne 0 fun r => (vz, r, true)
  | b + 1 => rOne (b + 1) (rVal b)

theorem rNum_u : ∀ (r : List UInt8) (i u : Nat), i ≤ 9 → u < 128 ^ i → isU (rNum i u r).1
  | [], _, _, _, _ => by rw [rNum]; unfold isU; omega
  | c :: r, i, u, hi, hu => by
    rw [rNum]
    split
    · rename_i hc
      obtain ⟨_, hbd⟩ := num_step hi hu hc.2
      split
      · exact hbd
      · have h1 : c.toNat % 128 * 128 ^ i ≤ 127 * 128 ^ i := Nat.mul_le_mul_right _ (by omega)
        exact rNum_u r _ _ (by omega) (by rw [Nat.pow_succ]; omega)
    · unfold isU; simp only; omega

/-! ### what is left is the end of what was there -/
def isEnd (r' r : List UInt8) : Prop := ∃ q, q ++ r' = r
theorem isEnd.refl (r : List UInt8) : isEnd r r := ⟨[], rfl⟩
theorem isEnd.trans {a b c : List UInt8} (h : isEnd a b) (h' : isEnd b c) : isEnd a c := by
  obtain ⟨q, rfl⟩ := h
  obtain ⟨q', rfl⟩ := h'
  exact ⟨q' ++ q, by simp⟩
theorem isEnd.cons {a b : List UInt8} (c : UInt8) (h : isEnd a b) : isEnd a (c :: b) := by
  obtain ⟨q, rfl⟩ := h
  exact ⟨c :: q, rfl⟩
theorem isEnd.drop (n : Nat) (r : List UInt8) : isEnd (r.drop n) r := ⟨r.take n, List.take_append_drop n r⟩
theorem rNum_end : ∀ (r : List UInt8) (i u : Nat), isEnd (rNum i u r).2.1 r
  | [], i, u => by rw [rNum]; exact .refl _
  | c :: r, i, u => by
    rw [rNum]
    split
    · split
      · exact .cons c (.refl _)
      · exact .cons c (rNum_end r _ _)
    · exact .cons c (.refl _)
theorem rMany_end {p : List UInt8 → V × List UInt8 × Bool} (hp : ∀ r, isEnd (p r).2.1 r) : ∀ (n : Nat) (r : List UInt8), isEnd (rMany p n r).2.1 r
  | 0, r => .refl _
  | n + 1, r => by
    rw [rMany]
    split
    · exact hp r
    · exact (rMany_end hp n _).trans (hp r)
theorem rOne_end (b : Nat) {p : List UInt8 → V × List UInt8 × Bool} (hp : ∀ r, isEnd (p r).2.1 r) : ∀ r, isEnd (rOne b p r).2.1 r
  | [] => .refl _
  | c :: r => by
    rw [rOne]
    have h := rNum_end r 0 0
    split
    · exact .cons c h
    split
    · split
      · exact .cons c h
      · exact .cons c ((isEnd.drop _ _).trans h)
    split
    · split
      · exact .cons c h
      · exact .cons c ((rMany_end hp _ _).trans h)
    · exact .cons c (.refl _)
theorem rVal_end : ∀ (b : Nat) (r : List UInt8), isEnd (rVal b r).2.1 r
  | 0, r => rOne_end 0 (fun r => .refl r) r
  | b + 1, r => rOne_end (b + 1) (rVal_end b) r

/-! ### the two readers -/
theorem rNum_p : ∀ (r : List UInt8) (i u : Nat), (∀ x r', pNum i u r = some (x, r') → rNum i u r = (x, r', false)) ∧ (pNum i u r = none → (rNum i u r).2.2 = true)
  | [], i, u => ⟨fun x r' h => (by rw [pNum] at h; cases h), fun _ => rfl⟩
  | c :: r, i, u => by
    rw [pNum, rNum]
    split
    · split
      · exact ⟨fun x r' h => (by cases h; rfl), fun h => by cases h⟩
      · exact rNum_p r _ _
    · exact ⟨fun x r' h => (by cases h), fun _ => rfl⟩
theorem rMany_p {p : List UInt8 → Option (V × List UInt8)} {q : List UInt8 → V × List UInt8 × Bool} (h1 : ∀ r v r', p r = some (v, r') → q r = (v, r', false)) (h2 : ∀ r, p r = none → (q r).2.2 = true) :
    ∀ (n : Nat) (r : List UInt8), (∀ l r', pMany p n r = some (l, r') → rMany q n r = (l, r', false)) ∧ (pMany p n r = none → (rMany q n r).2.2 = true)
  | 0, r => ⟨fun l r' h => (by rw [pMany] at h; cases h; rfl), fun h => by rw [pMany] at h; cases h⟩
  | n + 1, r => by
    rw [pMany, rMany]
    cases hp : p r with
    | none => rw [if_pos (h2 r hp)]; exact ⟨fun l r' h => (by cases h), fun _ => rfl⟩
    | some x =>
      obtain ⟨v, r1⟩ := x
      have hq := h1 r v r1 hp
      rw [hq]
      have ih := rMany_p h1 h2 n r1
      simp only [Bool.false_eq_true, if_false]
      cases hm : pMany p n r1 with
      | none => exact ⟨fun l r' h => (by cases h), fun _ => ih.2 hm⟩
      | some y =>
        obtain ⟨l, r2⟩ := y
        have := ih.1 l r2 hm
        exact ⟨fun l r' h => (by cases h; rw [this]), fun h => by cases h⟩
theorem rVal_p : ∀ (b : Nat) (r : List UInt8), (∀ v r', pVal b r = some (v, r') → rVal b r = (v, r', false)) ∧ (pVal b r = none → (rVal b r).2.2 = true)
  | b, [] => by cases b <;> exact ⟨fun v r' h => (by rw [pVal] at h; cases h), fun _ => rfl⟩
  | b, c :: r => by
    have hn := rNum_p r 0 0
    have hL : (∀ n r', pLen r = some (n, r') → rNum 0 0 r = (n, r', false) ∧ n ≤ r'.length) ∧ (pLen r = none → (rNum 0 0 r).2.2 = true ∨ (rNum 0 0 r).2.1.length < (rNum 0 0 r).1) := by
      rw [pLen]
      cases hp : pNum 0 0 r with
      | none => exact ⟨fun n r' h => (by cases h), fun _ => .inl (hn.2 hp)⟩
      | some x =>
        obtain ⟨u, r1⟩ := x
        have h1 := hn.1 u r1 hp
        simp only
        split
        · rename_i hle; exact ⟨fun n r' h => by cases h; exact ⟨h1, hle⟩, fun h => by cases h⟩
        · rename_i hle; exact ⟨fun n r' h => (by cases h), fun _ => .inr (by rw [h1]; simp only; omega)⟩
    have hr : ∃ q, rVal b = rOne b q ∧ ∀ b', b = b' + 1 → q = rVal b' := by
      cases b with
      | zero => exact ⟨_, rfl, fun b' h => by cases h⟩
      | succ b => exact ⟨_, rfl, fun b' h => by cases h; rfl⟩
    obtain ⟨q, hq, hq'⟩ := hr
    rw [hq, rOne]
    by_cases h1 : c.toNat = 1
    · rw [pVal_1 b r h1, if_pos h1]
      cases hp : pNum 0 0 r with
      | none => exact ⟨fun v r' h => (by cases h), fun _ => hn.2 hp⟩
      | some x =>
        obtain ⟨u, r1⟩ := x
        rw [hn.1 u r1 hp]
        exact ⟨fun v r' h => (by cases h; rfl), fun h => by cases h⟩
    rw [if_neg h1]
    by_cases h2 : c.toNat = 2
    · rw [pVal_2 b r h2, if_pos h2]
      cases hp : pLen r with
      | none => rw [if_pos (hL.2 hp)]; exact ⟨fun v r' h => (by cases h), fun _ => rfl⟩
      | some x =>
        obtain ⟨n, r1⟩ := x
        obtain ⟨h3, h4⟩ := hL.1 n r1 hp
        rw [h3, if_neg (by simp only [Bool.false_eq_true, false_or]; omega)]
        exact ⟨fun v r' h => (by cases h; rfl), fun h => by cases h⟩
    rw [if_neg h2]
    by_cases h3 : c.toNat = 3
    · rw [if_pos h3]
      cases b with
      | zero =>
        rw [pVal_30 r h3, if_pos (.inr (.inr rfl))]
        exact ⟨fun v r' h => (by cases h), fun _ => rfl⟩
      | succ b =>
        rw [pVal_3 b r h3]
        have hqq := hq' b rfl
        subst hqq
        cases hp : pLen r with
        | none =>
          rw [if_pos (by rcases hL.2 hp with h | h; exact .inl h; exact .inr (.inl h))]
          exact ⟨fun v r' h => (by cases h), fun _ => rfl⟩
        | some x =>
          obtain ⟨n, r1⟩ := x
          obtain ⟨h4, h5⟩ := hL.1 n r1 hp
          have hm := rMany_p (fun r v r' h => (rVal_p b r).1 v r' h) (fun r h => (rVal_p b r).2 h) n r1
          rw [h4, if_neg (by simp only [Bool.false_eq_true, false_or]; omega)]
          simp only [Option.bind_some]
          cases hy : pMany (pVal b) n r1 with
          | none => exact ⟨fun v r' h => (by cases h), fun _ => hm.2 hy⟩
          | some y =>
            obtain ⟨l, r2⟩ := y
            rw [hm.1 l r2 hy]
            exact ⟨fun v r' h => (by cases h; rfl), fun h => by cases h⟩
    · rw [if_neg h3, pVal_x b r h1 h2 h3]
      exact ⟨fun v r' h => (by cases h), fun _ => rfl⟩
end Go.Proofs.YtjfkeicmdaanbaaDoor

set_option linter.unusedSimpArgs false
set_option linter.unusedVariables false
namespace Go.Proofs.YtjfkeicmdaanbaaDoor
open Go.Xe Go.RowKit
attribute [local simp] byteD_eq

def f34_C (b : Nat) : Prop := b ≤ 16 → ∀ (pre r pre' : List UInt8) (d : Int), d = 16 - b → (pre ++ r).length ≤ 1000000000000 → pre' ++ (rVal b r).2.1 = pre ++ r →
    Fun Tryd.prog 68 [.ptr 1000 0, .d (.v (.int .i64 d))] [(1000, rB pre r false)] (.d (rVal b r).1.d) [(1000, rB pre' (rVal b r).2.1 (rVal b r).2.2)] fun _ => False

def s34 (d : Int) (n i : Nat) (l : List V) (pre r : List UInt8) (bad : Bool) : St :=
  mkS 142 [(0, .ptr 1000 0), (1, .d (.v (.int .i64 d))), (4, .ptr 4 0), (7, .d (.v (.int .u64 n))), (8, .ptr 8 0), (9, .d (.v (.int .u64 i)))]
    [(1000, rB pre r bad), (4, .cells 61 [.d (.v (.int .i64 0)), .d (.v (.int .i64 0)), .d (.v (.string ⟨#[]⟩)), .d (.v (.slice none 0 0))]), (8, .cells 61 [.d (.v (.int .i64 3)), .d (.v (.int .i64 0)), .d (.v (.string ⟨#[]⟩)), .row 500]), (500, .row 61 4 l.length ((V.cellsL l).map .d))]

theorem rVal_one (b : Nat) : ∃ q, rVal b = rOne b q ∧ ∀ b', b = b' + 1 → q = rVal b' := by
  cases b with
  | zero => exact ⟨_, rfl, fun b' h => by cases h⟩
  | succ b => exact ⟨_, rfl, fun b' h => by cases h; rfl⟩

theorem all_bys' (l : List UInt8) : (∀ a ∈ bys l, a = .v (.int .u8 (unB (.d a)).toNat)) ↔ True := all_bys l
attribute [local simp] all_bys'
theorem bys_take (l : List UInt8) (n : Nat) : (bys l).take n = bys (l.take n) := by rw [bys, bys, List.map_take]
theorem bys_drop (l : List UInt8) (n : Nat) : (bys l).drop n = bys (l.drop n) := by rw [bys, bys, List.map_drop]
theorem zag_odd {u : Nat} (h : isU u) (ho : u % 2 = 1) : IntKind.i64.wrap (IntKind.i64.wrap (-IntKind.i64.wrap (IntKind.u64.wrap ((u : Int) / 2))) - 1) = zag u := by
  unfold isU at h
  have e1 : IntKind.u64.wrap ((u : Int) / 2) = (u : Int) / 2 := IntWalk.u64_in _ (by omega)
  have e2 : IntKind.i64.wrap ((u : Int) / 2) = (u : Int) / 2 := IntWalk.i64_in _ (by omega)
  have e3 : IntKind.i64.wrap (-((u : Int) / 2)) = -((u : Int) / 2) := IntWalk.i64_in _ (by omega)
  rw [e1, e2, e3, IntWalk.i64_in _ (by omega), zag, if_neg (by omega)]
  omega
theorem zag_even {u : Nat} (h : isU u) (ho : u % 2 = 0) : IntKind.i64.wrap (IntKind.u64.wrap ((u : Int) / 2)) = zag u := by
  unfold isU at h
  have e1 : IntKind.u64.wrap ((u : Int) / 2) = (u : Int) / 2 := IntWalk.u64_in _ (by omega)
  rw [e1, IntWalk.i64_in _ (by omega), zag, if_pos ho]
  omega

set_option maxRecDepth 100000 in
set_option maxHeartbeats 4000000 in
theorem f34_of (b : Nat) (ih : ∀ b', b = b' + 1 → f34_C b') : f34_C b := by
  intro hb16 pre r pre' d hd hl hp
  obtain ⟨q, hq, hq'⟩ := rVal_one b
  rw [hq] at hp ⊢
  have hpre : pre.length ≤ 1000000000000 := by simp at hl; omega
  refine Fun.of_wp (pn := noPn) Tryd.tab Tryd.func68 rfl fun β0 => ?_
  simp only [Tryd.f68]
  repeat (first | refine WP.seq ?_ | refine WP.block ?_ | (refine WP.region Tryd.tab ?_; simp -dsimp) | (refine WP.draw Tryd.tab Tryd.mixed ?_; simp -dsimp) | refine And.intro (by first | rfl | omega | decide | (simp; done) | (simp; omega) | (intro _ h; exact fcs_side h; done) | (intros; simp_all; done)) ?_)
  cases r with
  | nil =>
    rw [rOne] at hp ⊢
    simp only [List.append_nil] at hp
    subst hp
    refine vcStop.call Tryd.body83 (f48_e pre') (rl []) rfl rfl (by simp [BoxLeq]) (CallOk.of (by simp [BoxLeq]) rfl (by first | rfl | (simp [BoxLeq]; done)) (by simp [BoxLeq]) (by simp [BoxLeq])) (fun _ h => h.elim) (fun ⟨_, h⟩ => h.elim) (fun ⟨_, h⟩ => h.elim) (by simp [BoxLeq]) ?_
    simp -dsimp
    repeat (first | refine WP.seq ?_ | refine WP.block ?_ | (refine WP.region Tryd.tab ?_; simp -dsimp) | (refine WP.draw Tryd.tab Tryd.mixed ?_; simp -dsimp) | refine And.intro (by first | rfl | omega | decide | (simp; done) | (simp; omega) | (intro _ h; exact fcs_side h; done) | (intros; simp_all; done)) ?_)
    refine WP.cond (b := false) (by simp) (fun h => by cases h) (fun _ => ?_)
    repeat (first | refine WP.seq ?_ | refine WP.block ?_ | (refine WP.region Tryd.tab ?_; simp -dsimp) | (refine WP.draw Tryd.tab Tryd.mixed ?_; simp -dsimp) | refine And.intro (by first | rfl | omega | decide | (simp; done) | (simp; omega) | (intro _ h; exact fcs_side h; done) | (intros; simp_all; done)) ?_)
    refine WP.cond (b := false) (by simp) (fun h => by cases h) (fun _ => ?_)
    repeat (first | refine WP.seq ?_ | refine WP.block ?_ | (refine WP.region Tryd.tab ?_; simp -dsimp) | (refine WP.draw Tryd.tab Tryd.mixed ?_; simp -dsimp) | refine And.intro (by first | rfl | omega | decide | (simp; done) | (simp; omega) | (intro _ h; exact fcs_side h; done) | (intros; simp_all; done)) ?_)
    refine WP.cond (b := false) (by simp) (fun h => by cases h) (fun _ => ?_)
    refine WP.skip ?_
    simp -dsimp
    repeat (first | refine WP.seq ?_ | refine WP.block ?_ | (refine WP.region Tryd.tab ?_; simp -dsimp) | (refine WP.draw Tryd.tab Tryd.mixed ?_; simp -dsimp) | refine And.intro (by first | rfl | omega | decide | (simp; done) | (simp; omega) | (intro _ h; exact fcs_side h; done) | (intros; simp_all; done)) ?_)
    refine WP.ret (finQ.retE ?_)
    simp -dsimp [vz, V.d, V.cells, V.cellsL]
  | cons c r =>
    refine vcStop.call Tryd.body83 (f48_c pre c r hpre) (rl []) rfl rfl (by simp [BoxLeq]) (CallOk.of (by simp [BoxLeq]) rfl (by first | rfl | (simp [BoxLeq]; done)) (by simp [BoxLeq]) (by simp [BoxLeq])) (fun _ h => h.elim) (fun ⟨_, h⟩ => h.elim) (fun ⟨_, h⟩ => h.elim) (by simp [BoxLeq]) ?_
    simp -dsimp
    repeat (first | refine WP.seq ?_ | refine WP.block ?_ | (refine WP.region Tryd.tab ?_; simp -dsimp) | (refine WP.draw Tryd.tab Tryd.mixed ?_; simp -dsimp) | refine And.intro (by first | rfl | omega | decide | (simp; done) | (simp; omega) | (intro _ h; exact fcs_side h; done) | (intros; simp_all; done)) ?_)
    have hc1 : decide ((c.toNat : Int) = 1) = decide (c.toNat = 1) := by simp [show ((c.toNat : Int) = 1) ↔ c.toNat = 1 by omega]
    have hc2 : decide ((c.toNat : Int) = 2) = decide (c.toNat = 2) := by simp [show ((c.toNat : Int) = 2) ↔ c.toNat = 2 by omega]
    have hc3 : decide ((c.toNat : Int) = 3) = decide (c.toNat = 3) := by simp [show ((c.toNat : Int) = 3) ↔ c.toNat = 3 by omega]
    rw [rOne] at hp ⊢
    obtain ⟨q1, hq1⟩ := rNum_end r 0 0
    have hq1' : (pre ++ [c] ++ q1) ++ (rNum 0 0 r).2.1 = (pre ++ [c]) ++ r := by rw [List.append_assoc, hq1]
    have hl1 : ((pre ++ [c]) ++ r).length ≤ 1000000000000 := by simpa using hl
    have h49 := f49_ok (pre ++ [c]) r (pre ++ [c] ++ q1) (rNum 0 0 r).2.1 (rNum 0 0 r).1 (rNum 0 0 r).2.2 rfl hq1' hl1
    obtain ⟨P, hP⟩ : ∃ P, P = pre ++ [c] ++ q1 := ⟨_, rfl⟩
    rw [← hP] at h49 hq1'
    have hlP : P.length + (rNum 0 0 r).2.1.length ≤ 1000000000000 := by
      have := congrArg List.length hq1'
      simp only [List.length_append] at this hl1
      omega
    have hdr : ∀ l : List UInt8, (bys P ++ bys l).drop P.length = bys l := fun l => by rw [← bys_length P, List.drop_left]
    clear hP
    have hl2 : q1.length + (rNum 0 0 r).2.1.length = r.length := by rw [← List.length_append, hq1]
    have hu := rNum_u r 0 0 (by omega) (by simp)
    generalize rNum 0 0 r = R at *
    obtain ⟨u, r1, bad⟩ := R
    simp only at *
    refine WP.cond (b := decide (c.toNat = 1)) (by simp [hc1]) (fun hb => ?_) (fun hb => ?_)
    · have hb := of_decide_eq_true hb
      rw [if_pos hb] at hp ⊢
      simp only at hp ⊢
      have hp2 : pre' = P := List.append_cancel_right (bs := r1) (by rw [hp, hq1']; simp)
      subst hp2
      repeat (first | refine WP.seq ?_ | refine WP.block ?_ | (refine WP.region Tryd.tab ?_; simp -dsimp) | (refine WP.draw Tryd.tab Tryd.mixed ?_; simp -dsimp) | refine And.intro (by first | rfl | omega | decide | (simp; done) | (simp; omega) | (intro _ h; exact fcs_side h; done) | (intros; simp_all; done)) ?_)
      refine vcStop.call Tryd.body84 (h49) (rl []) rfl rfl (by simp [BoxLeq]) (CallOk.of (by simp [BoxLeq]) rfl (by first | rfl | (simp [BoxLeq]; done)) (by simp [BoxLeq]) (by simp [BoxLeq])) (fun _ h => h.elim) (fun ⟨_, h⟩ => h.elim) (fun ⟨_, h⟩ => h.elim) (by simp [BoxLeq]) ?_
      simp -dsimp
      repeat (first | refine WP.seq ?_ | refine WP.block ?_ | (refine WP.region Tryd.tab ?_; simp -dsimp) | (refine WP.draw Tryd.tab Tryd.mixed ?_; simp -dsimp) | refine And.intro (by first | rfl | omega | decide | (simp; done) | (simp; omega) | (intro _ h; exact fcs_side h; done) | (intros; simp_all; done)) ?_)
      have e1 : decide ((u : Int).tmod 2 = 1) = decide (u % 2 = 1) := by rw [Int.tmod_eq_emod_of_nonneg (by omega)]; simp [show ((u : Int) % 2 = 1) ↔ u % 2 = 1 by omega]
      refine WP.cond (b := decide (u % 2 = 1)) (by simp [e1]) (fun hb => ?_) (fun hb => ?_)
      · have hb := of_decide_eq_true hb
        repeat (first | refine WP.seq ?_ | refine WP.block ?_ | (refine WP.region Tryd.tab ?_; simp -dsimp) | (refine WP.draw Tryd.tab Tryd.mixed ?_; simp -dsimp) | refine And.intro (by first | rfl | omega | decide | (simp; done) | (simp; omega) | (intro _ h; exact fcs_side h; done) | (intros; simp_all; done)) ?_)
        refine WP.ret (finQ.retE ?_)
        simp -dsimp [zag_odd hu hb, V.d, V.cells, V.cellsL]
      · have hb := of_decide_eq_false hb
        refine WP.skip ?_
        simp -dsimp
        repeat (first | refine WP.seq ?_ | refine WP.block ?_ | (refine WP.region Tryd.tab ?_; simp -dsimp) | (refine WP.draw Tryd.tab Tryd.mixed ?_; simp -dsimp) | refine And.intro (by first | rfl | omega | decide | (simp; done) | (simp; omega) | (intro _ h; exact fcs_side h; done) | (intros; simp_all; done)) ?_)
        refine WP.ret (finQ.retE ?_)
        simp -dsimp [zag_even hu (by omega), V.d, V.cells, V.cellsL]
    have hb1 : ¬ c.toNat = 1 := of_decide_eq_false hb
    rw [if_neg hb1] at hp ⊢
    have ex : IntKind.i64.wrap ((r1.length : Int)) = (r1.length : Int) := IntWalk.i64_in _ (by omega)
    have ey : IntKind.u64.wrap ((r1.length : Int)) = (r1.length : Int) := IntWalk.u64_in _ (by omega)
    have ep : IntKind.i64.wrap ((P.length : Int)) = (P.length : Int) := IntWalk.i64_in _ (by omega)
    have eS : (P.length : Int) + (r1.length : Int) - (P.length : Int) = (r1.length : Int) := by omega
    have eu : decide ((r1.length : Int) < (u : Int)) = decide (r1.length < u) := by simp
    repeat (first | refine WP.seq ?_ | refine WP.block ?_ | (refine WP.region Tryd.tab ?_; simp -dsimp) | (refine WP.draw Tryd.tab Tryd.mixed ?_; simp -dsimp) | refine And.intro (by first | rfl | omega | decide | (simp; done) | (simp; omega) | (intro _ h; exact fcs_side h; done) | (intros; simp_all; done)) ?_)
    refine WP.cond (b := decide (c.toNat = 2)) (by simp [hc2]) (fun hb => ?_) (fun hb => ?_)
    · have hb := of_decide_eq_true hb
      rw [if_pos hb] at hp ⊢
      repeat (first | refine WP.seq ?_ | refine WP.block ?_ | (refine WP.region Tryd.tab ?_; simp -dsimp) | (refine WP.draw Tryd.tab Tryd.mixed ?_; simp -dsimp) | refine And.intro (by first | rfl | omega | decide | (simp; done) | (simp; omega) | (intro _ h; exact fcs_side h; done) | (intros; simp_all; done)) ?_)
      refine vcStop.call Tryd.body84 (h49) (rl []) rfl rfl (by simp [BoxLeq]) (CallOk.of (by simp [BoxLeq]) rfl (by first | rfl | (simp [BoxLeq]; done)) (by simp [BoxLeq]) (by simp [BoxLeq])) (fun _ h => h.elim) (fun ⟨_, h⟩ => h.elim) (fun ⟨_, h⟩ => h.elim) (by simp [BoxLeq]) ?_
      simp -dsimp
      cases bad with
      | true =>
        rw [if_pos (.inl rfl)] at hp ⊢
        simp only at hp ⊢
        have hp2 : pre' = P := List.append_cancel_right (bs := r1) (by rw [hp, hq1']; simp)
        subst hp2
        repeat (first | refine WP.seq ?_ | refine WP.block ?_ | (refine WP.region Tryd.tab ?_; simp -dsimp) | (refine WP.draw Tryd.tab Tryd.mixed ?_; simp -dsimp) | refine And.intro (by first | rfl | omega | decide | (simp; done) | (simp; omega) | (intro _ h; exact fcs_side h; done) | (intros; simp_all; done)) ?_)
        refine WP.cond (b := true) (by simp) (fun _ => ?_) (fun h => by cases h)
        repeat (first | refine WP.seq ?_ | refine WP.block ?_ | (refine WP.region Tryd.tab ?_; simp -dsimp) | (refine WP.draw Tryd.tab Tryd.mixed ?_; simp -dsimp) | refine And.intro (by first | rfl | omega | decide | (simp; done) | (simp; omega) | (intro _ h; exact fcs_side h; done) | (intros; simp_all; done)) ?_)
        refine WP.ret (finQ.retE ?_)
        simp -dsimp [vz, V.d, V.cells, V.cellsL]
      | false =>
        repeat (first | refine WP.seq ?_ | refine WP.block ?_ | (refine WP.region Tryd.tab ?_; simp -dsimp) | (refine WP.draw Tryd.tab Tryd.mixed ?_; simp -dsimp) | refine And.intro (by first | rfl | omega | decide | (simp; done) | (simp; omega) | (intro _ h; exact fcs_side h; done) | (intros; simp_all; done)) ?_)
        refine WP.cond (b := decide (r1.length < u)) (by simp [eS, ex, ey]) (fun hb => ?_) (fun hb => ?_)
        · have hb := of_decide_eq_true hb
          rw [if_pos (.inr hb)] at hp ⊢
          simp only at hp ⊢
          have hp2 : pre' = P := List.append_cancel_right (bs := r1) (by rw [hp, hq1']; simp)
          subst hp2
          repeat (first | refine WP.seq ?_ | refine WP.block ?_ | (refine WP.region Tryd.tab ?_; simp -dsimp) | (refine WP.draw Tryd.tab Tryd.mixed ?_; simp -dsimp) | refine And.intro (by first | rfl | omega | decide | (simp; done) | (simp; omega) | (intro _ h; exact fcs_side h; done) | (intros; simp_all; done)) ?_)
          refine WP.ret (finQ.retE ?_)
          simp -dsimp [vz, V.d, V.cells, V.cellsL]
        · have hb := of_decide_eq_false hb
          rw [if_neg (by simp only [Bool.false_eq_true, false_or]; exact hb)] at hp ⊢
          simp only at hp ⊢
          have e3 : IntKind.i64.wrap (u : Int) = (u : Int) := IntWalk.i64_in _ (by omega)
          have e4 : IntKind.i64.wrap ((P.length : Int) + (u : Int)) = (P.length : Int) + (u : Int) := IntWalk.i64_in _ (by omega)
          have e5 : ((P.length : Int) + (u : Int)).toNat = P.length + u := by omega
          have e6 : min u r1.length = u := by omega
          have hp2 : pre' = P ++ r1.take u := List.append_cancel_right (bs := r1.drop u) (by rw [hp, List.append_assoc, List.take_append_drop, hq1']; simp)
          subst hp2
          refine WP.skip ?_
          simp -dsimp
          repeat (first | refine WP.seq ?_ | refine WP.block ?_ | (refine WP.region Tryd.tab ?_; simp -dsimp [e3, e4, e5, ep, hdr, bys_take, e6]) | (refine WP.draw Tryd.tab Tryd.mixed ?_; simp -dsimp [e3, e4, e5, ep, hdr, bys_take, e6]) | refine And.intro (by first | rfl | omega | decide | (simp; done) | (simp; omega) | (intro _ h; exact fcs_side h; done) | (intros; simp_all; done)) ?_)
          refine WP.ret (finQ.retE ?_)
          simp -dsimp [vz, V.d, V.cells, V.cellsL, e6]
    have hb2 : ¬ c.toNat = 2 := of_decide_eq_false hb
    rw [if_neg hb2] at hp ⊢
    repeat (first | refine WP.seq ?_ | refine WP.block ?_ | (refine WP.region Tryd.tab ?_; simp -dsimp) | (refine WP.draw Tryd.tab Tryd.mixed ?_; simp -dsimp) | refine And.intro (by first | rfl | omega | decide | (simp; done) | (simp; omega) | (intro _ h; exact fcs_side h; done) | (intros; simp_all; done)) ?_)
    refine WP.cond (b := decide (c.toNat = 3)) (by simp [hc3]) (fun hb => ?_) (fun hb => ?_)
    · have hb := of_decide_eq_true hb
      rw [if_pos hb] at hp ⊢
      repeat (first | refine WP.seq ?_ | refine WP.block ?_ | (refine WP.region Tryd.tab ?_; simp -dsimp) | (refine WP.draw Tryd.tab Tryd.mixed ?_; simp -dsimp) | refine And.intro (by first | rfl | omega | decide | (simp; done) | (simp; omega) | (intro _ h; exact fcs_side h; done) | (intros; simp_all; done)) ?_)
      refine vcStop.call Tryd.body84 (h49) (rl []) rfl rfl (by simp [BoxLeq]) (CallOk.of (by simp [BoxLeq]) rfl (by first | rfl | (simp [BoxLeq]; done)) (by simp [BoxLeq]) (by simp [BoxLeq])) (fun _ h => h.elim) (fun ⟨_, h⟩ => h.elim) (fun ⟨_, h⟩ => h.elim) (by simp [BoxLeq]) ?_
      simp -dsimp
      cases bad with
      | true =>
        rw [if_pos (.inl rfl)] at hp ⊢
        simp only at hp ⊢
        have hp2 : pre' = P := List.append_cancel_right (bs := r1) (by rw [hp, hq1']; simp)
        subst hp2
        repeat (first | refine WP.seq ?_ | refine WP.block ?_ | (refine WP.region Tryd.tab ?_; simp -dsimp) | (refine WP.draw Tryd.tab Tryd.mixed ?_; simp -dsimp) | refine And.intro (by first | rfl | omega | decide | (simp; done) | (simp; omega) | (intro _ h; exact fcs_side h; done) | (intros; simp_all; done)) ?_)
        refine WP.cond (b := true) (by simp) (fun _ => ?_) (fun h => by cases h)
        repeat (first | refine WP.seq ?_ | refine WP.block ?_ | (refine WP.region Tryd.tab ?_; simp -dsimp) | (refine WP.draw Tryd.tab Tryd.mixed ?_; simp -dsimp) | refine And.intro (by first | rfl | omega | decide | (simp; done) | (simp; omega) | (intro _ h; exact fcs_side h; done) | (intros; simp_all; done)) ?_)
        refine WP.ret (finQ.retE ?_)
        simp -dsimp [vz, V.d, V.cells, V.cellsL]
      | false =>
        repeat (first | refine WP.seq ?_ | refine WP.block ?_ | (refine WP.region Tryd.tab ?_; simp -dsimp) | (refine WP.draw Tryd.tab Tryd.mixed ?_; simp -dsimp) | refine And.intro (by first | rfl | omega | decide | (simp; done) | (simp; omega) | (intro _ h; exact fcs_side h; done) | (intros; simp_all; done)) ?_)
        refine WP.cond (b := decide (r1.length < u) || decide (d = 16)) (by simp [eS, ex, ey]) (fun hb => ?_) (fun hb => ?_)
        · simp only [Bool.or_eq_true, decide_eq_true_eq] at hb
          rw [if_pos (by rcases hb with h | h; exact .inr (.inl h); exact .inr (.inr (by omega)))] at hp ⊢
          simp only at hp ⊢
          have hp2 : pre' = P := List.append_cancel_right (bs := r1) (by rw [hp, hq1']; simp)
          subst hp2
          repeat (first | refine WP.seq ?_ | refine WP.block ?_ | (refine WP.region Tryd.tab ?_; simp -dsimp) | (refine WP.draw Tryd.tab Tryd.mixed ?_; simp -dsimp) | refine And.intro (by first | rfl | omega | decide | (simp; done) | (simp; omega) | (intro _ h; exact fcs_side h; done) | (intros; simp_all; done)) ?_)
          refine WP.ret (finQ.retE ?_)
          simp -dsimp [vz, V.d, V.cells, V.cellsL]
        · simp only [Bool.or_eq_false_iff, decide_eq_false_iff_not] at hb
          obtain ⟨b', rfl⟩ : ∃ b', b = b' + 1 := ⟨b - 1, by omega⟩
          have hqq := hq' b' rfl
          subst hqq
          have hC := ih b' rfl
          rw [if_neg (by simp only [Bool.false_eq_true, false_or]; omega)] at hp ⊢
          simp only at hp ⊢
          generalize hy : rMany (rVal b') u r1 = y at hp ⊢
          have hle : u ≤ r1.length := by omega
          have hd1 : IntKind.i64.wrap (d + 1) = d + 1 := IntWalk.i64_in _ (by omega)
          refine WP.skip ?_
          simp -dsimp
          repeat (first | refine WP.seq ?_ | refine WP.block ?_ | (refine WP.region Tryd.tab ?_; simp -dsimp) | (refine WP.draw Tryd.tab Tryd.mixed ?_; simp -dsimp) | refine And.intro (by first | rfl | omega | decide | (simp; done) | (simp; omega) | (intro _ h; exact fcs_side h; done) | (intros; simp_all; done)) ?_)
          refine WP.loopWk (fun m S => ∃ l p1 r2 bd k, l.length + k = u ∧ p1 ++ r2 = pre ++ c :: r ∧ (p1 ++ r2).length ≤ 1000000000000 ∧ ((bd = true ∧ m = 0 ∧ y = (l, r2, true)) ∨ (bd = false ∧ m = k + 1 ∧ y = (l ++ (rMany (rVal b') k r2).1, (rMany (rVal b') k r2).2.1, (rMany (rVal b') k r2).2.2))) ∧ S = s34 d u l.length l p1 r2 bd) (u + 1) (S0 := s34 d u 0 [] P r1 false)
            ((Wk.nilCell 8 3 500 61 4 (by simp; exact ⟨rfl, rfl⟩) rfl (by simp)).trans (Wk.lessE [] (by simp [s34]) (by simp [s34, V.cellsL]))) ⟨[], P, r1, false, u, by simp, by rw [hq1']; simp, by simp; omega, .inr ⟨rfl, rfl, by rw [hy]; simp⟩, rfl⟩ ?_
          rintro m _ ⟨l, p1, r2, bd, k, h1, h2, h2', h3, rfl⟩
          simp -dsimp [s34]
          repeat (first | refine WP.seq ?_ | refine WP.block ?_ | (refine WP.region Tryd.tab ?_; simp -dsimp) | (refine WP.draw Tryd.tab Tryd.mixed ?_; simp -dsimp) | refine And.intro (by first | rfl | omega | decide | (simp; done) | (simp; omega) | (intro _ h; exact fcs_side h; done) | (intros; simp_all; done)) ?_)
          have hll : l.length ≤ 1000000000000 := by omega
          rcases h3 with ⟨rfl, rfl, hy⟩ | ⟨rfl, rfl, hy⟩
          · refine WP.cond (b := false) (by simp) (fun h => by cases h) (fun _ => ?_)
            refine WP.exit ?_
            simp -dsimp
            repeat (first | refine WP.seq ?_ | refine WP.block ?_ | (refine WP.region Tryd.tab ?_; simp -dsimp) | (refine WP.draw Tryd.tab Tryd.mixed ?_; simp -dsimp) | refine And.intro (by first | rfl | omega | decide | (simp; done) | (simp; omega) | (intro _ h; exact fcs_side h; done) | (intros; simp_all; done)) ?_)
            have hp2 : pre' = p1 := List.append_cancel_right (bs := r2) (by rw [← h2] at hp; simpa [hy] using hp)
            subst hp2
            refine WP.ret (finQ.retWE (Wk.freeze (k := 500) (T := 61) (sz := 4) (ds := V.cellsL l) (by simp; rfl)) ?_)
            simp [hy, V.d, V.cells]
          cases k with
          | zero =>
            rw [rMany] at hy
            simp only [List.append_nil] at hy
            refine WP.cond (b := false) (by simp; omega) (fun h => by cases h) (fun _ => ?_)
            refine WP.exit ?_
            simp -dsimp
            repeat (first | refine WP.seq ?_ | refine WP.block ?_ | (refine WP.region Tryd.tab ?_; simp -dsimp) | (refine WP.draw Tryd.tab Tryd.mixed ?_; simp -dsimp) | refine And.intro (by first | rfl | omega | decide | (simp; done) | (simp; omega) | (intro _ h; exact fcs_side h; done) | (intros; simp_all; done)) ?_)
            have hp2 : pre' = p1 := List.append_cancel_right (bs := r2) (by rw [← h2] at hp; simpa [hy] using hp)
            subst hp2
            refine WP.ret (finQ.retWE (Wk.freeze (k := 500) (T := 61) (sz := 4) (ds := V.cellsL l) (by simp; rfl)) ?_)
            simp [hy, V.d, V.cells]
          | succ k =>
            refine WP.cond (b := true) (by simp; omega) (fun _ => ?_) (fun h => by cases h)
            refine WP.skip ?_
            simp -dsimp
            have e1 : IntKind.u64.wrap ((l.length : Int) + 1) = (l.length : Int) + 1 := IntWalk.u64_in _ (by omega)
            refine WP.seq (WP.block ?_)
            refine WP.draw Tryd.tab Tryd.mixed ?_
            simp -dsimp [hd1]
            obtain ⟨q2, hq2⟩ := rVal_end b' r2
            have h34 := hC (by omega) p1 r2 (p1 ++ q2) (d + 1) (by omega) h2' (by rw [List.append_assoc, hq2])
            rw [rMany] at hy
            have h5 : (p1 ++ q2) ++ (rVal b' r2).2.1 = pre ++ c :: r := by rw [List.append_assoc, hq2, h2]
            generalize rVal b' r2 = R at *
            obtain ⟨⟨k2, n2, s2, l2⟩, r3, bd3⟩ := R
            simp only at *
            refine vcStop.call Tryd.body68 (h34) (rl []) rfl rfl (by simp [BoxLeq]) (CallOk.of (by simp [BoxLeq]) rfl (by first | rfl | (simp [BoxLeq]; done)) (by simp [BoxLeq]) (by simp [BoxLeq])) (fun _ h => h.elim) (fun ⟨_, h⟩ => h.elim) (fun ⟨_, h⟩ => h.elim) (by simp [BoxLeq]) ?_
            simp -dsimp [V.d, V.cells]
            repeat (first | refine WP.seq ?_ | refine WP.block ?_ | (refine WP.region Tryd.tab ?_; simp -dsimp) | (refine WP.draw Tryd.tab Tryd.mixed ?_; simp -dsimp) | refine And.intro (by first | rfl | omega | decide | (simp; done) | (simp; omega) | (intro _ h; exact fcs_side h; done) | (intros; simp_all; done)) ?_)
            refine loopW.next (s34 d u (l ++ [V.mk k2 n2 s2 l2]).length (l ++ [V.mk k2 n2 s2 l2]) (p1 ++ q2) r3 bd3) (Wk.go [134] 135 500 (by decide) (by simp [s34]) (by simp [s34, e1]) (by simp [s34, V.cellsL_append, V.cellsL, V.cells])) (if bd3 = true then 0 else k + 1) (by split <;> omega)
              ⟨l ++ [V.mk k2 n2 s2 l2], p1 ++ q2, r3, bd3, k, by simp; omega, h5, by rw [h5, ← h2]; exact h2', ?_, rfl⟩
            cases bd3 with
            | true => exact .inl ⟨rfl, rfl, by simpa using hy⟩
            | false => exact .inr ⟨rfl, rfl, by simpa using hy⟩
    · have hb3 : ¬ c.toNat = 3 := of_decide_eq_false hb
      rw [if_neg hb3] at hp ⊢
      simp only at hp ⊢
      have hp2 : pre' = pre ++ [c] := List.append_cancel_right (bs := r) (by rw [hp]; simp)
      subst hp2
      refine WP.skip ?_
      simp -dsimp
      repeat (first | refine WP.seq ?_ | refine WP.block ?_ | (refine WP.region Tryd.tab ?_; simp -dsimp) | (refine WP.draw Tryd.tab Tryd.mixed ?_; simp -dsimp) | refine And.intro (by first | rfl | omega | decide | (simp; done) | (simp; omega) | (intro _ h; exact fcs_side h; done) | (intros; simp_all; done)) ?_)
      refine WP.ret (finQ.retE ?_)
      simp -dsimp [vz, V.d, V.cells, V.cellsL]

theorem f34_N : ∀ b, f34_C b
  | 0 => f34_of 0 fun b' h => by omega
  | b + 1 => f34_of (b + 1) fun b' h => (Nat.succ.inj h) ▸ f34_N b
end Go.Proofs.YtjfkeicmdaanbaaDoor

/-
  The plain law of the codec: reading what was written, writing what was read.
-/
set_option linter.unusedSimpArgs false
set_option linter.unusedVariables false
namespace Go.Proofs.YtjfkeicmdaanbaaDoor
open Go.Xe Go.RowKit

/-! ### numerals -/
theorem p9 : (128 : Nat) ^ 9 = 9223372036854775808 := by decide
theorem digs_dec : ∀ (N m : Nat), m ≤ N → ∀ (i u : Nat) (r : List UInt8), i ≤ 9 → u + m * 128 ^ i < 18446744073709551616 → (i = 0 ∨ 0 < m) → pNum i u (digs m ++ r) = some (u + m * 128 ^ i, r) := by
  intro N
  induction N with
  | zero =>
    intro m hm i u r hi hb h0
    have : m = 0 := by omega
    subst this
    rw [digs, if_pos (by omega), List.singleton_append, pNum]
    have : i = 0 := by omega
    subst this
    simp
  | succ N ih =>
    intro m hm i u r hi hb h0
    rw [digs]
    split
    · rename_i hlt
      have e : (UInt8.ofNat m).toNat = m := by simp; omega
      have h9 : i < 9 ∨ m ≤ 1 := by
        rcases Nat.lt_or_ge i 9 with h | h
        · exact .inl h
        · have : i = 9 := by omega
          subst this
          rw [p9] at hb
          exact .inr (by omega)
      rw [List.singleton_append, pNum, e, if_pos ⟨by omega, h9⟩, if_pos hlt, Nat.mod_eq_of_lt hlt]
    · rename_i hge
      have e : (UInt8.ofNat (m % 128 + 128)).toNat = m % 128 + 128 := by simp; omega
      have h9 : i < 9 := by
        rcases Nat.lt_or_ge i 9 with h | h
        · exact h
        · have : i = 9 := by omega
          subst this
          rw [p9] at hb
          omega
      have hs : u + m % 128 * 128 ^ i + m / 128 * 128 ^ (i + 1) = u + m * 128 ^ i := by
        have : m * 128 ^ i = (128 * (m / 128) + m % 128) * 128 ^ i := by rw [Nat.div_add_mod]
        rw [this, Nat.pow_succ, Nat.add_mul]
        have : m / 128 * (128 ^ i * 128) = 128 * (m / 128) * 128 ^ i := by rw [Nat.mul_comm (128 ^ i) 128, ← Nat.mul_assoc, Nat.mul_comm (m / 128) 128]
        omega
      have hc : (m % 128 + 128) % 128 = m % 128 := by omega
      rw [List.cons_append, pNum, e, if_pos ⟨by omega, .inl h9⟩, if_neg (by omega), hc, ih (m / 128) (by omega) (i + 1) _ r (by omega) (by rw [hs]; exact hb) (by omega), hs]

theorem dec_digs : ∀ (bs : List UInt8) (i u x : Nat) (r : List UInt8), pNum i u bs = some (x, r) → ∃ m, bs = digs m ++ r ∧ x = u + m * 128 ^ i ∧ (0 < i → 0 < m)
  | [], _, _, _, _, h => by rw [pNum] at h; cases h
  | c :: bs, i, u, x, r, h => by
    rw [pNum] at h
    split at h
    · rename_i hc
      split at h
      · rename_i hlt
        cases h
        refine ⟨c.toNat, ?_, by rw [Nat.mod_eq_of_lt hlt], fun h => by omega⟩
        rw [digs, if_pos hlt]
        simp
      · rename_i hge
        obtain ⟨m, rfl, rfl, hm⟩ := dec_digs bs _ _ _ _ h
        have hlt := c.toNat_lt
        refine ⟨c.toNat % 128 + 128 * m, ?_, ?_, fun _ => by omega⟩
        · have h1 : ¬ c.toNat % 128 + 128 * m < 128 := by have := hm (by omega); omega
          have h2 : (c.toNat % 128 + 128 * m) % 128 + 128 = c.toNat := by omega
          have h3 : (c.toNat % 128 + 128 * m) / 128 = m := by omega
          rw [digs.eq_1 (c.toNat % 128 + 128 * m), if_neg h1, h2, h3]
          simp
        · rw [Nat.pow_succ, Nat.add_mul]
          have : m * (128 ^ i * 128) = 128 * m * 128 ^ i := by rw [Nat.mul_comm (128 ^ i) 128, ← Nat.mul_assoc, Nat.mul_comm m 128]
          omega
    · cases h

theorem pLen_digs {n : Nat} {r : List UInt8} (h : isU n) (hl : n ≤ r.length) : pLen (digs n ++ r) = some (n, r) := by
  rw [pLen, digs_dec n n (Nat.le_refl _) 0 0 r (by omega) (by unfold isU at h; omega) (.inl rfl)]
  simp [hl]
theorem digs_pLen {bs : List UInt8} {n : Nat} {r : List UInt8} (h : pLen bs = some (n, r)) : bs = digs n ++ r := by
  rw [pLen] at h
  split at h
  · rename_i u r1 hp
    split at h
    · cases h
      obtain ⟨m, h1, h2, _⟩ := dec_digs bs 0 0 _ _ hp
      have : m = n := by omega
      subst this
      exact h1
    · cases h
  · cases h

/-! ### values -/
theorem V.enc_pos (v : V) : 0 < v.enc.length := by
  obtain ⟨k, n, s, l⟩ := v
  rw [V.enc]
  split
  · simp
  · split <;> simp
theorem V.encL_len : ∀ l : List V, l.length ≤ (V.encL l).length
  | [] => Nat.le_refl _
  | v :: l => by
    have := V.enc_pos v
    have := V.encL_len l
    rw [V.encL]; simp; omega

theorem size_arr (s : ByteArray) : (⟨s.data.toList.toArray⟩ : ByteArray) = s := by cases s; simp
mutual
/-- What was written is read. -/
theorem V.read : ∀ (v : V) (b : Nat) (r : List UInt8), v.ok = true → v.rng = true → v.dep ≤ b → v.enc.length ≤ 1000000000000 → pVal b (v.enc ++ r) = some (v, r)
  | .mk k n s l, b, r, hok, hr, hd, hl => by
    have hI := (V.rng_n hr).1
    rw [V.ok] at hok
    rw [V.enc] at hl ⊢
    by_cases h1 : k = 1
    · subst h1
      simp only [if_true, Bool.and_eq_true, decide_eq_true_eq] at hok hl ⊢
      obtain ⟨rfl, hl0⟩ := hok
      have := List.eq_nil_of_length_eq_zero hl0
      subst this
      rw [List.cons_append, pVal_1 b _ (by rfl), digs_dec _ _ (Nat.le_refl _) 0 0 r (by omega) (by have := zig_lt hI; unfold isU at this; omega) (.inl rfl)]
      simp [zag_zig]
    rw [if_neg h1] at hok hl ⊢
    by_cases h2 : k = 2
    · subst h2
      simp only [if_true, Bool.and_eq_true, decide_eq_true_eq] at hok hl ⊢
      obtain ⟨rfl, hl0⟩ := hok
      have := List.eq_nil_of_length_eq_zero hl0
      subst this
      have hs : s.data.toList.length = s.size := rfl
      simp only [List.length_cons, List.length_append] at hl
      rw [List.cons_append, pVal_2 b _ (by rfl), List.append_assoc, pLen_digs (by unfold isU; omega) (by simp [hs])]
      simp only [Option.map_some, Option.some.injEq, Prod.mk.injEq]
      rw [← hs, List.take_left, List.drop_left, size_arr]
      exact ⟨rfl, rfl⟩
    rw [if_neg h2] at hok hl ⊢
    by_cases h3 : k = 3
    · subst h3
      simp only [if_true, Bool.and_eq_true, decide_eq_true_eq] at hok
      obtain ⟨⟨rfl, rfl⟩, hokl⟩ := hok
      rw [V.dep, if_pos rfl] at hd
      obtain ⟨b', rfl⟩ : ∃ b', b = b' + 1 := ⟨b - 1, by omega⟩
      simp only [List.length_cons, List.length_append] at hl
      have hll := V.encL_len l
      rw [List.cons_append, pVal_3 b' _ (by rfl), List.append_assoc, pLen_digs (by unfold isU; omega) (by simp; omega)]
      simp only [Option.bind_some]
      rw [V.readL l b' r hokl (V.rng_n hr).2 (by omega) (by omega)]
      rfl
    · rw [if_neg h3] at hok
      cases hok
theorem V.readL : ∀ (l : List V) (b : Nat) (r : List UInt8), V.okL l = true → V.rngL l = true → V.depL l ≤ b → (V.encL l).length ≤ 1000000000000 → pMany (pVal b) l.length (V.encL l ++ r) = some (l, r)
  | [], b, r, _, _, _, _ => rfl
  | v :: l, b, r, hok, hr, hd, hl => by
    rw [V.okL, Bool.and_eq_true] at hok
    rw [V.rngL, Bool.and_eq_true] at hr
    rw [V.depL] at hd
    rw [V.encL, List.length_append] at hl
    rw [V.encL, List.length_cons, pMany, List.append_assoc, V.read v b _ hok.1 hr.1 (by omega) (by omega)]
    simp only
    rw [V.readL l b r hok.2 hr.2 (by omega) (by omega)]
end

/-- What was read is written so. -/
def Wr (b : Nat) (bs : List UInt8) (v : V) (r : List UInt8) : Prop := bs = v.enc ++ r ∧ v.ok = true ∧ v.dep ≤ b ∧ v.rng = true
theorem Wr.many {b : Nat} (h : ∀ bs v r, bs.length ≤ 1000000000000 → pVal b bs = some (v, r) → Wr b bs v r) : ∀ (n : Nat) (bs : List UInt8) (l : List V) (r : List UInt8), bs.length ≤ 1000000000000 → pMany (pVal b) n bs = some (l, r) →
    bs = V.encL l ++ r ∧ V.okL l = true ∧ V.depL l ≤ b ∧ V.rngL l = true ∧ l.length = n
  | 0, bs, l, r, _, hp => by rw [pMany] at hp; cases hp; simp [V.encL, V.okL, V.depL, V.rngL]
  | n + 1, bs, l, r, hb, hp => by
    rw [pMany] at hp
    split at hp
    · cases hp
    · rename_i v r1 h1
      split at hp
      · cases hp
      · rename_i l2 r2 h2
        cases hp
        obtain ⟨rfl, e2, e3, e4⟩ := h bs v r1 hb h1
        obtain ⟨rfl, f2, f3, f4, f5⟩ := Wr.many h n r1 l2 r (by simp at hb; omega) h2
        refine ⟨by simp [V.encL], by simp [V.okL, e2, f2], by rw [V.depL]; omega, by simp [V.rngL, e4, f4], by simp [f5]⟩
theorem UInt8.of_nat {c : UInt8} {n : Nat} (h : c.toNat = n) (hn : n < 256) : c = UInt8.ofNat n := by subst h; simp
theorem V.wrote : ∀ (b : Nat) (bs : List UInt8) (v : V) (r : List UInt8), bs.length ≤ 1000000000000 → pVal b bs = some (v, r) → Wr b bs v r
  | b, [], v, r, _, hp => by cases b <;> (rw [pVal] at hp; cases hp)
  | b, c :: bs, v, r, hb, hp => by
    have hb1 : bs.length ≤ 1000000000000 := by simp at hb; omega
    by_cases h1 : c.toNat = 1
    · rw [pVal_1 b bs h1] at hp
      cases hx : pNum 0 0 bs with
      | none => rw [hx] at hp; cases hp
      | some x =>
        obtain ⟨u, r1⟩ := x
        rw [hx] at hp
        cases hp
        have hu := pNum_u bs 0 0 hx (by omega) (by simp)
        obtain ⟨m, rfl, hm, _⟩ := dec_digs bs 0 0 _ _ hx
        have : m = u := by omega
        subst this
        have hz := zag_in hu
        unfold isI at hz
        refine ⟨?_, by simp [V.ok], by simp [V.dep], ?_⟩
        · rw [V.enc, if_pos rfl, zig_zag, UInt8.of_nat h1 (by omega)]; rfl
        · simp [V.rng, V.rngL, hz, show (⟨#[]⟩ : ByteArray).size = 0 from rfl]
    by_cases h2 : c.toNat = 2
    · rw [pVal_2 b bs h2] at hp
      cases hx : pLen bs with
      | none => rw [hx] at hp; cases hp
      | some x =>
        obtain ⟨n, r1⟩ := x
        rw [hx] at hp
        cases hp
        have hle := pLen_le hx
        have hd := digs_pLen hx
        have hs : (⟨(r1.take n).toArray⟩ : ByteArray).size = n := by show (r1.take n).toArray.size = n; simp; omega
        refine ⟨?_, by simp [V.ok], by simp [V.dep], ?_⟩
        · rw [V.enc, if_neg (by omega), if_pos rfl, hs, hd, UInt8.of_nat h2 (by omega)]
          simp
        · simp only [V.rng, V.rngL, hs, Bool.and_true, Bool.and_eq_true, decide_eq_true_eq]
          omega
    by_cases h3 : c.toNat = 3
    · cases b with
      | zero => rw [pVal_30 bs h3] at hp; cases hp
      | succ b =>
        rw [pVal_3 b bs h3] at hp
        cases hx : pLen bs with
        | none => rw [hx] at hp; cases hp
        | some x =>
          obtain ⟨n, r1⟩ := x
          rw [hx, Option.bind_some] at hp
          cases hy : pMany (pVal b) n r1 with
          | none => simp only [hy] at hp; cases hp
          | some y =>
            obtain ⟨l, r2⟩ := y
            simp only [hy] at hp
            cases hp
            have hle := pLen_le hx
            have hd := digs_pLen hx
            obtain ⟨rfl, f2, f3, f4, rfl⟩ := Wr.many (fun bs v r => V.wrote b bs v r) n r1 l r2 (by omega) hy
            refine ⟨?_, by simp [V.ok, f2], by rw [V.dep, if_pos rfl]; exact Nat.succ_le_succ f3, ?_⟩
            · rw [V.enc, if_neg (by omega), if_neg (by omega), hd, UInt8.of_nat h3 (by omega)]
              simp
            · simp only [V.rng, f4, Bool.and_true, Bool.and_eq_true, decide_eq_true_eq]
              refine ⟨⟨by omega, ?_⟩, by omega⟩
              show (#[] : Array UInt8).size ≤ _
              simp
    · rw [pVal_x b bs h1 h2 h3] at hp; cases hp

mutual
theorem V.same_iff : ∀ v w : V, V.same v w = true ↔ v = w
  | .mk k n s l, .mk k' n' s' l' => by
    rw [V.same]
    simp only [Bool.and_eq_true, decide_eq_true_eq, V.sameL_iff l l', V.mk.injEq]
    exact ⟨fun ⟨⟨⟨a, b⟩, c⟩, d⟩ => ⟨a, b, c, d⟩, fun ⟨a, b, c, d⟩ => ⟨⟨⟨a, b⟩, c⟩, d⟩⟩
theorem V.sameL_iff : ∀ l l' : List V, V.sameL l l' = true ↔ l = l'
  | [], [] => by simp [V.sameL]
  | v :: l, v' :: l' => by simp only [V.sameL, Bool.and_eq_true, V.same_iff v v', V.sameL_iff l l', List.cons.injEq]
  | [], _ :: _ => by simp [V.sameL]
  | _ :: _, [] => by simp [V.sameL]
end
end Go.Proofs.YtjfkeicmdaanbaaDoor

set_option linter.unusedSimpArgs false
set_option linter.unusedVariables false
namespace Go.Proofs.YtjfkeicmdaanbaaDoor
open Go.Xe Go.RowKit

set_option maxRecDepth 10000 in
set_option maxHeartbeats 4000000 in
theorem f19_ok (bs : List UInt8) (hbs : bs.length ≤ 1000000000) : Fn0 Tryd.prog 40 [slB bs] (decD bs) := by
  have hp := rVal_p 16 bs
  obtain ⟨P, hP⟩ := rVal_end 16 bs
  have h34 := f34_N 16 (by omega) [] bs P 0 (by omega) (by simp; omega) (by simpa using hP)
  have hl : P.length + (rVal 16 bs).2.1.length = bs.length := by rw [← List.length_append, hP]
  refine Fun.of_wp (pn := noPn) Tryd.tab Tryd.func40 rfl fun β0 => ?_
  simp only [Tryd.f40]
  repeat (first | refine WP.seq ?_ | refine WP.block ?_ | (refine WP.region Tryd.tab ?_; simp -dsimp) | (refine WP.draw Tryd.tab Tryd.mixed ?_; simp -dsimp) | refine And.intro (by first | rfl | omega | decide | (simp; done) | (simp; omega) | (intro _ h; exact fcs_side h; done) | (intros; simp_all; done)) ?_)
  generalize rVal 16 bs = R at *
  obtain ⟨⟨k, n, s, l⟩, r, bad⟩ := R
  simp only at *
  refine vcStop.call Tryd.body68 (h34) (rl [(1000, 8)]) rfl rfl (by simp [BoxLeq]) (CallOk.of (by simp [BoxLeq]) rfl (by first | rfl | (simp [BoxLeq]; done)) (by simp [BoxLeq]) (by simp [BoxLeq])) (fun _ h => h.elim) (fun ⟨_, h⟩ => h.elim) (fun ⟨_, h⟩ => h.elim) (by simp [BoxLeq]) ?_
  simp -dsimp [V.d, V.cells]
  cases hv : pVal 16 bs with
  | none =>
    have hb := hp.2 hv
    subst hb
    have hd : decD bs = .tup [(V.mk 0 0 ⟨#[]⟩ []).d, .v (.int .i64 20)] := by rw [decD, pDec, hv]
    rw [hd]
    repeat (first | refine WP.seq ?_ | refine WP.block ?_ | (refine WP.region Tryd.tab ?_; simp -dsimp) | (refine WP.draw Tryd.tab Tryd.mixed ?_; simp -dsimp) | refine And.intro (by first | rfl | omega | decide | (simp; done) | (simp; omega) | (intro _ h; exact fcs_side h; done) | (intros; simp_all; done)) ?_)
    refine vcStopG.skip (.d (.v (.int .i64 0))) ?_
    simp -dsimp
    refine vcStopG.skip (.d (slB [])) ?_
    simp -dsimp
    repeat refine And.intro (by first | rfl | omega | decide | (simp; done) | (simp; omega) | (intro _ h; exact fcs_side h; done) | (intros; simp_all; done)) ?_
    refine WP.cond (b := true) (by simp) (fun _ => ?_) (fun h => by cases h)
    repeat (first | refine WP.seq ?_ | refine WP.block ?_ | (refine WP.region Tryd.tab ?_; simp -dsimp) | (refine WP.draw Tryd.tab Tryd.mixed ?_; simp -dsimp) | refine And.intro (by first | rfl | omega | decide | (simp; done) | (simp; omega) | (intro _ h; exact fcs_side h; done) | (intros; simp_all; done)) ?_)
    refine WP.ret (finQ.retE ?_)
    simp -dsimp [V.d, V.cells, V.cellsL]
  | some x =>
    obtain ⟨v, r'⟩ := x
    have hw := V.wrote 16 bs v r' (by omega) hv
    have hb := hp.1 v r' hv
    simp only [Prod.mk.injEq] at hb
    obtain ⟨rfl, rfl, rfl⟩ := hb
    obtain ⟨w1, w2, w3, w4⟩ := hw
    have hsz : P.length + r.length = bs.length := hl
    have e0 : ((P.length : Int) = (bs.length : Int)) = (r.length = 0) := by rw [eq_iff_iff]; omega
    cases r with
    | cons c r =>
      have hd : decD bs = .tup [(V.mk 0 0 ⟨#[]⟩ []).d, .v (.int .i64 20)] := by rw [decD, pDec, hv]
      rw [hd]
      have e1 : ¬ (P.length : Int) = (bs.length : Int) := by simp at hsz; omega
      have e2 : ¬ P.length = bs.length := by simp at hsz; omega
      repeat (first | refine WP.seq ?_ | refine WP.block ?_ | (refine WP.region Tryd.tab ?_; simp -dsimp [e1, e2, hP]) | (refine WP.draw Tryd.tab Tryd.mixed ?_; simp -dsimp [e1, e2, hP]) | refine And.intro (by first | rfl | omega | decide | (simp; done) | (simp; omega) | (intro _ h; exact fcs_side h; done) | (intros; simp_all; done)) ?_)
      refine vcStopG.skip (.d (.v (.int .i64 0))) ?_
      simp -dsimp
      refine vcStopG.skip (.d (slB [])) ?_
      simp -dsimp
      repeat refine And.intro (by first | rfl | omega | decide | (simp; done) | (simp; omega) | (intro _ h; exact fcs_side h; done) | (intros; simp_all; done)) ?_
      refine WP.cond (b := true) (by simp) (fun _ => ?_) (fun h => by cases h)
      repeat (first | refine WP.seq ?_ | refine WP.block ?_ | (refine WP.region Tryd.tab ?_; simp -dsimp) | (refine WP.draw Tryd.tab Tryd.mixed ?_; simp -dsimp) | refine And.intro (by first | rfl | omega | decide | (simp; done) | (simp; omega) | (intro _ h; exact fcs_side h; done) | (intros; simp_all; done)) ?_)
      refine WP.ret (finQ.retE ?_)
      simp -dsimp [V.d, V.cells, V.cellsL]
    | nil =>
      have hd : decD bs = .tup [(V.mk k n s l).d, .v (.int .i64 0)] := by rw [decD, pDec, hv]
      rw [hd]
      simp only [List.append_nil] at hP w1
      subst hP
      have hck : V.chk (.mk k n s l) = 0 := by rw [V.chk, if_pos w2, if_neg (by omega)]
      have h17 := f17_ok (.mk k n s l) (by omega)
      have h27 := f27_ok (.mk k n s l) w4 (by rw [← w1]; exact hbs)
      rw [hck] at h17
      rw [← w1] at h27
      repeat (first | refine WP.seq ?_ | refine WP.block ?_ | (refine WP.region Tryd.tab ?_; simp -dsimp) | (refine WP.draw Tryd.tab Tryd.mixed ?_; simp -dsimp) | refine And.intro (by first | rfl | omega | decide | (simp; done) | (simp; omega) | (intro _ h; exact fcs_side h; done) | (intros; simp_all; done)) ?_)
      refine vcStopG.call0 Tryd.body60 (fun _ => h17) rfl (fun _ => rfl) (fun _ => by simp [V.d, V.cells]) ?_
      simp -dsimp
      refine vcStopG.call0 Tryd.body61 (fun _ => h27) rfl (fun _ => rfl) (fun _ => by simp [V.d, V.cells]) ?_
      simp -dsimp
      repeat refine And.intro (by first | rfl | omega | decide | (simp; done) | (simp; omega) | (intro _ h; exact fcs_side h; done) | (intros; simp_all; done)) ?_
      refine WP.cond (b := false) (by simp) (fun h => by cases h) (fun _ => ?_)
      refine WP.skip ?_
      simp -dsimp
      repeat (first | refine WP.seq ?_ | refine WP.block ?_ | (refine WP.region Tryd.tab ?_; simp -dsimp) | (refine WP.draw Tryd.tab Tryd.mixed ?_; simp -dsimp) | refine And.intro (by first | rfl | omega | decide | (simp; done) | (simp; omega) | (intro _ h; exact fcs_side h; done) | (intros; simp_all; done)) ?_)
      refine WP.ret (finQ.retE ?_)
      simp -dsimp [V.d, V.cells]
end Go.Proofs.YtjfkeicmdaanbaaDoor
