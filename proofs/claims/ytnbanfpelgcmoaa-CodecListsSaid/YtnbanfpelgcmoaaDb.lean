import Derived.Test.YtnbanfpelgcmoaaDa
set_option linter.unusedSimpArgs false
set_option linter.unusedVariables false
namespace Go.Proofs.Ytnbanfpelgcmoaa
open Go.Xe Go.RowKit

/-- A numeral is read: from digit i on, u so far. -/
def pNum : Nat → Nat → List UInt8 → Option (Nat × List UInt8)
  | _, _, [] => none
  | i, u, c :: r => if (i = 0 ∨ c.toNat ≠ 0) ∧ (i < 9 ∨ c.toNat ≤ 1) then (if c.toNat < 128 then some (u + c.toNat % 128 * 128 ^ i, r) else pNum (i + 1) (u + c.toNat % 128 * 128 ^ i) r) else none

set_option maxRecDepth 100000 in
theorem and127 (c : UInt8) : bits .and .u8 (c.toNat : Int) 127 = ((c.toNat % 128 : Nat) : Int) := by
  have : ∀ c : Fin 256, bits .and .u8 ((c.val : Nat) : Int) 127 = ((c.val % 128 : Nat) : Int) := by decide
  exact this ⟨c.toNat, c.toNat_lt⟩

theorem p7 (i : Nat) : 128 ^ i = 2 ^ (7 * i) := by rw [Nat.pow_mul]

theorem num_step {i u : Nat} {c : UInt8} (hi : i ≤ 9) (hu : u < 128 ^ i) (hc : i < 9 ∨ c.toNat ≤ 1) :
    bits .or .u64 (u : Int) (IntKind.u64.wrap (IntKind.u64.wrap ((c.toNat % 128 : Nat) : Int) * 2 ^ shN .u64 (7 * (i : Int)))) = ((u + c.toNat % 128 * 128 ^ i : Nat) : Int) ∧ u + c.toNat % 128 * 128 ^ i < 18446744073709551616 := by
  have hm : c.toNat % 128 < 128 := Nat.mod_lt _ (by omega)
  have hs : shN .u64 (7 * (i : Int)) = 7 * i := by
    show min (7 * (i : Int)).toNat 64 = 7 * i
    omega
  have hlt : c.toNat % 128 * 128 ^ i + u < 18446744073709551616 := by
    rcases hc with h | h
    · have h1 : 128 ^ i ≤ 128 ^ 8 := Nat.pow_le_pow_right (by omega) (by omega)
      have h2 : c.toNat % 128 * 128 ^ i ≤ 127 * 128 ^ 8 := Nat.mul_le_mul (by omega) h1
      have h3 : (128 : Nat) ^ 8 = 72057594037927936 := by decide
      omega
    · have h1 : 128 ^ i ≤ 128 ^ 9 := Nat.pow_le_pow_right (by omega) hi
      have h2 : c.toNat % 128 * 128 ^ i ≤ 1 * 128 ^ 9 := Nat.mul_le_mul (by omega) h1
      have h3 : (128 : Nat) ^ 9 = 9223372036854775808 := by decide
      omega
  have hw : IntKind.u64.wrap ((c.toNat % 128 : Nat) : Int) = ((c.toNat % 128 : Nat) : Int) := IntWalk.u64_in _ (by omega)
  have hw2 : IntKind.u64.wrap (((c.toNat % 128 : Nat) : Int) * 2 ^ (7 * i)) = ((c.toNat % 128 * 128 ^ i : Nat) : Int) := by
    have e : (((c.toNat % 128 : Nat) : Int) * 2 ^ (7 * i)) = ((c.toNat % 128 * 128 ^ i : Nat) : Int) := by rw [p7]; push_cast; rfl
    rw [e]
    exact IntWalk.u64_in _ (by omega)
  refine ⟨?_, by omega⟩
  rw [hs, hw, hw2, bits_or_u64_nat _ _ (by omega) (by omega)]
  have h := Nat.shiftLeft_add_eq_or_of_lt (b := u) (i := 7 * i) (by rw [← p7]; exact hu) (c.toNat % 128)
  rw [Nat.shiftLeft_eq, ← p7] at h
  rw [Nat.or_comm, ← h, Nat.add_comm]

theorem pNum_len : ∀ (r : List UInt8) (i u : Nat) {x : Nat} {r' : List UInt8}, pNum i u r = some (x, r') → r'.length < r.length
  | [], _, _, _, _, h => by rw [pNum] at h; cases h
  | c :: r, i, u, x, r', h => by
    rw [pNum] at h
    split at h
    · split at h
      · cases h; simp
      · have := pNum_len r _ _ h; simp; omega
    · cases h

@[local simp] theorem byteD_eq (c : UInt8) : byteD c = .v (.int .u8 c.toNat) := rfl

def s46 (i u : Nat) (bs : List UInt8) : St := mkS 38 [(0, .ptr 1000 0), (2, .d (.v (.int .u64 u))), (3, .d (.v (.int .i64 i)))] [(1000, rdB bs)]

set_option maxRecDepth 10000 in
set_option maxHeartbeats 4000000 in
theorem f46_ok (bs : List UInt8) {x : Nat} {r' : List UInt8} (h : pNum 0 0 bs = some (x, r')) : Fun Try.prog 46 [.ptr 1000 0] [(1000, rdB bs)] (.d (.v (.int .u64 x))) [(1000, rdB r')] fun _ => False := by
  refine Fun.of_wp (pn := noPn) Try.tab Try.func46 rfl fun β0 => ?_
  simp only [Try.f46]
  repeat (first | refine WP.seq ?_ | refine WP.block ?_ | (refine WP.region Try.tab ?_; simp -dsimp) | (refine WP.draw Try.tab Try.mixed ?_; simp -dsimp) | refine And.intro (by first | rfl | omega | decide | (simp; done) | (simp; omega) | (intros; simp_all; done)) ?_)
  refine WP.loopWk (fun m S => ∃ i u r, m = r.length ∧ i ≤ 9 ∧ u < 128 ^ i ∧ pNum i u r = some (x, r') ∧ S = s46 i u r) bs.length (S0 := s46 0 0 bs) (Wk.lessE [] (by simp [s46]) (by simp [s46])) ⟨0, 0, bs, rfl, by omega, by simp, h, rfl⟩ ?_
  rintro _ _ ⟨i, u, r, rfl, hi, hu, hp, rfl⟩
  simp -dsimp [s46]
  cases r with
  | nil => rw [pNum] at hp; cases hp
  | cons c r =>
    rw [pNum] at hp
    split at hp
    · rename_i hc
      obtain ⟨hst, hbd⟩ := num_step hi hu hc.2
      have hst' : bits .or .u64 (u : Int) (IntKind.u64.wrap (IntKind.u64.wrap ((c.toNat : Int) % 128) * 2 ^ shN .u64 (7 * (i : Int)))) = (u : Int) + (c.toNat : Int) % 128 * 128 ^ i := by simpa using hst
      have e7 : IntKind.i64.wrap (7 * (i : Int)) = 7 * (i : Int) := IntWalk.i64_in _ (by omega)
      have e8 : IntKind.i64.wrap ((i : Int) + 1) = (i : Int) + 1 := IntWalk.i64_in _ (by omega)
      have hnx : ¬ c.toNat < 128 → i + 1 ≤ 9 := by omega
      have hun : u + c.toNat % 128 * 128 ^ i < 128 ^ (i + 1) := by
        have h1 : c.toNat % 128 * 128 ^ i ≤ 127 * 128 ^ i := Nat.mul_le_mul_right _ (by omega)
        rw [Nat.pow_succ]; omega
      have hci : i = 0 ∨ (¬ i = 0 ∧ ¬ c.toNat = 0 ∧ i < 9) ∨ (¬ i = 0 ∧ ¬ c.toNat = 0 ∧ i = 9 ∧ c.toNat ≤ 1) := by omega
      rcases hci with h0 | ⟨h0, hc0, h9⟩ | ⟨h0, hc0, h9, hc1⟩
      · have h0' : decide (i = 0) = true := by simp [h0]
        have h9' : (i : Int) < 9 := by omega
        repeat (first | refine WP.seq ?_ | refine WP.block ?_ | (refine WP.region Try.tab ?_; simp -dsimp) | (refine WP.draw Try.tab Try.mixed ?_; simp -dsimp) | refine And.intro (by first | rfl | omega | decide | (simp; done) | (simp; omega) | (intros; simp_all; done)) ?_)
        refine vcStop.call Try.body44 (f44_ok (c :: r) 1 (by simp)) (rl []) rfl rfl (by simp [BoxLeq]) (CallOk.of (by simp [BoxLeq]) rfl (by first | rfl | (simp [BoxLeq]; done)) (by simp [BoxLeq]) (by simp [BoxLeq])) (fun _ h => h.elim) (fun ⟨_, h⟩ => h.elim) (fun ⟨_, h⟩ => h.elim) (by simp [BoxLeq]) ?_
        simp -dsimp
        repeat (first | refine WP.seq ?_ | refine WP.block ?_ | (refine WP.region Try.tab ?_; simp -dsimp [h0', h9', e7, and127, hst']) | (refine WP.draw Try.tab Try.mixed ?_; simp -dsimp [h0', h9', e7, and127, hst']) | refine And.intro (by first | rfl | omega | decide | (simp; done) | (simp; omega) | (intros; simp_all; done)) ?_)
        refine vcStop.call Try.body33 (f33_ok) (rl []) rfl rfl (by simp [h0', h9', BoxLeq]) (CallOk.of (by simp [h0', h9', BoxLeq]) rfl (by first | rfl | (simp [h0', h9', BoxLeq]; done)) (by simp [h0', h9', BoxLeq]) (by simp [h0', h9', BoxLeq])) (fun _ h => h.elim) (fun ⟨_, h⟩ => h.elim) (fun ⟨_, h⟩ => h.elim) (by simp [h0', h9', BoxLeq]) ?_
        simp -dsimp
        repeat (first | refine WP.seq ?_ | refine WP.block ?_ | (refine WP.region Try.tab ?_; simp -dsimp [e7, and127, hst']) | (refine WP.draw Try.tab Try.mixed ?_; simp -dsimp [e7, and127, hst']) | refine And.intro (by first | rfl | omega | decide | (simp; done) | (simp; omega) | (intros; simp_all; done)) ?_)
        refine WP.cond (b := decide (c.toNat < 128)) (by simp [show ((c.toNat : Int) < 128) ↔ c.toNat < 128 by omega]) (fun hb => ?_) (fun hb => ?_)
        · have hb := of_decide_eq_true hb
          rw [if_pos hb] at hp
          cases hp
          repeat (first | refine WP.seq ?_ | refine WP.block ?_ | (refine WP.region Try.tab ?_; simp -dsimp) | (refine WP.draw Try.tab Try.mixed ?_; simp -dsimp) | refine And.intro (by first | rfl | omega | decide | (simp; done) | (simp; omega) | (intros; simp_all; done)) ?_)
          refine WP.ret (finQ.ret ?_)
          simp -dsimp
        · have hb := of_decide_eq_false hb
          rw [if_neg hb] at hp
          refine WP.skip ?_
          simp -dsimp
          repeat (first | refine WP.seq ?_ | refine WP.block ?_ | (refine WP.region Try.tab ?_; simp -dsimp) | (refine WP.draw Try.tab Try.mixed ?_; simp -dsimp) | refine And.intro (by first | rfl | omega | decide | (simp; done) | (simp; omega) | (intros; simp_all; done)) ?_)
          refine loopW.next (s46 (i + 1) (u + c.toNat % 128 * 128 ^ i) r) (Wk.lessE [] (by simp [s46, e8]) (by simp [s46])) r.length (by simp) ⟨i + 1, _, r, rfl, hnx hb, hun, hp, rfl⟩
      · have h9' : (i : Int) < 9 := by omega
        repeat (first | refine WP.seq ?_ | refine WP.block ?_ | (refine WP.region Try.tab ?_; simp -dsimp) | (refine WP.draw Try.tab Try.mixed ?_; simp -dsimp) | refine And.intro (by first | rfl | omega | decide | (simp; done) | (simp; omega) | (intros; simp_all; done)) ?_)
        refine vcStop.call Try.body44 (f44_ok (c :: r) 1 (by simp)) (rl []) rfl rfl (by simp [BoxLeq]) (CallOk.of (by simp [BoxLeq]) rfl (by first | rfl | (simp [BoxLeq]; done)) (by simp [BoxLeq]) (by simp [BoxLeq])) (fun _ h => h.elim) (fun ⟨_, h⟩ => h.elim) (fun ⟨_, h⟩ => h.elim) (by simp [BoxLeq]) ?_
        simp -dsimp
        repeat (first | refine WP.seq ?_ | refine WP.block ?_ | (refine WP.region Try.tab ?_; simp -dsimp [h0, hc0, h9', e7, and127, hst']) | (refine WP.draw Try.tab Try.mixed ?_; simp -dsimp [h0, hc0, h9', e7, and127, hst']) | refine And.intro (by first | rfl | omega | decide | (simp; done) | (simp; omega) | (intros; simp_all; done)) ?_)
        refine vcStop.call Try.body33 (f33_ok) (rl []) rfl rfl (by simp [h0, hc0, h9', BoxLeq]) (CallOk.of (by simp [h0, hc0, h9', BoxLeq]) rfl (by first | rfl | (simp [h0, hc0, h9', BoxLeq]; done)) (by simp [h0, hc0, h9', BoxLeq]) (by simp [h0, hc0, h9', BoxLeq])) (fun _ h => h.elim) (fun ⟨_, h⟩ => h.elim) (fun ⟨_, h⟩ => h.elim) (by simp [h0, hc0, h9', BoxLeq]) ?_
        simp -dsimp
        repeat (first | refine WP.seq ?_ | refine WP.block ?_ | (refine WP.region Try.tab ?_; simp -dsimp [e7, and127, hst']) | (refine WP.draw Try.tab Try.mixed ?_; simp -dsimp [e7, and127, hst']) | refine And.intro (by first | rfl | omega | decide | (simp; done) | (simp; omega) | (intros; simp_all; done)) ?_)
        refine WP.cond (b := decide (c.toNat < 128)) (by simp [show ((c.toNat : Int) < 128) ↔ c.toNat < 128 by omega]) (fun hb => ?_) (fun hb => ?_)
        · have hb := of_decide_eq_true hb
          rw [if_pos hb] at hp
          cases hp
          repeat (first | refine WP.seq ?_ | refine WP.block ?_ | (refine WP.region Try.tab ?_; simp -dsimp) | (refine WP.draw Try.tab Try.mixed ?_; simp -dsimp) | refine And.intro (by first | rfl | omega | decide | (simp; done) | (simp; omega) | (intros; simp_all; done)) ?_)
          refine WP.ret (finQ.ret ?_)
          simp -dsimp
        · have hb := of_decide_eq_false hb
          rw [if_neg hb] at hp
          refine WP.skip ?_
          simp -dsimp
          repeat (first | refine WP.seq ?_ | refine WP.block ?_ | (refine WP.region Try.tab ?_; simp -dsimp) | (refine WP.draw Try.tab Try.mixed ?_; simp -dsimp) | refine And.intro (by first | rfl | omega | decide | (simp; done) | (simp; omega) | (intros; simp_all; done)) ?_)
          refine loopW.next (s46 (i + 1) (u + c.toNat % 128 * 128 ^ i) r) (Wk.lessE [] (by simp [s46, e8]) (by simp [s46])) r.length (by simp) ⟨i + 1, _, r, rfl, hnx hb, hun, hp, rfl⟩
      · have h9' : ¬ (i : Int) < 9 := by omega
        have hc1' : (c.toNat : Int) ≤ 1 := by omega
        repeat (first | refine WP.seq ?_ | refine WP.block ?_ | (refine WP.region Try.tab ?_; simp -dsimp) | (refine WP.draw Try.tab Try.mixed ?_; simp -dsimp) | refine And.intro (by first | rfl | omega | decide | (simp; done) | (simp; omega) | (intros; simp_all; done)) ?_)
        refine vcStop.call Try.body44 (f44_ok (c :: r) 1 (by simp)) (rl []) rfl rfl (by simp [BoxLeq]) (CallOk.of (by simp [BoxLeq]) rfl (by first | rfl | (simp [BoxLeq]; done)) (by simp [BoxLeq]) (by simp [BoxLeq])) (fun _ h => h.elim) (fun ⟨_, h⟩ => h.elim) (fun ⟨_, h⟩ => h.elim) (by simp [BoxLeq]) ?_
        simp -dsimp
        repeat (first | refine WP.seq ?_ | refine WP.block ?_ | (refine WP.region Try.tab ?_; simp -dsimp [h0, hc0, h9', hc1', e7, and127, hst']) | (refine WP.draw Try.tab Try.mixed ?_; simp -dsimp [h0, hc0, h9', hc1', e7, and127, hst']) | refine And.intro (by first | rfl | omega | decide | (simp; done) | (simp; omega) | (intros; simp_all; done)) ?_)
        refine vcStop.call Try.body33 (f33_ok) (rl []) rfl rfl (by simp [h0, hc0, h9', hc1', BoxLeq]) (CallOk.of (by simp [h0, hc0, h9', hc1', BoxLeq]) rfl (by first | rfl | (simp [h0, hc0, h9', hc1', BoxLeq]; done)) (by simp [h0, hc0, h9', hc1', BoxLeq]) (by simp [h0, hc0, h9', hc1', BoxLeq])) (fun _ h => h.elim) (fun ⟨_, h⟩ => h.elim) (fun ⟨_, h⟩ => h.elim) (by simp [h0, hc0, h9', hc1', BoxLeq]) ?_
        simp -dsimp
        repeat (first | refine WP.seq ?_ | refine WP.block ?_ | (refine WP.region Try.tab ?_; simp -dsimp [e7, and127, hst']) | (refine WP.draw Try.tab Try.mixed ?_; simp -dsimp [e7, and127, hst']) | refine And.intro (by first | rfl | omega | decide | (simp; done) | (simp; omega) | (intros; simp_all; done)) ?_)
        refine WP.cond (b := decide (c.toNat < 128)) (by simp [show ((c.toNat : Int) < 128) ↔ c.toNat < 128 by omega]) (fun hb => ?_) (fun hb => ?_)
        · have hb := of_decide_eq_true hb
          rw [if_pos hb] at hp
          cases hp
          repeat (first | refine WP.seq ?_ | refine WP.block ?_ | (refine WP.region Try.tab ?_; simp -dsimp) | (refine WP.draw Try.tab Try.mixed ?_; simp -dsimp) | refine And.intro (by first | rfl | omega | decide | (simp; done) | (simp; omega) | (intros; simp_all; done)) ?_)
          refine WP.ret (finQ.ret ?_)
          simp -dsimp
        · have hb := of_decide_eq_false hb
          rw [if_neg hb] at hp
          refine WP.skip ?_
          simp -dsimp
          repeat (first | refine WP.seq ?_ | refine WP.block ?_ | (refine WP.region Try.tab ?_; simp -dsimp) | (refine WP.draw Try.tab Try.mixed ?_; simp -dsimp) | refine And.intro (by first | rfl | omega | decide | (simp; done) | (simp; omega) | (intros; simp_all; done)) ?_)
          refine loopW.next (s46 (i + 1) (u + c.toNat % 128 * 128 ^ i) r) (Wk.lessE [] (by simp [s46, e8]) (by simp [s46])) r.length (by simp) ⟨i + 1, _, r, rfl, hnx hb, hun, hp, rfl⟩
    · cases hp

set_option maxRecDepth 10000 in
set_option maxHeartbeats 4000000 in
theorem f46_no (bs : List UInt8) (h : pNum 0 0 bs = none) : Fun Try.prog 46 [.ptr 1000 0] [(1000, rdB bs)] (.d (.v (.int .u64 0))) [(1000, rdB []), (0, botB)] pc := by
  refine Fun.of_wp (pn := ⟨pc, [], []⟩) Try.tab Try.func46 rfl fun β0 => ?_
  simp only [Try.f46]
  repeat (first | refine WP.seq ?_ | refine WP.block ?_ | (refine WP.region Try.tab ?_; simp -dsimp) | (refine WP.draw Try.tab Try.mixed ?_; simp -dsimp) | refine And.intro (by first | rfl | omega | decide | (simp; done) | (simp; omega) | (intros; simp_all; done)) ?_)
  refine WP.loopWk (fun m S => ∃ i u r, m = r.length ∧ i ≤ 9 ∧ u < 128 ^ i ∧ pNum i u r = none ∧ S = s46 i u r) bs.length (S0 := s46 0 0 bs) (Wk.lessE [] (by simp [s46]) (by simp [s46])) ⟨0, 0, bs, rfl, by omega, by simp, h, rfl⟩ ?_
  rintro _ _ ⟨i, u, r, rfl, hi, hu, hp, rfl⟩
  simp -dsimp [s46]
  cases r with
  | nil =>
    repeat (first | refine WP.seq ?_ | refine WP.block ?_ | (refine WP.region Try.tab ?_; simp -dsimp) | (refine WP.draw Try.tab Try.mixed ?_; simp -dsimp) | refine And.intro (by first | rfl | omega | decide | (simp; done) | (simp; omega) | (intros; simp_all; done)) ?_)
    refine vcStop.call Try.body44 (f44_no [] 1 (by simp)) (rl [(0, 600)]) rfl rfl (by simp [BoxLeq]) (CallOk.of (by simp [BoxLeq]) rfl (by first | rfl | (simp [BoxLeq]; done)) (by simp [BoxLeq]) (by simp [BoxLeq])) (fun _ h => by first | exact h | exact ⟨by assumption, h⟩) (fun _ _ h => by cases h) (fun _ _ _ => rfl) (by simp [BoxLeq]) ?_
    simp -dsimp
    repeat refine And.intro (by first | rfl | omega | decide | (simp; done) | (simp; omega) | (intros; simp_all; done)) ?_
    refine WP.absurdB 600 (by simp)
  | cons c r =>
    rw [pNum] at hp
    split at hp
    · rename_i hc
      obtain ⟨hst, hbd⟩ := num_step hi hu hc.2
      have hst' : bits .or .u64 (u : Int) (IntKind.u64.wrap (IntKind.u64.wrap ((c.toNat : Int) % 128) * 2 ^ shN .u64 (7 * (i : Int)))) = (u : Int) + (c.toNat : Int) % 128 * 128 ^ i := by simpa using hst
      have e7 : IntKind.i64.wrap (7 * (i : Int)) = 7 * (i : Int) := IntWalk.i64_in _ (by omega)
      have e8 : IntKind.i64.wrap ((i : Int) + 1) = (i : Int) + 1 := IntWalk.i64_in _ (by omega)
      have hnx : ¬ c.toNat < 128 → i + 1 ≤ 9 := by omega
      have hun : u + c.toNat % 128 * 128 ^ i < 128 ^ (i + 1) := by
        have h1 : c.toNat % 128 * 128 ^ i ≤ 127 * 128 ^ i := Nat.mul_le_mul_right _ (by omega)
        rw [Nat.pow_succ]; omega
      have hci : i = 0 ∨ (¬ i = 0 ∧ ¬ c.toNat = 0 ∧ i < 9) ∨ (¬ i = 0 ∧ ¬ c.toNat = 0 ∧ i = 9 ∧ c.toNat ≤ 1) := by omega
      rcases hci with h0 | ⟨h0, hc0, h9⟩ | ⟨h0, hc0, h9, hc1⟩
      · have h0' : decide (i = 0) = true := by simp [h0]
        have h9' : (i : Int) < 9 := by omega
        repeat (first | refine WP.seq ?_ | refine WP.block ?_ | (refine WP.region Try.tab ?_; simp -dsimp) | (refine WP.draw Try.tab Try.mixed ?_; simp -dsimp) | refine And.intro (by first | rfl | omega | decide | (simp; done) | (simp; omega) | (intros; simp_all; done)) ?_)
        refine vcStop.call Try.body44 (f44_ok (c :: r) 1 (by simp)) (rl []) rfl rfl (by simp [BoxLeq]) (CallOk.of (by simp [BoxLeq]) rfl (by first | rfl | (simp [BoxLeq]; done)) (by simp [BoxLeq]) (by simp [BoxLeq])) (fun _ h => h.elim) (fun ⟨_, h⟩ => h.elim) (fun ⟨_, h⟩ => h.elim) (by simp [BoxLeq]) ?_
        simp -dsimp
        repeat (first | refine WP.seq ?_ | refine WP.block ?_ | (refine WP.region Try.tab ?_; simp -dsimp [h0', h9', e7, and127, hst']) | (refine WP.draw Try.tab Try.mixed ?_; simp -dsimp [h0', h9', e7, and127, hst']) | refine And.intro (by first | rfl | omega | decide | (simp; done) | (simp; omega) | (intros; simp_all; done)) ?_)
        refine vcStop.call Try.body33 (f33_ok) (rl []) rfl rfl (by simp [h0', h9', BoxLeq]) (CallOk.of (by simp [h0', h9', BoxLeq]) rfl (by first | rfl | (simp [h0', h9', BoxLeq]; done)) (by simp [h0', h9', BoxLeq]) (by simp [h0', h9', BoxLeq])) (fun _ h => h.elim) (fun ⟨_, h⟩ => h.elim) (fun ⟨_, h⟩ => h.elim) (by simp [h0', h9', BoxLeq]) ?_
        simp -dsimp
        repeat (first | refine WP.seq ?_ | refine WP.block ?_ | (refine WP.region Try.tab ?_; simp -dsimp [e7, and127, hst']) | (refine WP.draw Try.tab Try.mixed ?_; simp -dsimp [e7, and127, hst']) | refine And.intro (by first | rfl | omega | decide | (simp; done) | (simp; omega) | (intros; simp_all; done)) ?_)
        refine WP.cond (b := decide (c.toNat < 128)) (by simp [show ((c.toNat : Int) < 128) ↔ c.toNat < 128 by omega]) (fun hb => ?_) (fun hb => ?_)
        · have hb := of_decide_eq_true hb
          rw [if_pos hb] at hp
          cases hp
        · have hb := of_decide_eq_false hb
          rw [if_neg hb] at hp
          refine WP.skip ?_
          simp -dsimp
          repeat (first | refine WP.seq ?_ | refine WP.block ?_ | (refine WP.region Try.tab ?_; simp -dsimp) | (refine WP.draw Try.tab Try.mixed ?_; simp -dsimp) | refine And.intro (by first | rfl | omega | decide | (simp; done) | (simp; omega) | (intros; simp_all; done)) ?_)
          refine loopW.next (s46 (i + 1) (u + c.toNat % 128 * 128 ^ i) r) (Wk.lessE [] (by simp [s46, e8]) (by simp [s46])) r.length (by simp) ⟨i + 1, _, r, rfl, hnx hb, hun, hp, rfl⟩
      · have h9' : (i : Int) < 9 := by omega
        repeat (first | refine WP.seq ?_ | refine WP.block ?_ | (refine WP.region Try.tab ?_; simp -dsimp) | (refine WP.draw Try.tab Try.mixed ?_; simp -dsimp) | refine And.intro (by first | rfl | omega | decide | (simp; done) | (simp; omega) | (intros; simp_all; done)) ?_)
        refine vcStop.call Try.body44 (f44_ok (c :: r) 1 (by simp)) (rl []) rfl rfl (by simp [BoxLeq]) (CallOk.of (by simp [BoxLeq]) rfl (by first | rfl | (simp [BoxLeq]; done)) (by simp [BoxLeq]) (by simp [BoxLeq])) (fun _ h => h.elim) (fun ⟨_, h⟩ => h.elim) (fun ⟨_, h⟩ => h.elim) (by simp [BoxLeq]) ?_
        simp -dsimp
        repeat (first | refine WP.seq ?_ | refine WP.block ?_ | (refine WP.region Try.tab ?_; simp -dsimp [h0, hc0, h9', e7, and127, hst']) | (refine WP.draw Try.tab Try.mixed ?_; simp -dsimp [h0, hc0, h9', e7, and127, hst']) | refine And.intro (by first | rfl | omega | decide | (simp; done) | (simp; omega) | (intros; simp_all; done)) ?_)
        refine vcStop.call Try.body33 (f33_ok) (rl []) rfl rfl (by simp [h0, hc0, h9', BoxLeq]) (CallOk.of (by simp [h0, hc0, h9', BoxLeq]) rfl (by first | rfl | (simp [h0, hc0, h9', BoxLeq]; done)) (by simp [h0, hc0, h9', BoxLeq]) (by simp [h0, hc0, h9', BoxLeq])) (fun _ h => h.elim) (fun ⟨_, h⟩ => h.elim) (fun ⟨_, h⟩ => h.elim) (by simp [h0, hc0, h9', BoxLeq]) ?_
        simp -dsimp
        repeat (first | refine WP.seq ?_ | refine WP.block ?_ | (refine WP.region Try.tab ?_; simp -dsimp [e7, and127, hst']) | (refine WP.draw Try.tab Try.mixed ?_; simp -dsimp [e7, and127, hst']) | refine And.intro (by first | rfl | omega | decide | (simp; done) | (simp; omega) | (intros; simp_all; done)) ?_)
        refine WP.cond (b := decide (c.toNat < 128)) (by simp [show ((c.toNat : Int) < 128) ↔ c.toNat < 128 by omega]) (fun hb => ?_) (fun hb => ?_)
        · have hb := of_decide_eq_true hb
          rw [if_pos hb] at hp
          cases hp
        · have hb := of_decide_eq_false hb
          rw [if_neg hb] at hp
          refine WP.skip ?_
          simp -dsimp
          repeat (first | refine WP.seq ?_ | refine WP.block ?_ | (refine WP.region Try.tab ?_; simp -dsimp) | (refine WP.draw Try.tab Try.mixed ?_; simp -dsimp) | refine And.intro (by first | rfl | omega | decide | (simp; done) | (simp; omega) | (intros; simp_all; done)) ?_)
          refine loopW.next (s46 (i + 1) (u + c.toNat % 128 * 128 ^ i) r) (Wk.lessE [] (by simp [s46, e8]) (by simp [s46])) r.length (by simp) ⟨i + 1, _, r, rfl, hnx hb, hun, hp, rfl⟩
      · have h9' : ¬ (i : Int) < 9 := by omega
        have hc1' : (c.toNat : Int) ≤ 1 := by omega
        repeat (first | refine WP.seq ?_ | refine WP.block ?_ | (refine WP.region Try.tab ?_; simp -dsimp) | (refine WP.draw Try.tab Try.mixed ?_; simp -dsimp) | refine And.intro (by first | rfl | omega | decide | (simp; done) | (simp; omega) | (intros; simp_all; done)) ?_)
        refine vcStop.call Try.body44 (f44_ok (c :: r) 1 (by simp)) (rl []) rfl rfl (by simp [BoxLeq]) (CallOk.of (by simp [BoxLeq]) rfl (by first | rfl | (simp [BoxLeq]; done)) (by simp [BoxLeq]) (by simp [BoxLeq])) (fun _ h => h.elim) (fun ⟨_, h⟩ => h.elim) (fun ⟨_, h⟩ => h.elim) (by simp [BoxLeq]) ?_
        simp -dsimp
        repeat (first | refine WP.seq ?_ | refine WP.block ?_ | (refine WP.region Try.tab ?_; simp -dsimp [h0, hc0, h9', hc1', e7, and127, hst']) | (refine WP.draw Try.tab Try.mixed ?_; simp -dsimp [h0, hc0, h9', hc1', e7, and127, hst']) | refine And.intro (by first | rfl | omega | decide | (simp; done) | (simp; omega) | (intros; simp_all; done)) ?_)
        refine vcStop.call Try.body33 (f33_ok) (rl []) rfl rfl (by simp [h0, hc0, h9', hc1', BoxLeq]) (CallOk.of (by simp [h0, hc0, h9', hc1', BoxLeq]) rfl (by first | rfl | (simp [h0, hc0, h9', hc1', BoxLeq]; done)) (by simp [h0, hc0, h9', hc1', BoxLeq]) (by simp [h0, hc0, h9', hc1', BoxLeq])) (fun _ h => h.elim) (fun ⟨_, h⟩ => h.elim) (fun ⟨_, h⟩ => h.elim) (by simp [h0, hc0, h9', hc1', BoxLeq]) ?_
        simp -dsimp
        repeat (first | refine WP.seq ?_ | refine WP.block ?_ | (refine WP.region Try.tab ?_; simp -dsimp [e7, and127, hst']) | (refine WP.draw Try.tab Try.mixed ?_; simp -dsimp [e7, and127, hst']) | refine And.intro (by first | rfl | omega | decide | (simp; done) | (simp; omega) | (intros; simp_all; done)) ?_)
        refine WP.cond (b := decide (c.toNat < 128)) (by simp [show ((c.toNat : Int) < 128) ↔ c.toNat < 128 by omega]) (fun hb => ?_) (fun hb => ?_)
        · have hb := of_decide_eq_true hb
          rw [if_pos hb] at hp
          cases hp
        · have hb := of_decide_eq_false hb
          rw [if_neg hb] at hp
          refine WP.skip ?_
          simp -dsimp
          repeat (first | refine WP.seq ?_ | refine WP.block ?_ | (refine WP.region Try.tab ?_; simp -dsimp) | (refine WP.draw Try.tab Try.mixed ?_; simp -dsimp) | refine And.intro (by first | rfl | omega | decide | (simp; done) | (simp; omega) | (intros; simp_all; done)) ?_)
          refine loopW.next (s46 (i + 1) (u + c.toNat % 128 * 128 ^ i) r) (Wk.lessE [] (by simp [s46, e8]) (by simp [s46])) r.length (by simp) ⟨i + 1, _, r, rfl, hnx hb, hun, hp, rfl⟩
    · rename_i hc
      have hci : (¬ i = 0 ∧ c.toNat = 0) ∨ (¬ i = 0 ∧ ¬ c.toNat = 0 ∧ i = 9 ∧ 1 < c.toNat) := by omega
      rcases hci with ⟨h0, hc0⟩ | ⟨h0, hc0, h9, hc1⟩
      · have hc0' : decide (c.toNat = 0) = true := by simp [hc0]
        repeat (first | refine WP.seq ?_ | refine WP.block ?_ | (refine WP.region Try.tab ?_; simp -dsimp) | (refine WP.draw Try.tab Try.mixed ?_; simp -dsimp) | refine And.intro (by first | rfl | omega | decide | (simp; done) | (simp; omega) | (intros; simp_all; done)) ?_)
        refine vcStop.call Try.body44 (f44_ok (c :: r) 1 (by simp)) (rl []) rfl rfl (by simp [BoxLeq]) (CallOk.of (by simp [BoxLeq]) rfl (by first | rfl | (simp [BoxLeq]; done)) (by simp [BoxLeq]) (by simp [BoxLeq])) (fun _ h => h.elim) (fun ⟨_, h⟩ => h.elim) (fun ⟨_, h⟩ => h.elim) (by simp [BoxLeq]) ?_
        simp -dsimp
        repeat (first | refine WP.seq ?_ | refine WP.block ?_ | (refine WP.region Try.tab ?_; simp -dsimp [h0, hc0']) | (refine WP.draw Try.tab Try.mixed ?_; simp -dsimp [h0, hc0']) | refine And.intro (by first | rfl | omega | decide | (simp; done) | (simp; omega) | (intros; simp_all; done)) ?_)
        refine vcStop.call Try.body33 (f33_no) (rl [(0, 600)]) rfl rfl (by simp [h0, hc0', BoxLeq]) (CallOk.of (by simp [h0, hc0', BoxLeq]) rfl (by first | rfl | (simp [h0, hc0', BoxLeq]; done)) (by simp [h0, hc0', BoxLeq]) (by simp [h0, hc0', BoxLeq])) (fun _ h => by first | exact h | exact ⟨by assumption, h⟩) (fun _ _ h => by cases h) (fun _ _ _ => rfl) (by simp [h0, hc0', BoxLeq]) ?_
        simp -dsimp
        refine WP.absurdB 600 (by simp)
      · have h9' : ¬ (i : Int) < 9 := by omega
        have hc1' : ¬ (c.toNat : Int) ≤ 1 := by omega
        repeat (first | refine WP.seq ?_ | refine WP.block ?_ | (refine WP.region Try.tab ?_; simp -dsimp) | (refine WP.draw Try.tab Try.mixed ?_; simp -dsimp) | refine And.intro (by first | rfl | omega | decide | (simp; done) | (simp; omega) | (intros; simp_all; done)) ?_)
        refine vcStop.call Try.body44 (f44_ok (c :: r) 1 (by simp)) (rl []) rfl rfl (by simp [BoxLeq]) (CallOk.of (by simp [BoxLeq]) rfl (by first | rfl | (simp [BoxLeq]; done)) (by simp [BoxLeq]) (by simp [BoxLeq])) (fun _ h => h.elim) (fun ⟨_, h⟩ => h.elim) (fun ⟨_, h⟩ => h.elim) (by simp [BoxLeq]) ?_
        simp -dsimp
        repeat (first | refine WP.seq ?_ | refine WP.block ?_ | (refine WP.region Try.tab ?_; simp -dsimp [h0, hc0, h9', hc1']) | (refine WP.draw Try.tab Try.mixed ?_; simp -dsimp [h0, hc0, h9', hc1']) | refine And.intro (by first | rfl | omega | decide | (simp; done) | (simp; omega) | (intros; simp_all; done)) ?_)
        refine vcStop.call Try.body33 (f33_no) (rl [(0, 600)]) rfl rfl (by simp [h0, hc0, h9', hc1', BoxLeq]) (CallOk.of (by simp [h0, hc0, h9', hc1', BoxLeq]) rfl (by first | rfl | (simp [h0, hc0, h9', hc1', BoxLeq]; done)) (by simp [h0, hc0, h9', hc1', BoxLeq]) (by simp [h0, hc0, h9', hc1', BoxLeq])) (fun _ h => by first | exact h | exact ⟨by assumption, h⟩) (fun _ _ h => by cases h) (fun _ _ _ => rfl) (by simp [h0, hc0, h9', hc1', BoxLeq]) ?_
        simp -dsimp
        refine WP.absurdB 600 (by simp)
end Go.Proofs.Ytnbanfpelgcmoaa
