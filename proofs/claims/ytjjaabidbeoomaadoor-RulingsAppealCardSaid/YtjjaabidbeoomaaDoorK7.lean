/-
  Joined texts.
-/
import Derived.Test.YtjjaabidbeoomaaDoorK6
set_option linter.unusedSectionVars false
set_option linter.unusedSimpArgs false
set_option linter.unusedVariables false
namespace Go.Proofs.YtjjaabidbeoomaaDoor
open Go.Xe Go.RowKit

/-! ### the reader of the reference -/
theorem bys_at (pre : List UInt8) (c : UInt8) (r : List UInt8) : ((bys pre ++ byteD c :: bys r).drop pre.length).take 1 = [byteD c] := by
  rw [← bys_length pre, List.drop_left]; rfl

/-- A numeral as the reference reads it: the number, what is left, whether it is bad. -/
def rNum : Nat → Nat → List UInt8 → Nat × List UInt8 × Bool
  | _, _, [] => (0, [], true)
  | i, u, c :: r => if (i = 0 ∨ c.toNat ≠ 0) ∧ (i < 9 ∨ c.toNat ≤ 1) then (if c.toNat < 128 then (u + c.toNat % 128 * 128 ^ i, r, false) else rNum (i + 1) (u + c.toNat % 128 * 128 ^ i) r) else (0, r, true)

theorem add_step {i u : Nat} {c : UInt8} (hi : i ≤ 9) (hu : u < 128 ^ i) (hc : i < 9 ∨ c.toNat ≤ 1) :
    IntKind.u64.wrap ((u : Int) + IntKind.u64.wrap (IntKind.u64.wrap ((c.toNat : Int) % 128) * 2 ^ shN .u64 (7 * (i : Int)))) = ((u + c.toNat % 128 * 128 ^ i : Nat) : Int) := by
  obtain ⟨_, hb⟩ := num_step hi hu hc
  have hm : c.toNat % 128 < 128 := Nat.mod_lt _ (by omega)
  have hs : shN .u64 (7 * (i : Int)) = 7 * i := by
    show min (7 * (i : Int)).toNat 64 = 7 * i
    omega
  have hw : IntKind.u64.wrap ((c.toNat : Int) % 128) = ((c.toNat % 128 : Nat) : Int) := by
    rw [IntWalk.u64_in _ (by omega)]; omega
  have e : (((c.toNat % 128 : Nat) : Int) * 2 ^ (7 * i)) = ((c.toNat % 128 * 128 ^ i : Nat) : Int) := by rw [p7]; push_cast; rfl
  have w1 : IntKind.u64.wrap ((c.toNat % 128 * 128 ^ i : Nat) : Int) = ((c.toNat % 128 * 128 ^ i : Nat) : Int) := IntWalk.u64_in _ (by omega)
  rw [hs, hw, e, w1, IntWalk.u64_in _ (by omega)]
  push_cast; rfl

attribute [local simp] byteD_eq
theorem add_step' {i u : Nat} {c : UInt8} (hi : i ≤ 9) (hu : u < 128 ^ i) (hc : i < 9 ∨ c.toNat ≤ 1) :
    IntKind.u64.wrap ((u : Int) + IntKind.u64.wrap (IntKind.u64.wrap ((c.toNat : Int).tmod 128) * 2 ^ shN .u64 (7 * (i : Int)))) = (u : Int) + (c.toNat : Int) % 128 * 128 ^ i := by
  have h := add_step hi hu hc
  rw [Int.tmod_eq_emod_of_nonneg (by omega), h]
  push_cast; rfl
end Go.Proofs.YtjjaabidbeoomaaDoor

set_option linter.unusedSimpArgs false
set_option linter.unusedVariables false
namespace Go.Proofs.YtjjaabidbeoomaaDoor
open Go.Xe Go.RowKit
attribute [local simp] byteD_eq

def vz : V := .mk 0 0 ⟨#[]⟩ []
def rMany (p : List UInt8 → V × List UInt8 × Bool) : Nat → List UInt8 → List V × List UInt8 × Bool
  | 0, r => ([], r, false)
  | n + 1, r => if (p r).2.2 = true then ([(p r).1], (p r).2.1, true) else ((p r).1 :: (rMany p n (p r).2.1).1, (rMany p n (p r).2.1).2.1, (rMany p n (p r).2.1).2.2)
/-- A value as the reference reads it, whatever comes. -/
def rOne (b : Nat) (p : List UInt8 → V × List UInt8 × Bool) : List UInt8 → V × List UInt8 × Bool
  | [] => (vz, [], true)
  | c :: r => if c.toNat = 1 then (.mk 1 (zag (rNum 0 0 r).1) ⟨#[]⟩ [], (rNum 0 0 r).2.1, (rNum 0 0 r).2.2)
      else if c.toNat = 2 then (if (rNum 0 0 r).2.2 = true ∨ (rNum 0 0 r).2.1.length < (rNum 0 0 r).1 then (vz, (rNum 0 0 r).2.1, true) else (.mk 2 0 ⟨((rNum 0 0 r).2.1.take (rNum 0 0 r).1).toArray⟩ [], (rNum 0 0 r).2.1.drop (rNum 0 0 r).1, false))
      else if c.toNat = 3 then (if (rNum 0 0 r).2.2 = true ∨ (rNum 0 0 r).2.1.length < (rNum 0 0 r).1 ∨ b = 0 then (vz, (rNum 0 0 r).2.1, true)
        else (.mk 3 0 ⟨#[]⟩ (rMany p (rNum 0 0 r).1 (rNum 0 0 r).2.1).1, (rMany p (rNum 0 0 r).1 (rNum 0 0 r).2.1).2.1, (rMany p (rNum 0 0 r).1 (rNum 0 0 r).2.1).2.2))
      else (vz, r, true)
def rVal : Nat → List UInt8 → V × List UInt8 × Bool
  | 0 => rOne 0 fun r => (vz, r, true)
  | b + 1 => rOne (b + 1) (rVal b)

theorem rNum_u : ∀ (r : List UInt8) (i u : Nat), i ≤ 9 → u < 128 ^ i → isU (rNum i u r).1
  | [], _, _, _, _ => by rw [rNum]; unfold isU; omega
  | c :: r, i, u, hi, hu => by
    rw [rNum]
    split
    · rename_i hc
      obtain ⟨_, hbd⟩ := num_step hi hu hc.2
      split
      · exact hbd
      · have h1 : c.toNat % 128 * 128 ^ i ≤ 127 * 128 ^ i := Nat.mul_le_mul_right _ (by omega)
        exact rNum_u r _ _ (by omega) (by rw [Nat.pow_succ]; omega)
    · unfold isU; simp only; omega

/-! ### what is left is the end of what was there -/
def isEnd (r' r : List UInt8) : Prop := ∃ q, q ++ r' = r
theorem isEnd.refl (r : List UInt8) : isEnd r r := ⟨[], rfl⟩
theorem isEnd.trans {a b c : List UInt8} (h : isEnd a b) (h' : isEnd b c) : isEnd a c := by
  obtain ⟨q, rfl⟩ := h
  obtain ⟨q', rfl⟩ := h'
  exact ⟨q' ++ q, by simp⟩
theorem isEnd.cons {a b : List UInt8} (c : UInt8) (h : isEnd a b) : isEnd a (c :: b) := by
  obtain ⟨q, rfl⟩ := h
  exact ⟨c :: q, rfl⟩
theorem isEnd.drop (n : Nat) (r : List UInt8) : isEnd (r.drop n) r := ⟨r.take n, List.take_append_drop n r⟩
theorem rNum_end : ∀ (r : List UInt8) (i u : Nat), isEnd (rNum i u r).2.1 r
  | [], i, u => by rw [rNum]; exact .refl _
  | c :: r, i, u => by
    rw [rNum]
    split
    · split
      · exact .cons c (.refl _)
      · exact .cons c (rNum_end r _ _)
    · exact .cons c (.refl _)
theorem rMany_end {p : List UInt8 → V × List UInt8 × Bool} (hp : ∀ r, isEnd (p r).2.1 r) : ∀ (n : Nat) (r : List UInt8), isEnd (rMany p n r).2.1 r
  | 0, r => .refl _
  | n + 1, r => by
    rw [rMany]
    split
    · exact hp r
    · exact (rMany_end hp n _).trans (hp r)
theorem rOne_end (b : Nat) {p : List UInt8 → V × List UInt8 × Bool} (hp : ∀ r, isEnd (p r).2.1 r) : ∀ r, isEnd (rOne b p r).2.1 r
  | [] => .refl _
  | c :: r => by
    rw [rOne]
    have h := rNum_end r 0 0
    split
    · exact .cons c h
    split
    · split
      · exact .cons c h
      · exact .cons c ((isEnd.drop _ _).trans h)
    split
    · split
      · exact .cons c h
      · exact .cons c ((rMany_end hp _ _).trans h)
    · exact .cons c (.refl _)
theorem rVal_end : ∀ (b : Nat) (r : List UInt8), isEnd (rVal b r).2.1 r
  | 0, r => rOne_end 0 (fun r => .refl r) r
  | b + 1, r => rOne_end (b + 1) (rVal_end b) r

/-! ### the two readers -/
theorem rNum_p : ∀ (r : List UInt8) (i u : Nat), (∀ x r', pNum i u r = some (x, r') → rNum i u r = (x, r', false)) ∧ (pNum i u r = none → (rNum i u r).2.2 = true)
  | [], i, u => ⟨fun x r' h => (by rw [pNum] at h; cases h), fun _ => rfl⟩
  | c :: r, i, u => by
    rw [pNum, rNum]
    split
    · split
      · exact ⟨fun x r' h => (by cases h; rfl), fun h => by cases h⟩
      · exact rNum_p r _ _
    · exact ⟨fun x r' h => (by cases h), fun _ => rfl⟩
theorem rMany_p {p : List UInt8 → Option (V × List UInt8)} {q : List UInt8 → V × List UInt8 × Bool} (h1 : ∀ r v r', p r = some (v, r') → q r = (v, r', false)) (h2 : ∀ r, p r = none → (q r).2.2 = true) :
    ∀ (n : Nat) (r : List UInt8), (∀ l r', pMany p n r = some (l, r') → rMany q n r = (l, r', false)) ∧ (pMany p n r = none → (rMany q n r).2.2 = true)
  | 0, r => ⟨fun l r' h => (by rw [pMany] at h; cases h; rfl), fun h => by rw [pMany] at h; cases h⟩
  | n + 1, r => by
    rw [pMany, rMany]
    cases hp : p r with
    | none => rw [if_pos (h2 r hp)]; exact ⟨fun l r' h => (by cases h), fun _ => rfl⟩
    | some x =>
      obtain ⟨v, r1⟩ := x
      have hq := h1 r v r1 hp
      rw [hq]
      have ih := rMany_p h1 h2 n r1
      simp only [Bool.false_eq_true, if_false]
      cases hm : pMany p n r1 with
      | none => exact ⟨fun l r' h => (by cases h), fun _ => ih.2 hm⟩
      | some y =>
        obtain ⟨l, r2⟩ := y
        have := ih.1 l r2 hm
        exact ⟨fun l r' h => (by cases h; rw [this]), fun h => by cases h⟩
theorem rVal_p : ∀ (b : Nat) (r : List UInt8), (∀ v r', pVal b r = some (v, r') → rVal b r = (v, r', false)) ∧ (pVal b r = none → (rVal b r).2.2 = true)
  | b, [] => by cases b <;> exact ⟨fun v r' h => (by rw [pVal] at h; cases h), fun _ => rfl⟩
  | b, c :: r => by
    have hn := rNum_p r 0 0
    have hL : (∀ n r', pLen r = some (n, r') → rNum 0 0 r = (n, r', false) ∧ n ≤ r'.length) ∧ (pLen r = none → (rNum 0 0 r).2.2 = true ∨ (rNum 0 0 r).2.1.length < (rNum 0 0 r).1) := by
      rw [pLen]
      cases hp : pNum 0 0 r with
      | none => exact ⟨fun n r' h => (by cases h), fun _ => .inl (hn.2 hp)⟩
      | some x =>
        obtain ⟨u, r1⟩ := x
        have h1 := hn.1 u r1 hp
        simp only
        split
        · rename_i hle; exact ⟨fun n r' h => by cases h; exact ⟨h1, hle⟩, fun h => by cases h⟩
        · rename_i hle; exact ⟨fun n r' h => (by cases h), fun _ => .inr (by rw [h1]; simp only; omega)⟩
    have hr : ∃ q, rVal b = rOne b q ∧ ∀ b', b = b' + 1 → q = rVal b' := by
      cases b with
      | zero => exact ⟨_, rfl, fun b' h => by cases h⟩
      | succ b => exact ⟨_, rfl, fun b' h => by cases h; rfl⟩
    obtain ⟨q, hq, hq'⟩ := hr
    rw [hq, rOne]
    by_cases h1 : c.toNat = 1
    · rw [pVal_1 b r h1, if_pos h1]
      cases hp : pNum 0 0 r with
      | none => exact ⟨fun v r' h => (by cases h), fun _ => hn.2 hp⟩
      | some x =>
        obtain ⟨u, r1⟩ := x
        rw [hn.1 u r1 hp]
        exact ⟨fun v r' h => (by cases h; rfl), fun h => by cases h⟩
    rw [if_neg h1]
    by_cases h2 : c.toNat = 2
    · rw [pVal_2 b r h2, if_pos h2]
      cases hp : pLen r with
      | none => rw [if_pos (hL.2 hp)]; exact ⟨fun v r' h => (by cases h), fun _ => rfl⟩
      | some x =>
        obtain ⟨n, r1⟩ := x
        obtain ⟨h3, h4⟩ := hL.1 n r1 hp
        rw [h3, if_neg (by simp only [Bool.false_eq_true, false_or]; omega)]
        exact ⟨fun v r' h => (by cases h; rfl), fun h => by cases h⟩
    rw [if_neg h2]
    by_cases h3 : c.toNat = 3
    · rw [if_pos h3]
      cases b with
      | zero =>
        rw [pVal_30 r h3, if_pos (.inr (.inr rfl))]
        exact ⟨fun v r' h => (by cases h), fun _ => rfl⟩
      | succ b =>
        rw [pVal_3 b r h3]
        have hqq := hq' b rfl
        subst hqq
        cases hp : pLen r with
        | none =>
          rw [if_pos (by rcases hL.2 hp with h | h; exact .inl h; exact .inr (.inl h))]
          exact ⟨fun v r' h => (by cases h), fun _ => rfl⟩
        | some x =>
          obtain ⟨n, r1⟩ := x
          obtain ⟨h4, h5⟩ := hL.1 n r1 hp
          have hm := rMany_p (fun r v r' h => (rVal_p b r).1 v r' h) (fun r h => (rVal_p b r).2 h) n r1
          rw [h4, if_neg (by simp only [Bool.false_eq_true, false_or]; omega)]
          simp only [Option.bind_some]
          cases hy : pMany (pVal b) n r1 with
          | none => exact ⟨fun v r' h => (by cases h), fun _ => hm.2 hy⟩
          | some y =>
            obtain ⟨l, r2⟩ := y
            rw [hm.1 l r2 hy]
            exact ⟨fun v r' h => (by cases h; rfl), fun h => by cases h⟩
    · rw [if_neg h3, pVal_x b r h1 h2 h3]
      exact ⟨fun v r' h => (by cases h), fun _ => rfl⟩
end Go.Proofs.YtjjaabidbeoomaaDoor

set_option linter.unusedSimpArgs false
set_option linter.unusedVariables false
namespace Go.Proofs.YtjjaabidbeoomaaDoor
open Go.Xe Go.RowKit
attribute [local simp] byteD_eq

theorem rVal_one (b : Nat) : ∃ q, rVal b = rOne b q ∧ ∀ b', b = b' + 1 → q = rVal b' := by
  cases b with
  | zero => exact ⟨_, rfl, fun b' h => by cases h⟩
  | succ b => exact ⟨_, rfl, fun b' h => by cases h; rfl⟩

theorem all_bys' (l : List UInt8) : (∀ a ∈ bys l, a = .v (.int .u8 (unB (.d a)).toNat)) ↔ True := all_bys l
attribute [local simp] all_bys'
theorem bys_take (l : List UInt8) (n : Nat) : (bys l).take n = bys (l.take n) := by rw [bys, bys, List.map_take]
theorem bys_drop (l : List UInt8) (n : Nat) : (bys l).drop n = bys (l.drop n) := by rw [bys, bys, List.map_drop]
theorem zag_odd {u : Nat} (h : isU u) (ho : u % 2 = 1) : IntKind.i64.wrap (IntKind.i64.wrap (-IntKind.i64.wrap (IntKind.u64.wrap ((u : Int) / 2))) - 1) = zag u := by
  unfold isU at h
  have e1 : IntKind.u64.wrap ((u : Int) / 2) = (u : Int) / 2 := IntWalk.u64_in _ (by omega)
  have e2 : IntKind.i64.wrap ((u : Int) / 2) = (u : Int) / 2 := IntWalk.i64_in _ (by omega)
  have e3 : IntKind.i64.wrap (-((u : Int) / 2)) = -((u : Int) / 2) := IntWalk.i64_in _ (by omega)
  rw [e1, e2, e3, IntWalk.i64_in _ (by omega), zag, if_neg (by omega)]
  omega
theorem zag_even {u : Nat} (h : isU u) (ho : u % 2 = 0) : IntKind.i64.wrap (IntKind.u64.wrap ((u : Int) / 2)) = zag u := by
  unfold isU at h
  have e1 : IntKind.u64.wrap ((u : Int) / 2) = (u : Int) / 2 := IntWalk.u64_in _ (by omega)
  rw [e1, IntWalk.i64_in _ (by omega), zag, if_pos ho]
  omega

end Go.Proofs.YtjjaabidbeoomaaDoor

/-
  The plain law of the codec: reading what was written, writing what was read.
-/
set_option linter.unusedSimpArgs false
set_option linter.unusedVariables false
namespace Go.Proofs.YtjjaabidbeoomaaDoor
open Go.Xe Go.RowKit

/-! ### numerals -/
theorem p9 : (128 : Nat) ^ 9 = 9223372036854775808 := by decide
theorem digs_dec : ∀ (N m : Nat), m ≤ N → ∀ (i u : Nat) (r : List UInt8), i ≤ 9 → u + m * 128 ^ i < 18446744073709551616 → (i = 0 ∨ 0 < m) → pNum i u (digs m ++ r) = some (u + m * 128 ^ i, r) := by
  intro N
  induction N with
  | zero =>
    intro m hm i u r hi hb h0
    have : m = 0 := by omega
    subst this
    rw [digs, if_pos (by omega), List.singleton_append, pNum]
    have : i = 0 := by omega
    subst this
    simp
  | succ N ih =>
    intro m hm i u r hi hb h0
    rw [digs]
    split
    · rename_i hlt
      have e : (UInt8.ofNat m).toNat = m := by simp; omega
      have h9 : i < 9 ∨ m ≤ 1 := by
        rcases Nat.lt_or_ge i 9 with h | h
        · exact .inl h
        · have : i = 9 := by omega
          subst this
          rw [p9] at hb
          exact .inr (by omega)
      rw [List.singleton_append, pNum, e, if_pos ⟨by omega, h9⟩, if_pos hlt, Nat.mod_eq_of_lt hlt]
    · rename_i hge
      have e : (UInt8.ofNat (m % 128 + 128)).toNat = m % 128 + 128 := by simp; omega
      have h9 : i < 9 := by
        rcases Nat.lt_or_ge i 9 with h | h
        · exact h
        · have : i = 9 := by omega
          subst this
          rw [p9] at hb
          omega
      have hs : u + m % 128 * 128 ^ i + m / 128 * 128 ^ (i + 1) = u + m * 128 ^ i := by
        have : m * 128 ^ i = (128 * (m / 128) + m % 128) * 128 ^ i := by rw [Nat.div_add_mod]
        rw [this, Nat.pow_succ, Nat.add_mul]
        have : m / 128 * (128 ^ i * 128) = 128 * (m / 128) * 128 ^ i := by rw [Nat.mul_comm (128 ^ i) 128, ← Nat.mul_assoc, Nat.mul_comm (m / 128) 128]
        omega
      have hc : (m % 128 + 128) % 128 = m % 128 := by omega
      rw [List.cons_append, pNum, e, if_pos ⟨by omega, .inl h9⟩, if_neg (by omega), hc, ih (m / 128) (by omega) (i + 1) _ r (by omega) (by rw [hs]; exact hb) (by omega), hs]

theorem dec_digs : ∀ (bs : List UInt8) (i u x : Nat) (r : List UInt8), pNum i u bs = some (x, r) → ∃ m, bs = digs m ++ r ∧ x = u + m * 128 ^ i ∧ (0 < i → 0 < m)
  | [], _, _, _, _, h => by rw [pNum] at h; cases h
  | c :: bs, i, u, x, r, h => by
    rw [pNum] at h
    split at h
    · rename_i hc
      split at h
      · rename_i hlt
        cases h
        refine ⟨c.toNat, ?_, by rw [Nat.mod_eq_of_lt hlt], fun h => by omega⟩
        rw [digs, if_pos hlt]
        simp
      · rename_i hge
        obtain ⟨m, rfl, rfl, hm⟩ := dec_digs bs _ _ _ _ h
        have hlt := c.toNat_lt
        refine ⟨c.toNat % 128 + 128 * m, ?_, ?_, fun _ => by omega⟩
        · have h1 : ¬ c.toNat % 128 + 128 * m < 128 := by have := hm (by omega); omega
          have h2 : (c.toNat % 128 + 128 * m) % 128 + 128 = c.toNat := by omega
          have h3 : (c.toNat % 128 + 128 * m) / 128 = m := by omega
          rw [digs.eq_1 (c.toNat % 128 + 128 * m), if_neg h1, h2, h3]
          simp
        · rw [Nat.pow_succ, Nat.add_mul]
          have : m * (128 ^ i * 128) = 128 * m * 128 ^ i := by rw [Nat.mul_comm (128 ^ i) 128, ← Nat.mul_assoc, Nat.mul_comm m 128]
          omega
    · cases h

theorem pLen_digs {n : Nat} {r : List UInt8} (h : isU n) (hl : n ≤ r.length) : pLen (digs n ++ r) = some (n, r) := by
  rw [pLen, digs_dec n n (Nat.le_refl _) 0 0 r (by omega) (by unfold isU at h; omega) (.inl rfl)]
  simp [hl]
theorem digs_pLen {bs : List UInt8} {n : Nat} {r : List UInt8} (h : pLen bs = some (n, r)) : bs = digs n ++ r := by
  rw [pLen] at h
  split at h
  · rename_i u r1 hp
    split at h
    · cases h
      obtain ⟨m, h1, h2, _⟩ := dec_digs bs 0 0 _ _ hp
      have : m = n := by omega
      subst this
      exact h1
    · cases h
  · cases h

/-! ### values -/
theorem V.enc_pos (v : V) : 0 < v.enc.length := by
  obtain ⟨k, n, s, l⟩ := v
  rw [V.enc]
  split
  · simp
  · split <;> simp
theorem V.encL_len : ∀ l : List V, l.length ≤ (V.encL l).length
  | [] => Nat.le_refl _
  | v :: l => by
    have := V.enc_pos v
    have := V.encL_len l
    rw [V.encL]; simp; omega

theorem size_arr (s : ByteArray) : (⟨s.data.toList.toArray⟩ : ByteArray) = s := by cases s; simp
mutual
/-- What was written is read. -/
theorem V.read : ∀ (v : V) (b : Nat) (r : List UInt8), v.ok = true → v.rng = true → v.dep ≤ b → v.enc.length ≤ 1000000000000 → pVal b (v.enc ++ r) = some (v, r)
  | .mk k n s l, b, r, hok, hr, hd, hl => by
    have hI := (V.rng_n hr).1
    rw [V.ok] at hok
    rw [V.enc] at hl ⊢
    by_cases h1 : k = 1
    · subst h1
      simp only [if_true, Bool.and_eq_true, decide_eq_true_eq] at hok hl ⊢
      obtain ⟨rfl, hl0⟩ := hok
      have := List.eq_nil_of_length_eq_zero hl0
      subst this
      rw [List.cons_append, pVal_1 b _ (by rfl), digs_dec _ _ (Nat.le_refl _) 0 0 r (by omega) (by have := zig_lt hI; unfold isU at this; omega) (.inl rfl)]
      simp [zag_zig]
    rw [if_neg h1] at hok hl ⊢
    by_cases h2 : k = 2
    · subst h2
      simp only [if_true, Bool.and_eq_true, decide_eq_true_eq] at hok hl ⊢
      obtain ⟨rfl, hl0⟩ := hok
      have := List.eq_nil_of_length_eq_zero hl0
      subst this
      have hs : s.data.toList.length = s.size := rfl
      simp only [List.length_cons, List.length_append] at hl
      rw [List.cons_append, pVal_2 b _ (by rfl), List.append_assoc, pLen_digs (by unfold isU; omega) (by simp [hs])]
      simp only [Option.map_some, Option.some.injEq, Prod.mk.injEq]
      rw [← hs, List.take_left, List.drop_left, size_arr]
      exact ⟨rfl, rfl⟩
    rw [if_neg h2] at hok hl ⊢
    by_cases h3 : k = 3
    · subst h3
      simp only [if_true, Bool.and_eq_true, decide_eq_true_eq] at hok
      obtain ⟨⟨rfl, rfl⟩, hokl⟩ := hok
      rw [V.dep, if_pos rfl] at hd
      obtain ⟨b', rfl⟩ : ∃ b', b = b' + 1 := ⟨b - 1, by omega⟩
      simp only [List.length_cons, List.length_append] at hl
      have hll := V.encL_len l
      rw [List.cons_append, pVal_3 b' _ (by rfl), List.append_assoc, pLen_digs (by unfold isU; omega) (by simp; omega)]
      simp only [Option.bind_some]
      rw [V.readL l b' r hokl (V.rng_n hr).2 (by omega) (by omega)]
      rfl
    · rw [if_neg h3] at hok
      cases hok
theorem V.readL : ∀ (l : List V) (b : Nat) (r : List UInt8), V.okL l = true → V.rngL l = true → V.depL l ≤ b → (V.encL l).length ≤ 1000000000000 → pMany (pVal b) l.length (V.encL l ++ r) = some (l, r)
  | [], b, r, _, _, _, _ => rfl
  | v :: l, b, r, hok, hr, hd, hl => by
    rw [V.okL, Bool.and_eq_true] at hok
    rw [V.rngL, Bool.and_eq_true] at hr
    rw [V.depL] at hd
    rw [V.encL, List.length_append] at hl
    rw [V.encL, List.length_cons, pMany, List.append_assoc, V.read v b _ hok.1 hr.1 (by omega) (by omega)]
    simp only
    rw [V.readL l b r hok.2 hr.2 (by omega) (by omega)]
end

/-- What was read is written so. -/
def Wr (b : Nat) (bs : List UInt8) (v : V) (r : List UInt8) : Prop := bs = v.enc ++ r ∧ v.ok = true ∧ v.dep ≤ b ∧ v.rng = true
theorem Wr.many {b : Nat} (h : ∀ bs v r, bs.length ≤ 1000000000000 → pVal b bs = some (v, r) → Wr b bs v r) : ∀ (n : Nat) (bs : List UInt8) (l : List V) (r : List UInt8), bs.length ≤ 1000000000000 → pMany (pVal b) n bs = some (l, r) →
    bs = V.encL l ++ r ∧ V.okL l = true ∧ V.depL l ≤ b ∧ V.rngL l = true ∧ l.length = n
  | 0, bs, l, r, _, hp => by rw [pMany] at hp; cases hp; simp [V.encL, V.okL, V.depL, V.rngL]
  | n + 1, bs, l, r, hb, hp => by
    rw [pMany] at hp
    split at hp
    · cases hp
    · rename_i v r1 h1
      split at hp
      · cases hp
      · rename_i l2 r2 h2
        cases hp
        obtain ⟨rfl, e2, e3, e4⟩ := h bs v r1 hb h1
        obtain ⟨rfl, f2, f3, f4, f5⟩ := Wr.many h n r1 l2 r (by simp at hb; omega) h2
        refine ⟨by simp [V.encL], by simp [V.okL, e2, f2], by rw [V.depL]; omega, by simp [V.rngL, e4, f4], by simp [f5]⟩
theorem UInt8.of_nat {c : UInt8} {n : Nat} (h : c.toNat = n) (hn : n < 256) : c = UInt8.ofNat n := by subst h; simp
theorem V.wrote : ∀ (b : Nat) (bs : List UInt8) (v : V) (r : List UInt8), bs.length ≤ 1000000000000 → pVal b bs = some (v, r) → Wr b bs v r
  | b, [], v, r, _, hp => by cases b <;> (rw [pVal] at hp; cases hp)
  | b, c :: bs, v, r, hb, hp => by
    have hb1 : bs.length ≤ 1000000000000 := by simp at hb; omega
    by_cases h1 : c.toNat = 1
    · rw [pVal_1 b bs h1] at hp
      cases hx : pNum 0 0 bs with
      | none => rw [hx] at hp; cases hp
      | some x =>
        obtain ⟨u, r1⟩ := x
        rw [hx] at hp
        cases hp
        have hu := pNum_u bs 0 0 hx (by omega) (by simp)
        obtain ⟨m, rfl, hm, _⟩ := dec_digs bs 0 0 _ _ hx
        have : m = u := by omega
        subst this
        have hz := zag_in hu
        unfold isI at hz
        refine ⟨?_, by simp [V.ok], by simp [V.dep], ?_⟩
        · rw [V.enc, if_pos rfl, zig_zag, UInt8.of_nat h1 (by omega)]; rfl
        · simp [V.rng, V.rngL, hz, show (⟨#[]⟩ : ByteArray).size = 0 from rfl]
    by_cases h2 : c.toNat = 2
    · rw [pVal_2 b bs h2] at hp
      cases hx : pLen bs with
      | none => rw [hx] at hp; cases hp
      | some x =>
        obtain ⟨n, r1⟩ := x
        rw [hx] at hp
        cases hp
        have hle := pLen_le hx
        have hd := digs_pLen hx
        have hs : (⟨(r1.take n).toArray⟩ : ByteArray).size = n := by show (r1.take n).toArray.size = n; simp; omega
        refine ⟨?_, by simp [V.ok], by simp [V.dep], ?_⟩
        · rw [V.enc, if_neg (by omega), if_pos rfl, hs, hd, UInt8.of_nat h2 (by omega)]
          simp
        · simp only [V.rng, V.rngL, hs, Bool.and_true, Bool.and_eq_true, decide_eq_true_eq]
          omega
    by_cases h3 : c.toNat = 3
    · cases b with
      | zero => rw [pVal_30 bs h3] at hp; cases hp
      | succ b =>
        rw [pVal_3 b bs h3] at hp
        cases hx : pLen bs with
        | none => rw [hx] at hp; cases hp
        | some x =>
          obtain ⟨n, r1⟩ := x
          rw [hx, Option.bind_some] at hp
          cases hy : pMany (pVal b) n r1 with
          | none => simp only [hy] at hp; cases hp
          | some y =>
            obtain ⟨l, r2⟩ := y
            simp only [hy] at hp
            cases hp
            have hle := pLen_le hx
            have hd := digs_pLen hx
            obtain ⟨rfl, f2, f3, f4, rfl⟩ := Wr.many (fun bs v r => V.wrote b bs v r) n r1 l r2 (by omega) hy
            refine ⟨?_, by simp [V.ok, f2], by rw [V.dep, if_pos rfl]; exact Nat.succ_le_succ f3, ?_⟩
            · rw [V.enc, if_neg (by omega), if_neg (by omega), hd, UInt8.of_nat h3 (by omega)]
              simp
            · simp only [V.rng, f4, Bool.and_true, Bool.and_eq_true, decide_eq_true_eq]
              refine ⟨⟨by omega, ?_⟩, by omega⟩
              show (#[] : Array UInt8).size ≤ _
              simp
    · rw [pVal_x b bs h1 h2 h3] at hp; cases hp

mutual
theorem V.same_iff : ∀ v w : V, V.same v w = true ↔ v = w
  | .mk k n s l, .mk k' n' s' l' => by
    rw [V.same]
    simp only [Bool.and_eq_true, decide_eq_true_eq, V.sameL_iff l l', V.mk.injEq]
    exact ⟨fun ⟨⟨⟨a, b⟩, c⟩, d⟩ => ⟨a, b, c, d⟩, fun ⟨a, b, c, d⟩ => ⟨⟨⟨a, b⟩, c⟩, d⟩⟩
theorem V.sameL_iff : ∀ l l' : List V, V.sameL l l' = true ↔ l = l'
  | [], [] => by simp [V.sameL]
  | v :: l, v' :: l' => by simp only [V.sameL, Bool.and_eq_true, V.same_iff v v', V.sameL_iff l l', List.cons.injEq]
  | [], _ :: _ => by simp [V.sameL]
  | _ :: _, [] => by simp [V.sameL]
end
end Go.Proofs.YtjjaabidbeoomaaDoor

set_option linter.unusedSimpArgs false
set_option linter.unusedVariables false
namespace Go.Proofs.YtjjaabidbeoomaaDoor
open Go.Xe Go.RowKit

end Go.Proofs.YtjjaabidbeoomaaDoor
