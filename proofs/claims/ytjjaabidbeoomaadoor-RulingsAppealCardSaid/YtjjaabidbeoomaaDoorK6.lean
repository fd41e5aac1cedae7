/-
  Joined texts.
-/
import Derived.Test.YtjjaabidbeoomaaDoorK5
import Derived.Test.YtjjaabidbeoomaaDoorK3
set_option linter.unusedSectionVars false
set_option linter.unusedSimpArgs false
set_option linter.unusedVariables false
namespace Go.Proofs.YtjjaabidbeoomaaDoor
open Go.Xe Go.RowKit

/-- The one panic of the reader. -/
def pc (ch : List PanicEntry) : Prop := ch = [{ v := .iface 50 (.int .i64 20), recovered := false }]
attribute [simp] botB botD

end Go.Proofs.YtjjaabidbeoomaaDoor

set_option linter.unusedSimpArgs false
set_option linter.unusedVariables false
namespace Go.Proofs.YtjjaabidbeoomaaDoor
open Go.Xe Go.RowKit

/-- A numeral is read: from digit i on, u so far. -/
def pNum : Nat → Nat → List UInt8 → Option (Nat × List UInt8)
  | _, _, [] => none
  | i, u, c :: r => if (i = 0 ∨ c.toNat ≠ 0) ∧ (i < 9 ∨ c.toNat ≤ 1) then (if c.toNat < 128 then some (u + c.toNat % 128 * 128 ^ i, r) else pNum (i + 1) (u + c.toNat % 128 * 128 ^ i) r) else none

set_option maxRecDepth 100000 in
theorem and127 (c : UInt8) : bits .and .u8 (c.toNat : Int) 127 = ((c.toNat % 128 : Nat) : Int) := by
  have : ∀ c : Fin 256, bits .and .u8 ((c.val : Nat) : Int) 127 = ((c.val % 128 : Nat) : Int) := by decide
  exact this ⟨c.toNat, c.toNat_lt⟩

theorem p7 (i : Nat) : 128 ^ i = 2 ^ (7 * i) := by rw [Nat.pow_mul]

theorem num_step {i u : Nat} {c : UInt8} (hi : i ≤ 9) (hu : u < 128 ^ i) (hc : i < 9 ∨ c.toNat ≤ 1) :
    bits .or .u64 (u : Int) (IntKind.u64.wrap (IntKind.u64.wrap ((c.toNat % 128 : Nat) : Int) * 2 ^ shN .u64 (7 * (i : Int)))) = ((u + c.toNat % 128 * 128 ^ i : Nat) : Int) ∧ u + c.toNat % 128 * 128 ^ i < 18446744073709551616 := by
  have hm : c.toNat % 128 < 128 := Nat.mod_lt _ (by omega)
  have hs : shN .u64 (7 * (i : Int)) = 7 * i := by
    show min (7 * (i : Int)).toNat 64 = 7 * i
    omega
  have hlt : c.toNat % 128 * 128 ^ i + u < 18446744073709551616 := by
    rcases hc with h | h
    · have h1 : 128 ^ i ≤ 128 ^ 8 := Nat.pow_le_pow_right (by omega) (by omega)
      have h2 : c.toNat % 128 * 128 ^ i ≤ 127 * 128 ^ 8 := Nat.mul_le_mul (by omega) h1
      have h3 : (128 : Nat) ^ 8 = 72057594037927936 := by decide
      omega
    · have h1 : 128 ^ i ≤ 128 ^ 9 := Nat.pow_le_pow_right (by omega) hi
      have h2 : c.toNat % 128 * 128 ^ i ≤ 1 * 128 ^ 9 := Nat.mul_le_mul (by omega) h1
      have h3 : (128 : Nat) ^ 9 = 9223372036854775808 := by decide
      omega
  have hw : IntKind.u64.wrap ((c.toNat % 128 : Nat) : Int) = ((c.toNat % 128 : Nat) : Int) := IntWalk.u64_in _ (by omega)
  have hw2 : IntKind.u64.wrap (((c.toNat % 128 : Nat) : Int) * 2 ^ (7 * i)) = ((c.toNat % 128 * 128 ^ i : Nat) : Int) := by
    have e : (((c.toNat % 128 : Nat) : Int) * 2 ^ (7 * i)) = ((c.toNat % 128 * 128 ^ i : Nat) : Int) := by rw [p7]; push_cast; rfl
    rw [e]
    exact IntWalk.u64_in _ (by omega)
  refine ⟨?_, by omega⟩
  rw [hs, hw, hw2, bits_or_u64_nat _ _ (by omega) (by omega)]
  have h := Nat.shiftLeft_add_eq_or_of_lt (b := u) (i := 7 * i) (by rw [← p7]; exact hu) (c.toNat % 128)
  rw [Nat.shiftLeft_eq, ← p7] at h
  rw [Nat.or_comm, ← h, Nat.add_comm]

theorem pNum_len : ∀ (r : List UInt8) (i u : Nat) {x : Nat} {r' : List UInt8}, pNum i u r = some (x, r') → r'.length < r.length
  | [], _, _, _, _, h => by rw [pNum] at h; cases h
  | c :: r, i, u, x, r', h => by
    rw [pNum] at h
    split at h
    · split at h
      · cases h; simp
      · have := pNum_len r _ _ h; simp; omega
    · cases h

@[local simp] theorem byteD_eq (c : UInt8) : byteD c = .v (.int .u8 c.toNat) := rfl

end Go.Proofs.YtjjaabidbeoomaaDoor

set_option linter.unusedSimpArgs false
set_option linter.unusedVariables false
namespace Go.Proofs.YtjjaabidbeoomaaDoor
open Go.Xe Go.RowKit

def pLen (bs : List UInt8) : Option (Nat × List UInt8) :=
  match pNum 0 0 bs with
  | some (u, r) => if u ≤ r.length then some (u, r) else none
  | none => none

end Go.Proofs.YtjjaabidbeoomaaDoor

set_option linter.unusedSimpArgs false
set_option linter.unusedVariables false
namespace Go.Proofs.YtjjaabidbeoomaaDoor
open Go.Xe Go.RowKit

/-- So many values, one after the other. -/
def pMany (p : List UInt8 → Option (V × List UInt8)) : Nat → List UInt8 → Option (List V × List UInt8)
  | 0, r => some ([], r)
  | n + 1, r => match p r with
    | none => none
    | some (v, r') => match pMany p n r' with
      | none => none
      | some (l, r'') => some (v :: l, r'')
/-- A value is read; lists may be nested b deep. -/
def pVal : Nat → List UInt8 → Option (V × List UInt8)
  | _, [] => none
  | 0, c :: r => if c.toNat = 1 then (pNum 0 0 r).map fun x => (.mk 1 (zag x.1) ⟨#[]⟩ [], x.2) else if c.toNat = 2 then (pLen r).map fun x => (.mk 2 0 ⟨(x.2.take x.1).toArray⟩ [], x.2.drop x.1) else none
  | b + 1, c :: r => if c.toNat = 1 then (pNum 0 0 r).map fun x => (.mk 1 (zag x.1) ⟨#[]⟩ [], x.2) else if c.toNat = 2 then (pLen r).map fun x => (.mk 2 0 ⟨(x.2.take x.1).toArray⟩ [], x.2.drop x.1)
      else if c.toNat = 3 then (pLen r).bind fun x => (pMany (pVal b) x.1 x.2).map fun y => (.mk 3 0 ⟨#[]⟩ y.1, y.2) else none
theorem pVal_1 (b : Nat) {c : UInt8} (r : List UInt8) (h : c.toNat = 1) : pVal b (c :: r) = (pNum 0 0 r).map fun x => (.mk 1 (zag x.1) ⟨#[]⟩ [], x.2) := by cases b <;> simp [pVal, h]
theorem pVal_2 (b : Nat) {c : UInt8} (r : List UInt8) (h : c.toNat = 2) : pVal b (c :: r) = (pLen r).map fun x => (.mk 2 0 ⟨(x.2.take x.1).toArray⟩ [], x.2.drop x.1) := by cases b <;> simp [pVal, h]
theorem pVal_30 {c : UInt8} (r : List UInt8) (h : c.toNat = 3) : pVal 0 (c :: r) = none := by simp [pVal, h]
theorem pVal_3 (b : Nat) {c : UInt8} (r : List UInt8) (h : c.toNat = 3) : pVal (b + 1) (c :: r) = (pLen r).bind fun x => (pMany (pVal b) x.1 x.2).map fun y => (.mk 3 0 ⟨#[]⟩ y.1, y.2) := by simp [pVal, h]
theorem pVal_x (b : Nat) {c : UInt8} (r : List UInt8) (h1 : c.toNat ≠ 1) (h2 : c.toNat ≠ 2) (h3 : c.toNat ≠ 3) : pVal b (c :: r) = none := by cases b <;> simp [pVal, h1, h2, h3]

theorem pLen_le {bs : List UInt8} {n : Nat} {r : List UInt8} (h : pLen bs = some (n, r)) : n ≤ r.length ∧ r.length < bs.length := by
  rw [pLen] at h
  split at h
  · rename_i hp
    split at h
    · rename_i hle
      cases h
      exact ⟨hle, pNum_len _ _ _ hp⟩
    · cases h
  · cases h
theorem pMany_le {p : List UInt8 → Option (V × List UInt8)} (hp : ∀ r v r', p r = some (v, r') → r'.length < r.length) : ∀ (n : Nat) (r : List UInt8) {l : List V} {r' : List UInt8}, pMany p n r = some (l, r') → r'.length + n ≤ r.length ∧ l.length = n
  | 0, r, l, r', h => by rw [pMany] at h; cases h; exact ⟨Nat.le_refl _, rfl⟩
  | n + 1, r, l, r', h => by
    rw [pMany] at h
    split at h
    · cases h
    · rename_i v r1 h1
      split at h
      · cases h
      · rename_i l2 r2 h2
        cases h
        have := hp _ _ _ h1
        have := pMany_le hp n r1 h2
        exact ⟨by omega, by simp [this.2]⟩
theorem pVal_le : ∀ (b : Nat) (bs : List UInt8) (v : V) (r : List UInt8), pVal b bs = some (v, r) → r.length < bs.length
  | b, [], v, r, h => by cases b <;> (rw [pVal] at h; cases h)
  | b, c :: s, v, r, h => by
    by_cases h1 : c.toNat = 1
    · rw [pVal_1 b s h1] at h
      cases hx : pNum 0 0 s with
      | none => rw [hx] at h; cases h
      | some x => rw [hx] at h; cases h; have := pNum_len _ _ _ hx; simp; omega
    by_cases h2 : c.toNat = 2
    · rw [pVal_2 b s h2] at h
      cases hx : pLen s with
      | none => rw [hx] at h; cases h
      | some x => rw [hx] at h; cases h; have := pLen_le hx; simp; omega
    by_cases h3 : c.toNat = 3
    · cases b with
      | zero => rw [pVal_30 s h3] at h; cases h
      | succ b =>
        rw [pVal_3 b s h3] at h
        cases hx : pLen s with
        | none => rw [hx] at h; cases h
        | some x =>
          rw [hx, Option.bind_some] at h
          cases hy : pMany (pVal b) x.1 x.2 with
          | none => rw [hy] at h; cases h
          | some y =>
            rw [hy] at h
            cases h
            have := pLen_le hx
            have := (pMany_le (pVal_le b) _ _ hy).1
            simp; omega
    · rw [pVal_x b s h1 h2 h3] at h; cases h

theorem pNum_u : ∀ (r : List UInt8) (i u : Nat) {x : Nat} {r' : List UInt8}, pNum i u r = some (x, r') → i ≤ 9 → u < 128 ^ i → isU x
  | [], _, _, _, _, h, _, _ => by rw [pNum] at h; cases h
  | c :: r, i, u, x, r', h, hi, hu => by
    rw [pNum] at h
    split at h
    · rename_i hc
      obtain ⟨_, hbd⟩ := num_step hi hu hc.2
      split at h
      · cases h; exact hbd
      · have h1 : c.toNat % 128 * 128 ^ i ≤ 127 * 128 ^ i := Nat.mul_le_mul_right _ (by omega)
        exact pNum_u r _ _ h (by omega) (by rw [Nat.pow_succ]; omega)
    · cases h

@[simp] theorem bys_unB (l : List UInt8) : List.map (unB ∘ AV.d) (bys l) = l := by
  induction l with
  | nil => rfl
  | cons c l ih => simp only [bys, List.map_cons] at ih ⊢; rw [ih]; simp [unB, unBD_byteD]
@[simp] theorem all_bys (l : List UInt8) : (∀ a ∈ bys l, a = byteD (unB (.d a))) ↔ True := by
  refine ⟨fun _ => trivial, fun _ a ha => ?_⟩
  obtain ⟨c, _, rfl⟩ := List.mem_map.1 ha
  rw [unB_byteD]

/-- What the reader hands back, and what it leaves. -/
def rv : Option (V × List UInt8) → D
  | some x => x.1.d
  | none => (V.mk 0 0 ⟨#[]⟩ []).d
def rk (o : Option (V × List UInt8)) (ch : List PanicEntry) : Prop := o = none ∧ pc ch

end Go.Proofs.YtjjaabidbeoomaaDoor

set_option linter.unusedSimpArgs false
set_option linter.unusedVariables false
namespace Go.Proofs.YtjjaabidbeoomaaDoor
open Go.Xe Go.RowKit

theorem Tryd.und20 : Tryd.prog.underlying 20 = some (.interface (Tryd.prog.methodsAt 20)) := by kernel_rfl

def pe (b : Bool) : PanicEntry := { v := .iface 50 (.int .i64 20), recovered := b }
def box31 : Bxs := [(1000, .cells 113 [.d (.v (.int .i64 0)), .d (.v (.int .i64 0)), .d (.v (.string ⟨#[]⟩)), .d (.v (.slice none 0 0))]), (1001, .cells 50 [.d (.v (.int .i64 20))])]
@[simp] def c24 (c0 c1 c2 c3 : D) : Box := .cells 113 [.d c0, .d c1, .d c2, .d c3]
/-- What Decode says. -/
def pDec (bs : List UInt8) : V × Int :=
  match pVal 16 bs with
  | some (v, []) => (v, 0)
  | _ => (.mk 0 0 ⟨#[]⟩ [], 20)
def decD (bs : List UInt8) : D := .tup [(pDec bs).1.d, .v (.int .i64 (pDec bs).2)]
def s18b (bs : List UInt8) : St := mkS 20 [(0, .d (slB bs)), (2, .ptr 1000 0), (3, .ptr 1001 0)] [(1000, .cells 113 [.d (.v (.int .i64 0)), .d (.v (.int .i64 0)), .d (.v (.string ⟨#[]⟩)), .d (.v (.slice none 0 0))]), (1001, .cells 50 [.d (.v (.int .i64 0))])]
def s18a (bs : List UInt8) : St := mkS 20 [(0, .d (slB bs)), (2, .ptr 2 0), (3, .ptr 3 0)] [(2, .cells 113 [.d (.v (.int .i64 0)), .d (.v (.int .i64 0)), .d (.v (.string ⟨#[]⟩)), .d (.v (.slice none 0 0))]), (3, .cells 50 [.d (.v (.int .i64 0))])]

end Go.Proofs.YtjjaabidbeoomaaDoor
