/-
  Joined texts.
-/
import Derived.Test.YtnljenjcaeophaaGreatDoorW5
import Derived.Test.YtnljenjcaeophaaGreatDoorW3
set_option linter.unusedVariables false
set_option linter.unusedSimpArgs false
set_option linter.unusedSectionVars false
namespace Go.Proofs.YtnljenjcaeophaaGreatDoor
open Go.Xe Go.RowKit
def pc (ch : List PanicEntry) : Prop := ch = [{ v := .iface 29 (.int .i64 20), recovered := false }]
attribute [simp] wO_ zR_
end Go.Proofs.YtnljenjcaeophaaGreatDoor
namespace Go.Proofs.YtnljenjcaeophaaGreatDoor
open Go.Xe Go.RowKit
def ti_ : Nat → Nat → List UInt8 → Option (Nat × List UInt8)
 | _, _, [] => none
 | i, u, c :: r => if (i = 0 ∨ c.toNat ≠ 0) ∧ (i < 9 ∨ c.toNat ≤ 1) then (if c.toNat < 128 then some (u + c.toNat % 128 * 128 ^ i, r) else ti_ (i + 1) (u + c.toNat % 128 * 128 ^ i) r) else none
@[local simp] theorem kw_ (c : UInt8) : aT_ c = .v (.int .u8 c.toNat) := rfl
end Go.Proofs.YtnljenjcaeophaaGreatDoor
namespace Go.Proofs.YtnljenjcaeophaaGreatDoor
open Go.Xe Go.RowKit
def vv_ (bs : List UInt8) : Option (Nat × List UInt8) :=
 match ti_ 0 0 bs with
 | some (u, r) => if u ≤ r.length then some (u, r) else none
 | none => none
end Go.Proofs.YtnljenjcaeophaaGreatDoor
namespace Go.Proofs.YtnljenjcaeophaaGreatDoor
open Go.Xe Go.RowKit
def ra_ (p : List UInt8 → Option (V × List UInt8)) : Nat → List UInt8 → Option (List V × List UInt8)
 | 0, r => some ([], r)
 | n + 1, r => match p r with
  | none => none
  | some (v, r') => match ra_ p n r' with
   | none => none
   | some (l, r'') => some (v :: l, r'')
def pVal : Nat → List UInt8 → Option (V × List UInt8)
 | _, [] => none
 | 0, c :: r => if c.toNat = 1 then (ti_ 0 0 r).map fun x => (.mk 1 (zag x.1) ⟨#[]⟩ [], x.2) else if c.toNat = 2 then (vv_ r).map fun x => (.mk 2 0 ⟨(x.2.take x.1).toArray⟩ [], x.2.drop x.1) else none
 | b + 1, c :: r => if c.toNat = 1 then (ti_ 0 0 r).map fun x => (.mk 1 (zag x.1) ⟨#[]⟩ [], x.2) else if c.toNat = 2 then (vv_ r).map fun x => (.mk 2 0 ⟨(x.2.take x.1).toArray⟩ [], x.2.drop x.1)
   else if c.toNat = 3 then (vv_ r).bind fun x => (ra_ (pVal b) x.1 x.2).map fun y => (.mk 3 0 ⟨#[]⟩ y.1, y.2) else none
theorem xb_ (b : Nat) {c : UInt8} (r : List UInt8) (h : c.toNat = 1) : pVal b (c :: r) = (ti_ 0 0 r).map fun x => (.mk 1 (zag x.1) ⟨#[]⟩ [], x.2) := by cases b <;> simp [pVal, h]
theorem xa_ (b : Nat) {c : UInt8} (r : List UInt8) (h : c.toNat = 2) : pVal b (c :: r) = (vv_ r).map fun x => (.mk 2 0 ⟨(x.2.take x.1).toArray⟩ [], x.2.drop x.1) := by cases b <;> simp [pVal, h]
theorem w9_ (b : Nat) {c : UInt8} (r : List UInt8) (h : c.toNat = 3) : pVal (b + 1) (c :: r) = (vv_ r).bind fun x => (ra_ (pVal b) x.1 x.2).map fun y => (.mk 3 0 ⟨#[]⟩ y.1, y.2) := by simp [pVal, h]
@[simp] theorem Bl_ (l : List UInt8) : List.map (unB ∘ AV.d) (bys l) = l := by
 induction l with
 | nil => rfl
 | cons c l ih => simp only [bys, List.map_cons] at ih ⊢; rw [ih]; simp [unB, fJ_]
@[simp] theorem wu_ (l : List UInt8) : (∀ a ∈ bys l, a = aT_ (unB (.d a))) ↔ True := by
 refine ⟨fun _ => trivial, fun _ a ha => ?_⟩
 obtain ⟨c, _, rfl⟩ := List.mem_map.1 ha
 rw [qt_]
def rk (o : Option (V × List UInt8)) (ch : List PanicEntry) : Prop := o = none ∧ pc ch
end Go.Proofs.YtnljenjcaeophaaGreatDoor
namespace Go.Proofs.YtnljenjcaeophaaGreatDoor
open Go.Xe Go.RowKit
@[simp] def c24 (c0 c1 c2 c3 : D) : Box := .cells 207 [.d c0, .d c1, .d c2, .d c3]
end Go.Proofs.YtnljenjcaeophaaGreatDoor
namespace Go.Proofs.YtnljenjcaeophaaGreatDoor
open Go.Xe Go.RowKit
/-! ### the reader of the reference -/
attribute [local simp] kw_
end Go.Proofs.YtnljenjcaeophaaGreatDoor
namespace Go.Proofs.YtnljenjcaeophaaGreatDoor
open Go.Xe Go.RowKit
attribute [local simp] kw_
/-! ### what is left is the end of what was there -/
def isEnd (r' r : List UInt8) : Prop := ∃ q, q ++ r' = r
theorem isEnd.refl (r : List UInt8) : isEnd r r := ⟨[], rfl⟩
theorem isEnd.trans {a b c : List UInt8} (h : isEnd a b) (h' : isEnd b c) : isEnd a c := by
 obtain ⟨q, rfl⟩ := h
 obtain ⟨q', rfl⟩ := h'
 exact ⟨q' ++ q, by simp⟩
theorem isEnd.cons {a b : List UInt8} (c : UInt8) (h : isEnd a b) : isEnd a (c :: b) := by
 obtain ⟨q, rfl⟩ := h
 exact ⟨c :: q, rfl⟩
theorem isEnd.drop (n : Nat) (r : List UInt8) : isEnd (r.drop n) r := ⟨r.take n, List.take_append_drop n r⟩
/-! ### the two readers -/
end Go.Proofs.YtnljenjcaeophaaGreatDoor
namespace Go.Proofs.YtnljenjcaeophaaGreatDoor
open Go.Xe Go.RowKit
attribute [local simp] kw_
theorem t8_ (l : List UInt8) : (∀ a ∈ bys l, a = .v (.int .u8 (unB (.d a)).toNat)) ↔ True := wu_ l
attribute [local simp] t8_
end Go.Proofs.YtnljenjcaeophaaGreatDoor
namespace Go.Proofs.YtnljenjcaeophaaGreatDoor
open Go.Xe Go.RowKit
/-! ### numerals -/
theorem p9 : (128 : Nat) ^ 9 = 9223372036854775808 := by decide
theorem oW_ : ∀ (N m : Nat), m ≤ N → ∀ (i u : Nat) (r : List UInt8), i ≤ 9 → u + m * 128 ^ i < 18446744073709551616 → (i = 0 ∨ 0 < m) → ti_ i u (bR_ m ++ r) = some (u + m * 128 ^ i, r) := by
 intro N
 induction N with
 | zero =>
  intro m hm i u r hi hb h0
  have : m = 0 := by omega
  subst this
  rw [bR_, if_pos (by omega), List.singleton_append, ti_]
  have : i = 0 := by omega
  subst this
  simp
 | succ N ih =>
  intro m hm i u r hi hb h0
  rw [bR_]
  split
  ·rename_i hlt
   have e : (UInt8.ofNat m).toNat = m := by simp; omega
   have h9 : i < 9 ∨ m ≤ 1 := by
    rcases Nat.lt_or_ge i 9 with h | h
    ·exact .inl h
    ·have : i = 9 := by omega
     subst this
     rw [p9] at hb
     exact .inr (by omega)
   rw [List.singleton_append, ti_, e, if_pos ⟨by omega, h9⟩, if_pos hlt, Nat.mod_eq_of_lt hlt]
  ·rename_i hge
   have e : (UInt8.ofNat (m % 128 + 128)).toNat = m % 128 + 128 := by simp; omega
   have h9 : i < 9 := by
    rcases Nat.lt_or_ge i 9 with h | h
    ·exact h
    ·have : i = 9 := by omega
     subst this
     rw [p9] at hb
     omega
   have hs : u + m % 128 * 128 ^ i + m / 128 * 128 ^ (i + 1) = u + m * 128 ^ i := by
    have : m * 128 ^ i = (128 * (m / 128) + m % 128) * 128 ^ i := by rw [Nat.div_add_mod]
    rw [this, Nat.pow_succ, Nat.add_mul]
    have : m / 128 * (128 ^ i * 128) = 128 * (m / 128) * 128 ^ i := by rw [Nat.mul_comm (128 ^ i) 128, ← Nat.mul_assoc, Nat.mul_comm (m / 128) 128]
    omega
   have hc : (m % 128 + 128) % 128 = m % 128 := by omega
   rw [List.cons_append, ti_, e, if_pos ⟨by omega, .inl h9⟩, if_neg (by omega), hc, ih (m / 128) (by omega) (i + 1) _ r (by omega) (by rw [hs]; exact hb) (by omega), hs]
theorem lq_ {n : Nat} {r : List UInt8} (h : isU n) (hl : n ≤ r.length) : vv_ (bR_ n ++ r) = some (n, r) := by
 rw [vv_, oW_ n n (Nat.le_refl _) 0 0 r (by omega) (by unfold isU at h; omega) (.inl rfl)]
 simp [hl]
/-! ### values -/
theorem sG_ (v : V) : 0 < v.enc.length := by
 obtain ⟨k, n, s, l⟩ := v
 rw [V.enc]
 split
 ·simp
 ·split <;> simp
theorem jv_ : ∀ l : List V, l.length ≤ (ax_ l).length
 | [] => Nat.le_refl _
 | v :: l => by
  have := sG_ v
  have := jv_ l
  rw [ax_]; simp; omega
theorem s6_ (s : ByteArray) : (⟨s.data.toList.toArray⟩ : ByteArray) = s := by cases s; simp
mutual
theorem sE_ : ∀ (v : V) (b : Nat) (r : List UInt8), v.ok = true → v.rng = true → v.dep ≤ b → v.enc.length ≤ 1000000000000 → pVal b (v.enc ++ r) = some (v, r)
 | .mk k n s l, b, r, hok, hr, hd, hl => by
  have hI := (dJ_ hr).1
  rw [V.ok] at hok
  rw [V.enc] at hl ⊢
  by_cases h1 : k = 1
  ·subst h1
   simp only [if_true, Bool.and_eq_true, decide_eq_true_eq] at hok hl ⊢
   obtain ⟨rfl, hl0⟩ := hok
   have := List.eq_nil_of_length_eq_zero hl0
   subst this
   rw [List.cons_append, xb_ b _ (by rfl), oW_ _ _ (Nat.le_refl _) 0 0 r (by omega) (by have := kL_ hI; unfold isU at this; omega) (.inl rfl)]
   simp [u0_]
  rw [if_neg h1] at hok hl ⊢
  by_cases h2 : k = 2
  ·subst h2
   simp only [if_true, Bool.and_eq_true, decide_eq_true_eq] at hok hl ⊢
   obtain ⟨rfl, hl0⟩ := hok
   have := List.eq_nil_of_length_eq_zero hl0
   subst this
   have hs : s.data.toList.length = s.size := rfl
   simp only [List.length_cons, List.length_append] at hl
   rw [List.cons_append, xa_ b _ (by rfl), List.append_assoc, lq_ (by unfold isU; omega) (by simp [hs])]
   simp only [Option.map_some, Option.some.injEq, Prod.mk.injEq]
   rw [← hs, List.take_left, List.drop_left, s6_]
   exact ⟨rfl, rfl⟩
  rw [if_neg h2] at hok hl ⊢
  by_cases h3 : k = 3
  ·subst h3
   simp only [if_true, Bool.and_eq_true, decide_eq_true_eq] at hok
   obtain ⟨⟨rfl, rfl⟩, hokl⟩ := hok
   rw [V.dep, if_pos rfl] at hd
   obtain ⟨b', rfl⟩ : ∃ b', b = b' + 1 := ⟨b - 1, by omega⟩
   simp only [List.length_cons, List.length_append] at hl
   have hll := jv_ l
   rw [List.cons_append, w9_ b' _ (by rfl), List.append_assoc, lq_ (by unfold isU; omega) (by simp; omega)]
   simp only [Option.bind_some]
   rw [sD_ l b' r hokl (dJ_ hr).2 (by omega) (by omega)]
   rfl
  ·rw [if_neg h3] at hok
   cases hok
theorem sD_ : ∀ (l : List V) (b : Nat) (r : List UInt8), ct_ l = true → bB_ l = true → aU_ l ≤ b → (ax_ l).length ≤ 1000000000000 → ra_ (pVal b) l.length (ax_ l ++ r) = some (l, r)
 | [], b, r, _, _, _, _ => rfl
 | v :: l, b, r, hok, hr, hd, hl => by
  rw [ct_, Bool.and_eq_true] at hok
  rw [bB_, Bool.and_eq_true] at hr
  rw [aU_] at hd
  rw [ax_, List.length_append] at hl
  rw [ax_, List.length_cons, ra_, List.append_assoc, sE_ v b _ hok.1 hr.1 (by omega) (by omega)]
  simp only
  rw [sD_ l b r hok.2 hr.2 (by omega) (by omega)]
end
end Go.Proofs.YtnljenjcaeophaaGreatDoor
namespace Go.Proofs.YtnljenjcaeophaaGreatDoor
open Go.Xe Go.RowKit
end Go.Proofs.YtnljenjcaeophaaGreatDoor
