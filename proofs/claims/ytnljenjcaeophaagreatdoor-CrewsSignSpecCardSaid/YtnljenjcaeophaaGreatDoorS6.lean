/-
  Joined texts.
-/
import Derived.Test.YtnljenjcaeophaaGreatDoorS5
import Derived.Test.YtnljenjcaeophaaGreatDoorS3
set_option linter.unusedVariables false
set_option linter.unusedSimpArgs false
set_option linter.unusedSectionVars false
namespace Go.Proofs.YtnljenjcaeophaaGreatDoor
open Go.Xe Go.RowKit
def pc (ch : List PanicEntry) : Prop := ch = [{ v := .iface 29 (.int .i64 20), recovered := false }]
attribute [simp] botB botD
end Go.Proofs.YtnljenjcaeophaaGreatDoor
namespace Go.Proofs.YtnljenjcaeophaaGreatDoor
open Go.Xe Go.RowKit
def pNum : Nat → Nat → List UInt8 → Option (Nat × List UInt8)
 | _, _, [] => none
 | i, u, c :: r => if (i = 0 ∨ c.toNat ≠ 0) ∧ (i < 9 ∨ c.toNat ≤ 1) then (if c.toNat < 128 then some (u + c.toNat % 128 * 128 ^ i, r) else pNum (i + 1) (u + c.toNat % 128 * 128 ^ i) r) else none
@[local simp] theorem byteD_eq (c : UInt8) : byteD c = .v (.int .u8 c.toNat) := rfl
end Go.Proofs.YtnljenjcaeophaaGreatDoor
namespace Go.Proofs.YtnljenjcaeophaaGreatDoor
open Go.Xe Go.RowKit
def pLen (bs : List UInt8) : Option (Nat × List UInt8) :=
 match pNum 0 0 bs with
 | some (u, r) => if u ≤ r.length then some (u, r) else none
 | none => none
end Go.Proofs.YtnljenjcaeophaaGreatDoor
namespace Go.Proofs.YtnljenjcaeophaaGreatDoor
open Go.Xe Go.RowKit
def pMany (p : List UInt8 → Option (V × List UInt8)) : Nat → List UInt8 → Option (List V × List UInt8)
 | 0, r => some ([], r)
 | n + 1, r => match p r with
  | none => none
  | some (v, r') => match pMany p n r' with
   | none => none
   | some (l, r'') => some (v :: l, r'')
def pVal : Nat → List UInt8 → Option (V × List UInt8)
 | _, [] => none
 | 0, c :: r => if c.toNat = 1 then (pNum 0 0 r).map fun x => (.mk 1 (zag x.1) ⟨#[]⟩ [], x.2) else if c.toNat = 2 then (pLen r).map fun x => (.mk 2 0 ⟨(x.2.take x.1).toArray⟩ [], x.2.drop x.1) else none
 | b + 1, c :: r => if c.toNat = 1 then (pNum 0 0 r).map fun x => (.mk 1 (zag x.1) ⟨#[]⟩ [], x.2) else if c.toNat = 2 then (pLen r).map fun x => (.mk 2 0 ⟨(x.2.take x.1).toArray⟩ [], x.2.drop x.1)
   else if c.toNat = 3 then (pLen r).bind fun x => (pMany (pVal b) x.1 x.2).map fun y => (.mk 3 0 ⟨#[]⟩ y.1, y.2) else none
theorem pVal_1 (b : Nat) {c : UInt8} (r : List UInt8) (h : c.toNat = 1) : pVal b (c :: r) = (pNum 0 0 r).map fun x => (.mk 1 (zag x.1) ⟨#[]⟩ [], x.2) := by cases b <;> simp [pVal, h]
theorem pVal_2 (b : Nat) {c : UInt8} (r : List UInt8) (h : c.toNat = 2) : pVal b (c :: r) = (pLen r).map fun x => (.mk 2 0 ⟨(x.2.take x.1).toArray⟩ [], x.2.drop x.1) := by cases b <;> simp [pVal, h]
theorem pVal_3 (b : Nat) {c : UInt8} (r : List UInt8) (h : c.toNat = 3) : pVal (b + 1) (c :: r) = (pLen r).bind fun x => (pMany (pVal b) x.1 x.2).map fun y => (.mk 3 0 ⟨#[]⟩ y.1, y.2) := by simp [pVal, h]
@[simp] theorem bys_unB (l : List UInt8) : List.map (unB ∘ AV.d) (bys l) = l := by
 induction l with
 | nil => rfl
 | cons c l ih => simp only [bys, List.map_cons] at ih ⊢; rw [ih]; simp [unB, unBD_byteD]
@[simp] theorem all_bys (l : List UInt8) : (∀ a ∈ bys l, a = byteD (unB (.d a))) ↔ True := by
 refine ⟨fun _ => trivial, fun _ a ha => ?_⟩
 obtain ⟨c, _, rfl⟩ := List.mem_map.1 ha
 rw [unB_byteD]
def rk (o : Option (V × List UInt8)) (ch : List PanicEntry) : Prop := o = none ∧ pc ch
end Go.Proofs.YtnljenjcaeophaaGreatDoor
namespace Go.Proofs.YtnljenjcaeophaaGreatDoor
open Go.Xe Go.RowKit
@[simp] def c24 (c0 c1 c2 c3 : D) : Box := .cells 207 [.d c0, .d c1, .d c2, .d c3]
end Go.Proofs.YtnljenjcaeophaaGreatDoor
