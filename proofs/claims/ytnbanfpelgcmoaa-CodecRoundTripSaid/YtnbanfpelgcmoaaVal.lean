/-
  The values that the codec writes, as data.
-/
import Derived.Test.YtnbanfpelgcmoaaCa
import Derived.Test.YtnbanfpelgcmoaaEngQ
set_option linter.unusedSimpArgs false
set_option linter.unusedVariables false
namespace Go.Proofs.Ytnbanfpelgcmoaa
open Go.Xe Go.RowKit

inductive V where
  | mk (k n : Int) (s : ByteArray) (l : List V)
  deriving Inhabited

mutual
def V.cells : V → List D
  | .mk k n s l => [.v (.int .i64 k), .v (.int .i64 n), .v (.string s), .sl 4 (V.cellsL l) l.length false]
def V.cellsL : List V → List D
  | [] => []
  | v :: l => V.cells v ++ V.cellsL l
end
def V.d (v : V) : D := .agg v.cells
@[simp] def slV (l : List V) : D := .sl 4 (V.cellsL l) l.length false
theorem V.cells_length : ∀ v : V, v.cells.length = 4
  | .mk .. => by simp [V.cells]
theorem V.cellsL_append : ∀ a b : List V, V.cellsL (a ++ b) = V.cellsL a ++ V.cellsL b
  | [], b => by simp [V.cellsL]
  | v :: a, b => by simp [V.cellsL, V.cellsL_append a b]
theorem V.cellsL_length : ∀ a : List V, (V.cellsL a).length = a.length * 4
  | [] => rfl
  | v :: a => by simp [V.cellsL, V.cells_length, V.cellsL_length a]; omega
theorem V.cellsL_drop (a b : List V) : (V.cellsL (a ++ b)).drop (a.length * 4) = V.cellsL b := by
  rw [V.cellsL_append, ← V.cellsL_length, List.drop_left]
theorem V.cells_at (a : List V) (v : V) (b : List V) : ((V.cellsL (a ++ v :: b)).drop (a.length * 4)).take 4 = v.cells := by
  rw [V.cellsL_drop, V.cellsL, ← V.cells_length v, List.take_left]

mutual
/-- Well-formed. -/
def V.ok : V → Bool
  | .mk k n s l => if k = 1 then decide (s = ⟨#[]⟩) && decide (l.length = 0) else if k = 2 then decide (n = 0) && decide (l.length = 0)
      else if k = 3 then decide (n = 0) && decide (s = ⟨#[]⟩) && V.okL l else false
def V.okL : List V → Bool
  | [] => true
  | v :: l => V.ok v && V.okL l
end
mutual
def V.dep : V → Nat
  | .mk k _ _ l => if k = 3 then V.depL l + 1 else 0
def V.depL : List V → Nat
  | [] => 0
  | v :: l => max (V.dep v) (V.depL l)
end
theorem V.okL_append : ∀ a b : List V, V.okL (a ++ b) = (V.okL a && V.okL b)
  | [], b => by simp [V.okL]
  | v :: a, b => by simp [V.okL, V.okL_append a b, Bool.and_assoc]
theorem V.depL_append : ∀ a b : List V, V.depL (a ++ b) = max (V.depL a) (V.depL b)
  | [], b => by simp [V.depL]
  | v :: a, b => by simp [V.depL, V.depL_append a b, Nat.max_assoc]

mutual
/-- The encoding. -/
def V.enc : V → List UInt8
  | .mk k n s l => if k = 1 then 1 :: digs (zig n) else if k = 2 then 2 :: (digs s.size ++ s.data.toList) else 3 :: (digs l.length ++ V.encL l)
def V.encL : List V → List UInt8
  | [] => []
  | v :: l => V.enc v ++ V.encL l
end
theorem V.encL_append : ∀ a b : List V, V.encL (a ++ b) = V.encL a ++ V.encL b
  | [], b => by simp [V.encL]
  | v :: a, b => by simp [V.encL, V.encL_append a b]
mutual
/-- Its numbers are numbers of the machine. -/
def V.rng : V → Bool
  | .mk k n s l => decide (-9223372036854775808 ≤ k ∧ k ≤ 9223372036854775807) && decide (s.size ≤ 140737488355328) && decide (-9223372036854775808 ≤ n ∧ n ≤ 9223372036854775807) && V.rngL l
def V.rngL : List V → Bool
  | [] => true
  | v :: l => V.rng v && V.rngL l
end
theorem V.rngL_append : ∀ a b : List V, V.rngL (a ++ b) = (V.rngL a && V.rngL b)
  | [], b => by simp [V.rngL]
  | v :: a, b => by simp [V.rngL, V.rngL_append a b, Bool.and_assoc]

mutual
def V.sz : V → Nat
  | .mk _ _ _ l => V.szL l + 1
def V.szL : List V → Nat
  | [] => 0
  | v :: l => V.sz v + V.szL l
end
theorem V.szL_append : ∀ a b : List V, V.szL (a ++ b) = V.szL a + V.szL b
  | [], b => by simp [V.szL]
  | v :: a, b => by simp [V.szL, V.szL_append a b, Nat.add_assoc]
theorem V.sz_lt {k n : Int} {s : ByteArray} {l1 l2 : List V} {v : V} {N : Nat} (h : (V.mk k n s (l1 ++ v :: l2)).sz ≤ N + 1) : v.sz ≤ N := by
  rw [V.sz, V.szL_append, V.szL] at h; omega

end Go.Proofs.Ytnbanfpelgcmoaa
