/-
  Joined texts.
-/
import Derived.Test.YtnljenjcaeophaaGreatDoorSU
import Derived.Test.YtnljenjcaeophaaGreatDoorST
import Derived.Test.YtnljenjcaeophaaGreatDoorSAB
import Derived.Test.YtnljenjcaeophaaGreatDoorSH
set_option linter.unusedVariables false
set_option linter.unusedSimpArgs false
set_option linter.unusedSectionVars false
namespace Go.Proofs.YtnljenjcaeophaaGreatDoor
open Go.Xe Go.RowKit
theorem ror_ok (x : W) (n : Nat) (h : n = 16 ∨ n = 12 ∨ n = 8 ∨ n = 7) : Fn0 Tryz.prog 281 [.v (.int .u32 (wI x)), .v (.int .i64 n)] (.v (.int .u32 (wI (rr n x)))) := by
 have e2 : IntKind.i64.wrap (32 - (n : Int)) = ((32 - n : Nat) : Int) := by rcases h with rfl | rfl | rfl | rfl <;> decide
 have e3 : shN .u32 ((32 - n : Nat) : Int) = 32 - n := by rcases h with rfl | rfl | rfl | rfl <;> decide
 have e4 : shN .u32 (n : Int) = n := by rcases h with rfl | rfl | rfl | rfl <;> decide
 have e5 := w_shl x (32 - n)
 have e6 := w_shr x n
 have e7 : (x >>> n) ||| (x <<< (32 - n)) = rr n x := by rw [rr, BitVec.or_comm]
 have hn : n ≤ 32 := by omega
 refine Fun.of_wp (pn := noPn) Tryz.tab Tryz.func281 rfl fun β0 => ?_
 simp only [Tryz.f281]
 repeat(first|apply wG|(apply wR;simp -dsimp [e2, e3, e4, e5, e6, w_or])|refine aI ?_)
 refine WP.ret (finQ.retE ?_)
 simp -dsimp [e7]
def m4 (a b c d x y : W) : W × W × W × W :=
 ((a + b + x) + rr 12 (b ^^^ (c + rr 16 (d ^^^ (a + b + x)))) + y,
  rr 7 (rr 12 (b ^^^ (c + rr 16 (d ^^^ (a + b + x)))) ^^^ ((c + rr 16 (d ^^^ (a + b + x))) + rr 8 (rr 16 (d ^^^ (a + b + x)) ^^^ ((a + b + x) + rr 12 (b ^^^ (c + rr 16 (d ^^^ (a + b + x)))) + y)))),
  (c + rr 16 (d ^^^ (a + b + x))) + rr 8 (rr 16 (d ^^^ (a + b + x)) ^^^ ((a + b + x) + rr 12 (b ^^^ (c + rr 16 (d ^^^ (a + b + x)))) + y)),
  rr 8 (rr 16 (d ^^^ (a + b + x)) ^^^ ((a + b + x) + rr 12 (b ^^^ (c + rr 16 (d ^^^ (a + b + x)))) + y)))
def wD (x : W) : D := .v (.int .u32 (wI x))
set_option maxRecDepth 10000 in
set_option maxHeartbeats 4000000 in
theorem refMix_ok (a b c d x y : W) : Fn0 Tryz.prog 265 [wD a, wD b, wD c, wD d, wD x, wD y] (.tup [wD (m4 a b c d x y).1, wD (m4 a b c d x y).2.1, wD (m4 a b c d x y).2.2.1, wD (m4 a b c d x y).2.2.2]) := by
 simp only [m4, wD]
 refine Fun.of_wp (pn := noPn) Tryz.tab Tryz.func265 rfl fun β0 => ?_
 simp only [Tryz.f265]
 repeat(first|apply wG|(apply wR;simp -dsimp [w_add, w_xor])|refine aI ?_)
 refine vcStop.call0 Tryz.body281 (ror_ok (d ^^^ (a + b + x)) 16 (by omega)) rfl rfl (by simp) ?_
 simp -dsimp
 generalize rr 16 (d ^^^ (a + b + x)) = d1
 generalize a + b + x = a1
 repeat(first|apply wG|(apply wR;simp -dsimp [w_add, w_xor])|refine aI ?_)
 refine vcStop.call0 Tryz.body281 (ror_ok (b ^^^ (c + d1)) 12 (by omega)) rfl rfl (by simp) ?_
 simp -dsimp
 generalize rr 12 (b ^^^ (c + d1)) = b1
 generalize c + d1 = c1
 repeat(first|apply wG|(apply wR;simp -dsimp [w_add, w_xor])|refine aI ?_)
 refine vcStop.call0 Tryz.body281 (ror_ok (d1 ^^^ (a1 + b1 + y)) 8 (by omega)) rfl rfl (by simp) ?_
 simp -dsimp
 generalize rr 8 (d1 ^^^ (a1 + b1 + y)) = d2
 generalize a1 + b1 + y = a2
 repeat(first|apply wG|(apply wR;simp -dsimp [w_add, w_xor])|refine aI ?_)
 refine vcStop.call0 Tryz.body281 (ror_ok (b1 ^^^ (c1 + d2)) 7 (by omega)) rfl rfl (by simp) ?_
 simp -dsimp
 repeat(first|apply wG|(apply wR;simp -dsimp)|refine aI ?_)
 refine WP.ret (finQ.retE ?_)
 simp -dsimp
theorem refInitial_ok : Fn0 Tryz.prog 221 [] (.agg (u32L iniV)) := by
 refine Fun.of_wp (pn := noPn) Tryz.tab Tryz.func221 rfl fun β0 => ?_
 simp only [Tryz.f221]
 repeat(first|apply wG|(apply wR;simp -dsimp)|refine aI ?_)
 refine WP.ret (finQ.retE ?_)
 simp -dsimp
 exact Leq.aggD (u32L iniV)
abbrev hfS (n k : Nat) : St := mkS 11 [(0, .d (.v (.int .i64 n))), (3, .d (.v (.int .i64 k)))] []
theorem refHalf_ok (n : Nat) (h1 : 1 ≤ n) (hn : n ≤ 65536) : Fn0 Tryz.prog 184 [.v (.int .i64 n)] (.v (.int .i64 (halfN n))) := by
 refine Fun.of_wp (pn := noPn) Tryz.tab Tryz.func184 rfl fun β0 => ?_
 simp only [Tryz.f184]
 repeat(first|apply wG|(apply wR;simp -dsimp)|refine aI ?_)
 refine WP.loopWk (fun m S => ∃ j : Nat, (2 ^ j < n ∨ j = 0) ∧ m = n - 2 ^ j ∧ S = hfS n (2 ^ j)) (n - 1) (S0 := hfS n 1) (Wk.lessE [] (by simp) (by simp)) ⟨0, .inr rfl, rfl, rfl⟩ ?_
 rintro _ _ ⟨j, hj, rfl, rfl⟩
 have hof := halfN_of n j hj
 have hp : 0 < 2 ^ j := Nat.pow_pos (by decide)
 have hk1 : 2 ^ j ≤ n := by
  rcases hj with h | rfl
  ·omega
  ·simpa using h1
 have hnx : 2 * 2 ^ j < n → (2 ^ (j + 1) < n ∨ j + 1 = 0) := fun h => .inl (by rw [Nat.pow_succ]; omega)
 have hs : 2 ^ (j + 1) = 2 * 2 ^ j := by rw [Nat.pow_succ]; omega
 have e1 : IntKind.i64.wrap (2 * ((2 ^ j : Nat) : Int)) = ((2 * 2 ^ j : Nat) : Int) := by rw [IntWalk.i64_in _ (by omega)]; omega
 generalize hk : 2 ^ j = k at *
 simp -dsimp
 repeat(first|apply wG|(apply wR;simp -dsimp [e1])|refine aI ?_)
 by_cases h2 : 2 * k < n
 ·refine cT (by simp; omega) ?_
  refine WP.skip ?_
  simp -dsimp
  repeat(first|apply wG|(apply wR;simp -dsimp [e1])|refine aI ?_)
  refine loopW.next (hfS n (2 * k)) (Wk.lessE [] (by simp) (by simp)) (n - 2 * k) (by omega) ⟨j + 1, hnx h2, by rw [hs], by rw [hs]⟩
 ·refine cF (by simp; omega) ?_
  refine WP.exit ?_
  simp -dsimp
  repeat(first|apply wG|(apply wR;simp -dsimp)|refine aI ?_)
  rw [hof (by omega) h1]
  refine WP.ret (finQ.retE ?_)
  simp -dsimp
end Go.Proofs.YtnljenjcaeophaaGreatDoor
namespace Go.Proofs.YtnljenjcaeophaaGreatDoor
open Go.Xe Go.RowKit
end Go.Proofs.YtnljenjcaeophaaGreatDoor
