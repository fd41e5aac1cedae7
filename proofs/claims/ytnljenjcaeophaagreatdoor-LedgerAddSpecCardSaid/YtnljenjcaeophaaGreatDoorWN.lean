/-
  Joined texts.
-/
import Derived.Test.YtnljenjcaeophaaGreatDoorWM
import Derived.Test.YtnljenjcaeophaaGreatDoorW8
import Derived.Test.YtnljenjcaeophaaGreatDoorWW
set_option maxRecDepth 10000
set_option linter.unusedVariables false
set_option linter.unusedSimpArgs false
set_option linter.unusedSectionVars false
namespace Go.Proofs.YtnljenjcaeophaaGreatDoor
open Go.Xe Go.RowKit
@[simp] theorem zD_ (k n : Nat) : am_ k (List.replicate n (.d .any)) = false := by
 induction n with
 | zero => rfl
 | succ n ih => rw [List.replicate_succ, am_, ih]; rfl
theorem tH_ (n : Nat) (hn : n ≤ 1000000) : Fun Tryz.prog 96 [.d (.v (.slice none 0 0)), .d (.v (.int .i64 n))] [] (.row 0) [(0, .row 70 61 0 [])] fun _ => False := by
 have e0 : IntKind.i64.wrap 0 = 0 := by decide
 have e1 : IntKind.i64.wrap (n : Int) = n := IntWalk.i64_in _ (by omega)
 refine ac_ (pn := ap_) aa_ Tryz.func96 rfl fun β0 => ?_
 simp only [Tryz.f96]
 repeat(first|apply wG|(apply wR;simp -dsimp)|refine aI ?_)
 refine cF (by simp) ?_
 refine WP.skip ?_
 simp -dsimp
 repeat(first|apply wG|(apply wR;simp -dsimp)|refine aI ?_)
 refine bY_ aa_ rfl rfl rfl ?_
 simp -dsimp [e0, e1]
 repeat(first|apply wG|(apply wR;simp -dsimp [e0, e1])|refine aI ?_)
 refine WP.cond (b := decide (0 < n)) (by simp) (fun hb => ?_) (fun hb => ?_)
 ·have hb : 0 < n := of_decide_eq_true hb
  repeat(first|apply wG|(apply wR;simp -dsimp)|refine aI ?_)
  refine bY_ aa_ rfl rfl rfl ?_
  simp -dsimp
  repeat refine aI ?_
  refine dt_ aa_ rfl rfl rfl rfl rfl ?_
  simp -dsimp
  repeat refine aI ?_
  refine cK_ aa_ (k := 500) rfl rfl rfl rfl (by decide) rfl hb rfl (by simp; omega) (by simp) ?_
  simp -dsimp
  repeat refine aI ?_
  refine bw_ aa_ (j := 500) (k := 501) (m := 0) rfl rfl rfl rfl rfl hb (Nat.zero_le _) rfl (by simp) ?_
  simp -dsimp
  repeat(first|apply wG|(apply wR;simp -dsimp)|refine aI ?_)
  refine WP.ret (an_ (S' := mkS 27 [(4, .row 0)] [(0, .row 70 61 0 [])]) (Wk.go [] 501 0 (by decide) (by simp) (by simp) (by simp)) ?_)
  simp -dsimp
 ·refine WP.skip ?_
  simp -dsimp
  repeat(first|apply wG|(apply wR;simp -dsimp)|refine aI ?_)
  refine WP.ret (an_ (S' := mkS 27 [(4, .row 0)] [(0, .row 70 61 0 [])]) ((b1_ 4 0 70 61 (by simp) (by simp)).trans (ae_ [] (by simp) (by simp))) ?_)
  simp -dsimp
def catS : List (List Sg) → List Sg
 | [] => []
 | l :: r => l ++ catS r
theorem dc_ : ∀ a b : List (List Sg), catS (a ++ b) = catS a ++ catS b
 | [], _ => rfl
 | l :: a, b => by rw [List.cons_append, catS, catS, dc_ a b, List.append_assoc]
theorem lY_ (a : List (List Sg)) (l : List Sg) : catS (a ++ [l]) = catS a ++ l := by rw [dc_]; simp [catS]
def lsS (ls : List (List Sg)) : List D := ls.map fun l => .sl 61 (sgC l) l.length false
theorem uF_ (a : List (List Sg)) (l : List Sg) (b : List (List Sg)) : (lsS (a ++ l :: b)).drop a.length = .sl 61 (sgC l) l.length false :: lsS b := by
 rw [lsS, List.map_append, List.drop_left' (by simp)]
 rfl
@[simp] def slLS (ls : List (List Sg)) : D := .sl 1 (lsS ls) ls.length false
set_option maxHeartbeats 4000000 in
theorem p3_ (ls : List (List Sg)) (hl : ls.length ≤ 1000) (hf : (catS ls).length ≤ 100000) (hok : ∀ l ∈ ls, ∀ p ∈ l, sgOk p) : Fun Tryz.prog 47 [.d (slLS ls)] [] (.row 0) [(0, .row 70 61 (catS ls).length ((sgC (catS ls)).map .d))] fun _ => False := by
 refine ac_ (pn := ap_) aa_ Tryz.func47 rfl fun β0 => ?_
 simp only [Tryz.f47]
 repeat(first|apply wG|(apply wR;simp -dsimp)|refine aI ?_)
 refine ak_ (fun m S => ∃ l1 l2, ls = l1 ++ l2 ∧ m = l2.length ∧ S = mkS 36 [(0, .d (slLS ls)), (3, .d (.v (.int .i64 (catS l1).length))), (9, .d (slLS ls)), (10, .d (.v (.int .i64 ls.length))), (11, .d (.v (.int .i64 l1.length)))] []) ls.length
  (S0 := mkS 36 [(0, .d (slLS ls)), (3, .d (.v (.int .i64 0))), (9, .d (slLS ls)), (10, .d (.v (.int .i64 ls.length))), (11, .d (.v (.int .i64 0)))] []) (ae_ [] (by simp) (by simp)) ⟨[], ls, rfl, rfl, rfl⟩ ?_
 rintro _ _ ⟨l1, l2, hl12, rfl, rfl⟩
 simp -dsimp
 repeat(first|apply wG|(apply wR;simp -dsimp)|refine aI ?_)
 cases l2 with
 | cons l l2 =>
  have hll : ls.length = l1.length + (l2.length + 1) := by rw [hl12]; simp
  have hff : (catS ls).length = (catS l1).length + (l.length + (catS l2).length) := by rw [hl12, dc_, List.length_append, catS, List.length_append]
  have e1 : IntKind.i64.wrap ((l1.length : Int) + 1) = (l1.length : Int) + 1 := IntWalk.i64_in _ (by omega)
  have e2 : IntKind.i64.wrap (((catS l1).length : Int) + l.length) = ((catS l1).length : Int) + l.length := IntWalk.i64_in _ (by omega)
  have e3 : (catS (l1 ++ [l])).length = (catS l1).length + l.length := by rw [lY_, List.length_append]
  have h1 := uF_ l1 l l2
  rw [← hl12] at h1
  refine cT (by simp; omega) ?_
  refine WP.skip ?_
  simp -dsimp
  refine WP.seq (WP.block ?_)
  repeat(first|apply wG|(apply wR;simp -dsimp [h1, e2])|refine aI ?_)
  refine cF (by simp [e2]; omega) ?_
  refine WP.skip ?_
  simp -dsimp
  repeat(first|apply wG|(apply wR;simp -dsimp)|refine aI ?_)
  refine ah_ (mkS 36 [(0, .d (slLS ls)), (3, .d (.v (.int .i64 (catS (l1 ++ [l])).length))), (9, .d (slLS ls)), (10, .d (.v (.int .i64 ls.length))), (11, .d (.v (.int .i64 (l1 ++ [l]).length)))] []) (ae_ [] (by simp [e1, e2, e3]) (by simp)) l2.length (by simp) ⟨l1 ++ [l], l2, by simp [hl12], rfl, rfl⟩
 | nil =>
  simp only [List.append_nil] at hl12
  subst hl12
  refine cF (by simp) ?_
  refine WP.exit ?_
  simp -dsimp
  repeat(first|apply wG|(apply wR;simp -dsimp)|refine aI ?_)
  refine vcStop.call nN_ (tH_ (catS ls).length (by omega)) (rl [(0, 600)]) rfl rfl (by simp [BoxLeq]) (aj_ (by simp [BoxLeq]) rfl (by first | rfl | (simp [BoxLeq]; done)) (by simp [BoxLeq]) (by simp [BoxLeq])) (fun _ h => h.elim) (fun ⟨_, h⟩ => h.elim) (fun ⟨_, h⟩ => h.elim) (by simp [BoxLeq]) ?_
  simp -dsimp
  repeat(first|apply wG|(apply wR;simp -dsimp)|refine aI ?_)
  refine ak_ (fun m S => ∃ l1 l2, ls = l1 ++ l2 ∧ m = l2.length ∧ S = mkS 36 [(6, .row 500), (25, .d (slLS ls)), (26, .d (.v (.int .i64 ls.length))), (27, .d (.v (.int .i64 l1.length)))] [(500, .row 70 61 (catS l1).length ((sgC (catS l1)).map .d))]) ls.length
   (S0 := mkS 36 [(6, .row 500), (25, .d (slLS ls)), (26, .d (.v (.int .i64 ls.length))), (27, .d (.v (.int .i64 0)))] [(500, .row 70 61 0 [])]) (Wk.go [] 600 500 (by decide) (by simp) (by simp) (by simp)) ⟨[], ls, rfl, rfl, rfl⟩ ?_
  rintro _ _ ⟨l1, l2, hl12, rfl, rfl⟩
  simp -dsimp
  repeat(first|apply wG|(apply wR;simp -dsimp)|refine aI ?_)
  cases l2 with
  | cons l l2 =>
   have hll : ls.length = l1.length + (l2.length + 1) := by rw [hl12]; simp
   have hff : (catS ls).length = (catS l1).length + (l.length + (catS l2).length) := by rw [hl12, dc_, List.length_append, catS, List.length_append]
   have e1 : IntKind.i64.wrap ((l1.length : Int) + 1) = (l1.length : Int) + 1 := IntWalk.i64_in _ (by omega)
   have e3 : (catS (l1 ++ [l])) = (catS l1) ++ l := lY_ l1 l
   have lc := sgC_len (hok l (by rw [hl12]; simp))
   have e4 : sgC (catS l1 ++ l) = sgC (catS l1) ++ sgC l := a7_ _ _
   have h1 := uF_ l1 l l2
   rw [← hl12] at h1
   refine cT (by simp; omega) ?_
   refine WP.skip ?_
   simp -dsimp
   refine WP.seq (WP.block ?_)
   repeat(first|apply wG|(apply wR;simp -dsimp [h1, lc])|refine aI ?_)
   refine ah_ (mkS 36 [(6, .row 500), (25, .d (slLS ls)), (26, .d (.v (.int .i64 ls.length))), (27, .d (.v (.int .i64 (l1 ++ [l]).length)))] [(500, .row 70 61 (catS (l1 ++ [l])).length ((sgC (catS (l1 ++ [l]))).map .d))]) (Wk.go [] 33 500 (by decide) (by simp) (by simp [e1]) (by simp [e3, e4])) l2.length (by simp) ⟨l1 ++ [l], l2, by simp [hl12], rfl, rfl⟩
  | nil =>
   simp only [List.append_nil] at hl12
   subst hl12
   refine cF (by simp) ?_
   refine WP.exit ?_
   simp -dsimp
   repeat(first|apply wG|(apply wR;simp -dsimp)|refine aI ?_)
   refine WP.ret (an_ (S' := mkS 36 [(2, .row 0)] [(0, .row 70 61 (catS ls).length ((sgC (catS ls)).map .d))]) (Wk.go [] 500 0 (by decide) (by simp) (by simp) (by simp)) ?_)
   simp -dsimp
end Go.Proofs.YtnljenjcaeophaaGreatDoor
namespace Go.Proofs.YtnljenjcaeophaaGreatDoor
open Go.Xe Go.RowKit
theorem vh_ {x : List Sg} {i : Nat} (hi : i < x.length) (h : ∀ q ∈ x, sgOk q) : List.take 61 (List.drop (i * 61) ((sgC x).map AV.d)) = (sgc x[i]).map .d := by
 rw [← List.map_drop, ← List.map_take, cL_ hi h]
abbrev sgB (l : List Sg) : Box := .row 70 61 l.length ((sgC l).map .d)
theorem m4_ {x : List Sg} (h : ∀ q ∈ x, sgOk q) {i : Nat} (hi : i < x.length) {p : Sg} (hp : sgOk p) : setL ((sgC x).map AV.d) (i * 61) ((sgc p).map .d) = (sgC (x.set i p)).map .d := by
 have lc := sgC_len h
 have l2 := az_ hp
 rw [c0_ _ _ _ (by rw [List.length_map, List.length_map]; omega), ← List.map_take, ← List.map_drop, (hh_ h (by omega)).1, List.length_map, l2, show i * 61 + 61 = (i + 1) * 61 by omega, (hh_ h (by omega)).2, ← List.map_append, ← List.map_append]
 congr 1
 rw [List.set_eq_take_append_cons_drop, if_pos hi, a7_]
 rw [show sgC (p :: x.drop (i + 1)) = sgc p ++ sgC (x.drop (i + 1)) from rfl, List.append_assoc]
theorem p5_ (a b : List Sg) (ha : ∀ p ∈ a, sgOk p) (hb : ∀ p ∈ b, sgOk p) (hn : a.length + b.length ≤ 900) : Fun Tryz.prog 47 [.row 1000] [(1000, .row 23 1 2 [.d (.sl 61 (sgC a) a.length false), .d (.sl 61 (sgC b) b.length false)])] (.row 0) [(0, sgB (a ++ b))] fun _ => False := by
 have h := a1_ 1000 (T := 23) (cs := [.sl 61 (sgC a) a.length false, .sl 61 (sgC b) b.length false]) (args' := [.row 1000]) (bi' := [(1000, .row 23 1 2 [.d (.sl 61 (sgC a) a.length false), .d (.sl 61 (sgC b) b.length false)])]) (p3_ [a, b] (by simp) (by simp [catS]; omega) (fun l hl p hp => by
  simp only [List.mem_cons, List.not_mem_nil, or_false] at hl
  rcases hl with rfl | rfl
  ·exact ha p hp
  ·exact hb p hp)) rfl rfl trivial
 simpa [catS, sgB] using h
end Go.Proofs.YtnljenjcaeophaaGreatDoor
