/-
  Joined texts.
-/
import Derived.Test.YtnljenjcaeophaaGreatDoorWNU
import Derived.Test.YtnljenjcaeophaaGreatDoorW3
set_option maxRecDepth 10000
set_option maxHeartbeats 4000000
set_option linter.unusedVariables false
set_option linter.unusedSimpArgs false
set_option linter.unusedSectionVars false
namespace Go.Proofs.YtnljenjcaeophaaGreatDoor
open Go.Xe Go.RowKit
theorem xY_ {n : Int} (h : isI n) : Fn0 Tryz.prog 236 [.v (.int .i64 n)] (.v (.int .u64 (zig n))) := by
 refine ac_ (pn := ap_) aa_ Tryz.func236 rfl fun β0 => ?_
 simp only [Tryz.f236]
 repeat(first|apply wG|(apply wR;simp -dsimp)|refine aI ?_)
 refine WP.ret (finQ.ret ?_)
 simp -dsimp [kT_ h]
theorem xX_ {n : Int} (h : isI n) : Fn0 Tryz.prog 263 [.v (.int .i64 n)] (.v (.int .u64 (zig n))) := by
 refine ac_ (pn := ap_) aa_ Tryz.func263 rfl fun β0 => ?_
 simp only [Tryz.f263]
 repeat(first|apply wG|(apply wR;simp -dsimp)|refine aI ?_)
 refine WP.cond (b := decide (0 ≤ n)) (by simp) (fun hb => ?_) (fun hb => ?_)
 ·repeat(first|apply wG|(apply wR;simp -dsimp)|refine aI ?_)
  refine WP.ret (finQ.ret ?_)
  simp -dsimp
  rw [pg_ h (by simpa using hb)]
  exact .refl _
 ·refine WP.skip ?_
  repeat(first|apply wG|(apply wR;simp -dsimp)|refine aI ?_)
  refine WP.ret (finQ.ret ?_)
  simp -dsimp
  rw [uZ_ h (by simpa using hb)]
  exact .refl _
def s38 (u : Nat) (bs : List UInt8) : St :=
 ⟨[.row 500, .d (.v (.int .u64 u))] ++ List.replicate 18 (.d .any), [(500, .row 5 1 bs.length ((bys bs).map .d))], []⟩
attribute [local simp] s38
theorem xZ_ {u : Nat} (h : isU u) {bs : List UInt8} (hb : bs.length ≤ 1000000000000) :
  Fun Tryz.prog 235 [.row 1000, .d (.v (.int .u64 u))] [(1000, .row 5 1 bs.length ((bys bs).map .d))] (.row 0) [(0, .row 5 1 (bs ++ bR_ u).length ((bys (bs ++ bR_ u)).map .d))] fun _ => False := by
 refine ac_ (pn := ap_) aa_ Tryz.func235 rfl fun β0 => ?_
 simp only [Tryz.f235]
 refine WP.seq (WP.region aa_ ?_); simp
 refine WP.seq (WP.block ?_)
 refine ak_ (fun m S => ∃ bs', S = s38 m bs' ∧ bs'.length + (bR_ m).length ≤ bs.length + 10 ∧ bs' ++ bR_ m = bs ++ bR_ u) u (S0 := s38 u bs) (Wk.go [] 1000 500 (by decide) (by simp) (by simp) (by simp)) ⟨bs, rfl, by have := a8_ h; omega, rfl⟩ ?_
 rintro m _ ⟨bs', rfl, h1, h2⟩
 have hd := tW_ m
 repeat(first|apply wG|(apply wR;simp -dsimp)|refine aI ?_)
 refine WP.cond (b := decide (128 ≤ m)) (by simp; omega) (fun hb => ?_) (fun hb => ?_)
 ·refine WP.skip ?_
  simp -dsimp
  repeat(first|apply wG|(apply wR;simp -dsimp)|refine aI ?_)
  refine ah_ (s38 (m / 128) (bs' ++ [UInt8.ofNat (m % 128 + 128)])) (Wk.go [13] 14 500 (by decide) (by simp) (by simp [shr7_num]) (by simp [digit_num])) (m / 128) ?_ ⟨_, rfl, ?_, ?_⟩
  ·have := of_decide_eq_true hb; omega
  ·rw [bR_] at h1
   rw [if_neg (by have := of_decide_eq_true hb; omega)] at h1
   simp at h1 ⊢; omega
  ·rw [bR_] at h2
   rw [if_neg (by have := of_decide_eq_true hb; omega)] at h2
   simpa using h2
 ·refine WP.exit ?_
  simp -dsimp
  repeat(first|apply wG|(apply wR;simp -dsimp)|refine aI ?_)
  refine WP.ret (aV_ (S' := ⟨List.replicate 4 (.d .any) ++ [.row 0] ++ List.replicate 15 (.d .any), [(0, .row 5 1 (bs ++ bR_ u).length ((bys (bs ++ bR_ u)).map .d))], []⟩) (Wk.go [18] 19 0 (by decide) (by simp) (by simp) ?_) ?_)
  ·have h3 := of_decide_eq_false hb
   rw [bR_, if_pos (by omega)] at h2
   rw [← h2]
   simp [oB_]
  ·simp
theorem oR_ : ∀ (u : Nat), isU u → Fn0 Tryz.prog 262 [.v (.int .u64 u)] (slB (bR_ u))
 | u, h => by
  refine ac_ (pn := ap_) aa_ Tryz.func262 rfl fun β0 => ?_
  simp only [Tryz.f262]
  repeat(first|apply wG|(apply wR;simp -dsimp)|refine aI ?_)
  refine WP.cond (b := decide (u < 128)) (by simp; omega) (fun hb => ?_) (fun hb => ?_)
  ·repeat(first|apply wG|(apply wR;simp -dsimp)|refine aI ?_)
   refine WP.ret (aV_ (Wk.freeze (k := 7) (T := 5) (sz := 1) (n := 1) (ds := [.v (.int .u8 (IntKind.u8.wrap u))]) (by simp)) ?_)
   rw [bR_, if_pos (of_decide_eq_true hb)]
   simp [oB_, slB]
  ·refine WP.skip ?_
   have hu : 128 ≤ u := by simpa using hb
   simp -dsimp
   refine WP.seq (WP.region aa_ ?_)
   simp -dsimp
   repeat refine aI ?_
   refine ad_ cA_ (oR_ (u / 128) (by unfold isU at h ⊢; omega)) rfl rfl ?_ ?_
   ·have : IntKind.u64.wrap ((u : Int) / 128) = (u : Int) / 128 := IntWalk.u64_in _ (by unfold isU at h; omega)
    simp [this]
   have hl := a8_ (u := u / 128) (by unfold isU at h ⊢; omega)
   simp [slB]
   repeat refine aI ?_
   repeat(first|apply wG|(apply wR;simp -dsimp)|refine aI ?_)
   refine WP.ret (aV_ (Wk.freeze (k := 16) (T := 5) (sz := 1) (ds := .v (.int .u8 (IntKind.u8.wrap (IntKind.u64.wrap ((u : Int).tmod 128 + 128)))) :: bys (bR_ (u / 128))) (by simp; rfl)) ?_)
   rw [bR_, if_neg (by omega)]
   simp [pW_, slB, Nat.add_comm]
termination_by u => u
decreasing_by omega
end Go.Proofs.YtnljenjcaeophaaGreatDoor
namespace Go.Proofs.YtnljenjcaeophaaGreatDoor
open Go.Xe Go.RowKit
inductive V where
 | mk (k n : Int) (s : ByteArray) (l : List V)
 deriving Inhabited
mutual
def V.cells : V → List D
 | .mk k n s l => [.v (.int .i64 k), .v (.int .i64 n), .v (.string s), .sl 4 (aD_ l) l.length false]
def aD_ : List V → List D
 | [] => []
 | v :: l => V.cells v ++ aD_ l
end
def V.d (v : V) : D := .agg v.cells
@[simp] def slV (l : List V) : D := .sl 4 (aD_ l) l.length false
theorem ep_ : ∀ v : V, v.cells.length = 4
 | .mk .. => by simp [V.cells]
theorem cm_ : ∀ a b : List V, aD_ (a ++ b) = aD_ a ++ aD_ b
 | [], b => by simp [aD_]
 | v :: a, b => by simp [aD_, cm_ a b]
theorem dK_ : ∀ a : List V, (aD_ a).length = a.length * 4
 | [] => rfl
 | v :: a => by simp [aD_, ep_, dK_ a]; omega
theorem kB_ (a b : List V) : (aD_ (a ++ b)).drop (a.length * 4) = aD_ b := by
 rw [cm_, ← dK_, List.drop_left]
theorem cT_ (a : List V) (v : V) (b : List V) : ((aD_ (a ++ v :: b)).drop (a.length * 4)).take 4 = v.cells := by
 rw [kB_, aD_, ← ep_ v, List.take_left]
mutual
def V.ok : V → Bool
 | .mk k n s l => if k = 1 then decide (s = ⟨#[]⟩) && decide (l.length = 0) else if k = 2 then decide (n = 0) && decide (l.length = 0)
   else if k = 3 then decide (n = 0) && decide (s = ⟨#[]⟩) && ct_ l else false
def ct_ : List V → Bool
 | [] => true
 | v :: l => V.ok v && ct_ l
end
mutual
def V.dep : V → Nat
 | .mk k _ _ l => if k = 3 then aU_ l + 1 else 0
def aU_ : List V → Nat
 | [] => 0
 | v :: l => max (V.dep v) (aU_ l)
end
theorem br_ : ∀ a b : List V, ct_ (a ++ b) = (ct_ a && ct_ b)
 | [], b => by simp [ct_]
 | v :: a, b => by simp [ct_, br_ a b, Bool.and_assoc]
theorem bz_ : ∀ a b : List V, aU_ (a ++ b) = max (aU_ a) (aU_ b)
 | [], b => by simp [aU_]
 | v :: a, b => by simp [aU_, bz_ a b, Nat.max_assoc]
mutual
def V.enc : V → List UInt8
 | .mk k n s l => if k = 1 then 1 :: bR_ (zig n) else if k = 2 then 2 :: (bR_ s.size ++ s.data.toList) else 3 :: (bR_ l.length ++ ax_ l)
def ax_ : List V → List UInt8
 | [] => []
 | v :: l => V.enc v ++ ax_ l
end
theorem aW_ : ∀ a b : List V, ax_ (a ++ b) = ax_ a ++ ax_ b
 | [], b => by simp [ax_]
 | v :: a, b => by simp [ax_, aW_ a b]
mutual
def V.rng : V → Bool
 | .mk k n s l => decide (-9223372036854775808 ≤ k ∧ k ≤ 9223372036854775807) && decide (s.size ≤ 140737488355328) && decide (-9223372036854775808 ≤ n ∧ n ≤ 9223372036854775807) && bB_ l
def bB_ : List V → Bool
 | [] => true
 | v :: l => V.rng v && bB_ l
end
theorem df_ : ∀ a b : List V, bB_ (a ++ b) = (bB_ a && bB_ b)
 | [], b => by simp [bB_]
 | v :: a, b => by simp [bB_, df_ a b, Bool.and_assoc]
mutual
def V.sz : V → Nat
 | .mk _ _ _ l => l4_ l + 1
def l4_ : List V → Nat
 | [] => 0
 | v :: l => V.sz v + l4_ l
end
theorem gl_ : ∀ a b : List V, l4_ (a ++ b) = l4_ a + l4_ b
 | [], b => by simp [l4_]
 | v :: a, b => by simp [l4_, gl_ a b, Nat.add_assoc]
theorem in_ {k n : Int} {s : ByteArray} {l1 l2 : List V} {v : V} {N : Nat} (h : (V.mk k n s (l1 ++ v :: l2)).sz ≤ N + 1) : v.sz ≤ N := by
 rw [V.sz, gl_, l4_] at h; omega
end Go.Proofs.YtnljenjcaeophaaGreatDoor
namespace Go.Proofs.YtnljenjcaeophaaGreatDoor
open Go.Xe Go.RowKit
theorem Bi_ : ∀ (N : Nat) (v : V), v.sz ≤ N → v.dep ≤ 1000000 → Fn0 Tryz.prog 233 [v.d] (.tup [.v (.int .i64 (if v.ok = true then (v.dep : Int) else 0)), .v (.bool v.ok)]) := by
 intro N
 induction N with
 | zero => rintro ⟨k, n, s, l⟩ hN; rw [V.sz] at hN; omega
 | succ N ih =>
  rintro ⟨k, n, s, l⟩ hN hd
  refine ac_ (pn := ap_) aa_ Tryz.func233 rfl fun β0 => ?_
  simp only [Tryz.f233]
  rw [V.d, V.cells]
  rcases (by omega : k < 1 ∨ 3 < k ∨ k = 1 ∨ k = 2 ∨ k = 3) with hk | hk | rfl | rfl | rfl
  ·have hk0 : k.toNat = 0 := by omega
   have hk1 : ¬ k = 1 := by omega
   have hk2 : ¬ k = 2 := by omega
   have hk3 : ¬ k = 3 := by omega
   repeat(first|apply wG|(apply wR;simp -dsimp [hk, hk0])|refine aI ?_)
   refine cT (by simp) ?_
   repeat(first|apply wG|(apply wR;simp -dsimp)|refine aI ?_)
   refine WP.ret (finQ.ret ?_)
   simp -dsimp [V.ok, V.dep, hk1, hk2, hk3]
  ·obtain ⟨j, rfl⟩ : ∃ j : Nat, k = ((j + 4 : Nat) : Int) := ⟨(k - 4).toNat, by omega⟩
   have hk1 : ¬ ((j : Int) + 4 < 1) := by omega
   have hk2 : ((j : Int) + 4).toNat = j + 4 := by omega
   have hk3 : (3 : Int) < (j : Int) + 4 := by omega
   have hk4 : ¬ (j : Int) + 4 = 1 := by omega
   have hk5 : ¬ (j : Int) + 4 = 2 := by omega
   have hk6 : ¬ (j : Int) + 4 = 3 := by omega
   repeat(first|apply wG|(apply wR;simp -dsimp [hk1, hk2, hk3])|refine aI ?_)
   refine vcStopG.skip (.d (.v (.bool false))) ?_
   simp -dsimp
   refine cT (by simp) ?_
   repeat(first|apply wG|(apply wR;simp -dsimp)|refine aI ?_)
   refine WP.ret (finQ.ret ?_)
   simp -dsimp [V.ok, V.dep, hk4, hk5, hk6]
  ·repeat(first|apply wG|(apply wR;simp -dsimp)|refine aI ?_)
   refine WP.cond (b := !(V.ok (.mk 1 n s l))) (by simp [V.ok]) (fun hb => ?_) (fun hb => ?_)
   ·simp at hb
    repeat(first|apply wG|(apply wR;simp -dsimp)|refine aI ?_)
    refine WP.ret (finQ.ret ?_)
    simp -dsimp [hb]
   ·simp at hb
    refine WP.skip ?_
    simp -dsimp
    repeat(first|apply wG|(apply wR;simp -dsimp)|refine aI ?_)
    refine cT (by simp) ?_
    repeat(first|apply wG|(apply wR;simp -dsimp)|refine aI ?_)
    refine WP.ret (finQ.ret ?_)
    simp -dsimp [hb, V.dep]
  ·repeat(first|apply wG|(apply wR;simp -dsimp)|refine aI ?_)
   refine WP.cond (b := !(V.ok (.mk 2 n s l))) (by simp [V.ok]) (fun hb => ?_) (fun hb => ?_)
   ·simp at hb
    repeat(first|apply wG|(apply wR;simp -dsimp)|refine aI ?_)
    refine WP.ret (finQ.ret ?_)
    simp -dsimp [hb]
   ·simp at hb
    refine WP.skip ?_
    simp -dsimp
    repeat(first|apply wG|(apply wR;simp -dsimp)|refine aI ?_)
    refine cT (by simp) ?_
    repeat(first|apply wG|(apply wR;simp -dsimp)|refine aI ?_)
    refine WP.ret (finQ.ret ?_)
    simp -dsimp [hb, V.dep]
  ·repeat(first|apply wG|(apply wR;simp -dsimp)|refine aI ?_)
   refine WP.cond (b := !(decide (n = 0) && decide (s = ⟨#[]⟩))) (by simp) (fun hb => ?_) (fun hb => ?_)
   ·have hb : V.ok (.mk 3 n s l) = false := by simp at hb; simp [V.ok]; intro h1 h2; rcases hb with h | h; exact absurd h1 h; exact absurd h2 h
    repeat(first|apply wG|(apply wR;simp -dsimp)|refine aI ?_)
    refine WP.ret (finQ.ret ?_)
    simp -dsimp [hb]
   ·simp at hb
    obtain ⟨rfl, rfl⟩ := hb
    refine WP.skip ?_
    simp -dsimp
    repeat(first|apply wG|(apply wR;simp -dsimp)|refine aI ?_)
    refine cF (by simp) ?_
    refine WP.skip ?_
    simp -dsimp
    repeat(first|apply wG|(apply wR;simp -dsimp)|refine aI ?_)
    refine WP.len (.tmp 55) rfl fun hl => ?_
    have hd' : aU_ l + 1 ≤ 1000000 := by simpa [V.dep] using hd
    have hm : maxLen = 9223372036854775807 := rfl
    rw [hm] at hl
    refine ak_ (fun m S => ∃ l1 l2, l = l1 ++ l2 ∧ m = l2.length ∧ ct_ l1 = true ∧ S = mkS 74 [(2, .d (.v (.int .i64 (aU_ l1)))), (55, .d (slV l)), (56, .d (.v (.int .i64 l.length))), (57, .d (.v (.int .i64 l1.length)))] []) l.length
     (S0 := mkS 74 [(2, .d (.v (.int .i64 0))), (55, .d (slV l)), (56, .d (.v (.int .i64 l.length))), (57, .d (.v (.int .i64 0)))] []) (ae_ [1, 4] (by simp [slV]) (by simp)) ⟨[], l, rfl, rfl, rfl, by simp [aU_]⟩ ?_
    rintro _ _ ⟨l1, l2, rfl, rfl, h1, rfl⟩
    simp only [List.length_append] at hl
    rw [bz_] at hd'
    simp -dsimp [slV]
    repeat(first|apply wG|(apply wR;simp -dsimp)|refine aI ?_)
    cases l2 with
    | nil =>
     refine cF (by simp) ?_
     refine WP.exit ?_
     simp -dsimp
     repeat(first|apply wG|(apply wR;simp -dsimp)|refine aI ?_)
     simp [aU_] at hd'
     have e1 : IntKind.i64.wrap ((aU_ l1 : Int) + 1) = (aU_ l1 : Int) + 1 := IntWalk.i64_in _ (by omega)
     refine WP.ret (finQ.ret ?_)
     simp -dsimp [V.ok, V.dep, h1, e1]
    | cons v l2 =>
     refine cT (by simp; omega) ?_
     refine WP.skip ?_
     simp -dsimp
     refine WP.seq (WP.block ?_)
     have hv := cT_ l1 v l2
     obtain ⟨k, n, s, lv⟩ := v
     rw [V.cells] at hv
     repeat(first|apply wG|(apply wR;simp -dsimp [hv])|refine aI ?_)
     have hdv : (V.mk k n s lv).dep ≤ 1000000 := by simp only [aU_] at hd'; omega
     refine ad_ gt_ (ih (.mk k n s lv) (in_ hN) hdv) rfl rfl (by simp [V.d, V.cells]) ?_
     simp -dsimp
     repeat(first|apply wG|(apply wR;simp -dsimp)|refine aI ?_)
     refine WP.cond (b := !(V.ok (.mk k n s lv))) (by simp) (fun hb => ?_) (fun hb => ?_)
     ·have hb : V.ok (.mk 3 0 ⟨#[]⟩ (l1 ++ .mk k n s lv :: l2)) = false := by
       simp only [Bool.not_eq_true'] at hb
       rw [V.ok, br_, ct_, hb]; simp
      repeat(first|apply wG|(apply wR;simp -dsimp)|refine aI ?_)
      refine WP.ret (finQ.ret ?_)
      simp -dsimp [hb]
     ·simp only [Bool.not_eq_false'] at hb
      refine WP.skip ?_
      simp -dsimp
      repeat(first|apply wG|(apply wR;simp -dsimp)|refine aI ?_)
      have e1 : IntKind.i64.wrap ((l1.length : Int) + 1) = (l1.length : Int) + 1 := IntWalk.i64_in _ (by simp at hl; omega)
      refine ah_ (mkS 74 [(2, .d (.v (.int .i64 (aU_ (l1 ++ [.mk k n s lv]))))), (55, .d (slV (l1 ++ .mk k n s lv :: l2))), (56, .d (.v (.int .i64 ((l1 ++ V.mk k n s lv :: l2).length : Nat)))), (57, .d (.v (.int .i64 ((l1 ++ [V.mk k n s lv]).length : Nat))))] [])
       (ae_ [6] (by simp [slV, e1, hb, bz_, aU_, BH_]) (by simp)) l2.length (by simp) ⟨l1 ++ [.mk k n s lv], l2, by simp, rfl, by simp [br_, ct_, h1, hb], rfl⟩
theorem x2_ (v : V) (h : v.dep ≤ 1000000) : Fn0 Tryz.prog 233 [v.d] (.tup [.v (.int .i64 (if v.ok = true then (v.dep : Int) else 0)), .v (.bool v.ok)]) := Bi_ v.sz v (Nat.le_refl _) h
end Go.Proofs.YtnljenjcaeophaaGreatDoor
namespace Go.Proofs.YtnljenjcaeophaaGreatDoor
open Go.Xe Go.RowKit
def V.chk (v : V) : Int := if v.ok = true then (if 16 < v.dep then 2 else 0) else 1
theorem x6_ (v : V) (h : v.dep ≤ 1000000) : Fn0 Tryz.prog 195 [v.d] (.v (.int .i64 v.chk)) := by
 refine ac_ (pn := ap_) aa_ Tryz.func195 rfl fun β0 => ?_
 simp only [Tryz.f195]
 obtain ⟨k, n, s, l⟩ := v
 rw [V.d, V.cells]
 repeat(first|apply wG|(apply wR;simp -dsimp)|refine aI ?_)
 refine ad_ gt_ (x2_ (.mk k n s l) h) rfl rfl (by simp [V.d, V.cells]) ?_
 simp -dsimp
 repeat(first|apply wG|(apply wR;simp -dsimp)|refine aI ?_)
 cases hok : V.ok (.mk k n s l) with
 | false =>
  refine cT (by simp) ?_
  repeat(first|apply wG|(apply wR;simp -dsimp)|refine aI ?_)
  refine WP.ret (finQ.ret ?_)
  simp -dsimp [V.chk, hok]
 | true =>
  refine cF (by simp) ?_
  repeat(first|apply wG|(apply wR;simp -dsimp)|refine aI ?_)
  refine WP.cond (b := decide (16 < V.dep (.mk k n s l))) (by simp; omega) (fun hb => ?_) (fun hb => ?_)
  ·have hb := of_decide_eq_true hb
   repeat(first|apply wG|(apply wR;simp -dsimp)|refine aI ?_)
   refine WP.ret (finQ.ret ?_)
   simp -dsimp [V.chk, hok, hb]
  ·have hb := of_decide_eq_false hb
   refine WP.skip ?_
   simp -dsimp
   repeat(first|apply wG|(apply wR;simp -dsimp)|refine aI ?_)
   refine WP.ret (finQ.ret ?_)
   simp -dsimp [V.chk, hok, hb]
@[simp] def bV (k n : Int) (s : ByteArray) (l : List V) : Box := .cells 207 [.d (.v (.int .i64 k)), .d (.v (.int .i64 n)), .d (.v (.string s)), .d (slV l)]
theorem Bh_ : ∀ (N : Nat) (v : V), v.sz ≤ N → Fn0 Tryz.prog 260 [v.d] (.v (.bool v.ok)) := by
 intro N
 induction N with
 | zero => rintro ⟨k, n, s, l⟩ hN; rw [V.sz] at hN; omega
 | succ N ih =>
  rintro ⟨k, n, s, l⟩ hN
  refine ac_ (pn := ap_) aa_ Tryz.func260 rfl fun β0 => ?_
  simp only [Tryz.f260]
  rw [V.d, V.cells]
  repeat(first|apply wG|(apply wR;simp -dsimp)|refine aI ?_)
  refine WP.cond (b := decide (k = 1)) (by simp) (fun hb => ?_) (fun hb => ?_)
  ·have hb := of_decide_eq_true hb
   subst hb
   repeat(first|apply wG|(apply wR;simp -dsimp)|refine aI ?_)
   refine WP.ret (finQ.ret ?_)
   simp -dsimp [V.ok]
  have hk1 : ¬ k = 1 := of_decide_eq_false hb
  repeat(first|apply wG|(apply wR;simp -dsimp)|refine aI ?_)
  refine WP.cond (b := decide (k = 2)) (by simp) (fun hb => ?_) (fun hb => ?_)
  ·have hb := of_decide_eq_true hb
   subst hb
   repeat(first|apply wG|(apply wR;simp -dsimp)|refine aI ?_)
   refine WP.ret (finQ.ret ?_)
   simp -dsimp [V.ok]
  have hk2 : ¬ k = 2 := of_decide_eq_false hb
  repeat(first|apply wG|(apply wR;simp -dsimp)|refine aI ?_)
  refine WP.cond (b := decide (k = 3)) (by simp) (fun hb => ?_) (fun hb => ?_)
  ·have hb := of_decide_eq_true hb
   subst hb
   repeat(first|apply wG|(apply wR;simp -dsimp)|refine aI ?_)
   refine ak_ (fun m S => ∃ l1 l2, l = l1 ++ l2 ∧ m = l2.length ∧ ct_ l1 = true ∧ S = mkS 52 [(1, .ptr 1 0), (3, .d (.v (.int .i64 l1.length)))] [(1, bV 3 n s l)]) l.length
    (S0 := mkS 52 [(1, .ptr 1 0), (3, .d (.v (.int .i64 0)))] [(1, bV 3 n s l)]) (ae_ [] (by simp) (by simp [bV, slV])) ⟨[], l, rfl, rfl, rfl, by simp⟩ ?_
   rintro _ _ ⟨l1, l2, rfl, rfl, h1, rfl⟩
   simp -dsimp [bV, slV]
   repeat(first|apply wG|(apply wR;simp -dsimp)|refine aI ?_)
   refine WP.len (.tmp 32) rfl fun hl => ?_
   have hm : maxLen = 9223372036854775807 := rfl
   rw [hm] at hl
   cases l2 with
   | nil =>
    refine cF (by simp) ?_
    refine WP.exit ?_
    simp -dsimp
    repeat(first|apply wG|(apply wR;simp -dsimp)|refine aI ?_)
    refine WP.ret (finQ.ret ?_)
    simp -dsimp [V.ok, h1]
   | cons v l2 =>
    refine cT (by simp; omega) ?_
    refine WP.skip ?_
    simp -dsimp
    refine WP.seq (WP.block ?_)
    have hv := cT_ l1 v l2
    obtain ⟨k, n, s, lv⟩ := v
    rw [V.cells] at hv
    repeat(first|apply wG|(apply wR;simp -dsimp [hv])|refine aI ?_)
    refine ad_ go_ (ih (.mk k n s lv) (in_ hN)) rfl rfl (by simp [V.d, V.cells]) ?_
    simp -dsimp
    repeat(first|apply wG|(apply wR;simp -dsimp)|refine aI ?_)
    refine WP.cond (b := !(V.ok (.mk k n s lv))) (by simp) (fun hb => ?_) (fun hb => ?_)
    ·simp only [Bool.not_eq_true'] at hb
     repeat(first|apply wG|(apply wR;simp -dsimp)|refine aI ?_)
     refine WP.ret (finQ.ret ?_)
     simp -dsimp
     rw [V.ok, br_, ct_, hb]
     simp
    ·simp only [Bool.not_eq_false'] at hb
     refine WP.skip ?_
     simp -dsimp
     repeat(first|apply wG|(apply wR;simp -dsimp)|refine aI ?_)
     have e1 : IntKind.i64.wrap ((l1.length : Int) + 1) = (l1.length : Int) + 1 := IntWalk.i64_in _ (by simp at hl; omega)
     refine ah_ (mkS 52 [(1, .ptr 1 0), (3, .d (.v (.int .i64 (l1 ++ [V.mk k n s lv]).length)))] [(1, bV 3 _ _ (l1 ++ .mk k n s lv :: l2))])
      (ae_ [] (by simp [e1]) (by simp [bV, slV])) l2.length (by simp) ⟨l1 ++ [.mk k n s lv], l2, by simp, rfl, by simp [br_, ct_, h1, hb], rfl⟩
  ·have hk3 : ¬ k = 3 := of_decide_eq_false hb
   refine WP.skip ?_
   simp -dsimp
   repeat(first|apply wG|(apply wR;simp -dsimp)|refine aI ?_)
   refine WP.ret (finQ.ret ?_)
   simp -dsimp [V.ok, hk1, hk2, hk3]
theorem x1_ (v : V) : Fn0 Tryz.prog 260 [v.d] (.v (.bool v.ok)) := Bh_ v.sz v (Nat.le_refl _)
theorem Bg_ : ∀ (N : Nat) (v : V), v.sz ≤ N → v.dep ≤ 1000000 → Fn0 Tryz.prog 261 [v.d] (.v (.int .i64 v.dep)) := by
 intro N
 induction N with
 | zero => rintro ⟨k, n, s, l⟩ hN; rw [V.sz] at hN; omega
 | succ N ih =>
  rintro ⟨k, n, s, l⟩ hN hd
  refine ac_ (pn := ap_) aa_ Tryz.func261 rfl fun β0 => ?_
  simp only [Tryz.f261]
  rw [V.d, V.cells]
  repeat(first|apply wG|(apply wR;simp -dsimp)|refine aI ?_)
  refine WP.cond (b := !decide (k = 3)) (by simp) (fun hb => ?_) (fun hb => ?_)
  ·have hb : ¬ k = 3 := by simpa using hb
   repeat(first|apply wG|(apply wR;simp -dsimp)|refine aI ?_)
   refine WP.ret (finQ.ret ?_)
   simp -dsimp [V.dep, hb]
  have hb : k = 3 := by simpa using hb
  subst hb
  refine WP.skip ?_
  simp -dsimp
  repeat(first|apply wG|(apply wR;simp -dsimp)|refine aI ?_)
  have hd' : aU_ l + 1 ≤ 1000000 := by simpa [V.dep] using hd
  refine ak_ (fun m S => ∃ l1 l2, l = l1 ++ l2 ∧ m = l2.length ∧ S = mkS 25 [(1, .ptr 1 0), (3, .d (.v (.int .i64 (aU_ l1)))), (4, .d (.v (.int .i64 l1.length)))] [(1, bV 3 n s l)]) l.length
   (S0 := mkS 25 [(1, .ptr 1 0), (3, .d (.v (.int .i64 0))), (4, .d (.v (.int .i64 0)))] [(1, bV 3 n s l)]) (ae_ [] (by simp) (by simp [bV, slV])) ⟨[], l, rfl, rfl, by simp [aU_]⟩ ?_
  rintro _ _ ⟨l1, l2, rfl, rfl, rfl⟩
  simp -dsimp [bV, slV]
  repeat(first|apply wG|(apply wR;simp -dsimp)|refine aI ?_)
  refine WP.len (.tmp 10) rfl fun hl => ?_
  have hm : maxLen = 9223372036854775807 := rfl
  rw [hm] at hl
  rw [bz_] at hd'
  cases l2 with
  | nil =>
   refine cF (by simp) ?_
   refine WP.exit ?_
   simp -dsimp
   repeat(first|apply wG|(apply wR;simp -dsimp)|refine aI ?_)
   simp [aU_] at hd'
   have e1 : IntKind.i64.wrap ((aU_ l1 : Int) + 1) = (aU_ l1 : Int) + 1 := IntWalk.i64_in _ (by omega)
   refine WP.ret (finQ.ret ?_)
   simp -dsimp [V.dep, e1]
  | cons v l2 =>
   refine cT (by simp; omega) ?_
   refine WP.skip ?_
   simp -dsimp
   refine WP.seq (WP.block ?_)
   have hv := cT_ l1 v l2
   obtain ⟨k, n, s, lv⟩ := v
   rw [V.cells] at hv
   repeat(first|apply wG|(apply wR;simp -dsimp [hv])|refine aI ?_)
   have hdv : (V.mk k n s lv).dep ≤ 1000000 := by simp only [aU_] at hd'; omega
   refine ad_ gn_ (ih (.mk k n s lv) (in_ hN) hdv) rfl rfl (by simp [V.d, V.cells]) ?_
   simp -dsimp
   repeat(first|apply wG|(apply wR;simp -dsimp)|refine aI ?_)
   have e1 : IntKind.i64.wrap ((l1.length : Int) + 1) = (l1.length : Int) + 1 := IntWalk.i64_in _ (by simp at hl; omega)
   refine ah_ (mkS 25 [(1, .ptr 1 0), (3, .d (.v (.int .i64 (aU_ (l1 ++ [V.mk k n s lv]))))), (4, .d (.v (.int .i64 (l1 ++ [V.mk k n s lv]).length)))] [(1, bV 3 _ _ (l1 ++ .mk k n s lv :: l2))])
    (ae_ [] (by simp [e1, bz_, aU_, BH_]) (by simp [bV, slV])) l2.length (by simp) ⟨l1 ++ [.mk k n s lv], l2, by simp, rfl, rfl⟩
theorem x0_ (v : V) (h : v.dep ≤ 1000000) : Fn0 Tryz.prog 261 [v.d] (.v (.int .i64 v.dep)) := Bg_ v.sz v (Nat.le_refl _) h
theorem x5_ (v : V) (h : v.dep ≤ 1000000) : Fn0 Tryz.prog 218 [v.d] (.v (.int .i64 v.chk)) := by
 refine ac_ (pn := ap_) aa_ Tryz.func218 rfl fun β0 => ?_
 simp only [Tryz.f218]
 obtain ⟨k, n, s, l⟩ := v
 rw [V.d, V.cells]
 repeat(first|apply wG|(apply wR;simp -dsimp)|refine aI ?_)
 refine ad_ go_ (x1_ (.mk k n s l)) rfl rfl (by simp [V.d, V.cells]) ?_
 simp -dsimp
 repeat(first|apply wG|(apply wR;simp -dsimp)|refine aI ?_)
 cases hok : V.ok (.mk k n s l) with
 | false =>
  refine cT (by simp) ?_
  repeat(first|apply wG|(apply wR;simp -dsimp)|refine aI ?_)
  refine WP.ret (finQ.ret ?_)
  simp -dsimp [V.chk, hok]
 | true =>
  refine cF (by simp) ?_
  refine WP.skip ?_
  simp -dsimp
  repeat(first|apply wG|(apply wR;simp -dsimp)|refine aI ?_)
  refine ad_ gn_ (x0_ (.mk k n s l) h) rfl rfl (by simp [V.d, V.cells]) ?_
  simp -dsimp
  repeat(first|apply wG|(apply wR;simp -dsimp)|refine aI ?_)
  refine WP.cond (b := decide (16 < V.dep (.mk k n s l))) (by simp; omega) (fun hb => ?_) (fun hb => ?_)
  ·have hb := of_decide_eq_true hb
   repeat(first|apply wG|(apply wR;simp -dsimp)|refine aI ?_)
   refine WP.ret (finQ.ret ?_)
   simp -dsimp [V.chk, hok, hb]
  ·have hb := of_decide_eq_false hb
   refine WP.skip ?_
   simp -dsimp
   repeat(first|apply wG|(apply wR;simp -dsimp)|refine aI ?_)
   refine WP.ret (finQ.ret ?_)
   simp -dsimp [V.chk, hok, hb]
end Go.Proofs.YtnljenjcaeophaaGreatDoor
namespace Go.Proofs.YtnljenjcaeophaaGreatDoor
open Go.Xe Go.RowKit
@[simp] def rowB (bs : List UInt8) : Box := .row 5 1 bs.length ((bys bs).map .d)
@[simp] theorem BK_ : aT_ 1 = .v (.int .u8 1) := rfl
@[simp] theorem BJ_ : aT_ 2 = .v (.int .u8 2) := rfl
@[simp] theorem BI_ : aT_ 3 = .v (.int .u8 3) := rfl
@[simp] theorem xH_ (l : List UInt8) : l.map aT_ = bys l := rfl
@[simp] theorem vf_ (s : ByteArray) : s.data.size = s.size := rfl
theorem s5_ (s : ByteArray) : s.data.toList.length = s.size := rfl
theorem ny_ {u : Nat} (h : isU u) {bs : List UInt8} (hb : bs.length ≤ 1000000000000) :
  Fun Tryz.prog 235 [.row 1000, .d (.v (.int .u64 u))] [(1000, rowB bs)] (.row 0) [(0, rowB (bs ++ bR_ u))] fun _ => False := xZ_ h hb
theorem uO_ {n : Int} (h : isI n) (s : ByteArray) (l : List V) {bs : List UInt8} (hb : bs.length ≤ 1000000000) :
  Fun Tryz.prog 234 [.row 1000, .d (V.mk 1 n s l).d] [(1000, rowB bs)] (.row 0) [(0, rowB (bs ++ (V.mk 1 n s l).enc))] fun _ => False := by
 refine ac_ (pn := ap_) aa_ Tryz.func234 rfl fun β0 => ?_
 simp only [Tryz.f234]
 rw [V.d, V.cells]
 simp -dsimp [rowB]
 repeat(first|apply wG|(apply wR;simp -dsimp)|refine aI ?_)
 refine ad_ ma_ (xY_ h) rfl rfl (by simp) ?_
 simp -dsimp
 repeat refine aI ?_
 refine vcStop.call dM_ (ny_ (kL_ h) (bs := bs ++ [1]) (by simp; omega)) (rl [(1000, 7), (0, 11)]) rfl rfl (by simp [rowB, BoxLeq]) (aj_ (by simp [rowB, BoxLeq]) rfl (by first | rfl | (simp [rowB, BoxLeq]; done)) (by simp [rowB, BoxLeq]) (by simp [rowB, BoxLeq])) (fun _ h => h.elim) (fun ⟨_, h⟩ => h.elim) (fun ⟨_, h⟩ => h.elim) (by simp [rowB, BoxLeq]) ?_
 simp -dsimp [rowB]
 repeat(first|apply wG|(apply wR;simp -dsimp)|refine aI ?_)
 refine WP.ret (aV_ (S' := mkS 12 [(4, .row 0)] [(0, rowB (bs ++ (V.mk 1 n s l).enc))]) (Wk.go [] 11 0 (by decide) (by simp) (by simp) (by simp [rowB, V.enc])) ?_)
 simp
theorem uN_ (n : Int) (s : ByteArray) (l : List V) {bs : List UInt8} (hb : bs.length + s.size ≤ 1000000000) :
  Fun Tryz.prog 237 [.row 1000, .d (V.mk 2 n s l).d] [(1000, rowB bs)] (.row 0) [(0, rowB (bs ++ (V.mk 2 n s l).enc))] fun _ => False := by
 refine ac_ (pn := ap_) aa_ Tryz.func237 rfl fun β0 => ?_
 simp only [Tryz.f237]
 rw [V.d, V.cells]
 simp -dsimp [rowB]
 repeat(first|apply wG|(apply wR;simp -dsimp)|refine aI ?_)
 have e1 : IntKind.u64.wrap (s.size : Int) = (s.size : Nat) := IntWalk.u64_in _ (by omega)
 have hd := a8_ (u := s.size) (by unfold isU; omega)
 rw [e1]
 refine vcStop.call dM_ (ny_ (u := s.size) (by unfold isU; omega) (bs := bs ++ [2]) (by simp; omega)) (rl [(1000, 7), (0, 12)]) rfl rfl (by simp [rowB, BoxLeq]) (aj_ (by simp [rowB, BoxLeq]) rfl (by first | rfl | (simp [rowB, BoxLeq]; done)) (by simp [rowB, BoxLeq]) (by simp [rowB, BoxLeq])) (fun _ h => h.elim) (fun ⟨_, h⟩ => h.elim) (fun ⟨_, h⟩ => h.elim) (by simp [rowB, BoxLeq]) ?_
 simp -dsimp [rowB]
 repeat refine aI ?_
 repeat(first|apply wG|(apply wR;simp -dsimp)|refine aI ?_)
 refine WP.ret (aV_ (S' := mkS 16 [(4, .row 0)] [(0, rowB (bs ++ (V.mk 2 n s l).enc))]) (Wk.go [] 15 0 (by decide) (by simp) (by simp) (by simp [rowB, V.enc, s5_]; omega)) ?_)
 simp
end Go.Proofs.YtnljenjcaeophaaGreatDoor
namespace Go.Proofs.YtnljenjcaeophaaGreatDoor
open Go.Xe Go.RowKit
@[simp] def wb (c : Nat) : Box := .cells 297 [.d (.v .nilFunc), .d (.v (.func (.func 234) #[] #[])), .d (.v (.func (.func 237) #[] #[])), .fn (.func 238) [] [.ptr c 0]]
@[simp] def wc (b : Nat) : Box := .cells 252 [.ptr b 0]
theorem rT_ : Fun Tryz.prog 196 [] [] (.ptr 0 0) [(0, wb 1), (1, wc 0)] fun _ => False := by
 refine ac_ (pn := ap_) aa_ Tryz.func196 rfl fun β0 => ?_
 simp only [Tryz.f196]
 repeat(first|apply wG|(apply wR;simp -dsimp)|refine aI ?_)
 refine WP.ret (aV_ (S' := mkS 18 [(0, .ptr 0 0)] [(0, wb 1), (1, wc 0)]) (Wk.go [] 3 0 (by decide) (by simp) (by simp) (by simp [wb, wc])) ?_)
 simp
theorem l5_ {k n : Int} {s : ByteArray} {l : List V} (h : V.ok (.mk k n s l) = true) : k = 1 ∨ k = 2 ∨ (k = 3 ∧ ct_ l = true) := by
 rw [V.ok] at h
 split at h
 ·exact .inl ‹_›
 ·split at h
  ·exact .inr (.inl ‹_›)
  ·split at h
   ·simp only [Bool.and_eq_true] at h; exact .inr (.inr ⟨‹_›, h.2⟩)
   ·cases h
theorem dJ_ {k n : Int} {s : ByteArray} {l : List V} (h : V.rng (.mk k n s l) = true) : isI n ∧ bB_ l = true := by
 rw [V.rng] at h
 simp only [Bool.and_eq_true, decide_eq_true_eq] at h
 exact ⟨h.1.2, h.2⟩
theorem Bf_ : ∀ (N : Nat) (n : Int) (s : ByteArray) (l : List V) (bs : List UInt8), (V.mk 3 n s l).sz ≤ N → ct_ l = true → bB_ l = true → bs.length + (V.enc (.mk 3 n s l)).length ≤ 1000000000 →
  Fun Tryz.prog 238 [.row 1000, .d (V.mk 3 n s l).d, .ptr 1001 0] [(1000, rowB bs), (1001, wc 1002), (1002, wb 1001)] (.row 0) [(0, rowB (bs ++ V.enc (.mk 3 n s l))), (1001, wc 1002), (1002, wb 1001)] fun _ => False := by
 intro N
 induction N with
 | zero => intro n s l bs hN; rw [V.sz] at hN; omega
 | succ N ih =>
  intro n s l bs hN hok hrg hlen
  refine ac_ (pn := ap_) aa_ Tryz.func238 rfl fun β0 => ?_
  simp only [Tryz.f238]
  rw [V.d, V.cells]
  simp -dsimp [rowB, wb, wc]
  refine sA_ (.tmp 1) 3 rfl fun hl => ?_
  have hm : maxLen = 9223372036854775807 := rfl
  rw [hm] at hl
  have e1 : IntKind.u64.wrap (l.length : Int) = (l.length : Nat) := IntWalk.u64_in _ (by omega)
  have hd := a8_ (u := l.length) (by unfold isU; omega)
  have he : (V.mk 3 n s l).enc = 3 :: (bR_ l.length ++ ax_ l) := by simp [V.enc]
  have hlen' : bs.length + (1 + (bR_ l.length).length + (ax_ l).length) ≤ 1000000000 := by
   rw [he] at hlen; simp at hlen; omega
  repeat(first|apply wG|(apply wR;simp -dsimp)|refine aI ?_)
  rw [e1]
  refine vcStop.call dM_ (ny_ (u := l.length) (by unfold isU; omega) (bs := bs ++ [3]) (by simp; omega)) (rl [(1000, 10), (0, 15)]) rfl rfl (by simp [rowB, BoxLeq]) (aj_ (by simp [rowB, BoxLeq]) rfl (by first | rfl | (simp [rowB, BoxLeq]; done)) (by simp [rowB, BoxLeq]) (by simp [rowB, BoxLeq])) (fun _ h => h.elim) (fun ⟨_, h⟩ => h.elim) (fun ⟨_, h⟩ => h.elim) (by simp [rowB, BoxLeq]) ?_
  simp -dsimp [rowB]
  repeat(first|apply wG|(apply wR;simp -dsimp)|refine aI ?_)
  refine ak_ (fun m S => ∃ l1 l2, l = l1 ++ l2 ∧ m = l2.length ∧ S = mkS 35 [(0, .row 500), (2, .ptr 1001 0), (17, .d (slV l)), (18, .d (.v (.int .i64 l.length))), (19, .d (.v (.int .i64 l1.length)))] [(500, rowB (bs ++ 3 :: (bR_ l.length ++ ax_ l1))), (1001, wc 1002), (1002, wb 1001)]) l.length
   (S0 := mkS 35 [(0, .row 500), (2, .ptr 1001 0), (17, .d (slV l)), (18, .d (.v (.int .i64 l.length))), (19, .d (.v (.int .i64 0)))] [(500, rowB (bs ++ 3 :: (bR_ l.length ++ ax_ []))), (1001, wc 1002), (1002, wb 1001)])
   (Wk.go [] 15 500 (by decide) (by simp) (by simp [slV]) (by simp [rowB, wb, wc, ax_])) ⟨[], l, rfl, rfl, by simp⟩ ?_
  rintro _ _ ⟨l1, l2, hl12, rfl, rfl⟩
  simp -dsimp [slV]
  repeat(first|apply wG|(apply wR;simp -dsimp)|refine aI ?_)
  cases l2 with
  | nil =>
   simp only [List.append_nil] at hl12
   subst hl12
   refine cF (by simp) ?_
   refine WP.exit ?_
   simp -dsimp
   repeat(first|apply wG|(apply wR;simp -dsimp)|refine aI ?_)
   refine WP.ret (aV_ (S' := mkS 35 [(5, .row 0)] [(0, rowB (bs ++ V.enc (.mk 3 n s l))), (1001, wc 1002), (1002, wb 1001)]) (Wk.go [] 500 0 (by decide) (by simp) (by simp) (by simp [rowB, wb, wc, he])) ?_)
   simp [wb, wc]
  | cons v l2 =>
   have hll : l.length = l1.length + (l2.length + 1) := by rw [hl12]; simp
   refine cT (by simp; omega) ?_
   refine WP.skip ?_
   simp -dsimp
   refine WP.seq (WP.block ?_)
   have hv := cT_ l1 v l2
   rw [← hl12] at hv
   have hokv : v.ok = true := by rw [hl12, br_, ct_] at hok; simp only [Bool.and_eq_true] at hok; exact hok.2.1
   have hrgv : v.rng = true := by rw [hl12, df_, bB_] at hrg; simp only [Bool.and_eq_true] at hrg; exact hrg.2.1
   have hlv : bs.length + (1 + (bR_ l.length).length + (ax_ l1).length + v.enc.length) ≤ 1000000000 := by
    have : (ax_ l).length = (ax_ l1).length + (v.enc.length + (ax_ l2).length) := by rw [hl12, aW_, ax_]; simp
    omega
   obtain ⟨k, n', s', lv⟩ := v
   rw [V.cells] at hv
   have e2 : IntKind.i64.wrap ((l1.length : Int) + 1) = (l1.length : Int) + 1 := IntWalk.i64_in _ (by omega)
   have hI : ∀ (X : List UInt8), X = bs ++ 3 :: (bR_ l.length ++ ax_ l1) ++ V.enc (.mk k n' s' lv) → X = bs ++ 3 :: (bR_ l.length ++ ax_ (l1 ++ [.mk k n' s' lv])) := fun X hX => by rw [hX, aW_, ax_, ax_]; simp
   rcases l5_ hokv with rfl | rfl | ⟨rfl, hokl⟩
   ·repeat(first|apply wG|(apply wR;simp -dsimp [hv])|refine aI ?_)
    have hx : (V.enc (.mk 1 n' s' lv)).length = 1 + (bR_ (zig n')).length := by simp [V.enc]; omega
    refine vcStop.call gs_ (uO_ (dJ_ hrgv).1 s' lv (bs := bs ++ 3 :: (bR_ l.length ++ ax_ l1)) (by simp; omega)) (rl [(1000, 500), (0, 32)]) rfl rfl (by simp [V.d, V.cells, BoxLeq]) (aj_ (by simp [V.d, V.cells, BoxLeq]) rfl (by first | rfl | (simp [V.d, V.cells, BoxLeq]; done)) (by simp [V.d, V.cells, BoxLeq]) (by simp [V.d, V.cells, BoxLeq])) (fun _ h => h.elim) (fun ⟨_, h⟩ => h.elim) (fun ⟨_, h⟩ => h.elim) (by simp [V.d, V.cells, BoxLeq]) ?_
    simp -dsimp
    repeat(first|apply wG|(apply wR;simp -dsimp)|refine aI ?_)
    refine ah_ (mkS 35 [(0, .row 500), (2, .ptr 1001 0), (17, .d (slV l)), (18, .d (.v (.int .i64 l.length))), (19, .d (.v (.int .i64 (l1 ++ [V.mk 1 n' s' lv]).length)))] [(500, rowB (bs ++ 3 :: (bR_ l.length ++ ax_ (l1 ++ [.mk 1 n' s' lv])))), (1001, wc 1002), (1002, wb 1001)])
     (Wk.go [] 32 500 (by decide) (by simp) (by simp [e2]) (by simp [aW_, ax_])) l2.length (by simp) ⟨l1 ++ [.mk 1 n' s' lv], l2, by simp [hl12], rfl, rfl⟩
   ·repeat(first|apply wG|(apply wR;simp -dsimp [hv])|refine aI ?_)
    have hx : (V.enc (.mk 2 n' s' lv)).length = 1 + ((bR_ s'.size).length + s'.size) := by simp [V.enc]; omega
    refine vcStop.call gr_ (uN_ n' s' lv (bs := bs ++ 3 :: (bR_ l.length ++ ax_ l1)) (by simp; omega)) (rl [(1000, 500), (0, 32)]) rfl rfl (by simp [V.d, V.cells, BoxLeq]) (aj_ (by simp [V.d, V.cells, BoxLeq]) rfl (by first | rfl | (simp [V.d, V.cells, BoxLeq]; done)) (by simp [V.d, V.cells, BoxLeq]) (by simp [V.d, V.cells, BoxLeq])) (fun _ h => h.elim) (fun ⟨_, h⟩ => h.elim) (fun ⟨_, h⟩ => h.elim) (by simp [V.d, V.cells, BoxLeq]) ?_
    simp -dsimp
    repeat(first|apply wG|(apply wR;simp -dsimp)|refine aI ?_)
    refine ah_ (mkS 35 [(0, .row 500), (2, .ptr 1001 0), (17, .d (slV l)), (18, .d (.v (.int .i64 l.length))), (19, .d (.v (.int .i64 (l1 ++ [V.mk 2 n' s' lv]).length)))] [(500, rowB (bs ++ 3 :: (bR_ l.length ++ ax_ (l1 ++ [.mk 2 n' s' lv])))), (1001, wc 1002), (1002, wb 1001)])
     (Wk.go [] 32 500 (by decide) (by simp) (by simp [e2]) (by simp [aW_, ax_])) l2.length (by simp) ⟨l1 ++ [.mk 2 n' s' lv], l2, by simp [hl12], rfl, rfl⟩
   ·repeat(first|apply wG|(apply wR;simp -dsimp [hv])|refine aI ?_)
    refine vcStop.call gq_ (ih n' s' lv (bs ++ 3 :: (bR_ l.length ++ ax_ l1)) (in_ (by rw [← hl12]; exact hN)) hokl (dJ_ hrgv).2 (by simp; omega)) (rl [(1000, 500), (0, 32)]) rfl rfl (by simp [V.d, V.cells, BoxLeq]) (aj_ (by simp [V.d, V.cells, BoxLeq]) rfl (by first | rfl | (simp [V.d, V.cells, BoxLeq]; done)) (by simp [V.d, V.cells, BoxLeq]) (by simp [V.d, V.cells, BoxLeq])) (fun _ h => h.elim) (fun ⟨_, h⟩ => h.elim) (fun ⟨_, h⟩ => h.elim) (by simp [V.d, V.cells, BoxLeq]) ?_
    simp -dsimp
    repeat(first|apply wG|(apply wR;simp -dsimp)|refine aI ?_)
    refine ah_ (mkS 35 [(0, .row 500), (2, .ptr 1001 0), (17, .d (slV l)), (18, .d (.v (.int .i64 l.length))), (19, .d (.v (.int .i64 (l1 ++ [V.mk 3 n' s' lv]).length)))] [(500, rowB (bs ++ 3 :: (bR_ l.length ++ ax_ (l1 ++ [.mk 3 n' s' lv])))), (1001, wc 1002), (1002, wb 1001)])
     (Wk.go [] 32 500 (by decide) (by simp) (by simp [e2]) (by simp [aW_, ax_])) l2.length (by simp) ⟨l1 ++ [.mk 3 n' s' lv], l2, by simp [hl12], rfl, rfl⟩
theorem v8_ {n : Int} (h : isI n) (s : ByteArray) (l : List V) : Fun Tryz.prog 234 [.d (.v (.slice none 0 0)), .d (V.mk 1 n s l).d] [] (.row 0) [(0, rowB (V.mk 1 n s l).enc)] fun _ => False := by
 have := uO_ h s l (bs := []) (by simp)
 exact ee_ (by simpa using this) rfl rfl (by simp) rfl
theorem v7_ (n : Int) (s : ByteArray) (l : List V) (h : s.size ≤ 1000000000) : Fun Tryz.prog 237 [.d (.v (.slice none 0 0)), .d (V.mk 2 n s l).d] [] (.row 0) [(0, rowB (V.mk 2 n s l).enc)] fun _ => False := by
 have := uN_ n s l (bs := []) (by simpa using h)
 exact ee_ (by simpa using this) rfl rfl (by simp) rfl
theorem v6_ (n : Int) (s : ByteArray) (l : List V) (h1 : ct_ l = true) (h2 : bB_ l = true) (h3 : (V.enc (.mk 3 n s l)).length ≤ 1000000000) :
  Fun Tryz.prog 238 [.d (.v (.slice none 0 0)), .d (V.mk 3 n s l).d, .ptr 1001 0] [(1001, wc 1002), (1002, wb 1001)] (.row 0) [(0, rowB (V.enc (.mk 3 n s l))), (1001, wc 1002), (1002, wb 1001)] fun _ => False := by
 have := Bf_ _ n s l [] (Nat.le_refl _) h1 h2 (by simpa using h3)
 exact ee_ (by simpa using this) rfl (by simp) (by simp) rfl
def V.encB (v : V) : List UInt8 := if v.chk = 0 then v.enc else []
theorem kA_ {v : V} (h : v.chk = 0) : v.ok = true := by
 rw [V.chk] at h
 split at h
 ·assumption
 ·cases h
theorem x8_ (v : V) (hd : v.dep ≤ 1000000) (hr : v.rng = true) (hl : v.enc.length ≤ 1000000000) : Fn0 Tryz.prog 143 [v.d] (.tup [slB v.encB, .v (.int .i64 v.chk)]) := by
 refine ac_ (pn := ap_) aa_ Tryz.func143 rfl fun β0 => ?_
 simp only [Tryz.f143]
 obtain ⟨k, n, s, l⟩ := v
 rw [V.d, V.cells]
 repeat(first|apply wG|(apply wR;simp -dsimp)|refine aI ?_)
 refine ad_ mk_ (x6_ (.mk k n s l) hd) rfl rfl (by simp [V.d, V.cells]) ?_
 simp -dsimp
 repeat(first|apply wG|(apply wR;simp -dsimp)|refine aI ?_)
 refine WP.cond (b := !decide (V.chk (.mk k n s l) = 0)) (by simp) (fun hb => ?_) (fun hb => ?_)
 ·have hb : ¬ V.chk (.mk k n s l) = 0 := by simpa using hb
  repeat(first|apply wG|(apply wR;simp -dsimp)|refine aI ?_)
  refine WP.ret (finQ.ret ?_)
  simp -dsimp [V.encB, hb, slB]
 have hb : V.chk (.mk k n s l) = 0 := by simpa using hb
 refine WP.skip ?_
 simp -dsimp
 repeat(first|apply wG|(apply wR;simp -dsimp)|refine aI ?_)
 rcases l5_ (kA_ hb) with rfl | rfl | ⟨rfl, hokl⟩
 ·refine vcStop.call dN_ (rT_) (rl [(0, 10), (1, 600)]) rfl rfl (by simp [BoxLeq]) (aj_ (by simp [BoxLeq]) rfl (by first | rfl | (simp [BoxLeq]; done)) (by simp [BoxLeq]) (by simp [BoxLeq])) (fun _ h => h.elim) (fun ⟨_, h⟩ => h.elim) (fun ⟨_, h⟩ => h.elim) (by simp [BoxLeq]) ?_
  simp -dsimp
  repeat refine aI ?_
  refine vcStop.call gs_ (v8_ (dJ_ hr).1 s l) (rl [(0, 18)]) rfl rfl (by simp [V.d, V.cells, BoxLeq]) (aj_ (by simp [V.d, V.cells, BoxLeq]) rfl (by first | rfl | (simp [V.d, V.cells, BoxLeq]; done)) (by simp [V.d, V.cells, BoxLeq]) (by simp [V.d, V.cells, BoxLeq])) (fun _ h => h.elim) (fun ⟨_, h⟩ => h.elim) (fun ⟨_, h⟩ => h.elim) (by simp [V.d, V.cells, BoxLeq]) ?_
  simp -dsimp
  repeat(first|apply wG|(apply wR;simp -dsimp)|refine aI ?_)
  refine WP.ret (aV_ (Wk.freeze (k := 18) (T := 5) (sz := 1) (ds := bys _) (by simp; exact ⟨rfl, rfl⟩)) ?_)
  simp [V.encB, hb, slB]
 ·refine vcStop.call dN_ (rT_) (rl [(0, 10), (1, 600)]) rfl rfl (by simp [BoxLeq]) (aj_ (by simp [BoxLeq]) rfl (by first | rfl | (simp [BoxLeq]; done)) (by simp [BoxLeq]) (by simp [BoxLeq])) (fun _ h => h.elim) (fun ⟨_, h⟩ => h.elim) (fun ⟨_, h⟩ => h.elim) (by simp [BoxLeq]) ?_
  simp -dsimp
  repeat refine aI ?_
  have hx : s.size ≤ 1000000000 := by simp [V.enc] at hl; omega
  refine vcStop.call gr_ (v7_ n s l hx) (rl [(0, 18)]) rfl rfl (by simp [V.d, V.cells, BoxLeq]) (aj_ (by simp [V.d, V.cells, BoxLeq]) rfl (by first | rfl | (simp [V.d, V.cells, BoxLeq]; done)) (by simp [V.d, V.cells, BoxLeq]) (by simp [V.d, V.cells, BoxLeq])) (fun _ h => h.elim) (fun ⟨_, h⟩ => h.elim) (fun ⟨_, h⟩ => h.elim) (by simp [V.d, V.cells, BoxLeq]) ?_
  simp -dsimp
  repeat(first|apply wG|(apply wR;simp -dsimp)|refine aI ?_)
  refine WP.ret (aV_ (Wk.freeze (k := 18) (T := 5) (sz := 1) (ds := bys _) (by simp; exact ⟨rfl, rfl⟩)) ?_)
  simp [V.encB, hb, slB]
 ·refine vcStop.call dN_ (rT_) (rl [(0, 10), (1, 600)]) rfl rfl (by simp [BoxLeq]) (aj_ (by simp [BoxLeq]) rfl (by first | rfl | (simp [BoxLeq]; done)) (by simp [BoxLeq]) (by simp [BoxLeq])) (fun _ h => h.elim) (fun ⟨_, h⟩ => h.elim) (fun ⟨_, h⟩ => h.elim) (by simp [BoxLeq]) ?_
  simp -dsimp
  repeat refine aI ?_
  refine vcStop.call gq_ (v6_ n s l hokl (dJ_ hr).2 hl) (rl [(1001, 600), (1002, 10), (0, 18)]) rfl rfl (by simp [V.d, V.cells, BoxLeq]) (aj_ (by simp [V.d, V.cells, BoxLeq]) rfl (by first | rfl | (simp [V.d, V.cells, BoxLeq]; done)) (by simp [V.d, V.cells, BoxLeq]) (by simp [V.d, V.cells, BoxLeq])) (fun _ h => h.elim) (fun ⟨_, h⟩ => h.elim) (fun ⟨_, h⟩ => h.elim) (by simp [V.d, V.cells, BoxLeq]) ?_
  simp -dsimp
  repeat(first|apply wG|(apply wR;simp -dsimp)|refine aI ?_)
  refine WP.ret (aV_ (Wk.freeze (k := 18) (T := 5) (sz := 1) (ds := bys _) (by simp; exact ⟨rfl, rfl⟩)) ?_)
  simp [V.encB, hb, slB]
end Go.Proofs.YtnljenjcaeophaaGreatDoor
namespace Go.Proofs.YtnljenjcaeophaaGreatDoor
open Go.Xe Go.RowKit
@[simp] theorem BD_ (l : List UInt8) : slB l = .sl 1 (bys l) l.length false := rfl
theorem Bj_ : ∀ (N : Nat) (v : V), v.sz ≤ N → v.rng = true → v.enc.length ≤ 1000000000 → Fn0 Tryz.prog 219 [v.d] (slB v.enc) := by
 intro N
 induction N with
 | zero => rintro ⟨k, n, s, l⟩ hN; rw [V.sz] at hN; omega
 | succ N ih =>
  rintro ⟨k, n, s, l⟩ hN hrg hlen
  refine ac_ (pn := ap_) aa_ Tryz.func219 rfl fun β0 => ?_
  simp only [Tryz.f219]
  rw [V.d, V.cells]
  refine sA_ (.tmp 0) 3 rfl fun hl => ?_
  have hm : maxLen = 9223372036854775807 := rfl
  rw [hm] at hl
  have hI := (dJ_ hrg).1
  repeat(first|apply wG|(apply wR;simp -dsimp)|refine aI ?_)
  refine WP.cond (b := decide (k = 1)) (by simp) (fun hb => ?_) (fun hb => ?_)
  ·have hb := of_decide_eq_true hb
   subst hb
   repeat(first|apply wG|(apply wR;simp -dsimp)|refine aI ?_)
   refine ad_ l9_ (xX_ hI) rfl rfl (by simp) ?_
   simp -dsimp
   repeat refine aI ?_
   refine ad_ cA_ (oR_ _ (kL_ hI)) rfl rfl (by simp) ?_
   have := a8_ (kL_ hI)
   simp -dsimp
   repeat(first|apply wG|(apply wR;simp -dsimp)|refine aI ?_)
   refine WP.ret (aV_ (Wk.freeze (k := 14) (T := 5) (sz := 1) (ds := bys (1 :: bR_ (zig n))) (by simp; rfl)) ?_)
   simp [V.enc, Nat.add_comm, Nat.add_left_comm]
  have hk1 : ¬ k = 1 := of_decide_eq_false hb
  repeat(first|apply wG|(apply wR;simp -dsimp)|refine aI ?_)
  refine WP.cond (b := decide (k = 2)) (by simp) (fun hb => ?_) (fun hb => ?_)
  ·have hb := of_decide_eq_true hb
   subst hb
   have hx : s.size ≤ 1000000000 := by simp [V.enc] at hlen; omega
   have e1 : IntKind.u64.wrap (s.size : Int) = (s.size : Nat) := IntWalk.u64_in _ (by omega)
   repeat(first|apply wG|(apply wR;simp -dsimp)|refine aI ?_)
   rw [e1]
   refine ad_ cA_ (oR_ s.size (by unfold isU; omega)) rfl rfl (by simp) ?_
   have := a8_ (u := s.size) (by unfold isU; omega)
   simp -dsimp
   repeat(first|apply wG|(apply wR;simp -dsimp)|refine aI ?_)
   refine WP.ret (aV_ (Wk.freeze (k := 26) (T := 5) (sz := 1) (ds := bys (2 :: (bR_ s.size ++ s.data.toList))) (by simp; rfl)) ?_)
   simp [V.enc, Nat.add_comm, Nat.add_left_comm]
  have hk2 : ¬ k = 2 := of_decide_eq_false hb
  have he : (V.mk k n s l).enc = 3 :: (bR_ l.length ++ ax_ l) := by simp [V.enc, hk1, hk2]
  have e1 : IntKind.u64.wrap (l.length : Int) = (l.length : Nat) := IntWalk.u64_in _ (by omega)
  have hd := a8_ (u := l.length) (by unfold isU; omega)
  have hlen' : 1 + (bR_ l.length).length + (ax_ l).length ≤ 1000000000 := by
   rw [he] at hlen; simp at hlen; omega
  have hrgl := (dJ_ hrg).2
  refine WP.skip ?_
  simp -dsimp
  repeat(first|apply wG|(apply wR;simp -dsimp)|refine aI ?_)
  rw [e1]
  refine ad_ cA_ (oR_ l.length (by unfold isU; omega)) rfl rfl (by simp) ?_
  simp -dsimp
  repeat(first|apply wG|(apply wR;simp -dsimp)|refine aI ?_)
  refine ak_ (fun m S => ∃ l1 l2, l = l1 ++ l2 ∧ m = l2.length ∧ S = mkS 50 [(1, .ptr 1 0), (3, .row 500), (4, .d (.v (.int .i64 l1.length)))] [(1, bV k n s l), (500, rowB (3 :: (bR_ l.length ++ ax_ l1)))]) l.length
   (S0 := mkS 50 [(1, .ptr 1 0), (3, .row 500), (4, .d (.v (.int .i64 0)))] [(1, bV k n s l), (500, rowB (3 :: (bR_ l.length ++ ax_ [])))]) (Wk.go [] 33 500 (by decide) (by simp) (by simp) (by simp [ax_]; omega)) ⟨[], l, rfl, rfl, by simp⟩ ?_
  rintro _ _ ⟨l1, l2, hl12, rfl, rfl⟩
  simp -dsimp
  repeat(first|apply wG|(apply wR;simp -dsimp)|refine aI ?_)
  cases l2 with
  | nil =>
   simp only [List.append_nil] at hl12
   subst hl12
   refine cF (by simp) ?_
   refine WP.exit ?_
   simp -dsimp
   repeat(first|apply wG|(apply wR;simp -dsimp)|refine aI ?_)
   refine WP.ret (aV_ (Wk.freeze (k := 500) (T := 5) (sz := 1) (ds := bys (3 :: (bR_ l.length ++ ax_ l))) (by simp; rfl)) ?_)
   simp [he]
  | cons v l2 =>
   have hll : l.length = l1.length + (l2.length + 1) := by rw [hl12]; simp
   refine cT (by simp; omega) ?_
   refine WP.skip ?_
   simp -dsimp
   refine WP.seq (WP.block ?_)
   have hv := cT_ l1 v l2
   rw [← hl12] at hv
   have hrgv : v.rng = true := by rw [hl12, df_, bB_] at hrgl; simp only [Bool.and_eq_true] at hrgl; exact hrgl.2.1
   have hlv : 1 + (bR_ l.length).length + (ax_ l1).length + v.enc.length ≤ 1000000000 := by
    have : (ax_ l).length = (ax_ l1).length + (v.enc.length + (ax_ l2).length) := by rw [hl12, aW_, ax_]; simp
    omega
   obtain ⟨k', n', s', lv⟩ := v
   rw [V.cells] at hv
   have e2 : IntKind.i64.wrap ((l1.length : Int) + 1) = (l1.length : Int) + 1 := IntWalk.i64_in _ (by omega)
   repeat(first|apply wG|(apply wR;simp -dsimp [hv])|refine aI ?_)
   refine ad_ gw_ (ih (.mk k' n' s' lv) (in_ (by rw [← hl12]; exact hN)) hrgv (by omega)) rfl rfl (by simp [V.d, V.cells]) ?_
   simp -dsimp
   repeat(first|apply wG|(apply wR;simp -dsimp)|refine aI ?_)
   refine ah_ (mkS 50 [(1, .ptr 1 0), (3, .row 500), (4, .d (.v (.int .i64 (l1 ++ [V.mk k' n' s' lv]).length)))] [(1, bV k n s l), (500, rowB (3 :: (bR_ l.length ++ ax_ (l1 ++ [.mk k' n' s' lv]))))])
    (Wk.go [] 48 500 (by decide) (by simp) (by simp [e2]) (by simp [aW_, ax_]; omega)) l2.length (by simp) ⟨l1 ++ [.mk k' n' s' lv], l2, by simp [hl12], rfl, rfl⟩
theorem x3_ (v : V) (h1 : v.rng = true) (h2 : v.enc.length ≤ 1000000000) : Fn0 Tryz.prog 219 [v.d] (slB v.enc) := Bj_ v.sz v (Nat.le_refl _) h1 h2
theorem x7_ (v : V) (hd : v.dep ≤ 1000000) (hr : v.rng = true) (hl : v.enc.length ≤ 1000000000) : Fn0 Tryz.prog 187 [v.d] (.tup [slB v.encB, .v (.int .i64 v.chk)]) := by
 refine ac_ (pn := ap_) aa_ Tryz.func187 rfl fun β0 => ?_
 simp only [Tryz.f187]
 obtain ⟨k, n, s, l⟩ := v
 rw [V.d, V.cells]
 repeat(first|apply wG|(apply wR;simp -dsimp)|refine aI ?_)
 refine ad_ md_ (x5_ (.mk k n s l) hd) rfl rfl (by simp [V.d, V.cells]) ?_
 simp -dsimp
 repeat(first|apply wG|(apply wR;simp -dsimp)|refine aI ?_)
 refine WP.cond (b := !decide (V.chk (.mk k n s l) = 0)) (by simp) (fun hb => ?_) (fun hb => ?_)
 ·have hb : ¬ V.chk (.mk k n s l) = 0 := by simpa using hb
  repeat(first|apply wG|(apply wR;simp -dsimp)|refine aI ?_)
  refine WP.ret (finQ.ret ?_)
  simp -dsimp [V.encB, hb]
 have hb : V.chk (.mk k n s l) = 0 := by simpa using hb
 refine WP.skip ?_
 simp -dsimp
 repeat(first|apply wG|(apply wR;simp -dsimp)|refine aI ?_)
 refine ad_ gw_ (x3_ (.mk k n s l) hr hl) rfl rfl (by simp [V.d, V.cells]) ?_
 simp -dsimp
 repeat(first|apply wG|(apply wR;simp -dsimp)|refine aI ?_)
 refine WP.ret (finQ.ret ?_)
 simp -dsimp [V.encB, hb]
end Go.Proofs.YtnljenjcaeophaaGreatDoor
namespace Go.Proofs.YtnljenjcaeophaaGreatDoor
open Go.Xe Go.RowKit
mutual
def V.same : V → V → Bool
 | .mk k n s l, .mk k' n' s' l' => decide (k = k') && decide (n = n') && decide (s = s') && sC_ l l'
def sC_ : List V → List V → Bool
 | [], [] => true
 | v :: l, v' :: l' => V.same v v' && sC_ l l'
 | _, _ => false
end
end Go.Proofs.YtnljenjcaeophaaGreatDoor
namespace Go.Proofs.YtnljenjcaeophaaGreatDoor
open Go.Xe Go.RowKit
end Go.Proofs.YtnljenjcaeophaaGreatDoor
namespace Go.Proofs.YtnljenjcaeophaaGreatDoor
open Go.Xe Go.RowKit
theorem x4_ (n : Int) : Fn0 Tryz.prog 220 [.v (.int .i64 n)] (V.mk 1 n ⟨#[]⟩ []).d := by
 refine ac_ (pn := ap_) aa_ Tryz.func220 rfl fun β0 => ?_
 simp only [Tryz.f220]
 repeat(first|apply wG|(apply wR;simp -dsimp)|refine aI ?_)
 refine WP.ret (finQ.ret ?_)
 simp -dsimp [V.d, V.cells, aD_]
end Go.Proofs.YtnljenjcaeophaaGreatDoor
