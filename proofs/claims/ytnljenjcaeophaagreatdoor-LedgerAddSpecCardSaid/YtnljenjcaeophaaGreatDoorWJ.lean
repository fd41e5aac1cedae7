/-
  Joined texts.
-/
import Derived.Test.YtnljenjcaeophaaGreatDoorWW
import Derived.Test.YtnljenjcaeophaaGreatDoorWI
import Derived.Test.YtnljenjcaeophaaGreatDoorWEX
set_option linter.unusedVariables false
set_option linter.unusedSimpArgs false
set_option linter.unusedSectionVars false
namespace Go.Proofs.YtnljenjcaeophaaGreatDoor
open Go.Xe Go.RowKit
abbrev ha_ : D := .v (.func (.func 59) #[] #[])
@[simp] def cBS : Box := .cells 121 [.d ha_]
abbrev eqS : AV := .fn (.func 104) [] [.ptr 1001 0]
theorem p8_ : Fn0 Tryz.prog 66 [nilD] nilD := by
 refine ac_ (pn := ap_) aa_ Tryz.func66 rfl fun β0 => ?_
 simp only [Tryz.f66]
 repeat(first|apply wG|(apply wR;simp -dsimp)|refine aI ?_)
 refine b4_ aa_ rfl rfl rfl rfl ?_
 simp -dsimp
 repeat(first|apply wG|(apply wR;simp -dsimp)|refine aI ?_)
 refine cT (by simp) ?_
 repeat(first|apply wG|(apply wR;simp -dsimp)|refine aI ?_)
 refine WP.ret (ab_ ?_)
 simp -dsimp
theorem ns_ : Fun Tryz.prog 208 [.d nilD, .d (.v (.int .i64 0)), .d (.v (.int .i64 0)), .d ha_] [] (.tup []) [] fun _ => False := by
 refine ac_ (pn := ap_) aa_ Tryz.func208 rfl fun β0 => ?_
 simp only [Tryz.f208]
 repeat(first|apply wG|(apply wR;simp -dsimp)|refine aI ?_)
 refine ak_ (fun m S => S = mkS 53 [(2, .d (.v (.int .i64 0))), (8, .d (.v (.int .i64 1)))] []) 1
  (S0 := mkS 53 [(2, .d (.v (.int .i64 0))), (8, .d (.v (.int .i64 1)))] []) (ae_ [] (by simp [show IntKind.i64.wrap 1 = 1 by decide]) (by simp)) rfl ?_
 rintro _ _ rfl
 simp -dsimp
 repeat(first|apply wG|(apply wR;simp -dsimp)|refine aI ?_)
 refine cF (by simp) ?_
 refine WP.exit ?_
 simp -dsimp
 refine aF_ (S' := mkS 53 [] []) (ae_ [] (by simp) (by simp)) ?_
 simp -dsimp
theorem m3_ : Fun Tryz.prog 161 [.d nilD, .d (.v (.int .i64 0)), .d ha_] [] (.tup []) [] fun _ => False := by
 refine ac_ (pn := ap_) aa_ Tryz.func161 rfl fun β0 => ?_
 simp only [Tryz.f161]
 repeat(first|apply wG|(apply wR;simp -dsimp)|refine aI ?_)
 refine ak_ (fun m S => S = mkS 63 [(0, .d nilD), (1, .d (.v (.int .i64 0))), (2, .d ha_), (6, .d (.v (.int .i64 20))), (7, .d (.v (.int .i64 0))), (8, .d (.v (.int .i64 20)))] []) 1
  (S0 := mkS 63 [(0, .d nilD), (1, .d (.v (.int .i64 0))), (2, .d ha_), (6, .d (.v (.int .i64 20))), (7, .d (.v (.int .i64 0))), (8, .d (.v (.int .i64 20)))] []) (ae_ [] (by simp) (by simp)) rfl ?_
 rintro _ _ rfl
 simp -dsimp
 repeat(first|apply wG|(apply wR;simp -dsimp)|refine aI ?_)
 refine cF (by simp) ?_
 refine WP.exit ?_
 simp -dsimp
 repeat(first|apply wG|(apply wR;simp -dsimp)|refine aI ?_)
 refine vcStop.call gy_ (ns_) (rl []) rfl rfl (by simp [BoxLeq]) (aj_ (by simp [BoxLeq]) rfl (by first | rfl | (simp [BoxLeq]; done)) (by simp [BoxLeq]) (by simp [BoxLeq])) (fun _ h => h.elim) (fun ⟨_, h⟩ => h.elim) (fun ⟨_, h⟩ => h.elim) (by simp [BoxLeq]) ?_
 simp -dsimp
 repeat(first|apply wG|(apply wR;simp -dsimp)|refine aI ?_)
 refine ak_ (fun m S => S = mkS 63 [(0, .d nilD), (1, .d (.v (.int .i64 0))), (2, .d ha_), (6, .d (.v (.int .i64 20)))] []) 1
  (S0 := mkS 63 [(0, .d nilD), (1, .d (.v (.int .i64 0))), (2, .d ha_), (6, .d (.v (.int .i64 20)))] []) (ae_ [] (by simp) (by simp)) rfl ?_
 rintro _ _ rfl
 simp -dsimp
 repeat(first|apply wG|(apply wR;simp -dsimp)|refine aI ?_)
 refine cF (by simp) ?_
 refine WP.exit ?_
 simp -dsimp
 refine aF_ (S' := mkS 63 [] []) (ae_ [] (by simp) (by simp)) ?_
 simp -dsimp
theorem hE_ : Fun Tryz.prog 102 [.d nilD, .d ha_] [] (.tup []) [] fun _ => False := by
 refine ac_ (pn := ap_) aa_ Tryz.func102 rfl fun β0 => ?_
 simp only [Tryz.f102]
 repeat(first|apply wG|(apply wR;simp -dsimp)|refine aI ?_)
 refine vcStop.call gJ_ (m3_) (rl []) rfl rfl (by simp [BoxLeq]) (aj_ (by simp [BoxLeq]) rfl (by first | rfl | (simp [BoxLeq]; done)) (by simp [BoxLeq]) (by simp [BoxLeq])) (fun _ h => h.elim) (fun ⟨_, h⟩ => h.elim) (fun ⟨_, h⟩ => h.elim) (by simp [BoxLeq]) ?_
 simp -dsimp
 refine aF_ (S' := mkS 9 [] []) (ae_ [] (by simp) (by simp)) ?_
 simp -dsimp
theorem lT_ : Fun Tryz.prog 103 [.d nilD, eqS] [(1001, cBS)] (.d nilD) [(1001, cBS)] fun _ => False := by
 refine ac_ (pn := ap_) aa_ Tryz.func103 rfl fun β0 => ?_
 simp only [Tryz.f103]
 repeat(first|apply wG|(apply wR;simp -dsimp)|refine aI ?_)
 refine cT (by simp) ?_
 repeat(first|apply wG|(apply wR;simp -dsimp)|refine aI ?_)
 refine WP.ret (ab_ ?_)
 simp -dsimp
theorem om_ : Fn0 Tryz.prog 58 [nilD, ha_] nilD := by
 refine ac_ (pn := ap_) aa_ Tryz.func58 rfl fun β0 => ?_
 simp only [Tryz.f58]
 repeat(first|apply wG|(apply wR;simp -dsimp)|refine aI ?_)
 refine ad_ bF_ p8_ rfl rfl (by simp) ?_
 simp -dsimp
 repeat(first|apply wG|(apply wR;simp -dsimp)|refine aI ?_)
 refine vcStop.call dV_ (hE_) (rl []) rfl rfl (by simp [BoxLeq]) (aj_ (by simp [BoxLeq]) rfl (by first | rfl | (simp [BoxLeq]; done)) (by simp [BoxLeq]) (by simp [BoxLeq])) (fun _ h => h.elim) (fun ⟨_, h⟩ => h.elim) (fun ⟨_, h⟩ => h.elim) (by simp [BoxLeq]) ?_
 simp -dsimp
 repeat(first|apply wG|(apply wR;simp -dsimp)|refine aI ?_)
 refine vcStop.call dU_ (lT_) (rl [(1001, 3)]) rfl rfl (by simp [BoxLeq]) (aj_ (by simp [BoxLeq]) rfl (by first | rfl | (simp [BoxLeq]; done)) (by simp [BoxLeq]) (by simp [BoxLeq])) (fun _ h => h.elim) (fun ⟨_, h⟩ => h.elim) (fun ⟨_, h⟩ => h.elim) (by simp [BoxLeq]) ?_
 simp -dsimp
 repeat(first|apply wG|(apply wR;simp -dsimp)|refine aI ?_)
 refine WP.ret (ab_ ?_)
 simp -dsimp
theorem rC_ (g : D) : Fn0 Tryz.prog 131 [nilD, g] (.v (.int .i64 (-1))) := by
 refine ac_ (pn := ap_) aa_ Tryz.func131 rfl fun β0 => ?_
 simp only [Tryz.f131]
 repeat(first|apply wG|(apply wR;simp -dsimp)|refine aI ?_)
 refine ak_ (fun m S => S = mkS 19 [(7, .d (.v (.int .i64 0))), (8, .d (.v (.int .i64 0)))] []) 1
  (S0 := mkS 19 [(7, .d (.v (.int .i64 0))), (8, .d (.v (.int .i64 0)))] []) (ae_ [] (by simp) (by simp)) rfl ?_
 rintro _ _ rfl
 simp -dsimp
 repeat(first|apply wG|(apply wR;simp -dsimp)|refine aI ?_)
 refine cF (by simp) ?_
 refine WP.exit ?_
 simp -dsimp
 repeat(first|apply wG|(apply wR;simp -dsimp)|refine aI ?_)
 refine WP.ret (ab_ ?_)
 simp -dsimp
theorem lS_ (g : D) : Fn0 Tryz.prog 78 [nilD, g] (.v (.bool false)) := by
 refine ac_ (pn := ap_) aa_ Tryz.func78 rfl fun β0 => ?_
 simp only [Tryz.f78]
 repeat(first|apply wG|(apply wR;simp -dsimp)|refine aI ?_)
 refine ag_ gN_ (rC_ g) rfl rfl (by simp) ?_
 simp -dsimp
 repeat(first|apply wG|(apply wR;simp -dsimp)|refine aI ?_)
 refine WP.ret (ab_ ?_)
 simp -dsimp
theorem fw_ : Fn0 Tryz.prog 33 [nilD] (.v (.int .i64 0)) := by
 refine ac_ (pn := ap_) aa_ Tryz.func33 rfl fun β0 => ?_
 simp only [Tryz.f33]
 repeat(first|apply wG|(apply wR;simp -dsimp)|refine aI ?_)
 refine af_ iq_ (fun _ => lS_ (.v (.func (.func 79) #[] #[]))) rfl (fun _ => rfl) (fun _ => by simp) ?_
 simp -dsimp
 repeat(first|apply wG|(apply wR;simp -dsimp)|refine aI ?_)
 refine cF (by simp) ?_
 refine WP.skip ?_
 simp -dsimp
 repeat(first|apply wG|(apply wR;simp -dsimp)|refine aI ?_)
 refine WP.ret (ab_ ?_)
 simp -dsimp
def shF (c n t : Int) : F := fun i => if i = 0 then c else if i = 1 then n else if i = 2 then t else if i = 3 then 12 else 0
theorem ge_ {c n t : Int} (h1 : isI c) (h2 : isI n) (h3 : isI t) : fOk (shF c n t) := by
 refine ⟨fun i => ?_, .inl rfl, fun i hi => ?_⟩
 ·unfold shF
  split
  ·exact h1
  ·split
   ·exact h2
   ·split
    ·exact h3
    ·split
     ·unfold isI; omega
     ·exact uH_
 ·unfold shF
  rw [if_neg (by omega), if_neg (by omega), if_neg (by omega), if_neg (by omega)]
theorem eZ_ (c n t : Int) : Fn0 Tryz.prog 52 [.v (.int .i64 c), .v (.int .i64 n), .v (.int .i64 t)] (fD (shF c n t)) := by
 refine ac_ (pn := ap_) aa_ Tryz.func52 rfl fun β0 => ?_
 simp only [Tryz.f52]
 repeat(first|apply wG|(apply wR;simp -dsimp)|refine aI ?_)
 refine WP.ret (ab_ ?_)
 simp -dsimp
 exact ai_ (fcs (shF c n t) 0 57)
def zs : List D := [.v (.int .i64 0), nilD, nilD, nilD]
def rawL (l : List F) : List Sg := l.map fun f => (f, zs)
theorem u4_ (f : F) (s : List D) (hf : fOk f) (hs : s.length = 4) (hs1 : ∀ d ∈ s, oneD d = true) (h0 : 0 ≤ f 0) : Fn0 Tryz.prog 35 [nilD, .agg (fcs f 0 57 ++ s)] (.v (.int .i64 (if (numF f).2 = true then 130 else 120))) := by
 have hc := ks_ f hf
 refine ac_ (pn := ap_) aa_ Tryz.func35 rfl fun β0 => ?_
 simp only [Tryz.f35]
 have h57 : List.take 57 (List.map AV.d (fcs f 0 57) ++ List.map AV.d s) = (fcs f 0 57).map .d := by
  rw [List.take_append, List.length_map, aq_, List.take_of_length_le (by rw [List.length_map, aq_]; omega)]
  simp
 have hone : ∀ c ∈ List.map AV.d (fcs f 0 57) ++ List.map AV.d s, oneA c = true := fun c h => by
  rw [← List.map_append] at h
  obtain ⟨d, hd, rfl⟩ := List.mem_map.1 h
  rcases List.mem_append.1 hd with hd | hd
  ·exact fcs_side hd
  ·exact hs1 d hd
 repeat(first|apply wG|(apply wR;simp -dsimp [hs])|refine aI ?_)
 refine ad_ bl_ fw_ rfl rfl (by simp) ?_
 simp -dsimp
 repeat(first|apply wG|(apply wR;simp -dsimp)|refine aI ?_)
 refine cF (by simp) ?_
 refine WP.skip ?_
 simp -dsimp
 repeat(first|apply wG|(apply wR;simp -dsimp [hs, h57])|refine aI ?_)
 refine ad_ dh_ hc rfl rfl (by simp [fD]) ?_
 simp -dsimp
 repeat(first|apply wG|(apply wR;simp -dsimp)|refine aI ?_)
 refine WP.cond (b := !(numF f).2) (by cases (numF f).2 <;> simp) (fun hb => ?_) (fun hb => ?_)
 ·have hb : (numF f).2 = false := by simpa using hb
  repeat(first|apply wG|(apply wR;simp -dsimp)|refine aI ?_)
  refine WP.ret (ab_ ?_)
  simp -dsimp [hb]
 ·have hb : (numF f).2 = true := by simpa using hb
  refine WP.skip ?_
  simp -dsimp
  repeat(first|apply wG|(apply wR;simp -dsimp)|refine aI ?_)
  refine cT (by simp; exact h0) ?_
  repeat(first|apply wG|(apply wR;simp -dsimp)|refine aI ?_)
  refine WP.ret (ab_ ?_)
  simp -dsimp [hb]
theorem pi_ : Fn0 Tryz.prog 57 [nilD, nilD] (.v (.int .i64 0)) := by
 refine ac_ (pn := ap_) aa_ Tryz.func57 rfl fun β0 => ?_
 simp only [Tryz.f57]
 repeat(first|apply wG|(apply wR;simp -dsimp)|refine aI ?_)
 refine ad_ bl_ fw_ rfl rfl (by simp) ?_
 simp -dsimp
 repeat(first|apply wG|(apply wR;simp -dsimp)|refine aI ?_)
 refine cF (by simp) ?_
 refine WP.skip ?_
 simp -dsimp
 repeat(first|apply wG|(apply wR;simp -dsimp)|refine aI ?_)
 refine ak_ (fun m S => S = mkS 27 [(15, .d (.v (.int .i64 0))), (16, .d (.v (.int .i64 0)))] []) 1
  (S0 := mkS 27 [(15, .d (.v (.int .i64 0))), (16, .d (.v (.int .i64 0)))] []) (ae_ [] (by simp) (by simp)) rfl ?_
 rintro _ _ rfl
 simp -dsimp
 repeat(first|apply wG|(apply wR;simp -dsimp)|refine aI ?_)
 refine cF (by simp) ?_
 refine WP.exit ?_
 simp -dsimp
 repeat(first|apply wG|(apply wR;simp -dsimp)|refine aI ?_)
 refine WP.ret (ab_ ?_)
 simp -dsimp
theorem vN_ : Fn0 Tryz.prog 18 [nilD, nilD] (.tup [.agg [nilD], .v (.int .i64 0)]) := by
 refine ac_ (pn := ap_) aa_ Tryz.func18 rfl fun β0 => ?_
 simp only [Tryz.f18]
 repeat(first|apply wG|(apply wR;simp -dsimp)|refine aI ?_)
 refine ad_ di_ pi_ rfl rfl (by simp) ?_
 simp -dsimp
 repeat(first|apply wG|(apply wR;simp -dsimp)|refine aI ?_)
 refine cF (by simp) ?_
 refine WP.skip ?_
 simp -dsimp
 repeat(first|apply wG|(apply wR;simp -dsimp)|refine aI ?_)
 refine ad_ iu_ om_ rfl rfl (by simp) ?_
 simp -dsimp
 repeat(first|apply wG|(apply wR;simp -dsimp)|refine aI ?_)
 refine cF (by simp) ?_
 refine WP.skip ?_
 simp -dsimp
 repeat(first|apply wG|(apply wR;simp -dsimp)|refine aI ?_)
 refine WP.ret (ab_ ?_)
 simp -dsimp
def sR_ (f : F) : Int := if (numF f).2 = true then 130 else 120
theorem ph_ (f : F) (b : Bool) (hf : fOk f) (h0 : 0 ≤ f 0) : Fn0 Tryz.prog 57 [nilD, sgD [(f, zs)] b] (.v (.int .i64 (sR_ f))) := by
 have hv := u4_ f zs hf rfl (by decide) h0
 have e0 : sgC [(f, zs)] = fcs f 0 57 ++ zs := by simp [sgC]
 have hone : ∀ c ∈ List.take 61 (List.map AV.d (fcs f 0 57) ++ List.map AV.d zs), oneA c = true := fun c h => by
  rw [← List.map_append] at h
  obtain ⟨d, hd, rfl⟩ := List.mem_map.1 (List.mem_of_mem_take h)
  rcases List.mem_append.1 hd with hd | hd
  ·exact fcs_side hd
  ·exact (by decide : ∀ d ∈ zs, oneD d = true) d hd
 have h61 : List.take 61 (fcs f 0 57 ++ zs) = fcs f 0 57 ++ zs := List.take_of_length_le (by rw [List.length_append, aq_]; decide)
 have h61A : List.take 61 (List.map AV.d (fcs f 0 57) ++ List.map AV.d zs) = List.map AV.d (fcs f 0 57 ++ zs) := by rw [← List.map_append, ← List.map_take, h61]
 refine ac_ (pn := ap_) aa_ Tryz.func57 rfl fun β0 => ?_
 simp only [Tryz.f57]
 repeat(first|apply wG|(apply wR;simp -dsimp)|refine aI ?_)
 refine ad_ bl_ fw_ rfl rfl (by simp) ?_
 simp -dsimp
 repeat(first|apply wG|(apply wR;simp -dsimp)|refine aI ?_)
 refine cF (by simp) ?_
 refine WP.skip ?_
 simp -dsimp
 repeat(first|apply wG|(apply wR;simp -dsimp)|refine aI ?_)
 refine ak_ (fun m S => S = mkS 27 [(0, .d nilD), (14, .d (sgD [(f, zs)] b)), (15, .d (.v (.int .i64 1))), (16, .d (.v (.int .i64 0)))] []) 1
  (S0 := mkS 27 [(0, .d nilD), (14, .d (sgD [(f, zs)] b)), (15, .d (.v (.int .i64 1))), (16, .d (.v (.int .i64 0)))] []) (ae_ [] (by simp) (by simp)) rfl ?_
 rintro _ _ rfl
 simp -dsimp
 repeat(first|apply wG|(apply wR;simp -dsimp)|refine aI ?_)
 refine cT (by simp) ?_
 refine WP.skip ?_
 simp -dsimp
 refine WP.seq (WP.block ?_)
 have hzl : zs.length = 4 := rfl
 repeat(first|apply wG|(apply wR;simp -dsimp [e0, h61, h61A, hzl])|refine aI ?_)
 refine ag_ cq_ hv rfl rfl (And.intro (.refl _) (And.intro (by rw [← List.map_append]; exact ai_ _) trivial)) ?_
 simp -dsimp
 repeat(first|apply wG|(apply wR;simp -dsimp)|refine aI ?_)
 have hne : ¬ sR_ f = 0 := by unfold sR_; split <;> decide
 refine cT (by simp; exact hne) ?_
 repeat(first|apply wG|(apply wR;simp -dsimp)|refine aI ?_)
 refine WP.ret (ab_ ?_)
 simp -dsimp [sR_]
theorem vM_ (f : F) (b : Bool) (hf : fOk f) (h0 : 0 ≤ f 0) : Fn0 Tryz.prog 18 [nilD, sgD [(f, zs)] b] (.tup [.agg [nilD], .v (.int .i64 (sR_ f))]) := by
 have hne : ¬ sR_ f = 0 := by unfold sR_; split <;> decide
 refine ac_ (pn := ap_) aa_ Tryz.func18 rfl fun β0 => ?_
 simp only [Tryz.f18]
 repeat(first|apply wG|(apply wR;simp -dsimp)|refine aI ?_)
 refine ag_ di_ (ph_ f b hf h0) rfl rfl (And.intro (.refl _) (And.intro (.refl _) trivial)) ?_
 simp -dsimp
 repeat(first|apply wG|(apply wR;simp -dsimp)|refine aI ?_)
 refine cT (by simp; exact hne) ?_
 repeat(first|apply wG|(apply wR;simp -dsimp)|refine aI ?_)
 refine WP.ret (ab_ ?_)
 simp -dsimp
def h6_ (i : Nat) (xs ys : List D) : List D := xs.take (i * 61) ++ ys ++ xs.drop (i * 61)
theorem tB_ {n : Nat} {xs ys : List D} (hx : xs.length = n * 61) : h6_ n xs ys = xs ++ ys := by
 rw [h6_, List.take_of_length_le (by omega), List.drop_eq_nil_of_le (by omega), List.append_nil]
theorem rx_ {α : Type} (k n i : Nat) (xs ys : List α) (hx : xs.length = n * k) (hy : ys.length = k) (hi : i < n) :
  ((xs.take ((i + 1) * k) ++ (xs.drop (i * k)).take ((n - i) * k) ++ xs.drop ((i + 1) * k + (n - i) * k)).take (i * k) ++ ys.take k ++ (xs.take ((i + 1) * k) ++ (xs.drop (i * k)).take ((n - i) * k) ++ xs.drop ((i + 1) * k + (n - i) * k)).drop (i * k + k)) = xs.take (i * k) ++ ys ++ xs.drop (i * k) := by
 have e1 : (i + 1) * k = i * k + k := by rw [Nat.add_mul, Nat.one_mul]
 have e2 : i * k + (n - i) * k = n * k := by rw [← Nat.add_mul]; congr 1; omega
 have e3 : i * k + k ≤ n * k := by rw [← e1]; exact Nat.mul_le_mul_right _ (by omega)
 rw [e1, List.take_of_length_le (l := xs.drop (i * k)) (by rw [List.length_drop]; omega), @List.drop_eq_nil_of_le _ xs (i * k + k + (n - i) * k) (by omega), List.append_nil, List.take_of_length_le (l := ys) (by omega)]
 have l1 : (xs.take (i * k + k)).length = i * k + k := by rw [List.length_take]; omega
 rw [List.take_append_of_le_length (by omega), List.take_take, Nat.min_eq_left (by omega), List.drop_append_of_le_length (by omega), List.drop_eq_nil_of_le (by omega), List.nil_append]
theorem ry_ {α : Type} (a : α) (k n i : Nat) (xs ys : List α) (hx : xs.length = n * k) (hy : ys.length = k) (hi : i < n) (Z : List α) (hZ : Z = (xs.take (i * k) ++ List.replicate ((n + 1 - i) * k) a).take (i * k) ++ ys.take k ++ (xs.take (i * k) ++ List.replicate ((n + 1 - i) * k) a).drop (i * k + k)) :
  Z.take ((i + 1) * k) ++ (xs.drop (i * k)).take ((n - i) * k) ++ Z.drop ((i + 1) * k + (n - i) * k) = xs.take (i * k) ++ ys ++ xs.drop (i * k) := by
 have e1 : (i + 1) * k = i * k + k := by rw [Nat.add_mul, Nat.one_mul]
 have e2 : i * k + (n - i) * k = n * k := by rw [← Nat.add_mul]; congr 1; omega
 have e3 : i * k + k ≤ n * k := by rw [← e1]; exact Nat.mul_le_mul_right _ (by omega)
 have e4 : (n + 1 - i) * k = (n - i) * k + k := by rw [show n + 1 - i = (n - i) + 1 by omega, Nat.add_mul, Nat.one_mul]
 have l1 : (xs.take (i * k)).length = i * k := by rw [List.length_take]; omega
 have hz : Z = xs.take (i * k) ++ ys ++ (List.replicate ((n + 1 - i) * k) a).drop k := by
  rw [hZ, List.take_of_length_le (l := ys) (by omega), List.take_left' l1]
  congr 1
  rw [List.drop_append, l1, Nat.add_sub_cancel_left, List.drop_eq_nil_of_le (by omega), List.nil_append]
 rw [List.take_of_length_le (l := xs.drop (i * k)) (by rw [List.length_drop]; omega)]
 have lz : Z.length = (n + 1) * k := by
  rw [hz]; simp only [List.length_append, l1, List.length_drop, List.length_replicate, hy]; rw [Nat.add_mul]; omega
 have e5 : (n + 1) * k = n * k + k := by rw [Nat.add_mul, Nat.one_mul]
 rw [@List.drop_eq_nil_of_le _ Z _ (by omega), List.append_nil, hz, e1]
 rw [List.take_left' (by rw [List.length_append, l1, hy])]
set_option maxRecDepth 10000 in
theorem fX_ (n i : Nat) (xs ys : List D) (hx : xs.length = n * 61) (hy : ys.length = 61) (hi : i ≤ n) (hn : n ≤ 1000) :
  Fun Tryz.prog 65 [.row 1000, .d (.v (.int .i64 i)), .row 1001] [(1000, .row 70 61 n (xs.map .d)), (1001, .row 70 61 1 (ys.map .d))] (.row 0) [(0, .row 70 61 (n + 1) ((h6_ i xs ys).map .d))] fun _ => False := by
 refine ac_ (pn := ap_) aa_ Tryz.func65 rfl fun β0 => ?_
 simp only [Tryz.f65]
 repeat(first|apply wG|(apply wR;simp -dsimp)|refine aI ?_)
 refine hw_ aa_ (k := 1000) (m := i) rfl rfl rfl rfl rfl hi rfl ?_
 simp -dsimp
 repeat(first|apply wG|(apply wR;simp -dsimp)|refine aI ?_)
 refine cF (by simp) ?_
 refine WP.skip ?_
 simp -dsimp
 repeat(first|apply wG|(apply wR;simp -dsimp)|refine aI ?_)
 by_cases hin : i = n
 ·subst hin
  refine cT (by simp) ?_
  repeat(first|apply wG|(apply wR;simp -dsimp)|refine aI ?_)
  refine WP.ret (an_ (S' := mkS 95 [(6, .row 0)] [(0, .row 70 61 (i + 1) ((h6_ i xs ys).map .d))]) (Wk.go [1001] 25 0 (by decide) (by simp) (by simp) (by simp [tB_ hx])) ?_)
  simp -dsimp
 ·refine cF (by simp; omega) ?_
  refine WP.skip ?_
  simp -dsimp
  refine uX_ (uY_ (k := 1000) (n := n) (xs := xs) rfl (by omega)) ?_
  rintro ⟨⟨g, c⟩, hnc, hcm⟩
  simp -dsimp [exA]
  repeat(first|apply wG|(apply wR;simp -dsimp)|refine aI ?_)
  refine kS_ aa_ rfl rfl rfl ?_
  have hnc : n ≤ c := hnc
  have e1 : IntKind.i64.wrap ((n : Int) + 1) = (n : Int) + 1 := IntWalk.i64_in _ (by omega)
  have e2 : IntKind.i64.wrap ((n : Int) + 1 - i) = ((n + 1 - i : Nat) : Int) := by rw [IntWalk.i64_in _ (by omega)]; omega
  have e3 : i + (n + 1 - i) = n + 1 := by omega
  have e4 : IntKind.i64.wrap ((i : Int) + 1) = ((i + 1 : Nat) : Int) := by rw [IntWalk.i64_in _ (by omega)]; omega
  simp -dsimp [e1]
  by_cases hr : c < n + 1
  ·refine cT (by simp [e1]; omega) ?_
   repeat(first|apply wG|(apply wR;simp -dsimp [e1])|refine aI ?_)
   refine aM_ aa_ rfl rfl rfl (l := 0) (h := i) rfl rfl rfl (by omega) (by omega) (by omega) ?_
   simp -dsimp [e1, e2]
   refine g0_ aa_ rfl 500 (k := 1000) (m := n + 1 - i) rfl rfl rfl (by decide) rfl rfl (by simp; omega) (by omega) rfl (by omega) (by simp; omega) (by simp [Ex]) ?_
   simp -dsimp [e3]
   refine uX_ (uY_ (k := 500) (T := 70) (sz := 61) (n := n + 1) (xs := xs.take (i * 61) ++ List.replicate ((n + 1 - i) * 61) D.any) (by simp) (by omega)) ?_
   rintro ⟨⟨g2, c2⟩, hnc2, hcm2⟩
   have hnc2 : n + 1 ≤ c2 := hnc2
   simp -dsimp [exA]
   repeat(first|apply wG|(apply wR;simp -dsimp)|refine aI ?_)
   refine aM_ aa_ rfl rfl rfl (l := i) (h := n + 1) rfl rfl rfl (by omega) (by omega) (by omega) ?_
   simp -dsimp
   refine bX_ aa_ rfl rfl rfl (k := 500) rfl rfl (CpSrc.row (k := 1001) rfl rfl (by decide)) 1 (Nat.min_eq_left (by omega)) (by simp; omega) (by simp; omega) (by simp; omega) ?_
   simp -dsimp
   generalize hZ : List.take (i * 61) (List.take (i * 61) xs ++ List.replicate ((n + 1 - i) * 61) D.any) ++ (List.take 61 ys ++ List.drop (i * 61 + 61) (List.take (i * 61) xs ++ List.replicate ((n + 1 - i) * 61) D.any)) = Z
   have hZl : Z.length = (n + 1) * 61 := by rw [← hZ]; simp; omega
   have e5 : Z.take ((i + 1) * 61) ++ ((xs.drop (i * 61)).take ((n - i) * 61) ++ Z.drop ((i + 1) * 61 + (n - i) * 61)) = h6_ i xs ys := by
    rw [← List.append_assoc]
    exact ry_ D.any 61 n i xs ys hx hy (by omega) Z (by rw [← hZ, List.append_assoc])
   repeat(first|apply wG|(apply wR;simp -dsimp [e4])|refine aI ?_)
   refine aM_ aa_ rfl rfl rfl (l := i + 1) (h := n + 1) rfl rfl rfl (by omega) (by omega) (by omega) ?_
   simp -dsimp
   refine aM_ aa_ rfl rfl rfl (l := i) (h := n) rfl rfl rfl (by omega) (by omega) (by omega) ?_
   simp -dsimp
   refine bX_ aa_ rfl rfl rfl (k := 500) rfl rfl (pf_ (k := 1000) rfl rfl) (n - i) (Nat.min_self _) (by simp; omega) (by omega) (by simp; omega) ?_
   simp -dsimp
   repeat(first|apply wG|(apply wR;simp -dsimp)|refine aI ?_)
   rw [e5]
   refine WP.ret (an_ (S' := mkS 95 [(6, .row 0)] [(0, .row 70 61 (n + 1) ((h6_ i xs ys).map .d))]) ((sz_ 6 500 0 (n + 1) rfl (by omega) (by simp [h6_]; omega) rfl (by simp [Ex])).trans (ae_ [1000, 1001] (by simp) (by simp))) ?_)
   simp -dsimp
  ·refine cF (by simp [e1]; omega) ?_
   refine WP.skip ?_
   repeat(first|apply wG|(apply wR;simp -dsimp [e1])|refine aI ?_)
   refine aM_ aa_ rfl rfl rfl (l := 0) (h := n + 1) rfl rfl (by simp [fz_, nq_]) (by omega) (by omega) (by omega) ?_
   simp -dsimp
   repeat(first|apply wG|(apply wR;simp -dsimp [e4])|refine aI ?_)
   refine aM_ aa_ rfl rfl rfl (l := i + 1) (h := n + 1) rfl rfl rfl (by omega) (by omega) (by omega) ?_
   simp -dsimp
   refine fI_ aa_ (T := 23) (R := 4) Tryz.func106 (by kernel_rfl) rfl (by kernel_rfl) (by kernel_rfl) rfl rfl rfl (by decide) (j := 1001) (k := 1000) (by decide) rfl rfl (by decide) rfl rfl (by omega) ?_
   simp -dsimp
   refine cT (by simp) ?_
   repeat(first|apply wG|(apply wR;simp -dsimp [e4])|refine aI ?_)
   refine aM_ aa_ rfl rfl rfl (l := i + 1) (h := n + 1) rfl rfl rfl (by omega) (by omega) (by omega) ?_
   simp -dsimp
   refine aM_ aa_ rfl rfl rfl (l := i) (h := n + 1) rfl rfl rfl (by omega) (by omega) (by omega) ?_
   simp -dsimp
   refine bX_ aa_ rfl rfl rfl (k := 1000) rfl rfl (pf_ (k := 1000) rfl rfl) (n - i) (Nat.min_eq_right (by omega)) (by simp; omega) (by omega) (by simp; omega) ?_
   simp -dsimp
   repeat(first|apply wG|(apply wR;simp -dsimp)|refine aI ?_)
   generalize hZ : List.take ((i + 1) * 61) xs ++ (List.take ((n - i) * 61) (List.drop (i * 61) xs) ++ List.drop ((i + 1) * 61 + (n - i) * 61) xs) = Z
   have hZl : Z.length = (n + 1) * 61 := by rw [← hZ]; simp; omega
   have e5 : Z.take (i * 61) ++ (ys.take 61 ++ Z.drop (i * 61 + 61)) = h6_ i xs ys := by
    rw [← List.append_assoc, ← hZ, ← List.append_assoc]
    exact rx_ 61 n i xs ys hx hy (by omega)
   refine aM_ aa_ rfl rfl rfl (l := i) (h := n + 1) rfl rfl rfl (by omega) (by omega) (by omega) ?_
   simp -dsimp
   refine bX_ aa_ rfl rfl rfl (k := 1000) rfl rfl (CpSrc.row (k := 1001) rfl rfl (by decide)) 1 (Nat.min_eq_left (by omega)) (by simp; omega) (by omega) (by simp; omega) ?_
   simp -dsimp
   repeat(first|apply wG|(apply wR;simp -dsimp)|refine aI ?_)
   rw [e5]
   refine WP.ret (an_ (S' := mkS 95 [(6, .row 0)] [(0, .row 70 61 (n + 1) ((h6_ i xs ys).map .d))]) ((sz_ 6 1000 0 (n + 1) rfl (by omega) (by simp [h6_]; omega) rfl (by simp [Ex])).trans (ae_ [1001] (by simp) (by simp))) ?_)
   simp -dsimp
end Go.Proofs.YtnljenjcaeophaaGreatDoor
