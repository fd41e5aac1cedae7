/-
  Joined texts.
-/
import Derived.Test.YtnljenjcaeophaaGreatDoorTW
import Derived.Test.YtnljenjcaeophaaGreatDoorTI
import Derived.Test.YtnljenjcaeophaaGreatDoorTEX
set_option linter.unusedVariables false
set_option linter.unusedSimpArgs false
set_option linter.unusedSectionVars false
namespace Go.Proofs.YtnljenjcaeophaaGreatDoor
open Go.Xe Go.RowKit
abbrev cmpS : D := .v (.func (.func 59) #[] #[])
@[simp] def cBS : Box := .cells 121 [.d cmpS]
abbrev eqS : AV := .fn (.func 104) [] [.ptr 1001 0]
theorem cloneS_nil : Fn0 Tryz.prog 66 [nilD] nilD := by
 refine Fun.of_wp (pn := noPn) Tryz.tab Tryz.func66 rfl fun β0 => ?_
 simp only [Tryz.f66]
 repeat(first|apply wG|(apply wR;simp -dsimp)|refine aI ?_)
 refine vcStop.eqNilNil Tryz.tab rfl rfl rfl rfl ?_
 simp -dsimp
 repeat(first|apply wG|(apply wR;simp -dsimp)|refine aI ?_)
 refine cT (by simp) ?_
 repeat(first|apply wG|(apply wR;simp -dsimp)|refine aI ?_)
 refine WP.ret (finQ.retE ?_)
 simp -dsimp
theorem insertS_nil : Fun Tryz.prog 208 [.d nilD, .d (.v (.int .i64 0)), .d (.v (.int .i64 0)), .d cmpS] [] (.tup []) [] fun _ => False := by
 refine Fun.of_wp (pn := noPn) Tryz.tab Tryz.func208 rfl fun β0 => ?_
 simp only [Tryz.f208]
 repeat(first|apply wG|(apply wR;simp -dsimp)|refine aI ?_)
 refine WP.loopWk (fun m S => S = mkS 53 [(2, .d (.v (.int .i64 0))), (8, .d (.v (.int .i64 1)))] []) 1
  (S0 := mkS 53 [(2, .d (.v (.int .i64 0))), (8, .d (.v (.int .i64 1)))] []) (Wk.lessE [] (by simp [show IntKind.i64.wrap 1 = 1 by decide]) (by simp)) rfl ?_
 rintro _ _ rfl
 simp -dsimp
 repeat(first|apply wG|(apply wR;simp -dsimp)|refine aI ?_)
 refine cF (by simp) ?_
 refine WP.exit ?_
 simp -dsimp
 refine finQ.normalWE (S' := mkS 53 [] []) (Wk.lessE [] (by simp) (by simp)) ?_
 simp -dsimp
theorem stableS_nil : Fun Tryz.prog 161 [.d nilD, .d (.v (.int .i64 0)), .d cmpS] [] (.tup []) [] fun _ => False := by
 refine Fun.of_wp (pn := noPn) Tryz.tab Tryz.func161 rfl fun β0 => ?_
 simp only [Tryz.f161]
 repeat(first|apply wG|(apply wR;simp -dsimp)|refine aI ?_)
 refine WP.loopWk (fun m S => S = mkS 63 [(0, .d nilD), (1, .d (.v (.int .i64 0))), (2, .d cmpS), (6, .d (.v (.int .i64 20))), (7, .d (.v (.int .i64 0))), (8, .d (.v (.int .i64 20)))] []) 1
  (S0 := mkS 63 [(0, .d nilD), (1, .d (.v (.int .i64 0))), (2, .d cmpS), (6, .d (.v (.int .i64 20))), (7, .d (.v (.int .i64 0))), (8, .d (.v (.int .i64 20)))] []) (Wk.lessE [] (by simp) (by simp)) rfl ?_
 rintro _ _ rfl
 simp -dsimp
 repeat(first|apply wG|(apply wR;simp -dsimp)|refine aI ?_)
 refine cF (by simp) ?_
 refine WP.exit ?_
 simp -dsimp
 repeat(first|apply wG|(apply wR;simp -dsimp)|refine aI ?_)
 refine vcStop.call Tryz.body208 (insertS_nil) (rl []) rfl rfl (by simp [BoxLeq]) (CallOk.of (by simp [BoxLeq]) rfl (by first | rfl | (simp [BoxLeq]; done)) (by simp [BoxLeq]) (by simp [BoxLeq])) (fun _ h => h.elim) (fun ⟨_, h⟩ => h.elim) (fun ⟨_, h⟩ => h.elim) (by simp [BoxLeq]) ?_
 simp -dsimp
 repeat(first|apply wG|(apply wR;simp -dsimp)|refine aI ?_)
 refine WP.loopWk (fun m S => S = mkS 63 [(0, .d nilD), (1, .d (.v (.int .i64 0))), (2, .d cmpS), (6, .d (.v (.int .i64 20)))] []) 1
  (S0 := mkS 63 [(0, .d nilD), (1, .d (.v (.int .i64 0))), (2, .d cmpS), (6, .d (.v (.int .i64 20)))] []) (Wk.lessE [] (by simp) (by simp)) rfl ?_
 rintro _ _ rfl
 simp -dsimp
 repeat(first|apply wG|(apply wR;simp -dsimp)|refine aI ?_)
 refine cF (by simp) ?_
 refine WP.exit ?_
 simp -dsimp
 refine finQ.normalWE (S' := mkS 63 [] []) (Wk.lessE [] (by simp) (by simp)) ?_
 simp -dsimp
theorem sortStableS_nil : Fun Tryz.prog 102 [.d nilD, .d cmpS] [] (.tup []) [] fun _ => False := by
 refine Fun.of_wp (pn := noPn) Tryz.tab Tryz.func102 rfl fun β0 => ?_
 simp only [Tryz.f102]
 repeat(first|apply wG|(apply wR;simp -dsimp)|refine aI ?_)
 refine vcStop.call Tryz.body161 (stableS_nil) (rl []) rfl rfl (by simp [BoxLeq]) (CallOk.of (by simp [BoxLeq]) rfl (by first | rfl | (simp [BoxLeq]; done)) (by simp [BoxLeq]) (by simp [BoxLeq])) (fun _ h => h.elim) (fun ⟨_, h⟩ => h.elim) (fun ⟨_, h⟩ => h.elim) (by simp [BoxLeq]) ?_
 simp -dsimp
 refine finQ.normalWE (S' := mkS 9 [] []) (Wk.lessE [] (by simp) (by simp)) ?_
 simp -dsimp
theorem compactS_nil : Fun Tryz.prog 103 [.d nilD, eqS] [(1001, cBS)] (.d nilD) [(1001, cBS)] fun _ => False := by
 refine Fun.of_wp (pn := noPn) Tryz.tab Tryz.func103 rfl fun β0 => ?_
 simp only [Tryz.f103]
 repeat(first|apply wG|(apply wR;simp -dsimp)|refine aI ?_)
 refine cT (by simp) ?_
 repeat(first|apply wG|(apply wR;simp -dsimp)|refine aI ?_)
 refine WP.ret (finQ.retE ?_)
 simp -dsimp
theorem setS_nil : Fn0 Tryz.prog 58 [nilD, cmpS] nilD := by
 refine Fun.of_wp (pn := noPn) Tryz.tab Tryz.func58 rfl fun β0 => ?_
 simp only [Tryz.f58]
 repeat(first|apply wG|(apply wR;simp -dsimp)|refine aI ?_)
 refine vcStop.call0 Tryz.body66 cloneS_nil rfl rfl (by simp) ?_
 simp -dsimp
 repeat(first|apply wG|(apply wR;simp -dsimp)|refine aI ?_)
 refine vcStop.call Tryz.body102 (sortStableS_nil) (rl []) rfl rfl (by simp [BoxLeq]) (CallOk.of (by simp [BoxLeq]) rfl (by first | rfl | (simp [BoxLeq]; done)) (by simp [BoxLeq]) (by simp [BoxLeq])) (fun _ h => h.elim) (fun ⟨_, h⟩ => h.elim) (fun ⟨_, h⟩ => h.elim) (by simp [BoxLeq]) ?_
 simp -dsimp
 repeat(first|apply wG|(apply wR;simp -dsimp)|refine aI ?_)
 refine vcStop.call Tryz.body103 (compactS_nil) (rl [(1001, 3)]) rfl rfl (by simp [BoxLeq]) (CallOk.of (by simp [BoxLeq]) rfl (by first | rfl | (simp [BoxLeq]; done)) (by simp [BoxLeq]) (by simp [BoxLeq])) (fun _ h => h.elim) (fun ⟨_, h⟩ => h.elim) (fun ⟨_, h⟩ => h.elim) (by simp [BoxLeq]) ?_
 simp -dsimp
 repeat(first|apply wG|(apply wR;simp -dsimp)|refine aI ?_)
 refine WP.ret (finQ.retE ?_)
 simp -dsimp
theorem index_nil (g : D) : Fn0 Tryz.prog 131 [nilD, g] (.v (.int .i64 (-1))) := by
 refine Fun.of_wp (pn := noPn) Tryz.tab Tryz.func131 rfl fun β0 => ?_
 simp only [Tryz.f131]
 repeat(first|apply wG|(apply wR;simp -dsimp)|refine aI ?_)
 refine WP.loopWk (fun m S => S = mkS 19 [(7, .d (.v (.int .i64 0))), (8, .d (.v (.int .i64 0)))] []) 1
  (S0 := mkS 19 [(7, .d (.v (.int .i64 0))), (8, .d (.v (.int .i64 0)))] []) (Wk.lessE [] (by simp) (by simp)) rfl ?_
 rintro _ _ rfl
 simp -dsimp
 repeat(first|apply wG|(apply wR;simp -dsimp)|refine aI ?_)
 refine cF (by simp) ?_
 refine WP.exit ?_
 simp -dsimp
 repeat(first|apply wG|(apply wR;simp -dsimp)|refine aI ?_)
 refine WP.ret (finQ.retE ?_)
 simp -dsimp
theorem contains_nil (g : D) : Fn0 Tryz.prog 78 [nilD, g] (.v (.bool false)) := by
 refine Fun.of_wp (pn := noPn) Tryz.tab Tryz.func78 rfl fun β0 => ?_
 simp only [Tryz.f78]
 repeat(first|apply wG|(apply wR;simp -dsimp)|refine aI ?_)
 refine vcStop.call0L Tryz.body131 (index_nil g) rfl rfl (by simp) ?_
 simp -dsimp
 repeat(first|apply wG|(apply wR;simp -dsimp)|refine aI ?_)
 refine WP.ret (finQ.retE ?_)
 simp -dsimp
theorem crews_nil : Fn0 Tryz.prog 33 [nilD] (.v (.int .i64 0)) := by
 refine Fun.of_wp (pn := noPn) Tryz.tab Tryz.func33 rfl fun β0 => ?_
 simp only [Tryz.f33]
 repeat(first|apply wG|(apply wR;simp -dsimp)|refine aI ?_)
 refine vcStopG.call0 Tryz.body78 (fun _ => contains_nil (.v (.func (.func 79) #[] #[]))) rfl (fun _ => rfl) (fun _ => by simp) ?_
 simp -dsimp
 repeat(first|apply wG|(apply wR;simp -dsimp)|refine aI ?_)
 refine cF (by simp) ?_
 refine WP.skip ?_
 simp -dsimp
 repeat(first|apply wG|(apply wR;simp -dsimp)|refine aI ?_)
 refine WP.ret (finQ.retE ?_)
 simp -dsimp
def shF (c n t : Int) : F := fun i => if i = 0 then c else if i = 1 then n else if i = 2 then t else if i = 3 then 12 else 0
theorem shF_ok {c n t : Int} (h1 : isI c) (h2 : isI n) (h3 : isI t) : fOk (shF c n t) := by
 refine ⟨fun i => ?_, .inl rfl, fun i hi => ?_⟩
 ·unfold shF
  split
  ·exact h1
  ·split
   ·exact h2
   ·split
    ·exact h3
    ·split
     ·unfold isI; omega
     ·exact isI0
 ·unfold shF
  rw [if_neg (by omega), if_neg (by omega), if_neg (by omega), if_neg (by omega)]
theorem short_ok (c n t : Int) : Fn0 Tryz.prog 52 [.v (.int .i64 c), .v (.int .i64 n), .v (.int .i64 t)] (fD (shF c n t)) := by
 refine Fun.of_wp (pn := noPn) Tryz.tab Tryz.func52 rfl fun β0 => ?_
 simp only [Tryz.f52]
 repeat(first|apply wG|(apply wR;simp -dsimp)|refine aI ?_)
 refine WP.ret (finQ.retE ?_)
 simp -dsimp
 exact Leq.aggD (fcs (shF c n t) 0 57)
def zs : List D := [.v (.int .i64 0), nilD, nilD, nilD]
def rawL (l : List F) : List Sg := l.map fun f => (f, zs)
theorem verS_ok (f : F) (s : List D) (hf : fOk f) (hs : s.length = 4) (hs1 : ∀ d ∈ s, oneD d = true) (h0 : 0 ≤ f 0) : Fn0 Tryz.prog 35 [nilD, .agg (fcs f 0 57 ++ s)] (.v (.int .i64 (if (numF f).2 = true then 130 else 120))) := by
 have hc := check_ok f hf
 refine Fun.of_wp (pn := noPn) Tryz.tab Tryz.func35 rfl fun β0 => ?_
 simp only [Tryz.f35]
 have h57 : List.take 57 (List.map AV.d (fcs f 0 57) ++ List.map AV.d s) = (fcs f 0 57).map .d := by
  rw [List.take_append, List.length_map, fcs_len57, List.take_of_length_le (by rw [List.length_map, fcs_len57]; omega)]
  simp
 have hone : ∀ c ∈ List.map AV.d (fcs f 0 57) ++ List.map AV.d s, oneA c = true := fun c h => by
  rw [← List.map_append] at h
  obtain ⟨d, hd, rfl⟩ := List.mem_map.1 h
  rcases List.mem_append.1 hd with hd | hd
  ·exact fcs_side hd
  ·exact hs1 d hd
 repeat(first|apply wG|(apply wR;simp -dsimp [hs])|refine aI ?_)
 refine vcStop.call0 Tryz.body33 crews_nil rfl rfl (by simp) ?_
 simp -dsimp
 repeat(first|apply wG|(apply wR;simp -dsimp)|refine aI ?_)
 refine cF (by simp) ?_
 refine WP.skip ?_
 simp -dsimp
 repeat(first|apply wG|(apply wR;simp -dsimp [hs, h57])|refine aI ?_)
 refine vcStop.call0 Tryz.body69 hc rfl rfl (by simp [fD]) ?_
 simp -dsimp
 repeat(first|apply wG|(apply wR;simp -dsimp)|refine aI ?_)
 refine WP.cond (b := !(numF f).2) (by cases (numF f).2 <;> simp) (fun hb => ?_) (fun hb => ?_)
 ·have hb : (numF f).2 = false := by simpa using hb
  repeat(first|apply wG|(apply wR;simp -dsimp)|refine aI ?_)
  refine WP.ret (finQ.retE ?_)
  simp -dsimp [hb]
 ·have hb : (numF f).2 = true := by simpa using hb
  refine WP.skip ?_
  simp -dsimp
  repeat(first|apply wG|(apply wR;simp -dsimp)|refine aI ?_)
  refine cT (by simp; exact h0) ?_
  repeat(first|apply wG|(apply wR;simp -dsimp)|refine aI ?_)
  refine WP.ret (finQ.retE ?_)
  simp -dsimp [hb]
theorem verify_nil : Fn0 Tryz.prog 57 [nilD, nilD] (.v (.int .i64 0)) := by
 refine Fun.of_wp (pn := noPn) Tryz.tab Tryz.func57 rfl fun β0 => ?_
 simp only [Tryz.f57]
 repeat(first|apply wG|(apply wR;simp -dsimp)|refine aI ?_)
 refine vcStop.call0 Tryz.body33 crews_nil rfl rfl (by simp) ?_
 simp -dsimp
 repeat(first|apply wG|(apply wR;simp -dsimp)|refine aI ?_)
 refine cF (by simp) ?_
 refine WP.skip ?_
 simp -dsimp
 repeat(first|apply wG|(apply wR;simp -dsimp)|refine aI ?_)
 refine WP.loopWk (fun m S => S = mkS 27 [(15, .d (.v (.int .i64 0))), (16, .d (.v (.int .i64 0)))] []) 1
  (S0 := mkS 27 [(15, .d (.v (.int .i64 0))), (16, .d (.v (.int .i64 0)))] []) (Wk.lessE [] (by simp) (by simp)) rfl ?_
 rintro _ _ rfl
 simp -dsimp
 repeat(first|apply wG|(apply wR;simp -dsimp)|refine aI ?_)
 refine cF (by simp) ?_
 refine WP.exit ?_
 simp -dsimp
 repeat(first|apply wG|(apply wR;simp -dsimp)|refine aI ?_)
 refine WP.ret (finQ.retE ?_)
 simp -dsimp
theorem new_nil : Fn0 Tryz.prog 18 [nilD, nilD] (.tup [.agg [nilD], .v (.int .i64 0)]) := by
 refine Fun.of_wp (pn := noPn) Tryz.tab Tryz.func18 rfl fun β0 => ?_
 simp only [Tryz.f18]
 repeat(first|apply wG|(apply wR;simp -dsimp)|refine aI ?_)
 refine vcStop.call0 Tryz.body57 verify_nil rfl rfl (by simp) ?_
 simp -dsimp
 repeat(first|apply wG|(apply wR;simp -dsimp)|refine aI ?_)
 refine cF (by simp) ?_
 refine WP.skip ?_
 simp -dsimp
 repeat(first|apply wG|(apply wR;simp -dsimp)|refine aI ?_)
 refine vcStop.call0 Tryz.body58 setS_nil rfl rfl (by simp) ?_
 simp -dsimp
 repeat(first|apply wG|(apply wR;simp -dsimp)|refine aI ?_)
 refine cF (by simp) ?_
 refine WP.skip ?_
 simp -dsimp
 repeat(first|apply wG|(apply wR;simp -dsimp)|refine aI ?_)
 refine WP.ret (finQ.retE ?_)
 simp -dsimp
def oneE (f : F) : Int := if (numF f).2 = true then 130 else 120
theorem verify_one (f : F) (b : Bool) (hf : fOk f) (h0 : 0 ≤ f 0) : Fn0 Tryz.prog 57 [nilD, sgD [(f, zs)] b] (.v (.int .i64 (oneE f))) := by
 have hv := verS_ok f zs hf rfl (by decide) h0
 have e0 : sgC [(f, zs)] = fcs f 0 57 ++ zs := by simp [sgC]
 have hone : ∀ c ∈ List.take 61 (List.map AV.d (fcs f 0 57) ++ List.map AV.d zs), oneA c = true := fun c h => by
  rw [← List.map_append] at h
  obtain ⟨d, hd, rfl⟩ := List.mem_map.1 (List.mem_of_mem_take h)
  rcases List.mem_append.1 hd with hd | hd
  ·exact fcs_side hd
  ·exact (by decide : ∀ d ∈ zs, oneD d = true) d hd
 have h61 : List.take 61 (fcs f 0 57 ++ zs) = fcs f 0 57 ++ zs := List.take_of_length_le (by rw [List.length_append, fcs_len57]; decide)
 have h61A : List.take 61 (List.map AV.d (fcs f 0 57) ++ List.map AV.d zs) = List.map AV.d (fcs f 0 57 ++ zs) := by rw [← List.map_append, ← List.map_take, h61]
 refine Fun.of_wp (pn := noPn) Tryz.tab Tryz.func57 rfl fun β0 => ?_
 simp only [Tryz.f57]
 repeat(first|apply wG|(apply wR;simp -dsimp)|refine aI ?_)
 refine vcStop.call0 Tryz.body33 crews_nil rfl rfl (by simp) ?_
 simp -dsimp
 repeat(first|apply wG|(apply wR;simp -dsimp)|refine aI ?_)
 refine cF (by simp) ?_
 refine WP.skip ?_
 simp -dsimp
 repeat(first|apply wG|(apply wR;simp -dsimp)|refine aI ?_)
 refine WP.loopWk (fun m S => S = mkS 27 [(0, .d nilD), (14, .d (sgD [(f, zs)] b)), (15, .d (.v (.int .i64 1))), (16, .d (.v (.int .i64 0)))] []) 1
  (S0 := mkS 27 [(0, .d nilD), (14, .d (sgD [(f, zs)] b)), (15, .d (.v (.int .i64 1))), (16, .d (.v (.int .i64 0)))] []) (Wk.lessE [] (by simp) (by simp)) rfl ?_
 rintro _ _ rfl
 simp -dsimp
 repeat(first|apply wG|(apply wR;simp -dsimp)|refine aI ?_)
 refine cT (by simp) ?_
 refine WP.skip ?_
 simp -dsimp
 refine WP.seq (WP.block ?_)
 have hzl : zs.length = 4 := rfl
 repeat(first|apply wG|(apply wR;simp -dsimp [e0, h61, h61A, hzl])|refine aI ?_)
 refine vcStop.call0L Tryz.body35 hv rfl rfl (And.intro (.refl _) (And.intro (by rw [← List.map_append]; exact Leq.aggD _) trivial)) ?_
 simp -dsimp
 repeat(first|apply wG|(apply wR;simp -dsimp)|refine aI ?_)
 have hne : ¬ oneE f = 0 := by unfold oneE; split <;> decide
 refine cT (by simp; exact hne) ?_
 repeat(first|apply wG|(apply wR;simp -dsimp)|refine aI ?_)
 refine WP.ret (finQ.retE ?_)
 simp -dsimp [oneE]
theorem new_one (f : F) (b : Bool) (hf : fOk f) (h0 : 0 ≤ f 0) : Fn0 Tryz.prog 18 [nilD, sgD [(f, zs)] b] (.tup [.agg [nilD], .v (.int .i64 (oneE f))]) := by
 have hne : ¬ oneE f = 0 := by unfold oneE; split <;> decide
 refine Fun.of_wp (pn := noPn) Tryz.tab Tryz.func18 rfl fun β0 => ?_
 simp only [Tryz.f18]
 repeat(first|apply wG|(apply wR;simp -dsimp)|refine aI ?_)
 refine vcStop.call0L Tryz.body57 (verify_one f b hf h0) rfl rfl (And.intro (.refl _) (And.intro (.refl _) trivial)) ?_
 simp -dsimp
 repeat(first|apply wG|(apply wR;simp -dsimp)|refine aI ?_)
 refine cT (by simp; exact hne) ?_
 repeat(first|apply wG|(apply wR;simp -dsimp)|refine aI ?_)
 refine WP.ret (finQ.retE ?_)
 simp -dsimp
end Go.Proofs.YtnljenjcaeophaaGreatDoor
