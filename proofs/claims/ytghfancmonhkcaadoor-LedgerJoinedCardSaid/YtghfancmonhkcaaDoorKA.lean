/-
  Joined texts.
-/
import Derived.Test.YtghfancmonhkcaaDoorKE
import Derived.Test.YtghfancmonhkcaaDoorKKj
import Derived.Test.YtghfancmonhkcaaDoorKKk
set_option linter.unusedVariables false
set_option linter.unusedSimpArgs false
set_option linter.unusedSectionVars false
/-
  Ledgers: the small functions, on nil.
-/
set_option linter.unusedSimpArgs false
set_option linter.unusedVariables false
namespace Go.Proofs.YtghfancmonhkcaaDoor
open Go.Xe Go.RowKit

abbrev cmpS : D := .v (.func (.func 26) #[] #[])
@[simp] def cBS : Box := .cells 90 [.d cmpS]
abbrev eqS : AV := .fn (.func 41) [] [.ptr 1001 0]
theorem cloneS_nil : Fn0 Tryd.prog 38 [nilD] nilD := by
  refine Fun.of_wp (pn := noPn) Tryd.tab Tryd.func38 rfl fun β0 => ?_
  simp only [Tryd.f38]
  repeat (first | refine WP.seq ?_ | refine WP.block ?_ | (refine WP.region Tryd.tab ?_; simp -dsimp) | (refine WP.draw Tryd.tab Tryd.mixed ?_; simp -dsimp) | refine And.intro (by first | rfl | omega | decide | (simp; done) | (simp; omega) | (intro _ h; exact fcs_side h; done) | (intros; simp_all; done) | (intros; simp_all; omega)) ?_)
  refine vcStop.eqNilNil Tryd.tab rfl rfl rfl rfl ?_
  simp -dsimp
  repeat (first | refine WP.seq ?_ | refine WP.block ?_ | (refine WP.region Tryd.tab ?_; simp -dsimp) | (refine WP.draw Tryd.tab Tryd.mixed ?_; simp -dsimp) | refine And.intro (by first | rfl | omega | decide | (simp; done) | (simp; omega) | (intro _ h; exact fcs_side h; done) | (intros; simp_all; done) | (intros; simp_all; omega)) ?_)
  refine WP.cond (b := true) (by simp) (fun _ => ?_) (fun h => by cases h)
  repeat (first | refine WP.seq ?_ | refine WP.block ?_ | (refine WP.region Tryd.tab ?_; simp -dsimp) | (refine WP.draw Tryd.tab Tryd.mixed ?_; simp -dsimp) | refine And.intro (by first | rfl | omega | decide | (simp; done) | (simp; omega) | (intro _ h; exact fcs_side h; done) | (intros; simp_all; done) | (intros; simp_all; omega)) ?_)
  refine WP.ret (finQ.retE ?_)
  simp -dsimp
theorem insertS_nil : Fun Tryd.prog 70 [.d nilD, .d (.v (.int .i64 0)), .d (.v (.int .i64 0)), .d cmpS] [] (.tup []) [] fun _ => False := by
  refine Fun.of_wp (pn := noPn) Tryd.tab Tryd.func70 rfl fun β0 => ?_
  simp only [Tryd.f70]
  repeat (first | refine WP.seq ?_ | refine WP.block ?_ | (refine WP.region Tryd.tab ?_; simp -dsimp) | (refine WP.draw Tryd.tab Tryd.mixed ?_; simp -dsimp) | refine And.intro (by first | rfl | omega | decide | (simp; done) | (simp; omega) | (intro _ h; exact fcs_side h; done) | (intros; simp_all; done) | (intros; simp_all; omega)) ?_)
  refine WP.loopWk (fun m S => S = mkS 53 [(2, .d (.v (.int .i64 0))), (8, .d (.v (.int .i64 1)))] []) 1
    (S0 := mkS 53 [(2, .d (.v (.int .i64 0))), (8, .d (.v (.int .i64 1)))] []) (Wk.lessE [] (by simp [show IntKind.i64.wrap 1 = 1 by decide]) (by simp)) rfl ?_
  rintro _ _ rfl
  simp -dsimp
  repeat (first | refine WP.seq ?_ | refine WP.block ?_ | (refine WP.region Tryd.tab ?_; simp -dsimp) | (refine WP.draw Tryd.tab Tryd.mixed ?_; simp -dsimp) | refine And.intro (by first | rfl | omega | decide | (simp; done) | (simp; omega) | (intro _ h; exact fcs_side h; done) | (intros; simp_all; done) | (intros; simp_all; omega)) ?_)
  refine WP.cond (b := false) (by simp) (fun h => by cases h) (fun _ => ?_)
  refine WP.exit ?_
  simp -dsimp
  refine finQ.normalWE (S' := mkS 53 [] []) (Wk.lessE [] (by simp) (by simp)) ?_
  simp -dsimp
theorem stableS_nil : Fun Tryd.prog 56 [.d nilD, .d (.v (.int .i64 0)), .d cmpS] [] (.tup []) [] fun _ => False := by
  refine Fun.of_wp (pn := noPn) Tryd.tab Tryd.func56 rfl fun β0 => ?_
  simp only [Tryd.f56]
  repeat (first | refine WP.seq ?_ | refine WP.block ?_ | (refine WP.region Tryd.tab ?_; simp -dsimp) | (refine WP.draw Tryd.tab Tryd.mixed ?_; simp -dsimp) | refine And.intro (by first | rfl | omega | decide | (simp; done) | (simp; omega) | (intro _ h; exact fcs_side h; done) | (intros; simp_all; done) | (intros; simp_all; omega)) ?_)
  refine WP.loopWk (fun m S => S = mkS 63 [(0, .d nilD), (1, .d (.v (.int .i64 0))), (2, .d cmpS), (6, .d (.v (.int .i64 20))), (7, .d (.v (.int .i64 0))), (8, .d (.v (.int .i64 20)))] []) 1
    (S0 := mkS 63 [(0, .d nilD), (1, .d (.v (.int .i64 0))), (2, .d cmpS), (6, .d (.v (.int .i64 20))), (7, .d (.v (.int .i64 0))), (8, .d (.v (.int .i64 20)))] []) (Wk.lessE [] (by simp) (by simp)) rfl ?_
  rintro _ _ rfl
  simp -dsimp
  repeat (first | refine WP.seq ?_ | refine WP.block ?_ | (refine WP.region Tryd.tab ?_; simp -dsimp) | (refine WP.draw Tryd.tab Tryd.mixed ?_; simp -dsimp) | refine And.intro (by first | rfl | omega | decide | (simp; done) | (simp; omega) | (intro _ h; exact fcs_side h; done) | (intros; simp_all; done) | (intros; simp_all; omega)) ?_)
  refine WP.cond (b := false) (by simp) (fun h => by cases h) (fun _ => ?_)
  refine WP.exit ?_
  simp -dsimp
  repeat (first | refine WP.seq ?_ | refine WP.block ?_ | (refine WP.region Tryd.tab ?_; simp -dsimp) | (refine WP.draw Tryd.tab Tryd.mixed ?_; simp -dsimp) | refine And.intro (by first | rfl | omega | decide | (simp; done) | (simp; omega) | (intro _ h; exact fcs_side h; done) | (intros; simp_all; done) | (intros; simp_all; omega)) ?_)
  refine vcStop.call Tryd.body70 (insertS_nil) (rl []) rfl rfl (by simp [BoxLeq]) (CallOk.of (by simp [BoxLeq]) rfl (by first | rfl | (simp [BoxLeq]; done)) (by simp [BoxLeq]) (by simp [BoxLeq])) (fun _ h => h.elim) (fun ⟨_, h⟩ => h.elim) (fun ⟨_, h⟩ => h.elim) (by simp [BoxLeq]) ?_
  simp -dsimp
  repeat (first | refine WP.seq ?_ | refine WP.block ?_ | (refine WP.region Tryd.tab ?_; simp -dsimp) | (refine WP.draw Tryd.tab Tryd.mixed ?_; simp -dsimp) | refine And.intro (by first | rfl | omega | decide | (simp; done) | (simp; omega) | (intro _ h; exact fcs_side h; done) | (intros; simp_all; done) | (intros; simp_all; omega)) ?_)
  refine WP.loopWk (fun m S => S = mkS 63 [(0, .d nilD), (1, .d (.v (.int .i64 0))), (2, .d cmpS), (6, .d (.v (.int .i64 20)))] []) 1
    (S0 := mkS 63 [(0, .d nilD), (1, .d (.v (.int .i64 0))), (2, .d cmpS), (6, .d (.v (.int .i64 20)))] []) (Wk.lessE [] (by simp) (by simp)) rfl ?_
  rintro _ _ rfl
  simp -dsimp
  repeat (first | refine WP.seq ?_ | refine WP.block ?_ | (refine WP.region Tryd.tab ?_; simp -dsimp) | (refine WP.draw Tryd.tab Tryd.mixed ?_; simp -dsimp) | refine And.intro (by first | rfl | omega | decide | (simp; done) | (simp; omega) | (intro _ h; exact fcs_side h; done) | (intros; simp_all; done) | (intros; simp_all; omega)) ?_)
  refine WP.cond (b := false) (by simp) (fun h => by cases h) (fun _ => ?_)
  refine WP.exit ?_
  simp -dsimp
  refine finQ.normalWE (S' := mkS 63 [] []) (Wk.lessE [] (by simp) (by simp)) ?_
  simp -dsimp
theorem sortStableS_nil : Fun Tryd.prog 39 [.d nilD, .d cmpS] [] (.tup []) [] fun _ => False := by
  refine Fun.of_wp (pn := noPn) Tryd.tab Tryd.func39 rfl fun β0 => ?_
  simp only [Tryd.f39]
  repeat (first | refine WP.seq ?_ | refine WP.block ?_ | (refine WP.region Tryd.tab ?_; simp -dsimp) | (refine WP.draw Tryd.tab Tryd.mixed ?_; simp -dsimp) | refine And.intro (by first | rfl | omega | decide | (simp; done) | (simp; omega) | (intro _ h; exact fcs_side h; done) | (intros; simp_all; done) | (intros; simp_all; omega)) ?_)
  refine vcStop.call Tryd.body56 (stableS_nil) (rl []) rfl rfl (by simp [BoxLeq]) (CallOk.of (by simp [BoxLeq]) rfl (by first | rfl | (simp [BoxLeq]; done)) (by simp [BoxLeq]) (by simp [BoxLeq])) (fun _ h => h.elim) (fun ⟨_, h⟩ => h.elim) (fun ⟨_, h⟩ => h.elim) (by simp [BoxLeq]) ?_
  simp -dsimp
  refine finQ.normalWE (S' := mkS 9 [] []) (Wk.lessE [] (by simp) (by simp)) ?_
  simp -dsimp
theorem compactS_nil : Fun Tryd.prog 40 [.d nilD, eqS] [(1001, cBS)] (.d nilD) [(1001, cBS)] fun _ => False := by
  refine Fun.of_wp (pn := noPn) Tryd.tab Tryd.func40 rfl fun β0 => ?_
  simp only [Tryd.f40]
  repeat (first | refine WP.seq ?_ | refine WP.block ?_ | (refine WP.region Tryd.tab ?_; simp -dsimp) | (refine WP.draw Tryd.tab Tryd.mixed ?_; simp -dsimp) | refine And.intro (by first | rfl | omega | decide | (simp; done) | (simp; omega) | (intro _ h; exact fcs_side h; done) | (intros; simp_all; done) | (intros; simp_all; omega)) ?_)
  refine WP.cond (b := true) (by simp) (fun _ => ?_) (fun h => by cases h)
  repeat (first | refine WP.seq ?_ | refine WP.block ?_ | (refine WP.region Tryd.tab ?_; simp -dsimp) | (refine WP.draw Tryd.tab Tryd.mixed ?_; simp -dsimp) | refine And.intro (by first | rfl | omega | decide | (simp; done) | (simp; omega) | (intro _ h; exact fcs_side h; done) | (intros; simp_all; done) | (intros; simp_all; omega)) ?_)
  refine WP.ret (finQ.retE ?_)
  simp -dsimp
theorem setS_nil : Fn0 Tryd.prog 25 [nilD, cmpS] nilD := by
  refine Fun.of_wp (pn := noPn) Tryd.tab Tryd.func25 rfl fun β0 => ?_
  simp only [Tryd.f25]
  repeat (first | refine WP.seq ?_ | refine WP.block ?_ | (refine WP.region Tryd.tab ?_; simp -dsimp) | (refine WP.draw Tryd.tab Tryd.mixed ?_; simp -dsimp) | refine And.intro (by first | rfl | omega | decide | (simp; done) | (simp; omega) | (intro _ h; exact fcs_side h; done) | (intros; simp_all; done) | (intros; simp_all; omega)) ?_)
  refine vcStop.call0 Tryd.body38 cloneS_nil rfl rfl (by simp) ?_
  simp -dsimp
  repeat (first | refine WP.seq ?_ | refine WP.block ?_ | (refine WP.region Tryd.tab ?_; simp -dsimp) | (refine WP.draw Tryd.tab Tryd.mixed ?_; simp -dsimp) | refine And.intro (by first | rfl | omega | decide | (simp; done) | (simp; omega) | (intro _ h; exact fcs_side h; done) | (intros; simp_all; done) | (intros; simp_all; omega)) ?_)
  refine vcStop.call Tryd.body39 (sortStableS_nil) (rl []) rfl rfl (by simp [BoxLeq]) (CallOk.of (by simp [BoxLeq]) rfl (by first | rfl | (simp [BoxLeq]; done)) (by simp [BoxLeq]) (by simp [BoxLeq])) (fun _ h => h.elim) (fun ⟨_, h⟩ => h.elim) (fun ⟨_, h⟩ => h.elim) (by simp [BoxLeq]) ?_
  simp -dsimp
  repeat (first | refine WP.seq ?_ | refine WP.block ?_ | (refine WP.region Tryd.tab ?_; simp -dsimp) | (refine WP.draw Tryd.tab Tryd.mixed ?_; simp -dsimp) | refine And.intro (by first | rfl | omega | decide | (simp; done) | (simp; omega) | (intro _ h; exact fcs_side h; done) | (intros; simp_all; done) | (intros; simp_all; omega)) ?_)
  refine vcStop.call Tryd.body40 (compactS_nil) (rl [(1001, 3)]) rfl rfl (by simp [BoxLeq]) (CallOk.of (by simp [BoxLeq]) rfl (by first | rfl | (simp [BoxLeq]; done)) (by simp [BoxLeq]) (by simp [BoxLeq])) (fun _ h => h.elim) (fun ⟨_, h⟩ => h.elim) (fun ⟨_, h⟩ => h.elim) (by simp [BoxLeq]) ?_
  simp -dsimp
  repeat (first | refine WP.seq ?_ | refine WP.block ?_ | (refine WP.region Tryd.tab ?_; simp -dsimp) | (refine WP.draw Tryd.tab Tryd.mixed ?_; simp -dsimp) | refine And.intro (by first | rfl | omega | decide | (simp; done) | (simp; omega) | (intro _ h; exact fcs_side h; done) | (intros; simp_all; done) | (intros; simp_all; omega)) ?_)
  refine WP.ret (finQ.retE ?_)
  simp -dsimp
theorem index_nil (g : D) : Fn0 Tryd.prog 42 [nilD, g] (.v (.int .i64 (-1))) := by
  refine Fun.of_wp (pn := noPn) Tryd.tab Tryd.func42 rfl fun β0 => ?_
  simp only [Tryd.f42]
  repeat (first | refine WP.seq ?_ | refine WP.block ?_ | (refine WP.region Tryd.tab ?_; simp -dsimp) | (refine WP.draw Tryd.tab Tryd.mixed ?_; simp -dsimp) | refine And.intro (by first | rfl | omega | decide | (simp; done) | (simp; omega) | (intro _ h; exact fcs_side h; done) | (intros; simp_all; done) | (intros; simp_all; omega)) ?_)
  refine WP.loopWk (fun m S => S = mkS 19 [(7, .d (.v (.int .i64 0))), (8, .d (.v (.int .i64 0)))] []) 1
    (S0 := mkS 19 [(7, .d (.v (.int .i64 0))), (8, .d (.v (.int .i64 0)))] []) (Wk.lessE [] (by simp) (by simp)) rfl ?_
  rintro _ _ rfl
  simp -dsimp
  repeat (first | refine WP.seq ?_ | refine WP.block ?_ | (refine WP.region Tryd.tab ?_; simp -dsimp) | (refine WP.draw Tryd.tab Tryd.mixed ?_; simp -dsimp) | refine And.intro (by first | rfl | omega | decide | (simp; done) | (simp; omega) | (intro _ h; exact fcs_side h; done) | (intros; simp_all; done) | (intros; simp_all; omega)) ?_)
  refine WP.cond (b := false) (by simp) (fun h => by cases h) (fun _ => ?_)
  refine WP.exit ?_
  simp -dsimp
  repeat (first | refine WP.seq ?_ | refine WP.block ?_ | (refine WP.region Tryd.tab ?_; simp -dsimp) | (refine WP.draw Tryd.tab Tryd.mixed ?_; simp -dsimp) | refine And.intro (by first | rfl | omega | decide | (simp; done) | (simp; omega) | (intro _ h; exact fcs_side h; done) | (intros; simp_all; done) | (intros; simp_all; omega)) ?_)
  refine WP.ret (finQ.retE ?_)
  simp -dsimp
theorem contains_nil (g : D) : Fn0 Tryd.prog 27 [nilD, g] (.v (.bool false)) := by
  refine Fun.of_wp (pn := noPn) Tryd.tab Tryd.func27 rfl fun β0 => ?_
  simp only [Tryd.f27]
  repeat (first | refine WP.seq ?_ | refine WP.block ?_ | (refine WP.region Tryd.tab ?_; simp -dsimp) | (refine WP.draw Tryd.tab Tryd.mixed ?_; simp -dsimp) | refine And.intro (by first | rfl | omega | decide | (simp; done) | (simp; omega) | (intro _ h; exact fcs_side h; done) | (intros; simp_all; done) | (intros; simp_all; omega)) ?_)
  refine vcStop.call0L Tryd.body42 (index_nil g) rfl rfl (by simp) ?_
  simp -dsimp
  repeat (first | refine WP.seq ?_ | refine WP.block ?_ | (refine WP.region Tryd.tab ?_; simp -dsimp) | (refine WP.draw Tryd.tab Tryd.mixed ?_; simp -dsimp) | refine And.intro (by first | rfl | omega | decide | (simp; done) | (simp; omega) | (intro _ h; exact fcs_side h; done) | (intros; simp_all; done) | (intros; simp_all; omega)) ?_)
  refine WP.ret (finQ.retE ?_)
  simp -dsimp
theorem crews_nil : Fn0 Tryd.prog 16 [nilD] (.v (.int .i64 0)) := by
  refine Fun.of_wp (pn := noPn) Tryd.tab Tryd.func16 rfl fun β0 => ?_
  simp only [Tryd.f16]
  repeat (first | refine WP.seq ?_ | refine WP.block ?_ | (refine WP.region Tryd.tab ?_; simp -dsimp) | (refine WP.draw Tryd.tab Tryd.mixed ?_; simp -dsimp) | refine And.intro (by first | rfl | omega | decide | (simp; done) | (simp; omega) | (intro _ h; exact fcs_side h; done) | (intros; simp_all; done) | (intros; simp_all; omega)) ?_)
  refine vcStopG.call0 Tryd.body27 (fun _ => contains_nil (.v (.func (.func 28) #[] #[]))) rfl (fun _ => rfl) (fun _ => by simp) ?_
  simp -dsimp
  repeat (first | refine WP.seq ?_ | refine WP.block ?_ | (refine WP.region Tryd.tab ?_; simp -dsimp) | (refine WP.draw Tryd.tab Tryd.mixed ?_; simp -dsimp) | refine And.intro (by first | rfl | omega | decide | (simp; done) | (simp; omega) | (intro _ h; exact fcs_side h; done) | (intros; simp_all; done) | (intros; simp_all; omega)) ?_)
  refine WP.cond (b := false) (by simp) (fun h => by cases h) (fun _ => ?_)
  refine WP.skip ?_
  simp -dsimp
  repeat (first | refine WP.seq ?_ | refine WP.block ?_ | (refine WP.region Tryd.tab ?_; simp -dsimp) | (refine WP.draw Tryd.tab Tryd.mixed ?_; simp -dsimp) | refine And.intro (by first | rfl | omega | decide | (simp; done) | (simp; omega) | (intro _ h; exact fcs_side h; done) | (intros; simp_all; done) | (intros; simp_all; omega)) ?_)
  refine WP.ret (finQ.retE ?_)
  simp -dsimp
end Go.Proofs.YtghfancmonhkcaaDoor

/-
  Ledgers: the statements' small helpers.
-/
set_option linter.unusedSimpArgs false
set_option linter.unusedVariables false
namespace Go.Proofs.YtghfancmonhkcaaDoor
open Go.Xe Go.RowKit

def shF (c n t : Int) : F := fun i => if i = 0 then c else if i = 1 then n else if i = 2 then t else if i = 3 then 12 else 0
theorem shF_ok {c n t : Int} (h1 : isI c) (h2 : isI n) (h3 : isI t) : fOk (shF c n t) := by
  refine ⟨fun i => ?_, .inl rfl, fun i hi => ?_⟩
  · unfold shF
    split
    · exact h1
    · split
      · exact h2
      · split
        · exact h3
        · split
          · unfold isI; omega
          · exact isI0
  · unfold shF
    rw [if_neg (by omega), if_neg (by omega), if_neg (by omega), if_neg (by omega)]
theorem short_ok (c n t : Int) : Fn0 Tryd.prog 14 [.v (.int .i64 c), .v (.int .i64 n), .v (.int .i64 t)] (fD (shF c n t)) := by
  refine Fun.of_wp (pn := noPn) Tryd.tab Tryd.func14 rfl fun β0 => ?_
  simp only [Tryd.f14]
  repeat (first | refine WP.seq ?_ | refine WP.block ?_ | (refine WP.region Tryd.tab ?_; simp -dsimp) | (refine WP.draw Tryd.tab Tryd.mixed ?_; simp -dsimp) | refine And.intro (by first | rfl | omega | decide | (simp; done) | (simp; omega) | (intro _ h; exact fcs_side h; done) | (intros; simp_all; done) | (intros; simp_all; omega)) ?_)
  refine WP.ret (finQ.retE ?_)
  simp -dsimp
  exact Leq.aggD (fcs (shF c n t) 0 57)
def zs : List D := [.v (.int .i64 0), nilD, nilD, nilD]
def rawL (l : List F) : List Sg := l.map fun f => (f, zs)
theorem verS_ok (f : F) (s : List D) (hf : fOk f) (hs : s.length = 4) (hs1 : ∀ d ∈ s, oneD d = true) (h0 : 0 ≤ f 0) : Fn0 Tryd.prog 37 [nilD, .agg (fcs f 0 57 ++ s)] (.v (.int .i64 (if (numF f).2 = true then 130 else 120))) := by
  have hc := check_ok f hf
  refine Fun.of_wp (pn := noPn) Tryd.tab Tryd.func37 rfl fun β0 => ?_
  simp only [Tryd.f37]
  have h57 : List.take 57 (List.map AV.d (fcs f 0 57) ++ List.map AV.d s) = (fcs f 0 57).map .d := by
    rw [List.take_append, List.length_map, fcs_len57, List.take_of_length_le (by rw [List.length_map, fcs_len57]; omega)]
    simp
  have hone : ∀ c ∈ List.map AV.d (fcs f 0 57) ++ List.map AV.d s, oneA c = true := fun c h => by
    rw [← List.map_append] at h
    obtain ⟨d, hd, rfl⟩ := List.mem_map.1 h
    rcases List.mem_append.1 hd with hd | hd
    · exact fcs_side hd
    · exact hs1 d hd
  repeat (first | refine WP.seq ?_ | refine WP.block ?_ | (refine WP.region Tryd.tab ?_; simp -dsimp [hs]) | (refine WP.draw Tryd.tab Tryd.mixed ?_; simp -dsimp [hs]) | refine And.intro (by first | rfl | omega | decide | (simp; done) | (simp; omega) | (intro _ h; exact fcs_side h; done) | (intros; simp_all; done) | (intros; simp_all; omega)) ?_)
  refine vcStop.call0 Tryd.body16 crews_nil rfl rfl (by simp) ?_
  simp -dsimp
  repeat (first | refine WP.seq ?_ | refine WP.block ?_ | (refine WP.region Tryd.tab ?_; simp -dsimp) | (refine WP.draw Tryd.tab Tryd.mixed ?_; simp -dsimp) | refine And.intro (by first | rfl | omega | decide | (simp; done) | (simp; omega) | (intro _ h; exact fcs_side h; done) | (intros; simp_all; done) | (intros; simp_all; omega)) ?_)
  refine WP.cond (b := false) (by simp) (fun h => by cases h) (fun _ => ?_)
  refine WP.skip ?_
  simp -dsimp
  repeat (first | refine WP.seq ?_ | refine WP.block ?_ | (refine WP.region Tryd.tab ?_; simp -dsimp [hs, h57]) | (refine WP.draw Tryd.tab Tryd.mixed ?_; simp -dsimp [hs, h57]) | refine And.intro (by first | rfl | omega | decide | (simp; done) | (simp; omega) | (intro _ h; exact fcs_side h; done) | (intros; simp_all; done) | (intros; simp_all; omega)) ?_)
  refine vcStop.call0 Tryd.body9 hc rfl rfl (by simp [fD]) ?_
  simp -dsimp
  repeat (first | refine WP.seq ?_ | refine WP.block ?_ | (refine WP.region Tryd.tab ?_; simp -dsimp) | (refine WP.draw Tryd.tab Tryd.mixed ?_; simp -dsimp) | refine And.intro (by first | rfl | omega | decide | (simp; done) | (simp; omega) | (intro _ h; exact fcs_side h; done) | (intros; simp_all; done) | (intros; simp_all; omega)) ?_)
  refine WP.cond (b := !(numF f).2) (by cases (numF f).2 <;> simp) (fun hb => ?_) (fun hb => ?_)
  · have hb : (numF f).2 = false := by simpa using hb
    repeat (first | refine WP.seq ?_ | refine WP.block ?_ | (refine WP.region Tryd.tab ?_; simp -dsimp) | (refine WP.draw Tryd.tab Tryd.mixed ?_; simp -dsimp) | refine And.intro (by first | rfl | omega | decide | (simp; done) | (simp; omega) | (intro _ h; exact fcs_side h; done) | (intros; simp_all; done) | (intros; simp_all; omega)) ?_)
    refine WP.ret (finQ.retE ?_)
    simp -dsimp [hb]
  · have hb : (numF f).2 = true := by simpa using hb
    refine WP.skip ?_
    simp -dsimp
    repeat (first | refine WP.seq ?_ | refine WP.block ?_ | (refine WP.region Tryd.tab ?_; simp -dsimp) | (refine WP.draw Tryd.tab Tryd.mixed ?_; simp -dsimp) | refine And.intro (by first | rfl | omega | decide | (simp; done) | (simp; omega) | (intro _ h; exact fcs_side h; done) | (intros; simp_all; done) | (intros; simp_all; omega)) ?_)
    refine WP.cond (b := true) (by simp; exact h0) (fun _ => ?_) (fun h => by cases h)
    repeat (first | refine WP.seq ?_ | refine WP.block ?_ | (refine WP.region Tryd.tab ?_; simp -dsimp) | (refine WP.draw Tryd.tab Tryd.mixed ?_; simp -dsimp) | refine And.intro (by first | rfl | omega | decide | (simp; done) | (simp; omega) | (intro _ h; exact fcs_side h; done) | (intros; simp_all; done) | (intros; simp_all; omega)) ?_)
    refine WP.ret (finQ.retE ?_)
    simp -dsimp [hb]
theorem verify_nil : Fn0 Tryd.prog 24 [nilD, nilD] (.v (.int .i64 0)) := by
  refine Fun.of_wp (pn := noPn) Tryd.tab Tryd.func24 rfl fun β0 => ?_
  simp only [Tryd.f24]
  repeat (first | refine WP.seq ?_ | refine WP.block ?_ | (refine WP.region Tryd.tab ?_; simp -dsimp) | (refine WP.draw Tryd.tab Tryd.mixed ?_; simp -dsimp) | refine And.intro (by first | rfl | omega | decide | (simp; done) | (simp; omega) | (intro _ h; exact fcs_side h; done) | (intros; simp_all; done) | (intros; simp_all; omega)) ?_)
  refine vcStop.call0 Tryd.body16 crews_nil rfl rfl (by simp) ?_
  simp -dsimp
  repeat (first | refine WP.seq ?_ | refine WP.block ?_ | (refine WP.region Tryd.tab ?_; simp -dsimp) | (refine WP.draw Tryd.tab Tryd.mixed ?_; simp -dsimp) | refine And.intro (by first | rfl | omega | decide | (simp; done) | (simp; omega) | (intro _ h; exact fcs_side h; done) | (intros; simp_all; done) | (intros; simp_all; omega)) ?_)
  refine WP.cond (b := false) (by simp) (fun h => by cases h) (fun _ => ?_)
  refine WP.skip ?_
  simp -dsimp
  repeat (first | refine WP.seq ?_ | refine WP.block ?_ | (refine WP.region Tryd.tab ?_; simp -dsimp) | (refine WP.draw Tryd.tab Tryd.mixed ?_; simp -dsimp) | refine And.intro (by first | rfl | omega | decide | (simp; done) | (simp; omega) | (intro _ h; exact fcs_side h; done) | (intros; simp_all; done) | (intros; simp_all; omega)) ?_)
  refine WP.loopWk (fun m S => S = mkS 27 [(15, .d (.v (.int .i64 0))), (16, .d (.v (.int .i64 0)))] []) 1
    (S0 := mkS 27 [(15, .d (.v (.int .i64 0))), (16, .d (.v (.int .i64 0)))] []) (Wk.lessE [] (by simp) (by simp)) rfl ?_
  rintro _ _ rfl
  simp -dsimp
  repeat (first | refine WP.seq ?_ | refine WP.block ?_ | (refine WP.region Tryd.tab ?_; simp -dsimp) | (refine WP.draw Tryd.tab Tryd.mixed ?_; simp -dsimp) | refine And.intro (by first | rfl | omega | decide | (simp; done) | (simp; omega) | (intro _ h; exact fcs_side h; done) | (intros; simp_all; done) | (intros; simp_all; omega)) ?_)
  refine WP.cond (b := false) (by simp) (fun h => by cases h) (fun _ => ?_)
  refine WP.exit ?_
  simp -dsimp
  repeat (first | refine WP.seq ?_ | refine WP.block ?_ | (refine WP.region Tryd.tab ?_; simp -dsimp) | (refine WP.draw Tryd.tab Tryd.mixed ?_; simp -dsimp) | refine And.intro (by first | rfl | omega | decide | (simp; done) | (simp; omega) | (intro _ h; exact fcs_side h; done) | (intros; simp_all; done) | (intros; simp_all; omega)) ?_)
  refine WP.ret (finQ.retE ?_)
  simp -dsimp
theorem new_nil : Fn0 Tryd.prog 15 [nilD, nilD] (.tup [.agg [nilD], .v (.int .i64 0)]) := by
  refine Fun.of_wp (pn := noPn) Tryd.tab Tryd.func15 rfl fun β0 => ?_
  simp only [Tryd.f15]
  repeat (first | refine WP.seq ?_ | refine WP.block ?_ | (refine WP.region Tryd.tab ?_; simp -dsimp) | (refine WP.draw Tryd.tab Tryd.mixed ?_; simp -dsimp) | refine And.intro (by first | rfl | omega | decide | (simp; done) | (simp; omega) | (intro _ h; exact fcs_side h; done) | (intros; simp_all; done) | (intros; simp_all; omega)) ?_)
  refine vcStop.call0 Tryd.body24 verify_nil rfl rfl (by simp) ?_
  simp -dsimp
  repeat (first | refine WP.seq ?_ | refine WP.block ?_ | (refine WP.region Tryd.tab ?_; simp -dsimp) | (refine WP.draw Tryd.tab Tryd.mixed ?_; simp -dsimp) | refine And.intro (by first | rfl | omega | decide | (simp; done) | (simp; omega) | (intro _ h; exact fcs_side h; done) | (intros; simp_all; done) | (intros; simp_all; omega)) ?_)
  refine WP.cond (b := false) (by simp) (fun h => by cases h) (fun _ => ?_)
  refine WP.skip ?_
  simp -dsimp
  repeat (first | refine WP.seq ?_ | refine WP.block ?_ | (refine WP.region Tryd.tab ?_; simp -dsimp) | (refine WP.draw Tryd.tab Tryd.mixed ?_; simp -dsimp) | refine And.intro (by first | rfl | omega | decide | (simp; done) | (simp; omega) | (intro _ h; exact fcs_side h; done) | (intros; simp_all; done) | (intros; simp_all; omega)) ?_)
  refine vcStop.call0 Tryd.body25 setS_nil rfl rfl (by simp) ?_
  simp -dsimp
  repeat (first | refine WP.seq ?_ | refine WP.block ?_ | (refine WP.region Tryd.tab ?_; simp -dsimp) | (refine WP.draw Tryd.tab Tryd.mixed ?_; simp -dsimp) | refine And.intro (by first | rfl | omega | decide | (simp; done) | (simp; omega) | (intro _ h; exact fcs_side h; done) | (intros; simp_all; done) | (intros; simp_all; omega)) ?_)
  refine WP.cond (b := false) (by simp) (fun h => by cases h) (fun _ => ?_)
  refine WP.skip ?_
  simp -dsimp
  repeat (first | refine WP.seq ?_ | refine WP.block ?_ | (refine WP.region Tryd.tab ?_; simp -dsimp) | (refine WP.draw Tryd.tab Tryd.mixed ?_; simp -dsimp) | refine And.intro (by first | rfl | omega | decide | (simp; done) | (simp; omega) | (intro _ h; exact fcs_side h; done) | (intros; simp_all; done) | (intros; simp_all; omega)) ?_)
  refine WP.ret (finQ.retE ?_)
  simp -dsimp
def oneE (f : F) : Int := if (numF f).2 = true then 130 else 120
theorem verify_one (f : F) (b : Bool) (hf : fOk f) (h0 : 0 ≤ f 0) : Fn0 Tryd.prog 24 [nilD, sgD [(f, zs)] b] (.v (.int .i64 (oneE f))) := by
  have hv := verS_ok f zs hf rfl (by decide) h0
  have e0 : sgC [(f, zs)] = fcs f 0 57 ++ zs := by simp [sgC]
  have hone : ∀ c ∈ List.take 61 (List.map AV.d (fcs f 0 57) ++ List.map AV.d zs), oneA c = true := fun c h => by
    rw [← List.map_append] at h
    obtain ⟨d, hd, rfl⟩ := List.mem_map.1 (List.mem_of_mem_take h)
    rcases List.mem_append.1 hd with hd | hd
    · exact fcs_side hd
    · exact (by decide : ∀ d ∈ zs, oneD d = true) d hd
  have h61 : List.take 61 (fcs f 0 57 ++ zs) = fcs f 0 57 ++ zs := List.take_of_length_le (by rw [List.length_append, fcs_len57]; decide)
  have h61A : List.take 61 (List.map AV.d (fcs f 0 57) ++ List.map AV.d zs) = List.map AV.d (fcs f 0 57 ++ zs) := by rw [← List.map_append, ← List.map_take, h61]
  refine Fun.of_wp (pn := noPn) Tryd.tab Tryd.func24 rfl fun β0 => ?_
  simp only [Tryd.f24]
  repeat (first | refine WP.seq ?_ | refine WP.block ?_ | (refine WP.region Tryd.tab ?_; simp -dsimp) | (refine WP.draw Tryd.tab Tryd.mixed ?_; simp -dsimp) | refine And.intro (by first | rfl | omega | decide | (simp; done) | (simp; omega) | (intro _ h; exact fcs_side h; done) | (intros; simp_all; done) | (intros; simp_all; omega)) ?_)
  refine vcStop.call0 Tryd.body16 crews_nil rfl rfl (by simp) ?_
  simp -dsimp
  repeat (first | refine WP.seq ?_ | refine WP.block ?_ | (refine WP.region Tryd.tab ?_; simp -dsimp) | (refine WP.draw Tryd.tab Tryd.mixed ?_; simp -dsimp) | refine And.intro (by first | rfl | omega | decide | (simp; done) | (simp; omega) | (intro _ h; exact fcs_side h; done) | (intros; simp_all; done) | (intros; simp_all; omega)) ?_)
  refine WP.cond (b := false) (by simp) (fun h => by cases h) (fun _ => ?_)
  refine WP.skip ?_
  simp -dsimp
  repeat (first | refine WP.seq ?_ | refine WP.block ?_ | (refine WP.region Tryd.tab ?_; simp -dsimp) | (refine WP.draw Tryd.tab Tryd.mixed ?_; simp -dsimp) | refine And.intro (by first | rfl | omega | decide | (simp; done) | (simp; omega) | (intro _ h; exact fcs_side h; done) | (intros; simp_all; done) | (intros; simp_all; omega)) ?_)
  refine WP.loopWk (fun m S => S = mkS 27 [(0, .d nilD), (14, .d (sgD [(f, zs)] b)), (15, .d (.v (.int .i64 1))), (16, .d (.v (.int .i64 0)))] []) 1
    (S0 := mkS 27 [(0, .d nilD), (14, .d (sgD [(f, zs)] b)), (15, .d (.v (.int .i64 1))), (16, .d (.v (.int .i64 0)))] []) (Wk.lessE [] (by simp) (by simp)) rfl ?_
  rintro _ _ rfl
  simp -dsimp
  repeat (first | refine WP.seq ?_ | refine WP.block ?_ | (refine WP.region Tryd.tab ?_; simp -dsimp) | (refine WP.draw Tryd.tab Tryd.mixed ?_; simp -dsimp) | refine And.intro (by first | rfl | omega | decide | (simp; done) | (simp; omega) | (intro _ h; exact fcs_side h; done) | (intros; simp_all; done) | (intros; simp_all; omega)) ?_)
  refine WP.cond (b := true) (by simp) (fun _ => ?_) (fun h => by cases h)
  refine WP.skip ?_
  simp -dsimp
  refine WP.seq (WP.block ?_)
  have hzl : zs.length = 4 := rfl
  repeat (first | refine WP.seq ?_ | refine WP.block ?_ | (refine WP.region Tryd.tab ?_; simp -dsimp [e0, h61, h61A, hzl]) | (refine WP.draw Tryd.tab Tryd.mixed ?_; simp -dsimp [e0, h61, h61A, hzl]) | refine And.intro (by first | rfl | omega | decide | (simp; done) | (simp; omega) | (intro _ h; exact fcs_side h; done) | (intros; simp_all; done) | (intros; simp_all; omega)) ?_)
  refine vcStop.call0L Tryd.body37 hv rfl rfl (And.intro (.refl _) (And.intro (by rw [← List.map_append]; exact Leq.aggD _) trivial)) ?_
  simp -dsimp
  repeat (first | refine WP.seq ?_ | refine WP.block ?_ | (refine WP.region Tryd.tab ?_; simp -dsimp) | (refine WP.draw Tryd.tab Tryd.mixed ?_; simp -dsimp) | refine And.intro (by first | rfl | omega | decide | (simp; done) | (simp; omega) | (intro _ h; exact fcs_side h; done) | (intros; simp_all; done) | (intros; simp_all; omega)) ?_)
  have hne : ¬ oneE f = 0 := by unfold oneE; split <;> decide
  refine WP.cond (b := true) (by simp; exact hne) (fun _ => ?_) (fun h => by cases h)
  repeat (first | refine WP.seq ?_ | refine WP.block ?_ | (refine WP.region Tryd.tab ?_; simp -dsimp) | (refine WP.draw Tryd.tab Tryd.mixed ?_; simp -dsimp) | refine And.intro (by first | rfl | omega | decide | (simp; done) | (simp; omega) | (intro _ h; exact fcs_side h; done) | (intros; simp_all; done) | (intros; simp_all; omega)) ?_)
  refine WP.ret (finQ.retE ?_)
  simp -dsimp [oneE]
theorem new_one (f : F) (b : Bool) (hf : fOk f) (h0 : 0 ≤ f 0) : Fn0 Tryd.prog 15 [nilD, sgD [(f, zs)] b] (.tup [.agg [nilD], .v (.int .i64 (oneE f))]) := by
  have hne : ¬ oneE f = 0 := by unfold oneE; split <;> decide
  refine Fun.of_wp (pn := noPn) Tryd.tab Tryd.func15 rfl fun β0 => ?_
  simp only [Tryd.f15]
  repeat (first | refine WP.seq ?_ | refine WP.block ?_ | (refine WP.region Tryd.tab ?_; simp -dsimp) | (refine WP.draw Tryd.tab Tryd.mixed ?_; simp -dsimp) | refine And.intro (by first | rfl | omega | decide | (simp; done) | (simp; omega) | (intro _ h; exact fcs_side h; done) | (intros; simp_all; done) | (intros; simp_all; omega)) ?_)
  refine vcStop.call0L Tryd.body24 (verify_one f b hf h0) rfl rfl (And.intro (.refl _) (And.intro (.refl _) trivial)) ?_
  simp -dsimp
  repeat (first | refine WP.seq ?_ | refine WP.block ?_ | (refine WP.region Tryd.tab ?_; simp -dsimp) | (refine WP.draw Tryd.tab Tryd.mixed ?_; simp -dsimp) | refine And.intro (by first | rfl | omega | decide | (simp; done) | (simp; omega) | (intro _ h; exact fcs_side h; done) | (intros; simp_all; done) | (intros; simp_all; omega)) ?_)
  refine WP.cond (b := true) (by simp; exact hne) (fun _ => ?_) (fun h => by cases h)
  repeat (first | refine WP.seq ?_ | refine WP.block ?_ | (refine WP.region Tryd.tab ?_; simp -dsimp) | (refine WP.draw Tryd.tab Tryd.mixed ?_; simp -dsimp) | refine And.intro (by first | rfl | omega | decide | (simp; done) | (simp; omega) | (intro _ h; exact fcs_side h; done) | (intros; simp_all; done) | (intros; simp_all; omega)) ?_)
  refine WP.ret (finQ.retE ?_)
  simp -dsimp
end Go.Proofs.YtghfancmonhkcaaDoor

/-
  Ledgers: raw.
-/
set_option linter.unusedSimpArgs false
set_option linter.unusedVariables false
namespace Go.Proofs.YtghfancmonhkcaaDoor
open Go.Xe Go.RowKit

theorem rawL_ok {l : List F} (h : ∀ f ∈ l, fOk f) : ∀ p ∈ rawL l, sgOk p := fun p hp => by
  obtain ⟨f, hf, rfl⟩ := List.mem_map.1 hp
  exact ⟨h f hf, rfl, (by decide : ∀ d ∈ zs, oneD d = true)⟩
theorem rawL_len (l : List F) : (rawL l).length = l.length := by simp [rawL]
def rS (l : List F) : List F → St
  | [] => mkS 20 [(2, .ptr 2 0), (5, .d (slF l)), (6, .d (.v (.int .i64 l.length))), (7, .d (.v (.int .i64 0)))] [(2, .cells 24 [.d nilD])]
  | f :: r => mkS 20 [(2, .ptr 2 0), (5, .d (slF l)), (6, .d (.v (.int .i64 l.length))), (7, .d (.v (.int .i64 ((f :: r).length : Nat))))] [(2, .cells 24 [.row 505]), (505, .row 59 61 (f :: r).length ((sgC (rawL (f :: r))).map .d))]
theorem sgC_raw (l : List F) (f : F) : sgC (rawL (l ++ [f])) = sgC (rawL l) ++ (fcs f 0 57 ++ zs) := by simp [sgC, rawL]
theorem zero61 : ([.d (.v (.int .i64 0)), .d (.v (.int .i64 0)), .d (.v (.int .i64 0)), .d (.v (.int .i64 0)), .d (.v (.int .i64 0)), .d (.v (.int .i64 0)), .d (.v (.int .i64 0)), .d (.v (.int .i64 0)), .d (.v (.int .i64 0)), .d (.v (.int .i64 0)), .d (.v (.int .i64 0)), .d (.v (.int .i64 0)), .d (.v (.int .i64 0)), .d (.v (.int .i64 0)), .d (.v (.int .i64 0)), .d (.v (.int .i64 0)), .d (.v (.int .i64 0)), .d (.v (.int .i64 0)), .d (.v (.int .i64 0)), .d (.v (.int .i64 0)), .d (.v (.int .i64 0)), .d (.v (.int .i64 0)), .d (.v (.int .i64 0)), .d (.v (.int .i64 0)), .d (.v (.int .i64 0)), .d (.v (.int .i64 0)), .d (.v (.int .i64 0)), .d (.v (.int .i64 0)), .d (.v (.int .i64 0)), .d (.v (.int .i64 0)), .d (.v (.int .i64 0)), .d (.v (.int .i64 0)), .d (.v (.int .i64 0)), .d (.v (.int .i64 0)), .d (.v (.int .i64 0)), .d (.v (.int .i64 0)), .d (.v (.int .i64 0)), .d (.v (.int .i64 0)), .d (.v (.int .i64 0)), .d (.v (.int .i64 0)), .d (.v (.int .i64 0)), .d (.v (.int .i64 0)), .d (.v (.int .i64 0)), .d (.v (.int .i64 0)), .d (.v (.int .i64 0)), .d (.v (.int .i64 0)), .d (.v (.int .i64 0)), .d (.v (.int .i64 0)), .d (.v (.int .i64 0)), .d (.v (.int .i64 0)), .d (.v (.int .i64 0)), .d (.v (.int .i64 0)), .d (.v (.int .i64 0)), .d (.v (.int .i64 0)), .d (.v (.bool false)), .d (.v (.int .i64 0)), .d (.v (.int .i64 0)), .d (.v (.int .i64 0)), .d nilD, .d nilD, .d nilD] : List AV) = List.map AV.d (fcs f0 0 57) ++ List.map AV.d zs := rfl
theorem set61 (p : F) : setL (List.map AV.d (fcs f0 0 57) ++ List.map AV.d zs) 0 (List.map AV.d (fcs p 0 57)) = List.map AV.d (fcs p 0 57) ++ List.map AV.d zs := by
  rw [setL_eq _ _ _ (by rw [List.length_append, List.length_map, List.length_map, fcs_len57, fcs_len57]; omega), List.take_zero, List.nil_append, List.length_map, fcs_len57, Nat.zero_add, List.drop_append, List.length_map, fcs_len57, Nat.sub_self, List.drop_zero, List.drop_of_length_le (by rw [List.length_map, fcs_len57]; omega), List.nil_append]
set_option maxRecDepth 10000 in
set_option maxHeartbeats 4000000 in
theorem raw_ok (l : List F) (hl : l.length ≤ 14) (hf : ∀ f ∈ l, fOk f) : Fn0 Tryd.prog 13 [slF l] (lgD (rawL l) false) := by
  refine Fun.of_wp (pn := noPn) Tryd.tab Tryd.func13 rfl fun β0 => ?_
  simp only [Tryd.f13]
  repeat (first | refine WP.seq ?_ | refine WP.block ?_ | (refine WP.region Tryd.tab ?_; simp -dsimp) | (refine WP.draw Tryd.tab Tryd.mixed ?_; simp -dsimp) | refine And.intro (by first | rfl | omega | decide | (simp; done) | (simp; omega) | (intro _ h; exact fcs_side h; done) | (intros; simp_all; done) | (intros; simp_all; omega)) ?_)
  refine WP.loopWk (fun m S => ∃ l1 l2, l = l1 ++ l2 ∧ m = l2.length ∧ S = rS l l1) l.length (S0 := rS l []) (Wk.lessE [] (by simp [rS]) (by simp [rS])) ⟨[], l, rfl, rfl, rfl⟩ ?_
  rintro _ _ ⟨l1, l2, hl12, rfl, rfl⟩
  cases l2 with
  | nil =>
    simp only [List.append_nil] at hl12
    subst hl12
    cases l with
    | nil =>
      rw [rS]
      simp -dsimp
      repeat (first | refine WP.seq ?_ | refine WP.block ?_ | (refine WP.region Tryd.tab ?_; simp -dsimp) | (refine WP.draw Tryd.tab Tryd.mixed ?_; simp -dsimp) | refine And.intro (by first | rfl | omega | decide | (simp; done) | (simp; omega) | (intro _ h; exact fcs_side h; done) | (intros; simp_all; done) | (intros; simp_all; omega)) ?_)
      refine WP.cond (b := false) (by simp) (fun h => by cases h) (fun _ => ?_)
      refine WP.exit ?_
      simp -dsimp
      repeat (first | refine WP.seq ?_ | refine WP.block ?_ | (refine WP.region Tryd.tab ?_; simp -dsimp) | (refine WP.draw Tryd.tab Tryd.mixed ?_; simp -dsimp) | refine And.intro (by first | rfl | omega | decide | (simp; done) | (simp; omega) | (intro _ h; exact fcs_side h; done) | (intros; simp_all; done) | (intros; simp_all; omega)) ?_)
      refine WP.ret (finQ.retWE ((Wk.lessE [] (S' := mkS 20 [(2, .ptr 2 0)] [(2, .cells 24 [.d nilD])]) (by simp) (by simp)).trans ((Wk.nilCell 2 0 500 59 61 (by simp; exact ⟨rfl, rfl⟩) rfl (by simp)).trans (Wk.freeze (k := 500) (T := 59) (sz := 61) (n := 0) (ds := []) (by simp)))) ?_)
      simp -dsimp [rawL, sgC]
    | cons f r =>
      rw [rS]
      simp -dsimp
      repeat (first | refine WP.seq ?_ | refine WP.block ?_ | (refine WP.region Tryd.tab ?_; simp -dsimp) | (refine WP.draw Tryd.tab Tryd.mixed ?_; simp -dsimp) | refine And.intro (by first | rfl | omega | decide | (simp; done) | (simp; omega) | (intro _ h; exact fcs_side h; done) | (intros; simp_all; done) | (intros; simp_all; omega)) ?_)
      refine WP.cond (b := false) (by simp) (fun h => by cases h) (fun _ => ?_)
      refine WP.exit ?_
      simp -dsimp
      repeat (first | refine WP.seq ?_ | refine WP.block ?_ | (refine WP.region Tryd.tab ?_; simp -dsimp) | (refine WP.draw Tryd.tab Tryd.mixed ?_; simp -dsimp) | refine And.intro (by first | rfl | omega | decide | (simp; done) | (simp; omega) | (intro _ h; exact fcs_side h; done) | (intros; simp_all; done) | (intros; simp_all; omega)) ?_)
      refine WP.ret (finQ.retWE ((Wk.lessE [] (S' := mkS 20 [(2, .ptr 2 0)] [(2, .cells 24 [.row 505]), (505, .row 59 61 (f :: r).length ((sgC (rawL (f :: r))).map .d))]) (by simp) (by simp)).trans (Wk.freeze (k := 505) (T := 59) (sz := 61) (n := (f :: r).length) (ds := sgC (rawL (f :: r))) (by simp))) ?_)
      simp -dsimp [rawL_len]
  | cons p l2 =>
    have hll : l.length = l1.length + (l2.length + 1) := by rw [hl12]; simp
    have e1 : IntKind.i64.wrap ((l1.length : Int) + 1) = (l1.length : Int) + 1 := IntWalk.i64_in _ (by omega)
    have h1 := fsC_at2 l1 p l2
    rw [← hl12] at h1
    have hzl : zs.length = 4 := rfl
    have hone : ∀ c, ((∃ a, a ∈ fcs p 0 57 ∧ AV.d a = c) ∨ ∃ a, a ∈ zs ∧ AV.d a = c) → oneA c = true := by
      rintro c (⟨a, h, rfl⟩ | ⟨a, h, rfl⟩)
      · exact fcs_side h
      · exact (by decide : ∀ d ∈ zs, oneD d = true) a h
    have hz : zs = [.v (.int .i64 0), nilD, nilD, nilD] := rfl
    cases l1 with
    | nil =>
      rw [rS]
      simp -dsimp
      repeat (first | refine WP.seq ?_ | refine WP.block ?_ | (refine WP.region Tryd.tab ?_; simp -dsimp) | (refine WP.draw Tryd.tab Tryd.mixed ?_; simp -dsimp) | refine And.intro (by first | rfl | omega | decide | (simp; done) | (simp; omega) | (intro _ h; exact fcs_side h; done) | (intros; simp_all; done) | (intros; simp_all; omega)) ?_)
      refine WP.cond (b := true) (by simp; omega) (fun _ => ?_) (fun h => by cases h)
      refine WP.skip ?_
      simp -dsimp
      refine WP.seq (WP.block ?_)
      simp only [List.length_nil, Nat.zero_mul, List.drop_zero] at h1
      repeat (first | refine WP.seq ?_ | refine WP.block ?_ | (refine WP.region Tryd.tab ?_; simp -dsimp [h1, zero61, set61, hzl]) | (refine WP.draw Tryd.tab Tryd.mixed ?_; simp -dsimp [h1, zero61, set61, hzl]) | refine And.intro (by first | rfl | omega | decide | (simp; done) | (simp; omega) | (intro _ h; exact fcs_side h; done) | (intros; simp_all; done) | (intros; simp_all; omega)) ?_)
      refine loopW.next (mkS 20 [(2, .ptr 2 0), (5, .d (slF l)), (6, .d (.v (.int .i64 l.length))), (7, .d (.v (.int .i64 (([p]).length : Nat))))] [(2, .cells 24 [.row 505]), (505, .row 59 61 ([p]).length ((sgC (rawL ([p]))).map .d))]) (Wk.go [4, 15] 16 505 (by decide) (by simp) (by simp [show IntKind.i64.wrap 1 = 1 by decide]) (by simp [sgC, rawL])) l2.length (by simp) ⟨[p], l2, by simp [hl12], rfl, rfl⟩
    | cons f r =>
      rw [rS]
      simp -dsimp
      repeat (first | refine WP.seq ?_ | refine WP.block ?_ | (refine WP.region Tryd.tab ?_; simp -dsimp) | (refine WP.draw Tryd.tab Tryd.mixed ?_; simp -dsimp) | refine And.intro (by first | rfl | omega | decide | (simp; done) | (simp; omega) | (intro _ h; exact fcs_side h; done) | (intros; simp_all; done) | (intros; simp_all; omega)) ?_)
      refine WP.cond (b := true) (by simp; simp at hll; omega) (fun _ => ?_) (fun h => by cases h)
      refine WP.skip ?_
      simp -dsimp
      refine WP.seq (WP.block ?_)
      simp only [List.length_cons] at h1
      repeat (first | refine WP.seq ?_ | refine WP.block ?_ | (refine WP.region Tryd.tab ?_; simp -dsimp [h1, zero61, set61, hzl]) | (refine WP.draw Tryd.tab Tryd.mixed ?_; simp -dsimp [h1, zero61, set61, hzl]) | refine And.intro (by first | rfl | omega | decide | (simp; done) | (simp; omega) | (intro _ h; exact fcs_side h; done) | (intros; simp_all; done) | (intros; simp_all; omega)) ?_)
      have e2 : IntKind.i64.wrap ((r.length : Int) + 1 + 1) = (r.length : Int) + 1 + 1 := by simpa using e1
      refine loopW.next (mkS 20 [(2, .ptr 2 0), (5, .d (slF l)), (6, .d (.v (.int .i64 l.length))), (7, .d (.v (.int .i64 ((f :: r ++ [p]).length : Nat))))] [(2, .cells 24 [.row 505]), (505, .row 59 61 (f :: r ++ [p]).length ((sgC (rawL (f :: r ++ [p]))).map .d))]) (Wk.go [4, 15, 505] 16 505 (by decide) (by simp) (by simp [e2]) (by rw [sgC_raw]; simp)) l2.length (by simp) ⟨f :: r ++ [p], l2, by simp [hl12], rfl, rfl⟩
end Go.Proofs.YtghfancmonhkcaaDoor
