/-
  The reference's build.
-/
import Derived.Test.YtjfkeicmdaanbaaDoorKFr
import Derived.Test.YtjfkeicmdaanbaaDoorK4
set_option linter.unusedSectionVars false
set_option linter.unusedSimpArgs false
set_option linter.unusedVariables false
namespace Go.Proofs.YtjfkeicmdaanbaaDoor
open Go.Xe Go.RowKit

theorem iD_get (l : List Int) (i : Nat) (hi : i < l.length) : (iD l)[i]? = some (.v (.int .i64 (nthI l i))) := by
  induction l generalizing i with
  | nil => simp at hi
  | cons x l ih =>
    cases i with
    | zero => simp [nthI]
    | succ i =>
      simp only [List.length_cons] at hi
      rw [iD_cons, List.getElem?_cons_succ, ih i (by omega)]
      simp [nthI]
theorem addZ (l : List Int) (i : Nat) (hi : i < l.length + 12) : atL ((iD l).map AV.d ++ List.replicate 12 (AV.d (.v (.int .i64 0)))) i = .d (.v (.int .i64 (nthI l i))) := by
  rw [← atL_eq]
  by_cases h : i < l.length
  · rw [List.getElem?_append_left (by simpa using h), List.getElem?_map, iD_get l i h]; rfl
  · rw [List.getElem?_append_right (by simp; omega), List.getElem?_replicate, if_pos (by simp; omega)]
    rw [nthI, List.getElem?_eq_none (by omega)]
    rfl
theorem addZ_has (l : List Int) (k : Nat) : AV.hasL k ((iD l).map AV.d ++ List.replicate 12 (AV.d (.v (.int .i64 0)))) = false := by
  rw [hasL_append, hasL_d]; rfl
theorem fup_zero {g : Nat → Int} (h : g 54 = 0) : fup g 54 0 = g := by
  funext i
  unfold fup
  split
  · rename_i e; rw [e, h]
  · rfl
def head4 (l : List Int) : Nat → Int := fup (fup (fup (fup f0 3 (nthI l 0)) 0 (nthI l 1)) 1 (nthI l 2)) 2 (nthI l 3)
theorem headG_eq (l : List Int) : headG l = head4 l := rfl
theorem cand_some {l : List Int} {E : List Ent} (h : ents (nthI l 0) 0 = some E) : candG l = fup (rdE l E 4 (head4 l, 0)).1 54 (if (rdE l E 4 (head4 l, 0)).2 = 1 then 1 else 0) := by
  have : candE l = E := by rw [candE, show headG l 3 = nthI l 0 from rfl, h]; rfl
  rw [candG, this, headG_eq]
theorem cand_none {l : List Int} (h : ents (nthI l 0) 0 = none) : candG l = head4 l := by
  have : candE l = [] := by rw [candE, show headG l 3 = nthI l 0 from rfl, h]; rfl
  rw [candG, this, headG_eq]
  exact fup_zero rfl

set_option maxRecDepth 10000 in
set_option maxHeartbeats 4000000 in
theorem build_1 (l : List Int) (hl : l.length ≤ 100000) (hk : nthI l 0 = 1) : Fn0 Tryd.prog 41 [slI l] (fD (candG l)) := by
  have hE := cand_some (l := l) (by rw [hk]; simp [ents]; rfl)
  refine Fun.of_wp (pn := noPn) Tryd.tab Tryd.func41 rfl fun β0 => ?_
  simp only [Tryd.f41]
  repeat (first | refine WP.seq ?_ | refine WP.block ?_ | (refine WP.region Tryd.tab ?_; simp -dsimp [zero47]) | (refine WP.draw Tryd.tab Tryd.mixed ?_; simp -dsimp [zero47]) | refine And.intro (by first | rfl | omega | decide | (simp; done) | (simp; omega) | (intro _ h; exact fcs_side h; done) | (intros; simp_all; done)) ?_)
  refine vcStop.appendZ Tryd.tab (m := 12) (k := 8) (j := 7) rfl rfl rfl rfl rfl rfl rfl rfl (by omega) rfl (by simp; omega) (by simp) ?_
  have hh := addZ_has l
  have h0 := addZ l 0 (by omega)
  have h1 := addZ l 1 (by omega)
  have h2 := addZ l 2 (by omega)
  have h3 := addZ l 3 (by omega)
  have h4 := addZ l 4 (by omega)
  have h5 := addZ l 5 (by omega)
  have h6 := addZ l 6 (by omega)
  have h7 := addZ l 7 (by omega)
  have h8 := addZ l 8 (by omega)
  have h9 := addZ l 9 (by omega)
  have h10 := addZ l 10 (by omega)
  have h11 := addZ l 11 (by omega)
  have hcl : ((iD l).map AV.d ++ List.replicate 12 (AV.d (.v (.int .i64 0)))).length = l.length + 12 := by simp
  generalize (iD l).map AV.d ++ List.replicate 12 (AV.d (.v (.int .i64 0))) = cs at *
  simp -dsimp [hh]
  repeat (first | refine WP.seq ?_ | refine WP.block ?_ | (refine WP.region Tryd.tab ?_; simp -dsimp [hh, hcl, h0, h1, h2, h3, h4, h5, h6, h7, h8, h9, h10, h11, zero47]) | (refine WP.draw Tryd.tab Tryd.mixed ?_; simp -dsimp [hh, hcl, h0, h1, h2, h3, h4, h5, h6, h7, h8, h9, h10, h11, zero47]) | refine And.intro (by first | rfl | omega | decide | (simp; done) | (simp; omega) | (intro _ h; exact fcs_side h; done) | (intros; simp_all; done)) ?_)
  have hk3 : nthI l 0 = 1 := hk
  refine WP.cond (b := true) (by simp [fup, hk]) (fun _ => ?_) (fun h => by cases h)
  repeat (first | refine WP.seq ?_ | refine WP.block ?_ | (refine WP.region Tryd.tab ?_; simp -dsimp [hh, hcl, h0, h1, h2, h3, h4, h5, h6, h7, h8, h9, h10, h11, setL]) | (refine WP.draw Tryd.tab Tryd.mixed ?_; simp -dsimp [hh, hcl, h0, h1, h2, h3, h4, h5, h6, h7, h8, h9, h10, h11, setL]) | refine And.intro (by first | rfl | omega | decide | (simp; done) | (simp; omega) | (intro _ h; exact fcs_side h; done) | (intros; simp_all; done)) ?_)
  refine WP.ret (finQ.retE ?_)
  simp -dsimp [hE, rdE, head4, fD]
  all_goals first | exact Leq.aggD _ | (rw [fup_zero (by simp [fup, f0])]; exact Leq.aggD _)

set_option maxRecDepth 10000 in
set_option maxHeartbeats 4000000 in
theorem build_2 (l : List Int) (hl : l.length ≤ 100000) (hk : nthI l 0 = 2) : Fn0 Tryd.prog 41 [slI l] (fD (candG l)) := by
  have hE := cand_some (l := l) (by rw [hk]; simp [ents]; rfl)
  refine Fun.of_wp (pn := noPn) Tryd.tab Tryd.func41 rfl fun β0 => ?_
  simp only [Tryd.f41]
  repeat (first | refine WP.seq ?_ | refine WP.block ?_ | (refine WP.region Tryd.tab ?_; simp -dsimp [zero47]) | (refine WP.draw Tryd.tab Tryd.mixed ?_; simp -dsimp [zero47]) | refine And.intro (by first | rfl | omega | decide | (simp; done) | (simp; omega) | (intro _ h; exact fcs_side h; done) | (intros; simp_all; done)) ?_)
  refine vcStop.appendZ Tryd.tab (m := 12) (k := 8) (j := 7) rfl rfl rfl rfl rfl rfl rfl rfl (by omega) rfl (by simp; omega) (by simp) ?_
  have hh := addZ_has l
  have h0 := addZ l 0 (by omega)
  have h1 := addZ l 1 (by omega)
  have h2 := addZ l 2 (by omega)
  have h3 := addZ l 3 (by omega)
  have h4 := addZ l 4 (by omega)
  have h5 := addZ l 5 (by omega)
  have h6 := addZ l 6 (by omega)
  have h7 := addZ l 7 (by omega)
  have hcl : ((iD l).map AV.d ++ List.replicate 12 (AV.d (.v (.int .i64 0)))).length = l.length + 12 := by simp
  generalize (iD l).map AV.d ++ List.replicate 12 (AV.d (.v (.int .i64 0))) = cs at *
  simp -dsimp [hh]
  repeat (first | refine WP.seq ?_ | refine WP.block ?_ | (refine WP.region Tryd.tab ?_; simp -dsimp [hh, hcl, h0, h1, h2, h3, h4, h5, h6, h7, zero47]) | (refine WP.draw Tryd.tab Tryd.mixed ?_; simp -dsimp [hh, hcl, h0, h1, h2, h3, h4, h5, h6, h7, zero47]) | refine And.intro (by first | rfl | omega | decide | (simp; done) | (simp; omega) | (intro _ h; exact fcs_side h; done) | (intros; simp_all; done)) ?_)
  have hk3 : nthI l 0 = 2 := hk
  refine WP.cond (b := false) (by simp [fup, hk]) (fun h => by cases h) (fun _ => ?_)
  repeat (first | refine WP.seq ?_ | refine WP.block ?_ | (refine WP.region Tryd.tab ?_; simp -dsimp [hh, hcl, h0, h1, h2, h3, h4, h5, h6, h7]) | (refine WP.draw Tryd.tab Tryd.mixed ?_; simp -dsimp [hh, hcl, h0, h1, h2, h3, h4, h5, h6, h7]) | refine And.intro (by first | rfl | omega | decide | (simp; done) | (simp; omega) | (intro _ h; exact fcs_side h; done) | (intros; simp_all; done)) ?_)
  refine WP.cond (b := true) (by simp [fup, hk]) (fun _ => ?_) (fun h => by cases h)
  repeat (first | refine WP.seq ?_ | refine WP.block ?_ | (refine WP.region Tryd.tab ?_; simp -dsimp [hh, hcl, h0, h1, h2, h3, h4, h5, h6, h7, setL]) | (refine WP.draw Tryd.tab Tryd.mixed ?_; simp -dsimp [hh, hcl, h0, h1, h2, h3, h4, h5, h6, h7, setL]) | refine And.intro (by first | rfl | omega | decide | (simp; done) | (simp; omega) | (intro _ h; exact fcs_side h; done) | (intros; simp_all; done)) ?_)
  refine WP.ret (finQ.retE ?_)
  simp -dsimp [hE, rdE, head4, fD]
  all_goals first | exact Leq.aggD _ | (rw [fup_zero (by simp [fup, f0])]; exact Leq.aggD _)

set_option maxRecDepth 10000 in
set_option maxHeartbeats 4000000 in
theorem build_3 (l : List Int) (hl : l.length ≤ 100000) (hk : nthI l 0 = 3) : Fn0 Tryd.prog 41 [slI l] (fD (candG l)) := by
  have hE := cand_some (l := l) (by rw [hk]; simp [ents]; rfl)
  refine Fun.of_wp (pn := noPn) Tryd.tab Tryd.func41 rfl fun β0 => ?_
  simp only [Tryd.f41]
  repeat (first | refine WP.seq ?_ | refine WP.block ?_ | (refine WP.region Tryd.tab ?_; simp -dsimp [zero47]) | (refine WP.draw Tryd.tab Tryd.mixed ?_; simp -dsimp [zero47]) | refine And.intro (by first | rfl | omega | decide | (simp; done) | (simp; omega) | (intro _ h; exact fcs_side h; done) | (intros; simp_all; done)) ?_)
  refine vcStop.appendZ Tryd.tab (m := 12) (k := 8) (j := 7) rfl rfl rfl rfl rfl rfl rfl rfl (by omega) rfl (by simp; omega) (by simp) ?_
  have hh := addZ_has l
  have h0 := addZ l 0 (by omega)
  have h1 := addZ l 1 (by omega)
  have h2 := addZ l 2 (by omega)
  have h3 := addZ l 3 (by omega)
  have h4 := addZ l 4 (by omega)
  have h5 := addZ l 5 (by omega)
  have h6 := addZ l 6 (by omega)
  have h7 := addZ l 7 (by omega)
  have h8 := addZ l 8 (by omega)
  have hcl : ((iD l).map AV.d ++ List.replicate 12 (AV.d (.v (.int .i64 0)))).length = l.length + 12 := by simp
  generalize (iD l).map AV.d ++ List.replicate 12 (AV.d (.v (.int .i64 0))) = cs at *
  simp -dsimp [hh]
  repeat (first | refine WP.seq ?_ | refine WP.block ?_ | (refine WP.region Tryd.tab ?_; simp -dsimp [hh, hcl, h0, h1, h2, h3, h4, h5, h6, h7, h8, zero47]) | (refine WP.draw Tryd.tab Tryd.mixed ?_; simp -dsimp [hh, hcl, h0, h1, h2, h3, h4, h5, h6, h7, h8, zero47]) | refine And.intro (by first | rfl | omega | decide | (simp; done) | (simp; omega) | (intro _ h; exact fcs_side h; done) | (intros; simp_all; done)) ?_)
  have hk3 : nthI l 0 = 3 := hk
  refine WP.cond (b := false) (by simp [fup, hk]) (fun h => by cases h) (fun _ => ?_)
  repeat (first | refine WP.seq ?_ | refine WP.block ?_ | (refine WP.region Tryd.tab ?_; simp -dsimp [hh, hcl, h0, h1, h2, h3, h4, h5, h6, h7, h8]) | (refine WP.draw Tryd.tab Tryd.mixed ?_; simp -dsimp [hh, hcl, h0, h1, h2, h3, h4, h5, h6, h7, h8]) | refine And.intro (by first | rfl | omega | decide | (simp; done) | (simp; omega) | (intro _ h; exact fcs_side h; done) | (intros; simp_all; done)) ?_)
  refine WP.cond (b := false) (by simp [fup, hk]) (fun h => by cases h) (fun _ => ?_)
  repeat (first | refine WP.seq ?_ | refine WP.block ?_ | (refine WP.region Tryd.tab ?_; simp -dsimp [hh, hcl, h0, h1, h2, h3, h4, h5, h6, h7, h8]) | (refine WP.draw Tryd.tab Tryd.mixed ?_; simp -dsimp [hh, hcl, h0, h1, h2, h3, h4, h5, h6, h7, h8]) | refine And.intro (by first | rfl | omega | decide | (simp; done) | (simp; omega) | (intro _ h; exact fcs_side h; done) | (intros; simp_all; done)) ?_)
  refine WP.cond (b := true) (by simp [fup, hk]) (fun _ => ?_) (fun h => by cases h)
  repeat (first | refine WP.seq ?_ | refine WP.block ?_ | (refine WP.region Tryd.tab ?_; simp -dsimp [hh, hcl, h0, h1, h2, h3, h4, h5, h6, h7, h8, setL]) | (refine WP.draw Tryd.tab Tryd.mixed ?_; simp -dsimp [hh, hcl, h0, h1, h2, h3, h4, h5, h6, h7, h8, setL]) | refine And.intro (by first | rfl | omega | decide | (simp; done) | (simp; omega) | (intro _ h; exact fcs_side h; done) | (intros; simp_all; done)) ?_)
  refine WP.ret (finQ.retE ?_)
  simp -dsimp [hE, rdE, head4, fD]
  all_goals first | exact Leq.aggD _ | (rw [fup_zero (by simp [fup, f0])]; exact Leq.aggD _)

set_option maxRecDepth 10000 in
set_option maxHeartbeats 4000000 in
theorem build_4 (l : List Int) (hl : l.length ≤ 100000) (hk : nthI l 0 = 4) : Fn0 Tryd.prog 41 [slI l] (fD (candG l)) := by
  have hE := cand_some (l := l) (by rw [hk]; simp [ents]; rfl)
  refine Fun.of_wp (pn := noPn) Tryd.tab Tryd.func41 rfl fun β0 => ?_
  simp only [Tryd.f41]
  repeat (first | refine WP.seq ?_ | refine WP.block ?_ | (refine WP.region Tryd.tab ?_; simp -dsimp [zero47]) | (refine WP.draw Tryd.tab Tryd.mixed ?_; simp -dsimp [zero47]) | refine And.intro (by first | rfl | omega | decide | (simp; done) | (simp; omega) | (intro _ h; exact fcs_side h; done) | (intros; simp_all; done)) ?_)
  refine vcStop.appendZ Tryd.tab (m := 12) (k := 8) (j := 7) rfl rfl rfl rfl rfl rfl rfl rfl (by omega) rfl (by simp; omega) (by simp) ?_
  have hh := addZ_has l
  have h0 := addZ l 0 (by omega)
  have h1 := addZ l 1 (by omega)
  have h2 := addZ l 2 (by omega)
  have h3 := addZ l 3 (by omega)
  have h4 := addZ l 4 (by omega)
  have h5 := addZ l 5 (by omega)
  have h6 := addZ l 6 (by omega)
  have h7 := addZ l 7 (by omega)
  have h8 := addZ l 8 (by omega)
  have h9 := addZ l 9 (by omega)
  have h10 := addZ l 10 (by omega)
  have h11 := addZ l 11 (by omega)
  have hcl : ((iD l).map AV.d ++ List.replicate 12 (AV.d (.v (.int .i64 0)))).length = l.length + 12 := by simp
  generalize (iD l).map AV.d ++ List.replicate 12 (AV.d (.v (.int .i64 0))) = cs at *
  simp -dsimp [hh]
  repeat (first | refine WP.seq ?_ | refine WP.block ?_ | (refine WP.region Tryd.tab ?_; simp -dsimp [hh, hcl, h0, h1, h2, h3, h4, h5, h6, h7, h8, h9, h10, h11, zero47]) | (refine WP.draw Tryd.tab Tryd.mixed ?_; simp -dsimp [hh, hcl, h0, h1, h2, h3, h4, h5, h6, h7, h8, h9, h10, h11, zero47]) | refine And.intro (by first | rfl | omega | decide | (simp; done) | (simp; omega) | (intro _ h; exact fcs_side h; done) | (intros; simp_all; done)) ?_)
  have hk3 : nthI l 0 = 4 := hk
  refine WP.cond (b := false) (by simp [fup, hk]) (fun h => by cases h) (fun _ => ?_)
  repeat (first | refine WP.seq ?_ | refine WP.block ?_ | (refine WP.region Tryd.tab ?_; simp -dsimp [hh, hcl, h0, h1, h2, h3, h4, h5, h6, h7, h8, h9, h10, h11]) | (refine WP.draw Tryd.tab Tryd.mixed ?_; simp -dsimp [hh, hcl, h0, h1, h2, h3, h4, h5, h6, h7, h8, h9, h10, h11]) | refine And.intro (by first | rfl | omega | decide | (simp; done) | (simp; omega) | (intro _ h; exact fcs_side h; done) | (intros; simp_all; done)) ?_)
  refine WP.cond (b := false) (by simp [fup, hk]) (fun h => by cases h) (fun _ => ?_)
  repeat (first | refine WP.seq ?_ | refine WP.block ?_ | (refine WP.region Tryd.tab ?_; simp -dsimp [hh, hcl, h0, h1, h2, h3, h4, h5, h6, h7, h8, h9, h10, h11]) | (refine WP.draw Tryd.tab Tryd.mixed ?_; simp -dsimp [hh, hcl, h0, h1, h2, h3, h4, h5, h6, h7, h8, h9, h10, h11]) | refine And.intro (by first | rfl | omega | decide | (simp; done) | (simp; omega) | (intro _ h; exact fcs_side h; done) | (intros; simp_all; done)) ?_)
  refine WP.cond (b := false) (by simp [fup, hk]) (fun h => by cases h) (fun _ => ?_)
  repeat (first | refine WP.seq ?_ | refine WP.block ?_ | (refine WP.region Tryd.tab ?_; simp -dsimp [hh, hcl, h0, h1, h2, h3, h4, h5, h6, h7, h8, h9, h10, h11]) | (refine WP.draw Tryd.tab Tryd.mixed ?_; simp -dsimp [hh, hcl, h0, h1, h2, h3, h4, h5, h6, h7, h8, h9, h10, h11]) | refine And.intro (by first | rfl | omega | decide | (simp; done) | (simp; omega) | (intro _ h; exact fcs_side h; done) | (intros; simp_all; done)) ?_)
  refine WP.cond (b := true) (by simp [fup, hk]) (fun _ => ?_) (fun h => by cases h)
  repeat (first | refine WP.seq ?_ | refine WP.block ?_ | (refine WP.region Tryd.tab ?_; simp -dsimp [hh, hcl, h0, h1, h2, h3, h4, h5, h6, h7, h8, h9, h10, h11, setL]) | (refine WP.draw Tryd.tab Tryd.mixed ?_; simp -dsimp [hh, hcl, h0, h1, h2, h3, h4, h5, h6, h7, h8, h9, h10, h11, setL]) | refine And.intro (by first | rfl | omega | decide | (simp; done) | (simp; omega) | (intro _ h; exact fcs_side h; done) | (intros; simp_all; done)) ?_)
  refine WP.ret (finQ.retE ?_)
  simp -dsimp [hE, rdE, head4, fD]
  all_goals first | exact Leq.aggD _ | (rw [fup_zero (by simp [fup, f0])]; exact Leq.aggD _)

set_option maxRecDepth 10000 in
set_option maxHeartbeats 4000000 in
theorem build_5 (l : List Int) (hl : l.length ≤ 100000) (hk : nthI l 0 = 5) : Fn0 Tryd.prog 41 [slI l] (fD (candG l)) := by
  have hE := cand_some (l := l) (by rw [hk]; simp [ents]; rfl)
  refine Fun.of_wp (pn := noPn) Tryd.tab Tryd.func41 rfl fun β0 => ?_
  simp only [Tryd.f41]
  repeat (first | refine WP.seq ?_ | refine WP.block ?_ | (refine WP.region Tryd.tab ?_; simp -dsimp [zero47]) | (refine WP.draw Tryd.tab Tryd.mixed ?_; simp -dsimp [zero47]) | refine And.intro (by first | rfl | omega | decide | (simp; done) | (simp; omega) | (intro _ h; exact fcs_side h; done) | (intros; simp_all; done)) ?_)
  refine vcStop.appendZ Tryd.tab (m := 12) (k := 8) (j := 7) rfl rfl rfl rfl rfl rfl rfl rfl (by omega) rfl (by simp; omega) (by simp) ?_
  have hh := addZ_has l
  have h0 := addZ l 0 (by omega)
  have h1 := addZ l 1 (by omega)
  have h2 := addZ l 2 (by omega)
  have h3 := addZ l 3 (by omega)
  have h4 := addZ l 4 (by omega)
  have h5 := addZ l 5 (by omega)
  have h6 := addZ l 6 (by omega)
  have h7 := addZ l 7 (by omega)
  have hcl : ((iD l).map AV.d ++ List.replicate 12 (AV.d (.v (.int .i64 0)))).length = l.length + 12 := by simp
  generalize (iD l).map AV.d ++ List.replicate 12 (AV.d (.v (.int .i64 0))) = cs at *
  simp -dsimp [hh]
  repeat (first | refine WP.seq ?_ | refine WP.block ?_ | (refine WP.region Tryd.tab ?_; simp -dsimp [hh, hcl, h0, h1, h2, h3, h4, h5, h6, h7, zero47]) | (refine WP.draw Tryd.tab Tryd.mixed ?_; simp -dsimp [hh, hcl, h0, h1, h2, h3, h4, h5, h6, h7, zero47]) | refine And.intro (by first | rfl | omega | decide | (simp; done) | (simp; omega) | (intro _ h; exact fcs_side h; done) | (intros; simp_all; done)) ?_)
  have hk3 : nthI l 0 = 5 := hk
  refine WP.cond (b := false) (by simp [fup, hk]) (fun h => by cases h) (fun _ => ?_)
  repeat (first | refine WP.seq ?_ | refine WP.block ?_ | (refine WP.region Tryd.tab ?_; simp -dsimp [hh, hcl, h0, h1, h2, h3, h4, h5, h6, h7]) | (refine WP.draw Tryd.tab Tryd.mixed ?_; simp -dsimp [hh, hcl, h0, h1, h2, h3, h4, h5, h6, h7]) | refine And.intro (by first | rfl | omega | decide | (simp; done) | (simp; omega) | (intro _ h; exact fcs_side h; done) | (intros; simp_all; done)) ?_)
  refine WP.cond (b := false) (by simp [fup, hk]) (fun h => by cases h) (fun _ => ?_)
  repeat (first | refine WP.seq ?_ | refine WP.block ?_ | (refine WP.region Tryd.tab ?_; simp -dsimp [hh, hcl, h0, h1, h2, h3, h4, h5, h6, h7]) | (refine WP.draw Tryd.tab Tryd.mixed ?_; simp -dsimp [hh, hcl, h0, h1, h2, h3, h4, h5, h6, h7]) | refine And.intro (by first | rfl | omega | decide | (simp; done) | (simp; omega) | (intro _ h; exact fcs_side h; done) | (intros; simp_all; done)) ?_)
  refine WP.cond (b := false) (by simp [fup, hk]) (fun h => by cases h) (fun _ => ?_)
  repeat (first | refine WP.seq ?_ | refine WP.block ?_ | (refine WP.region Tryd.tab ?_; simp -dsimp [hh, hcl, h0, h1, h2, h3, h4, h5, h6, h7]) | (refine WP.draw Tryd.tab Tryd.mixed ?_; simp -dsimp [hh, hcl, h0, h1, h2, h3, h4, h5, h6, h7]) | refine And.intro (by first | rfl | omega | decide | (simp; done) | (simp; omega) | (intro _ h; exact fcs_side h; done) | (intros; simp_all; done)) ?_)
  refine WP.cond (b := false) (by simp [fup, hk]) (fun h => by cases h) (fun _ => ?_)
  repeat (first | refine WP.seq ?_ | refine WP.block ?_ | (refine WP.region Tryd.tab ?_; simp -dsimp [hh, hcl, h0, h1, h2, h3, h4, h5, h6, h7]) | (refine WP.draw Tryd.tab Tryd.mixed ?_; simp -dsimp [hh, hcl, h0, h1, h2, h3, h4, h5, h6, h7]) | refine And.intro (by first | rfl | omega | decide | (simp; done) | (simp; omega) | (intro _ h; exact fcs_side h; done) | (intros; simp_all; done)) ?_)
  refine WP.cond (b := true) (by simp [fup, hk]) (fun _ => ?_) (fun h => by cases h)
  repeat (first | refine WP.seq ?_ | refine WP.block ?_ | (refine WP.region Tryd.tab ?_; simp -dsimp [hh, hcl, h0, h1, h2, h3, h4, h5, h6, h7, setL]) | (refine WP.draw Tryd.tab Tryd.mixed ?_; simp -dsimp [hh, hcl, h0, h1, h2, h3, h4, h5, h6, h7, setL]) | refine And.intro (by first | rfl | omega | decide | (simp; done) | (simp; omega) | (intro _ h; exact fcs_side h; done) | (intros; simp_all; done)) ?_)
  refine WP.ret (finQ.retE ?_)
  simp -dsimp [hE, rdE, head4, fD]
  all_goals first | exact Leq.aggD _ | (rw [fup_zero (by simp [fup, f0])]; exact Leq.aggD _)

set_option maxRecDepth 10000 in
set_option maxHeartbeats 4000000 in
theorem build_6 (l : List Int) (hl : l.length ≤ 100000) (hk : nthI l 0 = 6) : Fn0 Tryd.prog 41 [slI l] (fD (candG l)) := by
  have hE := cand_some (l := l) (by rw [hk]; simp [ents]; rfl)
  refine Fun.of_wp (pn := noPn) Tryd.tab Tryd.func41 rfl fun β0 => ?_
  simp only [Tryd.f41]
  repeat (first | refine WP.seq ?_ | refine WP.block ?_ | (refine WP.region Tryd.tab ?_; simp -dsimp [zero47]) | (refine WP.draw Tryd.tab Tryd.mixed ?_; simp -dsimp [zero47]) | refine And.intro (by first | rfl | omega | decide | (simp; done) | (simp; omega) | (intro _ h; exact fcs_side h; done) | (intros; simp_all; done)) ?_)
  refine vcStop.appendZ Tryd.tab (m := 12) (k := 8) (j := 7) rfl rfl rfl rfl rfl rfl rfl rfl (by omega) rfl (by simp; omega) (by simp) ?_
  have hh := addZ_has l
  have h0 := addZ l 0 (by omega)
  have h1 := addZ l 1 (by omega)
  have h2 := addZ l 2 (by omega)
  have h3 := addZ l 3 (by omega)
  have h4 := addZ l 4 (by omega)
  have h5 := addZ l 5 (by omega)
  have h6 := addZ l 6 (by omega)
  have h7 := addZ l 7 (by omega)
  have hcl : ((iD l).map AV.d ++ List.replicate 12 (AV.d (.v (.int .i64 0)))).length = l.length + 12 := by simp
  generalize (iD l).map AV.d ++ List.replicate 12 (AV.d (.v (.int .i64 0))) = cs at *
  simp -dsimp [hh]
  repeat (first | refine WP.seq ?_ | refine WP.block ?_ | (refine WP.region Tryd.tab ?_; simp -dsimp [hh, hcl, h0, h1, h2, h3, h4, h5, h6, h7, zero47]) | (refine WP.draw Tryd.tab Tryd.mixed ?_; simp -dsimp [hh, hcl, h0, h1, h2, h3, h4, h5, h6, h7, zero47]) | refine And.intro (by first | rfl | omega | decide | (simp; done) | (simp; omega) | (intro _ h; exact fcs_side h; done) | (intros; simp_all; done)) ?_)
  have hk3 : nthI l 0 = 6 := hk
  refine WP.cond (b := false) (by simp [fup, hk]) (fun h => by cases h) (fun _ => ?_)
  repeat (first | refine WP.seq ?_ | refine WP.block ?_ | (refine WP.region Tryd.tab ?_; simp -dsimp [hh, hcl, h0, h1, h2, h3, h4, h5, h6, h7]) | (refine WP.draw Tryd.tab Tryd.mixed ?_; simp -dsimp [hh, hcl, h0, h1, h2, h3, h4, h5, h6, h7]) | refine And.intro (by first | rfl | omega | decide | (simp; done) | (simp; omega) | (intro _ h; exact fcs_side h; done) | (intros; simp_all; done)) ?_)
  refine WP.cond (b := false) (by simp [fup, hk]) (fun h => by cases h) (fun _ => ?_)
  repeat (first | refine WP.seq ?_ | refine WP.block ?_ | (refine WP.region Tryd.tab ?_; simp -dsimp [hh, hcl, h0, h1, h2, h3, h4, h5, h6, h7]) | (refine WP.draw Tryd.tab Tryd.mixed ?_; simp -dsimp [hh, hcl, h0, h1, h2, h3, h4, h5, h6, h7]) | refine And.intro (by first | rfl | omega | decide | (simp; done) | (simp; omega) | (intro _ h; exact fcs_side h; done) | (intros; simp_all; done)) ?_)
  refine WP.cond (b := false) (by simp [fup, hk]) (fun h => by cases h) (fun _ => ?_)
  repeat (first | refine WP.seq ?_ | refine WP.block ?_ | (refine WP.region Tryd.tab ?_; simp -dsimp [hh, hcl, h0, h1, h2, h3, h4, h5, h6, h7]) | (refine WP.draw Tryd.tab Tryd.mixed ?_; simp -dsimp [hh, hcl, h0, h1, h2, h3, h4, h5, h6, h7]) | refine And.intro (by first | rfl | omega | decide | (simp; done) | (simp; omega) | (intro _ h; exact fcs_side h; done) | (intros; simp_all; done)) ?_)
  refine WP.cond (b := false) (by simp [fup, hk]) (fun h => by cases h) (fun _ => ?_)
  repeat (first | refine WP.seq ?_ | refine WP.block ?_ | (refine WP.region Tryd.tab ?_; simp -dsimp [hh, hcl, h0, h1, h2, h3, h4, h5, h6, h7]) | (refine WP.draw Tryd.tab Tryd.mixed ?_; simp -dsimp [hh, hcl, h0, h1, h2, h3, h4, h5, h6, h7]) | refine And.intro (by first | rfl | omega | decide | (simp; done) | (simp; omega) | (intro _ h; exact fcs_side h; done) | (intros; simp_all; done)) ?_)
  refine WP.cond (b := false) (by simp [fup, hk]) (fun h => by cases h) (fun _ => ?_)
  repeat (first | refine WP.seq ?_ | refine WP.block ?_ | (refine WP.region Tryd.tab ?_; simp -dsimp [hh, hcl, h0, h1, h2, h3, h4, h5, h6, h7]) | (refine WP.draw Tryd.tab Tryd.mixed ?_; simp -dsimp [hh, hcl, h0, h1, h2, h3, h4, h5, h6, h7]) | refine And.intro (by first | rfl | omega | decide | (simp; done) | (simp; omega) | (intro _ h; exact fcs_side h; done) | (intros; simp_all; done)) ?_)
  refine WP.cond (b := true) (by simp [fup, hk]) (fun _ => ?_) (fun h => by cases h)
  repeat (first | refine WP.seq ?_ | refine WP.block ?_ | (refine WP.region Tryd.tab ?_; simp -dsimp [hh, hcl, h0, h1, h2, h3, h4, h5, h6, h7, setL]) | (refine WP.draw Tryd.tab Tryd.mixed ?_; simp -dsimp [hh, hcl, h0, h1, h2, h3, h4, h5, h6, h7, setL]) | refine And.intro (by first | rfl | omega | decide | (simp; done) | (simp; omega) | (intro _ h; exact fcs_side h; done) | (intros; simp_all; done)) ?_)
  refine WP.ret (finQ.retE ?_)
  simp -dsimp [hE, rdE, head4, fD]
  all_goals first | exact Leq.aggD _ | (rw [fup_zero (by simp [fup, f0])]; exact Leq.aggD _)

set_option maxRecDepth 10000 in
set_option maxHeartbeats 4000000 in
theorem build_7 (l : List Int) (hl : l.length ≤ 100000) (hk : nthI l 0 = 7) : Fn0 Tryd.prog 41 [slI l] (fD (candG l)) := by
  have hE := cand_some (l := l) (by rw [hk]; simp [ents]; rfl)
  refine Fun.of_wp (pn := noPn) Tryd.tab Tryd.func41 rfl fun β0 => ?_
  simp only [Tryd.f41]
  repeat (first | refine WP.seq ?_ | refine WP.block ?_ | (refine WP.region Tryd.tab ?_; simp -dsimp [zero47]) | (refine WP.draw Tryd.tab Tryd.mixed ?_; simp -dsimp [zero47]) | refine And.intro (by first | rfl | omega | decide | (simp; done) | (simp; omega) | (intro _ h; exact fcs_side h; done) | (intros; simp_all; done)) ?_)
  refine vcStop.appendZ Tryd.tab (m := 12) (k := 8) (j := 7) rfl rfl rfl rfl rfl rfl rfl rfl (by omega) rfl (by simp; omega) (by simp) ?_
  have hh := addZ_has l
  have h0 := addZ l 0 (by omega)
  have h1 := addZ l 1 (by omega)
  have h2 := addZ l 2 (by omega)
  have h3 := addZ l 3 (by omega)
  have h4 := addZ l 4 (by omega)
  have h5 := addZ l 5 (by omega)
  have hcl : ((iD l).map AV.d ++ List.replicate 12 (AV.d (.v (.int .i64 0)))).length = l.length + 12 := by simp
  generalize (iD l).map AV.d ++ List.replicate 12 (AV.d (.v (.int .i64 0))) = cs at *
  simp -dsimp [hh]
  repeat (first | refine WP.seq ?_ | refine WP.block ?_ | (refine WP.region Tryd.tab ?_; simp -dsimp [hh, hcl, h0, h1, h2, h3, h4, h5, zero47]) | (refine WP.draw Tryd.tab Tryd.mixed ?_; simp -dsimp [hh, hcl, h0, h1, h2, h3, h4, h5, zero47]) | refine And.intro (by first | rfl | omega | decide | (simp; done) | (simp; omega) | (intro _ h; exact fcs_side h; done) | (intros; simp_all; done)) ?_)
  have hk3 : nthI l 0 = 7 := hk
  refine WP.cond (b := false) (by simp [fup, hk]) (fun h => by cases h) (fun _ => ?_)
  repeat (first | refine WP.seq ?_ | refine WP.block ?_ | (refine WP.region Tryd.tab ?_; simp -dsimp [hh, hcl, h0, h1, h2, h3, h4, h5]) | (refine WP.draw Tryd.tab Tryd.mixed ?_; simp -dsimp [hh, hcl, h0, h1, h2, h3, h4, h5]) | refine And.intro (by first | rfl | omega | decide | (simp; done) | (simp; omega) | (intro _ h; exact fcs_side h; done) | (intros; simp_all; done)) ?_)
  refine WP.cond (b := false) (by simp [fup, hk]) (fun h => by cases h) (fun _ => ?_)
  repeat (first | refine WP.seq ?_ | refine WP.block ?_ | (refine WP.region Tryd.tab ?_; simp -dsimp [hh, hcl, h0, h1, h2, h3, h4, h5]) | (refine WP.draw Tryd.tab Tryd.mixed ?_; simp -dsimp [hh, hcl, h0, h1, h2, h3, h4, h5]) | refine And.intro (by first | rfl | omega | decide | (simp; done) | (simp; omega) | (intro _ h; exact fcs_side h; done) | (intros; simp_all; done)) ?_)
  refine WP.cond (b := false) (by simp [fup, hk]) (fun h => by cases h) (fun _ => ?_)
  repeat (first | refine WP.seq ?_ | refine WP.block ?_ | (refine WP.region Tryd.tab ?_; simp -dsimp [hh, hcl, h0, h1, h2, h3, h4, h5]) | (refine WP.draw Tryd.tab Tryd.mixed ?_; simp -dsimp [hh, hcl, h0, h1, h2, h3, h4, h5]) | refine And.intro (by first | rfl | omega | decide | (simp; done) | (simp; omega) | (intro _ h; exact fcs_side h; done) | (intros; simp_all; done)) ?_)
  refine WP.cond (b := false) (by simp [fup, hk]) (fun h => by cases h) (fun _ => ?_)
  repeat (first | refine WP.seq ?_ | refine WP.block ?_ | (refine WP.region Tryd.tab ?_; simp -dsimp [hh, hcl, h0, h1, h2, h3, h4, h5]) | (refine WP.draw Tryd.tab Tryd.mixed ?_; simp -dsimp [hh, hcl, h0, h1, h2, h3, h4, h5]) | refine And.intro (by first | rfl | omega | decide | (simp; done) | (simp; omega) | (intro _ h; exact fcs_side h; done) | (intros; simp_all; done)) ?_)
  refine WP.cond (b := false) (by simp [fup, hk]) (fun h => by cases h) (fun _ => ?_)
  repeat (first | refine WP.seq ?_ | refine WP.block ?_ | (refine WP.region Tryd.tab ?_; simp -dsimp [hh, hcl, h0, h1, h2, h3, h4, h5]) | (refine WP.draw Tryd.tab Tryd.mixed ?_; simp -dsimp [hh, hcl, h0, h1, h2, h3, h4, h5]) | refine And.intro (by first | rfl | omega | decide | (simp; done) | (simp; omega) | (intro _ h; exact fcs_side h; done) | (intros; simp_all; done)) ?_)
  refine WP.cond (b := false) (by simp [fup, hk]) (fun h => by cases h) (fun _ => ?_)
  repeat (first | refine WP.seq ?_ | refine WP.block ?_ | (refine WP.region Tryd.tab ?_; simp -dsimp [hh, hcl, h0, h1, h2, h3, h4, h5]) | (refine WP.draw Tryd.tab Tryd.mixed ?_; simp -dsimp [hh, hcl, h0, h1, h2, h3, h4, h5]) | refine And.intro (by first | rfl | omega | decide | (simp; done) | (simp; omega) | (intro _ h; exact fcs_side h; done) | (intros; simp_all; done)) ?_)
  refine WP.cond (b := true) (by simp [fup, hk]) (fun _ => ?_) (fun h => by cases h)
  repeat (first | refine WP.seq ?_ | refine WP.block ?_ | (refine WP.region Tryd.tab ?_; simp -dsimp [hh, hcl, h0, h1, h2, h3, h4, h5, setL]) | (refine WP.draw Tryd.tab Tryd.mixed ?_; simp -dsimp [hh, hcl, h0, h1, h2, h3, h4, h5, setL]) | refine And.intro (by first | rfl | omega | decide | (simp; done) | (simp; omega) | (intro _ h; exact fcs_side h; done) | (intros; simp_all; done)) ?_)
  refine WP.ret (finQ.retE ?_)
  simp -dsimp [hE, rdE, head4, fD]
  all_goals first | exact Leq.aggD _ | (rw [fup_zero (by simp [fup, f0])]; exact Leq.aggD _)

set_option maxRecDepth 10000 in
set_option maxHeartbeats 4000000 in
theorem build_8 (l : List Int) (hl : l.length ≤ 100000) (hk : nthI l 0 = 8) : Fn0 Tryd.prog 41 [slI l] (fD (candG l)) := by
  have hE := cand_some (l := l) (by rw [hk]; simp [ents]; rfl)
  refine Fun.of_wp (pn := noPn) Tryd.tab Tryd.func41 rfl fun β0 => ?_
  simp only [Tryd.f41]
  repeat (first | refine WP.seq ?_ | refine WP.block ?_ | (refine WP.region Tryd.tab ?_; simp -dsimp [zero47]) | (refine WP.draw Tryd.tab Tryd.mixed ?_; simp -dsimp [zero47]) | refine And.intro (by first | rfl | omega | decide | (simp; done) | (simp; omega) | (intro _ h; exact fcs_side h; done) | (intros; simp_all; done)) ?_)
  refine vcStop.appendZ Tryd.tab (m := 12) (k := 8) (j := 7) rfl rfl rfl rfl rfl rfl rfl rfl (by omega) rfl (by simp; omega) (by simp) ?_
  have hh := addZ_has l
  have h0 := addZ l 0 (by omega)
  have h1 := addZ l 1 (by omega)
  have h2 := addZ l 2 (by omega)
  have h3 := addZ l 3 (by omega)
  have h4 := addZ l 4 (by omega)
  have h5 := addZ l 5 (by omega)
  have h6 := addZ l 6 (by omega)
  have h7 := addZ l 7 (by omega)
  have hcl : ((iD l).map AV.d ++ List.replicate 12 (AV.d (.v (.int .i64 0)))).length = l.length + 12 := by simp
  generalize (iD l).map AV.d ++ List.replicate 12 (AV.d (.v (.int .i64 0))) = cs at *
  simp -dsimp [hh]
  repeat (first | refine WP.seq ?_ | refine WP.block ?_ | (refine WP.region Tryd.tab ?_; simp -dsimp [hh, hcl, h0, h1, h2, h3, h4, h5, h6, h7, zero47]) | (refine WP.draw Tryd.tab Tryd.mixed ?_; simp -dsimp [hh, hcl, h0, h1, h2, h3, h4, h5, h6, h7, zero47]) | refine And.intro (by first | rfl | omega | decide | (simp; done) | (simp; omega) | (intro _ h; exact fcs_side h; done) | (intros; simp_all; done)) ?_)
  have hk3 : nthI l 0 = 8 := hk
  refine WP.cond (b := false) (by simp [fup, hk]) (fun h => by cases h) (fun _ => ?_)
  repeat (first | refine WP.seq ?_ | refine WP.block ?_ | (refine WP.region Tryd.tab ?_; simp -dsimp [hh, hcl, h0, h1, h2, h3, h4, h5, h6, h7]) | (refine WP.draw Tryd.tab Tryd.mixed ?_; simp -dsimp [hh, hcl, h0, h1, h2, h3, h4, h5, h6, h7]) | refine And.intro (by first | rfl | omega | decide | (simp; done) | (simp; omega) | (intro _ h; exact fcs_side h; done) | (intros; simp_all; done)) ?_)
  refine WP.cond (b := false) (by simp [fup, hk]) (fun h => by cases h) (fun _ => ?_)
  repeat (first | refine WP.seq ?_ | refine WP.block ?_ | (refine WP.region Tryd.tab ?_; simp -dsimp [hh, hcl, h0, h1, h2, h3, h4, h5, h6, h7]) | (refine WP.draw Tryd.tab Tryd.mixed ?_; simp -dsimp [hh, hcl, h0, h1, h2, h3, h4, h5, h6, h7]) | refine And.intro (by first | rfl | omega | decide | (simp; done) | (simp; omega) | (intro _ h; exact fcs_side h; done) | (intros; simp_all; done)) ?_)
  refine WP.cond (b := false) (by simp [fup, hk]) (fun h => by cases h) (fun _ => ?_)
  repeat (first | refine WP.seq ?_ | refine WP.block ?_ | (refine WP.region Tryd.tab ?_; simp -dsimp [hh, hcl, h0, h1, h2, h3, h4, h5, h6, h7]) | (refine WP.draw Tryd.tab Tryd.mixed ?_; simp -dsimp [hh, hcl, h0, h1, h2, h3, h4, h5, h6, h7]) | refine And.intro (by first | rfl | omega | decide | (simp; done) | (simp; omega) | (intro _ h; exact fcs_side h; done) | (intros; simp_all; done)) ?_)
  refine WP.cond (b := false) (by simp [fup, hk]) (fun h => by cases h) (fun _ => ?_)
  repeat (first | refine WP.seq ?_ | refine WP.block ?_ | (refine WP.region Tryd.tab ?_; simp -dsimp [hh, hcl, h0, h1, h2, h3, h4, h5, h6, h7]) | (refine WP.draw Tryd.tab Tryd.mixed ?_; simp -dsimp [hh, hcl, h0, h1, h2, h3, h4, h5, h6, h7]) | refine And.intro (by first | rfl | omega | decide | (simp; done) | (simp; omega) | (intro _ h; exact fcs_side h; done) | (intros; simp_all; done)) ?_)
  refine WP.cond (b := false) (by simp [fup, hk]) (fun h => by cases h) (fun _ => ?_)
  repeat (first | refine WP.seq ?_ | refine WP.block ?_ | (refine WP.region Tryd.tab ?_; simp -dsimp [hh, hcl, h0, h1, h2, h3, h4, h5, h6, h7]) | (refine WP.draw Tryd.tab Tryd.mixed ?_; simp -dsimp [hh, hcl, h0, h1, h2, h3, h4, h5, h6, h7]) | refine And.intro (by first | rfl | omega | decide | (simp; done) | (simp; omega) | (intro _ h; exact fcs_side h; done) | (intros; simp_all; done)) ?_)
  refine WP.cond (b := false) (by simp [fup, hk]) (fun h => by cases h) (fun _ => ?_)
  repeat (first | refine WP.seq ?_ | refine WP.block ?_ | (refine WP.region Tryd.tab ?_; simp -dsimp [hh, hcl, h0, h1, h2, h3, h4, h5, h6, h7]) | (refine WP.draw Tryd.tab Tryd.mixed ?_; simp -dsimp [hh, hcl, h0, h1, h2, h3, h4, h5, h6, h7]) | refine And.intro (by first | rfl | omega | decide | (simp; done) | (simp; omega) | (intro _ h; exact fcs_side h; done) | (intros; simp_all; done)) ?_)
  refine WP.cond (b := false) (by simp [fup, hk]) (fun h => by cases h) (fun _ => ?_)
  repeat (first | refine WP.seq ?_ | refine WP.block ?_ | (refine WP.region Tryd.tab ?_; simp -dsimp [hh, hcl, h0, h1, h2, h3, h4, h5, h6, h7]) | (refine WP.draw Tryd.tab Tryd.mixed ?_; simp -dsimp [hh, hcl, h0, h1, h2, h3, h4, h5, h6, h7]) | refine And.intro (by first | rfl | omega | decide | (simp; done) | (simp; omega) | (intro _ h; exact fcs_side h; done) | (intros; simp_all; done)) ?_)
  refine WP.cond (b := true) (by simp [fup, hk]) (fun _ => ?_) (fun h => by cases h)
  repeat (first | refine WP.seq ?_ | refine WP.block ?_ | (refine WP.region Tryd.tab ?_; simp -dsimp [hh, hcl, h0, h1, h2, h3, h4, h5, h6, h7, setL]) | (refine WP.draw Tryd.tab Tryd.mixed ?_; simp -dsimp [hh, hcl, h0, h1, h2, h3, h4, h5, h6, h7, setL]) | refine And.intro (by first | rfl | omega | decide | (simp; done) | (simp; omega) | (intro _ h; exact fcs_side h; done) | (intros; simp_all; done)) ?_)
  refine WP.ret (finQ.retE ?_)
  simp -dsimp [hE, rdE, head4, fD]
  all_goals first | exact Leq.aggD _ | (rw [fup_zero (by simp [fup, f0])]; exact Leq.aggD _)

set_option maxRecDepth 10000 in
set_option maxHeartbeats 4000000 in
theorem build_9 (l : List Int) (hl : l.length ≤ 100000) (hk : nthI l 0 = 9) : Fn0 Tryd.prog 41 [slI l] (fD (candG l)) := by
  have hE := cand_some (l := l) (by rw [hk]; simp [ents]; rfl)
  refine Fun.of_wp (pn := noPn) Tryd.tab Tryd.func41 rfl fun β0 => ?_
  simp only [Tryd.f41]
  repeat (first | refine WP.seq ?_ | refine WP.block ?_ | (refine WP.region Tryd.tab ?_; simp -dsimp [zero47]) | (refine WP.draw Tryd.tab Tryd.mixed ?_; simp -dsimp [zero47]) | refine And.intro (by first | rfl | omega | decide | (simp; done) | (simp; omega) | (intro _ h; exact fcs_side h; done) | (intros; simp_all; done)) ?_)
  refine vcStop.appendZ Tryd.tab (m := 12) (k := 8) (j := 7) rfl rfl rfl rfl rfl rfl rfl rfl (by omega) rfl (by simp; omega) (by simp) ?_
  have hh := addZ_has l
  have h0 := addZ l 0 (by omega)
  have h1 := addZ l 1 (by omega)
  have h2 := addZ l 2 (by omega)
  have h3 := addZ l 3 (by omega)
  have h4 := addZ l 4 (by omega)
  have h5 := addZ l 5 (by omega)
  have h6 := addZ l 6 (by omega)
  have h7 := addZ l 7 (by omega)
  have hcl : ((iD l).map AV.d ++ List.replicate 12 (AV.d (.v (.int .i64 0)))).length = l.length + 12 := by simp
  generalize (iD l).map AV.d ++ List.replicate 12 (AV.d (.v (.int .i64 0))) = cs at *
  simp -dsimp [hh]
  repeat (first | refine WP.seq ?_ | refine WP.block ?_ | (refine WP.region Tryd.tab ?_; simp -dsimp [hh, hcl, h0, h1, h2, h3, h4, h5, h6, h7, zero47]) | (refine WP.draw Tryd.tab Tryd.mixed ?_; simp -dsimp [hh, hcl, h0, h1, h2, h3, h4, h5, h6, h7, zero47]) | refine And.intro (by first | rfl | omega | decide | (simp; done) | (simp; omega) | (intro _ h; exact fcs_side h; done) | (intros; simp_all; done)) ?_)
  have hk3 : nthI l 0 = 9 := hk
  refine WP.cond (b := false) (by simp [fup, hk]) (fun h => by cases h) (fun _ => ?_)
  repeat (first | refine WP.seq ?_ | refine WP.block ?_ | (refine WP.region Tryd.tab ?_; simp -dsimp [hh, hcl, h0, h1, h2, h3, h4, h5, h6, h7]) | (refine WP.draw Tryd.tab Tryd.mixed ?_; simp -dsimp [hh, hcl, h0, h1, h2, h3, h4, h5, h6, h7]) | refine And.intro (by first | rfl | omega | decide | (simp; done) | (simp; omega) | (intro _ h; exact fcs_side h; done) | (intros; simp_all; done)) ?_)
  refine WP.cond (b := false) (by simp [fup, hk]) (fun h => by cases h) (fun _ => ?_)
  repeat (first | refine WP.seq ?_ | refine WP.block ?_ | (refine WP.region Tryd.tab ?_; simp -dsimp [hh, hcl, h0, h1, h2, h3, h4, h5, h6, h7]) | (refine WP.draw Tryd.tab Tryd.mixed ?_; simp -dsimp [hh, hcl, h0, h1, h2, h3, h4, h5, h6, h7]) | refine And.intro (by first | rfl | omega | decide | (simp; done) | (simp; omega) | (intro _ h; exact fcs_side h; done) | (intros; simp_all; done)) ?_)
  refine WP.cond (b := false) (by simp [fup, hk]) (fun h => by cases h) (fun _ => ?_)
  repeat (first | refine WP.seq ?_ | refine WP.block ?_ | (refine WP.region Tryd.tab ?_; simp -dsimp [hh, hcl, h0, h1, h2, h3, h4, h5, h6, h7]) | (refine WP.draw Tryd.tab Tryd.mixed ?_; simp -dsimp [hh, hcl, h0, h1, h2, h3, h4, h5, h6, h7]) | refine And.intro (by first | rfl | omega | decide | (simp; done) | (simp; omega) | (intro _ h; exact fcs_side h; done) | (intros; simp_all; done)) ?_)
  refine WP.cond (b := false) (by simp [fup, hk]) (fun h => by cases h) (fun _ => ?_)
  repeat (first | refine WP.seq ?_ | refine WP.block ?_ | (refine WP.region Tryd.tab ?_; simp -dsimp [hh, hcl, h0, h1, h2, h3, h4, h5, h6, h7]) | (refine WP.draw Tryd.tab Tryd.mixed ?_; simp -dsimp [hh, hcl, h0, h1, h2, h3, h4, h5, h6, h7]) | refine And.intro (by first | rfl | omega | decide | (simp; done) | (simp; omega) | (intro _ h; exact fcs_side h; done) | (intros; simp_all; done)) ?_)
  refine WP.cond (b := false) (by simp [fup, hk]) (fun h => by cases h) (fun _ => ?_)
  repeat (first | refine WP.seq ?_ | refine WP.block ?_ | (refine WP.region Tryd.tab ?_; simp -dsimp [hh, hcl, h0, h1, h2, h3, h4, h5, h6, h7]) | (refine WP.draw Tryd.tab Tryd.mixed ?_; simp -dsimp [hh, hcl, h0, h1, h2, h3, h4, h5, h6, h7]) | refine And.intro (by first | rfl | omega | decide | (simp; done) | (simp; omega) | (intro _ h; exact fcs_side h; done) | (intros; simp_all; done)) ?_)
  refine WP.cond (b := false) (by simp [fup, hk]) (fun h => by cases h) (fun _ => ?_)
  repeat (first | refine WP.seq ?_ | refine WP.block ?_ | (refine WP.region Tryd.tab ?_; simp -dsimp [hh, hcl, h0, h1, h2, h3, h4, h5, h6, h7]) | (refine WP.draw Tryd.tab Tryd.mixed ?_; simp -dsimp [hh, hcl, h0, h1, h2, h3, h4, h5, h6, h7]) | refine And.intro (by first | rfl | omega | decide | (simp; done) | (simp; omega) | (intro _ h; exact fcs_side h; done) | (intros; simp_all; done)) ?_)
  refine WP.cond (b := false) (by simp [fup, hk]) (fun h => by cases h) (fun _ => ?_)
  repeat (first | refine WP.seq ?_ | refine WP.block ?_ | (refine WP.region Tryd.tab ?_; simp -dsimp [hh, hcl, h0, h1, h2, h3, h4, h5, h6, h7]) | (refine WP.draw Tryd.tab Tryd.mixed ?_; simp -dsimp [hh, hcl, h0, h1, h2, h3, h4, h5, h6, h7]) | refine And.intro (by first | rfl | omega | decide | (simp; done) | (simp; omega) | (intro _ h; exact fcs_side h; done) | (intros; simp_all; done)) ?_)
  refine WP.cond (b := false) (by simp [fup, hk]) (fun h => by cases h) (fun _ => ?_)
  repeat (first | refine WP.seq ?_ | refine WP.block ?_ | (refine WP.region Tryd.tab ?_; simp -dsimp [hh, hcl, h0, h1, h2, h3, h4, h5, h6, h7]) | (refine WP.draw Tryd.tab Tryd.mixed ?_; simp -dsimp [hh, hcl, h0, h1, h2, h3, h4, h5, h6, h7]) | refine And.intro (by first | rfl | omega | decide | (simp; done) | (simp; omega) | (intro _ h; exact fcs_side h; done) | (intros; simp_all; done)) ?_)
  refine WP.cond (b := true) (by simp [fup, hk]) (fun _ => ?_) (fun h => by cases h)
  repeat (first | refine WP.seq ?_ | refine WP.block ?_ | (refine WP.region Tryd.tab ?_; simp -dsimp [hh, hcl, h0, h1, h2, h3, h4, h5, h6, h7, setL]) | (refine WP.draw Tryd.tab Tryd.mixed ?_; simp -dsimp [hh, hcl, h0, h1, h2, h3, h4, h5, h6, h7, setL]) | refine And.intro (by first | rfl | omega | decide | (simp; done) | (simp; omega) | (intro _ h; exact fcs_side h; done) | (intros; simp_all; done)) ?_)
  refine WP.ret (finQ.retE ?_)
  simp -dsimp [hE, rdE, head4, fD]
  all_goals first | exact Leq.aggD _ | (rw [fup_zero (by simp [fup, f0])]; exact Leq.aggD _)

set_option maxRecDepth 10000 in
set_option maxHeartbeats 4000000 in
theorem build_10 (l : List Int) (hl : l.length ≤ 100000) (hk : nthI l 0 = 10) : Fn0 Tryd.prog 41 [slI l] (fD (candG l)) := by
  have hE := cand_some (l := l) (by rw [hk]; simp [ents]; rfl)
  refine Fun.of_wp (pn := noPn) Tryd.tab Tryd.func41 rfl fun β0 => ?_
  simp only [Tryd.f41]
  repeat (first | refine WP.seq ?_ | refine WP.block ?_ | (refine WP.region Tryd.tab ?_; simp -dsimp [zero47]) | (refine WP.draw Tryd.tab Tryd.mixed ?_; simp -dsimp [zero47]) | refine And.intro (by first | rfl | omega | decide | (simp; done) | (simp; omega) | (intro _ h; exact fcs_side h; done) | (intros; simp_all; done)) ?_)
  refine vcStop.appendZ Tryd.tab (m := 12) (k := 8) (j := 7) rfl rfl rfl rfl rfl rfl rfl rfl (by omega) rfl (by simp; omega) (by simp) ?_
  have hh := addZ_has l
  have h0 := addZ l 0 (by omega)
  have h1 := addZ l 1 (by omega)
  have h2 := addZ l 2 (by omega)
  have h3 := addZ l 3 (by omega)
  have h4 := addZ l 4 (by omega)
  have h5 := addZ l 5 (by omega)
  have h6 := addZ l 6 (by omega)
  have h7 := addZ l 7 (by omega)
  have h8 := addZ l 8 (by omega)
  have h9 := addZ l 9 (by omega)
  have hcl : ((iD l).map AV.d ++ List.replicate 12 (AV.d (.v (.int .i64 0)))).length = l.length + 12 := by simp
  generalize (iD l).map AV.d ++ List.replicate 12 (AV.d (.v (.int .i64 0))) = cs at *
  simp -dsimp [hh]
  repeat (first | refine WP.seq ?_ | refine WP.block ?_ | (refine WP.region Tryd.tab ?_; simp -dsimp [hh, hcl, h0, h1, h2, h3, h4, h5, h6, h7, h8, h9, zero47]) | (refine WP.draw Tryd.tab Tryd.mixed ?_; simp -dsimp [hh, hcl, h0, h1, h2, h3, h4, h5, h6, h7, h8, h9, zero47]) | refine And.intro (by first | rfl | omega | decide | (simp; done) | (simp; omega) | (intro _ h; exact fcs_side h; done) | (intros; simp_all; done)) ?_)
  have hk3 : nthI l 0 = 10 := hk
  refine WP.cond (b := false) (by simp [fup, hk]) (fun h => by cases h) (fun _ => ?_)
  repeat (first | refine WP.seq ?_ | refine WP.block ?_ | (refine WP.region Tryd.tab ?_; simp -dsimp [hh, hcl, h0, h1, h2, h3, h4, h5, h6, h7, h8, h9]) | (refine WP.draw Tryd.tab Tryd.mixed ?_; simp -dsimp [hh, hcl, h0, h1, h2, h3, h4, h5, h6, h7, h8, h9]) | refine And.intro (by first | rfl | omega | decide | (simp; done) | (simp; omega) | (intro _ h; exact fcs_side h; done) | (intros; simp_all; done)) ?_)
  refine WP.cond (b := false) (by simp [fup, hk]) (fun h => by cases h) (fun _ => ?_)
  repeat (first | refine WP.seq ?_ | refine WP.block ?_ | (refine WP.region Tryd.tab ?_; simp -dsimp [hh, hcl, h0, h1, h2, h3, h4, h5, h6, h7, h8, h9]) | (refine WP.draw Tryd.tab Tryd.mixed ?_; simp -dsimp [hh, hcl, h0, h1, h2, h3, h4, h5, h6, h7, h8, h9]) | refine And.intro (by first | rfl | omega | decide | (simp; done) | (simp; omega) | (intro _ h; exact fcs_side h; done) | (intros; simp_all; done)) ?_)
  refine WP.cond (b := false) (by simp [fup, hk]) (fun h => by cases h) (fun _ => ?_)
  repeat (first | refine WP.seq ?_ | refine WP.block ?_ | (refine WP.region Tryd.tab ?_; simp -dsimp [hh, hcl, h0, h1, h2, h3, h4, h5, h6, h7, h8, h9]) | (refine WP.draw Tryd.tab Tryd.mixed ?_; simp -dsimp [hh, hcl, h0, h1, h2, h3, h4, h5, h6, h7, h8, h9]) | refine And.intro (by first | rfl | omega | decide | (simp; done) | (simp; omega) | (intro _ h; exact fcs_side h; done) | (intros; simp_all; done)) ?_)
  refine WP.cond (b := false) (by simp [fup, hk]) (fun h => by cases h) (fun _ => ?_)
  repeat (first | refine WP.seq ?_ | refine WP.block ?_ | (refine WP.region Tryd.tab ?_; simp -dsimp [hh, hcl, h0, h1, h2, h3, h4, h5, h6, h7, h8, h9]) | (refine WP.draw Tryd.tab Tryd.mixed ?_; simp -dsimp [hh, hcl, h0, h1, h2, h3, h4, h5, h6, h7, h8, h9]) | refine And.intro (by first | rfl | omega | decide | (simp; done) | (simp; omega) | (intro _ h; exact fcs_side h; done) | (intros; simp_all; done)) ?_)
  refine WP.cond (b := false) (by simp [fup, hk]) (fun h => by cases h) (fun _ => ?_)
  repeat (first | refine WP.seq ?_ | refine WP.block ?_ | (refine WP.region Tryd.tab ?_; simp -dsimp [hh, hcl, h0, h1, h2, h3, h4, h5, h6, h7, h8, h9]) | (refine WP.draw Tryd.tab Tryd.mixed ?_; simp -dsimp [hh, hcl, h0, h1, h2, h3, h4, h5, h6, h7, h8, h9]) | refine And.intro (by first | rfl | omega | decide | (simp; done) | (simp; omega) | (intro _ h; exact fcs_side h; done) | (intros; simp_all; done)) ?_)
  refine WP.cond (b := false) (by simp [fup, hk]) (fun h => by cases h) (fun _ => ?_)
  repeat (first | refine WP.seq ?_ | refine WP.block ?_ | (refine WP.region Tryd.tab ?_; simp -dsimp [hh, hcl, h0, h1, h2, h3, h4, h5, h6, h7, h8, h9]) | (refine WP.draw Tryd.tab Tryd.mixed ?_; simp -dsimp [hh, hcl, h0, h1, h2, h3, h4, h5, h6, h7, h8, h9]) | refine And.intro (by first | rfl | omega | decide | (simp; done) | (simp; omega) | (intro _ h; exact fcs_side h; done) | (intros; simp_all; done)) ?_)
  refine WP.cond (b := false) (by simp [fup, hk]) (fun h => by cases h) (fun _ => ?_)
  repeat (first | refine WP.seq ?_ | refine WP.block ?_ | (refine WP.region Tryd.tab ?_; simp -dsimp [hh, hcl, h0, h1, h2, h3, h4, h5, h6, h7, h8, h9]) | (refine WP.draw Tryd.tab Tryd.mixed ?_; simp -dsimp [hh, hcl, h0, h1, h2, h3, h4, h5, h6, h7, h8, h9]) | refine And.intro (by first | rfl | omega | decide | (simp; done) | (simp; omega) | (intro _ h; exact fcs_side h; done) | (intros; simp_all; done)) ?_)
  refine WP.cond (b := false) (by simp [fup, hk]) (fun h => by cases h) (fun _ => ?_)
  repeat (first | refine WP.seq ?_ | refine WP.block ?_ | (refine WP.region Tryd.tab ?_; simp -dsimp [hh, hcl, h0, h1, h2, h3, h4, h5, h6, h7, h8, h9]) | (refine WP.draw Tryd.tab Tryd.mixed ?_; simp -dsimp [hh, hcl, h0, h1, h2, h3, h4, h5, h6, h7, h8, h9]) | refine And.intro (by first | rfl | omega | decide | (simp; done) | (simp; omega) | (intro _ h; exact fcs_side h; done) | (intros; simp_all; done)) ?_)
  refine WP.cond (b := false) (by simp [fup, hk]) (fun h => by cases h) (fun _ => ?_)
  repeat (first | refine WP.seq ?_ | refine WP.block ?_ | (refine WP.region Tryd.tab ?_; simp -dsimp [hh, hcl, h0, h1, h2, h3, h4, h5, h6, h7, h8, h9]) | (refine WP.draw Tryd.tab Tryd.mixed ?_; simp -dsimp [hh, hcl, h0, h1, h2, h3, h4, h5, h6, h7, h8, h9]) | refine And.intro (by first | rfl | omega | decide | (simp; done) | (simp; omega) | (intro _ h; exact fcs_side h; done) | (intros; simp_all; done)) ?_)
  refine WP.cond (b := true) (by simp [fup, hk]) (fun _ => ?_) (fun h => by cases h)
  repeat (first | refine WP.seq ?_ | refine WP.block ?_ | (refine WP.region Tryd.tab ?_; simp -dsimp [hh, hcl, h0, h1, h2, h3, h4, h5, h6, h7, h8, h9, setL]) | (refine WP.draw Tryd.tab Tryd.mixed ?_; simp -dsimp [hh, hcl, h0, h1, h2, h3, h4, h5, h6, h7, h8, h9, setL]) | refine And.intro (by first | rfl | omega | decide | (simp; done) | (simp; omega) | (intro _ h; exact fcs_side h; done) | (intros; simp_all; done)) ?_)
  refine WP.ret (finQ.retE ?_)
  simp -dsimp [hE, rdE, head4, fD]
  all_goals first | exact Leq.aggD _ | (rw [fup_zero (by simp [fup, f0])]; exact Leq.aggD _)

set_option maxRecDepth 10000 in
set_option maxHeartbeats 4000000 in
theorem build_11 (l : List Int) (hl : l.length ≤ 100000) (hk : nthI l 0 = 11) : Fn0 Tryd.prog 41 [slI l] (fD (candG l)) := by
  have hE := cand_some (l := l) (by rw [hk]; simp [ents]; rfl)
  refine Fun.of_wp (pn := noPn) Tryd.tab Tryd.func41 rfl fun β0 => ?_
  simp only [Tryd.f41]
  repeat (first | refine WP.seq ?_ | refine WP.block ?_ | (refine WP.region Tryd.tab ?_; simp -dsimp [zero47]) | (refine WP.draw Tryd.tab Tryd.mixed ?_; simp -dsimp [zero47]) | refine And.intro (by first | rfl | omega | decide | (simp; done) | (simp; omega) | (intro _ h; exact fcs_side h; done) | (intros; simp_all; done)) ?_)
  refine vcStop.appendZ Tryd.tab (m := 12) (k := 8) (j := 7) rfl rfl rfl rfl rfl rfl rfl rfl (by omega) rfl (by simp; omega) (by simp) ?_
  have hh := addZ_has l
  have h0 := addZ l 0 (by omega)
  have h1 := addZ l 1 (by omega)
  have h2 := addZ l 2 (by omega)
  have h3 := addZ l 3 (by omega)
  have h4 := addZ l 4 (by omega)
  have h5 := addZ l 5 (by omega)
  have hcl : ((iD l).map AV.d ++ List.replicate 12 (AV.d (.v (.int .i64 0)))).length = l.length + 12 := by simp
  generalize (iD l).map AV.d ++ List.replicate 12 (AV.d (.v (.int .i64 0))) = cs at *
  simp -dsimp [hh]
  repeat (first | refine WP.seq ?_ | refine WP.block ?_ | (refine WP.region Tryd.tab ?_; simp -dsimp [hh, hcl, h0, h1, h2, h3, h4, h5, zero47]) | (refine WP.draw Tryd.tab Tryd.mixed ?_; simp -dsimp [hh, hcl, h0, h1, h2, h3, h4, h5, zero47]) | refine And.intro (by first | rfl | omega | decide | (simp; done) | (simp; omega) | (intro _ h; exact fcs_side h; done) | (intros; simp_all; done)) ?_)
  have hk3 : nthI l 0 = 11 := hk
  refine WP.cond (b := false) (by simp [fup, hk]) (fun h => by cases h) (fun _ => ?_)
  repeat (first | refine WP.seq ?_ | refine WP.block ?_ | (refine WP.region Tryd.tab ?_; simp -dsimp [hh, hcl, h0, h1, h2, h3, h4, h5]) | (refine WP.draw Tryd.tab Tryd.mixed ?_; simp -dsimp [hh, hcl, h0, h1, h2, h3, h4, h5]) | refine And.intro (by first | rfl | omega | decide | (simp; done) | (simp; omega) | (intro _ h; exact fcs_side h; done) | (intros; simp_all; done)) ?_)
  refine WP.cond (b := false) (by simp [fup, hk]) (fun h => by cases h) (fun _ => ?_)
  repeat (first | refine WP.seq ?_ | refine WP.block ?_ | (refine WP.region Tryd.tab ?_; simp -dsimp [hh, hcl, h0, h1, h2, h3, h4, h5]) | (refine WP.draw Tryd.tab Tryd.mixed ?_; simp -dsimp [hh, hcl, h0, h1, h2, h3, h4, h5]) | refine And.intro (by first | rfl | omega | decide | (simp; done) | (simp; omega) | (intro _ h; exact fcs_side h; done) | (intros; simp_all; done)) ?_)
  refine WP.cond (b := false) (by simp [fup, hk]) (fun h => by cases h) (fun _ => ?_)
  repeat (first | refine WP.seq ?_ | refine WP.block ?_ | (refine WP.region Tryd.tab ?_; simp -dsimp [hh, hcl, h0, h1, h2, h3, h4, h5]) | (refine WP.draw Tryd.tab Tryd.mixed ?_; simp -dsimp [hh, hcl, h0, h1, h2, h3, h4, h5]) | refine And.intro (by first | rfl | omega | decide | (simp; done) | (simp; omega) | (intro _ h; exact fcs_side h; done) | (intros; simp_all; done)) ?_)
  refine WP.cond (b := false) (by simp [fup, hk]) (fun h => by cases h) (fun _ => ?_)
  repeat (first | refine WP.seq ?_ | refine WP.block ?_ | (refine WP.region Tryd.tab ?_; simp -dsimp [hh, hcl, h0, h1, h2, h3, h4, h5]) | (refine WP.draw Tryd.tab Tryd.mixed ?_; simp -dsimp [hh, hcl, h0, h1, h2, h3, h4, h5]) | refine And.intro (by first | rfl | omega | decide | (simp; done) | (simp; omega) | (intro _ h; exact fcs_side h; done) | (intros; simp_all; done)) ?_)
  refine WP.cond (b := false) (by simp [fup, hk]) (fun h => by cases h) (fun _ => ?_)
  repeat (first | refine WP.seq ?_ | refine WP.block ?_ | (refine WP.region Tryd.tab ?_; simp -dsimp [hh, hcl, h0, h1, h2, h3, h4, h5]) | (refine WP.draw Tryd.tab Tryd.mixed ?_; simp -dsimp [hh, hcl, h0, h1, h2, h3, h4, h5]) | refine And.intro (by first | rfl | omega | decide | (simp; done) | (simp; omega) | (intro _ h; exact fcs_side h; done) | (intros; simp_all; done)) ?_)
  refine WP.cond (b := false) (by simp [fup, hk]) (fun h => by cases h) (fun _ => ?_)
  repeat (first | refine WP.seq ?_ | refine WP.block ?_ | (refine WP.region Tryd.tab ?_; simp -dsimp [hh, hcl, h0, h1, h2, h3, h4, h5]) | (refine WP.draw Tryd.tab Tryd.mixed ?_; simp -dsimp [hh, hcl, h0, h1, h2, h3, h4, h5]) | refine And.intro (by first | rfl | omega | decide | (simp; done) | (simp; omega) | (intro _ h; exact fcs_side h; done) | (intros; simp_all; done)) ?_)
  refine WP.cond (b := false) (by simp [fup, hk]) (fun h => by cases h) (fun _ => ?_)
  repeat (first | refine WP.seq ?_ | refine WP.block ?_ | (refine WP.region Tryd.tab ?_; simp -dsimp [hh, hcl, h0, h1, h2, h3, h4, h5]) | (refine WP.draw Tryd.tab Tryd.mixed ?_; simp -dsimp [hh, hcl, h0, h1, h2, h3, h4, h5]) | refine And.intro (by first | rfl | omega | decide | (simp; done) | (simp; omega) | (intro _ h; exact fcs_side h; done) | (intros; simp_all; done)) ?_)
  refine WP.cond (b := false) (by simp [fup, hk]) (fun h => by cases h) (fun _ => ?_)
  repeat (first | refine WP.seq ?_ | refine WP.block ?_ | (refine WP.region Tryd.tab ?_; simp -dsimp [hh, hcl, h0, h1, h2, h3, h4, h5]) | (refine WP.draw Tryd.tab Tryd.mixed ?_; simp -dsimp [hh, hcl, h0, h1, h2, h3, h4, h5]) | refine And.intro (by first | rfl | omega | decide | (simp; done) | (simp; omega) | (intro _ h; exact fcs_side h; done) | (intros; simp_all; done)) ?_)
  refine WP.cond (b := false) (by simp [fup, hk]) (fun h => by cases h) (fun _ => ?_)
  repeat (first | refine WP.seq ?_ | refine WP.block ?_ | (refine WP.region Tryd.tab ?_; simp -dsimp [hh, hcl, h0, h1, h2, h3, h4, h5]) | (refine WP.draw Tryd.tab Tryd.mixed ?_; simp -dsimp [hh, hcl, h0, h1, h2, h3, h4, h5]) | refine And.intro (by first | rfl | omega | decide | (simp; done) | (simp; omega) | (intro _ h; exact fcs_side h; done) | (intros; simp_all; done)) ?_)
  refine WP.cond (b := false) (by simp [fup, hk]) (fun h => by cases h) (fun _ => ?_)
  repeat (first | refine WP.seq ?_ | refine WP.block ?_ | (refine WP.region Tryd.tab ?_; simp -dsimp [hh, hcl, h0, h1, h2, h3, h4, h5]) | (refine WP.draw Tryd.tab Tryd.mixed ?_; simp -dsimp [hh, hcl, h0, h1, h2, h3, h4, h5]) | refine And.intro (by first | rfl | omega | decide | (simp; done) | (simp; omega) | (intro _ h; exact fcs_side h; done) | (intros; simp_all; done)) ?_)
  refine WP.cond (b := true) (by simp [fup, hk]) (fun _ => ?_) (fun h => by cases h)
  repeat (first | refine WP.seq ?_ | refine WP.block ?_ | (refine WP.region Tryd.tab ?_; simp -dsimp [hh, hcl, h0, h1, h2, h3, h4, h5, setL]) | (refine WP.draw Tryd.tab Tryd.mixed ?_; simp -dsimp [hh, hcl, h0, h1, h2, h3, h4, h5, setL]) | refine And.intro (by first | rfl | omega | decide | (simp; done) | (simp; omega) | (intro _ h; exact fcs_side h; done) | (intros; simp_all; done)) ?_)
  refine WP.ret (finQ.retE ?_)
  simp -dsimp [hE, rdE, head4, fD]
  all_goals first | exact Leq.aggD _ | (rw [fup_zero (by simp [fup, f0])]; exact Leq.aggD _)

set_option maxRecDepth 10000 in
set_option maxHeartbeats 4000000 in
theorem build_13 (l : List Int) (hl : l.length ≤ 100000) (hk : nthI l 0 = 13) : Fn0 Tryd.prog 41 [slI l] (fD (candG l)) := by
  have hE := cand_some (l := l) (by rw [hk]; simp [ents]; rfl)
  refine Fun.of_wp (pn := noPn) Tryd.tab Tryd.func41 rfl fun β0 => ?_
  simp only [Tryd.f41]
  repeat (first | refine WP.seq ?_ | refine WP.block ?_ | (refine WP.region Tryd.tab ?_; simp -dsimp [zero47]) | (refine WP.draw Tryd.tab Tryd.mixed ?_; simp -dsimp [zero47]) | refine And.intro (by first | rfl | omega | decide | (simp; done) | (simp; omega) | (intro _ h; exact fcs_side h; done) | (intros; simp_all; done)) ?_)
  refine vcStop.appendZ Tryd.tab (m := 12) (k := 8) (j := 7) rfl rfl rfl rfl rfl rfl rfl rfl (by omega) rfl (by simp; omega) (by simp) ?_
  have hh := addZ_has l
  have h0 := addZ l 0 (by omega)
  have h1 := addZ l 1 (by omega)
  have h2 := addZ l 2 (by omega)
  have h3 := addZ l 3 (by omega)
  have h4 := addZ l 4 (by omega)
  have h5 := addZ l 5 (by omega)
  have hcl : ((iD l).map AV.d ++ List.replicate 12 (AV.d (.v (.int .i64 0)))).length = l.length + 12 := by simp
  generalize (iD l).map AV.d ++ List.replicate 12 (AV.d (.v (.int .i64 0))) = cs at *
  simp -dsimp [hh]
  repeat (first | refine WP.seq ?_ | refine WP.block ?_ | (refine WP.region Tryd.tab ?_; simp -dsimp [hh, hcl, h0, h1, h2, h3, h4, h5, zero47]) | (refine WP.draw Tryd.tab Tryd.mixed ?_; simp -dsimp [hh, hcl, h0, h1, h2, h3, h4, h5, zero47]) | refine And.intro (by first | rfl | omega | decide | (simp; done) | (simp; omega) | (intro _ h; exact fcs_side h; done) | (intros; simp_all; done)) ?_)
  have hk3 : nthI l 0 = 13 := hk
  refine WP.cond (b := false) (by simp [fup, hk]) (fun h => by cases h) (fun _ => ?_)
  repeat (first | refine WP.seq ?_ | refine WP.block ?_ | (refine WP.region Tryd.tab ?_; simp -dsimp [hh, hcl, h0, h1, h2, h3, h4, h5]) | (refine WP.draw Tryd.tab Tryd.mixed ?_; simp -dsimp [hh, hcl, h0, h1, h2, h3, h4, h5]) | refine And.intro (by first | rfl | omega | decide | (simp; done) | (simp; omega) | (intro _ h; exact fcs_side h; done) | (intros; simp_all; done)) ?_)
  refine WP.cond (b := false) (by simp [fup, hk]) (fun h => by cases h) (fun _ => ?_)
  repeat (first | refine WP.seq ?_ | refine WP.block ?_ | (refine WP.region Tryd.tab ?_; simp -dsimp [hh, hcl, h0, h1, h2, h3, h4, h5]) | (refine WP.draw Tryd.tab Tryd.mixed ?_; simp -dsimp [hh, hcl, h0, h1, h2, h3, h4, h5]) | refine And.intro (by first | rfl | omega | decide | (simp; done) | (simp; omega) | (intro _ h; exact fcs_side h; done) | (intros; simp_all; done)) ?_)
  refine WP.cond (b := false) (by simp [fup, hk]) (fun h => by cases h) (fun _ => ?_)
  repeat (first | refine WP.seq ?_ | refine WP.block ?_ | (refine WP.region Tryd.tab ?_; simp -dsimp [hh, hcl, h0, h1, h2, h3, h4, h5]) | (refine WP.draw Tryd.tab Tryd.mixed ?_; simp -dsimp [hh, hcl, h0, h1, h2, h3, h4, h5]) | refine And.intro (by first | rfl | omega | decide | (simp; done) | (simp; omega) | (intro _ h; exact fcs_side h; done) | (intros; simp_all; done)) ?_)
  refine WP.cond (b := false) (by simp [fup, hk]) (fun h => by cases h) (fun _ => ?_)
  repeat (first | refine WP.seq ?_ | refine WP.block ?_ | (refine WP.region Tryd.tab ?_; simp -dsimp [hh, hcl, h0, h1, h2, h3, h4, h5]) | (refine WP.draw Tryd.tab Tryd.mixed ?_; simp -dsimp [hh, hcl, h0, h1, h2, h3, h4, h5]) | refine And.intro (by first | rfl | omega | decide | (simp; done) | (simp; omega) | (intro _ h; exact fcs_side h; done) | (intros; simp_all; done)) ?_)
  refine WP.cond (b := false) (by simp [fup, hk]) (fun h => by cases h) (fun _ => ?_)
  repeat (first | refine WP.seq ?_ | refine WP.block ?_ | (refine WP.region Tryd.tab ?_; simp -dsimp [hh, hcl, h0, h1, h2, h3, h4, h5]) | (refine WP.draw Tryd.tab Tryd.mixed ?_; simp -dsimp [hh, hcl, h0, h1, h2, h3, h4, h5]) | refine And.intro (by first | rfl | omega | decide | (simp; done) | (simp; omega) | (intro _ h; exact fcs_side h; done) | (intros; simp_all; done)) ?_)
  refine WP.cond (b := false) (by simp [fup, hk]) (fun h => by cases h) (fun _ => ?_)
  repeat (first | refine WP.seq ?_ | refine WP.block ?_ | (refine WP.region Tryd.tab ?_; simp -dsimp [hh, hcl, h0, h1, h2, h3, h4, h5]) | (refine WP.draw Tryd.tab Tryd.mixed ?_; simp -dsimp [hh, hcl, h0, h1, h2, h3, h4, h5]) | refine And.intro (by first | rfl | omega | decide | (simp; done) | (simp; omega) | (intro _ h; exact fcs_side h; done) | (intros; simp_all; done)) ?_)
  refine WP.cond (b := false) (by simp [fup, hk]) (fun h => by cases h) (fun _ => ?_)
  repeat (first | refine WP.seq ?_ | refine WP.block ?_ | (refine WP.region Tryd.tab ?_; simp -dsimp [hh, hcl, h0, h1, h2, h3, h4, h5]) | (refine WP.draw Tryd.tab Tryd.mixed ?_; simp -dsimp [hh, hcl, h0, h1, h2, h3, h4, h5]) | refine And.intro (by first | rfl | omega | decide | (simp; done) | (simp; omega) | (intro _ h; exact fcs_side h; done) | (intros; simp_all; done)) ?_)
  refine WP.cond (b := false) (by simp [fup, hk]) (fun h => by cases h) (fun _ => ?_)
  repeat (first | refine WP.seq ?_ | refine WP.block ?_ | (refine WP.region Tryd.tab ?_; simp -dsimp [hh, hcl, h0, h1, h2, h3, h4, h5]) | (refine WP.draw Tryd.tab Tryd.mixed ?_; simp -dsimp [hh, hcl, h0, h1, h2, h3, h4, h5]) | refine And.intro (by first | rfl | omega | decide | (simp; done) | (simp; omega) | (intro _ h; exact fcs_side h; done) | (intros; simp_all; done)) ?_)
  refine WP.cond (b := false) (by simp [fup, hk]) (fun h => by cases h) (fun _ => ?_)
  repeat (first | refine WP.seq ?_ | refine WP.block ?_ | (refine WP.region Tryd.tab ?_; simp -dsimp [hh, hcl, h0, h1, h2, h3, h4, h5]) | (refine WP.draw Tryd.tab Tryd.mixed ?_; simp -dsimp [hh, hcl, h0, h1, h2, h3, h4, h5]) | refine And.intro (by first | rfl | omega | decide | (simp; done) | (simp; omega) | (intro _ h; exact fcs_side h; done) | (intros; simp_all; done)) ?_)
  refine WP.cond (b := false) (by simp [fup, hk]) (fun h => by cases h) (fun _ => ?_)
  repeat (first | refine WP.seq ?_ | refine WP.block ?_ | (refine WP.region Tryd.tab ?_; simp -dsimp [hh, hcl, h0, h1, h2, h3, h4, h5]) | (refine WP.draw Tryd.tab Tryd.mixed ?_; simp -dsimp [hh, hcl, h0, h1, h2, h3, h4, h5]) | refine And.intro (by first | rfl | omega | decide | (simp; done) | (simp; omega) | (intro _ h; exact fcs_side h; done) | (intros; simp_all; done)) ?_)
  refine WP.cond (b := false) (by simp [fup, hk]) (fun h => by cases h) (fun _ => ?_)
  repeat (first | refine WP.seq ?_ | refine WP.block ?_ | (refine WP.region Tryd.tab ?_; simp -dsimp [hh, hcl, h0, h1, h2, h3, h4, h5]) | (refine WP.draw Tryd.tab Tryd.mixed ?_; simp -dsimp [hh, hcl, h0, h1, h2, h3, h4, h5]) | refine And.intro (by first | rfl | omega | decide | (simp; done) | (simp; omega) | (intro _ h; exact fcs_side h; done) | (intros; simp_all; done)) ?_)
  refine WP.cond (b := true) (by simp [fup, hk]) (fun _ => ?_) (fun h => by cases h)
  repeat (first | refine WP.seq ?_ | refine WP.block ?_ | (refine WP.region Tryd.tab ?_; simp -dsimp [hh, hcl, h0, h1, h2, h3, h4, h5, setL]) | (refine WP.draw Tryd.tab Tryd.mixed ?_; simp -dsimp [hh, hcl, h0, h1, h2, h3, h4, h5, setL]) | refine And.intro (by first | rfl | omega | decide | (simp; done) | (simp; omega) | (intro _ h; exact fcs_side h; done) | (intros; simp_all; done)) ?_)
  refine WP.ret (finQ.retE ?_)
  simp -dsimp [hE, rdE, head4, fD]
  all_goals first | exact Leq.aggD _ | (rw [fup_zero (by simp [fup, f0])]; exact Leq.aggD _)

set_option maxRecDepth 10000 in
set_option maxHeartbeats 4000000 in
theorem build_no (l : List Int) (hl : l.length ≤ 100000) (hk : nthI l 0 < 1 ∨ nthI l 0 = 12 ∨ 13 < nthI l 0) : Fn0 Tryd.prog 41 [slI l] (fD (candG l)) := by
  have hE : candG l = head4 l := by
    by_cases h12 : nthI l 0 = 12
    · rw [cand_some (E := []) (by rw [h12]; rfl)]
      exact fup_zero rfl
    · refine cand_none ?_
      unfold ents
      repeat rw [if_neg (by omega)]
  refine Fun.of_wp (pn := noPn) Tryd.tab Tryd.func41 rfl fun β0 => ?_
  simp only [Tryd.f41]
  repeat (first | refine WP.seq ?_ | refine WP.block ?_ | (refine WP.region Tryd.tab ?_; simp -dsimp [zero47]) | (refine WP.draw Tryd.tab Tryd.mixed ?_; simp -dsimp [zero47]) | refine And.intro (by first | rfl | omega | decide | (simp; done) | (simp; omega) | (intro _ h; exact fcs_side h; done) | (intros; simp_all; done)) ?_)
  refine vcStop.appendZ Tryd.tab (m := 12) (k := 8) (j := 7) rfl rfl rfl rfl rfl rfl rfl rfl (by omega) rfl (by simp; omega) (by simp) ?_
  have hh := addZ_has l
  have h0 := addZ l 0 (by omega)
  have h1 := addZ l 1 (by omega)
  have h2 := addZ l 2 (by omega)
  have h3 := addZ l 3 (by omega)
  have hcl : ((iD l).map AV.d ++ List.replicate 12 (AV.d (.v (.int .i64 0)))).length = l.length + 12 := by simp
  generalize (iD l).map AV.d ++ List.replicate 12 (AV.d (.v (.int .i64 0))) = cs at *
  simp -dsimp [hh]
  repeat (first | refine WP.seq ?_ | refine WP.block ?_ | (refine WP.region Tryd.tab ?_; simp -dsimp [hh, hcl, h0, h1, h2, h3, zero47]) | (refine WP.draw Tryd.tab Tryd.mixed ?_; simp -dsimp [hh, hcl, h0, h1, h2, h3, zero47]) | refine And.intro (by first | rfl | omega | decide | (simp; done) | (simp; omega) | (intro _ h; exact fcs_side h; done) | (intros; simp_all; done)) ?_)
  refine WP.cond (b := false) (by simp [fup]; omega) (fun h => by cases h) (fun _ => ?_)
  repeat (first | refine WP.seq ?_ | refine WP.block ?_ | (refine WP.region Tryd.tab ?_; simp -dsimp [hh, hcl, h0, h1, h2, h3]) | (refine WP.draw Tryd.tab Tryd.mixed ?_; simp -dsimp [hh, hcl, h0, h1, h2, h3]) | refine And.intro (by first | rfl | omega | decide | (simp; done) | (simp; omega) | (intro _ h; exact fcs_side h; done) | (intros; simp_all; done)) ?_)
  refine WP.cond (b := false) (by simp [fup]; omega) (fun h => by cases h) (fun _ => ?_)
  repeat (first | refine WP.seq ?_ | refine WP.block ?_ | (refine WP.region Tryd.tab ?_; simp -dsimp [hh, hcl, h0, h1, h2, h3]) | (refine WP.draw Tryd.tab Tryd.mixed ?_; simp -dsimp [hh, hcl, h0, h1, h2, h3]) | refine And.intro (by first | rfl | omega | decide | (simp; done) | (simp; omega) | (intro _ h; exact fcs_side h; done) | (intros; simp_all; done)) ?_)
  refine WP.cond (b := false) (by simp [fup]; omega) (fun h => by cases h) (fun _ => ?_)
  repeat (first | refine WP.seq ?_ | refine WP.block ?_ | (refine WP.region Tryd.tab ?_; simp -dsimp [hh, hcl, h0, h1, h2, h3]) | (refine WP.draw Tryd.tab Tryd.mixed ?_; simp -dsimp [hh, hcl, h0, h1, h2, h3]) | refine And.intro (by first | rfl | omega | decide | (simp; done) | (simp; omega) | (intro _ h; exact fcs_side h; done) | (intros; simp_all; done)) ?_)
  refine WP.cond (b := false) (by simp [fup]; omega) (fun h => by cases h) (fun _ => ?_)
  repeat (first | refine WP.seq ?_ | refine WP.block ?_ | (refine WP.region Tryd.tab ?_; simp -dsimp [hh, hcl, h0, h1, h2, h3]) | (refine WP.draw Tryd.tab Tryd.mixed ?_; simp -dsimp [hh, hcl, h0, h1, h2, h3]) | refine And.intro (by first | rfl | omega | decide | (simp; done) | (simp; omega) | (intro _ h; exact fcs_side h; done) | (intros; simp_all; done)) ?_)
  refine WP.cond (b := false) (by simp [fup]; omega) (fun h => by cases h) (fun _ => ?_)
  repeat (first | refine WP.seq ?_ | refine WP.block ?_ | (refine WP.region Tryd.tab ?_; simp -dsimp [hh, hcl, h0, h1, h2, h3]) | (refine WP.draw Tryd.tab Tryd.mixed ?_; simp -dsimp [hh, hcl, h0, h1, h2, h3]) | refine And.intro (by first | rfl | omega | decide | (simp; done) | (simp; omega) | (intro _ h; exact fcs_side h; done) | (intros; simp_all; done)) ?_)
  refine WP.cond (b := false) (by simp [fup]; omega) (fun h => by cases h) (fun _ => ?_)
  repeat (first | refine WP.seq ?_ | refine WP.block ?_ | (refine WP.region Tryd.tab ?_; simp -dsimp [hh, hcl, h0, h1, h2, h3]) | (refine WP.draw Tryd.tab Tryd.mixed ?_; simp -dsimp [hh, hcl, h0, h1, h2, h3]) | refine And.intro (by first | rfl | omega | decide | (simp; done) | (simp; omega) | (intro _ h; exact fcs_side h; done) | (intros; simp_all; done)) ?_)
  refine WP.cond (b := false) (by simp [fup]; omega) (fun h => by cases h) (fun _ => ?_)
  repeat (first | refine WP.seq ?_ | refine WP.block ?_ | (refine WP.region Tryd.tab ?_; simp -dsimp [hh, hcl, h0, h1, h2, h3]) | (refine WP.draw Tryd.tab Tryd.mixed ?_; simp -dsimp [hh, hcl, h0, h1, h2, h3]) | refine And.intro (by first | rfl | omega | decide | (simp; done) | (simp; omega) | (intro _ h; exact fcs_side h; done) | (intros; simp_all; done)) ?_)
  refine WP.cond (b := false) (by simp [fup]; omega) (fun h => by cases h) (fun _ => ?_)
  repeat (first | refine WP.seq ?_ | refine WP.block ?_ | (refine WP.region Tryd.tab ?_; simp -dsimp [hh, hcl, h0, h1, h2, h3]) | (refine WP.draw Tryd.tab Tryd.mixed ?_; simp -dsimp [hh, hcl, h0, h1, h2, h3]) | refine And.intro (by first | rfl | omega | decide | (simp; done) | (simp; omega) | (intro _ h; exact fcs_side h; done) | (intros; simp_all; done)) ?_)
  refine WP.cond (b := false) (by simp [fup]; omega) (fun h => by cases h) (fun _ => ?_)
  repeat (first | refine WP.seq ?_ | refine WP.block ?_ | (refine WP.region Tryd.tab ?_; simp -dsimp [hh, hcl, h0, h1, h2, h3]) | (refine WP.draw Tryd.tab Tryd.mixed ?_; simp -dsimp [hh, hcl, h0, h1, h2, h3]) | refine And.intro (by first | rfl | omega | decide | (simp; done) | (simp; omega) | (intro _ h; exact fcs_side h; done) | (intros; simp_all; done)) ?_)
  refine WP.cond (b := false) (by simp [fup]; omega) (fun h => by cases h) (fun _ => ?_)
  repeat (first | refine WP.seq ?_ | refine WP.block ?_ | (refine WP.region Tryd.tab ?_; simp -dsimp [hh, hcl, h0, h1, h2, h3]) | (refine WP.draw Tryd.tab Tryd.mixed ?_; simp -dsimp [hh, hcl, h0, h1, h2, h3]) | refine And.intro (by first | rfl | omega | decide | (simp; done) | (simp; omega) | (intro _ h; exact fcs_side h; done) | (intros; simp_all; done)) ?_)
  refine WP.cond (b := false) (by simp [fup]; omega) (fun h => by cases h) (fun _ => ?_)
  repeat (first | refine WP.seq ?_ | refine WP.block ?_ | (refine WP.region Tryd.tab ?_; simp -dsimp [hh, hcl, h0, h1, h2, h3]) | (refine WP.draw Tryd.tab Tryd.mixed ?_; simp -dsimp [hh, hcl, h0, h1, h2, h3]) | refine And.intro (by first | rfl | omega | decide | (simp; done) | (simp; omega) | (intro _ h; exact fcs_side h; done) | (intros; simp_all; done)) ?_)
  refine WP.cond (b := false) (by simp [fup]; omega) (fun h => by cases h) (fun _ => ?_)
  refine WP.skip ?_
  simp -dsimp
  repeat (first | refine WP.seq ?_ | refine WP.block ?_ | (refine WP.region Tryd.tab ?_; simp -dsimp [hh, hcl, h0, h1, h2, h3]) | (refine WP.draw Tryd.tab Tryd.mixed ?_; simp -dsimp [hh, hcl, h0, h1, h2, h3]) | refine And.intro (by first | rfl | omega | decide | (simp; done) | (simp; omega) | (intro _ h; exact fcs_side h; done) | (intros; simp_all; done)) ?_)
  refine WP.ret (finQ.retE ?_)
  simp -dsimp [hE, head4, fD]
  all_goals exact Leq.aggD _

/-- The reference's build. -/
theorem build_ok (l : List Int) (hl : l.length ≤ 100000) : Fn0 Tryd.prog 41 [slI l] (fD (candG l)) := by
  have h : nthI l 0 = 1 ∨ nthI l 0 = 2 ∨ nthI l 0 = 3 ∨ nthI l 0 = 4 ∨ nthI l 0 = 5 ∨ nthI l 0 = 6 ∨ nthI l 0 = 7 ∨ nthI l 0 = 8 ∨ nthI l 0 = 9 ∨ nthI l 0 = 10 ∨ nthI l 0 = 11 ∨ nthI l 0 = 13 ∨ (nthI l 0 < 1 ∨ nthI l 0 = 12 ∨ 13 < nthI l 0) := by omega
  rcases h with h | h | h | h | h | h | h | h | h | h | h | h | h
  · exact build_1 l hl h
  · exact build_2 l hl h
  · exact build_3 l hl h
  · exact build_4 l hl h
  · exact build_5 l hl h
  · exact build_6 l hl h
  · exact build_7 l hl h
  · exact build_8 l hl h
  · exact build_9 l hl h
  · exact build_10 l hl h
  · exact build_11 l hl h
  · exact build_13 l hl h
  · exact build_no l hl h
end Go.Proofs.YtjfkeicmdaanbaaDoor
