/-
  Joined texts.
-/
import Derived.Test.YtnljenjcaeophaaGreatDoorKN
set_option linter.unusedVariables false
set_option linter.unusedSimpArgs false
set_option linter.unusedSectionVars false
namespace Go.Proofs.YtnljenjcaeophaaGreatDoor
open Go.Xe Go.RowKit
theorem rfC_at {x : List R2} {i : Nat} (hi : i < x.length) : List.take 2 (List.drop (i * 2) (rfC x)) = [.v (.int .i64 x[i].1), .v (.int .i64 x[i].2)] := by
 have e : x = x.take i ++ x[i] :: x.drop (i + 1) := by
  rw [← List.drop_eq_getElem_cons hi, List.take_append_drop]
 have h2 : rfC x = rfC (x.take i) ++ ([.v (.int .i64 x[i].1), .v (.int .i64 x[i].2)] ++ rfC (x.drop (i + 1))) := by
  conv => lhs; rw [e]
  rw [rfC_append]
  rfl
 rw [h2, List.drop_left' (by rw [rfC_len, List.length_take]; omega)]
 rfl
abbrev smS (x y : List R2) (i : Nat) : St := mkS 26 [(0, .d (slR x)), (1, .d (slR y)), (5, .d (.v (.int .i64 i)))] []
set_option maxRecDepth 10000 in
theorem sameR_ok (x y : List R2) (hx : ∀ r ∈ x, isI r.1 ∧ isI r.2) (hy : ∀ r ∈ y, isI r.1 ∧ isI r.2) (hn : x.length ≤ 100000) : Fn0 Tryz.prog 45 [slR x, slR y] (.v (.bool (decide (x = y)))) := by
 refine Fun.of_wp (pn := noPn) Tryz.tab Tryz.func45 rfl fun β0 => ?_
 simp only [Tryz.f45]
 repeat(first|apply wG|(apply wR;simp -dsimp)|refine aI ?_)
 by_cases hl : x.length = y.length
 ·refine cF (by simp [hl]) ?_
  refine WP.skip ?_
  simp -dsimp
  repeat(first|apply wG|(apply wR;simp -dsimp)|refine aI ?_)
  refine WP.loopWk (fun m S => ∃ i, m = x.length - i ∧ i ≤ x.length ∧ x.take i = y.take i ∧ S = smS x y i) x.length (S0 := smS x y 0) (Wk.lessE [] (by simp) (by simp)) ⟨0, rfl, by omega, rfl, rfl⟩ ?_
  rintro m _ ⟨i, rfl, hi, ht, rfl⟩
  simp -dsimp
  repeat(first|apply wG|(apply wR;simp -dsimp)|refine aI ?_)
  by_cases hil : i < x.length
  ·have hiy : i < y.length := by omega
   have h1 := rfC_at hil
   have h2 := rfC_at hiy
   obtain ⟨x1, x2⟩ := hx x[i] (List.getElem_mem hil)
   obtain ⟨y1, y2⟩ := hy y[i] (List.getElem_mem hiy)
   have lx := rfC_len x
   have ly := rfC_len y
   have ex : x.take (i + 1) = x.take i ++ [x[i]] := by rw [List.take_add_one, List.getElem?_eq_getElem hil]; rfl
   have ey : y.take (i + 1) = y.take i ++ [y[i]] := by rw [List.take_add_one, List.getElem?_eq_getElem hiy]; rfl
   have e1 : IntKind.i64.wrap ((i : Int) + 1) = ((i + 1 : Nat) : Int) := by rw [IntWalk.i64_in _ (by omega)]; omega
   generalize hxa : x[i] = a at h1 x1 x2 ex
   generalize hyb : y[i] = b at h2 y1 y2 ey
   refine cT (by simp; omega) ?_
   refine WP.skip ?_
   simp -dsimp
   repeat(first|apply wG|(apply wR;simp -dsimp [h1, h2])|refine aI ?_)
   refine vcStop.eqS Tryz.tab gokF noarrF rfl (.inr rfl) (m := 5) (by omega) Tryz.key52 (by decide) Tryz.gd39r st39r (cs := [.v (.int .i64 a.1), .v (.int .i64 a.2)]) (es := [.v (.int .i64 b.1), .v (.int .i64 b.2)]) (.refl _) (.refl _) (ref_okD x1 x2) (ref_okD y1 y2) (ref_lits a b) ?_
   simp -dsimp
   repeat(first|apply wG|(apply wR;simp -dsimp)|refine aI ?_)
   by_cases hab : a = b
   ·refine cF (by simp [eqRes, hab]) ?_
    refine WP.skip ?_
    simp -dsimp
    repeat(first|apply wG|(apply wR;simp -dsimp)|refine aI ?_)
    refine loopW.next (smS x y (i + 1)) (Wk.lessE [] (by simp [e1]) (by simp)) (x.length - (i + 1)) (by omega) ⟨i + 1, rfl, by omega, by rw [ex, ey, ht, hab], rfl⟩
   ·refine cT (by simp [eqRes, hab]) ?_
    have hne : decide (x = y) = false := by
     rw [decide_eq_false_iff_not]
     intro e
     subst e
     exact hab (hxa.symm.trans hyb)
    repeat(first|apply wG|(apply wR;simp -dsimp)|refine aI ?_)
    refine WP.ret (finQ.retE ?_)
    simp -dsimp [hne]
  ·have hxy : decide (x = y) = true := by
    rw [decide_eq_true_iff, ← List.take_of_length_le (l := x) (i := i) (by omega), ht, List.take_of_length_le (by omega)]
   refine cF (by simp; omega) ?_
   refine WP.exit ?_
   simp -dsimp
   repeat(first|apply wG|(apply wR;simp -dsimp)|refine aI ?_)
   refine WP.ret (finQ.retE ?_)
   simp -dsimp [hxy]
 ·have hne : decide (x = y) = false := by
   rw [decide_eq_false_iff_not]
   intro e
   exact hl (by rw [e])
  refine cT (by simp; omega) ?_
  repeat(first|apply wG|(apply wR;simp -dsimp)|refine aI ?_)
  refine WP.ret (finQ.retE ?_)
  simp -dsimp [hne]
theorem zs_one : ∀ d ∈ zs, oneD d = true := by decide
theorem shS_ok {c n t : Int} (h1 : isI c) (h2 : isI n) (h3 : isI t) : sgOk (shF c n t, zs) := ⟨shF_ok h1 h2 h3, rfl, zs_one⟩
theorem record_ok (c n t : Int) : Fn0 Tryz.prog 44 [.v (.int .i64 c), .v (.int .i64 n), .v (.int .i64 t)] (sgV (shF c n t, zs)) := by
 refine Fun.of_wp (pn := noPn) Tryz.tab Tryz.func44 rfl fun β0 => ?_
 simp only [Tryz.f44]
 repeat(first|apply wG|(apply wR;simp -dsimp)|refine aI ?_)
 refine WP.ret (finQ.retE ?_)
 simp -dsimp
 exact Leq.aggD (sgc (shF c n t, zs))
theorem of_ok (l : List Sg) (b : Bool) : Fn0 Tryz.prog 43 [sgD l b] (lgD l false) := by
 refine Fun.of_wp (pn := noPn) Tryz.tab Tryz.func43 rfl fun β0 => ?_
 simp only [Tryz.f43]
 repeat(first|apply wG|(apply wR;simp -dsimp)|refine aI ?_)
 refine WP.ret (finQ.retE ?_)
 simp -dsimp
theorem of_row (l : List Sg) : Fun Tryz.prog 43 [.row 1000] [(1000, sgB l)] (.d (lgD l false)) [] fun _ => False :=
 Fun.ofRow 1000 (T := 70) (cs := sgC l) (args' := [.row 1000]) (bi' := [(1000, sgB l)]) (of_ok l false) rfl rfl trivial
theorem verN0_ok (b : Bool) : Fn0 Tryz.prog 57 [nilD, sgD [] b] (.v (.int .i64 0)) := by
 refine Fun.of_wp (pn := noPn) Tryz.tab Tryz.func57 rfl fun β0 => ?_
 simp only [Tryz.f57]
 repeat(first|apply wG|(apply wR;simp -dsimp)|refine aI ?_)
 refine vcStop.call0 Tryz.body33 crews_nil rfl rfl (by simp) ?_
 simp -dsimp
 repeat(first|apply wG|(apply wR;simp -dsimp)|refine aI ?_)
 refine cF (by simp) ?_
 refine WP.skip ?_
 simp -dsimp
 repeat(first|apply wG|(apply wR;simp -dsimp)|refine aI ?_)
 refine WP.loopWk (fun m S => S = mkS 27 [(15, .d (.v (.int .i64 0))), (16, .d (.v (.int .i64 0)))] []) 1
  (S0 := mkS 27 [(15, .d (.v (.int .i64 0))), (16, .d (.v (.int .i64 0)))] []) (Wk.lessE [] (by simp) (by simp)) rfl ?_
 rintro _ _ rfl
 simp -dsimp
 repeat(first|apply wG|(apply wR;simp -dsimp)|refine aI ?_)
 refine cF (by simp) ?_
 refine WP.exit ?_
 simp -dsimp
 repeat(first|apply wG|(apply wR;simp -dsimp)|refine aI ?_)
 refine WP.ret (finQ.retE ?_)
 simp -dsimp
theorem verN1_ok (p : Sg) (l : List Sg) (b : Bool) (hl : ∀ q ∈ p :: l, sgOk q) (h0 : 0 ≤ p.1 0) : Fn0 Tryz.prog 57 [nilD, sgD (p :: l) b] (.v (.int .i64 (oneE p.1))) := by
 have hp := hl p (by simp)
 have hv := verS_ok p.1 p.2 hp.1 hp.2.1 hp.2.2 h0
 have hat := sgc_at (x := p :: l) (i := 0) (by simp) hl
 simp only [List.getElem_cons_zero, Nat.zero_mul, List.drop_zero] at hat
 have l2 := sgc_len hp
 have ht := sgc_t hp
 have htm := sgc_tm hp
 have lc := sgC_len hl
 refine Fun.of_wp (pn := noPn) Tryz.tab Tryz.func57 rfl fun β0 => ?_
 simp only [Tryz.f57]
 repeat(first|apply wG|(apply wR;simp -dsimp)|refine aI ?_)
 refine vcStop.call0 Tryz.body33 crews_nil rfl rfl (by simp) ?_
 simp -dsimp
 repeat(first|apply wG|(apply wR;simp -dsimp)|refine aI ?_)
 refine cF (by simp) ?_
 refine WP.skip ?_
 simp -dsimp
 repeat(first|apply wG|(apply wR;simp -dsimp)|refine aI ?_)
 refine WP.loopWk (fun m S => S = mkS 27 [(0, .d nilD), (14, .d (sgD (p :: l) b)), (15, .d (.v (.int .i64 (p :: l).length))), (16, .d (.v (.int .i64 0)))] []) 1
  (S0 := mkS 27 [(0, .d nilD), (14, .d (sgD (p :: l) b)), (15, .d (.v (.int .i64 (p :: l).length))), (16, .d (.v (.int .i64 0)))] []) (Wk.lessE [] (by simp) (by simp)) rfl ?_
 rintro _ _ rfl
 generalize hX : p :: l = X at *
 have hX0 : 0 < X.length := by rw [← hX]; simp
 simp -dsimp
 repeat(first|apply wG|(apply wR;simp -dsimp)|refine aI ?_)
 refine cT (by simp; omega) ?_
 refine WP.skip ?_
 simp -dsimp
 refine WP.seq (WP.block ?_)
 repeat(first|apply wG|(apply wR;simp -dsimp [hat, l2, ht, htm])|refine aI ?_)
 refine And.intro (sgc_oneD hp) ?_
 repeat(first|apply wG|(apply wR;simp -dsimp [hat, l2, ht, htm])|refine aI ?_)
 refine vcStop.call0L Tryz.body35 hv rfl rfl (And.intro (.refl _) (And.intro (Leq.aggD _) trivial)) ?_
 simp -dsimp
 repeat(first|apply wG|(apply wR;simp -dsimp)|refine aI ?_)
 have hne : ¬ oneE p.1 = 0 := by unfold oneE; split <;> decide
 refine cT (by simp; exact hne) ?_
 repeat(first|apply wG|(apply wR;simp -dsimp)|refine aI ?_)
 refine WP.ret (finQ.retE ?_)
 simp -dsimp [oneE]
end Go.Proofs.YtnljenjcaeophaaGreatDoor
