/-
  Remote crews: a restart has no effect on what is recorded. Walked.
-/
import Derived.Test.YtfgcgagcpnbgmaaGreatDoorQRl
set_option linter.unusedVariables false
set_option linter.unusedSimpArgs false
set_option linter.unusedSectionVars false
namespace Go.Proofs.YtfgcgagcpnbgmaaGreatDoor
open Go.Xe Go.RowKit
structure agR (r : Rm) (f : Nat → Int) (x : Rm) (e : Int) (y z : Rm) (h : Int) : Prop where
 rx : recP r f = (x, e)
 ry : resP r = (y, 0)
 yo : rmOk y
 yf : y.fs = r.fs
 rz : recP y f = (z, h)
 cs : (e = 0 ∧ h = 0 ∧ rmOk x ∧ rmB x = true ∧ z.fs = x.fs ∧ ∃ b, resP x = (b, 0) ∧ b.fs = x.fs ∧ b.lm = x.lm ∧ b.lr = x.lr ∧ b.ls = x.ls) ∨
  (e = 380 ∧ rmOk x ∧ rmB x = true ∧ x.fs.length = r.fs.length) ∨ (e ≠ 0 ∧ e ≠ 380 ∧ h = e ∧ x.fs = [])
theorem agR_ok {r : Rm} (g : ∀ p ∈ r.fs, fOk p.1 ∧ sgT p) (hs : r.seed.length ≤ 1000) (hv : rmB r = true) {f : Nat → Int} (hf : fOk f) : ∃ x e y z h, agR r f x e y z h := by
 obtain ⟨ho, hm⟩ := rm_mk g hv
 generalize r.crew = crew, r.seed = seed, r.many = m, r.dk.s = s, r.dk.left = left, r.sent = sent at *
 subst hm
 have h0 := res_ok0 ho
 have hy := res_mk ho
 rcases again ho hf with ⟨s', l', s2, l2, e1, o1, e2, o2, hr⟩ | ⟨s', z, e1, o1, hr, e2⟩ | ⟨e, z, e1, n1, n2, e2⟩
 ·refine ⟨_, _, _, _, _, e1, hy, mk_rmOk h0 hs, rfl, e2, .inl ⟨rfl, rfl, mk_rmOk o1 hs, mk_val o1, ?_, _, res_mk o1, rfl, rfl, rfl, rfl⟩⟩
  simp only [mkR, hr]
 ·refine ⟨_, _, _, z.1, z.2, e1, hy, mk_rmOk h0 hs, rfl, e2, .inr (.inl ⟨rfl, mk_rmOk o1 hs, mk_val o1, ?_⟩)⟩
  simp only [mkR, hr]
 ·exact ⟨_, _, _, _, _, e1, hy, mk_rmOk h0 hs, rfl, e2, .inr (.inr ⟨n1, n2, rfl, rfl⟩)⟩
set_option maxRecDepth 10000 in
set_option maxHeartbeats 4000000 in
theorem law_again (r : Rm) (g : rmG r) (f : Nat → Int) (hf : fOk f) : Fn0 Tryz.prog 6 [rmD r, fD f] (.v (.bool true)) := by
 have h10 := sane44_ok
 have ho : ∀ p ∈ r.fs, sgOk p ∧ sgT p := fun p hp => ⟨sgT_ok (g.fo p hp).1 (g.fo p hp).2, (g.fo p hp).2⟩
 have h36 := fewDk_ok r.dk g.ds.1 g.ds.2 (fun w hw => (g.dp.1 w hw).2) g.dp.2
 have h11 := fewRm_ok r h36 g.lr.1 g.lr.2 ho g.fl
 refine Fun.of_wp (pn := noPn) Tryz.tab Tryz.func6 rfl fun β0 => ?_
 simp only [Tryz.f6]
 repeat(first|apply wG|(apply wR;simp -dsimp [rmD, rmC, fD])|refine aI ?_)
 refine vcStop.call0 Tryz.body10 h10 rfl rfl (by simp) ?_
 simp -dsimp
 repeat(first|apply wG|(apply wR;simp -dsimp)|refine aI ?_)
 refine cF (by simp) ?_
 refine WP.skip ?_
 simp -dsimp
 repeat(first|apply wG|(apply wR;simp -dsimp)|refine aI ?_)
 refine vcStop.call0 Tryz.body11 h11 rfl rfl (by simp [rmD, rmC]) ?_
 cases hfw : fewR r with
 | false =>
  simp -dsimp
  repeat(first|apply wG|(apply wR;simp -dsimp)|refine aI ?_)
  refine vcStopG.skip (.d (.v (.int .i64 0))) ?_
  simp -dsimp
  repeat(first|apply wG|(apply wR;simp -dsimp)|refine aI ?_)
  refine cT (by simp) ?_
  repeat(first|apply wG|(apply wR;simp -dsimp)|refine aI ?_)
  refine WP.ret (finQ.retE ?_)
  simp -dsimp
 | true =>
  obtain ⟨hk, h6⟩ := fewR_ok hfw ⟨g.c, g.m, g.u, g.dl⟩ ho
  have h15 := rmCheck_ok r hk
  simp -dsimp
  repeat(first|apply wG|(apply wR;simp -dsimp)|refine aI ?_)
  refine vcStopG.call0 Tryz.body15 (fun _ => h15) rfl (fun _ => rfl) (fun _ => by simp [rmD, rmC]) ?_
  simp -dsimp
  repeat(first|apply wG|(apply wR;simp -dsimp)|refine aI ?_)
  cases hv : rmB r with
  | false =>
   refine cT (by simp [ckR_no hv]) ?_
   repeat(first|apply wG|(apply wR;simp -dsimp)|refine aI ?_)
   refine WP.ret (finQ.retE ?_)
   simp -dsimp
  | true =>
   refine cF (by simp [ckR_yes hv]) ?_
   refine WP.skip ?_
   obtain ⟨x, e, y, z, h, G⟩ := agR_ok g.fo hk.sd hv hf
   have k17 := rmRec_ok r hk f hf
   rw [G.rx] at k17
   have k23 := rmRes_ok r hk
   rw [G.ry] at k23
   have k17y := rmRec_ok y G.yo f hf
   rw [G.rz] at k17y
   have k25 := sameSgs_ok r.fs hk.fl hk.fo
   have yf := G.yf
   have cs := G.cs
   clear G
   simp -dsimp
   repeat(first|apply wG|(apply wR;simp -dsimp)|refine aI ?_)
   refine vcStop.call0 Tryz.body17 k17 rfl rfl (by simp [rmD, rmC, fD]) ?_
   simp -dsimp [rmT, rmD, rmC]
   repeat(first|apply wG|(apply wR;simp -dsimp)|refine aI ?_)
   refine vcStop.call0 Tryz.body23 k23 rfl rfl (by simp [rmD, rmC]) ?_
   simp -dsimp [rmT, rmD, rmC]
   repeat(first|apply wG|(apply wR;simp -dsimp)|refine aI ?_)
   refine vcStopG.call0 Tryz.body25 (fun _ => k25) rfl (fun _ => rfl) (fun _ => by simp [yf]) ?_
   simp -dsimp
   repeat(first|apply wG|(apply wR;simp -dsimp)|refine aI ?_)
   refine cF (by simp) ?_
   refine WP.skip ?_
   simp -dsimp
   repeat(first|apply wG|(apply wR;simp -dsimp)|refine aI ?_)
   refine vcStop.call0 Tryz.body17 k17y rfl rfl (by simp [rmD, rmC, fD]) ?_
   simp -dsimp [rmT, rmD, rmC]
   repeat(first|apply wG|(apply wR;simp -dsimp)|refine aI ?_)
   rcases cs with ⟨rfl, rfl, xo, xv, zf, b, rb, bf, b1, b2, b3⟩ | ⟨rfl, xo, xv, xl⟩ | ⟨n1, n2, rfl, xf⟩
   ·have k15 := rmCheck_ok x xo
    rw [ckR_yes xv] at k15
    have k23b := rmRes_ok x xo
    rw [rb] at k23b
    have k25x := sameSgs_ok x.fs xo.fl xo.fo
    have k26 := sameLog_ok x.lm x.lr x.ls xo.lr
    refine cF (by simp) ?_
    refine WP.skip ?_
    simp -dsimp
    repeat(first|apply wG|(apply wR;simp -dsimp)|refine aI ?_)
    refine cF (by simp) ?_
    refine WP.skip ?_
    simp -dsimp
    repeat(first|apply wG|(apply wR;simp -dsimp)|refine aI ?_)
    refine vcStop.call0 Tryz.body23 k23b rfl rfl (by simp [rmD, rmC]) ?_
    simp -dsimp [rmT, rmD, rmC]
    repeat(first|apply wG|(apply wR;simp -dsimp)|refine aI ?_)
    refine vcStopG.call0 Tryz.body25 (fun _ => k25x) rfl (fun _ => rfl) (fun _ => by simp [zf]) ?_
    simp -dsimp
    repeat(first|apply wG|(apply wR;simp -dsimp)|refine aI ?_)
    refine vcStopG.call0 Tryz.body15 (fun _ => k15) rfl (fun _ => rfl) (fun _ => by simp [rmD, rmC]) ?_
    simp -dsimp
    repeat(first|apply wG|(apply wR;simp -dsimp)|refine aI ?_)
    refine vcStopG.call0 Tryz.body25 (fun _ => k25x) rfl (fun _ => rfl) (fun _ => by simp [bf]) ?_
    simp -dsimp
    repeat(first|apply wG|(apply wR;simp -dsimp)|refine aI ?_)
    refine vcStopG.call0 Tryz.body26 (fun _ => k26) rfl (fun _ => rfl) (fun _ => by simp [logD, lgC, b1, b2, b3]) ?_
    simp -dsimp
    repeat(first|apply wG|(apply wR;simp -dsimp)|refine aI ?_)
    refine WP.ret (finQ.retE ?_)
    simp -dsimp
   ·have k15 := rmCheck_ok x xo
    rw [ckR_yes xv] at k15
    refine cT (by simp) ?_
    repeat(first|apply wG|(apply wR;simp -dsimp)|refine aI ?_)
    refine vcStop.call0 Tryz.body15 k15 rfl rfl (by simp [rmD, rmC]) ?_
    simp -dsimp [xl]
    repeat(first|apply wG|(apply wR;simp -dsimp [xl])|refine aI ?_)
    refine vcStopG.skip (.d (.v (.bool false))) ?_
    simp -dsimp
    repeat(first|apply wG|(apply wR;simp -dsimp)|refine aI ?_)
    refine WP.ret (finQ.retE ?_)
    simp -dsimp
   ·have xl : x.fs.length = 0 := by rw [xf]; rfl
    refine cF (by simp [n2]) ?_
    refine WP.skip ?_
    simp -dsimp
    repeat(first|apply wG|(apply wR;simp -dsimp)|refine aI ?_)
    refine cT (by simp [n1]) ?_
    repeat(first|apply wG|(apply wR;simp -dsimp [xl, xf])|refine aI ?_)
    refine WP.ret (finQ.retE ?_)
    simp -dsimp [xl, xf]
end Go.Proofs.YtfgcgagcpnbgmaaGreatDoor
