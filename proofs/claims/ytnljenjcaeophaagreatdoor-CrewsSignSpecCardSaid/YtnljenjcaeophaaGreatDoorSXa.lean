/-
  Signed facts: the reference's Same.. of any two of them.
-/
import Derived.Test.YtnljenjcaeophaaGreatDoorSAB
import Derived.Test.YtnljenjcaeophaaGreatDoorSG
set_option maxRecDepth 10000
set_option linter.unusedVariables false
set_option linter.unusedSimpArgs false
set_option linter.unusedSectionVars false
namespace Go.Proofs.YtnljenjcaeophaaGreatDoor
open Go.Xe Go.RowKit
abbrev smS0 (a b : List Dg) (i : Nat) : St := mkS 26 [(0, .d (slG a)), (1, .d (slG b)), (5, .d (.v (.int .i64 i)))] []
theorem Tryz.gdX : Tryz.prog.eqGuardType Tryz.prog.depth 102 = false := by kernel_rfl
theorem bys_t32L {x : Dg} (h : x.length = 32) : List.take 32 (bys x) = bys x := List.take_of_length_le (by rw [bys_len]; omega)
set_option maxHeartbeats 4000000 in
theorem sameDg_ok (a b : List Dg) (ha : all32 a) (hb : all32 b) (hna : a.length ≤ 10000000000000) (hnb : b.length ≤ 10000000000000) : Fn0 Tryz.prog 130 [slG a, slG b] (.v (.bool (decide (a = b)))) := by
 refine Fun.of_wp (pn := noPn) Tryz.tab Tryz.func130 rfl fun β0 => ?_
 simp only [Tryz.f130]
 repeat(first|apply wG|(apply wR;simp -dsimp [slG])|refine aI ?_)
 by_cases hl : a.length = b.length
 ·refine cF (by simp [hl]) ?_
  refine WP.skip ?_
  simp -dsimp
  repeat(first|apply wG|(apply wR;simp -dsimp)|refine aI ?_)
  refine WP.loopWk (fun q S => ∃ i : Nat, q = a.length - i ∧ i ≤ a.length ∧ (∀ j, j < i → digA a j = digA b j) ∧ S = smS0 a b i) a.length (S0 := smS0 a b 0) (Wk.lessE [] (by simp [slG]) (by simp)) ⟨0, rfl, by omega, fun j h => by omega, rfl⟩ ?_
  rintro _ _ ⟨i, rfl, hi, hj, rfl⟩
  simp -dsimp [slG]
  repeat(first|apply wG|(apply wR;simp -dsimp)|refine aI ?_)
  by_cases hil : i < a.length
  ·have hib : i < b.length := by omega
   have aa := dgL_at ha i hil
   have ab := dgL_at hb i hib
   have la := digA_32 ha i hil
   have lb := digA_32 hb i hib
   have ca := dgL_len ha
   have cb := dgL_len hb
   have ta := bys_t32L la
   have tb := bys_t32L lb
   have e1 : IntKind.i64.wrap ((i : Int) + 1) = ((i + 1 : Nat) : Int) := by rw [IntWalk.i64_in _ (by omega)]; omega
   have hstep : digA a i = digA b i → ∀ j, j < i + 1 → digA a j = digA b j := fun h j hj1 => by
    rcases Nat.lt_or_ge j i with h1 | h1
    ·exact hj j h1
    ·rw [show j = i by omega]; exact h
   have hbad : digA a i ≠ digA b i → a ≠ b := fun h e => h (by rw [e])
   generalize digA a i = x at *
   generalize digA b i = y at *
   refine cT (by simp; omega) ?_
   refine WP.skip ?_
   simp -dsimp
   repeat(first|apply wG|(apply wR;simp -dsimp [aa, ab, ta, tb])|refine aI ?_)
   refine vcStop.eqA Tryz.tab gokB noarrB rfl (.inr rfl) (q := 4) (by omega) (T := 102) Tryz.τ102 Tryz.keyB (by decide) Tryz.gdX (cs := onesB x) (es := onesB y) (by simp [onesB_flat]) (by simp [onesB_flat]) (by simp [onesB, la]) (by simp [onesB, lb]) (onesB_ok x) (onesB_ok y) (lits_same x y) ?_
   simp -dsimp [eqRes]
   repeat(first|apply wG|(apply wR;simp -dsimp)|refine aI ?_)
   by_cases hxy : x = y
   ·refine cF (by simp [eqRes, hxy]) ?_
    refine WP.skip ?_
    simp -dsimp
    repeat(first|apply wG|(apply wR;simp -dsimp)|refine aI ?_)
    refine loopW.next (smS0 a b (i + 1)) (Wk.lessE [] (by simp [e1, slG]) (by simp)) (a.length - (i + 1)) (by omega) ⟨i + 1, rfl, by omega, hstep hxy, rfl⟩
   ·refine cT (by simp [eqRes, hxy]) ?_
    have hr : decide (a = b) = false := decide_eq_false (hbad hxy)
    repeat(first|apply wG|(apply wR;simp -dsimp)|refine aI ?_)
    refine WP.ret (finQ.retE ?_)
    simp -dsimp [hr]
  ·refine cF (by simp; omega) ?_
   refine WP.exit ?_
   have hr : decide (a = b) = true := decide_eq_true (digA_ext hl fun j h => hj j (by omega))
   simp -dsimp
   repeat(first|apply wG|(apply wR;simp -dsimp)|refine aI ?_)
   refine WP.ret (finQ.retE ?_)
   simp -dsimp [hr]
 ·refine cT (by simp; omega) ?_
  have hr : decide (a = b) = false := decide_eq_false fun h => hl (by rw [h])
  repeat(first|apply wG|(apply wR;simp -dsimp)|refine aI ?_)
  refine WP.ret (finQ.retE ?_)
  simp -dsimp [hr]
theorem sameSig4_ok (k k' : Int) (o c p o' c' p' : List Dg) (h : sigG k o c p) (h' : sigG k' o' c' p') : ∃ r, Fn0 Tryz.prog 76 [.agg (sigC k o c p), .agg (sigC k' o' c' p')] (.v (.bool r)) ∧ (r = true ↔ k = k' ∧ o = o' ∧ c = c' ∧ p = p') := by
 have k1 := sameDg_ok o o' h.ho h'.ho h.no h'.no
 have k2 := sameDg_ok c c' h.hc h'.hc h.nc h'.nc
 have k3 := sameDg_ok p p' h.hp h'.hp h.np h'.np
 have e : (decide (k = k') && (decide (o = o') && (decide (c = c') && decide (p = p')))) = true ↔ k = k' ∧ o = o' ∧ c = c' ∧ p = p' := by simp
 refine ⟨_, ?_, e⟩
 generalize decide (o = o') = b1 at *
 generalize decide (c = c') = b2 at *
 generalize decide (p = p') = b3 at *
 clear e
 by_cases hk : k = k'
 ·subst hk
  refine Fun.of_wp (pn := noPn) Tryz.tab Tryz.func76 rfl fun β0 => ?_
  simp only [Tryz.f76]
  repeat(first|apply wG|(apply wR;simp -dsimp [sigC, slG])|refine aI ?_)
  refine vcStopG.call0 Tryz.body130 (fun _ => k1) rfl (fun _ => rfl) (fun _ => by simp [slG]) ?_
  cases b1 with
  | false =>
   simp -dsimp
   repeat(first|apply wG|(apply wR;simp -dsimp)|refine aI ?_)
   refine vcStopG.skip (.d (.v (.bool false))) ?_
   simp -dsimp
   repeat(first|apply wG|(apply wR;simp -dsimp)|refine aI ?_)
   refine vcStopG.skip (.d (.v (.bool false))) ?_
   simp -dsimp
   repeat(first|apply wG|(apply wR;simp -dsimp)|refine aI ?_)
   refine WP.ret (finQ.retE ?_)
   simp -dsimp
  | true =>
   simp -dsimp
   repeat(first|apply wG|(apply wR;simp -dsimp)|refine aI ?_)
   refine vcStopG.call0 Tryz.body130 (fun _ => k2) rfl (fun _ => rfl) (fun _ => by simp [slG]) ?_
   cases b2 with
   | false =>
    simp -dsimp
    repeat(first|apply wG|(apply wR;simp -dsimp)|refine aI ?_)
    refine vcStopG.skip (.d (.v (.bool false))) ?_
    simp -dsimp
    repeat(first|apply wG|(apply wR;simp -dsimp)|refine aI ?_)
    refine WP.ret (finQ.retE ?_)
    simp -dsimp
   | true =>
    simp -dsimp
    repeat(first|apply wG|(apply wR;simp -dsimp)|refine aI ?_)
    refine vcStopG.call0 Tryz.body130 (fun _ => k3) rfl (fun _ => rfl) (fun _ => by simp [slG]) ?_
    simp -dsimp
    repeat(first|apply wG|(apply wR;simp -dsimp)|refine aI ?_)
    refine WP.ret (finQ.retE ?_)
    simp -dsimp
 ·have hd : decide (k = k') = false := decide_eq_false hk
  refine Fun.of_wp (pn := noPn) Tryz.tab Tryz.func76 rfl fun β0 => ?_
  simp only [Tryz.f76]
  repeat(first|apply wG|(apply wR;simp -dsimp [sigC, slG, hd])|refine aI ?_)
  refine vcStopG.skip (.d (.v (.bool false))) ?_
  simp -dsimp
  repeat(first|apply wG|(apply wR;simp -dsimp)|refine aI ?_)
  refine vcStopG.skip (.d (.v (.bool false))) ?_
  simp -dsimp
  repeat(first|apply wG|(apply wR;simp -dsimp)|refine aI ?_)
  refine vcStopG.skip (.d (.v (.bool false))) ?_
  simp -dsimp
  repeat(first|apply wG|(apply wR;simp -dsimp)|refine aI ?_)
  refine WP.ret (finQ.retE ?_)
  simp -dsimp [hd]
theorem sig_inj {k k' : Int} {o c p o' c' p' : List Dg} (h : sigG k o c p) (h' : sigG k' o' c' p') (e : sigC k o c p = sigC k' o' c' p') : k = k' ∧ o = o' ∧ c = c' ∧ p = p' := by
 have key : ∀ {a b : List Dg}, all32 a → all32 b → dgL a = dgL b → a.length = b.length → a = b := fun {a b} ha hb e hl => by
  rw [← unDgs_dgL ha, e, hl, unDgs_dgL hb]
 simp only [sigC, slG, List.cons.injEq, D.v.injEq, Value.int.injEq, D.sl.injEq, true_and, and_true] at e
 obtain ⟨e1, ⟨e2, n2⟩, ⟨e3, n3⟩, e4, n4⟩ := e
 exact ⟨e1, key h.ho h'.ho e2 n2, key h.hc h'.hc e3 n3, key h.hp h'.hp e4 n4⟩
theorem sameSgU_ok (p q : Sg) (hp : sgOk p) (hq : sgOk q) (up : sgT p) (uq : sgT q) : ∃ r, Fn0 Tryz.prog 31 [sgV p, sgV q] (.v (.bool r)) ∧ (p = q → r = true) := by
 have k1 := refSame_ok p.1 q.1 hp.1 hq.1
 have l1 := sgc_len hp
 have l2 := sgc_len hq
 have h57 := sgc_57 p
 have g57 := sgc_57 q
 have h4 : List.take 4 (List.drop 57 ((sgc p).map AV.d)) = p.2.map .d := by rw [← List.map_drop, ← List.map_take, sgcT_sig hp]
 have g4 : List.take 4 (List.drop 57 ((sgc q).map AV.d)) = q.2.map .d := by rw [← List.map_drop, ← List.map_take, sgcT_sig hq]
 obtain ⟨k, op, cl, pa, e, hg⟩ := up
 obtain ⟨k', op', cl', pa', e', hg'⟩ := uq
 obtain ⟨r2, k2, hr2⟩ := sameSig4_ok k k' op cl pa op' cl' pa' hg hg'
 rw [← e, ← e'] at k2
 have hr : p = q → (eqF p.1 q.1 && r2) = true := fun h => by
  subst h
  rw [(eqF_iff hp.1 hp.1).2 rfl, hr2.2 (sig_inj hg hg' (e.symm.trans e'))]
  rfl
 refine ⟨_, ?_, hr⟩
 clear hr hr2 hg hg' e e'
 generalize eqF p.1 q.1 = b1 at k1
 simp only [sgV]
 refine Fun.of_wp (pn := noPn) Tryz.tab Tryz.func31 rfl fun β0 => ?_
 simp only [Tryz.f31]
 repeat(first|apply wG|(apply wR;simp -dsimp)|refine aI ?_)
 refine And.intro (sgc_oneD hp) ?_
 repeat(first|apply wG|(apply wR;simp -dsimp)|refine aI ?_)
 refine And.intro (sgc_oneD hq) ?_
 repeat(first|apply wG|(apply wR;simp -dsimp [h57, h4, g57, g4])|refine aI ?_)
 refine vcStop.call0L Tryz.body75 k1 rfl rfl (And.intro (by simp [fD]) (And.intro (by simp [fD]) trivial)) ?_
 cases b1 with
 | true =>
  simp -dsimp
  repeat(first|apply wG|(apply wR;simp -dsimp [h57, h4, g57, g4])|refine aI ?_)
  refine vcStopG.call0L Tryz.body76 (fun _ => k2) rfl (fun _ => rfl) (fun _ => And.intro (by simp [h4]) (And.intro (by simp [g4]) trivial)) ?_
  simp -dsimp
  repeat(first|apply wG|(apply wR;simp -dsimp)|refine aI ?_)
  refine WP.ret (finQ.retE ?_)
  simp -dsimp
 | false =>
  simp -dsimp
  repeat(first|apply wG|(apply wR;simp -dsimp [h57, h4, g57, g4])|refine aI ?_)
  refine vcStopG.skip (.d (.v (.bool false))) ?_
  simp -dsimp
  repeat(first|apply wG|(apply wR;simp -dsimp)|refine aI ?_)
  refine WP.ret (finQ.retE ?_)
  simp -dsimp
end Go.Proofs.YtnljenjcaeophaaGreatDoor
