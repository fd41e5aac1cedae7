/-
  Joined texts.
-/
import Derived.Test.YtnljenjcaeophaaGreatDoorK0
import Derived.Test.YtnljenjcaeophaaGreatDoorK9
import Derived.Test.YtnljenjcaeophaaGreatDoorKG
import Derived.Test.YtnljenjcaeophaaGreatDoorKM
set_option linter.unusedVariables false
set_option linter.unusedSimpArgs false
set_option linter.unusedSectionVars false
namespace Go.Proofs.YtnljenjcaeophaaGreatDoor
open Go.Xe Go.RowKit
end Go.Proofs.YtnljenjcaeophaaGreatDoor
namespace Go.Proofs.YtnljenjcaeophaaGreatDoor
open Go.Xe Go.RowKit
def unDgs (c : List D) (n : Nat) : List Dg := (List.range n).map fun i => ((c.drop (i * 32)).take 32).map unBD
theorem unDgs_dgL {l : List Dg} (h : all32 l) : unDgs (dgL l) l.length = l := by
 refine digA_ext (by simp [unDgs]) fun i hi => ?_
 have hi : i < l.length := by simpa [unDgs] using hi
 rw [digA, List.getD_eq_getElem?_getD, unDgs, List.getElem?_map, List.getElem?_range hi, Option.map_some, Option.getD_some, dgL_at h i hi]
 exact map_unBD _
def sgK (s : List D) : Int := match s with
 | .v (.int _ k) :: _ => k
 | _ => 0
def sgDg (s : List D) (i : Nat) : List Dg := match s[i]? with
 | some (.sl _ c n _) => unDgs c n
 | _ => []
def sgT (p : Sg) : Prop := ∃ k op cl pa, p.2 = sigC k op cl pa ∧ sigG k op cl pa
def vfyS (l : List Crw) (p : Sg) : Int := vfyE l p.1 (sgK p.2) (sgDg p.2 1) (sgDg p.2 2) (sgDg p.2 3)
theorem vfyS_eq {l : List Crw} {p : Sg} {k : Int} {op cl pa : List Dg} (e : p.2 = sigC k op cl pa) (h : sigG k op cl pa) : vfyS l p = vfyE l p.1 k op cl pa := by
 rw [vfyS, e]
 simp only [sigC, slG, sgK, sgDg, List.getElem?_cons_succ, List.getElem?_cons_zero]
 rw [unDgs_dgL h.ho, unDgs_dgL h.hc, unDgs_dgL h.hp]
theorem crwVerifyS_ok (l : List Crw) (hl : ∀ c ∈ l, crOk c) (hn : l.length ≤ 1000000000000) (p : Sg) (hf : fOk p.1) (hp : sgT p) : Fn0 Tryz.prog 35 [crwD l, sgV p] (.v (.int .i64 (vfyS l p))) := by
 obtain ⟨k, op, cl, pa, e, h⟩ := hp
 rw [vfyS_eq e h, sgV, sgc, e]
 exact crwVerify_ok l hl hn p.1 hf k op cl pa h
theorem sgT_ok {p : Sg} (hf : fOk p.1) (h : sgT p) : sgOk p := by
 obtain ⟨k, op, cl, pa, e, _⟩ := h
 refine ⟨hf, by rw [e]; rfl, fun d hd => ?_⟩
 rw [e] at hd
 exact sigC_one hd
theorem pla_okD {r : R2} (h1 : isI r.1) (h2 : isI r.2) : OkD Tryz.τ 3 154 [.v (.int .i64 r.1), .v (.int .i64 r.2)] := by
 have h : ∀ i, isI ((fun i => if i = 55 then r.1 else if i = 56 then r.2 else 0 : Nat → Int) i) := fun i => by
  dsimp only
  split
  ·exact h1
  ·split
   ·exact h2
   ·exact isI0
 exact fit_ok h 3 154 55 fit120
theorem pla_lits (a b : R2) : decide (a = b) = true ↔ litsD [.v (.int .i64 a.1), .v (.int .i64 a.2)] = litsD [.v (.int .i64 b.1), .v (.int .i64 b.2)] := by
 rw [decide_eq_true_iff]
 constructor
 ·rintro rfl; rfl
 ·intro h
  simp [litsD, litD] at h
  exact Prod.ext h.1 h.2
theorem Tryz.gdPl : Tryz.prog.eqGuardType Tryz.prog.depth 154 = false := by kernel_rfl
theorem stPl : (match Tryz.prog.underlying 154 with | some (.struct _) | some (.array _ _) => true | _ => false) = true := by rw [Tryz.underlying154]
def fkE (l : List Crw) (q : Sg × Sg) : Int :=
 if vfyS l q.1 ≠ 0 then vfyS l q.1 else if vfyS l q.2 ≠ 0 then vfyS l q.2 else if refS q.1 = refS q.2 ∧ cmpF q.1.1 q.2.1 < 0 then 0 else 130
theorem setL_122 (Z A B : List AV) (hZ : Z.length = 122) (hA : A.length = 61) (hB : B.length = 61) : setL (setL Z 0 A) 61 B = A ++ B := by
 rw [setL_mid A Z 0 (by omega), setL_mid _ _ _ (by simp; omega)]
 simp only [List.take_zero, List.nil_append, Nat.zero_add, hA, hB]
 rw [List.take_left' hA, List.drop_of_length_le (by simp; omega), List.append_nil]
abbrev fkSt (l : List Crw) (q : Sg × Sg) (i : Nat) (e : Int) : St :=
 mkS 43 [(0, .d (crwD l)), (3, .ptr 3 0), (4, .d (.v (.int .i64 e))), (11, .row 500), (12, .d (.v (.int .i64 2))), (13, .d (.v (.int .i64 i)))] [(3, .cells 90 ((fkc q).map .d)), (500, .row 70 61 2 ((fkc q).map .d))]
set_option maxRecDepth 10000 in
set_option maxHeartbeats 4000000 in
theorem fork_ok (l : List Crw) (hl : ∀ c ∈ l, crOk c) (hn : l.length ≤ 1000000000000) (q : Sg × Sg) (hf1 : fOk q.1.1) (hf2 : fOk q.2.1) (h1 : sgT q.1) (h2 : sgT q.2) :
  Fn0 Tryz.prog 42 [crwD l, .agg (fkc q)] (.v (.int .i64 (fkE l q))) := by
 have ho1 := sgT_ok hf1 h1
 have ho2 := sgT_ok hf2 h2
 have hv1 := crwVerifyS_ok l hl hn q.1 hf1 h1
 have hv2 := crwVerifyS_ok l hl hn q.2 hf2 h2
 have hlen := fkc_len ho1 ho2
 have hone := fkc_one ho1 ho2
 have l1 := sgc_len ho1
 have l2 := sgc_len ho2
 have a1 : List.take 61 ((fkc q).map AV.d) = (sgc q.1).map .d := by rw [fkc, List.map_append, List.take_left' (by simp [l1])]
 have a2 : List.take 61 (List.drop 61 ((fkc q).map AV.d)) = (sgc q.2).map .d := by
  rw [fkc, List.map_append, List.drop_left' (by simp [l1]), List.take_of_length_le (by simp [l2])]
 have s1 := sgc_oneD ho1
 have s2 := sgc_oneD ho2
 refine Fun.of_wp (pn := noPn) Tryz.tab Tryz.func42 rfl fun β0 => ?_
 simp only [Tryz.f42]
 have b12 : List.map AV.d (sgc q.1) ++ List.map AV.d (sgc q.2) = (fkc q).map .d := by rw [fkc, List.map_append]
 have l1t : List.take 61 ((sgc q.1).map AV.d) = (sgc q.1).map .d := List.take_of_length_le (by simp [l1])
 have l2t : List.take 61 ((sgc q.2).map AV.d) = (sgc q.2).map .d := List.take_of_length_le (by simp [l2])
 repeat(first|apply wG|(apply wR;simp -dsimp [hlen, crwD, a1, a2, l1, l2, setL_122, setL_length, b12])|refine aI ?_)
 repeat(first|apply wG|(apply wR;simp -dsimp [l1, l2])|refine aI ?_)
 refine WP.loopWk (fun k S => ∃ i : Nat, k = 2 - i ∧ i ≤ 2 ∧ ((0 < i → vfyS l q.1 = 0) ∧ (1 < i → vfyS l q.2 = 0)) ∧ S = fkSt l q i 0) 2 (S0 := fkSt l q 0 0) (Wk.go [] 11 500 (by decide) (by simp [crwD]) (by simp [crwD]) (by simp)) ⟨0, rfl, by omega, ⟨fun h => by omega, fun h => by omega⟩, rfl⟩ ?_
 rintro _ _ ⟨i, rfl, hi, ⟨hz1, hz2⟩, rfl⟩
 simp -dsimp [crwD]
 repeat(first|apply wG|(apply wR;simp -dsimp)|refine aI ?_)
 by_cases hi2 : i < 2
 ·refine cT (by simp; omega) ?_
  refine WP.skip ?_
  have hi' : i = 0 ∨ i = 1 := by omega
  rcases hi' with rfl | rfl
  ·simp -dsimp
   repeat(first|apply wG|(apply wR;simp -dsimp [a1, hlen, setL_length, setL_whole, l1, l1t])|refine aI ?_)
   refine vcStop.call0L Tryz.body35 hv1 rfl rfl (And.intro (by simp [crwD]) (And.intro (by simp [l1t]; try exact Leq.aggD _) trivial)) ?_
   simp -dsimp
   repeat(first|apply wG|(apply wR;simp -dsimp)|refine aI ?_)
   by_cases hz : vfyS l q.1 = 0
   ·refine cF (by simp [hz]) ?_
    refine WP.skip ?_
    simp -dsimp
    repeat(first|apply wG|(apply wR;simp -dsimp)|refine aI ?_)
    refine loopW.next (fkSt l q 1 0) (Wk.lessE [6] (by simp [crwD, wrS, hz]) (by simp)) 1 (by omega) ⟨1, rfl, by omega, ⟨fun _ => hz, fun h => by omega⟩, rfl⟩
   ·refine cT (by simp [hz]) ?_
    repeat(first|apply wG|(apply wR;simp -dsimp)|refine aI ?_)
    refine WP.ret (finQ.retE ?_)
    simp -dsimp [fkE, hz]
  ·simp -dsimp
   repeat(first|apply wG|(apply wR;simp -dsimp [a2, hlen, setL_length, setL_whole, l2, l2t])|refine aI ?_)
   refine vcStop.call0L Tryz.body35 hv2 rfl rfl (And.intro (by simp [crwD]) (And.intro (by simp [l2t]; try exact Leq.aggD _) trivial)) ?_
   simp -dsimp
   repeat(first|apply wG|(apply wR;simp -dsimp)|refine aI ?_)
   by_cases hz : vfyS l q.2 = 0
   ·refine cF (by simp [hz]) ?_
    refine WP.skip ?_
    simp -dsimp
    repeat(first|apply wG|(apply wR;simp -dsimp)|refine aI ?_)
    refine loopW.next (fkSt l q 2 0) (Wk.lessE [6] (by simp [crwD, wrS, hz]) (by simp)) 0 (by omega) ⟨2, rfl, by omega, ⟨fun _ => hz1 (by omega), fun _ => hz⟩, rfl⟩
   ·refine cT (by simp [hz]) ?_
    repeat(first|apply wG|(apply wR;simp -dsimp)|refine aI ?_)
    refine WP.ret (finQ.retE ?_)
    simp -dsimp [fkE, hz1 (by omega), hz]
 ·refine cF (by simp; omega) ?_
  refine WP.exit ?_
  obtain rfl : i = 2 := by omega
  have z1 := hz1 (by omega)
  have z2 := hz2 (by omega)
  simp -dsimp
  have c1 : List.take 57 ((fkc q).map AV.d) = (fcs q.1.1 0 57).map .d := by
   rw [fkc, List.map_append, List.take_append_of_le_length (by simp [l1]), sgc_57]
  have c2 : List.take 57 (List.drop 61 ((fkc q).map AV.d)) = (fcs q.2.1 0 57).map .d := by
   rw [fkc, List.map_append, List.drop_left' (by simp [l1]), sgc_57]
  have hcm := factsCompare_ok q.1.1 q.2.1 hf1 hf2
  have hp1 := placeOf_ok q.1.1
  have hp2 := placeOf_ok q.2.1
  have hfk : fkE l q = if refS q.1 = refS q.2 ∧ cmpF q.1.1 q.2.1 < 0 then 0 else 130 := by
   rw [fkE, if_neg (by simp [z1]), if_neg (by simp [z2])]
  rw [hfk]
  repeat(first|apply wG|(apply wR;simp -dsimp [c1, c2, hlen])|refine aI ?_)
  refine vcStop.call0L Tryz.body93 hp1 rfl rfl (And.intro (by simp [c1, fD]; try exact Leq.aggD _) trivial) ?_
  simp -dsimp
  repeat(first|apply wG|(apply wR;simp -dsimp [c1, c2, hlen])|refine aI ?_)
  refine vcStop.call0L Tryz.body93 hp2 rfl rfl (And.intro (by simp [c2, fD]; try exact Leq.aggD _) trivial) ?_
  simp -dsimp
  repeat(first|apply wG|(apply wR;simp -dsimp [c1, c2, hlen])|refine aI ?_)
  refine vcStop.eqS Tryz.tab gokP noarrP rfl (.inr rfl) (m := 5) (by omega) Tryz.key120 (by decide) Tryz.gdPl stPl (cs := [.v (.int .i64 (q.1.1 0)), .v (.int .i64 (q.1.1 1))]) (es := [.v (.int .i64 (q.2.1 0)), .v (.int .i64 (q.2.1 1))]) (.refl _) (.refl _) (pla_okD (r := (q.1.1 0, q.1.1 1)) (hf1.1 0) (hf1.1 1)) (pla_okD (r := (q.2.1 0, q.2.1 1)) (hf2.1 0) (hf2.1 1)) (pla_lits (q.1.1 0, q.1.1 1) (q.2.1 0, q.2.1 1)) ?_
  by_cases ha : q.1.1 0 = q.2.1 0
  ·by_cases hb : q.1.1 1 = q.2.1 1
   ·have hrr : refS q.1 = refS q.2 := by simp only [refS, refF, ha, hb]
    simp -dsimp [eqRes, ha, hb]
    repeat(first|apply wG|(apply wR;simp -dsimp [c1, c2, hlen])|refine aI ?_)
    refine vcStopG.call0L Tryz.body39 (fun _ => hcm) rfl (fun _ => rfl) (fun _ => And.intro (by simp [c1, fD]; try exact Leq.aggD _) (And.intro (by simp [c2, fD]; try exact Leq.aggD _) trivial)) ?_
    simp -dsimp
    repeat(first|apply wG|(apply wR;simp -dsimp)|refine aI ?_)
    by_cases hc : cmpF q.1.1 q.2.1 < 0
    ·rw [if_pos ⟨hrr, hc⟩]
     refine cF (by simp; omega) ?_
     refine WP.skip ?_
     simp -dsimp
     repeat(first|apply wG|(apply wR;simp -dsimp)|refine aI ?_)
     refine WP.ret (finQ.retE ?_)
     simp -dsimp
    ·rw [if_neg fun h => hc h.2]
     refine cT (by simp; omega) ?_
     repeat(first|apply wG|(apply wR;simp -dsimp)|refine aI ?_)
     refine WP.ret (finQ.retE ?_)
     simp -dsimp
   ·simp -dsimp [eqRes, hb]
    repeat(first|apply wG|(apply wR;simp -dsimp [c1, c2, hlen])|refine aI ?_)
    refine vcStopG.skip (.d (.v (.int .i64 0))) ?_
    simp -dsimp
    repeat(first|apply wG|(apply wR;simp -dsimp)|refine aI ?_)
    refine cT (by simp) ?_
    repeat(first|apply wG|(apply wR;simp -dsimp)|refine aI ?_)
    rw [if_neg fun h => hb (by have := h.1; simp only [refS, refF, Prod.mk.injEq] at this; exact this.2)]
    refine WP.ret (finQ.retE ?_)
    simp -dsimp
  ·simp -dsimp [eqRes, ha]
   repeat(first|apply wG|(apply wR;simp -dsimp [c1, c2, hlen])|refine aI ?_)
   refine vcStopG.skip (.d (.v (.int .i64 0))) ?_
   simp -dsimp
   repeat(first|apply wG|(apply wR;simp -dsimp)|refine aI ?_)
   refine cT (by simp) ?_
   repeat(first|apply wG|(apply wR;simp -dsimp)|refine aI ?_)
   rw [if_neg fun h => ha (by have := h.1; simp only [refS, refF, Prod.mk.injEq] at this; exact this.1)]
   refine WP.ret (finQ.retE ?_)
   simp -dsimp
def shrtT (p : Sg) : Bool := match p.2 with
 | [_, .sl _ _ n1 _, .sl _ _ n2 _, .sl _ _ n3 _] => decide (n1 ≤ 100) && (decide (n2 ≤ 100) && decide (n3 ≤ 20))
 | _ => false
def sgU (p : Sg) : Prop := ∃ k op cl pa, p.2 = sigC k op cl pa ∧ isI k ∧ all32 op ∧ all32 cl ∧ all32 pa
theorem sgU_T {p : Sg} (h : sgU p) (hs : shrtT p = true) : sgT p := by
 obtain ⟨k, op, cl, pa, e, h, h1, h2, h3⟩ := h
 have hh : shrtT p = (decide (op.length ≤ 100) && (decide (cl.length ≤ 100) && decide (pa.length ≤ 20))) := by rw [shrtT, e]; rfl
 rw [hh] at hs
 simp only [Bool.and_eq_true, decide_eq_true_eq] at hs
 exact ⟨k, op, cl, pa, e, h, h1, h2, h3, by omega, by omega, by omega⟩
end Go.Proofs.YtnljenjcaeophaaGreatDoor
