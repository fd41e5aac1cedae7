/-
  Joined texts.
-/
import Derived.Test.YtnljenjcaeophaaGreatDoorKM
import Derived.Test.YtnljenjcaeophaaGreatDoorKAB
import Derived.Test.YtnljenjcaeophaaGreatDoorKC
set_option maxRecDepth 10000
set_option maxHeartbeats 4000000
set_option linter.unusedVariables false
set_option linter.unusedSimpArgs false
set_option linter.unusedSectionVars false
namespace Go.Proofs.YtnljenjcaeophaaGreatDoor
open Go.Xe Go.RowKit
def vfyL (l : List Crw) : List Sg → Int
 | [] => 0
 | p :: x => if vfyS l p = 0 then vfyL l x else vfyS l p
def verL (l : List Crw) (x : List Sg) : Int := if crB l = true then vfyL l x else 130
def ascB : List Sg → Bool
 | [] => true
 | [_] => true
 | a :: b :: l => decide (cmpF a.1 b.1 < 0) && ascB (b :: l)
def lchk (l : List Crw) (x : List Sg) : Int :=
 if crB l = true then
  if 65536 < x.length then 2
  else if verL l x = 0 then (if ascB x = true then 0 else 140) else verL l x
 else 130
theorem vfyL_iff (l : List Crw) : ∀ x : List Sg, vfyL l x = 0 ↔ ∀ p ∈ x, vfyS l p = 0
 | [] => by simp [vfyL]
 | p :: x => by
  rw [vfyL]
  by_cases h : vfyS l p = 0
  ·rw [if_pos h, vfyL_iff l x]
   simp [h]
  ·rw [if_neg h]
   simp [h]
theorem lchk_all {l : List Crw} {x : List Sg} (h : lchk l x = 0) : crB l = true ∧ x.length ≤ 65536 ∧ (∀ p ∈ x, vfyS l p = 0) ∧ ascB x = true := by
 unfold lchk at h
 split at h
 ·rename_i h1
  split at h
  ·cases h
  ·rename_i h2
   split at h
   ·rename_i h3
    rw [verL, if_pos h1, vfyL_iff] at h3
    split at h
    ·rename_i h4
     exact ⟨h1, by omega, h3, h4⟩
    ·cases h
   ·rename_i h3
    exact absurd h h3
 ·cases h
theorem fk_yes {l : List Crw} {q : Sg × Sg} (h1 : vfyS l q.1 = 0) (h2 : vfyS l q.2 = 0) (hr : refS q.1 = refS q.2) (hc : cmpF q.1.1 q.2.1 < 0) : fkE l q = 0 := by
 rw [fkE, if_neg (fun h => h h1), if_neg (fun h => h h2), if_pos ⟨hr, hc⟩]
theorem fnd_fork {l : List Crw} {a b : List Sg} (ha : ∀ p ∈ a, fOk p.1) (hb : ∀ p ∈ b, fOk p.1) (ka : lchk l a = 0) (kb : lchk l b = 0) {r : R2} {q : Sg × Sg} (h : fndO a b r = some q) : fkE l q = 0 := by
 have hv : ∀ p ∈ a ++ b, vfyS l p = 0 := fun p hp => by
  rcases List.mem_append.1 hp with h | h
  ·exact (lchk_all ka).2.2.1 p h
  ·exact (lchk_all kb).2.2.1 p h
 have hf : ∀ p ∈ a ++ b, fOk p.1 := fun p hp => by
  rcases List.mem_append.1 hp with h | h
  ·exact ha p h
  ·exact hb p h
 obtain ⟨q1, q2⟩ := q
 obtain ⟨h1, h2, h3, h4, h5⟩ := two_ok hf h
 exact fk_yes (hv q1 (fstO_in h1)) (hv q2 (fstO_in h2)) (h3.trans h4.symm) h5
theorem lcmp_ok (p q : Sg) (hp : sgOk p) (hq : sgOk q) : Fn0 Tryz.prog 59 [sgV p, sgV q] (.v (.int .i64 (cmpF p.1 q.1))) := by
 have h1 := sgc_57 p
 have h2 := sgc_57 q
 have l1 := sgc_len hp
 have l2 := sgc_len hq
 have hc := factsCompare_ok p.1 q.1 hp.1 hq.1
 refine Fun.of_wp (pn := noPn) Tryz.tab Tryz.func59 rfl fun β0 => ?_
 simp only [Tryz.f59]
 simp only [sgV]
 repeat(first|apply wG|(apply wR;simp -dsimp [h1, h2, l1, l2])|refine aI ?_)
 refine And.intro (sgc_oneD hp) ?_
 refine And.intro (sgc_oneD hq) ?_
 repeat(first|apply wG|(apply wR;simp -dsimp [h1, h2, l1, l2])|refine aI ?_)
 refine vcStop.call0 Tryz.body39 hc rfl rfl (by simp [fD]) ?_
 simp -dsimp
 repeat(first|apply wG|(apply wR;simp -dsimp)|refine aI ?_)
 refine WP.ret (finQ.retE ?_)
 simp -dsimp
abbrev vlS (l : List Crw) (x : List Sg) (b : Bool) (i : Nat) : St := mkS 27 [(0, .d (crwD l)), (14, .d (sgD x b)), (15, .d (.v (.int .i64 x.length))), (16, .d (.v (.int .i64 i)))] []
theorem verifyL_ok (l : List Crw) (hl : ∀ c ∈ l, crOk c) (hn : l.length ≤ 1000000000000) (x : List Sg) (b : Bool) (hx : ∀ p ∈ x, fOk p.1 ∧ sgT p) (hxn : x.length ≤ 1000000000000) : Fn0 Tryz.prog 57 [crwD l, sgD x b] (.v (.int .i64 (verL l x))) := by
 have h53 := crewsCheck_ok l hl hn
 refine Fun.of_wp (pn := noPn) Tryz.tab Tryz.func57 rfl fun β0 => ?_
 simp only [Tryz.f57]
 repeat(first|apply wG|(apply wR;simp -dsimp [crwD])|refine aI ?_)
 refine vcStop.call0 Tryz.body33 h53 rfl rfl (by simp [crwD]) ?_
 simp -dsimp
 repeat(first|apply wG|(apply wR;simp -dsimp)|refine aI ?_)
 rw [verL]
 by_cases hc : crB l = true
 ·rw [if_pos hc]
  refine cF (by simp [hc]) ?_
  refine WP.skip ?_
  simp -dsimp
  repeat(first|apply wG|(apply wR;simp -dsimp)|refine aI ?_)
  refine WP.loopWk (fun m S => ∃ x1 x2, x = x1 ++ x2 ∧ m = x2.length ∧ vfyL l x = vfyL l x2 ∧ S = vlS l x b x1.length) x.length (S0 := vlS l x b 0) (Wk.lessE [] (by simp [crwD]) (by simp)) ⟨[], x, rfl, rfl, rfl, rfl⟩ ?_
  rintro _ _ ⟨x1, x2, hx12, rfl, hv, rfl⟩
  simp -dsimp [crwD]
  repeat(first|apply wG|(apply wR;simp -dsimp)|refine aI ?_)
  rw [hv]
  cases x2 with
  | nil =>
   simp only [List.append_nil] at hx12
   subst hx12
   refine cF (by simp) ?_
   refine WP.exit ?_
   simp -dsimp
   repeat(first|apply wG|(apply wR;simp -dsimp)|refine aI ?_)
   refine WP.ret (finQ.retE ?_)
   simp -dsimp [vfyL]
  | cons p x2 =>
   have hll : x.length = x1.length + (x2.length + 1) := by rw [hx12]; simp
   have hlt : x1.length < x.length := by omega
   have hp := hx p (by rw [hx12]; simp)
   have hpo := sgT_ok hp.1 hp.2
   have hxo : ∀ q ∈ x, sgOk q := fun q hq => sgT_ok (hx q hq).1 (hx q hq).2
   have hat := sgc_at hlt hxo
   have hpe : x[x1.length] = p := by simp [hx12]
   rw [hpe] at hat
   have lc := sgC_len hxo
   have lp := sgc_len hpo
   have tp := sgc_t hpo
   have tm := sgc_tm hpo
   have hver := crwVerifyS_ok l hl hn p hp.1 hp.2
   have e1 : IntKind.i64.wrap ((x1.length : Int) + 1) = (x1.length : Int) + 1 := IntWalk.i64_in _ (by omega)
   refine cT (by simp; omega) ?_
   refine WP.skip ?_
   simp -dsimp
   repeat(first|apply wG|(apply wR;simp -dsimp [hat, lp, tp, tm])|refine aI ?_)
   refine And.intro (fun a h => sgc_oneD hpo a h) ?_
   repeat(first|apply wG|(apply wR;simp -dsimp [lp, tp, tm])|refine aI ?_)
   refine vcStop.call0L Tryz.body35 hver rfl rfl (And.intro (by simp [crwD]) (And.intro (by simp [tm]; try exact Leq.aggD _) trivial)) ?_
   simp -dsimp
   repeat(first|apply wG|(apply wR;simp -dsimp)|refine aI ?_)
   rw [vfyL]
   by_cases hz : vfyS l p = 0
   ·rw [if_pos hz]
    refine cF (by simp [hz]) ?_
    refine WP.skip ?_
    simp -dsimp
    repeat(first|apply wG|(apply wR;simp -dsimp)|refine aI ?_)
    refine loopW.next (vlS l x b (x1 ++ [p]).length) (Wk.lessE [] (by simp [crwD, e1]) (by simp)) x2.length (by simp) ⟨x1 ++ [p], x2, by simp [hx12], rfl, by first | rfl | simp [vfyL, hz], rfl⟩
   ·rw [if_neg hz]
    refine cT (by simp [hz]) ?_
    repeat(first|apply wG|(apply wR;simp -dsimp)|refine aI ?_)
    refine WP.ret (finQ.retE ?_)
    simp -dsimp
 ·rw [if_neg hc]
  refine cT (by simp [hc]) ?_
  repeat(first|apply wG|(apply wR;simp -dsimp)|refine aI ?_)
  refine WP.ret (finQ.retE ?_)
  simp -dsimp [hc]
theorem ascB_at {x : List Sg} {i : Nat} (h1 : 1 ≤ i) (h : i < x.length) : ascB (x.drop (i - 1)) = (decide (cmpF (x[i - 1]'(by omega)).1 x[i].1 < 0) && ascB (x.drop i)) := by
 rw [List.drop_eq_getElem_cons (by omega : i - 1 < x.length), show i - 1 + 1 = i by omega, List.drop_eq_getElem_cons h, ascB]
theorem ascB_short {x : List Sg} {i : Nat} (h : x.length ≤ i) : ascB (x.drop (i - 1)) = true := by
 cases e : x.drop (i - 1) with
 | nil => rfl
 | cons a l =>
  have hl := congrArg List.length e
  rw [List.length_drop, List.length_cons] at hl
  have : l = [] := List.eq_nil_of_length_eq_zero (by omega)
  subst this
  rfl
abbrev lcS (x : List Sg) (b : Bool) (i : Nat) : St := mkS 44 [(3, .ptr 3 0), (7, .d (.v (.int .i64 i)))] [(3, .cells 25 [.d (sgD x b)])]
theorem ledgerCheck_ok (l : List Crw) (hl : ∀ c ∈ l, crOk c) (hn : l.length ≤ 1000000000000) (x : List Sg) (b : Bool) (hx : ∀ p ∈ x, fOk p.1 ∧ sgT p) (hxn : x.length ≤ 1000000000000) : Fn0 Tryz.prog 21 [crwD l, lgD x b] (.v (.int .i64 (lchk l x))) := by
 have h53 := crewsCheck_ok l hl hn
 have h54 := verifyL_ok l hl hn x b hx hxn
 have w1 : IntKind.i64.wrap 1 = 1 := by decide
 refine Fun.of_wp (pn := noPn) Tryz.tab Tryz.func21 rfl fun β0 => ?_
 simp only [Tryz.f21]
 repeat(first|apply wG|(apply wR;simp -dsimp [crwD])|refine aI ?_)
 refine vcStop.call0 Tryz.body33 h53 rfl rfl (by simp [crwD]) ?_
 simp -dsimp
 repeat(first|apply wG|(apply wR;simp -dsimp)|refine aI ?_)
 rw [lchk]
 by_cases hc : crB l = true
 ·rw [if_pos hc]
  refine cF (by simp [hc]) ?_
  refine WP.skip ?_
  simp -dsimp
  repeat(first|apply wG|(apply wR;simp -dsimp)|refine aI ?_)
  by_cases hb : 65536 < x.length
  ·rw [if_pos hb]
   refine cT (by simp; omega) ?_
   repeat(first|apply wG|(apply wR;simp -dsimp)|refine aI ?_)
   refine WP.ret (finQ.retE ?_)
   simp -dsimp
  ·rw [if_neg hb]
   refine cF (by simp; omega) ?_
   refine WP.skip ?_
   simp -dsimp
   repeat(first|apply wG|(apply wR;simp -dsimp [crwD])|refine aI ?_)
   refine vcStop.call0L Tryz.body57 h54 rfl rfl (And.intro (by simp [crwD]) (And.intro (.refl _) trivial)) ?_
   simp -dsimp
   repeat(first|apply wG|(apply wR;simp -dsimp)|refine aI ?_)
   by_cases hv : verL l x = 0
   ·rw [if_pos hv]
    refine cF (by simp [hv]) ?_
    refine WP.skip ?_
    simp -dsimp
    repeat(first|apply wG|(apply wR;simp -dsimp)|refine aI ?_)
    refine WP.loopWk (fun m S => ∃ i : Nat, 1 ≤ i ∧ m = x.length - i ∧ i ≤ max 1 x.length ∧ ascB x = ascB (x.drop (i - 1)) ∧ S = lcS x b i) (x.length - 1) (S0 := lcS x b 1) (Wk.lessE [] (by simp) (by simp)) ⟨1, Nat.le_refl _, rfl, by omega, rfl, rfl⟩ ?_
    rintro _ _ ⟨i, hi1, rfl, hi2, ha, rfl⟩
    rw [ha]
    simp -dsimp
    repeat(first|apply wG|(apply wR;simp -dsimp)|refine aI ?_)
    by_cases hil : i < x.length
    ·have hxo : ∀ q ∈ x, sgOk q := fun q hq => sgT_ok (hx q hq).1 (hx q hq).2
     have has := ascB_at hi1 hil
     have a0 := sgc_at (i := i - 1) (by omega) hxo
     have a1 := sgc_at hil hxo
     have o0 := hxo _ (List.getElem_mem (by omega : i - 1 < x.length))
     have o1 := hxo _ (List.getElem_mem hil)
     generalize x[i - 1]'(by omega) = p at *
     generalize x[i] = q at *
     have lc := sgC_len hxo
     have lp := sgc_len o0
     have lq := sgc_len o1
     have tp := sgc_t o0
     have tq := sgc_t o1
     have mp := sgc_tm o0
     have mq := sgc_tm o1
     have e1 : IntKind.i64.wrap ((i : Int) + 1) = ((i + 1 : Nat) : Int) := by rw [IntWalk.i64_in _ (by omega)]; omega
     have e2 : IntKind.i64.wrap ((i : Int) - 1) = ((i - 1 : Nat) : Int) := by rw [IntWalk.i64_in _ (by omega)]; omega
     have hcm := lcmp_ok p q o0 o1
     refine cT (by simp; omega) ?_
     refine WP.skip ?_
     simp -dsimp
     repeat(first|apply wG|(apply wR;simp -dsimp [e2, a0, a1, tp, tq, lp, lq])|refine aI ?_)
     refine vcStop.call0L Tryz.body59 hcm rfl rfl (And.intro (by simp [mp, tp, sgV]; try exact Leq.aggD _) (And.intro (by simp [mq, tq, sgV]; try exact Leq.aggD _) trivial)) ?_
     simp -dsimp
     repeat(first|apply wG|(apply wR;simp -dsimp)|refine aI ?_)
     rw [has]
     by_cases hz : cmpF p.1 q.1 < 0
     ·refine cF (by simp; omega) ?_
      refine WP.skip ?_
      simp -dsimp
      repeat(first|apply wG|(apply wR;simp -dsimp)|refine aI ?_)
      have hd : decide (cmpF p.1 q.1 < 0) = true := decide_eq_true hz
      refine loopW.next (lcS x b (i + 1)) (Wk.lessE [] (by simp [e1]) (by simp)) (x.length - (i + 1)) (by omega) ⟨i + 1, by omega, rfl, by omega, by rw [hd]; simp, rfl⟩
     ·have hd : decide (cmpF p.1 q.1 < 0) = false := decide_eq_false hz
      refine cT (by simp; omega) ?_
      repeat(first|apply wG|(apply wR;simp -dsimp)|refine aI ?_)
      refine WP.ret (finQ.retE ?_)
      simp -dsimp [hd]
    ·rw [ascB_short (by omega)]
     refine cF (by simp; omega) ?_
     refine WP.exit ?_
     simp -dsimp
     repeat(first|apply wG|(apply wR;simp -dsimp)|refine aI ?_)
     refine WP.ret (finQ.retE ?_)
     simp -dsimp
   ·rw [if_neg hv]
    refine cT (by simp [hv]) ?_
    repeat(first|apply wG|(apply wR;simp -dsimp)|refine aI ?_)
    refine WP.ret (finQ.retE ?_)
    simp -dsimp
 ·rw [if_neg hc]
  refine cT (by simp [hc]) ?_
  repeat(first|apply wG|(apply wR;simp -dsimp)|refine aI ?_)
  refine WP.ret (finQ.retE ?_)
  simp -dsimp [hc]
end Go.Proofs.YtnljenjcaeophaaGreatDoor
