/-
  Joined texts.
-/
import Derived.Test.YtnljenjcaeophaaGreatDoorTC
import Derived.Test.YtnljenjcaeophaaGreatDoorTG
import Derived.Test.YtnljenjcaeophaaGreatDoorTH
import Derived.Test.YtnljenjcaeophaaGreatDoorTTP
import Derived.Test.YtnljenjcaeophaaGreatDoorTOA
import Derived.Test.YtnljenjcaeophaaGreatDoorTYE
import Derived.Test.YtnljenjcaeophaaGreatDoorTTJ
import Derived.Test.YtnljenjcaeophaaGreatDoorTKT
set_option maxRecDepth 10000
set_option maxHeartbeats 4000000
set_option linter.unusedVariables false
set_option linter.unusedSimpArgs false
set_option linter.unusedSectionVars false
namespace Go.Proofs.YtnljenjcaeophaaGreatDoor
open Go.Xe Go.RowKit
theorem refCmp_eq {f g : F} (hf : fOk f) (hg : fOk g) : refCmp f g = cmpF f g := by rw [refCmp, cmpF, enc_ref hf, enc_ref hg]
abbrev vdS (l : List Crw) (x : List Sg) (b : Bool) (i : Nat) : St := mkS 22 [(0, .d (crwD l)), (1, .d (sgD x b)), (5, .d (.v (.int .i64 i)))] []
theorem refVerified_ok (l : List Crw) (hl : ∀ c ∈ l, crOk c) (hn : l.length ≤ 1000000000000) (x : List Sg) (b : Bool) (hx : ∀ p ∈ x, fOk p.1 ∧ sgT p) (hxn : x.length ≤ 1000000000000) : Fn0 Tryz.prog 60 [crwD l, sgD x b] (.v (.int .i64 (vfyL l x))) := by
 refine Fun.of_wp (pn := noPn) Tryz.tab Tryz.func60 rfl fun β0 => ?_
 simp only [Tryz.f60]
 repeat(first|apply wG|(apply wR;simp -dsimp [crwD])|refine aI ?_)
 refine WP.loopWk (fun m S => ∃ x1 x2, x = x1 ++ x2 ∧ m = x2.length ∧ vfyL l x = vfyL l x2 ∧ S = vdS l x b x1.length) x.length (S0 := vdS l x b 0) (Wk.lessE [] (by simp [crwD]) (by simp)) ⟨[], x, rfl, rfl, rfl, rfl⟩ ?_
 rintro _ _ ⟨x1, x2, hx12, rfl, hv, rfl⟩
 simp -dsimp [crwD]
 repeat(first|apply wG|(apply wR;simp -dsimp)|refine aI ?_)
 rw [hv]
 cases x2 with
 | nil =>
  simp only [List.append_nil] at hx12
  subst hx12
  refine cF (by simp) ?_
  refine WP.exit ?_
  simp -dsimp
  repeat(first|apply wG|(apply wR;simp -dsimp)|refine aI ?_)
  refine WP.ret (finQ.retE ?_)
  simp -dsimp [vfyL]
 | cons p x2 =>
  have hll : x.length = x1.length + (x2.length + 1) := by rw [hx12]; simp
  have hlt : x1.length < x.length := by omega
  have hp := hx p (by rw [hx12]; simp)
  have hpo := sgT_ok hp.1 hp.2
  have hxo : ∀ q ∈ x, sgOk q := fun q hq => sgT_ok (hx q hq).1 (hx q hq).2
  have hat := sgc_at hlt hxo
  have hpe : x[x1.length] = p := by simp [hx12]
  rw [hpe] at hat
  have lc := sgC_len hxo
  have lp := sgc_len hpo
  have tp := sgc_t hpo
  have tm := sgc_tm hpo
  have hver := refVerifyS_ok l hl hn p hp.1 hp.2
  have e1 : IntKind.i64.wrap ((x1.length : Int) + 1) = (x1.length : Int) + 1 := IntWalk.i64_in _ (by omega)
  refine cT (by simp; omega) ?_
  refine WP.skip ?_
  simp -dsimp
  repeat(first|apply wG|(apply wR;simp -dsimp [hat, lp, tp, tm])|refine aI ?_)
  refine vcStop.call0L Tryz.body36 hver rfl rfl (And.intro (by simp [crwD]) (And.intro (by simp [tm, tp, sgV]; try exact Leq.aggD _) trivial)) ?_
  simp -dsimp
  repeat(first|apply wG|(apply wR;simp -dsimp)|refine aI ?_)
  rw [vfyL]
  by_cases hz : vfyS l p = 0
  ·rw [if_pos hz]
   refine cF (by simp [hz]) ?_
   refine WP.skip ?_
   simp -dsimp
   repeat(first|apply wG|(apply wR;simp -dsimp)|refine aI ?_)
   refine loopW.next (vdS l x b (x1 ++ [p]).length) (Wk.lessE [] (by simp [crwD, e1]) (by simp)) x2.length (by simp) ⟨x1 ++ [p], x2, by simp [hx12], rfl, by first | rfl | simp [vfyL, hz], rfl⟩
  ·rw [if_neg hz]
   refine cT (by simp [hz]) ?_
   repeat(first|apply wG|(apply wR;simp -dsimp)|refine aI ?_)
   refine WP.ret (finQ.retE ?_)
   simp -dsimp
abbrev orS (x : List Sg) (b : Bool) (i : Nat) : St := mkS 23 [(0, .d (sgD x b)), (3, .d (.v (.int .i64 i)))] []
theorem refOrdered_ok (x : List Sg) (b : Bool) (hxo : ∀ q ∈ x, sgOk q) (hxn : x.length ≤ 1000000000000) : Fn0 Tryz.prog 63 [sgD x b] (.v (.bool (ascB x))) := by
 have w1 : IntKind.i64.wrap 1 = 1 := by decide
 refine Fun.of_wp (pn := noPn) Tryz.tab Tryz.func63 rfl fun β0 => ?_
 simp only [Tryz.f63]
 repeat(first|apply wG|(apply wR;simp -dsimp)|refine aI ?_)
 refine WP.loopWk (fun m S => ∃ i : Nat, 1 ≤ i ∧ m = x.length - i ∧ i ≤ max 1 x.length ∧ ascB x = ascB (x.drop (i - 1)) ∧ S = orS x b i) (x.length - 1) (S0 := orS x b 1) (Wk.lessE [] (by simp) (by simp)) ⟨1, Nat.le_refl _, rfl, by omega, rfl, rfl⟩ ?_
 rintro _ _ ⟨i, hi1, rfl, hi2, ha, rfl⟩
 rw [ha]
 simp -dsimp
 repeat(first|apply wG|(apply wR;simp -dsimp)|refine aI ?_)
 by_cases hil : i < x.length
 ·have has := ascB_at hi1 hil
  have a0 := sgc_at (i := i - 1) (by omega) hxo
  have a1 := sgc_at hil hxo
  have o0 := hxo _ (List.getElem_mem (by omega : i - 1 < x.length))
  have o1 := hxo _ (List.getElem_mem hil)
  generalize x[i - 1]'(by omega) = p at *
  generalize x[i] = q at *
  have lc := sgC_len hxo
  have lp := sgc_len o0
  have lq := sgc_len o1
  have p57 := sgc_57 p
  have q57 := sgc_57 q
  have p57D := sgc_57D p
  have q57D := sgc_57D q
  have hi0 : i - 1 < x.length := by omega
  have e1 : IntKind.i64.wrap ((i : Int) + 1) = ((i + 1 : Nat) : Int) := by rw [IntWalk.i64_in _ (by omega)]; omega
  have e2 : IntKind.i64.wrap ((i : Int) - 1) = ((i - 1 : Nat) : Int) := by rw [IntWalk.i64_in _ (by omega)]; omega
  have hcm := refCompare_ok p.1 q.1 o0.1 o1.1
  rw [refCmp_eq o0.1 o1.1] at hcm
  refine cT (by simp; omega) ?_
  refine WP.skip ?_
  simp -dsimp
  repeat(first|apply wG|(apply wR;simp -dsimp [e2, a0, a1, p57, q57, p57D, q57D, lp, lq, hi0, hil])|refine aI ?_)
  refine vcStop.call0L Tryz.body105 hcm rfl rfl (And.intro (by simp [fD]; try exact Leq.aggD _) (And.intro (by simp [fD]; try exact Leq.aggD _) trivial)) ?_
  simp -dsimp
  repeat(first|apply wG|(apply wR;simp -dsimp)|refine aI ?_)
  rw [has]
  by_cases hz : cmpF p.1 q.1 < 0
  ·refine cF (by simp; omega) ?_
   refine WP.skip ?_
   simp -dsimp
   repeat(first|apply wG|(apply wR;simp -dsimp)|refine aI ?_)
   have hd : decide (cmpF p.1 q.1 < 0) = true := decide_eq_true hz
   refine loopW.next (orS x b (i + 1)) (Wk.lessE [] (by simp [e1]) (by simp)) (x.length - (i + 1)) (by omega) ⟨i + 1, by omega, rfl, by omega, by rw [hd]; simp, rfl⟩
  ·have hd : decide (cmpF p.1 q.1 < 0) = false := decide_eq_false hz
   refine cT (by simp; omega) ?_
   repeat(first|apply wG|(apply wR;simp -dsimp)|refine aI ?_)
   refine WP.ret (finQ.retE ?_)
   simp -dsimp [hd]
 ·rw [ascB_short (by omega)]
  refine cF (by simp; omega) ?_
  refine WP.exit ?_
  simp -dsimp
  repeat(first|apply wG|(apply wR;simp -dsimp)|refine aI ?_)
  refine WP.ret (finQ.retE ?_)
  simp -dsimp
theorem refCheck14_ok (l : List Crw) (hl : ∀ c ∈ l, crOk c) (hn : l.length ≤ 1000000000000) (x : List Sg) (b : Bool) (hx : ∀ p ∈ x, fOk p.1 ∧ sgT p) (hxn : x.length ≤ 1000000000000) : Fn0 Tryz.prog 22 [crwD l, lgD x b] (.v (.int .i64 (lchk l x))) := by
 have h34 := refCrews_ok l hl hn
 have h60 := refVerified_ok l hl hn x b hx hxn
 have h63 := refOrdered_ok x b (fun q hq => sgT_ok (hx q hq).1 (hx q hq).2) hxn
 refine Fun.of_wp (pn := noPn) Tryz.tab Tryz.func22 rfl fun β0 => ?_
 simp only [Tryz.f22]
 repeat(first|apply wG|(apply wR;simp -dsimp [crwD])|refine aI ?_)
 refine vcStop.call0 Tryz.body34 h34 rfl rfl (by simp [crwD]) ?_
 simp -dsimp
 repeat(first|apply wG|(apply wR;simp -dsimp)|refine aI ?_)
 rw [lchk, verL]
 by_cases hc : crB l = true
 ·rw [if_pos hc, if_pos hc]
  refine cF (by simp [hc]) ?_
  refine WP.skip ?_
  simp -dsimp
  repeat(first|apply wG|(apply wR;simp -dsimp)|refine aI ?_)
  by_cases hb : 65536 < x.length
  ·rw [if_pos hb]
   refine cT (by simp; omega) ?_
   repeat(first|apply wG|(apply wR;simp -dsimp)|refine aI ?_)
   refine WP.ret (finQ.retE ?_)
   simp -dsimp
  ·rw [if_neg hb]
   refine cF (by simp; omega) ?_
   refine WP.skip ?_
   simp -dsimp
   repeat(first|apply wG|(apply wR;simp -dsimp [crwD])|refine aI ?_)
   refine vcStop.call0L Tryz.body60 h60 rfl rfl (And.intro (by simp [crwD]) (And.intro (.refl _) trivial)) ?_
   simp -dsimp
   repeat(first|apply wG|(apply wR;simp -dsimp)|refine aI ?_)
   by_cases hv : vfyL l x = 0
   ·rw [if_pos hv]
    refine cF (by simp [hv]) ?_
    refine WP.skip ?_
    simp -dsimp
    repeat(first|apply wG|(apply wR;simp -dsimp)|refine aI ?_)
    refine vcStop.call0L Tryz.body63 h63 rfl rfl (And.intro (.refl _) trivial) ?_
    simp -dsimp
    repeat(first|apply wG|(apply wR;simp -dsimp)|refine aI ?_)
    cases ha : ascB x with
    | true =>
     refine cF (by simp [ha]) ?_
     refine WP.skip ?_
     simp -dsimp
     repeat(first|apply wG|(apply wR;simp -dsimp)|refine aI ?_)
     refine WP.ret (finQ.retE ?_)
     simp -dsimp
    | false =>
     refine cT (by simp [ha]) ?_
     repeat(first|apply wG|(apply wR;simp -dsimp)|refine aI ?_)
     refine WP.ret (finQ.retE ?_)
     simp -dsimp
   ·rw [if_neg hv]
    refine cT (by simp [hv]) ?_
    repeat(first|apply wG|(apply wR;simp -dsimp)|refine aI ?_)
    refine WP.ret (finQ.retE ?_)
    simp -dsimp
 ·rw [if_neg hc]
  refine cT (by simp [hc]) ?_
  repeat(first|apply wG|(apply wR;simp -dsimp)|refine aI ?_)
  refine WP.ret (finQ.retE ?_)
  simp -dsimp [hc]
theorem insS_split (p : Sg) : ∀ (l1 l2 : List Sg), (∀ s ∈ l1, cmpF s.1 p.1 < 0) → insS p (l1 ++ l2) = l1 ++ insS p l2
 | [], _, _ => rfl
 | s :: l1, l2, h => by
  rw [List.cons_append, insS, if_pos (h s (by simp)), insS_split p l1 l2 fun t ht => h t (by simp [ht])]
  rfl
theorem posS_split (p : Sg) : ∀ (l1 l2 : List Sg), (∀ s ∈ l1, cmpF s.1 p.1 < 0) → posS p (l1 ++ l2) = l1.length + posS p l2
 | [], l2, _ => by simp
 | s :: l1, l2, h => by
  rw [List.cons_append, posS_cons, if_pos (h s (by simp)), posS_split p l1 l2 fun t ht => h t (by simp [ht])]
  simp; omega
theorem isS_split (p : Sg) (l1 l2 : List Sg) (h : ∀ s ∈ l1, cmpF s.1 p.1 < 0) : isS p (l1 ++ l2) = isS p l2 := by
 rw [isS, posS_split p l1 l2 h, List.getElem?_append_right (by omega), Nat.add_sub_cancel_left, isS]
def wthR (x : List Sg) (p : Sg) : D := .tup [sgD (insS p x) false, .v (.bool (!isS p x))]
abbrev wiS (x : List Sg) (p : Sg) (j : Nat) : St := mkS 52 [(0, .d (sgD x false)), (3, .ptr 3 0), (6, .d (.v (.int .i64 j)))] [(3, .cells 70 ((sgc p).map .d))]
theorem with_ok (x : List Sg) (p : Sg) (hx : ∀ q ∈ x, sgOk q) (hp : sgOk p) (vx : ∀ q ∈ x, svOk q) (vp : svOk p) (hn : x.length ≤ 1000) : Fn0 Tryz.prog 61 [sgD x false, sgV p] (wthR x p) := by
 have lp := sgc_len hp
 have h57 := sgc_57 p
 have h57D := sgc_57D p
 have ht := sgc_t hp
 have htm := sgc_tm hp
 have hone := sgc_oneD hp
 have hset : ∀ cs : List AV, cs.length = 61 → setL cs 0 ((sgc p).map AV.d) = (sgc p).map .d := fun cs hc => by
  rw [setL_eq _ _ _ (by rw [List.length_map]; omega), List.take_zero, List.nil_append, List.length_map, List.drop_of_length_le (by omega), List.append_nil]
 refine Fun.of_wp (pn := noPn) Tryz.tab Tryz.func61 rfl fun β0 => ?_
 simp only [Tryz.f61]
 simp only [sgV]
 repeat(first|apply wG|(apply wR;simp -dsimp [lp])|refine aI ?_)
 refine WP.loopWk (fun m Z => ∃ x1 x2, x = x1 ++ x2 ∧ m = x2.length ∧ (∀ s ∈ x1, cmpF s.1 p.1 < 0) ∧ Z = wiS x p x1.length) x.length (S0 := wiS x p 0) (Wk.lessE [] (by simp) (by simp)) ⟨[], x, rfl, rfl, by simp, rfl⟩ ?_
 rintro m _ ⟨x1, x2, hx12, rfl, hbf, rfl⟩
 have hxC := sgC_len hx
 have hxl : x.length = x1.length + x2.length := by rw [hx12]; simp
 simp -dsimp
 have hdrS : List.take ((x.length - x1.length) * 61) (List.drop (x1.length * 61) ((sgC x).map AV.d)) = (sgC x2).map .d := by
  have hk2 : ∀ s ∈ x2, sgOk s := fun s hs => hx s (by rw [hx12]; simp [hs])
  have hk1 : ∀ s ∈ x1, sgOk s := fun s hs => hx s (by rw [hx12]; simp [hs])
  conv => lhs; rw [hx12]
  rw [sgC_append, List.map_append, List.drop_left' (by rw [List.length_map, sgC_len hk1]), List.take_of_length_le (by rw [List.length_map, sgC_len hk2, List.length_append]; omega)]
 have htkS : List.take (x1.length * 61) ((sgC x).map AV.d) = (sgC x1).map .d := by
  have hk1 : ∀ s ∈ x1, sgOk s := fun s hs => hx s (by rw [hx12]; simp [hs])
  conv => lhs; rw [hx12]
  rw [sgC_append, List.map_append, List.take_left' (by rw [List.length_map, sgC_len hk1])]
 have hrc := refCompare_ok p.1 p.1 hp.1 hp.1
 have hrs := refSame_ok p.1 p.1 hp.1 hp.1
 cases x2 with
 | nil =>
  have hil : ¬ x1.length < x.length := by simp at hxl; omega
  have hins : insS p x = x1 ++ [p] := by rw [hx12, insS_split p x1 [] hbf]; rfl
  have his : isS p x = false := by rw [hx12, isS_split p x1 [] hbf]; rfl
  rw [wthR, his]
  repeat(first|apply wG|(apply wR;simp -dsimp [hil])|refine aI ?_)
  refine vcStopG.call0 Tryz.body105 (fun _ => hrc) rfl (fun _ => rfl) (fun h => by simp at h) ?_
  simp -dsimp [hil]
  repeat(first|apply wG|(apply wR;simp -dsimp [hil])|refine aI ?_)
  refine cF (by simp) ?_
  refine WP.exit ?_
  simp -dsimp [hil]
  repeat(first|apply wG|(apply wR;simp -dsimp [hil])|refine aI ?_)
  refine vcStopG.call0 Tryz.body75 (fun _ => hrs) rfl (fun _ => rfl) (fun h => by simp at h) ?_
  simp -dsimp [hil]
  repeat(first|apply wG|(apply wR;simp -dsimp [hil])|refine aI ?_)
  refine cF (by simp) ?_
  refine WP.skip ?_
  simp -dsimp
  repeat(first|apply wG|(apply wR;simp -dsimp [hdrS, htkS, ht, htm, hset, lp])|refine aI ?_)
  have hR : (sgC x1).map AV.d ++ ((sgc p).map AV.d ++ (sgC []).map AV.d) = (sgC (insS p x)).map .d := by
   rw [hins, sgC_append, List.map_append, show sgC (p :: []) = sgc p ++ sgC [] from rfl, List.map_append]
  have hlen : x1.length + (1 + (x.length - x1.length)) = (insS p x).length := by rw [hins, hxl]; first | (simp; done) | (simp; omega)
  rw [hR, hlen]
  refine WP.ret (finQ.retWE (Wk.freeze (k := 51) (T := 70) (sz := 61) (n := (insS p x).length) (ds := sgC (insS p x)) (by simp)) ?_)
  simp -dsimp
 | cons s x2 =>
  have hil : x1.length < x.length := by simp at hxl; omega
  have h2 := sgc_at hil hx
  have hre2 : x[x1.length] = s := by simp [hx12]
  have hs := hx x[x1.length] (List.getElem_mem hil)
  have vs := vx x[x1.length] (List.getElem_mem hil)
  rw [hre2] at h2 hs vs
  have k57 := sgc_57 s
  have k57D := sgc_57D s
  have ls := sgc_len hs
  have hS2l : (sgC (s :: x2)).length = (x.length - x1.length) * 61 := by
   have hk2 : ∀ t ∈ s :: x2, sgOk t := fun t ht => hx t (by rw [hx12]; exact List.mem_append.2 (.inr ht))
   rw [sgC_len hk2, hxl, Nat.add_sub_cancel_left]
  have hbo := refCompare_ok s.1 p.1 hs.1 hp.1
  rw [refCmp_eq hs.1 hp.1] at hbo
  have hsa := refSame_ok s.1 p.1 hs.1 hp.1
  have hsz := cmp_zeroS vs vp
  repeat(first|apply wG|(apply wR;simp -dsimp [hil, h2, h57, h57D, k57, k57D, lp])|refine aI ?_)
  refine vcStopG.call0 Tryz.body105 (fun _ => hbo) rfl (fun _ => rfl) (fun _ => by simp [fD]) ?_
  simp -dsimp
  repeat(first|apply wG|(apply wR;simp -dsimp)|refine aI ?_)
  by_cases hb : cmpF s.1 p.1 < 0
  ·have e2 : IntKind.i64.wrap ((x1.length : Int) + 1) = ((x1 ++ [s]).length : Nat) := by rw [IntWalk.i64_in _ (by omega)]; simp
   refine cT (by simp [hb]) ?_
   refine WP.skip ?_
   simp -dsimp
   repeat(first|apply wG|(apply wR;simp -dsimp)|refine aI ?_)
   refine loopW.next (wiS x p (x1 ++ [s]).length) (Wk.lessE [] (by simp [e2]) (by simp)) x2.length (by simp) ⟨x1 ++ [s], x2, by simp [hx12], rfl, fun t ht => ?_, rfl⟩
   rcases List.mem_append.1 ht with ht | ht
   ·exact hbf t ht
   ·rw [List.mem_singleton.1 ht]; exact hb
  ·refine cF (by simp [hb]) ?_
   refine WP.exit ?_
   simp -dsimp
   repeat(first|apply wG|(apply wR;simp -dsimp [hil, h2, h57, h57D, k57, k57D, lp])|refine aI ?_)
   refine vcStopG.call0 Tryz.body75 (fun _ => hsa) rfl (fun _ => rfl) (fun _ => by simp [fD]) ?_
   simp -dsimp
   repeat(first|apply wG|(apply wR;simp -dsimp)|refine aI ?_)
   have his : isS p x = decide (cmpF s.1 p.1 = 0) := by
    rw [hx12, isS_split p x1 _ hbf, isS, posS_cons, if_neg hb]; rfl
   cases he : eqF s.1 p.1 with
   | true =>
    have hz : cmpF s.1 p.1 = 0 := hsz.2 ((eqF_iff hs.1 hp.1).1 he)
    have hins : insS p x = x := by rw [insS_pos, his, decide_eq_true hz]; rfl
    rw [wthR, his, hins, decide_eq_true hz]
    refine cT (by simp [he]) ?_
    repeat(first|apply wG|(apply wR;simp -dsimp)|refine aI ?_)
    refine WP.ret (finQ.retE ?_)
    simp -dsimp
   | false =>
    have hz : ¬ cmpF s.1 p.1 = 0 := fun h => by rw [(eqF_iff hs.1 hp.1).2 (hsz.1 h)] at he; cases he
    have hins : insS p x = x1 ++ p :: s :: x2 := by rw [hx12, insS_split p x1 _ hbf, insS, if_neg hb, if_neg hz]
    rw [wthR, his, decide_eq_false hz]
    refine cF (by simp [he]) ?_
    refine WP.skip ?_
    simp -dsimp
    repeat(first|apply wG|(apply wR;simp -dsimp [hdrS, htkS, ht, htm, hset, lp])|refine aI ?_)
    have hR : (sgC x1).map AV.d ++ ((sgc p).map AV.d ++ (sgC (s :: x2)).map AV.d) = (sgC (insS p x)).map .d := by
     rw [hins, sgC_append, List.map_append, show sgC (p :: (s :: x2)) = sgc p ++ sgC (s :: x2) from rfl, List.map_append]
    have hlen : x1.length + (1 + (x.length - x1.length)) = (insS p x).length := by rw [hins, hxl]; first | (simp; done) | (simp; omega)
    rw [hR, hlen]
    refine WP.ret (finQ.retWE (Wk.freeze (k := 51) (T := 70) (sz := 61) (n := (insS p x).length) (ds := sgC (insS p x)) (by simp)) ?_)
    simp -dsimp
theorem setS_snoc (l : List Sg) (p : Sg) : setS (l ++ [p]) = insS p (setS l) := by rw [setS, List.foldl_append]; rfl
theorem vfy_valid {l : List Crw} {p : Sg} (hf : fOk p.1) (hT : sgT p) (h : vfyS l p = 0) : svOk p := by
 obtain ⟨k, op, cl, pa, e, hg⟩ := hT
 rw [vfyS_eq e hg] at h
 refine ⟨hf, ?_⟩
 unfold vfyE at h
 split at h
 ·split at h
  ·assumption
  ·cases h
 ·cases h
abbrev nwS (x : List Sg) (b : Bool) (S : List Sg) (i : Nat) : St := mkS 45 [(1, .d (sgD x b)), (4, .ptr 4 0), (8, .d (sgD S false)), (9, .d (.v (.int .i64 i)))] [(4, .cells 25 [.d (.v (.slice none 0 0))])]
theorem refNew14_ok (l : List Crw) (hl : ∀ c ∈ l, crOk c) (hn : l.length ≤ 1000000000000) (x : List Sg) (b : Bool) (hx : ∀ p ∈ x, fOk p.1 ∧ sgT p) (hxn : x.length ≤ 900) : Fn0 Tryz.prog 19 [crwD l, sgD x b] (lgR (newR l x)) := by
 have h34 := refCrews_ok l hl hn
 have h60 := refVerified_ok l hl hn x b hx (by omega)
 have hxo : ∀ q ∈ x, sgOk q := fun q hq => sgT_ok (hx q hq).1 (hx q hq).2
 rw [newR, verL]
 refine Fun.of_wp (pn := noPn) Tryz.tab Tryz.func19 rfl fun β0 => ?_
 simp only [Tryz.f19]
 repeat(first|apply wG|(apply wR;simp -dsimp [crwD])|refine aI ?_)
 refine vcStop.call0L Tryz.body34 h34 rfl rfl (And.intro (by simp [crwD]) trivial) ?_
 simp -dsimp
 repeat(first|apply wG|(apply wR;simp -dsimp)|refine aI ?_)
 by_cases hc : crB l = true
 ·rw [if_pos hc]
  refine cF (by simp [hc]) ?_
  refine WP.skip ?_
  simp -dsimp
  repeat(first|apply wG|(apply wR;simp -dsimp [crwD])|refine aI ?_)
  refine vcStop.call0L Tryz.body60 h60 rfl rfl (And.intro (by simp [crwD]) (And.intro (.refl _) trivial)) ?_
  simp -dsimp
  repeat(first|apply wG|(apply wR;simp -dsimp)|refine aI ?_)
  by_cases hv : vfyL l x = 0
  ·rw [if_pos hv]
   have hva : ∀ p ∈ x, svOk p := fun p hp => vfy_valid (hx p hp).1 (hx p hp).2 ((vfyL_iff l x).1 hv p hp)
   refine cF (by simp [hv]) ?_
   refine WP.skip ?_
   simp -dsimp
   repeat(first|apply wG|(apply wR;simp -dsimp)|refine aI ?_)
   refine WP.loopWk (fun m Z => ∃ x1 x2, x = x1 ++ x2 ∧ m = x2.length ∧ Z = nwS x b (setS x1) x1.length) x.length (S0 := nwS x b [] 0) ((Wk.lessE [] (S' := mkS 45 [(1, .d (sgD x b)), (4, .ptr 4 0), (8, .row 23), (9, .d (.v (.int .i64 0)))] [(4, .cells 25 [.d (.v (.slice none 0 0))]), (23, .row 70 61 0 [])]) (by simp) (by simp)).trans ((Wk.freeze (k := 23) (T := 70) (sz := 61) (n := 0) (ds := []) (by simp)).trans (Wk.lessE [] (by simp [sgC]) (by simp)))) ⟨[], x, rfl, rfl, rfl⟩ ?_
   rintro _ _ ⟨x1, x2, hx12, rfl, rfl⟩
   have hle := setS_len x1 []
   rw [show x1.foldl (fun a s => insS s a) [] = setS x1 from rfl] at hle
   simp only [List.length_nil, Nat.zero_add] at hle
   have hxl : x.length = x1.length + x2.length := by rw [hx12]; simp
   simp -dsimp
   repeat(first|apply wG|(apply wR;simp -dsimp)|refine aI ?_)
   cases x2 with
   | nil =>
    simp only [List.append_nil] at hx12
    subst hx12
    refine cF (by simp) ?_
    refine WP.exit ?_
    simp -dsimp
    repeat(first|apply wG|(apply wR;simp -dsimp)|refine aI ?_)
    refine cF (by simp; omega) ?_
    refine WP.skip ?_
    simp -dsimp
    repeat(first|apply wG|(apply wR;simp -dsimp)|refine aI ?_)
    refine WP.ret (finQ.retE ?_)
    simp -dsimp [lgR]
   | cons p x2 =>
    have hlt : x1.length < x.length := by simp at hxl; omega
    have hp := hx p (by rw [hx12]; simp)
    have hpo := sgT_ok hp.1 hp.2
    have hat := sgc_at hlt hxo
    have hpe : x[x1.length] = p := by simp [hx12]
    rw [hpe] at hat
    have lc := sgC_len hxo
    have lp := sgc_len hpo
    have tp := sgc_t hpo
    have tm := sgc_tm hpo
    have hm := (setS_ok x1 [] (fun s hs => hva s (by rw [hx12]; simp [hs])) (fun s hs => by cases hs) List.Pairwise.nil).2.1
    rw [show x1.foldl (fun a s => insS s a) [] = setS x1 from rfl] at hm
    have hmx : ∀ s ∈ setS x1, s ∈ x := fun s hs => by
     rcases hm s hs with h | h
     ·cases h
     ·rw [hx12]; simp [h]
    have hw := with_ok (setS x1) p (fun s hs => hxo s (hmx s hs)) hpo (fun s hs => hva s (hmx s hs)) (hva p (by rw [hx12]; simp)) (by omega)
    have hsn := setS_snoc x1 p
    have e1 : IntKind.i64.wrap ((x1.length : Int) + 1) = ((x1 ++ [p]).length : Nat) := by rw [IntWalk.i64_in _ (by omega)]; simp
    rw [wthR, ← hsn] at hw
    generalize setS x1 = S at *
    generalize isS p S = c at *
    refine cT (by simp; omega) ?_
    refine WP.skip ?_
    simp -dsimp
    repeat(first|apply wG|(apply wR;simp -dsimp [hat, lp, tp, tm])|refine aI ?_)
    refine vcStop.call0L Tryz.body61 hw rfl rfl (And.intro (.refl _) (And.intro (by simp [tm, tp, sgV]; try exact Leq.aggD _) trivial)) ?_
    simp -dsimp
    repeat(first|apply wG|(apply wR;simp -dsimp)|refine aI ?_)
    refine loopW.next (nwS x b (setS (x1 ++ [p])) (x1 ++ [p]).length) (Wk.lessE [] (by simp [e1]) (by simp)) x2.length (by simp) ⟨x1 ++ [p], x2, by simp [hx12], rfl, rfl⟩
  ·rw [if_neg hv]
   refine cT (by simp [hv]) ?_
   repeat(first|apply wG|(apply wR;simp -dsimp)|refine aI ?_)
   refine WP.ret (finQ.retE ?_)
   simp -dsimp [lgR, show sgC [] = [] from rfl]
 ·rw [if_neg hc]
  refine cT (by simp [hc]) ?_
  repeat(first|apply wG|(apply wR;simp -dsimp)|refine aI ?_)
  refine WP.ret (finQ.retE ?_)
  simp -dsimp [hc, lgR, show sgC [] = [] from rfl]
abbrev sfS (x : List Sg) (i : Nat) : St := mkS 29 [(0, .d (sgD x false)), (1, .d (sgD x false)), (5, .d (.v (.int .i64 i)))] []
theorem sameFacts_ok (x : List Sg) (hxo : ∀ q ∈ x, sgOk q) (hxn : x.length ≤ 1000000000000) : Fn0 Tryz.prog 62 [sgD x false, sgD x false] (.v (.bool true)) := by
 refine Fun.of_wp (pn := noPn) Tryz.tab Tryz.func62 rfl fun β0 => ?_
 simp only [Tryz.f62]
 repeat(first|apply wG|(apply wR;simp -dsimp)|refine aI ?_)
 refine cF (by simp) ?_
 refine WP.skip ?_
 simp -dsimp
 repeat(first|apply wG|(apply wR;simp -dsimp)|refine aI ?_)
 refine WP.loopWk (fun m S => ∃ i : Nat, m = x.length - i ∧ i ≤ x.length ∧ S = sfS x i) x.length (S0 := sfS x 0) (Wk.lessE [] (by simp) (by simp)) ⟨0, rfl, by omega, rfl⟩ ?_
 rintro _ _ ⟨i, rfl, hi, rfl⟩
 simp -dsimp
 repeat(first|apply wG|(apply wR;simp -dsimp)|refine aI ?_)
 by_cases hil : i < x.length
 ·have a1 := sgc_at hil hxo
  have o1 := hxo _ (List.getElem_mem hil)
  generalize x[i] = q at *
  have lc := sgC_len hxo
  have lq := sgc_len o1
  have q57 := sgc_57 q
  have q57D := sgc_57D q
  have e1 : IntKind.i64.wrap ((i : Int) + 1) = ((i + 1 : Nat) : Int) := by rw [IntWalk.i64_in _ (by omega)]; omega
  have hsa := refSame_ok q.1 q.1 o1.1 o1.1
  rw [(eqF_iff o1.1 o1.1).2 rfl] at hsa
  refine cT (by simp; omega) ?_
  refine WP.skip ?_
  simp -dsimp
  repeat(first|apply wG|(apply wR;simp -dsimp [a1, q57, q57D, lq, hil])|refine aI ?_)
  refine vcStop.call0L Tryz.body75 hsa rfl rfl (And.intro (by simp [fD]; try exact Leq.aggD _) (And.intro (by simp [fD]; try exact Leq.aggD _) trivial)) ?_
  simp -dsimp
  repeat(first|apply wG|(apply wR;simp -dsimp)|refine aI ?_)
  refine cF (by simp) ?_
  refine WP.skip ?_
  simp -dsimp
  repeat(first|apply wG|(apply wR;simp -dsimp)|refine aI ?_)
  refine loopW.next (sfS x (i + 1)) (Wk.lessE [] (by simp [e1]) (by simp)) (x.length - (i + 1)) (by omega) ⟨i + 1, rfl, by omega, rfl⟩
 ·refine cF (by simp; omega) ?_
  refine WP.exit ?_
  simp -dsimp
  repeat(first|apply wG|(apply wR;simp -dsimp)|refine aI ?_)
  refine WP.ret (finQ.retE ?_)
  simp -dsimp
abbrev slS (x : List Sg) (i : Nat) : St := mkS 31 [(2, .ptr 2 0), (3, .ptr 3 0), (5, .d (.v (.int .i64 i)))] [(2, .cells 25 [.d (sgD x false)]), (3, .cells 25 [.d (sgD x false)])]
theorem sameLg_ok (x : List Sg) (hx : ∀ p ∈ x, fOk p.1 ∧ sgT p) (hxn : x.length ≤ 1000000000000) : Fn0 Tryz.prog 20 [lgD x false, lgD x false] (.v (.bool true)) := by
 have hxo : ∀ q ∈ x, sgOk q := fun q hq => sgT_ok (hx q hq).1 (hx q hq).2
 have hsf := sameFacts_ok x hxo hxn
 refine Fun.of_wp (pn := noPn) Tryz.tab Tryz.func20 rfl fun β0 => ?_
 simp only [Tryz.f20]
 repeat(first|apply wG|(apply wR;simp -dsimp)|refine aI ?_)
 refine vcStop.call0L Tryz.body62 hsf rfl rfl (And.intro (.refl _) (And.intro (.refl _) trivial)) ?_
 simp -dsimp
 repeat(first|apply wG|(apply wR;simp -dsimp)|refine aI ?_)
 refine cF (by simp) ?_
 refine WP.skip ?_
 simp -dsimp
 repeat(first|apply wG|(apply wR;simp -dsimp)|refine aI ?_)
 refine WP.loopWk (fun m S => ∃ i : Nat, m = x.length - i ∧ i ≤ x.length ∧ S = slS x i) x.length (S0 := slS x 0) (Wk.lessE [] (by simp) (by simp)) ⟨0, rfl, by omega, rfl⟩ ?_
 rintro _ _ ⟨i, rfl, hi, rfl⟩
 simp -dsimp
 repeat(first|apply wG|(apply wR;simp -dsimp)|refine aI ?_)
 by_cases hil : i < x.length
 ·have a1 := sgc_at hil hxo
  have o1 := hxo _ (List.getElem_mem hil)
  obtain ⟨r, hr, hrt⟩ := sameSgU_ok x[i] x[i] o1 o1 (hx _ (List.getElem_mem hil)).2 (hx _ (List.getElem_mem hil)).2
  rw [hrt rfl] at hr
  clear hrt
  generalize x[i] = q at *
  have lc := sgC_len hxo
  have lq := sgc_len o1
  have tq := sgc_t o1
  have tm := sgc_tm o1
  have e1 : IntKind.i64.wrap ((i : Int) + 1) = ((i + 1 : Nat) : Int) := by rw [IntWalk.i64_in _ (by omega)]; omega
  refine cT (by simp; omega) ?_
  refine WP.skip ?_
  simp -dsimp
  repeat(first|apply wG|(apply wR;simp -dsimp [a1, tq, tm, lq, hil])|refine aI ?_)
  refine vcStop.call0L Tryz.body31 hr rfl rfl (And.intro (by simp [tm, tq, sgV]; try exact Leq.aggD _) (And.intro (by simp [tm, tq, sgV]; try exact Leq.aggD _) trivial)) ?_
  simp -dsimp
  repeat(first|apply wG|(apply wR;simp -dsimp)|refine aI ?_)
  refine cF (by simp) ?_
  refine WP.skip ?_
  simp -dsimp
  repeat(first|apply wG|(apply wR;simp -dsimp)|refine aI ?_)
  refine loopW.next (slS x (i + 1)) (Wk.lessE [] (by simp [e1]) (by simp)) (x.length - (i + 1)) (by omega) ⟨i + 1, rfl, by omega, rfl⟩
 ·refine cF (by simp; omega) ?_
  refine WP.exit ?_
  simp -dsimp
  repeat(first|apply wG|(apply wR;simp -dsimp)|refine aI ?_)
  refine WP.ret (finQ.retE ?_)
  simp -dsimp
end Go.Proofs.YtnljenjcaeophaaGreatDoor
namespace Go.Proofs.YtnljenjcaeophaaGreatDoor
open Go.Xe Go.RowKit
theorem insS_subW {s : Sg} : ∀ {l : List Sg} {t : Sg}, t ∈ insS s l → t = s ∨ t ∈ l := fun {l t} h => by
 rw [insS_pos] at h
 split at h
 ·exact .inr h
 ·rcases List.mem_append.1 h with h | h
  ·exact .inr (List.mem_of_mem_take h)
  ·rcases List.mem_cons.1 h with h | h
   ·exact .inl h
   ·exact .inr (List.mem_of_mem_drop h)
theorem newR_sub {l : List Crw} {x : List Sg} : ∀ p ∈ (newR l x).1, p ∈ x := fun p hp => by
 rw [newR] at hp
 split at hp
 ·have key : ∀ (l a : List Sg), ∀ p ∈ l.foldl (fun a s => insS s a) a, p ∈ a ∨ p ∈ l := fun l => by
   induction l with
   | nil => exact fun a p h => .inl h
   | cons s l ih =>
    intro a p h
    rcases ih (insS s a) p h with h | h
    ·rcases insS_subW h with rfl | h
     ·exact .inr (by simp)
     ·exact .inl h
    ·exact .inr (by simp [h])
  rcases key x [] p hp with h | h
  ·cases h
  ·exact h
 ·cases hp
theorem newR_len {l : List Crw} {x : List Sg} : (newR l x).1.length ≤ x.length := by
 rw [newR]
 split
 ·have h := setS_len x []
  rw [show x.foldl (fun a s => insS s a) [] = setS x from rfl] at h
  simpa using h
 ·exact Nat.zero_le _
set_option maxHeartbeats 2000000 in
theorem law_new (l : List Crw) (hl : ∀ c ∈ l, crOk c) (hn : l.length ≤ 10000000000000) (x : List Sg) (hx : ∀ p ∈ x, fOk p.1 ∧ sgT p) : Fn0 Tryz.prog 4 [crwD l, sgD x false] (.v (.bool true)) := by
 refine Fun.of_wp (pn := noPn) Tryz.tab Tryz.func4 rfl fun β0 => ?_
 simp only [Tryz.f4]
 repeat(first|apply wG|(apply wR;simp -dsimp [crwD])|refine aI ?_)
 refine vcStop.call0 Tryz.body17 sane_ok rfl rfl (by simp) ?_
 simp -dsimp
 repeat(first|apply wG|(apply wR;simp -dsimp)|refine aI ?_)
 refine cF (by simp) ?_
 refine WP.skip ?_
 simp -dsimp
 repeat(first|apply wG|(apply wR;simp -dsimp)|refine aI ?_)
 by_cases hbig : 40 < l.length ∨ 3 < x.length
 ·refine cT (by simp; omega) ?_
  repeat(first|apply wG|(apply wR;simp -dsimp)|refine aI ?_)
  refine WP.ret (finQ.retE ?_)
  simp -dsimp
 ·have h18 := new_ok l hl (by omega) x false hx (by omega)
  have h19 := refNew14_ok l hl (by omega) x false hx (by omega)
  have h20 := sameLg_ok (newR l x).1 (fun p hp => hx p (newR_sub p hp)) (Nat.le_trans newR_len (by omega))
  have h21 := ledgerCheck_ok l hl (by omega) x false hx (by omega)
  have h22 := refCheck14_ok l hl (by omega) x false hx (by omega)
  generalize newR l x = R at *
  generalize lchk l x = c at *
  rw [lgR] at h18 h19
  refine cF (by simp; omega) ?_
  refine WP.skip ?_
  simp -dsimp
  repeat(first|apply wG|(apply wR;simp -dsimp [crwD])|refine aI ?_)
  refine vcStop.call0L Tryz.body18 h18 rfl rfl (And.intro (by simp [crwD]) (And.intro (.refl _) trivial)) ?_
  simp -dsimp
  repeat(first|apply wG|(apply wR;simp -dsimp [crwD])|refine aI ?_)
  refine vcStop.call0L Tryz.body19 h19 rfl rfl (And.intro (by simp [crwD]) (And.intro (.refl _) trivial)) ?_
  simp -dsimp
  repeat(first|apply wG|(apply wR;simp -dsimp)|refine aI ?_)
  refine vcStop.call0L Tryz.body20 h20 rfl rfl (And.intro (Leq.aggD [sgD R.1 false]) (And.intro (Leq.aggD [sgD R.1 false]) trivial)) ?_
  simp -dsimp
  repeat(first|apply wG|(apply wR;simp -dsimp [crwD])|refine aI ?_)
  refine vcStopG.call0L Tryz.body21 (fun _ => h21) rfl (fun _ => rfl) (fun _ => And.intro (by simp [crwD]) (And.intro (Leq.aggD [sgD x false]) trivial)) ?_
  simp -dsimp
  repeat(first|apply wG|(apply wR;simp -dsimp [crwD])|refine aI ?_)
  refine vcStopG.call0L Tryz.body22 (fun _ => h22) rfl (fun _ => rfl) (fun _ => And.intro (by simp [crwD]) (And.intro (Leq.aggD [sgD x false]) trivial)) ?_
  simp -dsimp
  repeat(first|apply wG|(apply wR;simp -dsimp)|refine aI ?_)
  refine WP.ret (finQ.retE ?_)
  simp -dsimp
end Go.Proofs.YtnljenjcaeophaaGreatDoor
